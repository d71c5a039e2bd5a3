/-
  dom.Build: the tree of tokens.
-/
import Derived.Test.YtidicfdcjoggpaaDomPure
import Derived.Deep.CutBlock
import Derived.Deep.DeepCutAuto
namespace Go.Proofs.Ytidicfdcjoggpaa
open Go.RowKit
set_option linter.unusedVariables false
set_option linter.unusedSimpArgs false
attribute [local go_sem] World.cell?_alloc_some
def BuildPost (w : World) (r : Option (List Node)) (e : Ending) (w' : World) : Prop :=
  match r with
  | none => e = .returned (.tuple #[.slice none 0 0, .int .i64 5])
  | some ns => ∃ v, e = .returned (.tuple #[v, .int .i64 0]) ∧ SliceIs w' (fun b => w.heap.size ≤ b ∧ b < w'.heap.size) v ns
def textsSize (l : List Token) : Nat := (l.map (·.text.size)).sum
theorem start_state (w : World) : BldS ((w.alloc (.cells #[.string ByteArray.empty, .slice none 0 0, .string ByteArray.empty, .slice none 0 0, .string ByteArray.empty] 49)).alloc (.cells #[.slice (some ⟨w.heap.size, 0, none⟩) 1 1, .int .i64 0, .bool false] 52)) w.heap.size (w.heap.size + 1) [rootEl] 0 false := by
  refine ⟨w.heap.size, 1, [⟨rootEl, .slice none 0 0, .slice none 0 0⟩], ⟨?_, Nat.le_succ _, ?_, by omega, ?_, by simp⟩, rfl⟩
  · exact heap_alloc_at (by simp)
  · have hh : ((w.alloc (.cells #[.string ByteArray.empty, .slice none 0 0, .string ByteArray.empty, .slice none 0 0, .string ByteArray.empty] 49)).alloc (.cells #[.slice (some ⟨w.heap.size, 0, none⟩) 1 1, .int .i64 0, .bool false] 52)).heap[w.heap.size]? = some (.cells #[.string ByteArray.empty, .slice none 0 0, .string ByteArray.empty, .slice none 0 0, .string ByteArray.empty] 49 (0, 0)) := by
      rw [Below.heap_alloc _ _ _ (by simp)]
      exact heap_alloc_at rfl
    exact ⟨rfl, .inr ⟨w.heap.size, 1, _, rfl, Nat.le_refl _, hh, Nat.le_refl _, by unfold maxLen; simp, rfl, rfl⟩⟩
  · intro x hx
    simp at hx; subst hx
    exact ⟨SliceIs.nil _ _, Mine.nil _ _ _ _, by simp [Value.ownBlock], by simp [Value.ownBlock]⟩
theorem Inv.start : Inv [rootEl] 0 0 := ⟨by simp, by omega, by omega, by simp [szs, rootEl], by simp [lastSize, rootEl]⟩
theorem BldS.cell2 {w : World} {B bb : Nat} {st : List El} {many : Int} {over : Bool} (h : BldS w B bb st many over) : w.cell? ⟨bb, 2, none⟩ = some (.bool over) := by
  obtain ⟨ob, cap, gs, h1, rfl⟩ := h
  rw [cell_of_row w bb _ _ _ _ h1.blk]; rfl
def LoopB (w : World) (l : List Token) (kq k : Nat) (wr : World) : Prop :=
  k + kq = l.length ∧ ∃ st many, BldS wr w.heap.size (w.heap.size + 1) st many false ∧ Inv st many (textsSize (l.take k)) ∧ buildL (l.drop k) st many = buildL l [rootEl] 0 ∧ Below w.heap.size w wr
theorem texts_take (l : List Token) (k : Nat) (h : k < l.length) : textsSize (l.take (k + 1)) = textsSize (l.take k) + l[k].text.size := by
  simp only [textsSize]; rw [List.take_succ_eq_append_getElem h, List.map_append, List.sum_append]; simp
theorem texts_le (l : List Token) (k : Nat) : textsSize (l.take k) ≤ textsSize l := by
  have h := List.take_append_drop k l
  have : textsSize l = textsSize (l.take k) + textsSize (l.drop k) := by
    unfold textsSize
    rw [← List.sum_append, ← List.map_append, h]
  omega
/-- The end: all are closed, and the tree is what the first one has. -/
def EndB (w : World) (kq : Nat) (F : List El) (wr : World) : Prop :=
  ∃ st many, BldS wr w.heap.size (w.heap.size + 1) st many false ∧ szs st ≤ 9000 ∧ st.length = kq + 1 ∧ shutN kq st = F ∧ Below w.heap.size w wr
theorem BldS.one {w : World} {B bb : Nat} {e : El} {many : Int} {over : Bool} (h : BldS w B bb [e] many over) : ∃ ob cap A c, w.cell? ⟨bb, 0, none⟩ = some (.slice (some ⟨ob, 0, none⟩) 1 cap) ∧ w.cell? ⟨ob, 3, none⟩ = some (.slice A e.kids.length c) ∧ SliceIs w (fun b => B ≤ b ∧ b < w.heap.size) (.slice A e.kids.length c) e.kids := by
  obtain ⟨ob, cap, gs, h1, he⟩ := h
  obtain ⟨g, rfl⟩ : ∃ g, gs = [g] := by
    match gs, he with
    | [g], _ => exact ⟨g, rfl⟩
    | a :: b :: r, he => have := congrArg List.length he; simp at this
  simp at he
  subst he
  obtain ⟨cur, hcur, hBo, hnc, hcm, hcs, htake⟩ := h1.cur
  have hd := h1.dat g (by simp)
  obtain ⟨A, c, hkv⟩ := hd.2.1.shape
  refine ⟨ob, cap, A, c, by rw [cell_of_row w bb _ _ _ _ h1.blk]; rfl, ?_, ?_⟩
  · rw [cell_of_row w ob _ _ _ _ hcur]
    have := h1.get htake (i := 0) (by simp) (j := 3) (u := g.kv) (by simp [Gh.cells])
    simpa [hkv] using this
  · have := hd.2.1.slice
    rw [hkv] at this
    refine this.frame (Same.refl _ _) (fun b hb => ?_)
    rcases hb with hb | hb
    · exact ⟨hb.1, hb.2.1⟩
    · have := own_lt hd.2.1.choose_spec.1 (k := b) (by rw [hkv]; exact hb); exact ⟨this.1, this.2.1⟩
set_option maxHeartbeats 4000000 in
theorem build_any (w : World) (v : Value) (l : List Token) (hv : SliceIs w (fun b => b < w.heap.size) v l) (hl : l.length ≤ 1000000) (hal : ∀ t ∈ l, t.attrs.length ≤ 1000000) (hts : textsSize l ≤ 900000) :
    Calls Try.prog 14 #[v] w fun e w' => BuildPost w (build l) e w' ∧ Below w.heap.size w w' := by
  obtain ⟨A, c, rfl, -⟩ := hv.shape
  have HV := Lib.hid hv
  have HAL := Lib.hid hal
  clear hv hal
  go_enter Try.func14, Try.ntmps14
  go_wp2
  go_loopg [13] l.length (fun kq v13 wr => ∃ k : Nat, v13 = .int .i64 k ∧ Hid (LoopB w l kq k wr))
  case atStart => exact ⟨0, rfl, by omega, _, _, start_state w, Inv.start, rfl, ((Below.refl _ _).alloc (Nat.le_refl _) _).alloc (by simp) _⟩
  case round =>
    obtain ⟨k, rfl, hrel⟩ := hrel
    obtain ⟨hk, st, many, hst, hinv, hbl, hB⟩ := hrel.out
    have HST := Lib.hid hst; have HI := Lib.hid hinv; have HBL := Lib.hid hbl; have HB := Lib.hid hB; have HK := Lib.hid hk
    clear hrel hst hinv hbl hB hk
    cases gk with
    | zero =>
      have hlt : ¬ k < l.length := by have := HK.out; omega
      go_upto_region 15 with fail
      have hbuild : build l = some (rootKids (shutN (st.length - 1) st)) := by
        have h1 := HBL.out
        rw [List.drop_eq_nil_of_le (by omega), buildL] at h1
        unfold build
        rw [← h1]; rfl
      have HBD := Lib.hid hbuild
      have hs0 : st.length - 1 + 1 = st.length := by have := HI.out.pos; omega
      have hsz : szs st ≤ 9000 := by have := HI.out.siz; have := HI.out.hi; omega
      have HS0 := Lib.hid hs0
      clear hbuild hs0
      go_loopg [] (st.length - 1) (fun kq wx => Hid (EndB w kq (shutN (st.length - 1) st) wx))
      case atStart => exact ⟨st, many, HST.out, hsz, HS0.out.symm, rfl, HB.out⟩
      case round =>
        obtain ⟨s2, m2, h2, hz2, hl2, hF, hB2⟩ := hrel.out
        clear hrel HST HI HBL HB HK HS0 hsz
        cases gk with
        | zero =>
          obtain ⟨e, rfl⟩ : ∃ e, s2 = [e] := by
            match s2, hl2 with
            | [e], _ => exact ⟨e, rfl⟩
          obtain ⟨ob, cap, A2, c2, y0, y3, hsl⟩ := h2.one
          have HSL := Lib.hid hsl; have HF2 := Lib.hid hF; have HB2 := Lib.hid hB2
          clear hsl hF hB2 hl2 h2 hz2
          go_wp2
          go_ret2
          refine ⟨?_, HB2.out⟩
          rw [HBD.out, ← HF2.out]
          exact ⟨_, rfl, HSL.out⟩
        | succ k1 =>
          obtain ⟨t, u, s', rfl⟩ : ∃ t u s', s2 = t :: u :: s' := by
            match s2, hl2 with
            | t :: u :: s', _ => exact ⟨t, u, s', rfl⟩
          obtain ⟨ob, cap, y0⟩ := h2.open_
          rw [hl2] at y0
          have H2 := Lib.hid h2; have HF2 := Lib.hid hF; have HB2 := Lib.hid hB2; have HL2 := Lib.hid hl2
          clear hF hB2 hl2 h2
          go_wp2_with (go_at_call 30; refine (shut_any H2.out (by omega)).mono ?_; rintro e w2 ⟨rfl, h3, hb3⟩; have H3 := Lib.hid h3; have HB3 := Lib.hid hb3; clear h3 hb3)
          go_roundg k1
          case measure => omega
          case rel => exact ⟨_, _, H3.out, Nat.le_trans (szs_shut _) hz2, by have := HL2.out; simp [shutP] at this ⊢; omega, HF2.out, HB2.out.trans HB3.out⟩
    | succ k1 =>
      have hlt : k < l.length := by have := HK.out; omega
      obtain ⟨b, o, c', cs, e, -, -, -, ht, hcell⟩ := (HV.out.frame (w' := wr) (fun b hb => HB.out.block b hb) (fun _ h => h)).at_ hlt
      simp only [Value.slice.injEq, true_and] at e
      obtain ⟨rfl, -⟩ := e
      obtain ⟨t, htk⟩ : ∃ t, t = l[k] := ⟨_, rfl⟩
      rw [← htk] at ht
      obtain ⟨va, rfl, hva⟩ := ht
      obtain ⟨Av, cv, rfl, -⟩ := hva.shape
      have x0 : wr.cell? ⟨b, o + k * 5, none⟩ = some (.int .i64 t.kind) := by have := hcell 0 _ rfl; simpa [Rep.sz] using this
      have x1 : wr.cell? ⟨b, o + k * 5 + 1, none⟩ = some (.string t.name) := by have := hcell 1 _ rfl; simpa [Rep.sz] using this
      have x2 : wr.cell? ⟨b, o + k * 5 + 2, none⟩ = some (.slice Av t.attrs.length cv) := by have := hcell 2 _ rfl; simpa [Rep.sz] using this
      have x3 : wr.cell? ⟨b, o + k * 5 + 3, none⟩ = some (.bool t.closed) := by have := hcell 3 _ rfl; simpa [Rep.sz] using this
      have x4 : wr.cell? ⟨b, o + k * 5 + 4, none⟩ = some (.string t.text) := by have := hcell 4 _ rfl; simpa [Rep.sz] using this
      have hi1 : (0 : Int) ≤ (k : Int) := by omega
      have hi2 : (k : Int) < (l.length : Int) := by omega
      have HVA := Lib.hid hva; have HTK := Lib.hid htk
      clear hcell hva htk
      have hsz : szs st ≤ 7000 := by have := HI.out.siz; have := HI.out.hi; omega
      have hm0 := HI.out.lo
      have hm1 : many ≤ 9000 := by have := HI.out.hi; omega
      have hsp := HI.out.pos
      have hta : t.attrs.length ≤ 1000000 := by rw [HTK.out]; exact HAL.out _ (List.getElem_mem hlt)
      have hBw : Hid (w.heap.size ≤ wr.heap.size) := HB.out.size
      have hend : ∀ W W', Upd None wr W → Below w.heap.size W W' → Below w.heap.size w W' := fun W W' h1 h2 => HB.out.trans (((h1.mono (N := fun b => w.heap.size ≤ b) (fun _ _ h => h.elim)).belowB hBw.out).trans h2)
      have HE := Lib.hid hend
      clear hend
      go_upto_block 2 with fail
      go_cut [] (fun wx => Hid (Now wx w.heap.size (w.heap.size + 1) (stepS t st many) ∧ Below w.heap.size w wx))
      case first =>
        by_cases k1 : t.kind = 1
        · have e1 : (t.kind == 1) = true := beq_iff_eq.2 k1
          have hst : stepS t st many = textS t.text st many := by unfold stepS; rw [if_pos k1]
          obtain ⟨a, r, rfl⟩ : ∃ a r, st = a :: r := by cases st with | nil => simp at hsp | cons a r => exact ⟨a, r, rfl⟩
          have hts1 : lastSize a + t.text.size ≤ 1000000 := by
            have h1 := HI.out.txt a (by simp)
            have h2 := texts_le l (k + 1)
            rw [texts_take l k hlt, ← HTK.out] at h2
            omega
          have HS := Lib.hid hst
          have HK1 := Lib.hid k1
          clear k1 hst
          go_wp2_with (go_at_call 27; refine (text_any _ (HST.out.keep (by repeat (first | with_reducible exact Upd.refl _ _ | (with_reducible refine Upd.drewN ?_ _) | (with_reducible refine Upd.drew ?_) | (with_reducible refine Upd.alloc ?_ _)))) (by omega) hm0 hm1 hts1).mono ?_; rintro e w2 ⟨rfl, h3, hb3⟩; have H3 := Lib.hid h3; have HB3 := Lib.hid hb3; clear h3 hb3)
          go_meet
          case rel => exact ⟨by rw [HS.out]; exact H3.out, HE.out _ _ (by repeat (first | with_reducible exact Upd.refl _ _ | (with_reducible refine Upd.drewN ?_ _) | (with_reducible refine Upd.drew ?_) | (with_reducible refine Upd.alloc ?_ _))) HB3.out⟩
        · have e1 : (t.kind == 1) = false := beq_eq_false_iff_ne.2 k1
          by_cases k2 : t.kind = 2
          · have e2 : (t.kind == 2) = true := beq_iff_eq.2 k2
            have hst : stepS t st many = ⟨startP t.name t.attrs st, many + 1, overP (startP t.name t.attrs st) (many + 1)⟩ := by unfold stepS; rw [if_neg k1, if_pos k2]
            have HS := Lib.hid hst
            have HK1 := Lib.hid (And.intro k1 k2)
            clear k1 k2 hst
            go_wp2_with (go_at_call 28; refine (start_any _ t.attrs _ (HST.out.keep (by repeat (first | with_reducible exact Upd.refl _ _ | (with_reducible refine Upd.drewN ?_ _) | (with_reducible refine Upd.drew ?_) | (with_reducible refine Upd.alloc ?_ _)))) hsp (by omega) hm0 hm1 (HVA.out.frame (fun b hb => (Upd.block (M := None) (by repeat (first | with_reducible exact Upd.refl _ _ | (with_reducible refine Upd.drewN ?_ _) | (with_reducible refine Upd.drew ?_) | (with_reducible refine Upd.alloc ?_ _))) b (Nat.lt_of_lt_of_le hb hBw.out) id)) (fun _ h => h)) hta).mono ?_; rintro e w2 ⟨rfl, h3, hb3⟩; have H3 := Lib.hid h3; have HB3 := Lib.hid hb3; clear h3 hb3)
            go_meet
            case rel => exact ⟨by rw [HS.out]; exact H3.out, HE.out _ _ (by repeat (first | with_reducible exact Upd.refl _ _ | (with_reducible refine Upd.drewN ?_ _) | (with_reducible refine Upd.drew ?_) | (with_reducible refine Upd.alloc ?_ _))) HB3.out⟩
          · have e2 : (t.kind == 2) = false := beq_eq_false_iff_ne.2 k2
            by_cases k3 : t.kind = 3
            · have e3 : (t.kind == 3) = true := beq_iff_eq.2 k3
              have hst : stepS t st many = endS t.name st many := by unfold stepS; rw [if_neg k1, if_neg k2, if_pos k3]
              have HS := Lib.hid hst
              have HK1 := Lib.hid (And.intro k1 (And.intro k2 k3))
              clear k1 k2 k3 hst
              go_wp2_with (go_at_call 29; refine (end_any _ (HST.out.keep (by repeat (first | with_reducible exact Upd.refl _ _ | (with_reducible refine Upd.drewN ?_ _) | (with_reducible refine Upd.drew ?_) | (with_reducible refine Upd.alloc ?_ _)))) hsp (by omega) hm0 hm1).mono ?_; rintro e w2 ⟨rfl, h3, hb3⟩; have H3 := Lib.hid h3; have HB3 := Lib.hid hb3; clear h3 hb3)
              go_meet
              case rel => exact ⟨by rw [HS.out]; exact H3.out, HE.out _ _ (by repeat (first | with_reducible exact Upd.refl _ _ | (with_reducible refine Upd.drewN ?_ _) | (with_reducible refine Upd.drew ?_) | (with_reducible refine Upd.alloc ?_ _))) HB3.out⟩
            · have e3 : (t.kind == 3) = false := beq_eq_false_iff_ne.2 k3
              have hst : stepS t st many = ⟨st, many, false⟩ := by unfold stepS; rw [if_neg k1, if_neg k2, if_neg k3]
              have HS := Lib.hid hst
              have HK1 := Lib.hid (And.intro k1 (And.intro k2 k3))
              clear k1 k2 k3 hst
              go_wp2_with fail
              go_meet
              case rel => exact ⟨by rw [HS.out]; exact HST.out.keep (by repeat (first | with_reducible exact Upd.refl _ _ | (with_reducible refine Upd.drewN ?_ _) | (with_reducible refine Upd.drew ?_) | (with_reducible refine Upd.alloc ?_ _))), HE.out _ _ (by repeat (first | with_reducible exact Upd.refl _ _ | (with_reducible refine Upd.drewN ?_ _) | (with_reducible refine Upd.drew ?_) | (with_reducible refine Upd.alloc ?_ _))) (Below.refl _ _)⟩
      case rest =>
        obtain ⟨hn, hB2⟩ := hcut.out
        clear hcut
        obtain ⟨x, hx⟩ : ∃ x, x = stepS t st many := ⟨_, rfl⟩
        rw [← hx] at hn
        have hbl : buildL (l.drop k) st many = if x.over = true then none else buildL (l.drop (k + 1)) x.st x.many := by
          rw [List.drop_eq_getElem_cons hlt, ← HTK.out, hx, buildL]
        rw [HBL.out] at hbl
        have hinv : x.over = false → Inv x.st x.many (textsSize (l.take (k + 1))) := fun ho => by
          rw [texts_take l k hlt, ← HTK.out, hx]
          exact HI.out.step (by rw [← hx]; exact ho)
        obtain ⟨xs, xm, xo⟩ := x
        have hn : BldS wc w.heap.size (w.heap.size + 1) xs xm xo := hn
        have c2 := hn.cell2
        have H5 := Lib.hid hn; have HB5 := Lib.hid hB2; have HBL5 := Lib.hid hbl; have HI5 := Lib.hid hinv
        clear hn hB2 hbl hinv hx HST HI HBL HB HE hsp hsz hm0 hm1
        cases xo with
        | true =>
          go_wp2
          go_ret2
          refine ⟨?_, HB5.out⟩
          unfold build
          rw [HBL5.out]
          exact rfl
        | false =>
          go_wp2_with fail
          go_roundg k1
          case measure => omega
          case rel =>
            have hi5 := HI5.out
            have hb5 := HBL5.out
            simp only [true_implies, forall_const, Bool.false_eq_true, if_false] at hi5 hb5
            exact ⟨k + 1, by go_num, by have := HK.out; omega, xs, xm, H5.out, hi5, hb5.symm, HB5.out⟩
end Go.Proofs.Ytidicfdcjoggpaa
