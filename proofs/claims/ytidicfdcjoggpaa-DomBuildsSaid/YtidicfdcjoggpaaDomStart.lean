/-
  The tree builder of package dom: a tag that begins an element.
-/
import Derived.Test.YtidicfdcjoggpaaDomClose
import Derived.Test.YtidicfdcjoggpaaDomVoid
import Derived.Test.YtidicfdcjoggpaaClone
import Derived.Deep.DeepCutAuto
namespace Go.Proofs.Ytidicfdcjoggpaa
open Go.RowKit
set_option linter.unusedVariables false
set_option linter.unusedSimpArgs false
attribute [local go_sem ↓] Go.wp_at_zero Go.wp_at_succ
attribute [local go_sem] World.cell?_alloc_some
def bP : Str := (⟨#[112]⟩ : ByteArray)
def bLi : Str := (⟨#[108, 105]⟩ : ByteArray)
def bUl : Str := (⟨#[117, 108]⟩ : ByteArray)
def bOl : Str := (⟨#[111, 108]⟩ : ByteArray)
/-- The name of the element at a place of a stack, counted from its foot. -/
def nameAt (s : List El) (a : Nat) : Str := ((s.reverse[a]?).map (·.name)).getD ByteArray.empty
def afterBlock (name : Str) (s : List El) : List El := if isBlock name = true then closeP bP s else s
def liOver (name : Str) (s : List El) : Bool := decide (name = bLi) && (decide (0 < innerP [bLi, bUl, bOl] s) && decide (nameAt s (innerP [bLi, bUl, bOl] s) = bLi))
def afterLi (name : Str) (s : List El) : List El := if liOver name s = true then closeP bLi s else s
def laid (name : Str) (attrs : List Attr) (s : List El) : List El :=
  if isVoid name = true then (match s with | t :: r => t.add ⟨name, attrs, ByteArray.empty, []⟩ :: r | [] => []) else ⟨name, attrs, []⟩ :: s
def startP (name : Str) (attrs : List Attr) (s : List El) : List El := laid name attrs (afterLi name (afterBlock name s))
def overP (s : List El) (many : Int) : Bool := decide (65 < s.length) || decide (2000 < many)
theorem shutP_pos : ∀ s : List El, 0 < s.length → 0 < (shutP s).length
  | t :: u :: s, _ => by simp [shutP]
  | [_], _ => by simp [shutP]
theorem shutN_pos : ∀ (n : Nat) (s : List El), 0 < s.length → 0 < (shutN n s).length
  | 0, _, h => h
  | n + 1, s, h => shutN_pos n _ (shutP_pos s h)
theorem shutN_szs : ∀ (n : Nat) (s : List El), szs (shutN n s) ≤ szs s
  | 0, _ => Nat.le_refl _
  | n + 1, s => Nat.le_trans (shutN_szs n _) (szs_shut s)
theorem closeP_pos (name : Str) (s : List El) (h : 0 < s.length) : 0 < (closeP name s).length := by
  unfold closeP; split
  · exact h
  · exact shutN_pos _ _ h
theorem closeP_szs (name : Str) (s : List El) : szs (closeP name s) ≤ szs s := by
  unfold closeP; split
  · exact Nat.le_refl _
  · exact shutN_szs _ _
theorem afterBlock_pos (name : Str) (s : List El) (h : 0 < s.length) : 0 < (afterBlock name s).length := by
  unfold afterBlock; split
  · exact closeP_pos _ _ h
  · exact h
theorem afterBlock_szs (name : Str) (s : List El) : szs (afterBlock name s) ≤ szs s := by
  unfold afterBlock; split
  · exact closeP_szs _ _
  · exact Nat.le_refl _
theorem afterLi_pos (name : Str) (s : List El) (h : 0 < s.length) : 0 < (afterLi name s).length := by
  unfold afterLi; split
  · exact closeP_pos _ _ h
  · exact h
theorem afterLi_szs (name : Str) (s : List El) : szs (afterLi name s) ≤ szs s := by
  unfold afterLi; split
  · exact closeP_szs _ _
  · exact Nat.le_refl _
theorem BldS.name {w : World} {B bb : Nat} {st : List El} {many : Int} {over : Bool} (h : BldS w B bb st many over) : ∃ ob cap, w.cell? ⟨bb, 0, none⟩ = some (.slice (some ⟨ob, 0, none⟩) st.length cap) ∧ ∀ i, i < st.length → w.cell? ⟨ob, i * 5 + 4, none⟩ = some (.string (nameAt st i)) := by
  obtain ⟨ob, cap, gs, h1, rfl⟩ := h
  obtain ⟨cur, hcur, hBo, hnc, hcm, hcs, htake⟩ := h1.cur
  refine ⟨ob, cap, by rw [cell_of_row w bb _ _ _ _ h1.blk]; simp, fun i hi => ?_⟩
  have hi' : i < gs.length := by simpa using hi
  rw [cell_of_row w ob _ _ _ _ hcur]
  have : nameAt (gs.map (·.el)).reverse i = gs[i].el.name := by simp [nameAt, hi']
  rw [this]
  exact h1.get htake hi' rfl
theorem put_st {w0 w : World} {B bb : Nat} {t : El} {r : List El} {many : Int} {over : Bool} (h : BldS w0 B bb (t :: r) many over) (hu : Upd None w0 w) (hz : szs (t :: r) ≤ 10000) (n : Node) (cs : List Value) (hx : Rep.Is w (fun b => w0.heap.size ≤ b ∧ b < w.heap.size) n cs) :
    Calls Try.prog 37 #[.pointer (some ⟨bb, 0, none⟩), .agg cs.toArray] w fun e w' => TupIs e ∧ BldS w' B bb (t.add n :: r) many over ∧ Below B w w' := by
  obtain ⟨ob, cap, gs, h, he⟩ := h
  obtain ⟨g0, gt, rfl⟩ : ∃ g0 gt, gs = g0 ++ [gt] := by
    have : gs.length ≥ 1 := by have := congrArg List.length he; simp at this; omega
    exact ⟨gs.dropLast, gs.getLast (by intro e; simp [e] at this), (List.dropLast_concat_getLast _).symm⟩
  simp only [List.map_append, List.map_cons, List.map_nil, List.reverse_append, List.reverse_cons, List.reverse_nil, List.nil_append, List.singleton_append, List.cons.injEq] at he
  obtain ⟨rfl, rfl⟩ := he
  have hl := len_szs (gt.el :: (List.map (fun x => x.el) g0).reverse)
  have hk : gt.el.kids.length ≤ szs (gt.el :: (List.map (fun x => x.el) g0).reverse) := by simp [szs]; omega
  refine (put_bld (h.keep hu) (by simp at hl; omega) (by omega) n cs (Rep.frame (Same.refl _ _) (fun b hb => ⟨?_, hb.2, ?_⟩) hx)).mono ?_
  · exact Nat.le_trans (Nat.le_trans h.hb (Nat.le_of_lt (lt_of_block h.blk))) hb.1
  · obtain ⟨cur, hcur, _⟩ := h.cur
    rintro (rfl | rfl | ⟨x, hx, hk⟩)
    · have := lt_of_block h.blk; omega
    · have := lt_of_block hcur; omega
    · have := (own_lt (h.dat x hx).2.1.choose_spec.1 hk).2.1; omega
  · rintro e w' ⟨rfl, u', hu', hb', hw'⟩
    exact ⟨rfl, ⟨ob, cap, _, hb', by simp [hu', El.add]⟩, hw'⟩
theorem count_st {w : World} {B bb : Nat} {st : List El} {many : Int} (h : BldS w B bb st many false) (h0 : 0 < st.length) (hz : st.length ≤ 10000) (hm : 0 ≤ many) (hm2 : many ≤ 10000) :
    Calls Try.prog 38 #[.pointer (some ⟨bb, 0, none⟩)] w fun e w' => TupIs e ∧ BldS w' B bb st (many + 1) (overP st (many + 1)) ∧ Below B w w' := by
  obtain ⟨ob, cap, gs, h, rfl⟩ := h
  refine (count_any bb gs.length cap (some ⟨ob, 0, none⟩) many w h.blk (by simpa using h0) (by simp at hz; omega) hm (by omega)).mono ?_
  rintro e w' ⟨rfl, hb, hu⟩
  refine ⟨rfl, ⟨ob, cap, gs, ?_, rfl⟩, (hu.mono (N := fun b => B ≤ b) (by rintro x _ rfl; exact h.hb)).belowB (Nat.le_trans h.hb (Nat.le_of_lt (lt_of_block h.blk)))⟩
  obtain ⟨cur, hcur, hBo, _⟩ := h.cur
  have hsame : Same (Free B w.heap.size (Mut bb ob gs)) w w' := fun b hb => hu.block b hb.2.1 (fun e => hb.2.2 (.inl e))
  have hmono := Free.new (B := B) (bb := bb) (ob := ob) (gs := gs) (gs' := gs) hu.size (fun b _ hb => hb)
  refine ⟨by simpa [overP] using hb, h.hb, own_upd h.row hu (fun k hk e => ?_), h.ne, fun x hx => ?_, h.apart⟩
  · simp [Value.ownBlock] at hk; exact h.ne (e.symm.trans hk.symm)
  · have hd := h.dat x hx
    refine ⟨hd.1.frame hsame hmono, ?_, hd.2.2⟩
    obtain ⟨cs, h1, h2⟩ := hd.2.1.step (w' := w') (fun b hb => hsame b hb.1) (fun k hk => hu.block k (own_lt hd.2.1.choose_spec.1 hk).2.1 (by rintro rfl; exact hd.2.2.1 hk)) hu.size
    exact ⟨cs, h1, h2.frame (Same.refl _ _) (fun b hb => ⟨hmono b hb.1, hb.2⟩)⟩
theorem underEls : Try.prog.underlying 50 = some (.slice 49) := by kernel_rfl
theorem infoEl : (Try.prog.info? 49).map (fun i => (i.zero, i.size, i.bytes)) = some (some (.agg #[.string ByteArray.empty, .slice none 0 0, .string ByteArray.empty, .slice none 0 0, .string ByteArray.empty]), 5, 96) := by kernel_rfl
theorem one5 {p : Value → Prop} {a b c d e : Value} (h0 : p a) (h1 : p b) (h2 : p c) (h3 : p d) (h4 : p e) : ∀ u ∈ [a, b, c, d, e], p u := by
  intro u hu
  simp only [List.mem_cons, List.mem_nil_iff, or_false] at hu
  rcases hu with rfl | rfl | rfl | rfl | rfl <;> assumption
/-- One element more is open. -/
theorem push_state {w0 w w1 : World} {B bb ob cap g cap' : Nat} {gs : List Gh} {many : Int} {over : Bool} {name : Str} {attrs : List Attr} {va : Value} (h : BldG w0 B bb ob cap gs many over) (hu : Upd None w0 w)
    (hva : SliceIs w (fun b => w0.heap.size ≤ b ∧ b < w.heap.size) va attrs)
    (hown : w1.ownsRow B 49 5 (.slice (some ⟨g, 0, none⟩) (gs.length + 1) cap') (gs.length + 1) (gs.flatMap Gh.cells ++ [.string name, va, .string ByteArray.empty, .slice none 0 0, .string name]))
    (hgrow : w.grownBy w1 (some ob)) (hat : ob = g ∨ w.heap.size ≤ g) :
    BldG (w1.setCell ⟨bb, 0, none⟩ (.slice (some ⟨g, 0, none⟩) (gs.length + 1) cap')) B bb g cap' (gs ++ [⟨⟨name, attrs, []⟩, va, .slice none 0 0⟩]) many over ∧ Below B w0 (w1.setCell ⟨bb, 0, none⟩ (.slice (some ⟨g, 0, none⟩) (gs.length + 1) cap')) := by
  obtain ⟨cur, hcur, hBo, _⟩ := h.cur
  have hbb := lt_of_block h.blk
  have hbo := lt_of_block hcur
  have hsz := hu.size
  have u1 : Upd (fun b => b = ob) w0 w1 := (hu.mono (N := fun b => b = ob) (fun _ _ h => h.elim)).grown hgrow (fun k hk => .inl (Option.some.inj hk).symm)
  have u2 : Upd (fun b => b = ob ∨ b = bb) w0 (w1.setCell ⟨bb, 0, none⟩ (.slice (some ⟨g, 0, none⟩) (gs.length + 1) cap')) := (u1.mono (fun _ _ h => .inl h)).setCell (by exact .inl (.inr rfl)) _
  have hgb : g ≠ bb := by rintro rfl; rcases hat with h1 | h1; exact h.ne h1.symm; omega
  have hblk1 : w1.heap[bb]? = some (.cells #[.slice (some ⟨ob, 0, none⟩) gs.length cap, .int .i64 many, .bool over] 52 (0, 0)) := (u1.block bb hbb h.ne).trans h.blk
  have hblk2 := heap_setCell_same w1 bb 0 _ _ (.slice (some ⟨g, 0, none⟩) (gs.length + 1) cap') hblk1
  have hown2 := own_other hown ⟨bb, 0, none⟩ (.slice (some ⟨g, 0, none⟩) (gs.length + 1) cap') (by simpa [Value.ownBlock] using hgb)
  simp only [List.setIfInBounds_toArray, List.set_cons_zero, List.set_cons_succ] at hblk2
  have hgl : g < w1.heap.size := (own_lt hown rfl).2.1
  have hz1 : (w1.setCell ⟨bb, 0, none⟩ (.slice (some ⟨g, 0, none⟩) (gs.length + 1) cap')).heap.size = w1.heap.size := by simp
  have hset : ∀ k, k ≠ bb → (w1.setCell ⟨bb, 0, none⟩ (.slice (some ⟨g, 0, none⟩) (gs.length + 1) cap')).heap[k]? = w1.heap[k]? := fun k hk => heap_setCell_other _ _ _ _ hk
  generalize (w1.setCell ⟨bb, 0, none⟩ (.slice (some ⟨g, 0, none⟩) (gs.length + 1) cap')) = w2 at *
  have hsame : Same (Free B w0.heap.size (Mut bb ob gs)) w0 w2 := fun b hb => u2.block b hb.2.1 (by rintro (rfl | rfl); exact hb.2.2 (.inr (.inl rfl)); exact hb.2.2 (.inl rfl))
  have hnew : ∀ b, b < w0.heap.size → Mut bb g (gs ++ [⟨⟨name, attrs, []⟩, va, .slice none 0 0⟩]) b → Mut bb ob gs b := by
    rintro b hb (rfl | rfl | ⟨x, hx, hk⟩)
    · exact .inl rfl
    · rcases hat with h1 | h1
      · exact .inr (.inl h1.symm)
      · omega
    · rcases List.mem_append.1 hx with hx | hx
      · exact .inr (.inr ⟨x, hx, hk⟩)
      · simp at hx; subst hx; simp [Value.ownBlock] at hk
  have hmono : ∀ b, Free B w0.heap.size (Mut bb ob gs) b → Free B w2.heap.size (Mut bb g (gs ++ [⟨⟨name, attrs, []⟩, va, .slice none 0 0⟩])) b := fun b ⟨h1, h2, h3⟩ => ⟨h1, Nat.lt_of_lt_of_le h2 u2.size, fun h => h3 (hnew b h2 h)⟩
  have hBw : B ≤ w0.heap.size := Nat.le_trans h.hb (Nat.le_of_lt hbb)
  refine ⟨⟨by simpa using hblk2, h.hb, ?_, Ne.symm hgb, fun x hx => ?_, ?_⟩, (u2.mono (N := fun b => B ≤ b) (by rintro x _ (rfl | rfl); exact hBo; exact h.hb)).belowB hBw⟩
  · simpa [List.flatMap_append, Gh.cells] using hown2
  · rcases List.mem_append.1 hx with hx | hx
    · have hd := h.dat x hx
      refine ⟨hd.1.frame hsame hmono, ?_, hd.2.2.1, ?_⟩
      · obtain ⟨cs, h1, h2⟩ := hd.2.1.step (w' := w2) (fun b hb => hsame b hb.1) (fun k hk => u2.block k (own_lt hd.2.1.choose_spec.1 hk).2.1 (by rintro (rfl | rfl); exact hd.2.2.2 hk; exact hd.2.2.1 hk)) u2.size
        exact ⟨cs, h1, h2.frame (Same.refl _ _) (fun b hb => ⟨hmono b hb.1, hb.2⟩)⟩
      · intro e
        rcases hat with h1 | h1
        · exact hd.2.2.2 (h1 ▸ e)
        · have := (own_lt hd.2.1.choose_spec.1 e).2.1; omega
    · simp at hx; subst hx
      refine ⟨hva.frame (w' := w2) (fun b hb => ?_) (fun b hb => ⟨by omega, ?_, ?_⟩), Mine.nil _ _ _ _, by simp [Value.ownBlock], by simp [Value.ownBlock]⟩
      · have : w1.heap[b]? = w.heap[b]? := hgrow.block b hb.2 (fun e => by have := Option.some.inj e; omega)
        exact (hset b (by rintro rfl; omega)).trans this
      · have := hgrow.size; omega
      · rintro (rfl | rfl | ⟨x, hx, hk⟩)
        · omega
        · rcases hat with h1 | h1
          · omega
          · omega
        · rcases List.mem_append.1 hx with hx | hx
          · have := (own_lt (h.dat x hx).2.1.choose_spec.1 hk).2.1; omega
          · simp at hx; subst hx; simp [Value.ownBlock] at hk
  · rw [List.pairwise_append]
    exact ⟨h.apart, by simp, fun x hx y hy k hk => by simp at hy; subst hy; simp [Value.ownBlock]⟩
set_option maxHeartbeats 4000000 in
theorem start_any {w : World} {B bb : Nat} {st : List El} {many : Int} (name : Str) (attrs : List Attr) (v : Value) (h : BldS w B bb st many false) (h0 : 0 < st.length) (hz : szs st ≤ 9000) (hm : 0 ≤ many) (hm2 : many ≤ 9000)
    (hv : SliceIs w (fun b => b < B) v attrs) (hal : attrs.length ≤ 1000000) :
    Calls Try.prog 28 #[.pointer (some ⟨bb, 0, none⟩), .string name, v] w fun e w' => TupIs e ∧ BldS w' B bb (startP name attrs st) (many + 1) (overP (startP name attrs st) (many + 1)) ∧ Below B w w' := by
  obtain ⟨A, c, rfl, _⟩ := hv.shape
  have H := Lib.hid h; have HV := Lib.hid hv
  clear h hv
  go_enter Try.func28, Try.ntmps28
  go_upto_if 9 with (go_at_call 19; refine (block_any _ _).mono ?_; rintro e w' ⟨rfl, rfl⟩)
  go_cut [] (fun wc => Hid (BldS wc B bb (afterBlock name st) many false ∧ Below B w wc))
  case first =>
    cases hb : isBlock name
    · go_wp2
      go_meet
      case rel => exact ⟨by unfold afterBlock; rw [if_neg (by simp [hb])]; exact H.out, Below.refl _ _⟩
    · go_wp2_with (go_at_call 39; refine (close_any bP H.out h0 (by omega)).mono ?_; rintro e w1 ⟨rfl, h1, hB1⟩; have H1 := Lib.hid h1; have HB1 := Lib.hid hB1; clear h1 hB1)
      go_meet
      case rel => exact ⟨by unfold afterBlock; rw [if_pos hb]; exact H1.out, HB1.out⟩
  case rest =>
    obtain ⟨h1, hB1⟩ := hcut.out
    have hs0 := afterBlock_pos name st h0
    have hsz := afterBlock_szs name st
    generalize hs1 : afterBlock name st = s1 at h1 hs0 hsz
    have HS1 := Lib.hid hs1
    have hl1 := len_szs s1
    obtain ⟨ob, cap, b0, hnm⟩ := h1.name
    have H1 := Lib.hid h1; have HB1 := Lib.hid hB1; have HN := Lib.hid hnm
    clear hcut h1 hB1 hs1 hnm
    obtain ⟨a, ha⟩ : ∃ a, a = innerP [bLi, bUl, bOl] s1 := ⟨_, rfl⟩
    have hal1 : a ≤ s1.length - 1 := by rw [ha]; exact innerP_le _ _
    have hlo : liOver name s1 = (decide (name = bLi) && (decide (0 < a) && decide (nameAt s1 a = bLi))) := by unfold liOver; rw [ha]
    have HA := Lib.hid ha; have HLO := Lib.hid hlo
    clear ha hlo
    go_upto_region 3 with (go_at_call 40; refine (inner_any (H1.out.keep (by repeat (first | with_reducible exact Upd.refl _ _ | (with_reducible refine Upd.drewN ?_ _) | (with_reducible refine Upd.drew ?_) | (with_reducible refine Upd.alloc ?_ _)))) hs0 (by omega) _ _ _ (made_strs (n := 3) (xs := [bLi, bUl, bOl]) rfl (heap_alloc_at rfl) (by rfl) (by omega)) (by simp)).mono ?_; rw [← HA.out]; rintro e w' ⟨rfl, rfl⟩)
    go_cut [31] (fun v31 wx => v31 = .bool (liOver name s1) ∧ Hid (BldS wx B bb s1 many false ∧ Below B w wx))
    case first =>
      have hn4 := fun (h : a < s1.length) => HN.out a h
      have hR : ∀ wx, Upd None wc wx → Hid (BldS wx B bb s1 many false ∧ Below B w wx) := fun wx hu => ⟨H1.out.keep hu, HB1.out.trans ((hu.mono (N := fun b => B ≤ b) (fun _ _ h => h.elim)).belowB H1.out.B_le)⟩
      have HR := Lib.hid hR
      clear hR
      by_cases h1 : name = bLi
      · have e1 : (name.toList == [108, 105]) = true := lit_true h1
        by_cases h2 : 0 < a
        · have e2 : decide ((0 : Int) < (a : Int)) = true := by simpa using h2
          have hn5 := hn4 (by omega)
          have hn6 : ∀ o, (wc.alloc o).cell? ⟨ob, a * 5 + 4, none⟩ = some (.string (nameAt s1 a)) := fun o => Upd.cell (M := None) (by repeat (first | with_reducible exact Upd.refl _ _ | (with_reducible refine Upd.drewN ?_ _) | (with_reducible refine Upd.drew ?_) | (with_reducible refine Upd.alloc ?_ _))) hn5 id
          have hb6 : ∀ o, (wc.alloc o).cell? ⟨bb, 0, none⟩ = some (.slice (some ⟨ob, 0, none⟩) s1.length cap) := fun o => Upd.cell (M := None) (by repeat (first | with_reducible exact Upd.refl _ _ | (with_reducible refine Upd.drewN ?_ _) | (with_reducible refine Upd.drew ?_) | (with_reducible refine Upd.alloc ?_ _))) b0 id
          clear hn5
          have hi1 : (0 : Int) ≤ (a : Int) := by omega
          have hi2 : (a : Int) < (s1.length : Int) := by omega
          by_cases h3 : nameAt s1 a = bLi
          · have e3 : ((nameAt s1 a).toList == [108, 105]) = true := lit_true h3
            have G := Lib.hid (And.intro h1 (And.intro h2 h3))
            clear h1 h3 hn4
            go_wp2_with fail
            go_meet
            case rel => exact ⟨by rw [HLO.out, decide_eq_true G.out.1, decide_eq_true G.out.2.1, decide_eq_true G.out.2.2]; rfl, HR.out _ (by repeat (first | with_reducible exact Upd.refl _ _ | (with_reducible refine Upd.drewN ?_ _) | (with_reducible refine Upd.drew ?_) | (with_reducible refine Upd.alloc ?_ _)))⟩
          · have e3 : ((nameAt s1 a).toList == [108, 105]) = false := lit_false h3
            have G := Lib.hid (And.intro h1 (And.intro h2 h3))
            clear h1 h3 hn4
            go_wp2_with fail
            go_meet
            case rel => exact ⟨by rw [HLO.out, decide_eq_true G.out.1, decide_eq_true G.out.2.1, decide_eq_false G.out.2.2]; rfl, HR.out _ (by repeat (first | with_reducible exact Upd.refl _ _ | (with_reducible refine Upd.drewN ?_ _) | (with_reducible refine Upd.drew ?_) | (with_reducible refine Upd.alloc ?_ _)))⟩
        · have e2 : decide ((0 : Int) < (a : Int)) = false := by simp; omega
          have G := Lib.hid (And.intro h1 h2)
          clear h1 hn4
          go_wp2_with fail
          go_meet
          case rel => exact ⟨by rw [HLO.out, decide_eq_true G.out.1, decide_eq_false G.out.2]; rfl, HR.out _ (by repeat (first | with_reducible exact Upd.refl _ _ | (with_reducible refine Upd.drewN ?_ _) | (with_reducible refine Upd.drew ?_) | (with_reducible refine Upd.alloc ?_ _)))⟩
      · have e1 : (name.toList == [108, 105]) = false := lit_false h1
        have G := Lib.hid h1
        clear h1 hn4
        go_wp2_with fail
        go_meet
        case rel => exact ⟨by rw [HLO.out, decide_eq_false G.out]; rfl, HR.out _ (by repeat (first | with_reducible exact Upd.refl _ _ | (with_reducible refine Upd.drewN ?_ _) | (with_reducible refine Upd.drew ?_) | (with_reducible refine Upd.alloc ?_ _)))⟩
    case rest =>
      obtain ⟨rfl, hcut2⟩ := hcut
      obtain ⟨h2, hB2⟩ := hcut2.out
      have H2 := Lib.hid h2; have HB2 := Lib.hid hB2
      clear hcut2 h2 hB2 b0 H1 HB1 HN HLO HA
      go_upto_if 31 with (fail)
      go_cut [] (fun wx => Hid (BldS wx B bb (afterLi name s1) many false ∧ Below B w wx))
      case first =>
        cases hb : liOver name s1
        · go_wp2
          go_meet
          case rel => exact ⟨by unfold afterLi; rw [if_neg (by simp [hb])]; exact H2.out, HB2.out⟩
        · go_wp2_with (go_at_call 39; refine (close_any bLi H2.out hs0 (by omega)).mono ?_; rintro e w1 ⟨rfl, h1, hB1⟩; have H3 := Lib.hid h1; have HB3 := Lib.hid hB1; clear h1 hB1)
          go_meet
          case rel => exact ⟨by unfold afterLi; rw [if_pos hb]; exact H3.out, HB2.out.trans HB3.out⟩
      case rest =>
        obtain ⟨h3, hB3⟩ := hcut.out
        have hs2 := afterLi_pos name s1 hs0
        have hsz2 := afterLi_szs name s1
        generalize hs2e : afterLi name s1 = s2 at h3 hs2 hsz2
        have hl2 := len_szs s2
        have hlast : startP name attrs st = laid name attrs s2 := by unfold startP; rw [HS1.out, hs2e]
        obtain ⟨t, r, rfl⟩ : ∃ t r, s2 = t :: r := by cases s2 with | nil => simp at hs2 | cons t r => exact ⟨t, r, rfl⟩
        have H3 := Lib.hid h3; have HB3 := Lib.hid hB3; have HL := Lib.hid hlast
        clear hcut h3 hB3 hs2e HB2 H2 hlast HS1 hs0 hl1 hal1
        go_wp2_with fail
        refine (cloneAttrs_any _ (fun b => b < B) _ attrs (HV.out.frame (w' := wc) (fun b hb => HB3.out.block b hb) (fun _ h => h)) (by omega)).mono ?_
        rintro e w5 ⟨va, rfl, hva, hu5⟩
        obtain ⟨Av, cv, rfl, _⟩ := hva.shape
        have HVA := Lib.hid hva; have HU5 := Lib.hid hu5
        clear hva hu5
        have hnode : ∀ W, Upd None w5 W → Rep.Is W (fun b => wc.heap.size ≤ b ∧ b < W.heap.size) (⟨name, attrs, ByteArray.empty, []⟩ : Node) [.string name, .slice Av attrs.length cv, .string ByteArray.empty, .slice none 0 0] := fun W hW =>
          Node.mk_ (HVA.out.frame (fun b hb => hW.block b hb.2 id) (fun b hb => ⟨hb.1, Nat.lt_of_lt_of_le hb.2 hW.size⟩)) (SliceIs.nil _ _)
        have HND := Lib.hid hnode
        clear hnode
        go_upto_if 39 with (go_at_call 17; refine (void_any _ _).mono ?_; rintro e w' ⟨rfl, rfl⟩)
        go_cut [] (fun wx => Hid (BldS wx B bb (laid name attrs (t :: r)) many false ∧ Below B w wx))
        case first =>
          cases hb : isVoid name
          · go_upto_region 8 with fail
            obtain ⟨ob, cap, gs, hg, hgs⟩ := H3.out
            have hl : gs.length = (t :: r).length := by rw [← hgs]; simp
            have hgn : gs.length ≤ 10000 := by omega
            have b0 : wc.cell? ⟨bb, 0, none⟩ = some (.slice (some ⟨ob, 0, none⟩) gs.length cap) := by rw [cell_of_row wc bb _ _ _ _ hg.blk]; rfl
            have hX : (w5.alloc (.cells #[.string name, .slice Av attrs.length cv, .string ByteArray.empty, .slice none 0 0] 37)).heap[w5.heap.size]? = some (.cells #[.string name, .slice Av attrs.length cv, .string ByteArray.empty, .slice none 0 0] 37 (0, 0)) := heap_alloc_at rfl
            have u6 : Upd None wc (w5.alloc (.cells #[.string name, .slice Av attrs.length cv, .string ByteArray.empty, .slice none 0 0] 37)) := by repeat (first | with_reducible exact HU5.out | (with_reducible refine Upd.drewN ?_ _) | (with_reducible refine Upd.drew ?_) | (with_reducible refine Upd.alloc ?_ _))
            have hva6 : SliceIs (w5.alloc (.cells #[.string name, .slice Av attrs.length cv, .string ByteArray.empty, .slice none 0 0] 37)) (fun b => wc.heap.size ≤ b ∧ b < w5.heap.size) (.slice Av attrs.length cv) attrs := HVA.out.frame (fun b hb => Below.heap_alloc _ _ _ hb.2) (fun _ h => h)
            have hz6 : w5.heap.size < (w5.alloc (.cells #[.string name, .slice Av attrs.length cv, .string ByteArray.empty, .slice none 0 0] 37)).heap.size := by simp
            show Code.wp _ _ _ _ (w5.alloc (.cells #[.string name, .slice Av attrs.length cv, .string ByteArray.empty, .slice none 0 0] 37))
            obtain ⟨H5, hH5⟩ : ∃ H5, H5 = w5.heap.size := ⟨_, rfl⟩
            rw [← hH5] at hX hva6 hz6 ⊢
            generalize (w5.alloc (.cells #[.string name, .slice Av attrs.length cv, .string ByteArray.empty, .slice none 0 0] 37)) = w6 at hX u6 hva6 hz6 ⊢
            have H5e := Lib.hid hH5
            clear hH5
            obtain ⟨i0, hi, hz0, hz1, hz2⟩ := info_parts infoEl
            have b6 := u6.cell b0 id
            have x0 : w6.cell? ⟨H5, 0, none⟩ = some (.string name) := by rw [cell_of_row w6 _ _ _ _ _ hX]; rfl
            have x1 : w6.cell? ⟨H5, 1, none⟩ = some (.slice Av attrs.length cv) := by rw [cell_of_row w6 _ _ _ _ _ hX]; rfl
            have x2 : w6.cell? ⟨H5, 2, none⟩ = some (.string ByteArray.empty) := by rw [cell_of_row w6 _ _ _ _ _ hX]; rfl
            have x3 : w6.cell? ⟨H5, 3, none⟩ = some (.slice none 0 0) := by rw [cell_of_row w6 _ _ _ _ _ hX]; rfl
            have hbb6 : bb < w6.heap.size := lt_of_cell b6
            have hbo := hg.ne
            have HG := Lib.hid hg; have HGS := Lib.hid hgs; have U6 := Lib.hid u6; have HV6 := Lib.hid hva6
            clear hg hgs u6 b0 hva6 hX hl
            refine B_start (fun _ => True) (fun w' => w'.cell? ⟨bb, 0, none⟩ = some (.slice (some ⟨ob, 0, none⟩) gs.length cap) ∧ w'.cell? ⟨H5, 0, none⟩ = some (.string name) ∧ w'.cell? ⟨H5, 1, none⟩ = some (.slice Av attrs.length cv) ∧ w'.cell? ⟨H5, 2, none⟩ = some (.string ByteArray.empty) ∧ w'.cell? ⟨H5, 3, none⟩ = some (.slice none 0 0)) 9 (by kernel_rfl) trivial (by go_keep) 13 rfl #[false, false, false, false, false, false, false, false, false, false, false, false, false] rfl ?_
            refine B_take1 0 (v := ?v1) (a' := ?a1) (l' := #[true, false, false, false, false, false, false, false, false, false, false, false, false]) rfl (by kernel_rfl) (by kernel_rfl) (by kernel_rfl) (fun _ _ _ h => h) (by decide) (Or.inl ⟨by rfl, ?y1⟩) rfl ?e1 ?r1
            case y1 => (intro w' hS; (try dsimp only at hS); go_simp; try (with_reducible rfl))
            case e1 => ((try simp only [Act.put, List.setIfInBounds_toArray, List.set_cons_zero, List.set_cons_succ, List.getElem_toArray, List.getElem_cons_succ, List.getElem_cons_zero]); rfl)
            refine B_take1 1 (v := ?v2) (a' := ?a2) (l' := #[true, true, false, false, false, false, false, false, false, false, false, false, false]) rfl (by kernel_rfl) (by kernel_rfl) (by kernel_rfl) (fun _ _ _ h => h) (by decide) (Or.inl ⟨by rfl, ?y2⟩) rfl ?e2 ?r2
            case y2 => (intro w' hS; (try dsimp only at hS); go_simp; try (with_reducible rfl))
            case e2 => ((try simp only [Act.put, List.setIfInBounds_toArray, List.set_cons_zero, List.set_cons_succ, List.getElem_toArray, List.getElem_cons_succ, List.getElem_cons_zero]); rfl)
            refine B_take1 2 (v := ?v3) (a' := ?a3) (l' := #[true, true, true, false, false, false, false, false, false, false, false, false, false]) rfl (by kernel_rfl) (by kernel_rfl) (by kernel_rfl) (fun _ _ _ h => h) (by decide) (Or.inl ⟨by rfl, ?y3⟩) rfl ?e3 ?r3
            case y3 => (intro w' hS; (try dsimp only at hS); go_simp; try (with_reducible rfl))
            case e3 => ((try simp only [Act.put, List.setIfInBounds_toArray, List.set_cons_zero, List.set_cons_succ, List.getElem_toArray, List.getElem_cons_succ, List.getElem_cons_zero]); rfl)
            refine B_take1 3 (v := ?v4) (a' := ?a4) (l' := #[true, true, true, true, false, false, false, false, false, false, false, false, false]) rfl (by kernel_rfl) (by kernel_rfl) (by kernel_rfl) (fun _ _ _ h => h) (by decide) (Or.inl ⟨by rfl, ?y4⟩) rfl ?e4 ?r4
            case y4 => (intro w' hS; (try dsimp only at hS); go_simp; try (with_reducible rfl))
            case e4 => ((try simp only [Act.put, List.setIfInBounds_toArray, List.set_cons_zero, List.set_cons_succ, List.getElem_toArray, List.getElem_cons_succ, List.getElem_cons_zero]); rfl)
            refine B_take2 4 [9] (v := ?v5) (a' := ?a5) (l' := #[true, true, true, true, true, false, false, false, false, false, false, false, false]) rfl (by kernel_rfl) (by kernel_rfl) (by kernel_rfl) (by kernel_rfl) rfl (fun _ _ _ h => h) (by decide) (Or.inl ⟨by rfl, ?y5⟩) rfl ?e5 ?r5
            case y5 => (intro w' hS; (try dsimp only at hS); go_simp; try (with_reducible rfl))
            case e5 => ((try simp only [Act.put, List.setIfInBounds_toArray, List.set_cons_zero, List.set_cons_succ, List.getElem_toArray, List.getElem_cons_succ, List.getElem_cons_zero]); rfl)
            refine B_take2 5 [7, 8, 9] (v := ?v6) (a' := ?a6) (l' := #[true, true, true, true, true, true, false, false, false, false, false, false, false]) rfl (by kernel_rfl) (by kernel_rfl) (by kernel_rfl) (by kernel_rfl) rfl (fun _ _ _ h => h) (by decide) (Or.inl ⟨by rfl, ?y6⟩) rfl ?e6 ?r6
            case y6 => (intro w' hS; (try dsimp only at hS); go_simp; try (with_reducible rfl))
            case e6 => ((try simp only [Act.put, List.setIfInBounds_toArray, List.set_cons_zero, List.set_cons_succ, List.getElem_toArray, List.getElem_cons_succ, List.getElem_cons_zero]); rfl)
            refine B_take1 6 (v := ?v7) (a' := ?a7) (l' := #[true, true, true, true, true, true, true, false, false, false, false, false, false]) rfl (by kernel_rfl) (by kernel_rfl) (by kernel_rfl) (fun _ _ _ h => h) (by decide) (Or.inl ⟨by rfl, ?y7⟩) rfl ?e7 ?r7
            case y7 => (intro w' hS; (try dsimp only at hS); go_simp; try (with_reducible rfl))
            case e7 => ((try simp only [Act.put, List.setIfInBounds_toArray, List.set_cons_zero, List.set_cons_succ, List.getElem_toArray, List.getElem_cons_succ, List.getElem_cons_zero]); rfl)
            refine B_take1 7 (v := ?v8) (a' := ?a8) (l' := #[true, true, true, true, true, true, true, true, false, false, false, false, false]) rfl (by kernel_rfl) (by kernel_rfl) (by kernel_rfl) (fun _ _ _ h => h) (by decide) (Or.inl ⟨by rfl, ?y8⟩) rfl ?e8 ?r8
            case y8 => (intro w' hS; (try dsimp only at hS); go_simp; try (with_reducible rfl))
            case e8 => ((try simp only [Act.put, List.setIfInBounds_toArray, List.set_cons_zero, List.set_cons_succ, List.getElem_toArray, List.getElem_cons_succ, List.getElem_cons_zero]); rfl)
            refine B_all (rs := [8]) (by kernel_rfl) (by simp) (fun hs1 hs2 => ⟨fun K hK => ?_, trivial⟩)
            refine op_goes rfl (by rfl) ?_
            have HK := Lib.hid hK; clear hK
            go_simp
            refine HK.out _ _ trivial ((fun _ => by go_keep)) ?_
            clear HK K hs1 hs2
            refine B_norm (l' := #[true, true, true, true, true, true, true, true, true, false, false, false, false]) (a' := ?a9) rfl ?e9 ?r9
            case e9 => ((try simp only [Act.put, List.setIfInBounds_toArray, List.set_cons_zero, List.set_cons_succ, List.getElem_toArray, List.getElem_cons_succ, List.getElem_cons_zero]); rfl)
            refine B_all (rs := [9]) (by kernel_rfl) (by simp) (fun hs1 hs2 => ⟨fun K hK => ?_, trivial⟩)
            refine op_goes rfl (by rfl) ?_
            have HK := Lib.hid hK; clear hK
            refine wp_append_lies _ _ _ _ (by rfl) B 49 i0 _ 5 96 underEls hi hz0 hz1 hz2 rfl (by omega) _ gs.length (gs.flatMap Gh.cells) (by rfl) (own_none HG.out.row (by repeat (first | with_reducible exact U6.out | (with_reducible refine Upd.drewN ?_ _) | (with_reducible refine Upd.drew ?_) | (with_reducible refine Upd.alloc ?_ _)))) ⟨w6.heap.size, 0, none⟩ 1 1 [.string name, .slice Av attrs.length cv, .string ByteArray.empty, .slice none 0 0, .string name] (by rfl) rfl (World.news_of_block (heap_alloc_at rfl)) (one5 rfl rfl rfl rfl rfl) (by omega) (by unfold maxLen; omega) (by omega) (Nat.le_trans (Nat.le_trans H3.out.B_le U6.out.size) (by simp)) _ rfl ?_; intro g cap' w7 hown hgrow hat hlt; have e0 : w7.cell? ⟨bb, 0, none⟩ = some (.slice (some ⟨ob, 0, none⟩) gs.length cap) := (hgrow.cell_far _ (by simp <;> omega) (fun e => hbo (Option.some.inj e))).trans (Upd.cell (M := None) (by repeat (first | with_reducible exact Upd.refl _ _ | (with_reducible refine Upd.drewN ?_ _) | (with_reducible refine Upd.drew ?_) | (with_reducible refine Upd.alloc ?_ _))) b6 id); have e1 : w7.frozen? ⟨bb, 0, none⟩ = false := frozen_of_row _ _ _ _ _ ((hgrow.block bb (by simp <;> omega) (fun e => hbo (Option.some.inj e))).trans ((Upd.block (M := None) (by repeat (first | with_reducible exact U6.out | (with_reducible refine Upd.drewN ?_ _) | (with_reducible refine Upd.drew ?_) | (with_reducible refine Upd.alloc ?_ _))) bb (lt_of_block HG.out.blk) id).trans HG.out.blk))
            refine HK.out _ _ trivial (fun h => absurd h (by decide)) ?_
            clear HK K hs1 hs2
            refine B_norm (l' := #[true, true, true, true, true, true, true, true, true, true, false, false, false]) (a' := ?a10) rfl ?e10 ?r10
            case e10 => ((try simp only [Act.put, List.setIfInBounds_toArray, List.set_cons_zero, List.set_cons_succ, List.getElem_toArray, List.getElem_cons_succ, List.getElem_cons_zero]); rfl)
            refine B_take1 10 (v := ?v11) (a' := ?a11) (l' := #[true, true, true, true, true, true, true, true, true, true, true, false, false]) rfl (by kernel_rfl) (by kernel_rfl) (by kernel_rfl) (fun _ _ _ h => h) (by decide) (Or.inl ⟨by rfl, ?y11⟩) rfl ?e11 ?r11
            case y11 => (intro w' hS; (try dsimp only at hS); go_simp; try (with_reducible rfl))
            case e11 => ((try simp only [Act.put, List.setIfInBounds_toArray, List.set_cons_zero, List.set_cons_succ, List.getElem_toArray, List.getElem_cons_succ, List.getElem_cons_zero]); rfl)
            refine B_take1 11 (v := ?v12) (a' := ?a12) (l' := #[true, true, true, true, true, true, true, true, true, true, true, true, false]) rfl (by kernel_rfl) (by kernel_rfl) (by kernel_rfl) (fun _ _ _ h => h) (by decide) (Or.inl ⟨by rfl, ?y12⟩) rfl ?e12 ?r12
            case y12 => (intro w' hS; (try dsimp only at hS); go_simp; try (with_reducible rfl))
            case e12 => ((try simp only [Act.put, List.setIfInBounds_toArray, List.set_cons_zero, List.set_cons_succ, List.getElem_toArray, List.getElem_cons_succ, List.getElem_cons_zero]); rfl)
            refine B_all (rs := [12]) (by kernel_rfl) (by simp) (fun hs1 hs2 => ⟨fun K hK => ?_, trivial⟩)
            refine op_goes rfl (by rfl) ?_
            have HK := Lib.hid hK; clear hK
            go_simp
            refine HK.out _ _ trivial (fun h => absurd h (by decide)) ?_
            clear HK K hs1 hs2
            refine B_norm (l' := #[true, true, true, true, true, true, true, true, true, true, true, true, true]) (a' := ?a13) rfl ?e13 ?r13
            case e13 => ((try simp only [Act.put, List.setIfInBounds_toArray, List.set_cons_zero, List.set_cons_succ, List.getElem_toArray, List.getElem_cons_succ, List.getElem_cons_zero]); rfl)
            refine B_done (by kernel_rfl) ?_
            go_wp2_with fail
            have h5 := H5e.out
            subst h5
            go_meet
            case rel =>
              have hs := push_state HG.out (by repeat (first | with_reducible exact U6.out | (with_reducible refine Upd.drewN ?_ _) | (with_reducible refine Upd.drew ?_) | (with_reducible refine Upd.alloc ?_ _))) (HV6.out.frame (Q := fun b => wc.heap.size ≤ b ∧ b < _) (fun b hb => Upd.block (M := None) (by repeat (first | with_reducible exact Upd.refl _ _ | (with_reducible refine Upd.drewN ?_ _) | (with_reducible refine Upd.drew ?_) | (with_reducible refine Upd.alloc ?_ _))) b (by have := hb.2; omega) id) (fun b hb => ⟨hb.1, by have := hb.2; simp; omega⟩)) hown hgrow (by simpa [Value.ownBlock] using hat.imp id (fun h => by simp at h; omega))
              exact ⟨by unfold laid; rw [if_neg (by simp [hb])]; exact ⟨_, _, _, hs.1, by simp [HGS.out]⟩, HB3.out.trans hs.2⟩
          · go_wp2_with fail
            refine (put_st H3.out (by repeat (first | with_reducible exact HU5.out | (with_reducible refine Upd.drewN ?_ _) | (with_reducible refine Upd.drew ?_) | (with_reducible refine Upd.alloc ?_ _))) (by omega) _ _ (HND.out _ (by repeat (first | with_reducible exact Upd.refl _ _ | (with_reducible refine Upd.drewN ?_ _) | (with_reducible refine Upd.drew ?_) | (with_reducible refine Upd.alloc ?_ _))))).mono ?_
            rintro e w1 ⟨rfl, h1, hB1⟩
            have H4 := Lib.hid h1; have HB4 := Lib.hid hB1
            clear h1 hB1
            go_wp2
            go_meet
            case rel => exact ⟨by unfold laid; rw [if_pos hb]; exact H4.out, HB3.out.trans (((HU5.out.mono (N := fun b => B ≤ b) (fun _ _ h => h.elim)).belowB H3.out.B_le).trans ((Below.refl B w5).alloc (Nat.le_trans H3.out.B_le HU5.out.size) _ |>.trans HB4.out))⟩
        case rest =>
          obtain ⟨h4, hB4⟩ := hcut.out
          have hlz : 0 < (laid name attrs (t :: r)).length ∧ (laid name attrs (t :: r)).length ≤ 10000 := by unfold laid; split <;> simp at hl2 ⊢ <;> omega
          have H4 := Lib.hid h4; have HB4 := Lib.hid hB4
          clear hcut h4 hB4
          go_wp2_with (go_at_call 38; refine (count_st H4.out hlz.1 hlz.2 hm (by omega)).mono ?_; rintro e w1 ⟨rfl, h1, hB1⟩; have H6 := Lib.hid h1; have HB6 := Lib.hid hB1; clear h1 hB1)
          go_end0
          exact ⟨rfl, by rw [HL.out]; exact H6.out, HB4.out.trans HB6.out⟩
end Go.Proofs.Ytidicfdcjoggpaa
