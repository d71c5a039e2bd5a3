/-
  The tree builder of package dom: closing the innermost element of a name.
-/
import Derived.Test.YtidicfdcjoggpaaDomInner
import Derived.Deep.LoopGhost
namespace Go.Proofs.Ytidicfdcjoggpaa
open Go.RowKit
set_option linter.unusedVariables false
set_option linter.unusedSimpArgs false
def El.add (e : El) (n : Node) : El := ⟨e.name, e.attrs, e.kids ++ [n]⟩
/-- The stack (the innermost first) with its innermost element closed. -/
def shutP : List El → List El
  | t :: u :: s => u.add t.node :: s
  | s => s
def shutN : Nat → List El → List El
  | 0, s => s
  | n + 1, s => shutN n (shutP s)
def closeP (name : Str) (s : List El) : List El := if innerP [name] s = 0 then s else shutN (s.length - innerP [name] s) s
def szs (s : List El) : Nat := (s.map (fun e => e.kids.length + 1)).sum
theorem szs_shut : ∀ s, szs (shutP s) ≤ szs s
  | t :: u :: s => by simp [szs, shutP, El.add]; omega
  | [_] => Nat.le_refl _
  | [] => Nat.le_refl _
theorem innerP_le (names : List Str) : ∀ s : List El, innerP names s ≤ s.length - 1
  | [] => Nat.le_refl _
  | [_] => Nat.le_refl _
  | t :: u :: s => by
    unfold innerP
    split
    · simp
    · have := innerP_le names (u :: s); simp at this ⊢; omega
def BldS (w : World) (B bb : Nat) (st : List El) (many : Int) (over : Bool) : Prop := ∃ ob cap gs, BldG w B bb ob cap gs many over ∧ (gs.map (·.el)).reverse = st
theorem BldS.keep {w w' : World} {B bb : Nat} {st : List El} {many : Int} {over : Bool} (h : BldS w B bb st many over) (hu : Upd None w w') : BldS w' B bb st many over := by
  obtain ⟨ob, cap, gs, h1, h2⟩ := h
  exact ⟨ob, cap, gs, h1.keep hu, h2⟩
theorem BldS.B_le {w : World} {B bb : Nat} {st : List El} {many : Int} {over : Bool} (h : BldS w B bb st many over) : B ≤ w.heap.size := by
  obtain ⟨ob, cap, gs, h1, h2⟩ := h
  exact Nat.le_trans h1.hb (Nat.le_of_lt (lt_of_block h1.blk))
theorem shut_any {w : World} {B bb : Nat} {t u : El} {s : List El} {many : Int} {over : Bool} (h : BldS w B bb (t :: u :: s) many over) (hz : szs (t :: u :: s) ≤ 10000) :
    Calls Try.prog 30 #[.pointer (some ⟨bb, 0, none⟩)] w fun e w' => e = .returned (.tuple #[]) ∧ BldS w' B bb (shutP (t :: u :: s)) many over ∧ Below B w w' := by
  obtain ⟨ob, cap, gs, h, he⟩ := h
  obtain ⟨g0, gu, gt, rfl⟩ : ∃ g0 gu gt, gs = g0 ++ [gu] ++ [gt] := by
    have : gs.length ≥ 2 := by have := congrArg List.length he; simp at this; omega
    obtain ⟨l, x, rfl⟩ : ∃ l x, gs = l ++ [x] := ⟨gs.dropLast, gs.getLast (by intro e; simp [e] at this), (List.dropLast_concat_getLast _).symm⟩
    obtain ⟨l', y, rfl⟩ : ∃ l' y, l = l' ++ [y] := ⟨l.dropLast, l.getLast (by intro e; simp [e] at this), (List.dropLast_concat_getLast _).symm⟩
    exact ⟨l', y, x, rfl⟩
  simp only [List.map_append, List.map_cons, List.map_nil, List.reverse_append, List.reverse_cons, List.reverse_nil, List.nil_append, List.singleton_append, List.cons.injEq] at he
  obtain ⟨rfl, rfl, rfl⟩ := he
  have hz' : g0.length + gu.el.kids.length + 2 ≤ szs (gt.el :: gu.el :: (List.map (fun x => x.el) g0).reverse) := by
    simp only [szs, List.map_cons, List.sum_cons, List.map_reverse, List.sum_reverse, List.map_map]
    have : g0.length ≤ (List.map ((fun e : El => e.kids.length + 1) ∘ fun x : Gh => x.el) g0).sum := by
      clear h hz
      induction g0 with
      | nil => simp
      | cons a l ih => simp at ih ⊢; omega
    omega
  refine (shut_bld h (by omega) (by omega)).mono ?_
  rintro e w' ⟨rfl, u', hu', hb', hw'⟩
  refine ⟨rfl, ⟨ob, cap, _, hb', ?_⟩, hw'⟩
  simp [shutP, hu', El.add]
theorem shut_len : ∀ s : List El, (shutP s).length = if 2 ≤ s.length then s.length - 1 else s.length
  | t :: u :: s => by simp [shutP]
  | [_] => rfl
  | [] => rfl
theorem inner_any {w : World} {B bb : Nat} {st : List El} {many : Int} {over : Bool} (h : BldS w B bb st many over) (h0 : 0 < st.length) (hl : st.length ≤ 10000) (P : FP) (v : Value) (names : List Str) (hv : SliceIs w P v names) (hn : names.length ≤ 1000000) :
    Calls Try.prog 40 #[.pointer (some ⟨bb, 0, none⟩), v] w fun e w' => IntIs (innerP names st) e ∧ w = w' := by
  obtain ⟨ob, cap, gs, h1, rfl⟩ := h
  exact inner_bld h1 (by simpa using h0) (by simpa using hl) P v names hv hn
theorem len_szs (st : List El) : st.length ≤ szs st := by
  unfold szs
  induction st with
  | nil => simp
  | cons a l ih => simp at ih ⊢; omega
theorem BldS.open_ {w : World} {B bb : Nat} {st : List El} {many : Int} {over : Bool} (h : BldS w B bb st many over) : ∃ ob cap, w.cell? ⟨bb, 0, none⟩ = some (.slice (some ⟨ob, 0, none⟩) st.length cap) := by
  obtain ⟨ob, cap, gs, h1, rfl⟩ := h
  exact ⟨ob, cap, by rw [cell_of_row w bb _ _ _ _ h1.blk]; simp⟩
set_option maxHeartbeats 1000000 in
theorem close_any {w : World} {B bb : Nat} {st : List El} {many : Int} {over : Bool} (name : Str) (h : BldS w B bb st many over) (h0 : 0 < st.length) (hz : szs st ≤ 10000) :
    Calls Try.prog 39 #[.pointer (some ⟨bb, 0, none⟩), .string name] w fun e w' => BoolIs (decide (0 < innerP [name] st)) e ∧ BldS w' B bb (closeP name st) many over ∧ Below B w w' := by
  have hl := len_szs st
  have hin := innerP_le [name] st
  have hBw := h.B_le
  obtain ⟨a, ha⟩ : ∃ a, a = innerP [name] st := ⟨_, rfl⟩
  have hc : closeP name st = if a = 0 then st else shutN (st.length - a) st := by rw [ha]; rfl
  have HA := Lib.hid ha
  rw [← ha] at hin ⊢
  rw [hc]
  clear ha hc
  have H := Lib.hid h
  clear h
  by_cases hp : 0 < a
  · rw [if_neg (by omega)]
    obtain ⟨F, hF⟩ : ∃ F, F = shutN (st.length - a) st := ⟨_, rfl⟩
    rw [← hF]
    have HF := Lib.hid hF
    clear hF
    have hd : decide ((0 : Int) < (a : Int)) = true := by simpa using hp
    go_enter Try.func39, Try.ntmps39
    go_wp2_with (go_at_call 40; refine (inner_any (H.out.keep (by repeat (first | with_reducible exact Upd.refl _ _ | (with_reducible refine Upd.drewN ?_ _) | (with_reducible refine Upd.drew ?_) | (with_reducible refine Upd.alloc ?_ _)))) h0 (by omega) _ _ _ (made_strs (n := 1) (xs := [name]) rfl (heap_alloc_at rfl) (by rfl) (by omega)) (by simp)).mono ?_; rw [← HA.out]; rintro e w' ⟨rfl, rfl⟩)
    go_loopg [] (st.length - a) (fun kq wr => Hid (∃ s, BldS wr B bb s many over ∧ szs s ≤ 10000 ∧ shutN kq s = F ∧ s.length = a + kq ∧ Below B w wr))
    case atStart => exact ⟨st, H.out.keep (by repeat (first | with_reducible exact Upd.refl _ _ | (with_reducible refine Upd.drewN ?_ _) | (with_reducible refine Upd.drew ?_) | (with_reducible refine Upd.alloc ?_ _))), hz, HF.out.symm, by omega, (Below.refl B w).alloc hBw _⟩
    case round =>
      obtain ⟨s, hs, hzs, hsF, hsl, hB⟩ := hrel.out
      obtain ⟨ob, cap, b0⟩ := hs.open_
      clear hrel
      rw [hsl] at b0
      have HS := Lib.hid hs; have HSF := Lib.hid hsF; have HSL := Lib.hid hsl; have HB := Lib.hid hB
      clear hs hsF hsl hB
      cases gk with
      | zero =>
        go_wp2
        go_ret
        have e1 : s = F := HSF.out
        exact ⟨by show BoolIs _ _; rw [decide_eq_true hp]; simp [BoolIs, hp], e1 ▸ HS.out, HB.out⟩
      | succ k1 =>
        have hg : (a : Int) < (a : Int) + ((k1 : Int) + 1) := by omega
        obtain ⟨t, u, s', rfl⟩ : ∃ t u s', s = t :: u :: s' := by
          have := HSL.out
          match s, this with
          | [], h => simp at h
          | [_], h => simp at h; omega
          | t :: u :: s', _ => exact ⟨t, u, s', rfl⟩
        go_wp2_with (go_at_call 30; refine (shut_any (HS.out.keep (by repeat (first | with_reducible exact Upd.refl _ _ | (with_reducible refine Upd.drewN ?_ _) | (with_reducible refine Upd.drew ?_) | (with_reducible refine Upd.alloc ?_ _)))) hzs).mono ?_; rintro e w2 ⟨rfl, h2, hb2⟩)
        have H2 := Lib.hid h2; have HB2 := Lib.hid hb2
        clear h2 hb2
        go_roundg k1
        case measure => omega
        case rel => exact ⟨_, H2.out, Nat.le_trans (szs_shut _) hzs, HSF.out, by have := HSL.out; simp [shutP] at this ⊢; omega, HB.out.trans HB2.out⟩
  · have hp0 : a = 0 := by omega
    rw [if_pos hp0]
    have hd : decide ((0 : Int) < (a : Int)) = false := by simp; omega
    have HP := Lib.hid hp0
    clear hp0
    go_enter Try.func39, Try.ntmps39
    go_wp2_with (go_at_call 40; refine (inner_any (H.out.keep (by repeat (first | with_reducible exact Upd.refl _ _ | (with_reducible refine Upd.drewN ?_ _) | (with_reducible refine Upd.drew ?_) | (with_reducible refine Upd.alloc ?_ _)))) h0 (by omega) _ _ _ (made_strs (n := 1) (xs := [name]) rfl (heap_alloc_at rfl) (by rfl) (by omega)) (by simp)).mono ?_; rw [← HA.out]; rintro e w' ⟨rfl, rfl⟩)
    go_loopg [] 0 (fun kq wr => Hid (BldS wr B bb st many over ∧ Below B w wr))
    case atStart => exact ⟨H.out.keep (by repeat (first | with_reducible exact Upd.refl _ _ | (with_reducible refine Upd.drewN ?_ _) | (with_reducible refine Upd.drew ?_) | (with_reducible refine Upd.alloc ?_ _))), (Below.refl B w).alloc hBw _⟩
    case round =>
      obtain ⟨hs, hB⟩ := hrel.out
      have HS := Lib.hid hs; have HB := Lib.hid hB
      clear hrel hs hB
      go_wp2
      go_ret
      exact ⟨by show BoolIs _ _; rw [decide_eq_false hp]; simp [BoolIs, hp], HS.out, HB.out⟩
end Go.Proofs.Ytidicfdcjoggpaa
