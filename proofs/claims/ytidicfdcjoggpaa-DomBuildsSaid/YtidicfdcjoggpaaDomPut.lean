/-
  The tree builder of package dom: the last open element, and putting a node.
-/
import Derived.Test.YtidicfdcjoggpaaReg
import Derived.Test.YtidicfdcjoggpaaData
namespace Go.Proofs.Ytidicfdcjoggpaa
open Go.RowKit
set_option linter.unusedVariables false
set_option linter.unusedSimpArgs false
theorem last_any (bb ob n c : Nat) (w : World) (h0 : w.cell? ⟨bb, 0, none⟩ = some (.slice (some ⟨ob, 0, none⟩) n c)) (hn : 0 < n) (hb : n ≤ 100000) :
    Calls Try.prog 36 #[.pointer (some ⟨bb, 0, none⟩)] w fun e w' => ∃ k, w' = w.drewN k ∧ e = .returned (.pointer (some ⟨ob, (n - 1) * 5, none⟩)) := by
  have h1 : (0 : Int) ≤ (n : Int) - 1 := by omega
  have h2 : (n : Int) - 1 < (n : Int) := by omega
  go_enter Try.func36, Try.ntmps36
  go_wp2
  go_quiet (fail)
  go_wp2
  go_ret
  exact ⟨_, rfl, rfl⟩
theorem underNodes : Try.prog.underlying 25 = some (.slice 37) := by kernel_rfl
theorem infoNode : (Try.prog.info? 37).map (fun i => (i.zero, i.size, i.bytes)) = some (some (.agg #[.string ByteArray.empty, .slice none 0 0, .string ByteArray.empty, .slice none 0 0]), 4, 80) := by kernel_rfl
attribute [local go_sem ↓] Go.wp_at_zero Go.wp_at_succ
theorem put_end {M : FP} {w w1 : World} {B ob g m cap k : Nat} {gv c0 c1 c2 c3 z0 z1 z2 z3 : Value} {cur : Array Value} {xs : List Value} (hgv : gv = .slice (some ⟨g, 0, none⟩) (m + 1) cap) (hx : xs.length = m * 4)
    (hown1 : w1.ownsRow B 37 4 gv (m + 1) (xs ++ [z0, z1, z2, z3])) (hne : g ≠ ob) (hob : w1.heap[ob]? = some (.cells cur 49 (0, 0))) (hu : Upd M w w1) (hg : M g ∨ w.heap.size ≤ g) (ho : M ob) :
    let W := ((((w1.setCell ⟨g, m * 4, none⟩ c0).setCell ⟨g, m * 4 + 1, none⟩ c1).setCell ⟨g, m * 4 + 2, none⟩ c2).setCell ⟨g, m * 4 + 3, none⟩ c3).setCell ⟨ob, k, none⟩ gv
    let W' := ((((w1.setCell ⟨ob, k, none⟩ gv).setCell ⟨g, m * 4, none⟩ c0).setCell ⟨g, m * 4 + 1, none⟩ c1).setCell ⟨g, m * 4 + 2, none⟩ c2).setCell ⟨g, m * 4 + 3, none⟩ c3
    (W.ownsRow B 37 4 gv (m + 1) (xs ++ [c0, c1, c2, c3]) ∧ W.heap[ob]? = some (.cells (cur.setIfInBounds k gv) 49 (0, 0)) ∧ Upd M w W) ∧
    (W'.ownsRow B 37 4 gv (m + 1) (xs ++ [c0, c1, c2, c3]) ∧ W'.heap[ob]? = some (.cells (cur.setIfInBounds k gv) 49 (0, 0)) ∧ Upd M w W') := by
  subst hgv
  have hne' : (some g : Option Nat) ≠ some ob := fun e => hne (Option.some.inj e)
  refine ⟨⟨?_, ?_, ?_⟩, ⟨?_, ?_, ?_⟩⟩
  · exact own_other (own_store (own_store (own_store (own_store0 hown1 hx c0) hx 1 c1) hx 2 c2) hx 3 c3) ⟨ob, k, none⟩ _ hne'
  · refine heap_setCell_same _ _ _ _ _ _ ?_
    rw [heap_setCell_other _ _ _ _ (Ne.symm hne), heap_setCell_other _ _ _ _ (Ne.symm hne), heap_setCell_other _ _ _ _ (Ne.symm hne), heap_setCell_other _ _ _ _ (Ne.symm hne)]
    exact hob
  · exact (((((hu.setCell hg _).setCell hg _).setCell hg _).setCell hg _).setCell (.inl ho) _)
  · exact own_store (own_store (own_store (own_store0 (own_other hown1 ⟨ob, k, none⟩ _ hne') hx c0) hx 1 c1) hx 2 c2) hx 3 c3
  · rw [heap_setCell_other _ _ _ _ (Ne.symm hne), heap_setCell_other _ _ _ _ (Ne.symm hne), heap_setCell_other _ _ _ _ (Ne.symm hne), heap_setCell_other _ _ _ _ (Ne.symm hne)]
    exact heap_setCell_same _ _ _ _ _ _ hob
  · exact (((((hu.setCell (.inl ho) _).setCell hg _).setCell hg _).setCell hg _).setCell hg _)
set_option maxHeartbeats 2000000 in
theorem put_any (B bb ob n c m : Nat) (nm tx : ByteArray) (a1 a3 : Option Addr) (l1 k1 l3 k3 : Nat) (kv : Value) (cur : Array Value) (xs : List Value) (w : World) (h0 : w.cell? ⟨bb, 0, none⟩ = some (.slice (some ⟨ob, 0, none⟩) n c)) (hn : 0 < n) (hb : n ≤ 100000)
    (hob : w.heap[ob]? = some (.cells cur 49 (0, 0))) (hk : cur[(n - 1) * 5 + 3]? = some kv) (hown : w.ownsRow B 37 4 kv m xs) (hm : m ≤ 100000) (hB : B ≤ w.heap.size) (hne1 : some ob ≠ kv.ownBlock) :
    Calls Try.prog 37 #[.pointer (some ⟨bb, 0, none⟩), .agg #[.string nm, .slice a1 l1 k1, .string tx, .slice a3 l3 k3]] w fun e w' => e = .returned (.tuple #[]) ∧ ∃ g cap,
      w'.ownsRow B 37 4 (.slice (some ⟨g, 0, none⟩) (m + 1) cap) (m + 1) (xs ++ [.string nm, .slice a1 l1 k1, .string tx, .slice a3 l3 k3]) ∧ w'.heap[ob]? = some (.cells (cur.setIfInBounds ((n - 1) * 5 + 3) (.slice (some ⟨g, 0, none⟩) (m + 1) cap)) 49 (0, 0)) ∧
      (kv.ownBlock = some g ∨ w.heap.size ≤ g) ∧ Upd (fun b => b = ob ∨ kv.ownBlock = some b) w w' := by
  obtain ⟨i0, hi, hz0, hz1, hz2⟩ := info_parts infoNode
  have hbb := lt_of_cell h0
  have hk0 : w.cell? ⟨ob, (n - 1) * 5 + 3, none⟩ = some kv := by rw [cell_of_row w ob _ cur 49 (0, 0) hob]; exact hk
  have hobl := lt_of_block hob
  have hm1 : (0 : Int) ≤ (m : Int) := by omega
  have hm2 : (m : Int) < ((m + 1 : Nat) : Int) := by omega
  have hm3 : (m : Int) < (m : Int) + 1 := by omega
  obtain ⟨A, cp, rfl⟩ := own_slice hown
  have hne2 : some w.heap.size ≠ (Value.slice A m cp).ownBlock := fun e => by have := (own_lt hown e.symm).2.1; omega
  go_enter Try.func37, Try.ntmps37
  go_wp2_with (go_at_call 36; refine (last_any bb ob n c _ (by simpa using (World.cell?_of_block (w := w) (Below.heap_alloc _ _ _ hbb)).trans h0) hn hb).mono ?_; rintro e w' ⟨k, rfl, rfl⟩)
  refine B_start (fun _ => True) (fun w' => w'.cell? ⟨ob, (n - 1) * 5 + 3, none⟩ = some (.slice A m cp) ∧ w'.cell? ⟨w.heap.size, 0, none⟩ = some (.string nm) ∧ w'.cell? ⟨w.heap.size, 1, none⟩ = some (.slice a1 l1 k1) ∧ w'.cell? ⟨w.heap.size, 2, none⟩ = some (.string tx) ∧ w'.cell? ⟨w.heap.size, 3, none⟩ = some (.slice a3 l3 k3)) 8 (by kernel_rfl) trivial (by go_keep) 15 rfl #[false, false, false, false, false, false, false, false, false, false, false, false, false, false, false] rfl ?_
  refine B_take2 0 [8] (v := ?v1) (a' := ?a1) (l' := #[true, false, false, false, false, false, false, false, false, false, false, false, false, false, false]) rfl (by kernel_rfl) (by kernel_rfl) (by kernel_rfl) (by kernel_rfl) rfl (fun _ _ _ h => h) (by decide) (Or.inl ⟨by rfl, ?y1⟩) rfl ?e1 ?r1
  case y1 => (intro w' hS; (try dsimp only at hS); go_simp; try (with_reducible rfl))
  case e1 => ((try simp only [Act.put, List.setIfInBounds_toArray, List.set_cons_zero, List.set_cons_succ, List.getElem_toArray, List.getElem_cons_succ, List.getElem_cons_zero]); rfl)
  refine B_take2 1 [8] (v := ?v2) (a' := ?a2) (l' := #[true, true, false, false, false, false, false, false, false, false, false, false, false, false, false]) rfl (by kernel_rfl) (by kernel_rfl) (by kernel_rfl) (by kernel_rfl) rfl (fun _ _ _ h => h) (by decide) (Or.inl ⟨by rfl, ?y2⟩) rfl ?e2 ?r2
  case y2 => (intro w' hS; (try dsimp only at hS); go_simp; try (with_reducible rfl))
  case e2 => ((try simp only [Act.put, List.setIfInBounds_toArray, List.set_cons_zero, List.set_cons_succ, List.getElem_toArray, List.getElem_cons_succ, List.getElem_cons_zero]); rfl)
  refine B_take2 2 [8] (v := ?v3) (a' := ?a3) (l' := #[true, true, true, false, false, false, false, false, false, false, false, false, false, false, false]) rfl (by kernel_rfl) (by kernel_rfl) (by kernel_rfl) (by kernel_rfl) rfl (fun _ _ _ h => h) (by decide) (Or.inl ⟨by rfl, ?y3⟩) rfl ?e3 ?r3
  case y3 => (intro w' hS; (try dsimp only at hS); go_simp; try (with_reducible rfl))
  case e3 => ((try simp only [Act.put, List.setIfInBounds_toArray, List.set_cons_zero, List.set_cons_succ, List.getElem_toArray, List.getElem_cons_succ, List.getElem_cons_zero]); rfl)
  refine B_take2 3 [8] (v := ?v4) (a' := ?a4) (l' := #[true, true, true, true, false, false, false, false, false, false, false, false, false, false, false]) rfl (by kernel_rfl) (by kernel_rfl) (by kernel_rfl) (by kernel_rfl) rfl (fun _ _ _ h => h) (by decide) (Or.inl ⟨by rfl, ?y4⟩) rfl ?e4 ?r4
  case y4 => (intro w' hS; (try dsimp only at hS); go_simp; try (with_reducible rfl))
  case e4 => ((try simp only [Act.put, List.setIfInBounds_toArray, List.set_cons_zero, List.set_cons_succ, List.getElem_toArray, List.getElem_cons_succ, List.getElem_cons_zero]); rfl)
  refine B_take2 4 [8] (v := ?v5) (a' := ?a5) (l' := #[true, true, true, true, true, false, false, false, false, false, false, false, false, false, false]) rfl (by kernel_rfl) (by kernel_rfl) (by kernel_rfl) (by kernel_rfl) rfl (fun _ _ _ h => h) (by decide) (Or.inl ⟨by rfl, ?y5⟩) rfl ?e5 ?r5
  case y5 => (intro w' hS; (try dsimp only at hS); go_simp; try (with_reducible rfl))
  case e5 => ((try simp only [Act.put, List.setIfInBounds_toArray, List.set_cons_zero, List.set_cons_succ, List.getElem_toArray, List.getElem_cons_succ, List.getElem_cons_zero]); rfl)
  refine B_take2 5 [8] (v := ?v6) (a' := ?a6) (l' := #[true, true, true, true, true, true, false, false, false, false, false, false, false, false, false]) rfl (by kernel_rfl) (by kernel_rfl) (by kernel_rfl) (by kernel_rfl) rfl (fun _ _ _ h => h) (by decide) (Or.inl ⟨by rfl, ?y6⟩) rfl ?e6 ?r6
  case y6 => (intro w' hS; (try dsimp only at hS); go_simp; try (with_reducible rfl))
  case e6 => ((try simp only [Act.put, List.setIfInBounds_toArray, List.set_cons_zero, List.set_cons_succ, List.getElem_toArray, List.getElem_cons_succ, List.getElem_cons_zero]); rfl)
  refine B_take2 6 [8] (v := ?v7) (a' := ?a7) (l' := #[true, true, true, true, true, true, true, false, false, false, false, false, false, false, false]) rfl (by kernel_rfl) (by kernel_rfl) (by kernel_rfl) (by kernel_rfl) rfl (fun _ _ _ h => h) (by decide) (Or.inl ⟨by rfl, ?y7⟩) rfl ?e7 ?r7
  case y7 => (intro w' hS; (try dsimp only at hS); go_simp; try (with_reducible rfl))
  case e7 => ((try simp only [Act.put, List.setIfInBounds_toArray, List.set_cons_zero, List.set_cons_succ, List.getElem_toArray, List.getElem_cons_succ, List.getElem_cons_zero]); rfl)
  refine B_all (rs := [7]) (by kernel_rfl) (by simp) (fun hs1 hs2 => ⟨fun K hK => ?_, trivial⟩)
  refine op_goes rfl (by rfl) ?_
  have HK := Lib.hid hK; clear hK
  go_simp
  refine HK.out _ _ trivial ((fun _ => by go_keep)) ?_
  clear HK K hs1 hs2
  refine B_norm (l' := #[true, true, true, true, true, true, true, true, false, false, false, false, false, false, false]) (a' := ?a8) rfl ?e8 ?r8
  case e8 => ((try simp only [Act.put, List.setIfInBounds_toArray, List.set_cons_zero, List.set_cons_succ, List.getElem_toArray, List.getElem_cons_succ, List.getElem_cons_zero]); rfl)
  refine B_all (rs := [8]) (by kernel_rfl) (by simp) (fun hs1 hs2 => ⟨fun K hK => ?_, trivial⟩)
  refine op_goes rfl (by rfl) ?_
  have HK := Lib.hid hK; clear hK
  refine wp_append_lies _ _ _ _ (by rfl) B 37 i0 _ 4 80 underNodes hi hz0 hz1 hz2 rfl (by omega) _ m xs (by rfl) (own_none hown (by repeat (first | with_reducible exact Upd.refl _ _ | (with_reducible refine Upd.drewN ?_ _) | (with_reducible refine Upd.drew ?_) | (with_reducible refine Upd.alloc ?_ _)))) ⟨w.heap.size + 1, 0, none⟩ 1 1 [.string ByteArray.empty, .slice none 0 0, .string ByteArray.empty, .slice none 0 0] (by rfl) rfl (World.news_of_block (heap_alloc_at (by simp))) (one4 rfl rfl rfl rfl) (by omega) (by unfold maxLen; omega) (by omega) (by simp <;> omega) _ rfl ?_; intro g cap w1 hown1 hgrow hat hlt; have e0 := own_cells hown1 hown.1 rfl (j := 0) rfl; have e1 := own_cells hown1 hown.1 rfl (j := 1) rfl; have e2 := own_cells hown1 hown.1 rfl (j := 2) rfl; have e3 := own_cells hown1 hown.1 rfl (j := 3) rfl; have f0 := hown1.frozenAt (m * 4); have f1 := hown1.frozenAt (m * 4 + 1); have f2 := hown1.frozenAt (m * 4 + 2); have f3 := hown1.frozenAt (m * 4 + 3); rw [Nat.add_zero] at e0; have hgo : g ≠ ob := (by rintro rfl; rcases hat with h | h; exact hne1 h.symm; simp at h; omega); have hgs : g ≠ w.heap.size := (by rintro rfl; rcases hat with h | h; exact hne2 h.symm; simp at h; omega); have e4 := (hgrow.cell_far ⟨ob, (n - 1) * 5 + 3, none⟩ (by simp <;> omega) hne1).trans ((Upd.cell (M := None) (by repeat (first | with_reducible exact Upd.refl _ _ | (with_reducible refine Upd.drewN ?_ _) | (with_reducible refine Upd.drew ?_) | (with_reducible refine Upd.alloc ?_ _))) hk0 id)); have f4 : w1.frozen? ⟨ob, (n - 1) * 5 + 3, none⟩ = false := (by rw [hgrow.frozen_far _ (by simp <;> omega) hne1]; exact frozen_of_row _ _ _ cur 49 (by exact (Upd.block (M := None) (by repeat (first | with_reducible exact Upd.refl _ _ | (with_reducible refine Upd.drewN ?_ _) | (with_reducible refine Upd.drew ?_) | (with_reducible refine Upd.alloc ?_ _))) _ hobl id).trans hob))
  refine HK.out _ _ trivial (fun h => absurd h (by decide)) ?_
  clear HK K hs1 hs2
  refine B_norm (l' := #[true, true, true, true, true, true, true, true, true, false, false, false, false, false, false]) (a' := ?a9) rfl ?e9 ?r9
  case e9 => ((try simp only [Act.put, List.setIfInBounds_toArray, List.set_cons_zero, List.set_cons_succ, List.getElem_toArray, List.getElem_cons_succ, List.getElem_cons_zero]); rfl)
  refine B_take1 9 (v := ?v10) (a' := ?a10) (l' := #[true, true, true, true, true, true, true, true, true, true, false, false, false, false, false]) rfl (by kernel_rfl) (by kernel_rfl) (by kernel_rfl) (fun _ _ _ h => h) (by decide) (Or.inl ⟨by rfl, ?y10⟩) rfl ?e10 ?r10
  case y10 => (intro w' hS; (try dsimp only at hS); go_simp; try (with_reducible rfl))
  case e10 => ((try simp only [Act.put, List.setIfInBounds_toArray, List.set_cons_zero, List.set_cons_succ, List.getElem_toArray, List.getElem_cons_succ, List.getElem_cons_zero]); rfl)
  refine B_take1 11 (v := ?v11) (a' := ?a11) (l' := #[true, true, true, true, true, true, true, true, true, true, false, true, false, false, false]) rfl (by kernel_rfl) (by kernel_rfl) (by kernel_rfl) (fun _ _ _ h => h) (by decide) (Or.inl ⟨by rfl, ?y11⟩) rfl ?e11 ?r11
  case y11 => (intro w' hS; (try dsimp only at hS); go_simp; try (with_reducible rfl))
  case e11 => ((try simp only [Act.put, List.setIfInBounds_toArray, List.set_cons_zero, List.set_cons_succ, List.getElem_toArray, List.getElem_cons_succ, List.getElem_cons_zero]); rfl)
  refine B_take1 12 (v := ?v12) (a' := ?a12) (l' := #[true, true, true, true, true, true, true, true, true, true, false, true, true, false, false]) rfl (by kernel_rfl) (by kernel_rfl) (by kernel_rfl) (fun _ _ _ h => h) (by decide) (Or.inl ⟨by rfl, ?y12⟩) rfl ?e12 ?r12
  case y12 => (intro w' hS; (try dsimp only at hS); go_simp; try (with_reducible rfl))
  case e12 => ((try simp only [Act.put, List.setIfInBounds_toArray, List.set_cons_zero, List.set_cons_succ, List.getElem_toArray, List.getElem_cons_succ, List.getElem_cons_zero]); rfl)
  refine B_take1 13 (v := ?v13) (a' := ?a13) (l' := #[true, true, true, true, true, true, true, true, true, true, false, true, true, true, false]) rfl (by kernel_rfl) (by kernel_rfl) (by kernel_rfl) (fun _ _ _ h => h) (by decide) (Or.inl ⟨by rfl, ?y13⟩) rfl ?e13 ?r13
  case y13 => (intro w' hS; (try dsimp only at hS); go_simp; try (with_reducible rfl))
  case e13 => ((try simp only [Act.put, List.setIfInBounds_toArray, List.set_cons_zero, List.set_cons_succ, List.getElem_toArray, List.getElem_cons_succ, List.getElem_cons_zero]); rfl)
  refine B_all (rs := [10, 14]) (by kernel_rfl) (by simp) (fun hs1 hs2 => ⟨fun K hK => ?_, ⟨fun K hK => ?_, trivial⟩⟩)
  all_goals refine op_goes rfl (by rfl) ?_
  all_goals (have HK := Lib.hid hK; clear hK)
  · go_simp
    refine HK.out _ _ trivial (fun h => absurd h (by decide)) ?_
    clear HK K hs1 hs2
    refine B_norm (l' := #[true, true, true, true, true, true, true, true, true, true, true, true, true, true, false]) (a' := ?a14) rfl ?e14 ?r14
    case e14 => ((try simp only [Act.put, List.setIfInBounds_toArray, List.set_cons_zero, List.set_cons_succ, List.getElem_toArray, List.getElem_cons_succ, List.getElem_cons_zero]); rfl)
    refine B_all (rs := [14]) (by kernel_rfl) (by simp) (fun hs1 hs2 => ⟨fun K hK => ?_, trivial⟩)
    refine op_goes rfl (by rfl) ?_
    have HK := Lib.hid hK; clear hK
    go_simp
    refine HK.out _ _ trivial (fun h => absurd h (by decide)) ?_
    clear HK K hs1 hs2
    refine B_norm (l' := #[true, true, true, true, true, true, true, true, true, true, true, true, true, true, true]) (a' := ?a15) rfl ?e15 ?r15
    case e15 => ((try simp only [Act.put, List.setIfInBounds_toArray, List.set_cons_zero, List.set_cons_succ, List.getElem_toArray, List.getElem_cons_succ, List.getElem_cons_zero]); rfl)
    refine B_done (by kernel_rfl) ?_
    try go_wp2
    go_end0
    have hu1 : Upd (fun b => b = ob ∨ (Value.slice A m cp).ownBlock = some b) w w1 := Upd.grown (by repeat (first | with_reducible exact Upd.refl _ _ | (with_reducible refine Upd.drewN ?_ _) | (with_reducible refine Upd.drew ?_) | (with_reducible refine Upd.alloc ?_ _))) hgrow (fun k hk => .inl (.inr hk))
    have hob1 : w1.heap[ob]? = some (.cells cur 49 (0, 0)) := (hgrow.block ob (by simp <;> omega) hne1).trans ((Upd.block (M := None) (by repeat (first | with_reducible exact Upd.refl _ _ | (with_reducible refine Upd.drewN ?_ _) | (with_reducible refine Upd.drew ?_) | (with_reducible refine Upd.alloc ?_ _))) _ hobl id).trans hob)
    have hg2 : (Value.slice A m cp).ownBlock = some g ∨ w.heap.size ≤ g := hat.imp id (fun h => by simp at h; omega)
    obtain ⟨h1, h2⟩ := put_end (k := (n - 1) * 5 + 3) (c0 := .string nm) (c1 := .slice a1 l1 k1) (c2 := .string tx) (c3 := .slice a3 l3 k3) rfl hown.1 hown1 hgo hob1 hu1 (hg2.imp .inr id) (.inl rfl)
    exact ⟨rfl, g, cap, h1.1, h1.2.1, hg2, h1.2.2⟩
  · go_simp
    refine HK.out _ _ trivial (fun h => absurd h (by decide)) ?_
    clear HK K hs1 hs2
    refine B_norm (l' := #[true, true, true, true, true, true, true, true, true, true, false, true, true, true, true]) (a' := ?a16) rfl ?e16 ?r16
    case e16 => ((try simp only [Act.put, List.setIfInBounds_toArray, List.set_cons_zero, List.set_cons_succ, List.getElem_toArray, List.getElem_cons_succ, List.getElem_cons_zero]); rfl)
    refine B_all (rs := [10]) (by kernel_rfl) (by simp) (fun hs1 hs2 => ⟨fun K hK => ?_, trivial⟩)
    refine op_goes rfl (by rfl) ?_
    have HK := Lib.hid hK; clear hK
    go_simp
    refine HK.out _ _ trivial (fun h => absurd h (by decide)) ?_
    clear HK K hs1 hs2
    refine B_norm (l' := #[true, true, true, true, true, true, true, true, true, true, true, true, true, true, true]) (a' := ?a17) rfl ?e17 ?r17
    case e17 => ((try simp only [Act.put, List.setIfInBounds_toArray, List.set_cons_zero, List.set_cons_succ, List.getElem_toArray, List.getElem_cons_succ, List.getElem_cons_zero]); rfl)
    refine B_done (by kernel_rfl) ?_
    try go_wp2
    go_end0
    have hu1 : Upd (fun b => b = ob ∨ (Value.slice A m cp).ownBlock = some b) w w1 := Upd.grown (by repeat (first | with_reducible exact Upd.refl _ _ | (with_reducible refine Upd.drewN ?_ _) | (with_reducible refine Upd.drew ?_) | (with_reducible refine Upd.alloc ?_ _))) hgrow (fun k hk => .inl (.inr hk))
    have hob1 : w1.heap[ob]? = some (.cells cur 49 (0, 0)) := (hgrow.block ob (by simp <;> omega) hne1).trans ((Upd.block (M := None) (by repeat (first | with_reducible exact Upd.refl _ _ | (with_reducible refine Upd.drewN ?_ _) | (with_reducible refine Upd.drew ?_) | (with_reducible refine Upd.alloc ?_ _))) _ hobl id).trans hob)
    have hg2 : (Value.slice A m cp).ownBlock = some g ∨ w.heap.size ≤ g := hat.imp id (fun h => by simp at h; omega)
    obtain ⟨h1, h2⟩ := put_end (k := (n - 1) * 5 + 3) (c0 := .string nm) (c1 := .slice a1 l1 k1) (c2 := .string tx) (c3 := .slice a3 l3 k3) rfl hown.1 hown1 hgo hob1 hu1 (hg2.imp .inr id) (.inl rfl)
    exact ⟨rfl, g, cap, h2.1, h2.2.1, hg2, h2.2.2⟩
end Go.Proofs.Ytidicfdcjoggpaa
