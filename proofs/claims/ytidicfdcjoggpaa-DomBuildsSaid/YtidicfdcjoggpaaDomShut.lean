/-
  The tree builder of package dom: closing the innermost element.
-/
import Derived.Test.YtidicfdcjoggpaaDomCount
import Derived.IntWalk
namespace Go.Proofs.Ytidicfdcjoggpaa
open Go.RowKit
set_option linter.unusedVariables false
set_option linter.unusedSimpArgs false
attribute [local go_sem ↓] Go.wp_at_zero Go.wp_at_succ
def El.node (e : El) : Node := ⟨e.name, e.attrs, ByteArray.empty, e.kids⟩
/-- The innermost element is no longer open: the state with it struck, and it as a node. -/
theorem shut_state {w w1 : World} {B bb ob cap : Nat} {gs : List Gh} {t : Gh} {many : Int} {over : Bool} (h : BldG w B bb ob cap (gs ++ [t]) many over) (hu : Upd (fun b => b = bb) w w1)
    (hblk : w1.heap[bb]? = some (.cells #[.slice (some ⟨ob, 0, none⟩) gs.length cap, .int .i64 many, .bool over] 52 (0, 0))) :
    BldG w1 B bb ob cap gs many over ∧ Rep.Is w1 (Free B w1.heap.size (Mut bb ob gs)) t.el.node [.string t.el.name, t.va, .string ByteArray.empty, t.kv] := by
  have ht := h.dat t (by simp)
  obtain ⟨cur, hcur, hBo, hnc, hcm, hcs, htake⟩ := h.cur
  have hsame : Same (Free B w.heap.size (Mut bb ob (gs ++ [t]))) w w1 := fun b hb => hu.block b hb.2.1 (fun e => hb.2.2 (.inl e))
  have hmono := Free.new (B := B) (bb := bb) (ob := ob) (gs := gs ++ [t]) (gs' := gs) hu.size (fun b _ hb => by
    rcases hb with rfl | rfl | ⟨x, hx, hk⟩
    · exact .inl rfl
    · exact .inr (.inl rfl)
    · exact .inr (.inr ⟨x, by simp [hx], hk⟩))
  have hp := List.pairwise_append.1 h.apart
  have hcur1 : w1.heap[ob]? = some (.cells cur 49 (0, 0)) := (hu.block ob (lt_of_block hcur) (fun e => h.ne e.symm)).trans hcur
  have step : ∀ x ∈ gs ++ [t], Mine w1 B 37 (Free B w.heap.size (Mut bb ob (gs ++ [t]))) x.kv x.el.kids := fun x hx =>
    (h.dat x hx).2.1.step (fun b hb => hsame b hb.1) (fun k hk => hu.block k (own_lt (h.dat x hx).2.1.choose_spec.1 hk).2.1 (by rintro rfl; exact (h.dat x hx).2.2.1 hk)) hu.size
  refine ⟨⟨hblk, h.hb, ⟨flat_len gs, .inr ⟨ob, cap, cur, rfl, hBo, hcur1, by simp at hnc; omega, hcm, hcs, ?_⟩⟩, h.ne, fun x hx => ?_, hp.1⟩, Node.mk_ (ht.1.frame hsame hmono) ?_⟩
  · have : (cur.toList.take ((gs ++ [t]).length * 5)).take (gs.length * 5) = cur.toList.take (gs.length * 5) := by rw [List.take_take]; congr 1; simp
    rw [← this, htake, List.flatMap_append, ← flat_len gs, List.take_left]
  · have hd := h.dat x (by simp [hx])
    refine ⟨hd.1.frame hsame hmono, ?_, hd.2.2⟩
    obtain ⟨cs, h1, h2⟩ := step x (by simp [hx])
    exact ⟨cs, h1, h2.frame (Same.refl _ _) (fun b hb => ⟨hmono b hb.1, hb.2⟩)⟩
  · refine (step t (by simp)).slice.frame (Same.refl _ _) (fun b hb => ?_)
    rcases hb with hb | hb
    · exact hmono b hb
    · have hl := own_lt ht.2.1.choose_spec.1 hb
      refine ⟨hl.1, Nat.lt_of_lt_of_le hl.2.1 hu.size, ?_⟩
      rintro (rfl | rfl | ⟨x, hx, hk⟩)
      · exact ht.2.2.1 hb
      · exact ht.2.2.2 hb
      · exact hp.2.2 x hx t (by simp) b hk hb
set_option maxHeartbeats 1000000 in
theorem shut_bld {w : World} {B bb ob cap : Nat} {gs : List Gh} {u t : Gh} {many : Int} {over : Bool} (h : BldG w B bb ob cap (gs ++ [u] ++ [t]) many over) (hn : gs.length < 10000) (hm : u.el.kids.length ≤ 100000) :
    Calls Try.prog 30 #[.pointer (some ⟨bb, 0, none⟩)] w fun e w' => e = .returned (.tuple #[]) ∧ ∃ u' : Gh, u'.el = ⟨u.el.name, u.el.attrs, u.el.kids ++ [t.el.node]⟩ ∧ BldG w' B bb ob cap (gs ++ [u']) many over ∧ Below B w w' := by
  obtain ⟨cur, hcur, hBo, hnc, hcm, hcs, htake⟩ := h.cur
  obtain ⟨N, hN⟩ : ∃ N, N = (gs ++ [u]).length := ⟨_, rfl⟩
  have HN := Lib.hid hN
  have hlen : (gs ++ [u] ++ [t]).length = N + 1 := by rw [hN]; simp
  have hN0 : 0 < N := by rw [hN]; simp
  have hN1 : N ≤ 10000 := by rw [hN]; simp; omega
  have hblk := h.blk
  rw [hlen] at hblk hnc
  have hg : ∀ j v, t.cells[j]? = some v → cur[N * 5 + j]? = some v := fun j v hv => by rw [hN]; exact h.get htake (i := (gs ++ [u]).length) (by simp) (by simpa using hv)
  have hbb := lt_of_block hblk
  have hbo := lt_of_block hcur
  have b0 : w.cell? ⟨bb, 0, none⟩ = some (.slice (some ⟨ob, 0, none⟩) (N + 1) cap) := by rw [cell_of_row w bb _ _ _ _ hblk]; rfl
  have o0 : w.cell? ⟨ob, N * 5, none⟩ = some (.string t.el.name) := by rw [cell_of_row w ob _ _ _ _ hcur]; exact hg 0 _ rfl
  have o1 : w.cell? ⟨ob, N * 5 + 1, none⟩ = some t.va := by rw [cell_of_row w ob _ _ _ _ hcur]; exact hg 1 _ rfl
  have o2 : w.cell? ⟨ob, N * 5 + 2, none⟩ = some (.string ByteArray.empty) := by rw [cell_of_row w ob _ _ _ _ hcur]; exact hg 2 _ rfl
  have o3 : w.cell? ⟨ob, N * 5 + 3, none⟩ = some t.kv := by rw [cell_of_row w ob _ _ _ _ hcur]; exact hg 3 _ rfl
  have ht := h.dat t (by simp)
  obtain ⟨⟨A1, k1, e1, _⟩, ⟨A3, k3, e3⟩⟩ := And.intro ht.1 ht.2.1.shape
  rw [e1] at o1; rw [e3] at o3
  have hf := frozen_of_row w bb 0 _ _ hblk
  have hne : bb ≠ ob := h.ne
  have hz1 : (0 : Int) ≤ (N : Int) := by omega
  have hz2 : (N : Int) ≤ (cap : Int) := by omega
  have Hh := Lib.hid h
  have E1 := Lib.hid e1; have E3 := Lib.hid e3
  clear h htake hg hcs hlen hN hnc hcm ht e1 e3
  go_enter Try.func30, Try.ntmps30
  go_wp2_with (go_at_call 36; refine (last_any bb ob (N + 1) cap _ b0 (by omega) (by omega)).mono ?_; rintro e w' ⟨k, rfl, rfl⟩)
  have hX : (w.alloc (.cells #[.string t.el.name, .slice A1 t.el.attrs.length k1, .string ByteArray.empty, .slice A3 t.el.kids.length k3] 37)).heap[w.heap.size]? = some (.cells #[.string t.el.name, .slice A1 t.el.attrs.length k1, .string ByteArray.empty, .slice A3 t.el.kids.length k3] 37 (0, 0)) := heap_alloc_at rfl
  have hB1 := (Below.heap_alloc w (.cells #[.string t.el.name, .slice A1 t.el.attrs.length k1, .string ByteArray.empty, .slice A3 t.el.kids.length k3] 37) bb hbb).trans hblk
  have u1 : Upd None w ((w.alloc (.cells #[.string t.el.name, .slice A1 t.el.attrs.length k1, .string ByteArray.empty, .slice A3 t.el.kids.length k3] 37)).drewN k) := by repeat (first | with_reducible exact Upd.refl _ _ | (with_reducible refine Upd.drewN ?_ _) | (with_reducible refine Upd.drew ?_) | (with_reducible refine Upd.alloc ?_ _))
  replace hX : ((w.alloc (.cells #[.string t.el.name, .slice A1 t.el.attrs.length k1, .string ByteArray.empty, .slice A3 t.el.kids.length k3] 37)).drewN k).heap[w.heap.size]? = _ := hX
  replace hB1 : ((w.alloc (.cells #[.string t.el.name, .slice A1 t.el.attrs.length k1, .string ByteArray.empty, .slice A3 t.el.kids.length k3] 37)).drewN k).heap[bb]? = _ := hB1
  generalize (w.alloc (.cells #[.string t.el.name, .slice A1 t.el.attrs.length k1, .string ByteArray.empty, .slice A3 t.el.kids.length k3] 37)).drewN k = w1 at hX hB1 u1 ⊢
  have b1 : w1.cell? ⟨bb, 0, none⟩ = some (.slice (some ⟨ob, 0, none⟩) (N + 1) cap) := by rw [cell_of_row w1 bb _ _ _ _ hB1]; rfl
  have f1 := frozen_of_row w1 bb 0 _ _ hB1
  clear b0 o0 o1 o2 o3 hf
  have hwr : IntKind.i64.wrap (N : Int) = N := IntWalk.i64_in _ (by omega)
  refine B_start (fun _ => True) (fun w' => w'.cell? ⟨bb, 0, none⟩ = some (.slice (some ⟨ob, 0, none⟩) (N + 1) cap)) 14 (by kernel_rfl) trivial (by go_keep) 15 rfl #[false, false, false, false, false, false, false, false, false, false, false, false, false, false, false] rfl ?_
  refine B_take2 0 [14] (v := ?v1) (a' := ?a1) (l' := #[true, false, false, false, false, false, false, false, false, false, false, false, false, false, false]) rfl (by kernel_rfl) (by kernel_rfl) (by kernel_rfl) (by kernel_rfl) rfl (fun _ _ _ h => h) (by decide) (Or.inl ⟨by rfl, ?y1⟩) rfl ?e1 ?r1
  case y1 => (intro w' hS; (try dsimp only at hS); go_simp; try (with_reducible rfl))
  case e1 => ((try simp only [Act.put, List.setIfInBounds_toArray, List.set_cons_zero, List.set_cons_succ, List.getElem_toArray, List.getElem_cons_succ, List.getElem_cons_zero]); rfl)
  refine B_take2 1 [14] (v := ?v2) (a' := ?a2) (l' := #[true, true, false, false, false, false, false, false, false, false, false, false, false, false, false]) rfl (by kernel_rfl) (by kernel_rfl) (by kernel_rfl) (by kernel_rfl) rfl (fun _ _ _ h => h) (by decide) (Or.inl ⟨by rfl, ?y2⟩) rfl ?e2 ?r2
  case y2 => (intro w' hS; (try dsimp only at hS); go_simp; try (with_reducible rfl))
  case e2 => ((try simp only [Act.put, List.setIfInBounds_toArray, List.set_cons_zero, List.set_cons_succ, List.getElem_toArray, List.getElem_cons_succ, List.getElem_cons_zero]); rfl)
  refine B_take2 2 [14] (v := ?v3) (a' := ?a3) (l' := #[true, true, true, false, false, false, false, false, false, false, false, false, false, false, false]) rfl (by kernel_rfl) (by kernel_rfl) (by kernel_rfl) (by kernel_rfl) rfl (fun _ _ _ h => h) (by decide) (Or.inl ⟨by rfl, ?y3⟩) rfl ?e3 ?r3
  case y3 => (intro w' hS; (try dsimp only at hS); go_simp; try (with_reducible rfl))
  case e3 => ((try simp only [Act.put, List.setIfInBounds_toArray, List.set_cons_zero, List.set_cons_succ, List.getElem_toArray, List.getElem_cons_succ, List.getElem_cons_zero]); rfl)
  refine B_take2 3 [14] (v := ?v4) (a' := ?a4) (l' := #[true, true, true, true, false, false, false, false, false, false, false, false, false, false, false]) rfl (by kernel_rfl) (by kernel_rfl) (by kernel_rfl) (by kernel_rfl) rfl (fun _ _ _ h => h) (by decide) (Or.inl ⟨by rfl, ?y4⟩) rfl ?e4 ?r4
  case y4 => (intro w' hS; (try dsimp only at hS); go_simp; try (with_reducible rfl))
  case e4 => ((try simp only [Act.put, List.setIfInBounds_toArray, List.set_cons_zero, List.set_cons_succ, List.getElem_toArray, List.getElem_cons_succ, List.getElem_cons_zero]); rfl)
  refine B_take2 4 [14] (v := ?v5) (a' := ?a5) (l' := #[true, true, true, true, true, false, false, false, false, false, false, false, false, false, false]) rfl (by kernel_rfl) (by kernel_rfl) (by kernel_rfl) (by kernel_rfl) rfl (fun _ _ _ h => h) (by decide) (Or.inl ⟨by rfl, ?y5⟩) rfl ?e5 ?r5
  case y5 => (intro w' hS; (try dsimp only at hS); go_simp; try (with_reducible rfl))
  case e5 => ((try simp only [Act.put, List.setIfInBounds_toArray, List.set_cons_zero, List.set_cons_succ, List.getElem_toArray, List.getElem_cons_succ, List.getElem_cons_zero]); rfl)
  refine B_take2 5 [14] (v := ?v6) (a' := ?a6) (l' := #[true, true, true, true, true, true, false, false, false, false, false, false, false, false, false]) rfl (by kernel_rfl) (by kernel_rfl) (by kernel_rfl) (by kernel_rfl) rfl (fun _ _ _ h => h) (by decide) (Or.inl ⟨by rfl, ?y6⟩) rfl ?e6 ?r6
  case y6 => (intro w' hS; (try dsimp only at hS); go_simp; try (with_reducible rfl))
  case e6 => ((try simp only [Act.put, List.setIfInBounds_toArray, List.set_cons_zero, List.set_cons_succ, List.getElem_toArray, List.getElem_cons_succ, List.getElem_cons_zero]); rfl)
  refine B_take2 6 [14] (v := ?v7) (a' := ?a7) (l' := #[true, true, true, true, true, true, true, false, false, false, false, false, false, false, false]) rfl (by kernel_rfl) (by kernel_rfl) (by kernel_rfl) (by kernel_rfl) rfl (fun _ _ _ h => h) (by decide) (Or.inl ⟨by rfl, ?y7⟩) rfl ?e7 ?r7
  case y7 => (intro w' hS; (try dsimp only at hS); go_simp; try (with_reducible rfl))
  case e7 => ((try simp only [Act.put, List.setIfInBounds_toArray, List.set_cons_zero, List.set_cons_succ, List.getElem_toArray, List.getElem_cons_succ, List.getElem_cons_zero]); rfl)
  refine B_take2 7 [14] (v := ?v8) (a' := ?a8) (l' := #[true, true, true, true, true, true, true, true, false, false, false, false, false, false, false]) rfl (by kernel_rfl) (by kernel_rfl) (by kernel_rfl) (by kernel_rfl) rfl (fun _ _ _ h => h) (by decide) (Or.inl ⟨by rfl, ?y8⟩) rfl ?e8 ?r8
  case y8 => (intro w' hS; (try dsimp only at hS); go_simp; try (with_reducible rfl))
  case e8 => ((try simp only [Act.put, List.setIfInBounds_toArray, List.set_cons_zero, List.set_cons_succ, List.getElem_toArray, List.getElem_cons_succ, List.getElem_cons_zero]); rfl)
  refine B_take2 8 [14] (v := ?v9) (a' := ?a9) (l' := #[true, true, true, true, true, true, true, true, true, false, false, false, false, false, false]) rfl (by kernel_rfl) (by kernel_rfl) (by kernel_rfl) (by kernel_rfl) rfl (fun _ _ _ h => h) (by decide) (Or.inl ⟨by rfl, ?y9⟩) rfl ?e9 ?r9
  case y9 => (intro w' hS; (try dsimp only at hS); go_simp; try (with_reducible rfl))
  case e9 => ((try simp only [Act.put, List.setIfInBounds_toArray, List.set_cons_zero, List.set_cons_succ, List.getElem_toArray, List.getElem_cons_succ, List.getElem_cons_zero]); rfl)
  refine B_take2 9 [14] (v := ?v10) (a' := ?a10) (l' := #[true, true, true, true, true, true, true, true, true, true, false, false, false, false, false]) rfl (by kernel_rfl) (by kernel_rfl) (by kernel_rfl) (by kernel_rfl) rfl (fun _ _ _ h => h) (by decide) (Or.inl ⟨by rfl, ?y10⟩) rfl ?e10 ?r10
  case y10 => (intro w' hS; (try dsimp only at hS); go_simp; try (with_reducible rfl))
  case e10 => ((try simp only [Act.put, List.setIfInBounds_toArray, List.set_cons_zero, List.set_cons_succ, List.getElem_toArray, List.getElem_cons_succ, List.getElem_cons_zero]); rfl)
  refine B_take2 10 [14] (v := ?v11) (a' := ?a11) (l' := #[true, true, true, true, true, true, true, true, true, true, true, false, false, false, false]) rfl (by kernel_rfl) (by kernel_rfl) (by kernel_rfl) (by kernel_rfl) rfl (fun _ _ _ h => h) (by decide) (Or.inl ⟨by rfl, ?y11⟩) rfl ?e11 ?r11
  case y11 => (intro w' hS; (try dsimp only at hS); go_simp; try (with_reducible rfl))
  case e11 => ((try simp only [Act.put, List.setIfInBounds_toArray, List.set_cons_zero, List.set_cons_succ, List.getElem_toArray, List.getElem_cons_succ, List.getElem_cons_zero]); rfl)
  refine B_take2 11 [14] (v := ?v12) (a' := ?a12) (l' := #[true, true, true, true, true, true, true, true, true, true, true, true, false, false, false]) rfl (by kernel_rfl) (by kernel_rfl) (by kernel_rfl) (by kernel_rfl) rfl (fun _ _ _ h => h) (by decide) (Or.inl ⟨by rfl, ?y12⟩) rfl ?e12 ?r12
  case y12 => (intro w' hS; (try dsimp only at hS); go_simp; try (with_reducible rfl))
  case e12 => ((try simp only [Act.put, List.setIfInBounds_toArray, List.set_cons_zero, List.set_cons_succ, List.getElem_toArray, List.getElem_cons_succ, List.getElem_cons_zero]); rfl)
  refine B_take1 12 (v := ?v13) (a' := ?a13) (l' := #[true, true, true, true, true, true, true, true, true, true, true, true, true, false, false]) rfl (by kernel_rfl) (by kernel_rfl) (by kernel_rfl) (fun _ _ _ h => h) (by decide) (Or.inl ⟨by rfl, ?y13⟩) rfl ?e13 ?r13
  case y13 => (intro w' hS; (try dsimp only at hS); go_simp; try (with_reducible rfl))
  case e13 => ((try simp only [Act.put, List.setIfInBounds_toArray, List.set_cons_zero, List.set_cons_succ, List.getElem_toArray, List.getElem_cons_succ, List.getElem_cons_zero]); rfl)
  refine B_take1 13 (v := ?v14) (a' := ?a14) (l' := #[true, true, true, true, true, true, true, true, true, true, true, true, true, true, false]) rfl (by kernel_rfl) (by kernel_rfl) (by kernel_rfl) (fun _ _ _ h => h) (by decide) (Or.inl ⟨by rfl, ?y14⟩) rfl ?e14 ?r14
  case y14 => (intro w' hS; (try dsimp only at hS); go_simp; try (with_reducible rfl))
  case e14 => ((try simp only [Act.put, List.setIfInBounds_toArray, List.set_cons_zero, List.set_cons_succ, List.getElem_toArray, List.getElem_cons_succ, List.getElem_cons_zero]); rfl)
  clear hwr
  refine B_all (rs := [14]) (by kernel_rfl) (by simp) (fun hs1 hs2 => ⟨fun K hK => ?_, trivial⟩)
  refine op_goes rfl (by rfl) ?_
  have HK := Lib.hid hK; clear hK
  go_simp
  refine HK.out _ _ trivial (fun h => absurd h (by decide)) ?_
  clear HK K hs1 hs2
  refine B_norm (l' := #[true, true, true, true, true, true, true, true, true, true, true, true, true, true, true]) (a' := ?a15) rfl ?e15 ?r15
  case e15 => ((try simp only [Act.put, List.setIfInBounds_toArray, List.set_cons_zero, List.set_cons_succ, List.getElem_toArray, List.getElem_cons_succ, List.getElem_cons_zero]); rfl)
  refine B_done (by kernel_rfl) ?_
  have hB2 := heap_setCell_same w1 bb 0 _ _ (.slice (some ⟨ob, 0, none⟩) N cap) hB1
  have hX2 := (heap_setCell_other w1 ⟨bb, 0, none⟩ w.heap.size (.slice (some ⟨ob, 0, none⟩) N cap) (by show w.heap.size ≠ bb; omega)).trans hX
  have u2 : Upd (fun b => b = bb) w (w1.setCell ⟨bb, 0, none⟩ (.slice (some ⟨ob, 0, none⟩) N cap)) := Upd.setCell (u1.mono (fun _ _ h => h.elim)) (by exact .inl rfl) _
  simp only [List.setIfInBounds_toArray, List.set_cons_zero, List.set_cons_succ] at hB2
  generalize w1.setCell ⟨bb, 0, none⟩ (.slice (some ⟨ob, 0, none⟩) N cap) = w2 at hB2 hX2 u2 ⊢
  clear hB1 hX u1 b1 f1
  have x0 : w2.cell? ⟨w.heap.size, 0, none⟩ = some (.string t.el.name) := by rw [cell_of_row w2 _ _ _ _ _ hX2]; rfl
  have x1 : w2.cell? ⟨w.heap.size, 1, none⟩ = some (.slice A1 t.el.attrs.length k1) := by rw [cell_of_row w2 _ _ _ _ _ hX2]; rfl
  have x2 : w2.cell? ⟨w.heap.size, 2, none⟩ = some (.string ByteArray.empty) := by rw [cell_of_row w2 _ _ _ _ _ hX2]; rfl
  have x3 : w2.cell? ⟨w.heap.size, 3, none⟩ = some (.slice A3 t.el.kids.length k3) := by rw [cell_of_row w2 _ _ _ _ _ hX2]; rfl
  go_wp2_with fail
  have h := Hh.out
  obtain ⟨h1, h2⟩ := shut_state h u2 (by rw [← HN.out]; exact hB2)
  rw [E1.out, E3.out] at h2
  have hk : ∀ w3, Upd None w2 w3 → BldG w3 B bb ob cap (gs ++ [u]) many over ∧ Rep.Is w3 (Free B w3.heap.size (Mut bb ob (gs ++ [u]))) t.el.node [.string t.el.name, .slice A1 t.el.attrs.length k1, .string ByteArray.empty, .slice A3 t.el.kids.length k3] := fun w3 h3 =>
    ⟨h1.keep h3, Rep.frame (fun b hb => h3.block b hb.2.1 id) (fun b hb => ⟨hb.1, Nat.lt_of_lt_of_le hb.2.1 h3.size, hb.2.2⟩) h2⟩
  refine (put_bld (hk _ (by repeat (first | with_reducible exact Upd.refl _ _ | (with_reducible refine Upd.drewN ?_ _) | (with_reducible refine Upd.drew ?_) | (with_reducible refine Upd.alloc ?_ _)))).1 (by omega) hm _ _ (hk _ (by repeat (first | with_reducible exact Upd.refl _ _ | (with_reducible refine Upd.drewN ?_ _) | (with_reducible refine Upd.drew ?_) | (with_reducible refine Upd.alloc ?_ _)))).2).mono ?_
  rintro e w' ⟨rfl, u', hu', hb', hw'⟩
  go_wp2
  go_end0
  exact ⟨rfl, u', hu', hb', ((Below.refl B w).trans ((u2.mono (N := fun b => B ≤ b) (by rintro x _ rfl; exact h.hb)).belowB (Nat.le_trans h.hb (Nat.le_of_lt hbb)))).drew.trans hw'⟩
end Go.Proofs.Ytidicfdcjoggpaa
