/-
  dom.Text and dom.Size: all text of a tree, and its sizes.
-/
import Derived.Test.YtidicfdcjoggpaaData
import Derived.Test.YtidicfdcjoggpaaReg
import Derived.Deep.LoopGhost
import Derived.Deep.DeepCutAuto
import Derived.Deep.CutBlock
namespace Go.Proofs.Ytidicfdcjoggpaa
open Go.RowKit
set_option linter.unusedVariables false
set_option linter.unusedSimpArgs false
attribute [local go_sem ↓] Go.wp_at_zero Go.wp_at_succ
attribute [local go_sem] World.cell?_alloc_some
/-- All text of a tree. -/
def nText : List Node → ByteArray
  | [] => ByteArray.empty
  | ⟨_, _, tx, ks⟩ :: r => (tx ++ nText ks) ++ nText r
termination_by l => SizeOf.sizeOf l
theorem nText_nil : nText [] = ByteArray.empty := by rw [nText]
theorem nText_cons (n : Node) (r : List Node) : nText (n :: r) = (n.text ++ nText n.kids) ++ nText r := by
  obtain ⟨nm, ats, tx, ks⟩ := n
  rw [nText]
theorem nText_append (a b : List Node) : nText (a ++ b) = nText a ++ nText b := by
  induction a with
  | nil => rw [List.nil_append, nText_nil, ByteArray.empty_append]
  | cons n a ih => rw [List.cons_append, nText_cons, nText_cons, ih]; simp only [ByteArray.append_assoc]
theorem nText_take (l : List Node) (k : Nat) (h : k < l.length) : nText (l.take (k + 1)) = nText (l.take k) ++ (l[k].text ++ nText l[k].kids) := by
  rw [List.take_succ_eq_append_getElem h, nText_append, nText_cons, nText_nil, ByteArray.append_empty]
theorem nText_le (l : List Node) (k : Nat) (h : k < l.length) : (nText (l.take k)).size + (l[k].text.size + (nText l[k].kids).size) ≤ (nText l).size := by
  have h1 : nText l = nText (l.take (k + 1)) ++ nText (l.drop (k + 1)) := by rw [← nText_append, List.take_append_drop]
  rw [h1, nText_take l k h]
  simp only [ByteArray.size_append]
  omega
theorem kids_lt (l : List Node) (k : Nat) (h : k < l.length) : SizeOf.sizeOf l[k].kids < SizeOf.sizeOf l := by
  have h1 := List.sizeOf_lt_of_mem (List.getElem_mem h)
  generalize l[k] = x at h1 ⊢
  obtain ⟨nm, ats, tx, ks⟩ := x
  simp at h1 ⊢
  omega
def StrIs (s : ByteArray) (e : Ending) : Prop := e = .returned (.string s)
set_option maxHeartbeats 2000000 in
theorem nodesText_any' (n : Nat) : ∀ (l : List Node), SizeOf.sizeOf l ≤ n → ∀ (w : World) (P : FP) (v : Value), SliceIs w P v l → (nText l).size ≤ 1000000000 →
    Calls Try.prog 21 #[v] w fun e w' => StrIs (nText l) e ∧ Upd None w w' := by
  induction n with
  | zero => intro l h; cases l <;> simp at h
  | succ n ih =>
    intro l hn w P v hv hsz
    obtain ⟨A, c, rfl, hlc, hcm⟩ := hv.shape
    unfold maxLen at hcm
    have HV := Lib.hid hv
    have IH := Lib.hid ih
    clear hv ih
    go_enter Try.func21, Try.ntmps21
    go_wp2
    go_loopg [3, 8] l.length (fun kq v3 v8 wr => ∃ k : Nat, v8 = .int .i64 k ∧ v3 = .string (nText (l.take k)) ∧ Hid (k + kq = l.length ∧ Upd None w wr))
    case atStart => exact ⟨0, rfl, by rw [List.take_zero, nText_nil]; rfl, by omega, Upd.refl _ _⟩
    case round =>
      obtain ⟨k, rfl, rfl, hrel⟩ := hrel
      obtain ⟨hk, hu⟩ := hrel.out
      have HU := Lib.hid hu; have HK := Lib.hid hk
      clear hrel hu hk
      cases gk with
      | zero =>
        have hlt : ¬ k < l.length := by have := HK.out; omega
        go_wp2
        go_ret
        exact ⟨by show StrIs _ _; rw [List.take_of_length_le (by omega)]; rfl, HU.out⟩
      | succ k1 =>
        have hlt : k < l.length := by have := HK.out; omega
        have hle := nText_le l k hlt
        obtain ⟨b, o, c', cs, e, -, -, -, ht, hcell⟩ := HV.out.at_ hlt
        simp only [Value.slice.injEq, true_and] at e
        obtain ⟨rfl, -⟩ := e
        obtain ⟨va, vk, rfl, hva, hvk⟩ := Node.open_ ht
        obtain ⟨Av, cv, rfl, -⟩ := hva.shape
        obtain ⟨Ak, ck, rfl, -⟩ := hvk.shape
        have x0 : wr.cell? ⟨b, o + k * 4, none⟩ = some (.string l[k].name) := HU.out.cell (by have := hcell 0 _ rfl; simpa [Rep.sz] using this) id
        have x1 : wr.cell? ⟨b, o + k * 4 + 1, none⟩ = some (.slice Av l[k].attrs.length cv) := HU.out.cell (by have := hcell 1 _ rfl; simpa [Rep.sz] using this) id
        have x2 : wr.cell? ⟨b, o + k * 4 + 2, none⟩ = some (.string l[k].text) := HU.out.cell (by have := hcell 2 _ rfl; simpa [Rep.sz] using this) id
        have x3 : wr.cell? ⟨b, o + k * 4 + 3, none⟩ = some (.slice Ak l[k].kids.length ck) := HU.out.cell (by have := hcell 3 _ rfl; simpa [Rep.sz] using this) id
        have hi1 : (0 : Int) ≤ (k : Int) := by omega
        have hi2 : (k : Int) < (l.length : Int) := by omega
        have HVK := Lib.hid hvk
        clear hcell hva ht hvk
        go_upto_region 5 with fail
        have hgen : ∀ (W : World), W = wr.alloc (.cells #[.string l[k].name, .slice Av l[k].attrs.length cv, .string l[k].text, .slice Ak l[k].kids.length ck] 37) → W.cell? ⟨wr.heap.size, 2, none⟩ = some (.string l[k].text) ∧ W.cell? ⟨wr.heap.size, 3, none⟩ = some (.slice Ak l[k].kids.length ck) ∧ Upd None wr W := by
          rintro W rfl
          have h : (wr.alloc (.cells #[.string l[k].name, .slice Av l[k].attrs.length cv, .string l[k].text, .slice Ak l[k].kids.length ck] 37)).heap[wr.heap.size]? = some (.cells #[.string l[k].name, .slice Av l[k].attrs.length cv, .string l[k].text, .slice Ak l[k].kids.length ck] 37 (0, 0)) := heap_alloc_at rfl
          exact ⟨by rw [cell_of_row _ _ _ _ _ _ h]; rfl, by rw [cell_of_row _ _ _ _ _ _ h]; rfl, by repeat (first | with_reducible exact Upd.refl _ _ | (with_reducible refine Upd.drewN ?_ _) | (with_reducible refine Upd.drew ?_) | (with_reducible refine Upd.alloc ?_ _))⟩
        obtain ⟨W, hW⟩ : ∃ W, W = wr.alloc (.cells #[.string l[k].name, .slice Av l[k].attrs.length cv, .string l[k].text, .slice Ak l[k].kids.length ck] 37) := ⟨_, rfl⟩
        obtain ⟨y2, y3, hu1⟩ := hgen W hW
        rw [← hW]
        have HU1 := Lib.hid hu1
        clear hgen hW hu1 x0 x1 x2 x3
        refine B_start (fun _ => True) (fun w' => w'.cell? ⟨wr.heap.size, 2, none⟩ = some (.string l[k].text) ∧ w'.cell? ⟨wr.heap.size, 3, none⟩ = some (.slice Ak l[k].kids.length ck)) 8 (by kernel_rfl) trivial (by go_keep) 9 rfl #[false, false, false, false, false, false, false, false, false] rfl ?_
        refine B_take2 0 [8] (v := ?v1) (a' := ?a1) (l' := #[true, false, false, false, false, false, false, false, false]) rfl (by kernel_rfl) (by kernel_rfl) (by kernel_rfl) (by kernel_rfl) rfl (fun _ _ _ h => h) (by decide) (Or.inl ⟨by rfl, ?y1⟩) rfl ?e1 ?r1
        case y1 => (intro w' hS; (try dsimp only at hS); go_simp; try (with_reducible rfl))
        case e1 => ((try simp only [Act.put, List.setIfInBounds_toArray, List.set_cons_zero, List.set_cons_succ, List.getElem_toArray, List.getElem_cons_succ, List.getElem_cons_zero]); rfl)
        refine B_take2 1 [8] (v := ?v2) (a' := ?a2) (l' := #[true, true, false, false, false, false, false, false, false]) rfl (by kernel_rfl) (by kernel_rfl) (by kernel_rfl) (by kernel_rfl) rfl (fun _ _ _ h => h) (by decide) (Or.inl ⟨by rfl, ?y2⟩) rfl ?e2 ?r2
        case y2 => (intro w' hS; (try dsimp only at hS); go_simp; try (with_reducible rfl))
        case e2 => ((try simp only [Act.put, List.setIfInBounds_toArray, List.set_cons_zero, List.set_cons_succ, List.getElem_toArray, List.getElem_cons_succ, List.getElem_cons_zero]); rfl)
        refine B_take2 2 [8] (v := ?v3) (a' := ?a3) (l' := #[true, true, true, false, false, false, false, false, false]) rfl (by kernel_rfl) (by kernel_rfl) (by kernel_rfl) (by kernel_rfl) rfl (fun _ _ _ h => h) (by decide) (Or.inl ⟨by rfl, ?y3⟩) rfl ?e3 ?r3
        case y3 => (intro w' hS; (try dsimp only at hS); go_simp; try (with_reducible rfl))
        case e3 => ((try simp only [Act.put, List.setIfInBounds_toArray, List.set_cons_zero, List.set_cons_succ, List.getElem_toArray, List.getElem_cons_succ, List.getElem_cons_zero]); rfl)
        refine B_take2 3 [8] (v := ?v4) (a' := ?a4) (l' := #[true, true, true, true, false, false, false, false, false]) rfl (by kernel_rfl) (by kernel_rfl) (by kernel_rfl) (by kernel_rfl) rfl (fun _ _ _ h => h) (by decide) (Or.inl ⟨by rfl, ?y4⟩) rfl ?e4 ?r4
        case y4 => (intro w' hS; (try dsimp only at hS); go_simp; try (with_reducible rfl))
        case e4 => ((try simp only [Act.put, List.setIfInBounds_toArray, List.set_cons_zero, List.set_cons_succ, List.getElem_toArray, List.getElem_cons_succ, List.getElem_cons_zero]); rfl)
        refine B_take2 4 [8] (v := ?v5) (a' := ?a5) (l' := #[true, true, true, true, true, false, false, false, false]) rfl (by kernel_rfl) (by kernel_rfl) (by kernel_rfl) (by kernel_rfl) rfl (fun _ _ _ h => h) (by decide) (Or.inl ⟨by rfl, ?y5⟩) rfl ?e5 ?r5
        case y5 => (intro w' hS; (try dsimp only at hS); go_simp; try (with_reducible rfl))
        case e5 => ((try simp only [Act.put, List.setIfInBounds_toArray, List.set_cons_zero, List.set_cons_succ, List.getElem_toArray, List.getElem_cons_succ, List.getElem_cons_zero]); rfl)
        refine B_all (rs := [5]) (by kernel_rfl) (by simp) (fun hs1 hs2 => ⟨fun K hK => ?_, trivial⟩)
        refine op_goes rfl (by rfl) ?_
        have HK := Lib.hid hK; clear hK
        go_simp; refine (IH.out l[k].kids (by have := kids_lt l k hlt; omega) _ _ _ (HVK.out.keep (by repeat (first | with_reducible exact HU.out.trans HU1.out (fun _ _ h => h) | (with_reducible refine Upd.drewN ?_ _) | (with_reducible refine Upd.drew ?_) | (with_reducible refine Upd.alloc ?_ _)))) (by omega)).mono ?_; rintro e w2 ⟨rfl, hu2⟩; have Y2 := hu2.cell y2 id; have Y3 := hu2.cell y3 id
        refine HK.out _ _ trivial ((fun _ => ⟨Y2, Y3⟩)) ?_
        clear HK K hs1 hs2
        refine B_norm (l' := #[true, true, true, true, true, true, false, false, false]) (a' := ?a6) rfl ?e6 ?r6
        case e6 => ((try simp only [Act.put, List.setIfInBounds_toArray, List.set_cons_zero, List.set_cons_succ, List.getElem_toArray, List.getElem_cons_succ, List.getElem_cons_zero]); rfl)
        refine B_take1 6 (v := ?v7) (a' := ?a7) (l' := #[true, true, true, true, true, true, true, false, false]) rfl (by kernel_rfl) (by kernel_rfl) (by kernel_rfl) (fun _ _ _ h => h) (by decide) (Or.inl ⟨by rfl, ?y7⟩) rfl ?e7 ?r7
        case y7 => (intro w' hS; go_simp; rw [if_neg (by omega)])
        case e7 => ((try simp only [Act.put, List.setIfInBounds_toArray, List.set_cons_zero, List.set_cons_succ, List.getElem_toArray, List.getElem_cons_succ, List.getElem_cons_zero]); rfl)
        refine B_take1 7 (v := ?v8) (a' := ?a8) (l' := #[true, true, true, true, true, true, true, true, false]) rfl (by kernel_rfl) (by kernel_rfl) (by kernel_rfl) (fun _ _ _ h => h) (by decide) (Or.inl ⟨by rfl, ?y8⟩) rfl ?e8 ?r8
        case y8 => (intro w' hS; go_simp; rw [if_neg (by omega)])
        case e8 => ((try simp only [Act.put, List.setIfInBounds_toArray, List.set_cons_zero, List.set_cons_succ, List.getElem_toArray, List.getElem_cons_succ, List.getElem_cons_zero]); rfl)
        refine B_all (rs := [8]) (by kernel_rfl) (by simp) (fun hs1 hs2 => ⟨fun K hK => ?_, trivial⟩)
        refine op_goes rfl (by rfl) ?_
        have HK := Lib.hid hK; clear hK
        go_simp
        refine HK.out _ _ trivial (fun h => absurd h (by decide)) ?_
        clear HK K hs1 hs2
        refine B_norm (l' := #[true, true, true, true, true, true, true, true, true]) (a' := ?a9) rfl ?e9 ?r9
        case e9 => ((try simp only [Act.put, List.setIfInBounds_toArray, List.set_cons_zero, List.set_cons_succ, List.getElem_toArray, List.getElem_cons_succ, List.getElem_cons_zero]); rfl)
        refine B_done (by kernel_rfl) ?_
        have HU2 := Lib.hid hu2
        clear hu2 Y2 Y3 y2 y3
        go_wp2_with fail
        go_roundg k1
        case measure => omega
        case rel => exact ⟨k + 1, by go_num, by rw [nText_take l k hlt], by have := HK.out; omega, (HU.out.trans HU1.out (fun _ _ h => h)).drew.trans HU2.out (fun _ _ h => h)⟩
theorem nodesText_any (w : World) (P : FP) (v : Value) (l : List Node) (hv : SliceIs w P v l) (hs : (nText l).size ≤ 1000000000) :
    Calls Try.prog 21 #[v] w fun e w' => StrIs (nText l) e ∧ Upd None w w' := nodesText_any' _ l (Nat.le_refl _) w P v hv hs
end Go.Proofs.Ytidicfdcjoggpaa
