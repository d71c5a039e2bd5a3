/-
  dom.Size: how many nodes a tree has, and how deep its elements stand.
-/
import Derived.Test.YtidicfdcjoggpaaDomTextOf
namespace Go.Proofs.Ytidicfdcjoggpaa
open Go.RowKit
set_option linter.unusedVariables false
set_option linter.unusedSimpArgs false
attribute [local go_sem ↓] Go.wp_at_zero Go.wp_at_succ
attribute [local go_sem] World.cell?_alloc_some
/-- How many nodes. -/
def nCount : List Node → Nat
  | [] => 0
  | ⟨_, _, _, ks⟩ :: r => (1 + nCount ks) + nCount r
termination_by l => SizeOf.sizeOf l
theorem nCount_nil : nCount [] = 0 := by rw [nCount]
theorem nCount_cons (n : Node) (r : List Node) : nCount (n :: r) = (1 + nCount n.kids) + nCount r := by
  obtain ⟨nm, ats, tx, ks⟩ := n
  rw [nCount]
theorem nCount_append (a b : List Node) : nCount (a ++ b) = nCount a + nCount b := by
  induction a with
  | nil => rw [List.nil_append, nCount_nil, Nat.zero_add]
  | cons n a ih => rw [List.cons_append, nCount_cons, nCount_cons, ih]; omega
/-- How deep the elements stand. -/
def nDeep : List Node → Nat
  | [] => 0
  | ⟨nm, _, _, ks⟩ :: r => max (if nm = ByteArray.empty then 0 else 1 + nDeep ks) (nDeep r)
termination_by l => SizeOf.sizeOf l
theorem nDeep_nil : nDeep [] = 0 := by rw [nDeep]
theorem nDeep_cons (n : Node) (r : List Node) : nDeep (n :: r) = max (if n.name = ByteArray.empty then 0 else 1 + nDeep n.kids) (nDeep r) := by
  obtain ⟨nm, ats, tx, ks⟩ := n
  rw [nDeep]
theorem nDeep_append (a b : List Node) : nDeep (a ++ b) = max (nDeep a) (nDeep b) := by
  induction a with
  | nil => rw [List.nil_append, nDeep_nil]; omega
  | cons n a ih => rw [List.cons_append, nDeep_cons, nDeep_cons, ih]; omega
theorem nCount_take (l : List Node) (k : Nat) (h : k < l.length) : nCount (l.take (k + 1)) = nCount (l.take k) + (1 + nCount l[k].kids) := by
  rw [List.take_succ_eq_append_getElem h, nCount_append, nCount_cons, nCount_nil]; omega
theorem nDeep_take (l : List Node) (k : Nat) (h : k < l.length) : nDeep (l.take (k + 1)) = max (nDeep (l.take k)) (if l[k].name = ByteArray.empty then 0 else 1 + nDeep l[k].kids) := by
  rw [List.take_succ_eq_append_getElem h, nDeep_append, nDeep_cons, nDeep_nil]; omega
theorem nCount_le (l : List Node) (k : Nat) (h : k < l.length) : nCount (l.take k) + (1 + nCount l[k].kids) ≤ nCount l := by
  have h1 : nCount l = nCount (l.take (k + 1)) + nCount (l.drop (k + 1)) := by rw [← nCount_append, List.take_append_drop]
  rw [h1, nCount_take l k h]
  omega
theorem nDeep_le' (n : Nat) : ∀ l : List Node, SizeOf.sizeOf l ≤ n → nDeep l ≤ nCount l := by
  induction n with
  | zero => intro l h; cases l <;> simp at h
  | succ n ih =>
    intro l h
    cases l with
    | nil => rw [nDeep_nil]; omega
    | cons a r =>
      rw [nDeep_cons, nCount_cons]
      have h1 := ih r (by simp at h; omega)
      have h2 := ih a.kids (by have := kids_lt (a :: r) 0 (by simp); simp only [List.getElem_cons_zero] at this; omega)
      split <;> omega
theorem nDeep_le (l : List Node) : nDeep l ≤ nCount l := nDeep_le' _ l (Nat.le_refl _)
def SizeIs (n d : Nat) (e : Ending) : Prop := e = .returned (.tuple #[.int .i64 n, .int .i64 d])
set_option maxHeartbeats 2000000 in
theorem size_any' (n : Nat) : ∀ (l : List Node), SizeOf.sizeOf l ≤ n → ∀ (w : World) (P : FP) (v : Value), SliceIs w P v l → nCount l ≤ 1000000000 →
    Calls Try.prog 23 #[v] w fun e w' => SizeIs (nCount l) (nDeep l) e ∧ Upd None w w' := by
  induction n with
  | zero => intro l h; cases l <;> simp at h
  | succ n ih =>
    intro l hn w P v hv hsz
    obtain ⟨A, c, rfl, hlc, hcm⟩ := hv.shape
    unfold maxLen at hcm
    have HV := Lib.hid hv
    have IH := Lib.hid ih
    clear hv ih
    go_enter Try.func23, Try.ntmps23
    go_wp2
    go_loopg [4, 5, 12] l.length (fun kq v4 v5 v12 wr => ∃ k : Nat, v12 = .int .i64 k ∧ v4 = .int .i64 (nCount (l.take k) : Nat) ∧ v5 = .int .i64 (nDeep (l.take k) : Nat) ∧ Hid (k + kq = l.length ∧ Upd None w wr))
    case atStart => exact ⟨0, rfl, by rw [List.take_zero, nCount_nil]; rfl, by rw [List.take_zero, nDeep_nil]; rfl, by omega, Upd.refl _ _⟩
    case round =>
      obtain ⟨k, rfl, rfl, rfl, hrel⟩ := hrel
      obtain ⟨hk, hu⟩ := hrel.out
      have HU := Lib.hid hu; have HK := Lib.hid hk
      clear hrel hu hk
      cases gk with
      | zero =>
        have hlt : ¬ k < l.length := by have := HK.out; omega
        go_wp2
        go_ret2
        exact ⟨by show SizeIs _ _ _; rw [List.take_of_length_le (by omega)]; rfl, HU.out⟩
      | succ k1 =>
        have hlt : k < l.length := by have := HK.out; omega
        have hle := nCount_le l k hlt
        have hd1 := nDeep_le (l.take k)
        have hd2 := nDeep_le l[k].kids
        have htk := Lib.hid (nCount_take l k hlt)
        have htd := Lib.hid (nDeep_take l k hlt)
        have hkl := Lib.hid (kids_lt l k hlt)
        obtain ⟨b, o, c', cs, e, -, -, -, ht, hcell⟩ := HV.out.at_ hlt
        simp only [Value.slice.injEq, true_and] at e
        obtain ⟨rfl, -⟩ := e
        obtain ⟨va, vk, rfl, hva, hvk⟩ := Node.open_ ht
        obtain ⟨Av, cv, rfl, -⟩ := hva.shape
        obtain ⟨Ak, ck, rfl, -⟩ := hvk.shape
        have x0 : wr.cell? ⟨b, o + k * 4, none⟩ = some (.string l[k].name) := HU.out.cell (by have := hcell 0 _ rfl; simpa [Rep.sz] using this) id
        have x1 : wr.cell? ⟨b, o + k * 4 + 1, none⟩ = some (.slice Av l[k].attrs.length cv) := HU.out.cell (by have := hcell 1 _ rfl; simpa [Rep.sz] using this) id
        have x2 : wr.cell? ⟨b, o + k * 4 + 2, none⟩ = some (.string l[k].text) := HU.out.cell (by have := hcell 2 _ rfl; simpa [Rep.sz] using this) id
        have x3 : wr.cell? ⟨b, o + k * 4 + 3, none⟩ = some (.slice Ak l[k].kids.length ck) := HU.out.cell (by have := hcell 3 _ rfl; simpa [Rep.sz] using this) id
        have hi1 : (0 : Int) ≤ (k : Int) := by omega
        have hi2 : (k : Int) < (l.length : Int) := by omega
        have HVK := Lib.hid hvk
        clear hcell hva ht hvk
        go_upto_region 5 with fail
        have hgen : ∀ (W : World), W = wr.alloc (.cells #[.string l[k].name, .slice Av l[k].attrs.length cv, .string l[k].text, .slice Ak l[k].kids.length ck] 37) → W.cell? ⟨wr.heap.size, 0, none⟩ = some (.string l[k].name) ∧ W.cell? ⟨wr.heap.size, 3, none⟩ = some (.slice Ak l[k].kids.length ck) ∧ Upd None wr W := by
          rintro W rfl
          have h : (wr.alloc (.cells #[.string l[k].name, .slice Av l[k].attrs.length cv, .string l[k].text, .slice Ak l[k].kids.length ck] 37)).heap[wr.heap.size]? = some (.cells #[.string l[k].name, .slice Av l[k].attrs.length cv, .string l[k].text, .slice Ak l[k].kids.length ck] 37 (0, 0)) := heap_alloc_at rfl
          exact ⟨by rw [cell_of_row _ _ _ _ _ _ h]; rfl, by rw [cell_of_row _ _ _ _ _ _ h]; rfl, by repeat (first | with_reducible exact Upd.refl _ _ | (with_reducible refine Upd.drewN ?_ _) | (with_reducible refine Upd.drew ?_) | (with_reducible refine Upd.alloc ?_ _))⟩
        obtain ⟨W, hW⟩ : ∃ W, W = wr.alloc (.cells #[.string l[k].name, .slice Av l[k].attrs.length cv, .string l[k].text, .slice Ak l[k].kids.length ck] 37) := ⟨_, rfl⟩
        obtain ⟨y0, y3, hu1⟩ := hgen W hW
        rw [← hW]
        have HU1 := Lib.hid (HU.out.trans hu1 (fun _ _ h => h))
        clear hgen hW hu1 x0 x1 x2 x3 HU
        go_wp2_with fail
        refine (IH.out l[k].kids (by have := hkl.out; omega) _ _ _ (HVK.out.keep HU1.out) (by omega)).mono ?_
        rintro e w2 ⟨rfl, hu2⟩
        have Y0 := hu2.cell y0 id
        have HU2 := Lib.hid (HU1.out.trans hu2 (fun _ _ h => h))
        clear hu2 HU1 y3 y0 HVK
        generalize hN : nCount (l.take k) = N at *
        generalize hD : nDeep (l.take k) = D at *
        generalize hN2 : nCount l[k].kids = N2 at *
        generalize hD2 : nDeep l[k].kids = D2 at *
        have HE := Lib.hid (And.intro hN (And.intro hD (And.intro hN2 hD2)))
        clear hN hD hN2 hD2
        by_cases hnm : l[k].name = ByteArray.empty
        · have hb := str_nil hnm
          have HNM := Lib.hid hnm
          rw [hnm] at Y0
          clear hnm
          go_wp2_with fail
          go_roundg k1
          case measure => omega
          case rel => exact ⟨k + 1, by go_num, by rw [htk.out]; go_num, by rw [htd.out, if_pos HNM.out]; go_num, by have := HK.out; omega, HU2.out⟩
        · have hb := str_some hnm
          have HNM := Lib.hid hnm
          clear hnm
          by_cases hd : (D : Int) < 1 + (D2 : Int)
          · go_wp2_with fail
            go_roundg k1
            case measure => omega
            case rel => exact ⟨k + 1, by go_num, by rw [htk.out]; go_num, by rw [htd.out, if_neg HNM.out]; go_num, by have := HK.out; omega, HU2.out⟩
          · go_wp2_with fail
            go_roundg k1
            case measure => omega
            case rel => exact ⟨k + 1, by go_num, by rw [htk.out]; go_num, by rw [htd.out, if_neg HNM.out]; go_num, by have := HK.out; omega, HU2.out⟩
theorem size_any (w : World) (P : FP) (v : Value) (l : List Node) (hv : SliceIs w P v l) (hs : nCount l ≤ 1000000000) :
    Calls Try.prog 23 #[v] w fun e w' => SizeIs (nCount l) (nDeep l) e ∧ Upd None w w' := size_any' _ l (Nat.le_refl _) w P v hv hs
end Go.Proofs.Ytidicfdcjoggpaa
