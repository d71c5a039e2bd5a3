/-
 The library's sort of texts, lifted to what is told of memory; what rises.
-/
import Derived.Test.YtfaodacmdlnabaaGreatDoorML
import Derived.Shelf.Sort.Plain
namespace Go.Proofs.YtfaodacmdlnabaaGreatDoor.M
open Go.RowKit Go.Sort
set_option linter.unusedVariables false
set_option linter.unusedSimpArgs false
variable {P : Program} {W : World}
def bytesL (x : Str) : List UInt8 := x.data.toList
def ofL (l : List UInt8) : Str := ⟨l.toArray⟩
theorem ofL_bytesL (x : Str) : ofL (bytesL x) = x := by cases x; rfl
theorem bytesL_ofL (l : List UInt8) : bytesL (ofL l) = l := rfl
theorem bytesL_inj {x y : Str} (h : bytesL x = bytesL y) : x = y := by rw [← ofL_bytesL x, h, ofL_bytesL]
theorem strLt_iff (a b : Str) : strLt a b = decide (bytesL a < bytesL b) := by
 have key : ∀ (x y : List UInt8), Op.bytesLess x y = decide (x < y) := by
  intro x
  induction x with
  | nil => intro y; cases y <;> simp [Op.bytesLess]
  | cons a x ih =>
   intro y
   cases y with
   | nil => simp [Op.bytesLess]
   | cons b y =>
    rw [Op.bytesLess, ih]
    simp only [List.cons_lt_cons_iff]
    by_cases h1 : a < b <;> by_cases h2 : a = b <;> by_cases h3 : x < y <;> simp [h1, h2, h3]
 unfold strLt
 rw [key, ByteArray.toList_eq, ByteArray.toList_eq]; rfl
def Lt (a b : Str) : Prop := bytesL a < bytesL b
theorem Lt.irrefl (a : Str) : ¬ Lt a a := List.lt_irrefl _
theorem Lt.trans {a b c : Str} (h : Lt a b) (k : Lt b c) : Lt a c := List.lt_trans h k
theorem Lt.total (a b : Str) : Lt a b ∨ a = b ∨ Lt b a := by
 by_cases h : bytesL a < bytesL b
 ·exact .inl h
 ·by_cases h2 : bytesL b < bytesL a
  ·exact .inr (.inr h2)
  ·exact .inr (.inl (bytesL_inj (List.le_antisymm (List.not_lt.1 h2) (List.not_lt.1 h))))
theorem strLt_eq (a b : Str) : strLt a b = true ↔ Lt a b := by rw [strLt_iff]; exact decide_eq_true_iff
instance (a b : Str) : Decidable (Lt a b) := inferInstanceAs (Decidable (bytesL a < bytesL b))
def sortS (l : List Str) : List Str := ((l.map bytesL).mergeSort fun x y => decide (x ≤ y)).map ofL
theorem sortS_perm (l : List Str) : (sortS l).Perm l := by
 have h := (List.mergeSort_perm (l.map bytesL) fun x y => decide (x ≤ y)).map ofL
 refine h.trans ?_
 rw [List.map_map]
 have : (ofL ∘ bytesL) = id := by funext x; exact ofL_bytesL x
 rw [this, List.map_id]
theorem sortS_rises (l : List Str) : (sortS l).Pairwise fun a b => a = b ∨ Lt a b := by
 have h := List.pairwise_mergeSort (le := fun (x y : List UInt8) => decide (x ≤ y)) (fun a b c h1 h2 => by
   simp only [decide_eq_true_eq] at *; exact List.le_trans h1 h2) (fun a b => by
   simp only [Bool.or_eq_true, decide_eq_true_eq]; exact List.le_total a b) (l.map bytesL)
 unfold sortS
 rw [List.pairwise_map]
 refine h.imp fun {a b} hab => ?_
 simp only [decide_eq_true_eq] at hab
 by_cases e : a = b
 ·exact .inl (by rw [e])
 ·refine .inr ?_
  show a < b
  exact Classical.byContradiction fun hn => e (List.le_antisymm hab (List.not_lt.1 hn))
/-- What rises strictly is told by its members. -/
theorem rises_eq : ∀ {l m : List Str}, l.Pairwise Lt → m.Pairwise Lt → (∀ x, x ∈ l ↔ x ∈ m) → l = m
 | [], [], _, _, _ => rfl
 | [], y :: m, _, _, h => absurd ((h y).2 (by simp)) (by simp)
 | x :: l, [], _, _, h => absurd ((h x).1 (by simp)) (by simp)
 | x :: l, y :: m, hl, hm, h => by
  obtain ⟨h1, h2⟩ := List.pairwise_cons.1 hl
  obtain ⟨k1, k2⟩ := List.pairwise_cons.1 hm
  have hxy : x = y := by
   rcases List.mem_cons.1 ((h x).1 (by simp)) with e | e
   ·exact e
   ·rcases List.mem_cons.1 ((h y).2 (by simp)) with e2 | e2
    ·exact e2.symm
    ·exact absurd ((h1 y e2).trans (k1 x e)) (Lt.irrefl x)
  subst hxy
  refine congrArg _ (rises_eq h2 k2 fun z => ?_)
  constructor
  ·intro hz
   rcases List.mem_cons.1 ((h z).1 (by simp [hz])) with e | e
   ·subst e; exact absurd (h1 z hz) (Lt.irrefl z)
   ·exact e
  ·intro hz
   rcases List.mem_cons.1 ((h z).2 (by simp [hz])) with e | e
   ·subst e; exact absurd (k1 z hz) (Lt.irrefl z)
   ·exact e
theorem sortS_strict {l : List Str} (h : l.Nodup) : (sortS l).Pairwise Lt := by
 have h1 : (sortS l).Nodup := (sortS_perm l).nodup_iff.2 h
 refine ((List.pairwise_and_iff.2 ⟨sortS_rises l, h1⟩)).imp fun {a b} hab => ?_
 rcases hab.1 with e | e
 ·exact absurd e hab.2
 ·exact e
theorem sort_lift {f : FuncId} (h : ∀ (blk off cap : Nat) (ss : List (List UInt8)) (w : World), Holds encStr w blk off ss.toArray → blk < w.heap.size → ss.length < 4611686018427387904 →
   Calls P f #[.slice (some ⟨blk, off, none⟩) ss.length cap] w fun e w' => e = .returned (.tuple #[]) ∧ ∃ n os, w' = grow (putRow encStr (Sort.ahead w n) blk off (ss.mergeSort fun x y => decide (x ≤ y)).toArray) os)
  {H : AHeap} {g : Nat} {E : TypeId} {l : List Str} (hH : H g = some (.buf E 1 (strRows l))) (hl : l.length < 4611686018427387904) {n : Nat} (hn : n = l.length) : ACalls P W f [.bs g 1 n] H fun r H' => H' = H.put g (.buf E 1 (strRows (sortS l))) := by
 intro S w us hw hv
 obtain ⟨hsz, hv⟩ := hv
 have h0 := hv 0 (by simp) (by rw [hsz]; simp)
 obtain ⟨u, rfl⟩ : ∃ u, us = #[u] := ⟨us[0]'(by rw [hsz]; simp), by
  apply Array.ext
  ·simpa using hsz
  ·intro i h1 h2; simp at h2; subst h2; rfl⟩
 simp only [List.getElem_cons_zero, List.getElem_toArray] at h0
 cases h0 with
 | @bs _ _ _ c hnc hm hwd =>
 obtain ⟨cur, fz, c', h1, h2, h3, h4, h5, h6, h7, h8⟩ := hw.objs _ _ hH
 subst hn
 have hlr : (strRows l).length = l.length := strRows_len l
 have hcur : ∀ j (hj : j < l.length), cur[j]? = some (.string l[j]) := by
  intro j hj
  obtain ⟨u, hu, hr⟩ := h8 j (by rw [hlr]; exact hj) 0 (by simp [strRows, strRow])
  simp only [strRows, strRow, List.getElem_map, List.getElem_cons_zero] at hr
  cases hr
  simpa using hu
 have hc2 : c' = cur.size := by rw [h2, Nat.mul_one]
 have hlen : (l.map bytesL).length = l.length := by simp
 have key := h g 0 c (l.map bytesL) w (by
  intro j hj
  simp only [List.size_toArray, List.length_map] at hj
  rw [Nat.zero_add]
  refine ⟨?_, h5 j (by rw [hlr] at h3; omega)⟩
  rw [cell_at h1, hcur j hj]
  have : ((l.map bytesL).toArray)[j]! = bytesL l[j] := by simp [hj]
  rw [this]
  show some (Value.string l[j]) = some (Value.string (ofL (bytesL l[j])))
  rw [ofL_bytesL]) (lt_of_some h1) (by rw [hlen]; exact hl)
 rw [hlen] at key
 refine key.mono ?_
 rintro e w' ⟨rfl, k, os, rfl⟩
 have hsl : ((l.map bytesL).mergeSort fun x y => decide (x ≤ y)).length = l.length := by simp
 generalize hss : (l.map bytesL).mergeSort (fun x y => decide (x ≤ y)) = ss at hsl
 have hsort : sortS l = ss.map ofL := by unfold sortS; rw [hss]
 have hlt := lt_of_some h1
 have hheap : ∀ b, b < w.heap.size → (grow (putRow encStr (Sort.ahead w k) g 0 ss.toArray) os).heap[b]? = if b = g then some (.cells (putCells encStr 0 ss.toArray cur) E fz) else w.heap[b]? := by
  intro b hb
  show ((w.heap.modify g (onCells _)) ++ os)[b]? = _
  rw [Array.getElem?_append_left (by simpa using hb), Array.getElem?_modify]
  by_cases e : g = b
  ·subst e; rw [if_pos rfl, if_pos rfl, h1]; rfl
  ·rw [if_neg e, if_neg (Ne.symm e)]
 have hg := (hheap g hlt).trans (if_pos rfl)
 have hpsz : (putCells encStr 0 ss.toArray cur).size = cur.size := by simp [putCells]
 have step := own_step (o := .buf E 1 (strRows (sortS l))) (H2 := H) (w' := grow (putRow encStr (Sort.ahead w k) g 0 ss.toArray) os) hw rfl rfl rfl (by show _ ≤ (w.heap.modify g (onCells _) ++ os).size; simp) (.inl (by rw [hH]; simp))
  (fun b hb hne => by rw [hheap b hb, if_neg hne]) (fun m hwide => by
   obtain ⟨cur0, E0, fz0, q1, q2⟩ := hwide
   rw [h1] at q1; cases q1
   exact ⟨_, _, _, hg, by rw [hpsz]; exact q2⟩) (Sub.refl H) ?_
 ·refine ⟨.any, _, S, _, rfl, rfl, step.1, step.2, .any _⟩
 ·refine ⟨_, fz, c', hg, by rw [hpsz]; exact h2, by rw [strRows_len, hsort, List.length_map, hsl]; rw [hlr] at h3; exact h3, h4, ?_, fun i hi => by simp [strRows, strRow], fun i hi j hj => ?_, fun i hi j hj => ?_⟩
  ·intro o ho
   rw [hpsz] at ho
   have := h5 o ho
   simp only [World.frozen?, hg]
   simpa [World.frozen?, h1] using this
  ·simp only [strRows, strRow, List.getElem_map] at hj ⊢
   obtain rfl : j = 0 := by simp at hj; exact hj
   rfl
  ·rw [strRows_len, hsort, List.length_map] at hi
   simp only [strRows, strRow, hsort, List.getElem_map] at hj ⊢
   obtain rfl : j = 0 := by simp at hj; exact hj
   refine ⟨.string (ofL ss[i]), ?_, .v _⟩
   have hic : i < cur.size := by rw [hlr] at h3; omega
   simp only [Nat.mul_one, Nat.add_zero, putCells, Array.getElem?_mapIdx, Array.getElem?_eq_getElem hic, Option.map_some, Nat.zero_le, true_and, Nat.zero_add, List.size_toArray, Nat.sub_zero]
   rw [if_pos hi]
   simp [hi, ofL]
theorem sort_none {f : FuncId} (h : ∀ (p : Option Addr) (cap : Nat) (w : World), Calls P f #[.slice p 0 cap] w fun e w' => e = .returned (.tuple #[]) ∧ w' = w) {H : AHeap} : ACalls P W f [.v (.slice none 0 0)] H fun r H' => H' = H := by
 intro S w us hw hv
 obtain ⟨hsz, hv⟩ := hv
 have h0 := hv 0 (by simp) (by rw [hsz]; simp)
 obtain ⟨u, rfl⟩ : ∃ u, us = #[u] := ⟨us[0]'(by rw [hsz]; simp), by
  apply Array.ext
  ·simpa using hsz
  ·intro i h1 h2; simp at h2; subst h2; rfl⟩
 simp only [List.getElem_cons_zero, List.getElem_toArray] at h0
 cases h0
 refine (h none 0 w).mono ?_
 rintro e w' ⟨rfl, rfl⟩
 exact ⟨.any, H, S, _, rfl, rfl, Ext.refl _ _ _, hw, .any _⟩
end Go.Proofs.YtfaodacmdlnabaaGreatDoor.M
