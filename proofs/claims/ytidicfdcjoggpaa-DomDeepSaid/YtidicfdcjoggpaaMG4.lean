/-
  Appends, conversions, calls: all operations that write.
-/
import Derived.Test.YtidicfdcjoggpaaMG3
namespace Go.Proofs.Ytidicfdcjoggpaa.M
open Go.RowKit
set_option linter.unusedVariables false
set_option linter.unusedSimpArgs false
variable {P : Program} {W : World} {S : Nat → Prop} {w : World} {N : Nat} {s : AState} {a : Act} {Q : Exit → Act → World → Prop}
/-- Rows as cells in a row. -/
def Rowed (S : Nat → Prop) (w : World) (sz : Nat) (rows : List (List AVal)) (cs : List Value) : Prop :=
  cs.length = rows.length * sz ∧ (∀ i (hi : i < rows.length), rows[i].length = sz) ∧ (∀ i (hi : i < rows.length) j (hj : j < rows[i].length), rows[i][j].one = true) ∧ ∀ i (hi : i < rows.length) j (hj : j < rows[i].length), ∃ u, cs[i * sz + j]? = some u ∧ VR S w rows[i][j] u
theorem Rowed.one {sz : Nat} {rows : List (List AVal)} {cs : List Value} (h : Rowed S w sz rows cs) (h0 : 0 < sz ∨ cs = []) : ∀ u ∈ cs, u.oneCell' = true := by
  intro u hu
  rcases h0 with h0 | h0
  · obtain ⟨k, hk, rfl⟩ := List.mem_iff_getElem.1 hu
    have h1 := h.1
    have hi : k / sz < rows.length := Nat.div_lt_of_lt_mul (by rw [Nat.mul_comm]; omega)
    have hj : k % sz < rows[k / sz].length := by rw [h.2.1 _ hi]; exact Nat.mod_lt _ h0
    obtain ⟨v, hv, hr⟩ := h.2.2.2 _ hi _ hj
    have e : k / sz * sz + k % sz = k := by rw [Nat.mul_comm]; exact Nat.div_add_mod k sz
    rw [e, List.getElem?_eq_getElem hk] at hv
    cases hv
    exact hr.one (h.2.2.1 _ hi _ hj)
  · rw [h0] at hu; cases hu
theorem Rowed.append {sz : Nat} {r1 r2 : List (List AVal)} {c1 c2 : List Value} (h1 : Rowed S w sz r1 c1) (h2 : Rowed S w sz r2 c2) : Rowed S w sz (r1 ++ r2) (c1 ++ c2) := by
  have key : ∀ i (hi : i < (r1 ++ r2).length), (∃ hi1 : i < r1.length, (r1 ++ r2)[i] = r1[i]) ∨ (∃ hi2 : i - r1.length < r2.length, r1.length ≤ i ∧ (r1 ++ r2)[i] = r2[i - r1.length]) := by
    intro i hi
    by_cases h : i < r1.length
    · exact .inl ⟨h, by rw [List.getElem_append_left h]⟩
    · simp at hi
      exact .inr ⟨by omega, by omega, by rw [List.getElem_append_right (by omega)]⟩
  refine ⟨by simp [h1.1, h2.1, Nat.add_mul], fun i hi => ?_, fun i hi j hj => ?_, fun i hi j hj => ?_⟩
  · rcases key i hi with ⟨h, e⟩ | ⟨h, _, e⟩ <;> rw [e]
    · exact h1.2.1 _ _
    · exact h2.2.1 _ _
  · rcases key i hi with ⟨h, e⟩ | ⟨h, _, e⟩ <;> simp only [e] at hj ⊢
    · exact h1.2.2.1 _ _ _ _
    · exact h2.2.2.1 _ _ _ _
  · rcases key i hi with ⟨h, e⟩ | ⟨h, hle, e⟩ <;> simp only [e] at hj ⊢
    · obtain ⟨u, hu, hv⟩ := h1.2.2.2 i h j hj
      exact ⟨u, by rw [List.getElem?_append_left (List.getElem?_eq_some_iff.1 hu).1]; exact hu, hv⟩
    · obtain ⟨u, hu, hv⟩ := h2.2.2.2 _ h j hj
      refine ⟨u, ?_, hv⟩
      have : r1.length * sz + (i - r1.length) * sz = i * sz := by rw [← Nat.add_mul]; congr 1; omega
      rw [List.getElem?_append_right (by rw [h1.1]; omega), ← hu, h1.1]
      congr 1; omega
theorem Rowed.take {sz : Nat} {rows : List (List AVal)} {cs : List Value} (h : Rowed S w sz rows cs) (n : Nat) (hn : n ≤ rows.length) : Rowed S w sz (rows.take n) (cs.take (n * sz)) := by
  have hle : n * sz ≤ rows.length * sz := Nat.mul_le_mul_right _ hn
  refine ⟨by rw [List.length_take, h.1, List.length_take, Nat.min_eq_left hle, Nat.min_eq_left hn], fun i hi => ?_, fun i hi j hj => ?_, fun i hi j hj => ?_⟩
  · simp at hi ⊢; exact h.2.1 _ _
  · simp at hi hj ⊢; exact h.2.2.1 _ _ _ _
  · simp at hi
    simp only [List.getElem_take] at hj ⊢
    obtain ⟨u, hu, hv⟩ := h.2.2.2 i (by omega) j hj
    have hj' : j < sz := by rw [← h.2.1 i (by omega)]; exact hj
    have : (i + 1) * sz ≤ n * sz := Nat.mul_le_mul_right _ (by omega)
    rw [Nat.add_mul] at this
    exact ⟨u, by rw [List.getElem?_take_of_lt (by omega)]; exact hu, hv⟩
theorem Rowed.keep {sz : Nat} {rows : List (List AVal)} {cs : List Value} {S' : Nat → Prop} {w' : World} (h : Rowed S w sz rows cs) (hq : ∀ x u, VR S w x u → VR S' w' x u) : Rowed S' w' sz rows cs :=
  ⟨h.1, h.2.1, h.2.2.1, fun i hi j hj => let ⟨u, hu, hv⟩ := h.2.2.2 i hi j hj; ⟨u, hu, hq _ _ hv⟩⟩
theorem Rowed.of_buf {H : AHeap} (hw : WR W S H w) {g E sz : Nat} {rows : List (List AVal)} (hb : H g = some (.buf E sz rows)) : ∃ cur fz c, w.heap[g]? = some (.cells cur E fz) ∧ cur.size = c * sz ∧ rows.length ≤ c ∧ c ≤ maxLen ∧ Soft w g cur.size ∧ Rowed S w sz rows (cur.toList.take (rows.length * sz)) := by
  obtain ⟨cur, fz, c, h1, h2, h3, h4, h5, h6, h7, h8⟩ := hw.objs _ _ hb
  have hle : rows.length * sz ≤ c * sz := Nat.mul_le_mul_right _ h3
  refine ⟨cur, fz, c, h1, h2, h3, h4, h5, by simp; omega, h6, h7, fun i hi j hj => ?_⟩
  obtain ⟨u, hu, hv⟩ := h8 i hi j hj
  have hj' : j < sz := by rw [← h6 i hi]; exact hj
  have : (i + 1) * sz ≤ rows.length * sz := Nat.mul_le_mul_right _ hi
  rw [Nat.add_mul] at this
  exact ⟨u, by rw [List.getElem?_take_of_lt (by omega), Array.getElem?_toList]; exact hu, hv⟩
theorem Rowed.to_buf {w' : World} {g E sz : Nat} {rows : List (List AVal)} {cur : Array Value} {fz : Nat × Nat} {c : Nat} (h1 : w'.heap[g]? = some (.cells cur E fz)) (h2 : cur.size = c * sz) (h3 : rows.length ≤ c) (h4 : c ≤ maxLen) (h5 : Soft w' g cur.size)
    {cs : List Value} (hc : ∀ k, k < cs.length → cur[k]? = cs[k]?) (h : Rowed S w' sz rows cs) : OR S w' g (.buf E sz rows) :=
  ⟨cur, fz, c, h1, h2, h3, h4, h5, h.2.1, h.2.2.1, fun i hi j hj => let ⟨u, hu, hv⟩ := h.2.2.2 i hi j hj; ⟨u, by rw [hc _ (List.getElem?_eq_some_iff.1 hu).1]; exact hu, hv⟩⟩
theorem Rowed.bytes (t : ByteArray) : Rowed S w 1 (bytesOf t) (byteCells t) := by
  have e : (bytesOf t).length = t.size := by unfold bytesOf; rw [List.length_map, Array.length_toList]; rfl
  refine ⟨by rw [byteCells_length, e]; omega, fun i hi => by simp [bytesOf], fun i hi j hj => ?_, fun i hi j hj => ?_⟩
  · simp [bytesOf] at hi hj ⊢; rfl
  · simp [bytesOf] at hi hj ⊢
    subst hj
    refine ⟨.int .u8 ((t.data.toList[i]'(by simpa using hi)).toNat : Int), ?_, .v _⟩
    simp [byteCells, hi]
/-- What is appended, in memory. -/
theorem src_open {H : AHeap} (hw : WR W S H w) {sz : Nat} {ay : AVal} {u : Value} {new : List (List AVal)} (h : srcOf H sz ay = some new) (hv : VR S w ay u) {tx : TypeId} (hk : (∃ e', P.underlying tx = some (.slice e')) ∨ P.underlying tx = some .string) :
    ∃ news, Src P sz tx u new.length news w ∧ Rowed S w sz new news := by
  have lenOk : ∀ (A : Option Addr) (n c : Nat) (w' : World), (Builtin.lenOf (.slice A n c)).run P w' = .ok n w' := fun _ _ _ _ => rfl
  unfold srcOf at h
  split at h
  · rename_i full sz' rows
    split at h
    · rename_i e
      subst e
      obtain rfl : rows = new := by simpa using h
      clear h
      cases hv with
      | @sl _ _ _ A c us hc hm hf hb hl ho hh =>
      have hrd : Rowed S w sz rows ((List.range (rows.length * sz)).map fun k => us (k / sz) (k % sz)) := by
        refine ⟨by simp, hl, ho, fun i hi j hj => ?_⟩
        have hj' : j < sz := by rw [← hl i hi]; exact hj
        have : (i + 1) * sz ≤ rows.length * sz := Nat.mul_le_mul_right _ hi
        rw [Nat.add_mul] at this
        have e1 : (i * sz + j) / sz = i := by rw [Nat.mul_comm, Nat.mul_add_div (by omega), Nat.div_eq_of_lt hj', Nat.add_zero]
        have e2 : (i * sz + j) % sz = j := by rw [Nat.mul_comm, Nat.mul_add_mod, Nat.mod_eq_of_lt hj']
        refine ⟨us i j, ?_, hh i hi j hj⟩
        rw [List.getElem?_map, List.getElem?_range (by omega)]
        simp [e1, e2]
      refine ⟨_, ?_, hrd⟩
      by_cases h0 : rows.length * sz = 0
      · have hnil : ((List.range (rows.length * sz)).map fun k => us (k / sz) (k % sz)) = [] := by rw [h0]; rfl
        rw [hnil]
        have hf1 : ∀ w', (Builtin.firstCells sz rows.length (.slice A rows.length c)).run P w' = .ok #[] w' := fun w' => by
          cases A with
          | none => rfl
          | some A => simp [Builtin.firstCells, h0, loadCells, loadCellsFrom]
        exact ⟨hk, lenOk _ _ _, hf1 w, hf1 w.drew, by simp [h0], fun _ h => by cases h⟩
      · rcases hb with hb | ⟨b, o, rfl, hS, hx⟩
        · simp [hb] at h0
        · have hcell : ∀ j v, ((List.range (rows.length * sz)).map fun k => us (k / sz) (k % sz))[j]? = some v → w.cell? ((⟨b, o, none⟩ : Addr).add j) = some v := by
            intro j v hj
            obtain ⟨hlt, rfl⟩ := List.getElem?_eq_some_iff.1 hj
            simp at hlt ⊢
            have hsz : 0 < sz := Nat.pos_of_ne_zero (fun e => by subst e; simp at h0)
            have := hx (j / sz) (j % sz) (Nat.div_lt_of_lt_mul (by rw [Nat.mul_comm]; exact hlt)) (Nat.mod_lt _ hsz)
            rw [Addr.add_mid, ← this, Nat.add_assoc, Nat.mul_comm (j / sz) sz, Nat.div_add_mod]
          have h1 := hrd.one (.inl (Nat.pos_of_ne_zero (fun e => by subst e; simp at h0)))
          exact ⟨hk, lenOk _ _ _, run_firstCells_some w sz _ _ _ _ _ (by simp) hcell, run_firstCells_some w.drew sz _ _ _ _ _ (by simp) (by simpa using hcell), by simp, h1⟩
    · cases h
  · cases h
    cases hv
    exact ⟨[], ⟨hk, lenOk _ _ _, rfl, rfl, by simp, fun _ h => by cases h⟩, by simp, fun i hi => by simp at hi, fun i hi => by simp at hi, fun i hi => by simp at hi⟩
  · rename_i t
    split at h
    · rename_i e
      subst e
      cases h
      cases hv
      have e : (bytesOf t).length = t.size := by unfold bytesOf; rw [List.length_map, Array.length_toList]; rfl
      rw [e]
      exact ⟨byteCells t, ⟨hk, fun _ => rfl, firstCells_string t w, firstCells_string t w.drew, by rw [byteCells_length, Nat.mul_one], fun u hu => by
        obtain ⟨_, _, rfl⟩ := List.mem_map.1 hu
        rfl⟩, Rowed.bytes t⟩
    · cases h
  · rename_i g sz' n
    split at h
    · rename_i E sz2 rows hb
      split at h
      · rename_i e
        obtain ⟨rfl, rfl, hle⟩ := e
        cases h
        cases hv with
        | @bs _ _ _ c hn hm hwd =>
        obtain ⟨cur, fz, c', h1, h2, h3, h4, h5, h6⟩ := Rowed.of_buf hw hb
        have h7 := h6.take n hle
        have hlen : (rows.take n).length = n := by simp; omega
        have hnl := h7.1
        rw [hlen] at hnl ⊢
        have hcell : ∀ j v, ((cur.toList.take (rows.length * sz)).take (n * sz))[j]? = some v → w.cell? ((⟨g, 0, none⟩ : Addr).add j) = some v := by
          intro j v hj
          rw [Addr.add_mid, Nat.zero_add, cell_at h1, ← Array.getElem?_toList]
          rw [List.getElem?_take] at hj
          split at hj
          · rw [List.getElem?_take] at hj
            split at hj
            · exact hj
            · cases hj
          · cases hj
        by_cases h0 : n * sz = 0
        · have hnil : ((cur.toList.take (rows.length * sz)).take (n * sz)) = [] := by rw [h0]; simp
          rw [hnil] at h7
          have hf1 : ∀ w', (Builtin.firstCells sz n (.slice (some ⟨g, 0, none⟩) n c)).run P w' = .ok #[] w' := fun w' => by simp [Builtin.firstCells, h0, loadCells, loadCellsFrom]
          exact ⟨_, ⟨hk, lenOk _ _ _, hf1 w, hf1 w.drew, by simp [h0], fun _ h => by cases h⟩, h7⟩
        · have h1' := h7.one (.inl (Nat.pos_of_ne_zero (fun e => by subst e; simp at h0)))
          exact ⟨_, ⟨hk, lenOk _ _ _, run_firstCells_some w sz _ _ _ _ _ hnl hcell, run_firstCells_some w.drew sz _ _ _ _ _ hnl (by simpa using hcell), hnl, h1'⟩, h7⟩
      · cases h
    · cases h
  · rename_i full g sz' lo n
    split at h
    · rename_i E sz2 rows hb
      split at h
      · rename_i e
        obtain ⟨rfl, rfl, hle⟩ := e
        cases h
        cases hv with
        | @bv _ _ _ _ _ c A hA hn hm hf =>
        obtain ⟨cur, fz, c', h1, h2, h3, h4, h5, h6⟩ := Rowed.of_buf hw hb
        have h7 : Rowed S w sz ((rows.drop lo).take n) ((cur.toList.drop (lo * sz)).take (n * sz)) := by
          have h8 := h6
          have hlen : ((rows.drop lo).take n).length = n := by simp; omega
          have hle2 : (lo + n) * sz ≤ rows.length * sz := Nat.mul_le_mul_right _ hle
          have hle3 : rows.length * sz ≤ c' * sz := Nat.mul_le_mul_right _ h3
          rw [Nat.add_mul] at hle2
          refine ⟨by rw [hlen]; simp; omega, fun i hi => ?_, fun i hi j hj => ?_, fun i hi j hj => ?_⟩
          · simp at hi ⊢; exact h8.2.1 _ _
          · simp at hi hj ⊢; exact h8.2.2.1 _ _ _ _
          · rw [hlen] at hi
            simp only [List.getElem_take, List.getElem_drop] at hj ⊢
            obtain ⟨u, hu, hv⟩ := h8.2.2.2 (lo + i) (by omega) j hj
            have hj' : j < sz := by rw [← h8.2.1 (lo + i) (by omega)]; exact hj
            have h9 : (i + 1) * sz ≤ n * sz := Nat.mul_le_mul_right _ hi
            rw [Nat.add_mul] at h9
            refine ⟨u, ?_, hv⟩
            rw [List.getElem?_take_of_lt (by omega), List.getElem?_drop]
            rw [List.getElem?_take_of_lt (by rw [Nat.add_mul]; omega)] at hu
            rw [← hu, Nat.add_mul, Nat.add_assoc]
        have hlen : ((rows.drop lo).take n).length = n := by simp; omega
        have hnl := h7.1
        rw [hlen] at hnl ⊢
        by_cases h0 : n * sz = 0
        · have hnil : ((cur.toList.drop (lo * sz)).take (n * sz)) = [] := by rw [h0]; simp
          rw [hnil] at h7
          have hf1 : ∀ w', (Builtin.firstCells sz n (.slice (some A) n c)).run P w' = .ok #[] w' := fun w' => by simp [Builtin.firstCells, h0, loadCells, loadCellsFrom]
          exact ⟨_, ⟨hk, lenOk _ _ _, hf1 w, hf1 w.drew, by simp [h0], fun _ h => by cases h⟩, h7⟩
        · have hpos : 0 < n := Nat.pos_of_ne_zero (fun e => by subst e; simp at h0)
          have hcell : ∀ j v, ((cur.toList.drop (lo * sz)).take (n * sz))[j]? = some v → w.cell? (A.add j) = some v := by
            intro j v hj
            rw [hA hpos, Addr.add_mid, cell_at h1, ← Array.getElem?_toList]
            rw [List.getElem?_take] at hj
            split at hj
            · rw [List.getElem?_drop] at hj; exact hj
            · cases hj
          have h1' := h7.one (.inl (Nat.pos_of_ne_zero (fun e => by subst e; simp at h0)))
          exact ⟨_, ⟨hk, lenOk _ _ _, run_firstCells_some w sz _ _ _ _ _ hnl hcell, run_firstCells_some w.drew sz _ _ _ _ _ hnl (by simpa using hcell), hnl, h1'⟩, h7⟩
      · cases h
    · cases h
  · cases h
end Go.Proofs.Ytidicfdcjoggpaa.M
