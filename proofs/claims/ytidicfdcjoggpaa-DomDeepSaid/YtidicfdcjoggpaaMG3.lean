/-
  Literals of slices, appends, conversions, calls; all operations that write.
-/
import Derived.Test.YtidicfdcjoggpaaMG2
namespace Go.Proofs.Ytidicfdcjoggpaa.M
open Go.RowKit
set_option linter.unusedVariables false
set_option linter.unusedSimpArgs false
variable {P : Program} {W : World} {S : Nat → Prop} {w : World} {N : Nat} {s : AState} {a : Act} {Q : Exit → Act → World → Prop}
theorem flat_len {α : Type} {sz : Nat} : ∀ (rows : List (List α)), (∀ r ∈ rows, r.length = sz) → rows.flatten.length = rows.length * sz
  | [], _ => by simp
  | r :: rows, h => by
    rw [List.flatten_cons, List.length_append, flat_len rows (fun r hr => h r (by simp [hr])), h r (by simp), List.length_cons, Nat.add_mul]; omega
theorem flat_get {α : Type} {sz : Nat} : ∀ (rows : List (List α)), (∀ r ∈ rows, r.length = sz) → ∀ i (hi : i < rows.length) j, j < sz → rows.flatten[i * sz + j]? = rows[i][j]?
  | r :: rows, h, 0, _, j, hj => by
    have := h r (by simp)
    simp only [List.flatten_cons, Nat.zero_mul, Nat.zero_add, List.getElem_cons_zero]
    rw [List.getElem?_append_left (by omega)]
  | r :: rows, h, i + 1, hi, j, hj => by
    have h1 := h r (by simp)
    have := flat_get rows (fun r hr => h r (by simp [hr])) i (by simpa using hi) j hj
    simp only [List.flatten_cons, List.getElem_cons_succ]
    rw [List.getElem?_append_right (by rw [h1, Nat.add_mul]; omega), ← this, h1]
    congr 1
    rw [Nat.add_mul]; omega
/-- Rows in order, laid one behind the other. -/
theorem lay_rows (tm : List (Nat × AVal)) (sz : Nat) : ∀ (xs : List Operand) (k : Nat) (pre rest : List AVal), pre.length = k * sz → rest.length = xs.length * sz → ((xs.map fun x => oneOr (ev tm x)).all fun r => r.length == sz && r.all (·.one)) = true →
    lay tm (pre ++ rest) ((xs.zipIdx k).map fun p => (p.2 * sz, sz, p.1)) = some (pre ++ (xs.map fun x => oneOr (ev tm x)).flatten)
  | [], k, pre, rest, h1, h2, h3 => by simp at h2; subst h2; simp [lay]
  | x :: xs, k, pre, rest, h1, h2, h3 => by
    simp only [List.map_cons, List.all_cons, Bool.and_eq_true, beq_iff_eq] at h3
    obtain ⟨⟨h4, h5⟩, h6⟩ := h3
    simp only [List.length_cons, Nat.add_mul, Nat.one_mul] at h2
    simp only [List.zipIdx_cons, List.map_cons, lay, h4]
    rw [if_pos ⟨trivial, by simp; omega, h5⟩]
    have e1 : (pre ++ rest).take (k * sz) = pre := by rw [← h1]; simp
    have e2 : (pre ++ rest).drop (k * sz + sz) = rest.drop sz := by
      rw [← h1, List.drop_append]; simp
    rw [e1, e2, lay_rows tm sz xs (k + 1) (pre ++ oneOr (ev tm x)) (rest.drop sz) (by simp [h1, h4, Nat.add_mul]) (by simp; omega) h6]
    simp
theorem bsl_sound (hr : SR W N S s a w) {o : Oper} (hd : dstOk N o.dst = true) {t : TypeId} {len : Nat} {parts : Array (Nat × Operand)} (ho : o.op = .buildSlice t len parts) {m : AE} (hc : compE P o.op = some m) {K : AState → Prop} (h : aeff P W m o.dst s K) : o.wp P a w (ThenQ W N S s w K) Q := by
  rw [ho] at hc
  simp only [compE] at hc
  split at hc
  · rename_i E ht
    split at hc
    · rename_i sz z hsz hz
      split at hc
      · rename_i hcond
        cases hc
        obtain ⟨hidx, hmax, hzs, hsz0, hz1⟩ := hcond
        obtain ⟨hall, hk⟩ := h
        obtain ⟨i, hi, rfl⟩ : ∃ i, P.info? E = some i ∧ i.size = sz := by
          unfold szOf at hsz; cases e' : P.info? E <;> simp_all
        have hzz : i.zero = some z := by simpa [hi] using hz
        obtain ⟨xs, hxs⟩ : ∃ xs, xs = parts.toList.map (·.2) := ⟨_, rfl⟩
        rw [← hxs] at hall hk
        have hlen : xs.length = len := by
          have := congrArg List.length hidx
          simp at this
          simp [hxs, this]
        have hparts : parts.toList = (xs.zipIdx 0).map fun p => (p.2, p.1) := by
          have e0 : ∀ j (hj : j < parts.size), parts[j].1 = j := fun j hj => by
            have h1 : (parts.toList.map (·.1))[j]? = (List.range len)[j]? := by rw [hidx]
            rw [List.getElem?_map, Array.getElem?_toList, Array.getElem?_eq_getElem hj, List.getElem?_range (by rw [← hlen, hxs]; simpa using hj)] at h1
            simpa using h1
          refine List.ext_getElem (by simp [hxs]) fun j hj hj' => ?_
          simp at hj
          simp [hxs]
          exact Prod.ext (e0 j hj) rfl
        have hzero : CR S w ((List.range (len * i.size)).map fun k => AVal.v (z.cells[k % i.size]!)) ((Array.range (len * i.size)).map fun k => z.cells[k % z.cells.size]!) := by
          refine ⟨by simp, fun j hj => ?_, fun j hj hj' => ?_⟩
          · simp at hj ⊢
            have : j % i.size < z.cells.size := by rw [hzs]; exact Nat.mod_lt _ hsz0
            simp at hz1
            simp only [AVal.one]
            rw [getElem!_pos z.cells _ this]
            exact hz1 _ this
          · simp [hzs]; exact .v _
        have hlay := lay_rows s.tm i.size xs 0 [] ((List.range (len * i.size)).map fun k => AVal.v (z.cells[k % i.size]!)) (by simp) (by simp [hlen]) hall
        simp only [List.nil_append] at hlay
        have hmap : ((xs.zipIdx 0).map fun p => (p.2, p.1)).mapM (fun p => ((fun (k : Nat) => some (k * i.size, i.size)) p.1).map fun q => (q.1, q.2, p.2)) = some ((xs.zipIdx 0).map fun p => (p.2 * i.size, i.size, p.1)) := by
          generalize xs.zipIdx 0 = l
          induction l with
          | nil => rfl
          | cons p l ih => simp only [List.map_cons, List.mapM_cons, ih]; rfl
        obtain ⟨cur, h1, h2⟩ := lay_fill hr (fun (k : Nat) => some (k * i.size, i.size)) _ _ _ _ _ hmap hlay hzero
        rw [← hparts] at h1
        obtain ⟨f1, f2, f3, f4, f5, f6⟩ := alloc_facts w (.cells cur E)
        have hrows : ∀ r ∈ xs.map (fun x => oneOr (ev s.tm x)), r.length = i.size := fun r hr => by
          have := List.all_eq_true.1 hall r hr
          simp at this; exact this.1
        refine wp_value (u := .slice (some ⟨w.heap.size, 0, none⟩) len len) (w' := w.alloc (.cells cur E)) ?_ ?_
        · have hmx : ¬ (16777216 < len * i.size) := by omega
          have hfl : Instr.fill (fun k => some (k * i.size, i.size)) ((Array.range (len * i.size)).map fun k => z.cells[k % z.cells.size]!) (parts.toList.map fun p => (p.1, a.eval p.2)) = some cur := h1
          by_cases hn : len * i.size = 0
          · have e1 : (Array.range (len * i.size)).map (fun k => (#[] : Array Value)[k % 0]!) = (Array.range (len * i.size)).map fun k => z.cells[k % z.cells.size]! := by rw [hn]; simp
            simp [execOp, ho, Instr.buildSlice, Sem.run_bind, run_underlying ht, sizeOf, typeInfo, hi, hmx, hn, newRow, newObj, Sem.run, Array.range_zero'] at hfl ⊢
            rw [hfl]; rfl
          · simp [execOp, ho, Instr.buildSlice, Sem.run_bind, run_underlying ht, sizeOf, typeInfo, zeroValue, hi, hzz, hmx, hn, newRow, newObj, Sem.run] at hfl ⊢
            rw [hfl]; rfl
        · have hx := fix_step hr.wr f1 f2 f3 f4 f5
          refine ⟨then_put hr hd (S' := fun x => S x ∨ x = w.heap.size) hx ?_ hk, by omega, f5⟩
          have hfl := flat_len _ hrows
          have e0 : (xs.map fun x => oneOr (ev s.tm x)).length = len := by simp [hlen]
          rw [show Value.slice (some ⟨w.heap.size, 0, none⟩) len len = Value.slice (some ⟨w.heap.size, 0, none⟩) (xs.map fun x => oneOr (ev s.tm x)).length len by rw [e0]]
          have hidx2 : ∀ k j, k < len → j < i.size → k * i.size + j < len * i.size := fun k j hk hj => by
            have : (k + 1) * i.size ≤ len * i.size := Nat.mul_le_mul_right _ hk
            rw [Nat.add_mul] at this; omega
          have hget : ∀ k (hk : k < (xs.map fun x => oneOr (ev s.tm x)).length) j (hj : j < ((xs.map fun x => oneOr (ev s.tm x))[k]).length), ∃ hj2 : k * i.size + j < (xs.map fun x => oneOr (ev s.tm x)).flatten.length, (xs.map fun x => oneOr (ev s.tm x)).flatten[k * i.size + j] = (xs.map fun x => oneOr (ev s.tm x))[k][j] := fun k hk j hj => by
            have hj' : j < i.size := by rw [← hrows _ (List.getElem_mem hk)]; exact hj
            have := flat_get _ hrows k hk j hj'
            rw [List.getElem?_eq_getElem hj] at this
            exact List.getElem?_eq_some_iff.1 this
          refine .sl (fun k j => cur.getD (k * i.size + j) undef) (by omega) (by unfold maxLen; have : len ≤ len * i.size := Nat.le_mul_of_pos_right _ hsz0; omega) (fun _ => by omega) ?_ (fun k hk => hrows _ (List.getElem_mem hk)) (fun k hk j hj => ?_) (fun k hk j hj => ?_)
          · refine .inr ⟨w.heap.size, 0, rfl, .inr rfl, fun k j hk hj => ?_⟩
            rw [e0] at hk
            have := hidx2 k j hk hj
            have hcs : cur.size = len * i.size := by rw [h2.1, hfl, e0]
            rw [cell_at f6]
            simp [show k * i.size + j < cur.size by omega]
          · obtain ⟨h3, h4⟩ := hget k hk j hj
            rw [← h4]; exact h2.2.1 _ _
          · obtain ⟨h3, h4⟩ := hget k hk j hj
            have h5 : k * i.size + j < cur.size := by rw [h2.1]; exact h3
            have := h2.2.2 _ h3 h5
            rw [h4] at this
            simp only [show cur.getD (k * i.size + j) undef = cur[k * i.size + j] by simp [h5]]
            exact this.ext hr.wr hx.1
      · cases hc
    · cases hc
  · cases hc
end Go.Proofs.Ytidicfdcjoggpaa.M
