/-
  Stores, literals of slices, conversions between texts and bytes.
-/
import Derived.Test.YtidicfdcjoggpaaMG
namespace Go.Proofs.Ytidicfdcjoggpaa.M
open Go.RowKit
set_option linter.unusedVariables false
set_option linter.unusedSimpArgs false
variable {P : Program} {W : World} {S : Nat → Prop} {w : World} {N : Nat} {s : AState} {a : Act} {Q : Exit → Act → World → Prop}
theorem setCell_facts (w : World) (b o : Nat) (v : Value) : (w.setCell ⟨b, o, none⟩ v).os = w.os ∧ (w.setCell ⟨b, o, none⟩ v).tape = w.tape ∧ (w.setCell ⟨b, o, none⟩ v).output = w.output ∧ (w.setCell ⟨b, o, none⟩ v).heap.size = w.heap.size ∧
    (∀ c, c ≠ b → (w.setCell ⟨b, o, none⟩ v).heap[c]? = w.heap[c]?) ∧ ∀ cur E fz, w.heap[b]? = some (.cells cur E fz) → (w.setCell ⟨b, o, none⟩ v).heap[b]? = some (.cells (cur.setIfInBounds o v) E fz) := by
  refine ⟨rfl, rfl, rfl, by simp [World.setCell], fun c hc => ?_, fun cur E fz h => ?_⟩
  · simp [World.setCell, Array.getElem?_modify, Ne.symm hc]
  · simp [World.setCell, Array.getElem?_modify, h]
theorem setCells_facts (b : Nat) : ∀ (vs : List Value) (o : Nat) (w : World) (cur : Array Value) (E : TypeId) (fz : Nat × Nat), w.heap[b]? = some (.cells cur E fz) → o + vs.length ≤ cur.size →
    (w.setCells b o vs).os = w.os ∧ (w.setCells b o vs).tape = w.tape ∧ (w.setCells b o vs).output = w.output ∧ (w.setCells b o vs).heap.size = w.heap.size ∧ (∀ c, c ≠ b → (w.setCells b o vs).heap[c]? = w.heap[c]?) ∧
    ∃ cur', (w.setCells b o vs).heap[b]? = some (.cells cur' E fz) ∧ cur'.toList = cur.toList.take o ++ vs ++ cur.toList.drop (o + vs.length)
  | [], o, w, cur, E, fz, h, hl => ⟨rfl, rfl, rfl, rfl, fun _ _ => rfl, cur, h, by simp⟩
  | v :: vs, o, w, cur, E, fz, h, hl => by
    simp only [List.length_cons] at hl
    obtain ⟨f1, f2, f3, f4, f5, f6⟩ := setCell_facts w b o v
    obtain ⟨g1, g2, g3, g4, g5, cur', g6, g7⟩ := setCells_facts b vs (o + 1) (w.setCell ⟨b, o, none⟩ v) _ E fz (f6 cur E fz h) (by simp; omega)
    refine ⟨g1.trans f1, g2.trans f2, g3.trans f3, g4.trans f4, fun c hc => (g5 c hc).trans (f5 c hc), cur', g6, ?_⟩
    rw [g7]
    simp only [Array.toList_setIfInBounds, List.length_cons]
    have e1 : (cur.toList.set o v).take (o + 1) = cur.toList.take o ++ [v] := by
      rw [List.take_succ_eq_append_getElem (by simp; omega)]
      simp [List.take_set_of_le]
    have e2 : (cur.toList.set o v).drop (o + 1 + vs.length) = cur.toList.drop (o + (vs.length + 1)) := by
      rw [List.drop_set_of_lt (by omega)]
      congr 1; omega
    rw [e1, e2]
    simp
theorem storeVar_run {t : TypeId} {n : Nat} (hn : szOf P t = some n) {b o : Nat} {cur : Array Value} {E : TypeId} {fz : Nat × Nat} (hb : w.heap[b]? = some (.cells cur E fz)) (hs : Soft w b cur.size) {v : Value} (hv : v.cells.size = n) (h1 : ∀ u ∈ v.cells.toList, u.oneCell' = true) (hl : o + n ≤ cur.size) :
    (Instr.storeAt t (.pointer (some ⟨b, o, none⟩)) v).run P w = .ok () (w.setCells b o v.cells.toList) := by
  obtain ⟨i, hi, rfl⟩ : ∃ i, P.info? t = some i ∧ i.size = n := by
    unfold szOf at hn; cases e : P.info? t <;> simp_all
  have := run_storeCells_cells (P := P) b o v.cells.toList 0 w (fun j hj => by rw [cell_at hb]; simp at hj ⊢; omega) (fun j hj => hs _ (by simp at hj; omega)) h1
  simp only [Nat.add_zero] at this
  simp [Instr.storeAt, Instr.sureAddr, Sem.run_bind, storeVar, sizeOf, typeInfo, hi, hv, this]
theorem CR.ones {cs : List AVal} {vs : Array Value} (h : CR S w cs vs) : ∀ u ∈ vs.toList, u.oneCell' = true := by
  intro u hu
  obtain ⟨j, hj, rfl⟩ := List.mem_iff_getElem.1 hu
  simp at hj ⊢
  exact (h.2.2 j (by have := h.1; omega) hj).one (h.2.1 j (by have := h.1; omega))
theorem CR.keepv {cs : List AVal} {vs : Array Value} {w' : World} (h : CR S w cs vs) (hq : ∀ x u, VR S w x u → VR S w' x u) : CR S w' cs vs := ⟨h.1, h.2.1, fun j hj hj' => hq _ _ (h.2.2 j hj hj')⟩
theorem st_sound (hr : SR W N S s a w) {o : Oper} (hd : dstOk N o.dst = true) {t : TypeId} {x y : Operand} (ho : o.op = .store t x y) {m : AE} (hc : compE P o.op = some m) {K : AState → Prop} (h : aeff P W m o.dst s K) : o.wp P a w (Then W N S s w K) Q := by
  rw [ho] at hc
  simp only [compE, Option.map_eq_some_iff] at hc
  obtain ⟨n, hn, rfl⟩ := hc
  simp only [aeff, ast] at h
  obtain ⟨⟨hp, hone⟩, h⟩ := h
  have hcr := oneOr_cells (hr.ev y) hone
  have hx := hr.ev x
  have hex : ∀ {A : Addr} {w' : World}, a.eval x = .pointer (some A) → (Instr.storeAt t (.pointer (some A)) (a.eval y)).run P w = .ok () w' → (execOp a.eval o).run P w = .ok .skip w' := fun he hrun => by
    simp [execOp, ho, he, Sem.run_bind, hrun]
  generalize hux : a.eval x = ux at hx
  split at h
  · rename_i b off e
    rw [e] at hx
    cases hx
    split at h
    · rename_i E cs hb
      obtain ⟨hle, hk⟩ := h
      obtain ⟨cur, fz, h1, h2, h3, h4, h5⟩ := hr.wr.objs _ _ hb
      have hrun := storeVar_run hn (w := w) (b := b) (o := off) h1 h3 (by rw [hcr.1, hp]) hcr.ones (by omega)
      obtain ⟨f1, f2, f3, f4, f5, cur', f6, f7⟩ := setCells_facts b (a.eval y).cells.toList off w cur E fz h1 (by have := hcr.1; simp; omega)
      have hcs : CR S w cs cur := ⟨h2, h4, h5⟩
      have hq : ∀ x u, VR S w x u → VR S (w.setCells b off (a.eval y).cells.toList) x u := fun x u hv =>
        hv.keep (fun c hS => ⟨hS, f5 c (fun e => by subst e; exact hr.wr.apart _ _ hb hS)⟩) (wide_of (fun c _ hc => f5 c hc) (fun m ⟨cur2, E2, fz2, h7, h8⟩ => by
          rw [h1] at h7; cases h7
          exact ⟨cur', E, fz, f6, by have := congrArg List.length f7; simp at this; have := hcr.1; omega⟩))
      have hor : OR S (w.setCells b off (a.eval y).cells.toList) b (.cells E (cs.take off ++ oneOr (ev s.tm y) ++ cs.drop (off + n))) := by
        have hl := hcs.lay hcr (off := off) (by omega) (cur' := cur') (by rw [f7]; simp)
        rw [hp] at hl
        have hl2 := hl.keepv hq
        refine ⟨cur', fz, f6, hl2.1, fun o2 ho2 => ?_, hl2.2.1, hl2.2.2⟩
        rw [World.frozen?_setCells]
        exact h3 o2 (by have := hl.1; simp at this; omega)
      refine wp_skip' (hex hux hrun) ?_
      exact then_put hr hd (own_step hr.wr f1 f2 f3 (by omega) (.inl (by simp [hb])) (fun c _ hc => f5 c hc) (fun m ⟨cur2, E2, fz2, h7, h8⟩ => by
          rw [h1] at h7; cases h7
          exact ⟨cur', E, fz, f6, by have := congrArg List.length f7; simp at this; have := hcr.1; omega⟩) (Sub.refl _) hor) (.any _) hk
    · exact h.elim
  · rename_i g sz i k e
    rw [e] at hx
    cases hx
    split at h
    · rename_i E sz' rows hb
      obtain ⟨rfl, r, hri, hle, hk⟩ := h
      obtain ⟨hi, rfl⟩ := List.getElem?_eq_some_iff.1 hri
      obtain ⟨cur, fz, c, h1, h2, h3, h4, h5, h6, h7, h8⟩ := hr.wr.objs _ _ hb
      have hrow := h6 i hi
      have hcap : i * sz + sz ≤ cur.size := by
        have : (i + 1) * sz ≤ c * sz := Nat.mul_le_mul_right _ (by omega)
        rw [Nat.add_mul] at this; omega
      have hrun := storeVar_run hn (w := w) (b := g) (o := i * sz + k) h1 h5 (by rw [hcr.1, hp]) hcr.ones (by omega)
      obtain ⟨f1, f2, f3, f4, f5, cur', f6, f7⟩ := setCells_facts g (a.eval y).cells.toList (i * sz + k) w cur E fz h1 (by have := hcr.1; simp; omega)
      have hsz' : cur'.size = cur.size := by have := congrArg List.length f7; simp at this; have := hcr.1; omega
      have hq : ∀ x u, VR S w x u → VR S (w.setCells g (i * sz + k) (a.eval y).cells.toList) x u := fun x u hv =>
        hv.keep (fun c hS => ⟨hS, f5 c (fun e => by subst e; exact hr.wr.apart _ _ hb hS)⟩) (wide_of (fun c _ hc => f5 c hc) (fun m ⟨cur2, E2, fz2, h7, h8⟩ => by
          rw [h1] at h7; cases h7
          exact ⟨cur', E, fz, f6, by omega⟩))
      have hyz : (a.eval y).cells.size = n := by rw [hcr.1, hp]
      have hget : ∀ j, j < cur.size → cur'[j]? = if j < i * sz + k then cur[j]? else if j < i * sz + k + n then (a.eval y).cells[j - (i * sz + k)]? else cur[j]? := by
        intro j hj
        rw [← Array.getElem?_toList, f7]
        split
        · rename_i hj1
          rw [List.append_assoc, List.getElem?_append_left (by simp; omega), List.getElem?_take_of_lt hj1, Array.getElem?_toList]
        · split
          · rename_i hj1 hj2
            rw [List.append_assoc, List.getElem?_append_right (by simp; omega), List.getElem?_append_left (by simp; omega)]
            simp [show min (i * sz + k) cur.size = i * sz + k by omega]
          · rename_i hj1 hj2
            rw [List.append_assoc, List.getElem?_append_right (by simp; omega), List.getElem?_append_right (by simp; omega)]
            simp [show min (i * sz + k) cur.size = i * sz + k by omega, hyz]
            congr 1; omega
      obtain ⟨nr, hnr⟩ : ∃ nr, nr = rows[i].take k ++ oneOr (ev s.tm y) ++ rows[i].drop (k + n) := ⟨_, rfl⟩
      have hnl : nr.length = sz := by subst hnr; simp; omega
      have hA : ∀ j (hj : j < nr.length), nr[j].one = true := by
        subst hnr
        intro j hj
        by_cases j1 : j < k
        · rw [List.getElem_append_left (by simp; omega), List.getElem_append_left (by simp; omega)]; simp; exact h7 _ _ _ _
        · by_cases j2 : j < k + n
          · rw [List.getElem_append_left (by simp; omega), List.getElem_append_right (by simp; omega)]; exact hcr.2.1 _ _
          · rw [List.getElem_append_right (by simp; omega)]; simp; exact h7 _ _ _ _
      have hB : ∀ j (hj : j < nr.length), ∃ u, cur'[i * sz + j]? = some u ∧ VR S (w.setCells g (i * sz + k) (a.eval y).cells.toList) nr[j] u := by
        intro j hj
        have hj' : j < sz := by omega
        rw [hget (i * sz + j) (by omega)]
        subst hnr
        by_cases j1 : j < k
        · rw [if_pos (by omega)]
          obtain ⟨u, hu, hv⟩ := h8 i hi j (by omega)
          refine ⟨u, hu, ?_⟩
          rw [List.getElem_append_left (by simp; omega), List.getElem_append_left (by simp; omega)]
          simp; exact hq _ _ hv
        · rw [if_neg (by omega)]
          by_cases j2 : j < k + n
          · rw [if_pos (by omega)]
            have e3 : i * sz + j - (i * sz + k) = j - k := by omega
            refine ⟨_, by rw [e3, Array.getElem?_eq_getElem (by omega)], ?_⟩
            rw [List.getElem_append_left (by simp; omega), List.getElem_append_right (by simp; omega)]
            have e4 : j - (rows[i].take k).length = j - k := by simp; omega
            simp only [e4]
            exact hq _ _ (hcr.2.2 _ _ _)
          · rw [if_neg (by omega)]
            obtain ⟨u, hu, hv⟩ := h8 i hi j (by omega)
            refine ⟨u, hu, ?_⟩
            rw [List.getElem_append_right (by simp; omega)]
            have e4 : k + n + (j - (rows[i].take k ++ oneOr (ev s.tm y)).length) = j := by simp; omega
            simp only [List.getElem_drop, e4]
            exact hq _ _ hv
      rw [← hnr] at hk
      clear hnr
      have hor : OR S (w.setCells g (i * sz + k) (a.eval y).cells.toList) g (.buf E sz (rows.set i nr)) := by
        refine ⟨cur', fz, c, f6, by omega, by simp; omega, h4, fun o2 ho2 => ?_, fun i' hi' => ?_, fun i' hi' j hj => ?_, fun i' hi' j hj => ?_⟩
        · rw [World.frozen?_setCells]; exact h5 o2 (by omega)
        · simp at hi'
          by_cases e2 : i = i'
          · subst e2; rw [List.getElem_set_self]; exact hnl
          · rw [List.getElem_set_ne e2]; exact h6 _ _
        · simp at hi'
          by_cases e2 : i = i'
          · subst e2; simp only [List.getElem_set_self] at hj ⊢; exact hA j hj
          · simp only [List.getElem_set_ne e2] at hj ⊢; exact h7 _ _ _ _
        · simp at hi'
          by_cases e2 : i = i'
          · subst e2; simp only [List.getElem_set_self] at hj ⊢; exact hB j hj
          · simp only [List.getElem_set_ne e2] at hj ⊢
            obtain ⟨u, hu, hv⟩ := h8 i' hi' j hj
            refine ⟨u, ?_, hq _ _ hv⟩
            have hj' : j < sz := by rw [← h6 i' hi']; exact hj
            have hb1 : i' * sz + sz ≤ cur.size := by
              have : (i' + 1) * sz ≤ c * sz := Nat.mul_le_mul_right _ (by omega)
              rw [Nat.add_mul] at this; omega
            rw [hget _ (by omega)]
            rcases Nat.lt_or_gt_of_ne e2 with h9 | h9
            · have : (i + 1) * sz ≤ i' * sz := Nat.mul_le_mul_right _ h9
              rw [Nat.add_mul] at this
              rw [if_neg (by omega), if_neg (by omega)]; exact hu
            · have : (i' + 1) * sz ≤ i * sz := Nat.mul_le_mul_right _ h9
              rw [Nat.add_mul] at this
              rw [if_pos (by omega)]; exact hu
      refine wp_skip' (hex hux hrun) ?_
      exact then_put hr hd (own_step hr.wr f1 f2 f3 (by omega) (.inl (by simp [hb])) (fun c _ hc => f5 c hc) (fun m ⟨cur2, E2, fz2, h7, h8⟩ => by
          rw [h1] at h7; cases h7
          exact ⟨cur', E, fz, f6, by omega⟩) (Sub.refl _) hor) (.any _) hk
    · exact h.elim
  · exact h.elim
end Go.Proofs.Ytidicfdcjoggpaa.M
