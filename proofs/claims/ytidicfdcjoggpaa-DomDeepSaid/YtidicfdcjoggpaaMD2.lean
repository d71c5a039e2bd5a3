/-
  Structs built of parts; the quiet operations, all of them.
-/
import Derived.Test.YtidicfdcjoggpaaMD
namespace Go.Proofs.Ytidicfdcjoggpaa.M
open Go.RowKit
set_option linter.unusedVariables false
set_option linter.unusedSimpArgs false
variable {P : Program} {W : World} {S : Nat → Prop} {w : World}
/-- Cells that are known. -/
def CR (S : Nat → Prop) (w : World) (cs : List AVal) (vs : Array Value) : Prop := vs.size = cs.length ∧ (∀ j (hj : j < cs.length), cs[j].one = true) ∧ ∀ j (hj : j < cs.length) (hj' : j < vs.size), VR S w cs[j] vs[j]
theorem CR.agg {cs : List AVal} {vs : Array Value} (h : CR S w cs vs) : VR S w (.agg cs) (.agg vs) :=
  .agg (fun j => vs.getD j undef) h.1 (fun j hj => by simp [hj]) h.2.1 (fun j hj => by have := h.2.2 j hj (by have := h.1; omega); simpa [show j < vs.size by have := h.1; omega] using this)
theorem CR.of_agg {cs : List AVal} {vs : Array Value} (h : VR S w (.agg cs) (.agg vs)) : CR S w cs vs := by
  cases h with
  | agg us hl hv ho hh => exact ⟨hl, ho, fun j hj hj' => by rw [hv]; exact hh j hj⟩
theorem oneOr_cells {x : AVal} {u : Value} (h : VR S w x u) (ho : (oneOr x).all (·.one) = true) : CR S w (oneOr x) u.cells := by
  cases h with
  | agg us hl hv ho' hh => exact CR.of_agg (.agg us hl hv ho' hh)
  | v =>
    simp [oneOr, AVal.one] at ho
    have : u.cells = #[u] := by cases u <;> simp_all [Value.cells, Value.oneCell']
    rw [this]
    exact ⟨rfl, fun j hj => by simp [oneOr] at hj ⊢; simpa [AVal.one] using ho, fun j hj hj' => by simp [oneOr] at hj ⊢; subst hj; exact .v u⟩
  | any => simp [oneOr, AVal.one] at ho
  | tup us hl hv hh => simp [oneOr, AVal.one] at ho
  | sl us hc hm hf hb hl ho' hh => exact ⟨rfl, fun j hj => by simp [oneOr] at hj ⊢; rfl, fun j hj hj' => by simp [oneOr] at hj ⊢; subst hj; exact .sl us hc hm hf hb hl ho' hh⟩
  | bs hn hm hw => exact ⟨rfl, fun j hj => by simp [oneOr] at hj ⊢; rfl, fun j hj hj' => by simp [oneOr] at hj ⊢; subst hj; exact .bs hn hm hw⟩
  | bv hA hn hm hf => exact ⟨rfl, fun j hj => by simp [oneOr] at hj ⊢; rfl, fun j hj hj' => by simp [oneOr] at hj ⊢; subst hj; exact .bv hA hn hm hf⟩
  | bp => exact ⟨rfl, fun j hj => by simp [oneOr] at hj ⊢; rfl, fun j hj hj' => by simp [oneOr] at hj ⊢; subst hj; exact .bp⟩
  | pl us hb hc hh => exact ⟨rfl, fun j hj => by simp [oneOr] at hj ⊢; rfl, fun j hj hj' => by simp [oneOr] at hj ⊢; subst hj; exact .pl us hb hc hh⟩
  | fn us hl hv hh => exact ⟨rfl, fun j hj => by simp [oneOr] at hj ⊢; rfl, fun j hj hj' => by simp [oneOr] at hj ⊢; subst hj; exact .fn us hl hv hh⟩
  | ifc hh => exact ⟨rfl, fun j hj => by simp [oneOr] at hj ⊢; rfl, fun j hj hj' => by simp [oneOr] at hj ⊢; subst hj; exact .ifc hh⟩
theorem put_cells (off : Nat) : ∀ (vs : List Value) (k : Nat) (cur : Array Value), off + k + vs.length ≤ cur.size →
    ((vs.zipIdx k).foldl (fun cs (c, j) => cs.setIfInBounds (off + j) c) cur).toList = cur.toList.take (off + k) ++ vs ++ cur.toList.drop (off + k + vs.length)
  | [], k, cur, h => by simp
  | v :: vs, k, cur, h => by
    simp only [List.length_cons] at h
    simp only [List.zipIdx_cons, List.foldl_cons]
    rw [put_cells off vs (k + 1) _ (by simp; omega)]
    simp only [Array.toList_setIfInBounds, List.length_cons]
    have e1 : (cur.toList.set (off + k) v).take (off + (k + 1)) = cur.toList.take (off + k) ++ [v] := by
      rw [show off + (k + 1) = (off + k) + 1 by omega, List.take_succ_eq_append_getElem (by simp; omega)]
      simp [List.take_set_of_le]
    have e2 : (cur.toList.set (off + k) v).drop (off + (k + 1) + vs.length) = cur.toList.drop (off + k + (vs.length + 1)) := by
      rw [List.drop_set_of_lt (by omega)]
      congr 1; omega
    rw [e1, e2]
    simp
theorem CR.lay {cs ps : List AVal} {cur vs : Array Value} (h : CR S w cs cur) (hp : CR S w ps vs) {off : Nat} (ho : off + ps.length ≤ cs.length) {cur' : Array Value} (he : cur'.toList = cur.toList.take off ++ vs.toList ++ cur.toList.drop (off + vs.size)) :
    CR S w (cs.take off ++ ps ++ cs.drop (off + ps.length)) cur' := by
  have hsz := h.1
  have hpz := hp.1
  have get : ∀ j (hj : j < cur'.size), cur'[j] = if hj1 : j < off then cur[j]'(by omega) else if hj2 : j < off + ps.length then vs[j - off]'(by omega) else cur[j]'(by
      have : cur'.size = cs.length := by
        have := congrArg List.length he; simp at this; omega
      omega) := by
    intro j hj
    have e : cur'.toList[j]? = some cur'[j] := by simp [hj]
    rw [he] at e
    split
    · rename_i hj1
      rw [List.append_assoc, List.getElem?_append_left (by simp; omega), List.getElem?_take_of_lt hj1] at e
      simp [show j < cur.size by omega] at e; exact e.symm
    · split
      · rename_i hj1 hj2
        rw [List.append_assoc, List.getElem?_append_right (by simp; omega), List.getElem?_append_left (by simp; omega)] at e
        have e3 : min off cur.size = off := by omega
        simp [e3, show j - off < vs.size by omega] at e; exact e.symm
      · rename_i hj1 hj2
        rw [List.append_assoc, List.getElem?_append_right (by simp; omega), List.getElem?_append_right (by simp; omega)] at e
        have e3 : min off cur.size = off := by omega
        have e4 : off + vs.size + (j - off - vs.size) = j := by omega
        simp [e3, e4] at e
        obtain ⟨_, e⟩ := Array.getElem?_eq_some_iff.1 e
        exact e.symm
  refine ⟨by have := congrArg List.length he; simp at this ⊢; omega, fun j hj => ?_, fun j hj hj' => ?_⟩
  · simp at hj
    by_cases h1 : j < off
    · rw [List.getElem_append_left (by simp; omega), List.getElem_append_left (by simp; omega)]
      simp; exact h.2.1 _ _
    · by_cases h2 : j < off + ps.length
      · rw [List.getElem_append_left (by simp; omega), List.getElem_append_right (by simp; omega)]
        exact hp.2.1 _ _
      · rw [List.getElem_append_right (by simp; omega)]
        simp; exact h.2.1 _ _
  · simp at hj
    rw [get j hj']
    by_cases h1 : j < off
    · rw [dif_pos h1, List.getElem_append_left (by simp; omega), List.getElem_append_left (by simp; omega)]
      simp; exact h.2.2 _ _ _
    · rw [dif_neg h1]
      by_cases h2 : j < off + ps.length
      · rw [dif_pos h2, List.getElem_append_left (by simp; omega), List.getElem_append_right (by simp; omega)]
        have e3 : j - (cs.take off).length = j - off := by simp; omega
        simp only [e3]
        exact hp.2.2 _ _ _
      · rw [dif_neg h2, List.getElem_append_right (by simp; omega)]
        have e3 : off + ps.length + (j - (cs.take off ++ ps).length) = j := by simp; omega
        simp only [List.getElem_drop, e3]
        exact h.2.2 _ _ _
/-- Parts laid into cells, as the program lays them. -/
theorem lay_fill {N : Nat} {s : AState} {a : Act} (hr : SR W N S s a w) (place : Nat → Option (Nat × Nat)) : ∀ (l : List (Nat × Operand)) (ps : List (Nat × Nat × Operand)) (cs cs' : List AVal) (cur : Array Value),
    l.mapM (fun p => (place p.1).map fun q => (q.1, q.2, p.2)) = some ps → lay s.tm cs ps = some cs' → CR S w cs cur → ∃ cur', Instr.fill place cur (l.map fun p => (p.1, a.eval p.2)) = some cur' ∧ CR S w cs' cur'
  | [], ps, cs, cs', cur, h, hl, hc => by simp at h; subst h; simp [lay] at hl; subst hl; exact ⟨cur, rfl, hc⟩
  | (i, x) :: l, ps, cs, cs', cur, h, hl, hc => by
    simp only [List.mapM_cons, Option.bind_eq_bind, Option.bind_eq_some_iff, Option.map_eq_some_iff, Option.pure_def, Option.some.injEq] at h
    obtain ⟨_, ⟨⟨off, n⟩, hpl, rfl⟩, ps', h2, rfl⟩ := h
    simp only [lay] at hl
    split at hl
    · rename_i hcond
      obtain ⟨h3, h4, h5⟩ := hcond
      have hp := oneOr_cells (hr.ev x) h5
      have e := put_cells off (a.eval x).cells.toList 0 cur (by have := hp.1; have := hc.1; simp; omega)
      have hcc := hc.lay hp (off := off) (by omega) (cur' := (((a.eval x).cells.toList.zipIdx 0).foldl (fun cs (c, j) => cs.setIfInBounds (off + j) c) cur)) (by rw [e]; simp)
      rw [h3] at hcc
      obtain ⟨cur', h6, h7⟩ := lay_fill hr place l ps' _ cs' _ h2 hl hcc
      refine ⟨cur', ?_, h7⟩
      simp only [List.map_cons, Instr.fill, hpl]
      have hz : (a.eval x).cells.size = n := by rw [hp.1, h3]
      rw [if_neg (by have := hc.1; simp [hz]; omega)]
      rw [← h6]
      congr 1
      rw [← Array.foldl_toList]
      simp
    · cases hl

theorem bld_run {t : TypeId} {fs : Array Field} {zero cells : Array Value} (ht : P.underlying t = some (.struct fs)) (hz : (P.info? t).bind (·.zero) = some (.agg zero)) (hfs : fs.all (fun (f : Field) => (szOf P f.type).isSome) = true) (parts : List (Nat × Value))
    (hf : Instr.fill (fun (i : Nat) => (fs[i]?).bind fun (f : Field) => (szOf P f.type).map fun n => (f.offset, n)) zero parts = some cells) (w : World) : (Instr.build t parts.toArray).run P w = .ok (.agg cells) w := by
  obtain ⟨i, hi, hz⟩ : ∃ i, P.info? t = some i ∧ i.zero = some (.agg zero) := by
    cases e : P.info? t <;> simp_all
  have hm : ∀ (l : List Field), (∀ f ∈ l, (szOf P f.type).isSome = true) → ∀ (acc : List (Nat × Nat)) (w : World), (l.mapM (fun (f : Field) => (do pure (f.offset, ← sizeOf f.type) : Sem (Nat × Nat)))).run P w = .ok (l.map fun (f : Field) => (f.offset, (szOf P f.type).getD 0)) w := by
    intro l
    induction l with
    | nil => intro _ _ w; rfl
    | cons f l ih =>
      intro h acc w
      obtain ⟨n, hn⟩ := Option.isSome_iff_exists.1 (h f (by simp))
      obtain ⟨j, hj, hs⟩ : ∃ j, P.info? f.type = some j ∧ j.size = n := by
        unfold szOf at hn; cases e : P.info? f.type <;> simp_all
      have := ih (fun g hg => h g (by simp [hg])) acc w
      simp only [List.mapM_cons, Sem.run_bind] at this ⊢
      simp [sizeOf, typeInfo, Sem.run_bind, hj, hs, hn] at this ⊢
      simp [this]
  have hm2 := hm fs.toList (fun f hf => by simp at hfs; obtain ⟨k, hk, rfl⟩ := List.mem_iff_getElem.1 hf; simp at hk ⊢; exact hfs k hk) [] w
  have hm3 : (fs.mapM (fun (f : Field) => (do pure (f.offset, ← sizeOf f.type) : Sem (Nat × Nat)))).run P w = .ok (fs.toList.map fun (f : Field) => (f.offset, (szOf P f.type).getD 0)).toArray w := by
    rw [Array.mapM_eq_mapM_toList, Sem.run_map, hm2]; rfl
  have hplace : ∀ i : Nat, (fs.toList.map fun (f : Field) => (f.offset, (szOf P f.type).getD 0)).toArray[i]? = (fs[i]?).bind fun (f : Field) => (szOf P f.type).map fun n => (f.offset, n) := by
    intro i
    simp only [List.getElem?_toArray, List.getElem?_map, Array.getElem?_toList]
    cases e : fs[i]? with
    | none => rfl
    | some f =>
      obtain ⟨hlt, rfl⟩ := Array.getElem?_eq_some_iff.1 e
      simp at hfs
      obtain ⟨n, hn⟩ := Option.isSome_iff_exists.1 (hfs i hlt)
      simp [hn]
  unfold Instr.build
  simp only [Sem.run_bind, zeroValue, typeInfo, run_program, hi, hz, Sem.run_pure, Result.andThen_ok, run_underlying ht, hm3]
  simp only [Value.cells, hplace]
  rw [hf]
  rfl
end Go.Proofs.Ytidicfdcjoggpaa.M
