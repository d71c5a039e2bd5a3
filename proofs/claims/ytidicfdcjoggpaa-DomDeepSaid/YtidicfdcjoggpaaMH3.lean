/-
  Regions that draw their order, compiled to one order; code; functions.
-/
import Derived.Test.YtidicfdcjoggpaaMH2
import Derived.Scope
namespace Go.Proofs.Ytidicfdcjoggpaa.M
open Go.RowKit
set_option linter.unusedVariables false
set_option linter.unusedSimpArgs false
variable {P : Program} {W : World} {S : Nat → Prop} {w : World} {N : Nat} {s : AState} {a : Act}

def AOper.quiet (o : AOper) : AOper := match o.act with
  | .q m => o
  | .e m => ⟨o.dst, o.guard, .e m.quiet⟩
def AOper.mem (o : AOper) : Bool := match o.act with
  | .q m => m.mem
  | .e _ => false
def AOper.quick (o : AOper) : Bool := match o.act with
  | .q _ => true
  | .e _ => false
def AOper.writes (o : AOper) : Bool := match o.act with
  | .q _ => false
  | .e m => m.writes
/-- Number i as it is taken in a drawn region: a call that nothing read is held against is taken as it is, else as one that writes nothing. -/
def drawn (P : Program) (N : Nat) (ops : Array Oper) (cs : Array (Option AOper)) (i : Nat) : Option AOper :=
  match (cs[i]?).bind id with
  | some ao =>
    if (List.range ops.size).all fun j => ((cs[j]?).bind id).all fun aj => !aj.mem || reach ops j ops.size i || reach ops i ops.size j then some ao else some ao.quiet
  | none => none
def wrOf (P : Program) (N : Nat) (ops : Array Oper) (cs : Array (Option AOper)) (i : Nat) : Bool := match drawn P N ops cs i with
  | some ao => ao.writes
  | none => decide (i < ops.size)
def canTake (P : Program) (N : Nat) (ops : Array Oper) (cs : Array (Option AOper)) (listed : Array Bool) (i : Nat) : Bool :=
  match drawn P N ops cs i with
  | some ao => ao.quick && Region.free .any ops listed i && (!ao.mem || (List.range ops.size).all fun j => !wrOf P N ops cs j || listed.getD j true || reach ops i ops.size j)
  | none => false
inductive ACode where
  | skip
  | ops (l : List AOper)
  | seq (x y : ACode)
  | both (x y : ACode)
  | cond (c : Operand) (x y : ACode)
  | block (id : Nat) (x : ACode)
  | loop (x : ACode)
  | exit (id : Nat)
  | ret
  | scope (x : ACode)
def thenA (K : AState → Prop) (Q : Exit → AState → Prop) : Exit → AState → Prop
  | .normal, s => K s
  | .exit id, s => Q (.exit id) s
  | .ret, s => Q .ret s
  | e, s => Q e s
def blockA (id : Nat) (Q : Exit → AState → Prop) : Exit → AState → Prop
  | .normal, s => Q .normal s
  | .exit i, s => if i = id then Q .normal s else Q (.exit i) s
  | .ret, s => Q .ret s
  | e, s => Q e s
/-- One in front of what follows. -/
def ahead (o : AOper) : ACode → ACode
  | .ops l => .ops (o :: l)
  | .seq (.ops l) t => .seq (.ops (o :: l)) t
  | .skip => .ops [o]
  | t => .seq (.ops [o]) t
/-- A drawn region: reads as soon as they may, of what makes memory one at a time; where two may come, both ways. -/
def compT (P : Program) (N : Nat) (ops : Array Oper) (cs : Array (Option AOper)) : Nat → Array Bool → Option ACode
  | 0, listed => if (Region.ready .any ops listed).isEmpty then some .skip else none
  | n + 1, listed =>
    match (Region.ready .any ops listed).find? (canTake P N ops cs listed) with
    | some i => match drawn P N ops cs i, compT P N ops cs n (listed.setIfInBounds i true) with
      | some o, some t => some (ahead o t)
      | _, _ => none
    | none => match Region.ready .any ops listed with
      | [] => some .skip
      | [i] => match drawn P N ops cs i, compT P N ops cs n (listed.setIfInBounds i true) with
        | some o, some t => some (ahead o t)
        | _, _ => none
      | [i, j] => match drawn P N ops cs i, compT P N ops cs n (listed.setIfInBounds i true), drawn P N ops cs j, compT P N ops cs n (listed.setIfInBounds j true) with
        | some o, some t, some o', some t' => some (.both (ahead o t) (ahead o' t'))
        | _, _, _, _ => none
      | _ => none
def compD (P : Program) (N : Nat) (ops : Array Oper) : Option ACode :=
  if Region.noSelect ops then compT P N ops (ops.map (compO P N ops)) ops.size (Array.replicate ops.size false) else none
def awp (P : Program) (W : World) : ACode → (Exit → AState → Prop) → AState → Prop
  | .skip, Q, s => Q .normal s
  | .ops l, Q, s => aops P W l s (Q .normal)
  | .seq x y, Q, s => awp P W x (thenA (awp P W y Q) Q) s
  | .both x y, Q, s => awp P W x Q s ∧ awp P W y Q s
  | .cond c x y, Q, s => match ev s.tm c with
    | .v (.bool t) => (t = true → awp P W x Q s) ∧ (t = false → awp P W y Q s)
    | _ => False
  | .block id x, Q, s => awp P W x (blockA id Q) s
  | .loop x, Q, s => ∃ (I : Nat → AState → Prop), (∃ n s0, Weak s s0 ∧ I n s0) ∧ ∀ n s1, I n s1 → awp P W x (thenA (fun s2 => ∃ k s3, k < n ∧ Weak s2 s3 ∧ I k s3) Q) s1
  | .exit id, Q, s => Q (.exit id) s
  | .ret, Q, s => Q .ret s
  | .scope x, Q, s => awp P W x Q s
theorem awp_ahead {o : AOper} {t : ACode} {Q : Exit → AState → Prop} {s : AState} (h : awp P W (ahead o t) Q s) : guarded o.guard s (astep P W o s fun s' => awp P W t Q s') (awp P W t Q (s.put o.dst (.v undef))) := by
  unfold ahead at h
  split at h
  · exact h
  · exact h
  · exact h
  · exact h
theorem drawn_parts {ops : Array Oper} {i : Nat} {ao : AOper} (h : drawn P N ops (ops.map (compO P N ops)) i = some ao) : ∃ o ao', ops[i]? = some o ∧ compO P N ops o = some ao' ∧ (ao = ao' ∨ ao = ao'.quiet) := by
  unfold drawn at h
  split at h
  · rename_i ao' e
    simp only [Array.getElem?_map] at e
    cases ho : ops[i]? with
    | none => simp [ho] at e
    | some o =>
      simp only [ho, Option.map_some, Option.bind_some, id] at e
      refine ⟨o, ao', rfl, e, ?_⟩
      split at h
      · cases h; exact .inl rfl
      · cases h; exact .inr rfl
  · cases h
theorem compE_quiet {o : Op} {m : AE} (h : compE P o = some m) (hw : m.writes = false) : m.quiet = m := by
  cases m <;> first | rfl | cases hw
theorem compO_act {ops : Array Oper} {o : Oper} {ao : AOper} (hc : compO P N ops o = some ao) : (∀ m, ao.act = .q m → compM P o.op = some m) ∧ (∀ m, ao.act = .e m → compE P o.op = some m) := by
  unfold compO at hc
  split at hc
  · split at hc
    · split at hc
      · rename_i m' hm'
        simp only [Option.some.injEq] at hc
        subst hc
        exact ⟨(fun m h => by cases h; exact hm'), (fun m h => by cases h)⟩
      · split at hc
        · rename_i m' hm'
          simp only [Option.some.injEq] at hc
          subst hc
          exact ⟨(fun m h => by cases h), (fun m h => by cases h; exact hm')⟩
        · cases hc
    · cases hc
  · cases hc
theorem wpQ_done {ops : Array Oper} {Q : Exit → Act → World → Prop} {Wr : Nat → Bool} {listed : Array Bool} {a : Act} {w : World} (hr : Region.ready .any ops listed = []) (h : Q .normal a w) : ∀ fuel, wpQ P ops Q Wr fuel listed a w
  | 0 => ⟨hr, h⟩
  | _ + 1 => ⟨fun _ => h, by rw [hr]; simp⟩
theorem draw_code {ops : Array Oper} (hns : Region.noSelect ops = true) {Q : Exit → Act → World → Prop} (hQ : ∀ c a w, ¬ Q (.panic c) a w) : ∀ (fuel : Nat) (listed : Array Bool) (ac : ACode), compT P N ops (ops.map (compO P N ops)) fuel listed = some ac → Closed ops listed →
    ∀ (S : Nat → Prop) (s : AState) (a : Act) (w : World) (K : Exit → AState → Prop), SR W N S s a w → awp P W ac K s → (∀ a' w', Then W N S s w (K .normal) a' w' → Q .normal a' w') → wpQ P ops Q (wrOf P N ops (ops.map (compO P N ops))) fuel listed a w := by
  intro fuel
  induction fuel with
  | zero =>
    intro listed ac h hcl S s a w K hr hk hq
    simp only [compT] at h
    split at h
    · rename_i hre
      cases h
      exact ⟨by simpa using hre, hq _ _ ⟨S, s, hk, Ext.refl _ _ _, hr⟩⟩
    · cases h
  | succ fuel ih =>
    intro listed ac h hcl S s a w K hr hk hq
    have one : ∀ (i : Nat) (ao : AOper) (t : ACode), i ∈ Region.ready .any ops listed → drawn P N ops (ops.map (compO P N ops)) i = some ao → compT P N ops (ops.map (compO P N ops)) fuel (listed.setIfInBounds i true) = some t →
        guarded ao.guard s (astep P W ao s fun s' => awp P W t K s') (awp P W t K (s.put ao.dst (.v undef))) → wpOp P ops Q i (fun a' w' => (wrOf P N ops (ops.map (compO P N ops)) i = false → Quiet w w') ∧ wpQ P ops Q (wrOf P N ops (ops.map (compO P N ops))) fuel (listed.setIfInBounds i true) a' w') a w := by
      intro i ao t hready hao ht hk
      obtain ⟨o, ao', ho, hco, hsame⟩ := drawn_parts hao
      obtain ⟨hd, hdst', hg'⟩ := compO_parts hco
      have hdst : ao.dst = o.dst := by
        rcases hsame with rfl | rfl
        · exact hdst'
        · unfold AOper.quiet; split <;> exact hdst'
      have hgd : ao.guard = ao'.guard := by
        rcases hsame with rfl | rfl
        · rfl
        · unfold AOper.quiet; split <;> rfl
      rw [← hgd] at hg'
      have hrest := fun S s a w => ih (listed.setIfInBounds i true) t ht (hcl.step hready) S s a w K
      unfold wpOp
      simp only [ho]
      rcases wanted_of hr hg' hk with ⟨hw, hk⟩ | ⟨hw, hk⟩
      · rw [if_pos hw]
        left
        have hstep : o.wp P a w (fun a' w' => Then W N S s w (fun s' => awp P W t K s') a' w' ∧ (wrOf P N ops (ops.map (compO P N ops)) i = false → Quiet w w')) Q := by
          have hwr : wrOf P N ops (ops.map (compO P N ops)) i = ao.writes := by unfold wrOf; rw [hao]
          unfold astep at hk
          cases hact : ao.act with
          | q m =>
            rw [hact] at hk
            have hsame2 : ao = ao' := by
              rcases hsame with h1 | h1
              · exact h1
              · unfold AOper.quiet at h1
                split at h1
                · exact h1
                · subst h1; cases hact
            have hm : compM P o.op = some m := by
              rw [← hsame2] at hco
              exact (compO_act hco).1 m hact
            obtain ⟨x, u, hk2, hv, hrun⟩ := aval_sound (G := fun w' => w' = w) hr (fun _ w' e => by subst e; exact Quiet.refl _) hm hk
            refine wp_value (hrun w rfl) ⟨⟨S, _, hk2, by rw [put_same]; exact Ext.refl _ _ _, by rw [hdst]; exact hr.put hd hv⟩, fun _ => Quiet.refl w⟩
          | e m =>
            rw [hact] at hk
            rw [hdst] at hk
            obtain ⟨m', hm', hmm⟩ : ∃ m', compE P o.op = some m' ∧ (m = m' ∨ m = m'.quiet) := by
              have hact' : ∃ m', ao'.act = .e m' ∧ (m = m' ∨ m = m'.quiet) := by
                rcases hsame with rfl | h1
                · exact ⟨m, hact, .inl rfl⟩
                · unfold AOper.quiet at h1
                  split at h1
                  · subst h1; exact ⟨m, hact, .inl rfl⟩
                  · rename_i m2 e2
                    subst h1
                    simp at hact
                    exact ⟨m2, e2, .inr hact.symm⟩
              obtain ⟨m', h1, h2⟩ := hact'
              exact ⟨m', (compO_act hco).2 m' h1, h2⟩
            by_cases hwm : m.writes = false
            · have hmq : m = m'.quiet := by
                rcases hmm with rfl | h
                · have := compE_quiet hm' hwm; exact this.symm
                · exact h
              rw [hmq] at hk hwm
              refine Oper.wp_mono (fun a' w' h => ⟨h.1, fun _ => h.2⟩) (aeff_quiet (Q := Q) hr hd hm' hwm hk)
            · have hmq : m = m' := by
                rcases hmm with h | h
                · exact h
                · rw [h] at hwm ⊢
                  cases m' <;> first | rfl | exact absurd rfl hwm
              rw [hmq] at hk
              refine Oper.wp_mono (fun a' w' h => ⟨h, fun e => ?_⟩) (aeff_sound (Q := Q) hr hd hm' hk)
              exfalso
              rw [hwr] at e
              unfold AOper.writes at e
              rw [hact] at e
              exact hwm e
        refine Oper.wp_mono (fun a1 w1 h => ⟨h.2, ?_⟩) hstep
        obtain ⟨⟨S1, s1, hk1, hx1, hr1⟩, _⟩ := h
        exact hrest S1 s1 a1 w1 hr1 hk1 (fun a' w' ⟨S2, s2, hk2, hx2, hr2⟩ => hq _ _ ⟨S2, s2, hk2, hx1.trans hx2, hr2⟩)
      · rw [if_neg (by rw [hw]; simp)]
        refine ⟨fun _ => Quiet.refl w, hrest S (s.put ao.dst (.v undef)) _ w (by rw [hdst]; exact hr.putUndef hd) hk (fun a' w' ⟨S2, s2, q2, hx2, hr2⟩ => hq _ _ ⟨S2, s2, q2, ?_, hr2⟩)⟩
        rw [put_same] at hx2; exact hx2
    simp only [compT] at h
    split at h
    · rename_i i hfind
      have htake := List.find?_some hfind
      have hready := List.mem_of_find?_eq_some hfind
      split at h
      · rename_i ao t hao ht
        cases h
        have hk := awp_ahead hk
        unfold canTake at htake
        rw [hao] at htake
        simp only [Bool.and_eq_true, Bool.or_eq_true] at htake
        obtain ⟨⟨hquick, hfree⟩, hmem⟩ := htake
        obtain ⟨o, ao', ho, hco, hsame⟩ := drawn_parts hao
        obtain ⟨hd, hdst', hg'⟩ := compO_parts hco
        obtain ⟨m, hact⟩ : ∃ m, ao.act = .q m := by
          unfold AOper.quick at hquick
          split at hquick
          · exact ⟨_, by assumption⟩
          · cases hquick
        have hsame2 : ao = ao' := by
          rcases hsame with h1 | h1
          · exact h1
          · unfold AOper.quiet at h1
            split at h1
            · exact h1
            · subst h1; cases hact
        subst hsame2
        have hm : compM P o.op = some m := (compO_act hco).1 m hact
        have hmemw : m.mem = true → ∀ j, wrOf P N ops (ops.map (compO P N ops)) j = true → listed.getD j true = false → reach ops i ops.size j = true := by
          intro hmm j hj hun
          have hjlt : j < ops.size := by
            unfold wrOf at hj
            split at hj
            · rename_i aj haj
              obtain ⟨o', _, ho', _⟩ := drawn_parts haj
              exact (Array.getElem?_eq_some_iff.1 ho').1
            · simpa using hj
          have hmm' : ao.mem = true := by unfold AOper.mem; rw [hact]; exact hmm
          rcases hmem with h1 | h1
          · rw [hmm'] at h1; cases h1
          · have := List.all_eq_true.1 h1 j (by simpa using hjlt)
            simp only [Bool.or_eq_true, Bool.not_eq_true'] at this
            rcases this with (h2 | h2) | h2
            · rw [hj] at h2; cases h2
            · rw [hun] at h2; cases h2
            · exact h2
        have hrest := fun S s a w => ih (listed.setIfInBounds i true) t ht (hcl.step hready) S s a w K
        have hfirst := fun (v : Value) (hy : YieldsIf P ops (fun w' => m.mem = true → Quiet w w') o v a) (hrec : wpQ P ops Q (wrOf P N ops (ops.map (compO P N ops))) fuel (listed.setIfInBounds i true) (a.put o.dst v) w) =>
          wpQ_first (mem := m.mem) ho (Region.noSelect_spec hns) (fun c a w h => absurd h (hQ c _ _)) fuel listed a w hcl (Region.free_spec ho hfree) (fun hmm j hj hjr => (reach_spec hcl (mem_ready.1 hready).1 _ j (hmemw hmm j hj (mem_ready.1 hjr).1)).2 hjr) hmemw hready hy hrec
        rcases wanted_of hr hg' hk with ⟨hw, hk⟩ | ⟨hw, hk⟩
        · have hk : aval m s (fun x => awp P W t K (s.put ao.dst x)) := by
            unfold astep at hk; rw [hact] at hk; exact hk
          obtain ⟨x, u, hk2, hv, hrun⟩ := aval_sound (G := fun w' => m.mem = true → Quiet w w') hr (fun hmm w' hg => hg hmm) hm hk
          refine hfirst u (.inl ⟨hw, hrun⟩) (hrest S (s.put ao.dst x) _ w (by rw [hdst']; exact hr.put hd hv) hk2 (fun a' w' ⟨S2, s2, q2, hx2, hr2⟩ => hq _ _ ⟨S2, s2, q2, ?_, hr2⟩))
          rw [put_same] at hx2; exact hx2
        · refine hfirst undef (.inr ⟨hw, rfl⟩) (hrest S (s.put ao.dst (.v undef)) _ w (by rw [hdst']; exact hr.putUndef hd) hk (fun a' w' ⟨S2, s2, q2, hx2, hr2⟩ => hq _ _ ⟨S2, s2, q2, ?_, hr2⟩))
          rw [put_same] at hx2; exact hx2
      · cases h
    · split at h
      · rename_i hre
        cases h
        exact ⟨fun _ => hq _ _ ⟨S, s, hk, Ext.refl _ _ _, hr⟩, fun i hi => by rw [hre] at hi; cases hi⟩
      · rename_i i hre
        split at h
        · rename_i ao t hao ht
          cases h
          refine ⟨(fun h0 => by rw [hre] at h0; cases h0), fun j hj => ?_⟩
          rw [hre] at hj
          obtain rfl : j = i := by simpa using hj
          exact one j ao t (by rw [hre]; simp) hao ht (awp_ahead hk)
        · cases h
      · rename_i i j hre
        split at h
        · rename_i ao t ao2 t2 hao ht hao2 ht2
          cases h
          refine ⟨(fun h0 => by rw [hre] at h0; cases h0), fun k hkr => ?_⟩
          have hkr' := hkr
          rw [hre] at hkr
          simp only [List.mem_cons, List.not_mem_nil, or_false] at hkr
          rcases hkr with rfl | rfl
          · exact one k ao t hkr' hao ht (awp_ahead hk.1)
          · exact one k ao2 t2 hkr' hao2 ht2 (awp_ahead hk.2)
        · cases h
      · cases h
end Go.Proofs.Ytidicfdcjoggpaa.M
