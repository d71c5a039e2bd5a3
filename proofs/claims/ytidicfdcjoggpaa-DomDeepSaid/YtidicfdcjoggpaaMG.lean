/-
  The operations that write do what the abstract machine says.
-/
import Derived.Test.YtidicfdcjoggpaaMF
namespace Go.Proofs.Ytidicfdcjoggpaa.M
open Go.RowKit
set_option linter.unusedVariables false
set_option linter.unusedSimpArgs false
variable {P : Program} {W : World} {S : Nat → Prop} {w : World} {N : Nat} {s : AState} {a : Act} {Q : Exit → Act → World → Prop}
/-- What holds behind a step. -/
def Then (W : World) (N : Nat) (S : Nat → Prop) (s : AState) (w : World) (K : AState → Prop) (a' : Act) (w' : World) : Prop := ∃ S' s', K s' ∧ Ext S s.H w S' s'.H w' ∧ SR W N S' s' a' w'
/-- .. and all that stood stands. -/
def ThenQ (W : World) (N : Nat) (S : Nat → Prop) (s : AState) (w : World) (K : AState → Prop) (a' : Act) (w' : World) : Prop := Then W N S s w K a' w' ∧ Quiet w w'
theorem wp_value {o : Oper} {u : Value} {w' : World} (h : (execOp a.eval o).run P w = .ok (.value u) w') {K : Act → World → Prop} (hk : K (a.put o.dst u) w') : o.wp P a w K Q := by
  unfold Oper.wp; rw [h]; exact hk
theorem wp_skip' {o : Oper} {w' : World} (h : (execOp a.eval o).run P w = .ok .skip w') {K : Act → World → Prop} (hk : K (a.put o.dst undef) w') : o.wp P a w K Q := by
  unfold Oper.wp; rw [h]; exact hk
theorem put_H (s : AState) (H : AHeap) (d : Option Nat) (x : AVal) : ((⟨s.tm, H⟩ : AState).put d x).H = H := by cases d <;> rfl
theorem then_put (hr : SR W N S s a w) {K : AState → Prop} {S' : Nat → Prop} {H' : AHeap} {w' : World} {d : Option Nat} (hd : dstOk N d = true) {x : AVal} {u : Value} (hx : Ext S s.H w S' H' w' ∧ WR W S' H' w') (hv : VR S' w' x u) (hk : K ((⟨s.tm, H'⟩ : AState).put d x)) : Then W N S s w K (a.put d u) w' :=
  ⟨S', _, hk, by rw [put_H]; exact hx.1, hr.next hx.1 hx.2 hd hv⟩
/-- A new object of the call's own, in a block of its own. -/
theorem own_new {H : AHeap} {w' : World} (hw : WR W S H w) (hos : w'.os = w.os) (htp : w'.tape = w.tape) (hout : w'.output = w.output) (hsz : w'.heap.size = w.heap.size + 1) (hb : ∀ b, b < w.heap.size → w'.heap[b]? = w.heap[b]?) {o : AObj} (ho : OR S w' w.heap.size o) :
    Ext S H w S (H.put w.heap.size o) w' ∧ WR W S (H.put w.heap.size o) w' :=
  own_step hw hos htp hout (by omega) (.inr (Nat.le_refl _)) (fun b h _ => hb b h) (fun m ⟨cur, E, fz, h1, _⟩ => absurd (lt_of_some h1) (Nat.lt_irrefl _)) (Sub.refl H) ho
theorem run_newVar (E : TypeId) (v : Value) (w : World) : (newVar E v).run P w = .ok ⟨w.heap.size, 0, none⟩ (w.alloc (.cells v.cells E)) := by
  simp [newVar, newRow, Sem.run_bind, newObj, Sem.run]
/-- Cells of a block that was just made. -/
theorem OR.made {cs : List AVal} {vs : Array Value} {E : TypeId} {w' : World} {b : Nat} (h : CR S w cs vs) (hq : ∀ x u, VR S w x u → VR S w' x u) (hb : w'.heap[b]? = some (.cells vs E (0, 0))) : OR S w' b (.cells E cs) :=
  ⟨vs, (0, 0), hb, h.1, Soft.new hb, h.2.1, fun i hi hi' => hq _ _ (h.2.2 i hi hi')⟩
theorem VR.later {w' : World} (hw : WR W S s.H w) (hb : ∀ b, b < w.heap.size → w'.heap[b]? = w.heap[b]?) {x : AVal} {u : Value} (h : VR S w x u) : VR S w' x u :=
  h.keep (fun b hS => ⟨hS, hb b (hw.lt b hS)⟩) (fun b m ⟨cur, E, fz, h1, h2⟩ => ⟨cur, E, fz, (hb b (lt_of_some h1)).trans h1, h2⟩)
theorem alloc_sound (hr : SR W N S s a w) {o : Oper} (hd : dstOk N o.dst = true) {E : TypeId} (ho : o.op = .alloc E) {m : AE} (hc : compE P o.op = some m) {K : AState → Prop} (h : aeff P W m o.dst s K) : o.wp P a w (ThenQ W N S s w K) Q := by
  rw [ho] at hc
  simp only [compE] at hc
  split at hc
  · rename_i z hz
    split at hc
    · rename_i hone
      cases hc
      obtain ⟨i, hi, hz⟩ : ∃ i, P.info? E = some i ∧ i.zero = some z := by cases e : P.info? E <;> simp_all
      obtain ⟨f1, f2, f3, f4, f5, f6⟩ := alloc_facts w (.cells z.cells E)
      refine wp_value (u := .pointer (some ⟨w.heap.size, 0, none⟩)) (w' := w.alloc (.cells z.cells E)) ?_ ?_
      · simp [execOp, ho, Instr.alloc, Sem.run_bind, zeroValue, typeInfo, hi, hz, run_newVar]
      · have hcr : CR S w (z.cells.toList.map AVal.v) z.cells := ⟨by simp, fun j hj => by
          simp at hj ⊢
          simp at hone
          simpa [AVal.one] using hone j hj, fun j hj hj' => by simp; exact .v _⟩
        exact ⟨then_put hr hd (own_new hr.wr f1 f2 f3 f4 f5 (OR.made hcr (fun x u hv => hv.later hr.wr f5) f6)) (.v _) (h _ hr.wr.fresh), by omega, f5⟩
    · cases hc
  · cases hc
theorem box_sound (hr : SR W N S s a w) {o : Oper} (hd : dstOk N o.dst = true) {E : TypeId} {x : Operand} (ho : o.op = .box E x) {m : AE} (hc : compE P o.op = some m) {K : AState → Prop} (h : aeff P W m o.dst s K) : o.wp P a w (ThenQ W N S s w K) Q := by
  rw [ho] at hc
  simp only [compE, Option.some.injEq] at hc
  subst hc
  obtain ⟨hone, h⟩ := h
  have hcr := oneOr_cells (hr.ev x) hone
  obtain ⟨f1, f2, f3, f4, f5, f6⟩ := alloc_facts w (.cells (a.eval x).cells E)
  refine wp_value (u := .pointer (some ⟨w.heap.size, 0, none⟩)) (w' := w.alloc (.cells (a.eval x).cells E)) ?_ ?_
  · simp [execOp, ho, Instr.box, Sem.run_bind, run_newVar]
  · exact ⟨then_put hr hd (own_new hr.wr f1 f2 f3 f4 f5 (OR.made hcr (fun x u hv => hv.later hr.wr f5) f6)) (.v _) (h _ hr.wr.fresh), by omega, f5⟩

theorem call_sound (hr : SR W N S s a w) {o : Oper} (hd : dstOk N o.dst = true) {f : FuncId} {vs : Array Value} {args : List AVal} (hf : callable P f = true) (hrun : ∀ w, (execOp a.eval o).run P w = (callFunc f vs).run P w) (hvs : VRs S w args vs) {K : AState → Prop}
    (h : ACalls P W f args s.H fun r H' => K ((⟨s.tm, H'⟩ : AState).put o.dst r)) : o.wp P a w (Then W N S s w K) Q := by
  have hcall : (callFunc f vs).run P w = .ok (.enter f vs) w := by
    unfold callable at hf
    split at hf
    · rename_i fn hfn
      simp only [Bool.and_eq_true, Bool.not_eq_true'] at hf
      have hb : fn.body.isNone = false := by cases e : fn.body <;> simp_all
      simp only [callFunc, Sem.run_bind, run_program, Result.andThen_ok, hfn, hf.1, hb, Bool.false_eq_true, if_false, Sem.run_pure]
    · cases hf
  unfold Oper.wp
  rw [hrun, hcall]
  show Calls P f vs w _
  refine (h S w vs hr.wr hvs).mono ?_
  rintro e w' ⟨r, H', S', v, hk, rfl, hx, hw', hv⟩
  exact then_put hr hd ⟨hx, hw'⟩ hv hk
theorem callq_sound (hr : SR W N S s a w) {o : Oper} (hd : dstOk N o.dst = true) {f : FuncId} {vs : Array Value} {args : List AVal} (hf : callable P f = true) (hrun : ∀ w, (execOp a.eval o).run P w = (callFunc f vs).run P w) (hvs : VRs S w args vs) {K : AState → Prop}
    (h : ACalls P W f args AHeap.none fun r _ => K (s.put o.dst r)) : o.wp P a w (ThenQ W N S s w K) Q := by
  have h2 : ACalls P W f args AHeap.none fun r H' => K (s.put o.dst r) ∧ H' = AHeap.none := by
    intro S w us hw hv
    refine (h S w us hw hv).mono ?_
    rintro e w' ⟨r, H1', S', v, hk, rfl, hx, hw', hvr⟩
    exact ⟨r, AHeap.none, S', v, ⟨hk, rfl⟩, rfl, hx.less (Sub.none _), hw'.less (Sub.none _), hvr⟩
  have hcall : (callFunc f vs).run P w = .ok (.enter f vs) w := by
    unfold callable at hf
    split at hf
    · rename_i fn hfn
      simp only [Bool.and_eq_true, Bool.not_eq_true'] at hf
      have hb : fn.body.isNone = false := by cases e : fn.body <;> simp_all
      simp only [callFunc, Sem.run_bind, run_program, Result.andThen_ok, hfn, hf.1, hb, Bool.false_eq_true, if_false, Sem.run_pure]
    · cases hf
  unfold Oper.wp
  rw [hrun, hcall]
  show Calls P f vs w _
  refine (h2 S w vs (hr.wr.less (Sub.none _)) hvs).mono ?_
  rintro e w' ⟨r, H', S', v, ⟨hk, rfl⟩, rfl, hx, hw', hv⟩
  have hq : Quiet w w' := ⟨hx.size, fun b hb => hx.block b hb rfl⟩
  have hdown : ∀ b, S' b → S b ∨ w.heap.size ≤ b := fun b hb => by
    rcases hx.down b hb with h1 | h1 | h1
    · exact .inl h1
    · exact .inr h1
    · exact absurd rfl h1
  have hx2 : Ext S s.H w S' s.H w' := ⟨hx.size, fun b hb _ => hq.2 b hb, hx.wide, hx.up, fun b hb => (hdown b hb).imp id .inl, fun b hb => .inl hb⟩
  have hw2 : WR W S' s.H w' := ⟨hw'.old, hr.wr.new, hw'.lt, fun b o hb hS => by
    rcases hdown b hS with h1 | h1
    · exact hr.wr.apart b o hb h1
    · have := (hr.wr.objs b o hb).lt; omega, fun b o hb => (hr.wr.objs b o hb).keep (fun c hc => ⟨hx.up c hc, hq.2 c (hr.wr.lt c hc)⟩) hx.wide (hq.2 b (hr.wr.objs b o hb).lt)⟩
  exact ⟨then_put hr hd ⟨hx2, hw2⟩ hv hk, hq⟩
theorem evs {xs : List Operand} (hr : SR W N S s a w) : VRs S w (xs.map (ev s.tm)) (xs.map a.eval).toArray := ⟨by simp, fun i hi hi' => by simp at hi ⊢; exact hr.ev _⟩
end Go.Proofs.Ytidicfdcjoggpaa.M
