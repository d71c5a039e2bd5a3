/-
  Code and functions under the abstract machine.
-/
import Derived.Test.YtidicfdcjoggpaaMH3
namespace Go.Proofs.Ytidicfdcjoggpaa.M
open Go.RowKit
set_option linter.unusedVariables false
set_option linter.unusedSimpArgs false
variable {P : Program} {W : World} {S : Nat → Prop} {w : World} {N : Nat} {s : AState} {a : Act}

def comp (P : Program) (N : Nat) : Code → Option ACode
  | .skip => some .skip
  | .region _ ops d => if d then compD P N ops else (ops.toList.mapM (compO P N ops)).map .ops
  | .seq x y => match comp P N x, comp P N y with
    | some x, some y => some (.seq x y)
    | _, _ => none
  | .cond c x y => match comp P N x, comp P N y with
    | some x, some y => some (.cond c x y)
    | _, _ => none
  | .block id x => (comp P N x).map (.block id)
  | .loop x => (comp P N x).map .loop
  | .exit id => some (.exit id)
  | .ret => some .ret
  | .label _ => some .skip
  | .scope x => (comp P N x).map .scope
  | _ => none
theorem conc_then {Q : Exit → AState → Prop} {K : AState → Prop} {Kc : Act → World → Prop} (hk : ∀ S' s' a' w', K s' → Ext S s.H w S' s'.H w' → SR W N S' s' a' w' → Kc a' w') {e : Exit} {a' : Act} {w' : World} (h : conc W N S s w (thenA K Q) e a' w') : Exit.then Kc (conc W N S s w Q) e a' w' := by
  obtain ⟨hok, S', s', q, x, r⟩ := h
  cases e with
  | normal => exact hk S' s' a' w' q x r
  | exit id => exact ⟨rfl, S', s', q, x, r⟩
  | ret => exact ⟨rfl, S', s', q, x, r⟩
  | _ => cases hok
theorem awp_sound (hm : P.follows .mixedOrders = true) : ∀ (c : Code) (ac : ACode), comp P N c = some ac → ∀ (Q : Exit → AState → Prop) (S : Nat → Prop) (s : AState) (a : Act) (w : World), SR W N S s a w → awp P W ac Q s → c.wp P (conc W N S s w Q) a w := by
  intro c
  induction c with
  | skip => intro ac h Q S s a w hr hk; cases h; exact wp_skip ⟨rfl, S, s, hk, Ext.refl _ _ _, hr⟩
  | label l => intro ac h Q S s a w hr hk; cases h; exact wp_label ⟨rfl, S, s, hk, Ext.refl _ _ _, hr⟩
  | exit id => intro ac h Q S s a w hr hk; cases h; exact wp_exit ⟨rfl, S, s, hk, Ext.refl _ _ _, hr⟩
  | ret => intro ac h Q S s a w hr hk; cases h; exact wp_ret ⟨rfl, S, s, hk, Ext.refl _ _ _, hr⟩
  | region id ops d =>
    intro ac h Q S s a w hr hk
    cases d with
    | false =>
      simp only [comp, Bool.false_eq_true, if_false, Option.map_eq_some_iff] at h
      obtain ⟨al, hal, rfl⟩ := h
      exact region_plain hal hr hk
    | true =>
      simp only [comp, if_true] at h
      have hal := h
      unfold compD at hal
      split at hal
      · rename_i hns
        refine wp_region_any hm (wpAny_of_Q (Wr := wrOf P N ops (ops.map (compO P N ops))) _ _ _ _ ?_)
        have hr2 : SR W N S s a { w with drawn := w.drawn + 1 } := by
          refine ⟨hr.defers, hr.size, fun k => VR.keep (w := w) (w' := { w with drawn := w.drawn + 1 }) (fun b hb => ⟨hb, rfl⟩) (fun _ _ h => h) (hr.tm k), ⟨⟨hr.wr.old.os, hr.wr.old.tape, hr.wr.old.output, hr.wr.old.size, hr.wr.old.block⟩, hr.wr.new, hr.wr.lt, hr.wr.apart, fun b o h => OR.keep (w := w) (w' := { w with drawn := w.drawn + 1 }) (fun b hb => ⟨hb, rfl⟩) (fun _ _ h => h) rfl (hr.wr.objs b o h)⟩⟩
        have hx : Ext S s.H w S s.H { w with drawn := w.drawn + 1 } := ⟨Nat.le_refl _, fun _ _ _ => rfl, fun _ _ h => h, fun _ h => h, fun _ h => .inl h, fun _ h => .inl h⟩
        have hcl : Closed ops (Array.replicate ops.size false) := by
          intro j o hj hl
          have : j < ops.size := (Array.getElem?_eq_some_iff.1 hj).1
          simp [this] at hl
        exact draw_code hns (fun c a w h => by cases h.1) _ _ _ hal hcl S s a _ Q hr2 hk (fun a' w' ht => conc.from hx ht.conc)
      · cases hal
  | seq x y ihx ihy =>
    intro ac h Q S s a w hr hk
    simp only [comp] at h
    split at h
    · rename_i ax ay hx hy
      cases h
      refine wp_seq (wp_mono (ihx ax hx _ S s a w hr hk) fun e a1 w1 h => conc_then (fun S1 s1 a1 w1 hk1 hx1 hr1 => ?_) h)
      exact wp_mono (ihy ay hy Q S1 s1 a1 w1 hr1 hk1) fun e a2 w2 h2 => conc.from hx1 h2
    · cases h
  | cond c x y ihx ihy =>
    intro ac h Q S s a w hr hk
    simp only [comp] at h
    split at h
    · rename_i ax ay hx hy
      cases h
      simp only [awp] at hk
      split at hk
      · rename_i t e
        have hv := hr.ev c
        rw [e] at hv
        have he : a.eval c = .bool t := by generalize a.eval c = u at hv; cases hv; rfl
        cases t
        · exact wp_cond he (by simpa using ihy ay hy Q S s a w hr (hk.2 rfl))
        · exact wp_cond he (by simpa using ihx ax hx Q S s a w hr (hk.1 rfl))
      · exact hk.elim
    · cases h
  | block id x ih =>
    intro ac h Q S s a w hr hk
    simp only [comp, Option.map_eq_some_iff] at h
    obtain ⟨ax, hx, rfl⟩ := h
    refine wp_block (wp_mono (ih ax hx _ S s a w hr hk) fun e a1 w1 h => ?_)
    obtain ⟨hok, S', s', q, x, r⟩ := h
    cases e with
    | normal => exact ⟨rfl, S', s', q, x, r⟩
    | exit i =>
      simp only [blockA] at q
      simp only [Exit.inBlock]
      split
      · rename_i e; rw [if_pos e] at q; exact ⟨rfl, S', s', q, x, r⟩
      · rename_i e; rw [if_neg e] at q; exact ⟨rfl, S', s', q, x, r⟩
    | ret => exact ⟨rfl, S', s', q, x, r⟩
    | _ => cases hok
  | loop x ih =>
    intro ac h Q S s a w hr hk
    simp only [comp, Option.map_eq_some_iff] at h
    obtain ⟨ax, hx, rfl⟩ := h
    obtain ⟨I, ⟨n, s0, hwk, hI⟩, hround⟩ := hk
    obtain ⟨S0, hx0, hr0⟩ := Weak.sound hr hwk
    refine wp_loop_ghost (fun n a' w' => ∃ S1 s1, I n s1 ∧ Ext S s.H w S1 s1.H w' ∧ SR W N S1 s1 a' w') n ⟨S0, s0, hI, hx0, hr0⟩ ?_
    rintro n a1 w1 ⟨S1, s1, hI1, hx1, hr1⟩
    refine wp_mono (ih ax hx _ S1 s1 a1 w1 hr1 (hround n s1 hI1)) fun e a2 w2 h => ?_
    have h2 := conc.from hx1 h
    refine conc_then (fun S2 s2 a2 w2 hk2 hx2 hr2 => ?_) h2
    obtain ⟨k, s3, hlt, hwk3, hI3⟩ := hk2
    obtain ⟨S3, hx3, hr3⟩ := Weak.sound hr2 hwk3
    exact ⟨k, hlt, S3, s3, hI3, hx2.trans hx3, hr3⟩
  | scope x ih =>
    intro ac h Q S s a w hr hk
    simp only [comp, Option.map_eq_some_iff] at h
    obtain ⟨ax, hx, rfl⟩ := h
    refine wp_scope_straight (wp_mono (ih ax hx Q S s a w hr hk) fun e a1 w1 h => ?_)
    obtain ⟨hok, S', s', q, x, r⟩ := h
    cases e with
    | normal => exact ⟨rfl, S', s', q, x, r⟩
    | exit i => exact ⟨rfl, S', s', q, x, r⟩
    | ret => exact ⟨rfl, S', s', q, x, r⟩
    | _ => cases hok
  | _ => intro ac h; cases h

/-! ### Functions -/
structure AFn where
  np : Nat
  N : Nat
  res : List Nat
  body : ACode
def compF (P : Program) (f : FuncId) : Option AFn :=
  match P.funcs[f]? with
  | some fn => match fn.body with
    | some c => match fn.results.toList.mapM (fun r => match r with | .tmp t => some t | _ => none) with
      | some rs => (comp P (max fn.ntmps fn.params.size) c).map fun b => ⟨fn.params.size, max fn.ntmps fn.params.size, rs, b⟩
      | none => none
    | none => none
  | none => none
def retOf (tm : List (Nat × AVal)) : List Nat → AVal
  | [t] => tget tm t
  | ts => .tup (ts.map (tget tm))
def retVal (tmps : Array Value) : List Nat → Value
  | [t] => tmps.getD t undef
  | ts => .tuple (ts.map fun t => tmps.getD t undef).toArray
/-- What is handed back. -/
def aret (res : List Nat) (K : AVal → AHeap → Prop) (e : Exit) (s : AState) : Prop := (e = .normal ∨ e = .ret) ∧ ∃ H' r, Sub H' s.H ∧ FZ s.H H' (retOf s.tm res) r ∧ K r H'
theorem fn_sound (hm : P.follows .mixedOrders = true) {f : FuncId} {af : AFn} (hc : compF P f = some af) {args : List AVal} (hl : args.length = af.np) {H : AHeap} {K : AVal → AHeap → Prop}
    (h : awp P W af.body (aret af.res K) ⟨args.zipIdx.map (fun p => (p.2, p.1)), H⟩) : ACalls P W f args H K := by
  unfold compF at hc
  split at hc
  · rename_i fn hfn
    split at hc
    · rename_i c hb
      split at hc
      · rename_i rs hrs
        simp only [Option.map_eq_some_iff] at hc
        obtain ⟨b, hcb, rfl⟩ := hc
        simp only at hl h
        intro S w us hw hv
        refine calls_of_wp hfn hb ?_
        have hsz : us.size = fn.params.size := by rw [hv.1, hl]
        have htm : ∀ k, tget (args.zipIdx.map (fun p => (p.2, p.1))) k = args.getD k .any := by
          have key : ∀ (l : List AVal) (j k : Nat), tget ((l.zipIdx j).map (fun p => (p.2, p.1))) k = if j ≤ k then l.getD (k - j) .any else .any := by
            intro l
            induction l with
            | nil => intro j k; simp [tget]
            | cons x l ih =>
              intro j k
              simp only [List.zipIdx_cons, List.map_cons, tget]
              by_cases e : j = k
              · subst e; simp
              · rw [if_neg e, ih (j + 1) k]
                by_cases e2 : j ≤ k
                · rw [if_pos (by omega), if_pos e2]
                  obtain ⟨m, rfl⟩ : ∃ m, k = j + 1 + m := ⟨k - (j + 1), by omega⟩
                  simp [show j + 1 + m - (j + 1) = m by omega, show j + 1 + m - j = m + 1 by omega]
                · rw [if_neg (by omega), if_neg e2]
          intro k
          simpa using key args 0 k
        have hr : SR W (max fn.ntmps fn.params.size) S ⟨args.zipIdx.map (fun p => (p.2, p.1)), H⟩ { tmps := us ++ Array.replicate (fn.ntmps - us.size) undef, defers := [] } w := by
          refine ⟨rfl, by simp [hsz]; omega, fun k => ?_, hw⟩
          rw [htm]
          by_cases hk : k < args.length
          · have := hv.2 k hk (by rw [hv.1]; exact hk)
            simpa [hk, show k < us.size by rw [hv.1]; exact hk, Array.getElem?_append_left] using this
          · have : args.getD k .any = .any := by simp [hk]
            rw [this]; exact .any _
        refine wp_mono (awp_sound hm c b hcb _ S _ _ w hr h) fun e a' w' hcc => ?_
        obtain ⟨hok, S', s', ⟨he, H', r, hs, hfz, hk⟩, hx, hr'⟩ := hcc
        have hres : (results fn a'.tmps).run P w' = .ok (retVal a'.tmps rs) w' := by
          have hmap : ∀ (g : ResultVar → Sem Value), (∀ t, g (.tmp t) = pure (a'.tmps.getD t undef)) → ∀ (l : List ResultVar) (ts : List Nat), l.mapM (fun r => match r with | .tmp t => some t | _ => none) = some ts → (l.mapM g).run P w' = .ok (ts.map fun t => a'.tmps.getD t undef) w' := by
            intro g hg l
            induction l with
            | nil => intro ts h; simp at h; subst h; rfl
            | cons r l ih =>
              intro ts h
              simp only [List.mapM_cons, Option.bind_eq_bind, Option.bind_eq_some_iff, Option.pure_def, Option.some.injEq] at h
              obtain ⟨t, ht, ts', hts, rfl⟩ := h
              cases r with
              | tmp t2 => cases ht; simp only [List.mapM_cons, Sem.run_bind, hg, Sem.run_pure, Result.andThen_ok, ih ts' hts, List.map_cons]
              | cell a t => cases ht
          unfold results
          rw [Sem.run_bind, Array.mapM_eq_mapM_toList, Sem.run_map, hmap _ (fun t => rfl) _ _ hrs]
          cases rs with
          | nil => rfl
          | cons t ts => cases ts <;> rfl
        have hval : VR S' w' (retOf s'.tm rs) (retVal a'.tmps rs) := by
          have htup : ∀ ts : List Nat, VR S' w' (.tup (ts.map (tget s'.tm))) (.tuple (ts.map fun t => a'.tmps.getD t undef).toArray) := fun ts =>
            .tup (fun j => a'.tmps.getD (ts.getD j 0) undef) (by simp) (fun j hj => by simp at hj; simp [hj]) (fun j hj => by simp at hj ⊢; simpa [hj] using hr'.tm ts[j])
          cases rs with
          | nil => exact htup []
          | cons t ts =>
            cases ts with
            | nil => exact hr'.tm t
            | cons t2 ts => exact htup (t :: t2 :: ts)
        obtain ⟨hx2, hw2⟩ := less_ext hr'.wr hs
        have hfin := hfz.sound hr'.wr hs hval
        have hpost : ∃ r H' S' v, K r H' ∧ (Ending.returned (retVal a'.tmps rs)) = .returned v ∧ Ext S H w S' H' w' ∧ WR W S' H' w' ∧ VR S' w' r v :=
          ⟨r, H', _, _, hk, rfl, hx.trans hx2, hw2, hfin⟩
        rcases he with rfl | rfl
        · exact ⟨hr'.defers, _, hres, hpost⟩
        · exact ⟨hr'.defers, _, hres, hpost⟩
      · cases hc
    · cases hc
  · cases hc
end Go.Proofs.Ytidicfdcjoggpaa.M
