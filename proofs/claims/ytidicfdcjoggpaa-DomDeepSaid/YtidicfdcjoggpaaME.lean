/-
  The quiet operations together: what an operation of the program yields, by what it is taken for.
-/
import Derived.Test.YtidicfdcjoggpaaMD2
namespace Go.Proofs.Ytidicfdcjoggpaa.M
open Go.RowKit
set_option linter.unusedVariables false
set_option linter.unusedSimpArgs false
variable {P : Program} {W : World} {S : Nat → Prop} {w : World} {N : Nat} {s : AState} {a : Act} {G : World → Prop}
theorem exec_val {ρ : Operand → Value} {o : Oper} {m : Sem Value} (h : execOp ρ o = (do pure (.value (← m)))) {u : Value} {w : World} (hr : m.run P w = .ok u w) : (execOp ρ o).run P w = .ok (.value u) w := by
  rw [h, Sem.run_bind, hr]; rfl
def OVal (P : Program) (S : Nat → Prop) (w : World) (G : World → Prop) (m : Sem Next) (K : AVal → Prop) : Prop := ∃ x u, K x ∧ VR S w x u ∧ ∀ w', G w' → m.run P w' = .ok (.value u) w'
def AO.mem : AO → Bool
  | .ld _ _ _ | .lk _ _ _ _ _ | .mlen _ | .men _ => true
  | _ => false
theorem Val.to {ρ : Operand → Value} {o : Oper} {m : Sem Value} {K : AVal → Prop} (h : Val P S w G m K) (he : execOp ρ o = (do pure (.value (← m)))) : OVal P S w G (execOp ρ o) K :=
  let ⟨x, u, hk, hv, hg⟩ := h; ⟨x, u, hk, hv, fun w' hq => exec_val he (hg w' hq)⟩
theorem asl_sound {sz : Nat} {t e : TypeId} (ht : P.underlying t = some (.slice e)) (hs : szOf P e = some sz) {H : AHeap} {ax : AVal} {u : Value} (hx : VR S w ax u) {lo hi : Option Value} {mx : Option Value} {l h : Int} {m : Option Int} {K : AVal → Prop}
    (hlo : (lo = none ∧ l = 0) ∨ ∃ k, lo = some (.int k l)) (hhi : (hi = none ∧ h = lenA ax ∧ mx = none) ∨ ∃ k, hi = some (.int k h)) (hmx : (mx = none ∧ m = none) ∨ ∃ k m', mx = some (.int k m') ∧ m = some m')
    (hk : asl H sz ax l h m K) : Val P S w G (Instr.sliceAt t u lo hi mx) K := by
  unfold asl at hk
  split at hk
  · rename_i full sz' rows
    obtain ⟨⟨rfl, h0, h1, h2, h3⟩, hk⟩ := hk
    cases hx with
    | @sl _ _ _ A c us hc hm hf hb hl ho hh =>
    have hrun : ∀ (m2 : Int), (mx = none ∧ m2 = c) ∨ (∃ k, mx = some (.int k m2)) → h ≤ m2 → m2 ≤ c → ∀ w', (Instr.sliceAt t (.slice A rows.length c) lo hi mx).run P w' = .ok (.slice (if m2.toNat = l.toNat then A else A.map (·.add (l.toNat * sz))) (h.toNat - l.toNat) (m2.toNat - l.toNat)) w' := fun m2 hm2 h4 h5 w' =>
      lsl_run ht hs A rows.length c hc lo hi mx l h m2 h0 h1 h4 h5 hlo (hhi.imp (fun e => ⟨e.1, e.2.1, e.2.2⟩) id) hm2 w'
    have hres : ∀ (full' : Bool) (m2 : Int), h ≤ m2 → m2 ≤ c → (full' = true → m2 = h) → VR S w (.sl full' sz ((rows.take h.toNat).drop l.toNat)) (.slice (if m2.toNat = l.toNat then A else A.map (·.add (l.toNat * sz))) (h.toNat - l.toNat) (m2.toNat - l.toNat)) := by
      intro full' m2 h4 h5 h6
      have hlen : ((rows.take h.toNat).drop l.toNat).length = h.toNat - l.toNat := by simp; omega
      rw [← hlen]
      refine .sl (fun i j => us (l.toNat + i) j) (by rw [hlen]; omega) (by omega) (fun e => by rw [hlen]; have := h6 e; omega) ?_ (fun i hi => ?_) (fun i hi j hj => ?_) (fun i hi j hj => ?_)
      · by_cases he : h.toNat - l.toNat = 0
        · exact .inl (List.length_eq_zero_iff.1 (by rw [hlen]; exact he))
        · right
          rcases hb with hb | ⟨b, o, rfl, hS, hx⟩
          · rw [hb] at h2; simp at h2; omega
          · refine ⟨b, o + l.toNat * sz, ?_, hS, fun i j hi hj => ?_⟩
            · rw [if_neg (by omega)]; simp [Addr.add_mid]
            · rw [hlen] at hi
              have := hx (l.toNat + i) j (by omega) hj
              rw [Nat.add_mul] at this
              rw [← this]; congr 2; omega
      · simp at hi ⊢; exact hl _ _
      · simp at hi hj ⊢; exact ho _ _ _ _
      · simp at hi hj ⊢; exact hh _ _ _ _
    rcases hmx with ⟨rfl, rfl⟩ | ⟨k, m', rfl, rfl⟩
    · refine ⟨_, _, hk, hres _ c (by omega) (Int.le_refl _) (fun e => ?_), fun w' _ => hrun c (.inl ⟨rfl, rfl⟩) (by omega) (Int.le_refl _) w'⟩
      simp at e
      have := hf e.1
      omega
    · obtain ⟨h4, h5⟩ := h3 m' rfl
      refine ⟨_, _, hk, hres _ m' h4 (by omega) (fun e => by simpa using e), fun w' _ => hrun m' (.inr ⟨k, rfl⟩) h4 (by omega) w'⟩
  · obtain ⟨⟨rfl, rfl, h3⟩, hk⟩ := hk
    cases hx
    rcases hmx with ⟨rfl, rfl⟩ | ⟨k, m', rfl, rfl⟩
    · refine .base hk fun w' => ?_
      rw [lsl_run ht hs none 0 0 (Nat.le_refl _) lo hi none 0 0 0 (by omega) (by omega) (by omega) (by omega) hlo hhi (.inl ⟨rfl, rfl⟩)]
      simp
    · have := h3 m' rfl
      subst this
      refine .base hk fun w' => ?_
      rw [lsl_run ht hs none 0 0 (Nat.le_refl _) lo hi _ 0 0 0 (by omega) (by omega) (by omega) (by omega) hlo hhi (.inr ⟨k, rfl⟩)]
      simp
  · rename_i g sz' n
    obtain ⟨⟨rfl, h0, h1, h2, h3⟩, hk1, hk2⟩ := hk
    cases hx with
    | @bs _ _ _ c hn hm hw =>
    have h2' : h ≤ (n : Int) := h2
    have hrun : ∀ (m2 : Int), (mx = none ∧ m2 = c) ∨ (∃ k, mx = some (.int k m2)) → h ≤ m2 → m2 ≤ c → ∀ w', (Instr.sliceAt t (.slice (some ⟨g, 0, none⟩) n c) lo hi mx).run P w' = .ok (.slice (if m2.toNat = l.toNat then (some ⟨g, 0, none⟩) else (some (⟨g, 0, none⟩ : Addr)).map (·.add (l.toNat * sz))) (h.toNat - l.toNat) (m2.toNat - l.toNat)) w' := fun m2 hm2 h4 h5 w' =>
      lsl_run ht hs _ n c hn lo hi mx l h m2 h0 h1 h4 h5 hlo (hhi.imp (fun e => ⟨e.1, e.2.1, e.2.2⟩) id) hm2 w'
    have hv : ∀ (full : Bool) (m2 : Int), h ≤ m2 → m2 ≤ c → (full = true → m2 = h) → VR S w (.bv full g sz l.toNat (h - l).toNat) (.slice (if m2.toNat = l.toNat then (some ⟨g, 0, none⟩) else (some (⟨g, 0, none⟩ : Addr)).map (·.add (l.toNat * sz))) (h.toNat - l.toNat) (m2.toNat - l.toNat)) := fun full m2 h4 h5 h6 => by
      have e1 : (h - l).toNat = h.toNat - l.toNat := by omega
      rw [e1]
      by_cases he : m2.toNat = l.toNat
      · rw [if_pos he]
        exact .bv (fun h7 => by omega) (by omega) (by omega) (fun e => by have := h6 e; omega)
      · rw [if_neg he]
        exact .bv (fun _ => by simp [Addr.add_mid]) (by omega) (by omega) (fun e => by have := h6 e; omega)
    rcases hmx with ⟨rfl, rfl⟩ | ⟨k, m', rfl, rfl⟩
    · by_cases hz : l = 0
      · subst hz
        refine ⟨_, .slice (some ⟨g, 0, none⟩) h.toNat c, hk1 ⟨rfl, rfl⟩, .bs (by omega) hm hw, fun w' _ => ?_⟩
        rw [hrun c (.inl ⟨rfl, rfl⟩) (by omega) (by omega)]
        simp [Addr.add]
      · exact ⟨_, _, hk2 (fun e => hz e.1), hv false c (by omega) (by omega) (fun e => by cases e), fun w' _ => hrun c (.inl ⟨rfl, rfl⟩) (by omega) (by omega) w'⟩
    · obtain ⟨h4, h5⟩ := h3 m' rfl
      exact ⟨_, _, hk2 (fun e => by cases e.2), hv _ m' h4 (by omega) (fun e => by simpa using e), fun w' _ => hrun m' (.inr ⟨k, rfl⟩) h4 (by omega) w'⟩
  · rename_i full g sz' off n
    obtain ⟨⟨rfl, h0, h1, h2, h3⟩, hk⟩ := hk
    cases hx with
    | @bv _ _ _ _ _ c A hA hn hm hf =>
    have h2' : h ≤ (n : Int) := h2
    have hrun : ∀ (m2 : Int), (mx = none ∧ m2 = c) ∨ (∃ k, mx = some (.int k m2)) → h ≤ m2 → m2 ≤ c → ∀ w', (Instr.sliceAt t (.slice (some A) n c) lo hi mx).run P w' = .ok (.slice (if m2.toNat = l.toNat then some A else (some A).map (·.add (l.toNat * sz))) (h.toNat - l.toNat) (m2.toNat - l.toNat)) w' := fun m2 hm2 h4 h5 w' =>
      lsl_run ht hs _ n c hn lo hi mx l h m2 h0 h1 h4 h5 hlo (hhi.imp (fun e => ⟨e.1, e.2.1, e.2.2⟩) id) hm2 w'
    have hv : ∀ (full : Bool) (m2 : Int), h ≤ m2 → m2 ≤ c → (full = true → m2 = h) → VR S w (.bv full g sz (off + l.toNat) (h - l).toNat) (.slice (if m2.toNat = l.toNat then some A else (some A).map (·.add (l.toNat * sz))) (h.toNat - l.toNat) (m2.toNat - l.toNat)) := fun full m2 h4 h5 h6 => by
      have e1 : (h - l).toNat = h.toNat - l.toNat := by omega
      rw [e1]
      by_cases he : m2.toNat = l.toNat
      · rw [if_pos he]
        exact .bv (fun h7 => by omega) (by omega) (by omega) (fun e => by have := h6 e; omega)
      · rw [if_neg he]
        refine .bv (fun h7 => ?_) (by omega) (by omega) (fun e => by have := h6 e; omega)
        rw [hA (by omega)]
        show Addr.add _ _ = _
        rw [Addr.add_mid, Nat.add_mul]
    rcases hmx with ⟨rfl, rfl⟩ | ⟨k, m', rfl, rfl⟩
    · refine ⟨_, _, hk, hv _ c (by omega) (by omega) (fun e => ?_), fun w' _ => hrun c (.inl ⟨rfl, rfl⟩) (by omega) (by omega) w'⟩
      simp at e
      have := hf e.1
      omega
    · obtain ⟨h4, h5⟩ := h3 m' rfl
      exact ⟨_, _, hk, hv _ m' h4 (by omega) (fun e => by simpa using e), fun w' _ => hrun m' (.inr ⟨k, rfl⟩) h4 (by omega) w'⟩
  · exact hk.elim
theorem aval_sound (hr : SR W N S s a w) {o : Oper} {m : AO} (hG : m.mem = true → ∀ w', G w' → Quiet w w') (hc : compM P o.op = some m) {K : AVal → Prop} (h : aval m s K) : OVal P S w G (execOp a.eval o) K := by
  obtain ⟨dst, op, type, pos, after, guard⟩ := o
  unfold compM at hc
  dsimp only at hc
  split at hc
  · cases hc; exact ⟨_, _, h, hr.ev _, fun w' _ => rfl⟩
  · cases hc; exact ⟨_, _, h, hr.ev _, fun w' _ => rfl⟩
  · cases hc
    rename_i c x y
    simp only [aval] at h
    split at h
    · rename_i t e
      have hv := hr.ev c
      rw [e] at hv
      have he : a.eval c = .bool t := by generalize a.eval c = u at hv; cases hv; rfl
      cases t
      · exact ⟨_, _, h.2 rfl, hr.ev y, fun w' _ => by simp [execOp, he, asBool]⟩
      · exact ⟨_, _, h.1 rfl, hr.ev x, fun w' _ => by simp [execOp, he, asBool]⟩
    · exact h.elim
  · rename_i op t x y yt
    split at hc
    · cases hc
    · cases hc
    · rename_i cl hcl1 hcl
      cases hc
      exact (abin_sound hcl h (hr.ev x) (hr.ev y)).to rfl
  · cases hc; exact (aun_sound h (hr.ev _)).to rfl
  · simp only [Option.map_eq_some_iff] at hc
    obtain ⟨cl, hcl, rfl⟩ := hc
    exact (acv_sound (H := s.H) hcl h (hr.ev _)).to rfl
  · rename_i t x i
    split at hc
    · rename_i fs ht
      split at hc
      · rename_i f hf
        split at hc
        · rename_i ag n hag hn
          cases hc
          simp only [aval] at h
          split at h
          · rename_i cs e
            have hv := hr.ev x
            rw [e] at hv
            obtain ⟨vs, he⟩ : ∃ vs, a.eval x = .agg vs := by generalize a.eval x = u at hv; cases hv; exact ⟨_, rfl⟩
            rw [he] at hv
            have := part_sound (G := G) hag hn hv h
            refine Val.to (m := Instr.field t (a.eval x) i) ?_ rfl
            obtain ⟨y, u, hk, hv', hg⟩ := this
            exact ⟨y, u, hk, hv', fun w' hq => by simp [Instr.field, Sem.run_bind, run_underlying ht, hf, he, asAgg, hg w' hq]⟩
          · exact h.elim
        · cases hc
      · cases hc
    · cases hc
  · rename_i t x i
    split at hc
    · rename_i fs ht
      split at hc
      · rename_i f hf
        split at hc
        · rename_i n hn
          cases hc
          simp only [aval] at h
          have hv := hr.ev x
          refine Val.to (m := Instr.fieldAt t (a.eval x) i) ?_ rfl
          generalize a.eval x = u at hv
          split at h
          · rename_i cells e
            rw [e] at hv
            cases hv with
            | @pl _ b o us hb hcc hh =>
            refine ⟨_, _, h.2, .pl (fun j => us (f.offset + j)) hb (fun j hj => ?_) (fun j hj => ?_), fun w' _ => fad_run ht hf hn b o w'⟩
            · simp at hj; have := hcc (f.offset + j) (by omega); rw [← Nat.add_assoc] at this; exact this
            · simp at hj ⊢; exact hh _ _
          · rename_i b o e
            rw [e] at hv
            cases hv
            exact .base h fun w' => fad_run ht hf hn b o w'
          · rename_i g sz i' k e
            rw [e] at hv
            cases hv
            refine ⟨_, _, h, .bp, fun w' _ => ?_⟩
            rw [fad_run ht hf hn, Nat.add_assoc]
          · exact h.elim
        · cases hc
      · cases hc
    · cases hc
  · rename_i t x i
    split at hc
    · rename_i e ht
      simp only [Option.map_eq_some_iff] at hc
      obtain ⟨sz, hsz, rfl⟩ := hc
      simp only [aval] at h
      have hv := hr.ev x
      have hv2 := hr.ev i
      refine Val.to (m := Instr.indexAt t (a.eval x) (a.eval i)) ?_ rfl
      generalize a.eval x = u at hv
      generalize a.eval i = u2 at hv2
      split at h
      · rename_i full sz' rows k n e1 e2
        rw [e1] at hv; rw [e2] at hv2
        cases hv2
        obtain ⟨⟨rfl, h0, h1⟩, h⟩ := h
        cases hv with
        | @sl _ _ _ A c us hc hm hf hb hl ho hh =>
        have hi : n.toNat < rows.length := by omega
        rcases hb with hb | ⟨b, o, rfl, hS, hx⟩
        · rw [hb] at hi; simp at hi
        · refine ⟨_, _, h, ?_, fun w' _ => ixa_run ht hsz b o _ c k n h0 h1 w'⟩
          have e3 : rows.getD n.toNat [] = rows[n.toNat] := by simp [hi]
          rw [e3]
          exact .pl (us n.toNat) hS (fun j hj => hx n.toNat j hi (by rw [← hl n.toNat hi]; exact hj)) (fun j hj => hh n.toNat hi j hj)
      · rename_i g sz' len k n e1 e2
        rw [e1] at hv; rw [e2] at hv2
        cases hv2
        obtain ⟨⟨rfl, h0, h1⟩, h⟩ := h
        cases hv with
        | @bs _ _ _ c hn hm hw =>
        refine ⟨_, _, h, .bp, fun w' _ => ?_⟩
        rw [ixa_run ht hsz g 0 _ c k n h0 h1 w']
        simp
      · rename_i full g sz' off len k n e1 e2
        rw [e1] at hv; rw [e2] at hv2
        cases hv2
        obtain ⟨⟨rfl, h0, h1⟩, h⟩ := h
        cases hv with
        | @bv _ _ _ _ _ c A hA hn hm hf =>
        refine ⟨_, _, h, .bp, fun w' _ => ?_⟩
        rw [hA (by omega), ixa_run ht hsz g (off * sz) _ c k n h0 h1 w', Nat.add_mul]
        simp
      · exact h.elim
    · cases hc
  · rename_i t x i
    split at hc
    · rename_i ht
      cases hc
      simp only [aval] at h
      have hv := hr.ev x
      have hv2 := hr.ev i
      refine Val.to (m := Instr.index t (a.eval x) (a.eval i)) ?_ rfl
      generalize a.eval x = u at hv
      generalize a.eval i = u2 at hv2
      split at h
      · rename_i st k n e1 e2
        rw [e1] at hv; rw [e2] at hv2
        cases hv2; cases hv
        obtain ⟨⟨h0, h1⟩, h⟩ := h
        refine .base h fun w' => ?_
        have hi : n.toNat < st.size := by omega
        have e3 : st[n.toNat]? = some (st.data.toList.getD n.toNat 0) := by
          have hi2 : n.toNat < st.data.size := hi
          simp [hi, hi2]; rfl
        simp only [Instr.index, Sem.run_bind, asIntOf, Sem.run_pure, Result.andThen_ok, run_underlying ht, if_pos h0, e3]
      · exact h.elim
    · cases hc
  · rename_i t x lo hi mx
    split at hc
    · rename_i ht
      split at hc
      · rename_i hmx
        cases hc
        simp only [aval] at h
        have hv := hr.ev x
        split at h
        · rename_i st e
          rw [e] at hv
          obtain ⟨l, h, hl⟩ := bnd_open h
          obtain ⟨hh, h, hh2⟩ := bnd_open h
          have h1 := bnd_run hr hl
          have h2 := bnd_run hr hh2
          refine Val.to (m := Instr.sliceAt t (a.eval x) (lo.map a.eval) (hi.map a.eval) (mx.map a.eval)) ?_ rfl
          generalize a.eval x = u at hv
          cases hv
          obtain ⟨⟨h3, h4, h5⟩, h⟩ := h
          have : mx = none := by simpa using hmx
          subst this
          exact .base h fun w' => ssl_run ht st _ _ l hh h3 h4 h5 (h1.imp (fun e => ⟨e.1, e.2.2⟩) id) (h2.imp (fun e => ⟨e.1, e.2.2⟩) id) w'
        · exact h.elim
      · cases hc
    · rename_i e ht
      split at hc
      · rename_i hmx
        simp only [Option.map_eq_some_iff] at hc
        obtain ⟨sz, hsz, rfl⟩ := hc
        simp only [aval] at h
        obtain ⟨l, h, hl⟩ := bnd_open h
        obtain ⟨hh, h, hh2⟩ := bnd_open h
        have h1 := bnd_run hr hl
        have h2 := bnd_run hr hh2
        refine Val.to (m := Instr.sliceAt t (a.eval x) (lo.map a.eval) (hi.map a.eval) (mx.map a.eval)) ?_ rfl
        cases mx with
        | none => exact asl_sound ht hsz (hr.ev x) (h1.imp (fun e => ⟨e.1, e.2.2⟩) id) (h2.imp (fun e => ⟨e.1, e.2.2, rfl⟩) id) (.inl ⟨rfl, rfl⟩) h
        | some mo =>
          dsimp only at h
          obtain ⟨m', h, hm⟩ := bnd_open h
          have h3 := bnd_run hr hm
          rcases h3 with ⟨_, h3, _⟩ | ⟨k3, h3⟩
          · cases h3
          rcases h2 with ⟨_, rfl, _⟩ | h2
          · simp at hmx
          · exact asl_sound ht hsz (hr.ev x) (h1.imp (fun e => ⟨e.1, e.2.2⟩) id) (.inr h2) (.inr ⟨k3, m', h3, rfl⟩) h
      · cases hc
    · cases hc
  · rename_i args ts
    split at hc
    · rename_i x t e1 e2
      obtain rfl : args = #[x] := by cases args; simp_all
      obtain rfl : ts = #[t] := by cases ts; simp_all
      have hv := hr.ev x
      have key : ∀ (u : Value) (n : Nat), a.eval x = u → (∀ w', (Builtin.len_ #[t] type #[u]).run P w' = .ok (.int .i64 n) w') → K (.v (.int .i64 n)) → OVal P S w G (execOp a.eval ⟨dst, .call ⟨.builtin .len, #[x], #[t]⟩, type, pos, after, guard⟩) K := fun u n hu hrun hk =>
        ⟨_, _, hk, .v _, fun w' _ => by simp [execOp, resolve, invoke, builtin, Sem.run_bind, hu, hrun w']⟩
      split at hc
      · rename_i ht
        cases hc
        simp only [aval] at h
        generalize a.eval x = u at hv key
        generalize ev s.tm x = ax at hv h
        split at h <;> first | exact h.elim | skip
        · cases hv; exact key _ _ rfl (fun w' => by simp [Builtin.len_, Sem.run_bind, run_underlying ht, goInt]) h
        all_goals simp_all
      · rename_i e ht
        cases hc
        simp only [aval] at h
        generalize a.eval x = u at hv key
        generalize ev s.tm x = ax at hv h
        split at h <;> first | exact h.elim | skip
        · simp_all
        all_goals cases hv; exact key _ _ rfl (fun w' => by simp [Builtin.len_, Sem.run_bind, run_underlying ht, goInt]) h
      · rename_i k e ht
        cases hc
        simp only [aval] at h
        refine (mlen_sound (hG rfl) hr.wr ht type (hr.ev x) h.1 h.2).to ?_
        simp [execOp, resolve, invoke, builtin]
      · cases hc
    · cases hc
  · rename_i t x i ok
    split at hc
    · rename_i k e ht
      split at hc
      · rename_i kc z hkc hz
        split at hc
        · rename_i hz1
          cases hc
          simp only [aval] at h
          exact (lk_sound (hG rfl) hr.wr ht hkc hz hz1 ok (hr.ev x) (hr.ev i) h.1 h.2).to rfl
        · cases hc
      · cases hc
    · cases hc
  · cases hc
    simp only [aval] at h
    exact (men_sound (hG rfl) hr.wr (hr.ev _) h.1 h.2).to rfl
  · rename_i args ts
    split at hc
    · rename_i x y e1
      cases hc
      obtain rfl : args = #[x, y] := by cases args; simp_all
      have hx := hr.ev x
      have hy := hr.ev y
      simp only [aval] at h
      have key : ∀ (p q u : Value), a.eval x = p → a.eval y = q → (∀ w', (Builtin.max_ ts type #[p, q]).run P w' = .ok u w') → K (.v u) → OVal P S w G (execOp a.eval ⟨dst, .call ⟨.builtin .max, #[x, y], ts⟩, type, pos, after, guard⟩) K := fun p q u hp hq hrun hk =>
        ⟨_, _, hk, .v _, fun w' _ => by simp [execOp, resolve, invoke, builtin, Sem.run_bind, hp, hq, hrun w']⟩
      generalize a.eval x = p at hx key
      generalize a.eval y = q at hy key
      unfold minmax at h
      split at h
      · rename_i k i k' j e2 e3
        rw [e2] at hx; rw [e3] at hy
        cases hx; cases hy
        obtain ⟨rfl, h⟩ := h
        refine key _ _ _ rfl rfl (fun w' => ?_) h
        simp [Builtin.max_, Builtin.max2]
        split <;> omega
      · exact h.elim
    · cases hc
  · rename_i args ts
    split at hc
    · rename_i x y e1
      cases hc
      obtain rfl : args = #[x, y] := by cases args; simp_all
      have hx := hr.ev x
      have hy := hr.ev y
      simp only [aval] at h
      have key : ∀ (p q u : Value), a.eval x = p → a.eval y = q → (∀ w', (Builtin.min_ ts type #[p, q]).run P w' = .ok u w') → K (.v u) → OVal P S w G (execOp a.eval ⟨dst, .call ⟨.builtin .min, #[x, y], ts⟩, type, pos, after, guard⟩) K := fun p q u hp hq hrun hk =>
        ⟨_, _, hk, .v _, fun w' _ => by simp [execOp, resolve, invoke, builtin, Sem.run_bind, hp, hq, hrun w']⟩
      generalize a.eval x = p at hx key
      generalize a.eval y = q at hy key
      unfold minmax at h
      split at h
      · rename_i k i k' j e2 e3
        rw [e2] at hx; rw [e3] at hy
        cases hx; cases hy
        obtain ⟨rfl, h⟩ := h
        refine key _ _ _ rfl rfl (fun w' => ?_) h
        simp [Builtin.min_, Builtin.min2]
        split <;> omega
      · exact h.elim
    · cases hc
  · rename_i x i
    cases hc
    simp only [aval] at h
    have hx := hr.ev x
    refine Val.to (m := Instr.extract (a.eval x) i) ?_ rfl
    generalize a.eval x = p at hx
    split at h
    · rename_i vs e
      rw [e] at hx
      obtain ⟨c, hc, hk⟩ := h
      obtain ⟨hlt, rfl⟩ := List.getElem?_eq_some_iff.1 hc
      cases hx with
      | @tup _ us' us hl hv hh =>
      refine ⟨_, us i, hk, hh i hlt, fun w' _ => ?_⟩
      have : us'[i]? = some (us i) := by rw [Array.getElem?_eq_getElem (by omega), hv]
      simp [Instr.extract, this]
    · exact h.elim
  · rename_i f first caps
    split at hc
    · rename_i hf
      cases hc
      simp only [aval] at h
      have : first = #[] := by simpa using hf
      subst this
      refine ⟨_, .func (.func f) #[] (caps.map a.eval), h, .fn (fun j => (caps.map a.eval).getD j undef) (by simp) (fun j hj => by simp at hj; simp [hj]) (fun j hj => ?_), fun w' _ => by simp [execOp, Instr.makeFunc]⟩
      simp at hj ⊢
      simpa [hj] using hr.ev caps[j]
    · cases hc
  · rename_i t x
    split at hc
    · cases hc
    · cases hc
    · rename_i d hn ht
      cases hc
      simp only [aval] at h
      refine ⟨_, .iface t (a.eval x), h, .ifc (hr.ev x), fun w' _ => ?_⟩
      have hd : (underlying t).run P w' = .ok d w' := run_underlying ht w'
      simp only [execOp, Instr.makeInterface, Sem.run_bind, hd, Result.andThen_ok]
      cases d <;> simp_all
  · rename_i x
    cases hc
    simp only [aval] at h
    have hx := hr.ev x
    have key : ∀ u, a.eval x = u → (∀ y, K y → VR S w y u → (∀ w', (execOp a.eval ⟨dst, .nilCheck x, type, pos, after, guard⟩).run P w' = .ok (.value u) w') → OVal P S w G (execOp a.eval ⟨dst, .nilCheck x, type, pos, after, guard⟩) K) := fun u hu y hk hv hrun => ⟨y, u, hk, hv, fun w' _ => hrun w'⟩
    have hex : ∀ u, a.eval x = u → ∀ w', (∃ A, u = .pointer (some A)) ∨ (∃ f vs, u = .func (.func f) #[] vs) ∨ (∃ t v, u = .iface t v) → (execOp a.eval ⟨dst, .nilCheck x, type, pos, after, guard⟩).run P w' = .ok (.value u) w' := by
      rintro u hu w' (⟨A, rfl⟩ | ⟨f, vs, rfl⟩ | ⟨t, v, rfl⟩) <;> simp [execOp, hu]
    generalize a.eval x = u at hx key hex
    split at h
    · rename_i A e
      rw [e] at hx
      exact key u rfl _ h hx (fun w' => hex u rfl w' (.inl (by cases hx; exact ⟨_, rfl⟩)))
    · rename_i cells e
      rw [e] at hx
      exact key u rfl _ h hx (fun w' => hex u rfl w' (.inl (by cases hx; exact ⟨_, rfl⟩)))
    · rename_i g sz i k e
      rw [e] at hx
      exact key u rfl _ h hx (fun w' => hex u rfl w' (.inl (by cases hx; exact ⟨_, rfl⟩)))
    · rename_i f caps e
      rw [e] at hx
      exact key u rfl _ h hx (fun w' => hex u rfl w' (.inr (.inl (by cases hx; exact ⟨_, _, rfl⟩))))
    · rename_i t y e
      rw [e] at hx
      exact key u rfl _ h hx (fun w' => hex u rfl w' (.inr (.inr (by cases hx; exact ⟨_, _, rfl⟩))))
    · exact h.elim
  · rename_i t x
    split at hc
    · rename_i ag n hag hn
      cases hc
      exact (ald_sound (hG rfl) hr.wr hag hn h (hr.ev x)).to rfl
    · cases hc
  · rename_i t parts
    split at hc
    · rename_i fs zero ht hz
      split at hc
      · rename_i ps hps
        split at hc
        · rename_i hcond
          cases hc
          simp only [aval] at h
          obtain ⟨cs, hl, hk⟩ := h
          simp only [Bool.and_eq_true] at hcond
          have hzero : CR S w (zero.toList.map AVal.v) zero := by
            refine ⟨by simp, fun j hj => ?_, fun j hj hj' => ?_⟩
            · simp at hj ⊢
              have := hcond.2
              simp at this
              simpa [AVal.one] using this j hj
            · simp; exact .v _
          obtain ⟨pl, hpl⟩ : ∃ pl : Nat → Option (Nat × Nat), pl = fun (i : Nat) => (fs[i]?).bind fun (f : Field) => (szOf P f.type).map fun n => (f.offset, n) := ⟨_, rfl⟩
          have hmap : (parts.toList.mapM fun p => (pl p.1).map fun q => (q.1, q.2, p.2)) = some ps := by
            rw [← hps, hpl]
            congr 1
            funext p
            dsimp only
            cases e : fs[p.1]? with
            | none => rfl
            | some f => simp only [Option.bind_some, Option.map_map]; rfl
          obtain ⟨cur', h1, h2⟩ := lay_fill hr pl parts.toList ps _ cs zero hmap hl hzero
          rw [hpl] at h1
          refine ⟨_, .agg cur', hk, h2.agg, fun w' _ => exec_val (m := Instr.build t (parts.map fun (i, x) => (i, a.eval x))) rfl ?_⟩
          have := bld_run ht hz hcond.1 (parts.toList.map fun p => (p.1, a.eval p.2)) h1 w'
          rw [← this]
          congr 2
          apply Array.ext'
          simp
        · cases hc
      · cases hc
    · cases hc
  · cases hc
end Go.Proofs.Ytidicfdcjoggpaa.M
