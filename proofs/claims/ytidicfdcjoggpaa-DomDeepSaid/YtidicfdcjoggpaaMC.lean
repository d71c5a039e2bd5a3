/-
  What the abstract machine's quiet operations yield, the program's yield.
-/
import Derived.Test.YtidicfdcjoggpaaMB
import Derived.ChangeKeysEq
import Derived.Laws.StructEq
namespace Go.Proofs.Ytidicfdcjoggpaa.M
open Go.RowKit
set_option linter.unusedVariables false
set_option linter.unusedSimpArgs false
variable {P : Program} {W : World} {S : Nat → Prop} {w : World} {G : World → Prop}

def Val (P : Program) (S : Nat → Prop) (w : World) (G : World → Prop) (m : Sem Value) (K : AVal → Prop) : Prop := ∃ x u, K x ∧ VR S w x u ∧ Gives P G m u
theorem Val.mk {m : Sem Value} {K : AVal → Prop} {x : AVal} {u : Value} (hk : K x) (hv : VR S w x u) (hg : ∀ w', m.run P w' = .ok u w') : Val P S w G m K := ⟨x, u, hk, hv, fun w' _ => hg w'⟩
theorem Val.base {m : Sem Value} {K : AVal → Prop} {u : Value} (hk : K (.v u)) (hg : ∀ w', m.run P w' = .ok u w') : Val P S w G m K := .mk hk (.v u) hg

theorem bin_run (P : Program) (op : BinOp) (t : TypeId) (x y : Operand) (a b u : Value) (w : World) (h1 : a ≠ .nilIface) (h2 : ∀ cs, a ≠ .agg cs) (h : (binOp op t a b).run P w = .ok u w) : (do eqGuard op t x y a b; binOp op t a b : Sem Value).run P w = .ok u w := by
  have he : (eqGuard op t x y a b).run P w = .ok () w := by
    unfold eqGuard
    cases a <;> simp_all <;> cases op <;> simp
  rw [Sem.run_bind, he]
  exact h
theorem eq_bool {t : TypeId} (ht : P.underlying t = some .bool) (a b : Bool) (w : World) : (Op.equal t (.bool a) (.bool b)).run P w = .ok (a == b) w := by
  unfold Op.equal Op.maxDepth Op.equalIn
  simp [Sem.run_bind, run_underlying ht]
theorem eq_slice {t e : TypeId} (ht : P.underlying t = some (.slice e)) (A : Option Addr) (n c n' c' : Nat) (w : World) : (Op.equal t (.slice A n c) (.slice none n' c')).run P w = .ok A.isNone w := by
  unfold Op.equal Op.maxDepth Op.equalIn
  cases A <;> simp [Sem.run_bind, run_underlying ht]
theorem eq_ptr {t e : TypeId} (ht : P.underlying t = some (.pointer e)) (A : Option Addr) (w : World) : (Op.equal t (.pointer A) (.pointer none)).run P w = .ok A.isNone w := by
  unfold Op.equal Op.maxDepth Op.equalIn
  cases A <;> simp [Sem.run_bind, run_underlying ht]
theorem part_flat {t : TypeId} {k : Nat} (hk : flatKind P t = some k) {vs : Array Value} {i : Nat} {u : Value} (hu : vs[i]? = some u) (w' : World) : (part t vs i).run P w' = .ok u w' := by
  obtain ⟨d, hd, hr⟩ : ∃ d, P.underlying t = some d ∧ d.isRow = false := by
    unfold flatKind at hk; split at hk <;> simp_all [TypeDesc.isRow]
  have hagg : (isAgg t).run P w' = .ok false w' := by
    unfold isAgg
    rw [Sem.run_bind, run_underlying hd w']
    cases d <;> simp_all [TypeDesc.isRow]
  simp [part, Sem.run_bind, hagg, hu]
theorem flat1_run {t : TypeId} {k : Nat} (hk : flatKind P t = some k) {x y : AVal} {a b : Value} {r : Bool} (h : flat1 k x y = some r) (hx : VR S w x a) (hy : VR S w y b) (d : Nat) (w' : World) : (Op.equalIn (d + 1) t a b).run P w' = .ok r w' := by
  unfold flat1 at h
  split at h
  · cases hx; cases hy
    unfold flatKind at hk
    split at hk <;> simp at hk
    rename_i ht
    split at h <;> simp at h
    rename_i e
    subst e; subst h
    simp [Op.equalIn, run_underlying ht, BEq.beq]
  · cases hx; cases hy
    unfold flatKind at hk
    split at hk <;> simp at hk
    rename_i ht
    simp at h
    subst h
    rw [run_equalIn_string w' d t _ _ ht, str_beq]
  · cases hx; cases hy
    unfold flatKind at hk
    split at hk <;> simp at hk
    rename_i ht
    simp at h
    subst h
    rw [run_equalIn_bool' w' d t _ _ ht]
  · cases h
theorem flat_run {cs ds : List AVal} {vs us : Array Value} (hx : VR S w (.agg cs) (.agg vs)) (hy : VR S w (.agg ds) (.agg us)) (d : Nat) (w' : World) : ∀ (fs : List Field) (i : Nat) (ks : List Nat) (b : Bool), flatFields P fs i = some ks → flatEq ks (cs.drop i) (ds.drop i) = some b → (Op.eqFields (d + 1) vs us fs).run P w' = .ok b w'
  | [], i, ks, b, h, he => by
    simp only [flatFields, Option.some.injEq] at h
    subst h
    unfold flatEq at he
    split at he <;> simp_all [Op.eqFields]
  | f :: r, i, ks, b, h, he => by
    simp only [flatFields] at h
    split at h
    · rename_i hf
      split at h
      · rename_i k ks' hk hks
        cases h
        cases hcs : cs.drop i with
        | nil => rw [hcs] at he; simp [flatEq] at he
        | cons x xs =>
          cases hds : ds.drop i with
          | nil => rw [hcs, hds] at he; simp [flatEq] at he
          | cons y ys =>
            rw [hcs, hds] at he
            simp only [flatEq] at he
            split at he
            · rename_i a b' ha hb
              cases he
              have hxs : cs.drop (i + 1) = xs := by rw [← List.tail_drop, hcs]; rfl
              have hys : ds.drop (i + 1) = ys := by rw [← List.tail_drop, hds]; rfl
              have hilc : i < cs.length := by
                rcases Nat.lt_or_ge i cs.length with h | h
                · exact h
                · rw [List.drop_eq_nil_of_le h] at hcs; cases hcs
              have hild : i < ds.length := by
                rcases Nat.lt_or_ge i ds.length with h | h
                · exact h
                · rw [List.drop_eq_nil_of_le h] at hds; cases hds
              have ex : x = cs[i] := by rw [List.drop_eq_getElem_cons hilc] at hcs; cases hcs; rfl
              have ey : y = ds[i] := by rw [List.drop_eq_getElem_cons hild] at hds; cases hds; rfl
              have ih := flat_run hx hy d w' r (i + 1) ks' b' hks (by rw [hxs, hys]; exact hb)
              cases hx with
              | agg u1 hl1 hv1 ho1 hh1 =>
              cases hy with
              | agg u2 hl2 hv2 ho2 hh2 =>
              have h1 : vs[i]? = some (u1 i) := by rw [Array.getElem?_eq_getElem (by omega), hv1]
              have h2 : us[i]? = some (u2 i) := by rw [Array.getElem?_eq_getElem (by omega), hv2]
              have e3 := flat1_run hk ha (by rw [ex]; exact hh1 i hilc) (by rw [ey]; exact hh2 i hild) d w'
              have hn : f.name ≠ "_" := by simpa using hf.1
              simp only [Op.eqFields, if_pos hn, Sem.run_bind, hf.2, part_flat hk h1 w', part_flat hk h2 w', e3, Result.andThen_ok]
              cases a
              · simp
              · simpa using ih
            · cases he
      · cases h
    · cases h
theorem steq_run {t : TypeId} {ks : List Nat} (hc : clsOf P t = some (.struct ks)) {x y : AVal} {a b : Value} {r : Bool} (h : steq ks x y = some r) (hx : VR S w x a) (hy : VR S w y b) (w' : World) : (∃ us vs, a = .agg us ∧ b = .agg vs) ∧ P.eqGuardType P.depth t = false ∧ (Op.equal t a b).run P w' = .ok r w' := by
  unfold steq at h
  split at h
  · rename_i hag
    unfold clsOf at hc
    split at hc <;> simp at hc
    rename_i fs ht
    cases x <;> simp [isAggA] at hag
    cases y <;> simp at hag
    cases hx with
    | @agg cs vs u1 hl1 hv1 ho1 hh1 =>
    cases hy with
    | @agg ds us u2 hl2 hv2 ho2 hh2 =>
    refine ⟨⟨_, _, rfl, rfl⟩, hc.1.2, ?_⟩
    have hf : P.fieldsOf t = fs := by simp [Program.fieldsOf, ht]
    unfold Op.equal Op.maxDepth
    rw [run_equalIn_struct w' 9999 t vs us (by rw [hf]; exact ht) hc.1.1, hf]
    exact flat_run (.agg u1 hl1 hv1 ho1 hh1) (.agg u2 hl2 hv2 ho2 hh2) 9998 w' fs.toList 0 ks r hc.2 (by simpa [aggA] using h)
  · cases h
theorem abin_sound {op : BinOp} {t : TypeId} {cl : Cls} {x y : Operand} {ax ay : AVal} {a b : Value} {K : AVal → Prop} (hc : clsOf P t = some cl) (h : abin op cl ax ay K) (hx : VR S w ax a) (hy : VR S w ay b) :
    Val P S w G (do eqGuard op t x y a b; binOp op t a b) K := by
  cases cl with
  | num =>
    simp only [abin] at h
    split at h
    · cases hx; cases hy
      rename_i k i k' j
      cases op <;> simp only [] at h
      all_goals first
        | exact h.elim
        | (obtain ⟨rfl, h0, h⟩ := h; exact .base h fun w' => bin_run _ _ _ _ _ _ _ _ _ (by simp) (by simp) (by simp [binOp, Op.intDiv, h0]))
        | (obtain ⟨rfl, h⟩ := h; exact .base h fun w' => bin_run _ _ _ _ _ _ _ _ _ (by simp) (by simp) (by simp [binOp, Op.intArith, Op.intCmp, Op.intBits, BEq.beq, bne]))
        | (obtain ⟨h0, h⟩ := h; exact .base h fun w' => bin_run _ _ _ _ _ _ _ _ _ (by simp) (by simp) (by simp [binOp, Op.shift, show ¬ j < 0 by omega]))
    · cases hx; cases hy
      rename_i i j
      cases op <;> simp only [] at h
      all_goals first
        | exact h.elim
        | (obtain ⟨h0, h⟩ := h; exact .base h fun w' => bin_run _ _ _ _ _ _ _ _ _ (by simp) (by simp) (by
            have : ¬ (IntKind.i64.max < ((i.size + j.size : Nat) : Int)) := by simp [IntKind.max, IntKind.bits]; omega
            simp only [binOp, Op.stringOp]
            rw [if_neg (by omega)]; rfl))
        | exact .base h fun w' => bin_run _ _ _ _ _ _ _ _ _ (by simp) (by simp) (by simp [binOp, Op.stringOp, strLt, str_beq])
    · exact h.elim
  | bool =>
    have ht : P.underlying t = some .bool := by
      unfold clsOf at hc; split at hc <;> simp_all
    simp only [abin] at h
    split at h
    · cases hx; cases hy
      exact .base h fun w' => bin_run _ _ _ _ _ _ _ _ _ (by simp) (by simp) (by simp [binOp, Sem.run_bind, eq_bool ht])
    · cases hx; cases hy
      exact .base h fun w' => bin_run _ _ _ _ _ _ _ _ _ (by simp) (by simp) (by simp [binOp, Sem.run_bind, eq_bool ht, bne])
    · exact h.elim
  | slice =>
    obtain ⟨e, ht⟩ : ∃ e, P.underlying t = some (.slice e) := by
      unfold clsOf at hc; split at hc <;> simp_all
    have key : ∀ (A : Option Addr) (n c n' c' : Nat) (w' : World), (do eqGuard .eql t x y (.slice A n c) (.slice none n' c'); binOp .eql t (.slice A n c) (.slice none n' c') : Sem Value).run P w' = .ok (.bool A.isNone) w' := fun A n c n' c' w' =>
      bin_run _ _ _ _ _ _ _ _ _ (by simp) (by simp) (by simp [binOp, Sem.run_bind, eq_slice ht])
    have key2 : ∀ (A : Option Addr) (n c n' c' : Nat) (w' : World), (do eqGuard .neq t x y (.slice A n c) (.slice none n' c'); binOp .neq t (.slice A n c) (.slice none n' c') : Sem Value).run P w' = .ok (.bool (!A.isNone)) w' := fun A n c n' c' w' =>
      bin_run _ _ _ _ _ _ _ _ _ (by simp) (by simp) (by simp [binOp, Sem.run_bind, eq_slice ht])
    simp only [abin] at h
    split at h
    · cases hx; cases hy; exact .base h fun w' => key _ _ _ _ _ w'
    · cases hx; cases hy; exact .base h fun w' => key _ _ _ _ _ w'
    · cases hx; cases hy; exact .base h fun w' => key2 _ _ _ _ _ w'
    · cases hx; cases hy; exact .base h fun w' => key2 _ _ _ _ _ w'
    · cases hx; cases hy; exact .base h fun w' => key _ _ _ _ _ w'
    · cases hx; cases hy; exact .base h fun w' => key2 _ _ _ _ _ w'
    · cases hy
      cases hx with
      | @sl _ _ _ A c us hc1 hm hf hb _ _ _ =>
      refine .base (h A.isNone fun hA => ?_) fun w' => key _ _ _ _ _ w'
      rcases hb with hb | ⟨b, o, rfl, _⟩
      · exact hb
      · cases hA
    · cases hy
      cases hx with
      | @sl _ _ _ A c us hc1 hm hf hb _ _ _ =>
      refine .base (h (!A.isNone) fun hA => ?_) fun w' => key2 _ _ _ _ _ w'
      rcases hb with hb | ⟨b, o, rfl, _⟩
      · exact hb
      · cases hA
    · exact h.elim
  | ptr =>
    obtain ⟨e, ht⟩ : ∃ e, P.underlying t = some (.pointer e) := by
      unfold clsOf at hc; split at hc <;> simp_all
    simp only [abin] at h
    split at h
    · cases hx; cases hy; exact .base h fun w' => bin_run _ _ _ _ _ _ _ _ _ (by simp) (by simp) (by simp [binOp, Sem.run_bind, eq_ptr ht])
    · cases hx; cases hy; rename_i A; exact .base h fun w' => bin_run _ _ _ _ _ _ _ _ _ (by simp) (by simp) (by cases A <;> simp [binOp, Sem.run_bind, eq_ptr ht])
    · exact h.elim
  | func => exact h.elim
  | map => exact h.elim
  | struct ks =>
    simp only [abin] at h
    split at h
    · obtain ⟨r, h1, h2⟩ := h
      refine .base h2 fun w' => ?_
      obtain ⟨⟨us, vs, rfl, rfl⟩, hg, hrun⟩ := steq_run hc h1 hx hy w'
      simp only [Sem.run_bind, run_eqGuard_agg w' _ _ _ _ _ _ hg, Result.andThen_ok, run_eql_struct]
      have : (Op.equalIn 10000 t (.agg us) (.agg vs)).run P w' = .ok r w' := hrun
      rw [this]; rfl
    · obtain ⟨r, h1, h2⟩ := h
      refine .base h2 fun w' => ?_
      obtain ⟨⟨us, vs, rfl, rfl⟩, hg, hrun⟩ := steq_run hc h1 hx hy w'
      simp only [Sem.run_bind, run_eqGuard_agg w' _ _ _ _ _ _ hg, Result.andThen_ok, run_neq_struct]
      have : (Op.equalIn 10000 t (.agg us) (.agg vs)).run P w' = .ok r w' := hrun
      rw [this]; rfl
    · exact h.elim

theorem aun_sound {op : UnOp} {ax : AVal} {a : Value} {K : AVal → Prop} (h : aun op ax K) (hx : VR S w ax a) : Val P S w G (Op.unary op a) K := by
  unfold aun at h
  split at h
  · cases hx; exact .base h fun w' => by simp [Op.unary]
  · cases hx; exact .base h fun w' => by simp [Op.unary, Op.intArith]
  · exact h.elim
theorem acv_sound {H : AHeap} {sr dt : TypeId} {c : Cv} {ax : AVal} {a : Value} {K : AVal → Prop} (hc : cvOf P sr dt = some c) (h : acv H c ax K) (hx : VR S w ax a) : Val P S w G (convert sr dt a) K := by
  unfold cvOf at hc
  unfold acv at h
  split at hc
  · rename_i h1 h2
    simp only [Option.some.injEq] at hc; subst hc
    split at h <;> first | exact h.elim | skip
    · cases hx; simp_all; exact .base h fun w' => by simp [convert, Sem.run_bind, run_underlying h1, run_underlying h2, Conv.intToInt]
    all_goals simp_all
  · rename_i h1 h2
    simp only [Option.some.injEq] at hc; subst hc
    split at h <;> first | exact h.elim | skip
    · simp_all
    · cases hx; exact .base h fun w' => by simp [convert, Sem.run_bind, run_underlying h1, run_underlying h2, Conv.intToString]
    all_goals simp_all
  · rename_i h1 h2
    simp only [Option.some.injEq] at hc; subst hc
    split at h <;> first | exact h.elim | skip
    · simp_all
    · simp_all
    · cases hx; exact .base h fun w' => by simp [convert, Sem.run_bind, run_underlying h1, run_underlying h2]
  · cases hc
/-- A part of a struct's value. -/
theorem part_sound {t : TypeId} {ag : Bool} {n : Nat} (hag : aggOf P t = some ag) (hn : szOf P t = some n) {cs : List AVal} {vs : Array Value} (hx : VR S w (.agg cs) (.agg vs)) {off : Nat} {K : AVal → Prop}
    (h : if ag then off + n ≤ cs.length ∧ K (.agg ((cs.drop off).take n)) else ∃ c, cs[off]? = some c ∧ K c) : Val P S w G (part t vs off) K := by
  obtain ⟨d, hd, rfl⟩ : ∃ d, P.underlying t = some d ∧ d.isRow = ag := by
    unfold aggOf at hag; cases e : P.underlying t <;> simp_all
  obtain ⟨i, hi, rfl⟩ : ∃ i, P.info? t = some i ∧ i.size = n := by
    unfold szOf at hn; cases e : P.info? t <;> simp_all
  have hagg : ∀ w', (isAgg t).run P w' = .ok d.isRow w' := fun w' => by
    unfold isAgg
    rw [Sem.run_bind, run_underlying hd w']
    cases d <;> simp_all
  cases hx with
  | agg us hl hv ho hh =>
  by_cases hr : d.isRow = true
  · rw [if_pos hr] at h
    refine ⟨_, .agg (vs.extract off (off + i.size)), h.2, .agg (fun j => us (off + j)) (by simp; omega) (fun j hj => by simp at hj ⊢; exact hv _ _) (fun j hj => by simp at hj ⊢; exact ho _ (by omega)) (fun j hj => by simp at hj ⊢; exact hh _ (by omega)), fun w' _ => ?_⟩
    simp [part, Sem.run_bind, hagg, hr, sizeOf, typeInfo, hi]
  · rw [if_neg hr] at h
    obtain ⟨c, hc, hk⟩ := h
    obtain ⟨hlt, rfl⟩ := List.getElem?_eq_some_iff.1 hc
    refine ⟨_, us off, hk, hh off hlt, fun w' _ => ?_⟩
    have : vs[off]? = some (us off) := by rw [Array.getElem?_eq_getElem (by omega), hv]
    simp [part, Sem.run_bind, hagg, hr, this]
theorem cell_of {w w' : World} (hq : Quiet w w') {b : Nat} {o : Nat} {u : Value} (h : w.cell? ⟨b, o, none⟩ = some u) : w'.cell? ⟨b, o, none⟩ = some u := hq.cell h
/-- A variable read at a place whose cells are known. -/
theorem load_sound (hG : ∀ w', G w' → Quiet w w') {t : TypeId} {ag : Bool} {n : Nat} (hag : aggOf P t = some ag) (hn : szOf P t = some n) {cs : List AVal} {b o : Nat} (us : Nat → Value) (hc : ∀ j, j < cs.length → w.cell? ⟨b, o + j, none⟩ = some (us j)) (hh : ∀ j (hj : j < cs.length), VR S w cs[j] (us j)) {K : AVal → Prop}
    (h : if ag then (n ≤ cs.length ∧ (∀ c ∈ cs.take n, c.one = true)) ∧ K (.agg (cs.take n)) else ∃ c, cs[0]? = some c ∧ K c) : Val P S w G (Instr.loadAt t (.pointer (some ⟨b, o, none⟩))) K := by
  obtain ⟨d, hd, rfl⟩ : ∃ d, P.underlying t = some d ∧ d.isRow = ag := by
    unfold aggOf at hag; cases e : P.underlying t <;> simp_all
  obtain ⟨i, hi, rfl⟩ : ∃ i, P.info? t = some i ∧ i.size = n := by
    unfold szOf at hn; cases e : P.info? t <;> simp_all
  by_cases hr : d.isRow = true
  · rw [if_pos hr] at h
    obtain ⟨⟨hle, hone⟩, hk⟩ := h
    have hlen : ((List.range i.size).map us).length = i.size := by simp
    refine ⟨_, .agg ((List.range i.size).map us).toArray, hk, .agg us (by simp; omega) (fun j hj => by simp) (fun j hj => ?_) (fun j hj => by simp at hj ⊢; exact hh _ (by omega)), fun w' hq => ?_⟩
    · exact hone _ (List.getElem_mem hj)
    · refine run_loadAt_mid w' b o t _ d (fun j v hv => ?_) hd hr (by simp [hi])
      obtain ⟨hj, rfl⟩ := List.getElem?_eq_some_iff.1 hv
      simp at hj ⊢
      exact (hG w' hq).cell (hc j (by omega))
  · rw [if_neg hr] at h
    obtain ⟨c, hc0, hk⟩ := h
    obtain ⟨hlt, rfl⟩ := List.getElem?_eq_some_iff.1 hc0
    refine ⟨_, us 0, hk, hh 0 hlt, fun w' hq => ?_⟩
    have hagg : (isAgg t).run P w' = .ok false w' := by
      unfold isAgg
      rw [Sem.run_bind, run_underlying hd w']
      cases d <;> simp_all
    have := (hG w' hq).cell (hc 0 hlt)
    rw [Nat.add_zero] at this
    simp [Instr.loadAt, Instr.sureAddr, Sem.run_bind, loadVar, hagg, load, Sem.run, this]
end Go.Proofs.Ytidicfdcjoggpaa.M
