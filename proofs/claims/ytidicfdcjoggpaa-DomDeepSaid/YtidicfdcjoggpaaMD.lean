/-
  The quiet operations, all of them: each yields what the abstract machine says.
-/
import Derived.Test.YtidicfdcjoggpaaMC
import Derived.Maps.Range
namespace Go.Proofs.Ytidicfdcjoggpaa.M
open Go.RowKit
set_option linter.unusedVariables false
set_option linter.unusedSimpArgs false
variable {P : Program} {W : World} {S : Nat → Prop} {w : World} {G : World → Prop}
theorem cell_at {w : World} {b : Nat} {cur : Array Value} {E : TypeId} {fz : Nat × Nat} (h : w.heap[b]? = some (.cells cur E fz)) (o : Nat) : w.cell? ⟨b, o, none⟩ = cur[o]? := by
  simp [World.cell?, h]
theorem ald_sound (hG : ∀ w', G w' → Quiet w w') {H : AHeap} (hw : WR W S H w) {t : TypeId} {ag : Bool} {n : Nat} (hag : aggOf P t = some ag) (hn : szOf P t = some n) {ax : AVal} {a : Value} {K : AVal → Prop} (h : ald H ag n ax K) (hx : VR S w ax a) : Val P S w G (Instr.loadAt t a) K := by
  unfold ald at h
  split at h
  · cases hx with
    | pl us hb hc hh => exact load_sound hG hag hn us hc hh h
  · cases hx
    rename_i b o
    split at h
    · rename_i E cs hb
      obtain ⟨cur, fz, h1, h2, h3, h4, h5⟩ := hw.objs _ _ hb
      have hlen : ∀ j, j < (cs.drop o).length → o + j < cs.length := fun j hj => by simp at hj; omega
      refine load_sound hG hag hn (cs := cs.drop o) (fun j => cur.getD (o + j) undef) (fun j hj => ?_) (fun j hj => ?_) ?_
      · have := hlen j hj
        rw [cell_at h1]
        simp [Array.getElem?_eq_getElem, show o + j < cur.size by omega]
      · have hj' := hlen j hj
        have := h5 (o + j) hj' (by omega)
        simp only [List.getElem_drop]
        simpa [show o + j < cur.size by omega] using this
      · split
        · rename_i e
          rw [if_pos e] at h
          refine ⟨⟨by simp; omega, fun c hc => ?_⟩, h.2⟩
          obtain ⟨j, hj, rfl⟩ := List.mem_iff_getElem.1 hc
          simp at hj ⊢
          exact h4 _ (by omega)
        · rename_i e
          rw [if_neg e] at h
          obtain ⟨c, hc, hk⟩ := h
          exact ⟨c, by simpa using hc, hk⟩
    · exact h.elim
  · cases hx
    rename_i g sz i k
    split at h
    · rename_i E sz' rows hb
      obtain ⟨rfl, r, hr, h⟩ := h
      obtain ⟨hi, rfl⟩ := List.getElem?_eq_some_iff.1 hr
      obtain ⟨cur, fz, c, h1, h2, h3, h4, h5, h6, h7, h8⟩ := hw.objs _ _ hb
      have hlen : ∀ j, j < (rows[i].drop k).length → k + j < rows[i].length := fun j hj => by simp at hj; omega
      refine load_sound hG hag hn (cs := rows[i].drop k) (fun j => cur.getD (i * sz + (k + j)) undef) (fun j hj => ?_) (fun j hj => ?_) ?_
      · obtain ⟨u, hu, _⟩ := h8 i hi (k + j) (hlen j hj)
        rw [cell_at h1, Nat.add_assoc, hu]
        simp [hu]
      · obtain ⟨u, hu, hv⟩ := h8 i hi (k + j) (hlen j hj)
        simp only [List.getElem_drop]
        simpa [hu] using hv
      · split
        · rename_i e
          rw [if_pos e] at h
          refine ⟨⟨by simp; omega, fun c hc => ?_⟩, h.2⟩
          obtain ⟨j, hj, rfl⟩ := List.mem_iff_getElem.1 hc
          simp at hj ⊢
          exact h7 i hi _ (by omega)
        · rename_i e
          rw [if_neg e] at h
          obtain ⟨c, hc, hk⟩ := h
          exact ⟨c, by simpa using hc, hk⟩
    · exact h.elim
  · exact h.elim
theorem fad_run {t : TypeId} {fs : Array Field} {i : Nat} {f : Field} {n : Nat} (ht : P.underlying t = some (.struct fs)) (hf : fs[i]? = some f) (hn : szOf P f.type = some (n + 1)) (b o : Nat) (w : World) :
    (Instr.fieldAt t (.pointer (some ⟨b, o, none⟩)) i).run P w = .ok (.pointer (some ⟨b, o + f.offset, none⟩)) w := by
  obtain ⟨j, hj, hs⟩ : ∃ j, P.info? f.type = some j ∧ j.size = n + 1 := by
    unfold szOf at hn; cases e : P.info? f.type <;> simp_all
  simp [Instr.fieldAt, Sem.run_bind, run_underlying ht, hf, Instr.sureAddr, fieldPlace, sizeOf, typeInfo, hj, hs, Addr.add_mid]
theorem ixa_run {t e : TypeId} {sz : Nat} (ht : P.underlying t = some (.slice e)) (hs : szOf P e = some sz) (b o n c : Nat) (k : IntKind) (j : Int) (h0 : 0 ≤ j) (h1 : j < n) (w : World) :
    (Instr.indexAt t (.slice (some ⟨b, o, none⟩) n c) (.int k j)).run P w = .ok (.pointer (some ⟨b, o + j.toNat * sz, none⟩)) w := by
  obtain ⟨i, hi, rfl⟩ : ∃ i, P.info? e = some i ∧ i.size = sz := by
    unfold szOf at hs; cases e' : P.info? e <;> simp_all
  simp [Instr.indexAt, Sem.run_bind, asIntOf, run_underlying ht, h0, h1, sizeOf, typeInfo, hi, Addr.add_mid]
theorem bound_run (k : IntKind) (n : Int) (y : Nat) (code : BoundsCode) (h0 : 0 ≤ n) (h1 : n ≤ y) (w : World) : (Instr.sliceBound (.int k n) y code).run P w = .ok n.toNat w := by
  simp [Instr.sliceBound, Sem.run_bind, asIntOf, h0, h1]
theorem bnd_open {tm : List (Nat × AVal)} {o : Option Operand} {d : Int} {K : Int → Prop} (h : bnd tm o d K) : ∃ n, K n ∧ ((o = none ∧ n = d) ∨ ∃ x k, o = some x ∧ ev tm x = .v (.int k n)) := by
  unfold bnd at h
  split at h
  · exact ⟨d, h, .inl ⟨rfl, rfl⟩⟩
  · split at h
    · rename_i k n e; exact ⟨n, h, .inr ⟨_, k, rfl, e⟩⟩
    · exact h.elim
/-- A bound, carried out. -/
theorem bnd_run {N : Nat} {s : AState} {a : Act} (hr : SR W N S s a w) {o : Option Operand} {n d : Int} (ho : (o = none ∧ n = d) ∨ ∃ x k, o = some x ∧ ev s.tm x = .v (.int k n)) : (o.map a.eval = none ∧ o = none ∧ n = d) ∨ ∃ k, o.map a.eval = some (.int k n) := by
  rcases ho with ⟨rfl, rfl⟩ | ⟨x, k, rfl, e⟩
  · exact .inl ⟨rfl, rfl, rfl⟩
  · right
    have := hr.ev x
    rw [e] at this
    simp only [Option.map_some]
    generalize a.eval x = u at this
    cases this
    exact ⟨k, rfl⟩
theorem ssl_run {t : TypeId} (ht : P.underlying t = some .string) (s : ByteArray) (lo hi : Option Value) (l h : Int) (h0 : 0 ≤ l) (h1 : l ≤ h) (h2 : h ≤ s.size) (hlo : (lo = none ∧ l = 0) ∨ ∃ k, lo = some (.int k l)) (hhi : (hi = none ∧ h = s.size) ∨ ∃ k, hi = some (.int k h)) (w : World) :
    (Instr.sliceAt t (.string s) lo hi none).run P w = .ok (.string (s.extract l.toNat h.toNat)) w := by
  have hl : l ≤ (h.toNat : Int) := by omega
  have e1 : ∀ k, (Instr.sliceBound (.int k l) h.toNat .sliceB).run P w = .ok l.toNat w := fun k => bound_run k l _ _ h0 hl w
  have e2 : ∀ k, (Instr.sliceBound (.int k h) s.size .sliceAlen).run P w = .ok h.toNat w := fun k => bound_run k h _ _ (by omega) h2 w
  rcases hlo with ⟨rfl, rfl⟩ | ⟨k, rfl⟩ <;> rcases hhi with ⟨rfl, rfl⟩ | ⟨k', rfl⟩ <;>
    simp [Instr.sliceAt, Instr.slice, Instr.sliceBounds, Sem.run_bind, run_underlying ht, e1, e2] at e1 e2 ⊢ <;> simp_all
theorem lsl_run {t e : TypeId} {sz : Nat} (ht : P.underlying t = some (.slice e)) (hs : szOf P e = some sz) (A : Option Addr) (n c : Nat) (hnc : n ≤ c) (lo hi mx : Option Value) (l h m : Int) (h0 : 0 ≤ l) (h1 : l ≤ h) (h2 : h ≤ m) (h3 : m ≤ c)
    (hlo : (lo = none ∧ l = 0) ∨ ∃ k, lo = some (.int k l)) (hhi : (hi = none ∧ h = n ∧ mx = none) ∨ ∃ k, hi = some (.int k h)) (hmx : (mx = none ∧ m = c) ∨ ∃ k, mx = some (.int k m)) (w : World) :
    (Instr.sliceAt t (.slice A n c) lo hi mx).run P w = .ok (.slice (if m.toNat = l.toNat then A else A.map (·.add (l.toNat * sz))) (h.toNat - l.toNat) (m.toNat - l.toNat)) w := by
  obtain ⟨i, hi', rfl⟩ : ∃ i, P.info? e = some i ∧ i.size = sz := by
    unfold szOf at hs; cases e' : P.info? e <;> simp_all
  have hl : l ≤ (h.toNat : Int) := by omega
  have hm : h ≤ (m.toNat : Int) := by omega
  have e1 : ∀ k cd, (Instr.sliceBound (.int k l) h.toNat cd).run P w = .ok l.toNat w := fun k cd => bound_run k l _ _ h0 hl w
  have e2 : ∀ k cd, (Instr.sliceBound (.int k h) m.toNat cd).run P w = .ok h.toNat w := fun k cd => bound_run k h _ _ (by omega) hm w
  have e3 : ∀ k cd, (Instr.sliceBound (.int k m) c cd).run P w = .ok m.toNat w := fun k cd => bound_run k m _ _ (by omega) h3 w
  rcases hlo with ⟨rfl, rfl⟩ | ⟨k, rfl⟩ <;> rcases hhi with ⟨rfl, rfl, rfl⟩ | ⟨k', rfl⟩ <;> rcases hmx with ⟨hx, rfl⟩ | ⟨k2, hx⟩ <;> (first | cases hx | skip) <;>
    simp [Instr.sliceAt, Instr.slice, Instr.sliceBounds, Sem.run_bind, run_underlying ht, e1, e2, e3, sizeOf, typeInfo, hi'] at e1 e2 e3 ⊢ <;> simp_all
/-! ### Maps, read -/
theorem byte_beq (a b : ByteArray) : (a == b) = decide (a = b) := by rw [beq_toListBytes, str_beq]
theorem same_ok {kt : TypeId} {kc : Option IntKind} {d : TypeDesc} (hk : kcOf P kt = some kc) (hd : P.underlying kt = some d) {k k' : Value} (h : kOk kc k = true) (h' : kOk kc k' = true) : Instr.sameNow d k k' = some (kEq k k') := by
  unfold kcOf at hk
  rw [hd] at hk
  cases d <;> simp at hk
  · subst hk
    cases k <;> simp [kOk] at h
    cases k' <;> simp [kOk] at h'
    subst h; subst h'
    simp [Instr.sameNow, kEq]
  · subst hk
    cases k <;> simp [kOk] at h
    cases k' <;> simp [kOk] at h'
    simp [Instr.sameNow, kEq, byte_beq]
theorem key_check {kt : TypeId} {kc : Option IntKind} (hk : kcOf P kt = some kc) (e : Bool) (n : Nat) (k : Value) (w : World) : (Instr.checkKey e (n + 1) kt k).run P w = .ok () w := by
  unfold kcOf at hk
  split at hk <;> simp at hk
  all_goals
    rename_i ht
    simp [Instr.checkKey, Sem.run_bind, run_underlying ht]
theorem kEq_bits {kc : Option IntKind} {k k' : Value} (h : kOk kc k = true) (h' : kOk kc k' = true) (he : kEq k k' = true) : k' = k ∧ ∀ n, Instr.sameBits n k' k = true := by
  cases kc <;> cases k <;> simp [kOk] at h <;> cases k' <;> simp [kOk] at h' <;> simp [kEq] at he
  · subst he; exact ⟨rfl, fun n => by cases n <;> simp [Instr.sameBits, byte_beq]⟩
  · subst h; subst h'; subst he; exact ⟨rfl, fun n => by cases n <;> simp [Instr.sameBits]⟩
theorem find_now {kt : TypeId} {kc : Option IntKind} {d : TypeDesc} (hk : kcOf P kt = some kc) (hd : P.underlying kt = some d) {key : Value} (hkey : kOk kc key = true) : ∀ (l : List (Value × Nat × AVal)) (es : List MapEntry), MR S w l es → l.all (fun e => kOk kc e.1) = true → ∀ i,
    (Instr.findNow d key es i = some none ∧ mget key l = none ∧ mdel key l = l ∧ ∀ v c, mput key v c l = l ++ [(key, c, v)] ∧ mborn key c l = c) ∨
    ∃ j x a, es[j]? = some x ∧ x.key = key ∧ Instr.findNow d key es i = some (some (i + j, x.val)) ∧ mget key l = some a ∧ VR S w a x.val ∧ MR S w (mdel key l) (es.eraseIdx j) ∧ (∀ c, mborn key c l = x.born) ∧
      ∀ v val c, VR S w v val → MR S w (mput key v c l) (es.modify j fun e => { e with key := key, val := val })
  | [], [], _, _, i => .inl ⟨rfl, rfl, rfl, fun _ _ => ⟨rfl, rfl⟩⟩
  | [], _ :: _, h, _, _ => h.elim
  | _ :: _, [], h, _, _ => h.elim
  | e :: l, x :: es, h, hok, i => by
    obtain ⟨h1, h2, h3, h4⟩ := h
    simp only [List.all_cons, Bool.and_eq_true] at hok
    have hs : Instr.sameNow d key x.key = some (kEq key e.1) := by rw [h1]; exact same_ok hk hd hkey hok.1
    cases he : kEq key e.1
    · rw [he] at hs
      rcases find_now hk hd hkey l es h4 hok.2 (i + 1) with ⟨k1, k2, k3, k4⟩ | ⟨j, y, a, k1, k2, k3, k4, k5, k6, k7, k8⟩
      · left
        simp only [Instr.findNow, hs, k1, mget, he, mdel, k2, k3, mput, mborn, Bool.false_eq_true, if_false]
        exact ⟨trivial, trivial, trivial, fun v c => ⟨by rw [(k4 v c).1]; rfl, (k4 v c).2⟩⟩
      · right
        refine ⟨j + 1, y, a, by simpa using k1, k2, ?_, ?_, k5, ?_, fun c => ?_, fun v val c hv => ?_⟩
        · simp only [Instr.findNow, hs, k3]; congr 3; omega
        · simp only [mget, he, Bool.false_eq_true, if_false, k4]
        · simp only [mdel, he, Bool.false_eq_true, if_false, List.eraseIdx_cons_succ]; exact ⟨h1, h2, h3, k6⟩
        · simp only [mborn, he, Bool.false_eq_true, if_false, k7]
        · simp only [mput, he, Bool.false_eq_true, if_false, List.modify_succ_cons]; exact ⟨h1, h2, h3, k8 v val c hv⟩
    · rw [he] at hs
      right
      have hkx : x.key = key := by rw [h1]; exact (kEq_bits hkey hok.1 he).1
      refine ⟨0, x, e.2.2, rfl, hkx, ?_, ?_, h3, ?_, fun c => ?_, fun v val c hv => ?_⟩
      · simp only [Instr.findNow, hs, Nat.add_zero]
      · simp only [mget, he, if_true]
      · simp only [mdel, he, if_true, List.eraseIdx_cons_zero]; exact h4
      · simp only [mborn, he, if_true, h2]
      · simp only [mput, he, if_true, List.modify_zero_cons]; exact ⟨rfl, h2, hv, h4⟩
theorem find_key {kt : TypeId} {d : TypeDesc} (hd : P.underlying kt = some d) {key : Value} {es : List MapEntry} {r : Option (Nat × Value)} (h : Instr.findNow d key es 0 = some r) (w : World) : (Instr.findKey kt key es).run P w = .ok r w := by
  simp [Instr.findKey, Sem.run_bind, run_underlying hd, h]
theorem zeroA_sound {z : Value} (h : z.cells.all (·.oneCell') = true) : VR S w (zeroA z) z := by
  unfold zeroA
  split
  · rename_i cs
    refine .agg (fun j => cs.getD j undef) (by simp) (fun j hj => by simp [hj]) (fun j hj => ?_) (fun j hj => ?_)
    · simp at hj ⊢
      have := h
      simp only [Value.cells] at this
      simp at this
      simpa [AVal.one] using this j hj
    · simp at hj
      simp [hj]
      exact .v _
  · exact .v _
theorem VR.pair {a b : AVal} {u v : Value} (ha : VR S w a u) (hb : VR S w b v) : VR S w (.tup [a, b]) (.tuple #[u, v]) := by
  refine .tup (fun j => if j = 0 then u else v) rfl (fun j hj => ?_) (fun j hj => ?_)
  · rcases j with _ | _ | j
    · rfl
    · rfl
    · simp at hj; omega
  · rcases j with _ | _ | j
    · exact ha
    · exact hb
    · simp at hj; omega
theorem lk_sound (hG : ∀ w', G w' → Quiet w w') {H : AHeap} (hw : WR W S H w) {t k e : TypeId} (ht : P.underlying t = some (.map k e)) {kc : Option IntKind} (hk : kcOf P k = some kc) {z : Value} (hz : (P.info? e).bind (·.zero) = some z) (hz1 : z.cells.all (·.oneCell') = true) (ok : Bool)
    {x i : AVal} {a b : Value} (hx : VR S w x a) (hi : VR S w i b) (h : lkside H kc x i) {K : AVal → Prop} (hK : K (lkval H ok z x i)) : Val P S w G (Instr.lookup t a b ok) K := by
  obtain ⟨h1, h2, h3⟩ := h
  obtain ⟨d, hd⟩ : ∃ d, P.underlying k = some d := by unfold kcOf at hk; split at hk <;> simp_all
  obtain ⟨inf, hinf, hz⟩ : ∃ i, P.info? e = some i ∧ i.zero = some z := by cases e' : P.info? e <;> simp_all
  have hzero : ∀ w', (zeroValue e).run P w' = .ok z w' := fun w' => by simp [zeroValue, Sem.run_bind, typeInfo, hinf, hz]
  have hzA : VR S w (zeroA z) z := zeroA_sound hz1
  have hi2 : i = .v b := by
    cases i with
    | v x => cases hi; rfl
    | _ => cases kc <;> cases h3
  subst hi2
  simp only [keyA] at h3 hK
  have hfin : ∀ (l : List (Value × Nat × AVal)) (es : List MapEntry), MR S w l es → l.all (fun e => kOk kc e.1) = true → mapA H x = l → (∀ r, (∀ w', (Instr.findKey k b es).run P w' = .ok r w') → ∀ w', G w' →
      (Instr.lookup t a b ok).run P w' = .ok (match r with | some (_, v) => if ok then Value.tuple #[v, Value.bool true] else v | none => if ok then Value.tuple #[z, Value.bool false] else z) w') → Val P S w G (Instr.lookup t a b ok) K := by
    intro l es hmr hall hl hrun
    rcases find_now hk hd h3 l es hmr hall 0 with ⟨k1, k2, _⟩ | ⟨j, y, av, _, _, k3, k4, k5, _⟩
    · refine ⟨lkval H ok z x (.v b), if ok then .tuple #[z, .bool false] else z, hK, ?_, fun w' hq => hrun none (find_key hd k1) w' hq⟩
      cases ok
      · simpa [lkval, keyA, hl, k2] using hzA
      · simp only [lkval, keyA, hl, k2]; exact VR.pair hzA (.v _)
    · refine ⟨lkval H ok z x (.v b), if ok then .tuple #[y.val, .bool true] else y.val, hK, ?_, fun w' hq => hrun _ (find_key hd k3) w' hq⟩
      cases ok
      · simpa [lkval, keyA, hl, k4] using k5
      · simp only [lkval, keyA, hl, k4]; exact VR.pair k5 (.v _)
  unfold isMapA at h1
  split at h1
  · cases hx
    refine hfin [] [] trivial rfl rfl fun r hr w' _ => ?_
    have h9 := key_check hk true 9999 b w'
    have h8 := hr w'
    cases r <;> simp [Instr.lookup, Sem.run_bind, run_underlying ht, h9, h8, hzero w']
  · cases hx
    rename_i m
    split at h1
    · rename_i l c hm
      obtain ⟨es, e1, e2⟩ := hw.objs _ _ hm
      have hml : mapA H (.v (.map (some m))) = l := by simp [mapA, hm]
      refine hfin l es.toList e2 (by rw [hml] at h2; exact h2) hml fun r hr w' hq => ?_
      have hb : w'.heap[m]? = some (.map es c) := by rw [(hG w' hq).2 m (lt_of_some e1)]; exact e1
      have h9 := key_check hk es.isEmpty 9999 b w'
      have h8 := hr w'
      cases r <;> simp [Instr.lookup, Sem.run_bind, run_underlying ht, MapKept.run_getObj_map hb, h9, h8, hzero w']
    · cases h1
  · cases h1
theorem mlen_sound (hG : ∀ w', G w' → Quiet w w') {H : AHeap} (hw : WR W S H w) {t k e : TypeId} (ht : P.underlying t = some (.map k e)) (ty : TypeId) {x : AVal} {a : Value} (hx : VR S w x a) (h : isMapA H x = true) {K : AVal → Prop} (hK : K (.v (.int .i64 (mapA H x).length))) : Val P S w G (Builtin.len_ #[t] ty #[a]) K := by
  unfold isMapA at h
  split at h
  · cases hx
    exact .base hK fun w' => by simp [Builtin.len_, Sem.run_bind, run_underlying ht, goInt, mapA]
  · cases hx
    rename_i m
    split at h
    · rename_i l c hm
      obtain ⟨es, e1, e2⟩ := hw.objs _ _ hm
      have hlen : ∀ (l : List (Value × Nat × AVal)) (es : List MapEntry), MR S w l es → l.length = es.length := by
        intro l
        induction l with
        | nil => intro es h; cases es with
          | nil => rfl
          | cons _ _ => exact h.elim
        | cons e l ih => intro es h; cases es with
          | nil => exact h.elim
          | cons x es => simp [ih es h.2.2.2]
      have h3 := hlen _ _ e2
      refine ⟨_, .int .i64 es.size, hK, ?_, fun w' hq => ?_⟩
      · simp only [mapA, hm, h3, Array.length_toList]; exact .v _
      · have hb : w'.heap[m]? = some (.map es c) := by rw [(hG w' hq).2 m (lt_of_some e1)]; exact e1
        simp [Builtin.len_, Sem.run_bind, run_underlying ht, goInt, MapKept.run_getObj_map hb]
    · cases h
  · cases h
theorem MR.find {b : Nat} : ∀ {l : List (Value × Nat × AVal)} {es : List MapEntry}, MR S w l es → ∀ {e : Value × Nat × AVal}, l.find? (fun e => e.2.1 == b) = some e → ∃ x, es.find? (fun x => x.born == b) = some x ∧ x.key = e.1 ∧ VR S w e.2.2 x.val
  | [], [], _, e, h => by cases h
  | [], _ :: _, h, _, _ => h.elim
  | _ :: _, [], h, _, _ => h.elim
  | e :: l, x :: es, h, e', hf => by
    obtain ⟨h1, h2, h3, h4⟩ := h
    simp only [List.find?_cons, h2] at hf ⊢
    cases he : (e.2.1 == b)
    · rw [he] at hf; exact h4.find hf
    · rw [he] at hf; cases hf; exact ⟨x, rfl, h1, h3⟩
theorem men_sound (hG : ∀ w', G w' → Quiet w w') {H : AHeap} (hw : WR W S H w) {x : AVal} {a : Value} (hx : VR S w x a) (h : (mentA H x).isSome = true) {K : AVal → Prop} (hK : K (menval H x)) : Val P S w G (Instr.entry a) K := by
  obtain ⟨⟨k, v⟩, hkv⟩ := Option.isSome_iff_exists.1 h
  simp only [menval, hkv] at hK
  unfold mentA at hkv
  split at hkv
  · cases hx
    rename_i r
    split at hkv
    · rename_i m since seen c0 hr
      split at hkv
      · rename_i l c hm
        split at hkv
        · rename_i hc
          subst hc
          split at hkv
          · rename_i b hb
            simp only [Option.map_eq_some_iff] at hkv
            obtain ⟨e, he, e2⟩ := hkv
            cases e2
            obtain ⟨es, e1, e2⟩ := hw.objs _ _ hm
            have e3 := hw.objs _ _ hr
            obtain ⟨y, hy, hyk, hyv⟩ := e2.find he
            refine ⟨_, .tuple #[y.key, y.val], hK, VR.pair (by rw [hyk]; exact .v _) hyv, fun w' hq => ?_⟩
            have hb1 : w'.heap[m]? = some (.map es c) := by rw [(hG w' hq).2 m (lt_of_some e1)]; exact e1
            have hb2 : w'.heap[r]? = some (.mapIter (some m) since seen.toArray c) := by rw [(hG w' hq).2 r (lt_of_some e3)]; exact e3
            have hf : es.find? (fun x => x.born == b) = some y := by rw [← Array.find?_toList]; exact hy
            have hbk : seen.toArray.back? = some b := by simpa using hb
            simp [Instr.entry, getObj, Sem.run_bind, Sem.run, hb1, hb2, hbk, hf, Result.andThen]
          · cases hkv
        · cases hkv
      · cases hkv
    · cases hkv
  · cases hkv
end Go.Proofs.Ytidicfdcjoggpaa.M
