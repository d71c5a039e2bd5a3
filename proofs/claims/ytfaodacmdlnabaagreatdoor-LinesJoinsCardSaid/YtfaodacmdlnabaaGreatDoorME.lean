/-
 The quiet operations, all of them: each yields what the abstract machine says.
-/
/-
 Structs built of parts; the quiet operations, all of them.
-/
/-
 The quiet operations together: what an operation of the program yields, by what it is taken for.
-/
import Derived.Test.YtfaodacmdlnabaaGreatDoorMC
import Derived.Maps.Range
namespace Go.Proofs.YtfaodacmdlnabaaGreatDoor.M
open Go.RowKit
set_option linter.unusedVariables false
set_option linter.unusedSimpArgs false
variable {P : Program} {W : World} {S : Nat → Prop} {w : World} {G : World → Prop}
theorem cell_at {w : World} {b : Nat} {cur : Array Value} {E : TypeId} {fz : Nat × Nat} (h : w.heap[b]? = some (.cells cur E fz)) (o : Nat) : w.cell? ⟨b, o, none⟩ = cur[o]? := by
 simp [World.cell?, h]
theorem ald_sound (hG : ∀ w', G w' → Quiet w w') {H : AHeap} (hw : WR W S H w) {t : TypeId} {ag : Bool} {n : Nat} (hag : aggOf P t = some ag) (hn : szOf P t = some n) {ax : AVal} {a : Value} {K : AVal → Prop} (h : ald H ag n ax K) (hx : VR S w ax a) : Val P S w G (Instr.loadAt t a) K := by
 unfold ald at h
 split at h
 ·cases hx with
  | pl us hb hc hh => exact load_sound hG hag hn us hc hh h
 ·cases hx
  rename_i b o
  split at h
  ·rename_i E cs hb
   obtain ⟨cur, fz, h1, h2, h3, h4, h5⟩ := hw.objs _ _ hb
   have hlen : ∀ j, j < (cs.drop o).length → o + j < cs.length := fun j hj => by simp at hj; omega
   refine load_sound hG hag hn (cs := cs.drop o) (fun j => cur.getD (o + j) undef) (fun j hj => ?_) (fun j hj => ?_) ?_
   ·have := hlen j hj
    rw [cell_at h1]
    simp [Array.getElem?_eq_getElem, show o + j < cur.size by omega]
   ·have hj' := hlen j hj
    have := h5 (o + j) hj' (by omega)
    simp only [List.getElem_drop]
    simpa [show o + j < cur.size by omega] using this
   ·split
    ·rename_i e
     rw [if_pos e] at h
     refine ⟨⟨by simp; omega, fun c hc => ?_⟩, h.2⟩
     obtain ⟨j, hj, rfl⟩ := List.mem_iff_getElem.1 hc
     simp at hj ⊢
     exact h4 _ (by omega)
    ·rename_i e
     rw [if_neg e] at h
     obtain ⟨c, hc, hk⟩ := h
     exact ⟨c, by simpa using hc, hk⟩
  ·exact h.elim
 ·cases hx
  rename_i g sz i k
  split at h
  ·rename_i E sz' rows hb
   obtain ⟨rfl, r, hr, h⟩ := h
   obtain ⟨hi, rfl⟩ := List.getElem?_eq_some_iff.1 hr
   obtain ⟨cur, fz, c, h1, h2, h3, h4, h5, h6, h7, h8⟩ := hw.objs _ _ hb
   have hlen : ∀ j, j < (rows[i].drop k).length → k + j < rows[i].length := fun j hj => by simp at hj; omega
   refine load_sound hG hag hn (cs := rows[i].drop k) (fun j => cur.getD (i * sz + (k + j)) undef) (fun j hj => ?_) (fun j hj => ?_) ?_
   ·obtain ⟨u, hu, _⟩ := h8 i hi (k + j) (hlen j hj)
    rw [cell_at h1, Nat.add_assoc, hu]
    simp [hu]
   ·obtain ⟨u, hu, hv⟩ := h8 i hi (k + j) (hlen j hj)
    simp only [List.getElem_drop]
    simpa [hu] using hv
   ·split
    ·rename_i e
     rw [if_pos e] at h
     refine ⟨⟨by simp; omega, fun c hc => ?_⟩, h.2⟩
     obtain ⟨j, hj, rfl⟩ := List.mem_iff_getElem.1 hc
     simp at hj ⊢
     exact h7 i hi _ (by omega)
    ·rename_i e
     rw [if_neg e] at h
     obtain ⟨c, hc, hk⟩ := h
     exact ⟨c, by simpa using hc, hk⟩
  ·exact h.elim
 ·exact h.elim
theorem fad_run {t : TypeId} {fs : Array Field} {i : Nat} {f : Field} {n : Nat} (ht : P.underlying t = some (.struct fs)) (hf : fs[i]? = some f) (hn : szOf P f.type = some (n + 1)) (b o : Nat) (w : World) :
  (Instr.fieldAt t (.pointer (some ⟨b, o, none⟩)) i).run P w = .ok (.pointer (some ⟨b, o + f.offset, none⟩)) w := by
 obtain ⟨j, hj, hs⟩ : ∃ j, P.info? f.type = some j ∧ j.size = n + 1 := by
  unfold szOf at hn; cases e : P.info? f.type <;> simp_all
 simp [Instr.fieldAt, Sem.run_bind, run_underlying ht, hf, Instr.sureAddr, fieldPlace, sizeOf, typeInfo, hj, hs, Addr.add_mid]
theorem ixa_run {t e : TypeId} {sz : Nat} (ht : P.underlying t = some (.slice e)) (hs : szOf P e = some sz) (b o n c : Nat) (k : IntKind) (j : Int) (h0 : 0 ≤ j) (h1 : j < n) (w : World) :
  (Instr.indexAt t (.slice (some ⟨b, o, none⟩) n c) (.int k j)).run P w = .ok (.pointer (some ⟨b, o + j.toNat * sz, none⟩)) w := by
 obtain ⟨i, hi, rfl⟩ : ∃ i, P.info? e = some i ∧ i.size = sz := by
  unfold szOf at hs; cases e' : P.info? e <;> simp_all
 simp [Instr.indexAt, Sem.run_bind, asIntOf, run_underlying ht, h0, h1, sizeOf, typeInfo, hi, Addr.add_mid]
theorem aix_run {t e : TypeId} {len n : Nat} (ht : P.underlying t = some (.array len e)) (hs : szOf P e = some (n + 1)) (b o : Nat) (k : IntKind) (j : Int) (h0 : 0 ≤ j) (h1 : j < (len : Int)) (w : World) :
  (Instr.indexAt t (.pointer (some ⟨b, o, none⟩)) (.int k j)).run P w = .ok (.pointer (some ⟨b, o + j.toNat * (n + 1), none⟩)) w := by
 obtain ⟨i, hi, hz⟩ : ∃ i, P.info? e = some i ∧ i.size = n + 1 := by
  unfold szOf at hs; cases e' : P.info? e <;> simp_all
 simp [Instr.indexAt, Sem.run_bind, asIntOf, run_underlying ht, h0, h1, sizeOf, typeInfo, hi, hz, Instr.sureAddr, Addr.add_mid]
theorem aixv_run {t e : TypeId} {len n : Nat} (ht : P.underlying t = some (.array len e)) (hs : szOf P e = some n) (vs : Array Value) (k : IntKind) (j : Int) (h0 : 0 ≤ j) (h1 : j < (len : Int)) {w : World} {u : Value} (hp : (part e vs (j.toNat * n)).run P w = .ok u w) :
  (Instr.index t (.agg vs) (.int k j)).run P w = .ok u w := by
 obtain ⟨i, hi, hz⟩ : ∃ i, P.info? e = some i ∧ i.size = n := by
  unfold szOf at hs; cases e' : P.info? e <;> simp_all
 subst hz
 simp [Instr.index, Sem.run_bind, asIntOf, run_underlying ht, h0, h1, sizeOf, typeInfo, hi, hp]
theorem bound_run (k : IntKind) (n : Int) (y : Nat) (code : BoundsCode) (h0 : 0 ≤ n) (h1 : n ≤ y) (w : World) : (Instr.sliceBound (.int k n) y code).run P w = .ok n.toNat w := by
 simp [Instr.sliceBound, Sem.run_bind, asIntOf, h0, h1]
theorem bnd_open {tm : List (Nat × AVal)} {o : Option Operand} {d : Int} {K : Int → Prop} (h : bnd tm o d K) : ∃ n, K n ∧ ((o = none ∧ n = d) ∨ ∃ x k, o = some x ∧ ev tm x = .v (.int k n)) := by
 unfold bnd at h
 split at h
 ·exact ⟨d, h, .inl ⟨rfl, rfl⟩⟩
 ·split at h
  ·rename_i k n e; exact ⟨n, h, .inr ⟨_, k, rfl, e⟩⟩
  ·exact h.elim
/-- A bound, carried out. -/
theorem bnd_run {N : Nat} {s : AState} {a : Act} (hr : SR W N S s a w) {o : Option Operand} {n d : Int} (ho : (o = none ∧ n = d) ∨ ∃ x k, o = some x ∧ ev s.tm x = .v (.int k n)) : (o.map a.eval = none ∧ o = none ∧ n = d) ∨ ∃ k, o.map a.eval = some (.int k n) := by
 rcases ho with ⟨rfl, rfl⟩ | ⟨x, k, rfl, e⟩
 ·exact .inl ⟨rfl, rfl, rfl⟩
 ·right
  have := hr.ev x
  rw [e] at this
  simp only [Option.map_some]
  generalize a.eval x = u at this
  cases this
  exact ⟨k, rfl⟩
theorem ssl_run {t : TypeId} (ht : P.underlying t = some .string) (s : ByteArray) (lo hi : Option Value) (l h : Int) (h0 : 0 ≤ l) (h1 : l ≤ h) (h2 : h ≤ s.size) (hlo : (lo = none ∧ l = 0) ∨ ∃ k, lo = some (.int k l)) (hhi : (hi = none ∧ h = s.size) ∨ ∃ k, hi = some (.int k h)) (w : World) :
  (Instr.sliceAt t (.string s) lo hi none).run P w = .ok (.string (s.extract l.toNat h.toNat)) w := by
 have hl : l ≤ (h.toNat : Int) := by omega
 have e1 : ∀ k, (Instr.sliceBound (.int k l) h.toNat .sliceB).run P w = .ok l.toNat w := fun k => bound_run k l _ _ h0 hl w
 have e2 : ∀ k, (Instr.sliceBound (.int k h) s.size .sliceAlen).run P w = .ok h.toNat w := fun k => bound_run k h _ _ (by omega) h2 w
 rcases hlo with ⟨rfl, rfl⟩ | ⟨k, rfl⟩ <;> rcases hhi with ⟨rfl, rfl⟩ | ⟨k', rfl⟩ <;>
  simp [Instr.sliceAt, Instr.slice, Instr.sliceBounds, Sem.run_bind, run_underlying ht, e1, e2] at e1 e2 ⊢ <;> simp_all
theorem lsl_run {t e : TypeId} {sz : Nat} (ht : P.underlying t = some (.slice e)) (hs : szOf P e = some sz) (A : Option Addr) (n c : Nat) (hnc : n ≤ c) (lo hi mx : Option Value) (l h m : Int) (h0 : 0 ≤ l) (h1 : l ≤ h) (h2 : h ≤ m) (h3 : m ≤ c)
  (hlo : (lo = none ∧ l = 0) ∨ ∃ k, lo = some (.int k l)) (hhi : (hi = none ∧ h = n ∧ mx = none) ∨ ∃ k, hi = some (.int k h)) (hmx : (mx = none ∧ m = c) ∨ ∃ k, mx = some (.int k m)) (w : World) :
  (Instr.sliceAt t (.slice A n c) lo hi mx).run P w = .ok (.slice (if m.toNat = l.toNat then A else A.map (·.add (l.toNat * sz))) (h.toNat - l.toNat) (m.toNat - l.toNat)) w := by
 obtain ⟨i, hi', rfl⟩ : ∃ i, P.info? e = some i ∧ i.size = sz := by
  unfold szOf at hs; cases e' : P.info? e <;> simp_all
 have hl : l ≤ (h.toNat : Int) := by omega
 have hm : h ≤ (m.toNat : Int) := by omega
 have e1 : ∀ k cd, (Instr.sliceBound (.int k l) h.toNat cd).run P w = .ok l.toNat w := fun k cd => bound_run k l _ _ h0 hl w
 have e2 : ∀ k cd, (Instr.sliceBound (.int k h) m.toNat cd).run P w = .ok h.toNat w := fun k cd => bound_run k h _ _ (by omega) hm w
 have e3 : ∀ k cd, (Instr.sliceBound (.int k m) c cd).run P w = .ok m.toNat w := fun k cd => bound_run k m _ _ (by omega) h3 w
 rcases hlo with ⟨rfl, rfl⟩ | ⟨k, rfl⟩ <;> rcases hhi with ⟨rfl, rfl, rfl⟩ | ⟨k', rfl⟩ <;> rcases hmx with ⟨hx, rfl⟩ | ⟨k2, hx⟩ <;> (first | cases hx | skip) <;>
  simp [Instr.sliceAt, Instr.slice, Instr.sliceBounds, Sem.run_bind, run_underlying ht, e1, e2, e3, sizeOf, typeInfo, hi'] at e1 e2 e3 ⊢ <;> simp_all
/-! ### Maps, read -/
theorem byte_beq (a b : ByteArray) : (a == b) = decide (a = b) := by rw [beq_toListBytes, str_beq]
theorem same_ok {kt : TypeId} {kc : Option IntKind} {d : TypeDesc} (hk : kcOf P kt = some kc) (hd : P.underlying kt = some d) {k k' : Value} (h : kOk kc k = true) (h' : kOk kc k' = true) : Instr.sameNow d k k' = some (kEq k k') := by
 unfold kcOf at hk
 rw [hd] at hk
 cases d <;> simp at hk
 ·subst hk
  cases k <;> simp [kOk] at h
  cases k' <;> simp [kOk] at h'
  subst h; subst h'
  simp [Instr.sameNow, kEq]
 ·subst hk
  cases k <;> simp [kOk] at h
  cases k' <;> simp [kOk] at h'
  simp [Instr.sameNow, kEq, byte_beq]
theorem key_check {kt : TypeId} {kc : Option IntKind} (hk : kcOf P kt = some kc) (e : Bool) (n : Nat) (k : Value) (w : World) : (Instr.checkKey e (n + 1) kt k).run P w = .ok () w := by
 unfold kcOf at hk
 split at hk <;> simp at hk
 all_goals
  rename_i ht
  simp [Instr.checkKey, Sem.run_bind, run_underlying ht]
theorem kEq_bits {kc : Option IntKind} {k k' : Value} (h : kOk kc k = true) (h' : kOk kc k' = true) (he : kEq k k' = true) : k' = k ∧ ∀ n, Instr.sameBits n k' k = true := by
 cases kc <;> cases k <;> simp [kOk] at h <;> cases k' <;> simp [kOk] at h' <;> simp [kEq] at he
 ·subst he; exact ⟨rfl, fun n => by cases n <;> simp [Instr.sameBits, byte_beq]⟩
 ·subst h; subst h'; subst he; exact ⟨rfl, fun n => by cases n <;> simp [Instr.sameBits]⟩
theorem find_now {kt : TypeId} {kc : Option IntKind} {d : TypeDesc} (hk : kcOf P kt = some kc) (hd : P.underlying kt = some d) {key : Value} (hkey : kOk kc key = true) : ∀ (l : List (Value × Nat × AVal)) (es : List MapEntry), MR S w l es → l.all (fun e => kOk kc e.1) = true → ∀ i,
  (Instr.findNow d key es i = some none ∧ mget key l = none ∧ mdel key l = l ∧ ∀ v c, mput key v c l = l ++ [(key, c, v)] ∧ mborn key c l = c) ∨
  ∃ j x a, es[j]? = some x ∧ x.key = key ∧ Instr.findNow d key es i = some (some (i + j, x.val)) ∧ mget key l = some a ∧ VR S w a x.val ∧ MR S w (mdel key l) (es.eraseIdx j) ∧ (∀ c, mborn key c l = x.born) ∧
   ∀ v val c, VR S w v val → MR S w (mput key v c l) (es.modify j fun e => { e with key := key, val := val })
 | [], [], _, _, i => .inl ⟨rfl, rfl, rfl, fun _ _ => ⟨rfl, rfl⟩⟩
 | [], _ :: _, h, _, _ => h.elim
 | _ :: _, [], h, _, _ => h.elim
 | e :: l, x :: es, h, hok, i => by
  obtain ⟨h1, h2, h3, h4⟩ := h
  simp only [List.all_cons, Bool.and_eq_true] at hok
  have hs : Instr.sameNow d key x.key = some (kEq key e.1) := by rw [h1]; exact same_ok hk hd hkey hok.1
  cases he : kEq key e.1
  ·rw [he] at hs
   rcases find_now hk hd hkey l es h4 hok.2 (i + 1) with ⟨k1, k2, k3, k4⟩ | ⟨j, y, a, k1, k2, k3, k4, k5, k6, k7, k8⟩
   ·left
    simp only [Instr.findNow, hs, k1, mget, he, mdel, k2, k3, mput, mborn, Bool.false_eq_true, if_false]
    exact ⟨trivial, trivial, trivial, fun v c => ⟨by rw [(k4 v c).1]; rfl, (k4 v c).2⟩⟩
   ·right
    refine ⟨j + 1, y, a, by simpa using k1, k2, ?_, ?_, k5, ?_, fun c => ?_, fun v val c hv => ?_⟩
    ·simp only [Instr.findNow, hs, k3]; congr 3; omega
    ·simp only [mget, he, Bool.false_eq_true, if_false, k4]
    ·simp only [mdel, he, Bool.false_eq_true, if_false, List.eraseIdx_cons_succ]; exact ⟨h1, h2, h3, k6⟩
    ·simp only [mborn, he, Bool.false_eq_true, if_false, k7]
    ·simp only [mput, he, Bool.false_eq_true, if_false, List.modify_succ_cons]; exact ⟨h1, h2, h3, k8 v val c hv⟩
  ·rw [he] at hs
   right
   have hkx : x.key = key := by rw [h1]; exact (kEq_bits hkey hok.1 he).1
   refine ⟨0, x, e.2.2, rfl, hkx, ?_, ?_, h3, ?_, fun c => ?_, fun v val c hv => ?_⟩
   ·simp only [Instr.findNow, hs, Nat.add_zero]
   ·simp only [mget, he, if_true]
   ·simp only [mdel, he, if_true, List.eraseIdx_cons_zero]; exact h4
   ·simp only [mborn, he, if_true, h2]
   ·simp only [mput, he, if_true, List.modify_zero_cons]; exact ⟨rfl, h2, hv, h4⟩
theorem find_key {kt : TypeId} {d : TypeDesc} (hd : P.underlying kt = some d) {key : Value} {es : List MapEntry} {r : Option (Nat × Value)} (h : Instr.findNow d key es 0 = some r) (w : World) : (Instr.findKey kt key es).run P w = .ok r w := by
 simp [Instr.findKey, Sem.run_bind, run_underlying hd, h]
theorem zeroA_sound {z : Value} (h : z.cells.all (·.oneCell') = true) : VR S w (zeroA z) z := by
 unfold zeroA
 split
 ·rename_i cs
  refine .agg (fun j => cs.getD j undef) (by simp) (fun j hj => by simp [hj]) (fun j hj => ?_) (fun j hj => ?_)
  ·simp at hj ⊢
   have := h
   simp only [Value.cells] at this
   simp at this
   simpa [AVal.one] using this j hj
  ·simp at hj
   simp [hj]
   exact .v _
 ·exact .v _
theorem VR.pair {a b : AVal} {u v : Value} (ha : VR S w a u) (hb : VR S w b v) : VR S w (.tup [a, b]) (.tuple #[u, v]) := by
 refine .tup (fun j => if j = 0 then u else v) rfl (fun j hj => ?_) (fun j hj => ?_)
 ·rcases j with _ | _ | j
  ·rfl
  ·rfl
  ·simp at hj; omega
 ·rcases j with _ | _ | j
  ·exact ha
  ·exact hb
  ·simp at hj; omega
theorem lk_sound (hG : ∀ w', G w' → Quiet w w') {H : AHeap} (hw : WR W S H w) {t k e : TypeId} (ht : P.underlying t = some (.map k e)) {kc : Option IntKind} (hk : kcOf P k = some kc) {z : Value} (hz : (P.info? e).bind (·.zero) = some z) (hz1 : z.cells.all (·.oneCell') = true) (ok : Bool)
  {x i : AVal} {a b : Value} (hx : VR S w x a) (hi : VR S w i b) (h : lkside H kc x i) {K : AVal → Prop} (hK : K (lkval H ok z x i)) : Val P S w G (Instr.lookup t a b ok) K := by
 obtain ⟨h1, h2, h3⟩ := h
 obtain ⟨d, hd⟩ : ∃ d, P.underlying k = some d := by unfold kcOf at hk; split at hk <;> simp_all
 obtain ⟨inf, hinf, hz⟩ : ∃ i, P.info? e = some i ∧ i.zero = some z := by cases e' : P.info? e <;> simp_all
 have hzero : ∀ w', (zeroValue e).run P w' = .ok z w' := fun w' => by simp [zeroValue, Sem.run_bind, typeInfo, hinf, hz]
 have hzA : VR S w (zeroA z) z := zeroA_sound hz1
 have hi2 : i = .v b := by
  cases i with
  | v x => cases hi; rfl
  | _ => cases kc <;> cases h3
 subst hi2
 simp only [keyA] at h3 hK
 have hfin : ∀ (l : List (Value × Nat × AVal)) (es : List MapEntry), MR S w l es → l.all (fun e => kOk kc e.1) = true → mapA H x = l → (∀ r, (∀ w', (Instr.findKey k b es).run P w' = .ok r w') → ∀ w', G w' →
   (Instr.lookup t a b ok).run P w' = .ok (match r with | some (_, v) => if ok then Value.tuple #[v, Value.bool true] else v | none => if ok then Value.tuple #[z, Value.bool false] else z) w') → Val P S w G (Instr.lookup t a b ok) K := by
  intro l es hmr hall hl hrun
  rcases find_now hk hd h3 l es hmr hall 0 with ⟨k1, k2, _⟩ | ⟨j, y, av, _, _, k3, k4, k5, _⟩
  ·refine ⟨lkval H ok z x (.v b), if ok then .tuple #[z, .bool false] else z, hK, ?_, fun w' hq => hrun none (find_key hd k1) w' hq⟩
   cases ok
   ·simpa [lkval, keyA, hl, k2] using hzA
   ·simp only [lkval, keyA, hl, k2]; exact VR.pair hzA (.v _)
  ·refine ⟨lkval H ok z x (.v b), if ok then .tuple #[y.val, .bool true] else y.val, hK, ?_, fun w' hq => hrun _ (find_key hd k3) w' hq⟩
   cases ok
   ·simpa [lkval, keyA, hl, k4] using k5
   ·simp only [lkval, keyA, hl, k4]; exact VR.pair k5 (.v _)
 unfold isMapA at h1
 split at h1
 ·cases hx
  refine hfin [] [] trivial rfl rfl fun r hr w' _ => ?_
  have h9 := key_check hk true 9999 b w'
  have h8 := hr w'
  cases r <;> simp [Instr.lookup, Sem.run_bind, run_underlying ht, h9, h8, hzero w']
 ·cases hx
  rename_i m
  split at h1
  ·rename_i l c hm
   obtain ⟨es, e1, e2⟩ := hw.objs _ _ hm
   have hml : mapA H (.v (.map (some m))) = l := by simp [mapA, hm]
   refine hfin l es.toList e2 (by rw [hml] at h2; exact h2) hml fun r hr w' hq => ?_
   have hb : w'.heap[m]? = some (.map es c) := by rw [(hG w' hq).2 m (lt_of_some e1)]; exact e1
   have h9 := key_check hk es.isEmpty 9999 b w'
   have h8 := hr w'
   cases r <;> simp [Instr.lookup, Sem.run_bind, run_underlying ht, MapKept.run_getObj_map hb, h9, h8, hzero w']
  ·cases h1
 ·cases h1
theorem mlen_sound (hG : ∀ w', G w' → Quiet w w') {H : AHeap} (hw : WR W S H w) {t k e : TypeId} (ht : P.underlying t = some (.map k e)) (ty : TypeId) {x : AVal} {a : Value} (hx : VR S w x a) (h : isMapA H x = true) {K : AVal → Prop} (hK : K (.v (.int .i64 (mapA H x).length))) : Val P S w G (Builtin.len_ #[t] ty #[a]) K := by
 unfold isMapA at h
 split at h
 ·cases hx
  exact .base hK fun w' => by simp [Builtin.len_, Sem.run_bind, run_underlying ht, goInt, mapA]
 ·cases hx
  rename_i m
  split at h
  ·rename_i l c hm
   obtain ⟨es, e1, e2⟩ := hw.objs _ _ hm
   have hlen : ∀ (l : List (Value × Nat × AVal)) (es : List MapEntry), MR S w l es → l.length = es.length := by
    intro l
    induction l with
    | nil => intro es h; cases es with
     | nil => rfl
     | cons _ _ => exact h.elim
    | cons e l ih => intro es h; cases es with
     | nil => exact h.elim
     | cons x es => simp [ih es h.2.2.2]
   have h3 := hlen _ _ e2
   refine ⟨_, .int .i64 es.size, hK, ?_, fun w' hq => ?_⟩
   ·simp only [mapA, hm, h3, Array.length_toList]; exact .v _
   ·have hb : w'.heap[m]? = some (.map es c) := by rw [(hG w' hq).2 m (lt_of_some e1)]; exact e1
    simp [Builtin.len_, Sem.run_bind, run_underlying ht, goInt, MapKept.run_getObj_map hb]
  ·cases h
 ·cases h
theorem MR.find {b : Nat} : ∀ {l : List (Value × Nat × AVal)} {es : List MapEntry}, MR S w l es → ∀ {e : Value × Nat × AVal}, l.find? (fun e => e.2.1 == b) = some e → ∃ x, es.find? (fun x => x.born == b) = some x ∧ x.key = e.1 ∧ VR S w e.2.2 x.val
 | [], [], _, e, h => by cases h
 | [], _ :: _, h, _, _ => h.elim
 | _ :: _, [], h, _, _ => h.elim
 | e :: l, x :: es, h, e', hf => by
  obtain ⟨h1, h2, h3, h4⟩ := h
  simp only [List.find?_cons, h2] at hf ⊢
  cases he : (e.2.1 == b)
  ·rw [he] at hf; exact h4.find hf
  ·rw [he] at hf; cases hf; exact ⟨x, rfl, h1, h3⟩
theorem men_sound (hG : ∀ w', G w' → Quiet w w') {H : AHeap} (hw : WR W S H w) {x : AVal} {a : Value} (hx : VR S w x a) (h : (mentA H x).isSome = true) {K : AVal → Prop} (hK : K (menval H x)) : Val P S w G (Instr.entry a) K := by
 obtain ⟨⟨k, v⟩, hkv⟩ := Option.isSome_iff_exists.1 h
 simp only [menval, hkv] at hK
 unfold mentA at hkv
 split at hkv
 ·cases hx
  rename_i r
  split at hkv
  ·rename_i m since seen c0 hr
   split at hkv
   ·rename_i l c hm
    split at hkv
    ·rename_i hc
     subst hc
     split at hkv
     ·rename_i b hb
      simp only [Option.map_eq_some_iff] at hkv
      obtain ⟨e, he, e2⟩ := hkv
      cases e2
      obtain ⟨es, e1, e2⟩ := hw.objs _ _ hm
      have e3 := hw.objs _ _ hr
      obtain ⟨y, hy, hyk, hyv⟩ := e2.find he
      refine ⟨_, .tuple #[y.key, y.val], hK, VR.pair (by rw [hyk]; exact .v _) hyv, fun w' hq => ?_⟩
      have hb1 : w'.heap[m]? = some (.map es c) := by rw [(hG w' hq).2 m (lt_of_some e1)]; exact e1
      have hb2 : w'.heap[r]? = some (.mapIter (some m) since seen.toArray c) := by rw [(hG w' hq).2 r (lt_of_some e3)]; exact e3
      have hf : es.find? (fun x => x.born == b) = some y := by rw [← Array.find?_toList]; exact hy
      have hbk : seen.toArray.back? = some b := by simpa using hb
      simp [Instr.entry, getObj, Sem.run_bind, Sem.run, hb1, hb2, hbk, hf, Result.andThen]
     ·cases hkv
    ·cases hkv
   ·cases hkv
  ·cases hkv
 ·cases hkv
end Go.Proofs.YtfaodacmdlnabaaGreatDoor.M
namespace Go.Proofs.YtfaodacmdlnabaaGreatDoor.M
open Go.RowKit
set_option linter.unusedVariables false
set_option linter.unusedSimpArgs false
variable {P : Program} {W : World} {S : Nat → Prop} {w : World}
/-- Cells that are known. -/
def CR (S : Nat → Prop) (w : World) (cs : List AVal) (vs : Array Value) : Prop := vs.size = cs.length ∧ (∀ j (hj : j < cs.length), cs[j].one = true) ∧ ∀ j (hj : j < cs.length) (hj' : j < vs.size), VR S w cs[j] vs[j]
theorem CR.agg {cs : List AVal} {vs : Array Value} (h : CR S w cs vs) : VR S w (.agg cs) (.agg vs) :=
 .agg (fun j => vs.getD j undef) h.1 (fun j hj => by simp [hj]) h.2.1 (fun j hj => by have := h.2.2 j hj (by have := h.1; omega); simpa [show j < vs.size by have := h.1; omega] using this)
theorem CR.of_agg {cs : List AVal} {vs : Array Value} (h : VR S w (.agg cs) (.agg vs)) : CR S w cs vs := by
 cases h with
 | agg us hl hv ho hh => exact ⟨hl, ho, fun j hj hj' => by rw [hv]; exact hh j hj⟩
theorem oneOr_cells {x : AVal} {u : Value} (h : VR S w x u) (ho : (oneOr x).all (·.one) = true) : CR S w (oneOr x) u.cells := by
 cases h with
 | agg us hl hv ho' hh => exact CR.of_agg (.agg us hl hv ho' hh)
 | v =>
  simp [oneOr, AVal.one] at ho
  have : u.cells = #[u] := by cases u <;> simp_all [Value.cells, Value.oneCell']
  rw [this]
  exact ⟨rfl, fun j hj => by simp [oneOr] at hj ⊢; simpa [AVal.one] using ho, fun j hj hj' => by simp [oneOr] at hj ⊢; subst hj; exact .v u⟩
 | any => simp [oneOr, AVal.one] at ho
 | tup us hl hv hh => simp [oneOr, AVal.one] at ho
 | sl us hc hm hf hb hl ho' hh => exact ⟨rfl, fun j hj => by simp [oneOr] at hj ⊢; rfl, fun j hj hj' => by simp [oneOr] at hj ⊢; subst hj; exact .sl us hc hm hf hb hl ho' hh⟩
 | bs hn hm hw => exact ⟨rfl, fun j hj => by simp [oneOr] at hj ⊢; rfl, fun j hj hj' => by simp [oneOr] at hj ⊢; subst hj; exact .bs hn hm hw⟩
 | bv hA hn hm hf => exact ⟨rfl, fun j hj => by simp [oneOr] at hj ⊢; rfl, fun j hj hj' => by simp [oneOr] at hj ⊢; subst hj; exact .bv hA hn hm hf⟩
 | bp => exact ⟨rfl, fun j hj => by simp [oneOr] at hj ⊢; rfl, fun j hj hj' => by simp [oneOr] at hj ⊢; subst hj; exact .bp⟩
 | pl us hb hc hh => exact ⟨rfl, fun j hj => by simp [oneOr] at hj ⊢; rfl, fun j hj hj' => by simp [oneOr] at hj ⊢; subst hj; exact .pl us hb hc hh⟩
 | fn us hl hv hh => exact ⟨rfl, fun j hj => by simp [oneOr] at hj ⊢; rfl, fun j hj hj' => by simp [oneOr] at hj ⊢; subst hj; exact .fn us hl hv hh⟩
 | ifc hh => exact ⟨rfl, fun j hj => by simp [oneOr] at hj ⊢; rfl, fun j hj hj' => by simp [oneOr] at hj ⊢; subst hj; exact .ifc hh⟩
 | bm us hl hv hh => exact ⟨rfl, fun j hj => by simp [oneOr] at hj ⊢; rfl, fun j hj hj' => by simp [oneOr] at hj ⊢; subst hj; exact .bm us hl hv hh⟩
theorem put_cells (off : Nat) : ∀ (vs : List Value) (k : Nat) (cur : Array Value), off + k + vs.length ≤ cur.size →
  ((vs.zipIdx k).foldl (fun cs (c, j) => cs.setIfInBounds (off + j) c) cur).toList = cur.toList.take (off + k) ++ vs ++ cur.toList.drop (off + k + vs.length)
 | [], k, cur, h => by simp
 | v :: vs, k, cur, h => by
  simp only [List.length_cons] at h
  simp only [List.zipIdx_cons, List.foldl_cons]
  rw [put_cells off vs (k + 1) _ (by simp; omega)]
  simp only [Array.toList_setIfInBounds, List.length_cons]
  have e1 : (cur.toList.set (off + k) v).take (off + (k + 1)) = cur.toList.take (off + k) ++ [v] := by
   rw [show off + (k + 1) = (off + k) + 1 by omega, List.take_succ_eq_append_getElem (by simp; omega)]
   simp [List.take_set_of_le]
  have e2 : (cur.toList.set (off + k) v).drop (off + (k + 1) + vs.length) = cur.toList.drop (off + k + (vs.length + 1)) := by
   rw [List.drop_set_of_lt (by omega)]
   congr 1; omega
  rw [e1, e2]
  simp
theorem CR.lay {cs ps : List AVal} {cur vs : Array Value} (h : CR S w cs cur) (hp : CR S w ps vs) {off : Nat} (ho : off + ps.length ≤ cs.length) {cur' : Array Value} (he : cur'.toList = cur.toList.take off ++ vs.toList ++ cur.toList.drop (off + vs.size)) :
  CR S w (cs.take off ++ ps ++ cs.drop (off + ps.length)) cur' := by
 have hsz := h.1
 have hpz := hp.1
 have get : ∀ j (hj : j < cur'.size), cur'[j] = if hj1 : j < off then cur[j]'(by omega) else if hj2 : j < off + ps.length then vs[j - off]'(by omega) else cur[j]'(by
   have : cur'.size = cs.length := by
    have := congrArg List.length he; simp at this; omega
   omega) := by
  intro j hj
  have e : cur'.toList[j]? = some cur'[j] := by simp [hj]
  rw [he] at e
  split
  ·rename_i hj1
   rw [List.append_assoc, List.getElem?_append_left (by simp; omega), List.getElem?_take_of_lt hj1] at e
   simp [show j < cur.size by omega] at e; exact e.symm
  ·split
   ·rename_i hj1 hj2
    rw [List.append_assoc, List.getElem?_append_right (by simp; omega), List.getElem?_append_left (by simp; omega)] at e
    have e3 : min off cur.size = off := by omega
    simp [e3, show j - off < vs.size by omega] at e; exact e.symm
   ·rename_i hj1 hj2
    rw [List.append_assoc, List.getElem?_append_right (by simp; omega), List.getElem?_append_right (by simp; omega)] at e
    have e3 : min off cur.size = off := by omega
    have e4 : off + vs.size + (j - off - vs.size) = j := by omega
    simp [e3, e4] at e
    obtain ⟨_, e⟩ := Array.getElem?_eq_some_iff.1 e
    exact e.symm
 refine ⟨by have := congrArg List.length he; simp at this ⊢; omega, fun j hj => ?_, fun j hj hj' => ?_⟩
 ·simp at hj
  by_cases h1 : j < off
  ·rw [List.getElem_append_left (by simp; omega), List.getElem_append_left (by simp; omega)]
   simp; exact h.2.1 _ _
  ·by_cases h2 : j < off + ps.length
   ·rw [List.getElem_append_left (by simp; omega), List.getElem_append_right (by simp; omega)]
    exact hp.2.1 _ _
   ·rw [List.getElem_append_right (by simp; omega)]
    simp; exact h.2.1 _ _
 ·simp at hj
  rw [get j hj']
  by_cases h1 : j < off
  ·rw [dif_pos h1, List.getElem_append_left (by simp; omega), List.getElem_append_left (by simp; omega)]
   simp; exact h.2.2 _ _ _
  ·rw [dif_neg h1]
   by_cases h2 : j < off + ps.length
   ·rw [dif_pos h2, List.getElem_append_left (by simp; omega), List.getElem_append_right (by simp; omega)]
    have e3 : j - (cs.take off).length = j - off := by simp; omega
    simp only [e3]
    exact hp.2.2 _ _ _
   ·rw [dif_neg h2, List.getElem_append_right (by simp; omega)]
    have e3 : off + ps.length + (j - (cs.take off ++ ps).length) = j := by simp; omega
    simp only [List.getElem_drop, e3]
    exact h.2.2 _ _ _
/-- Parts laid into cells, as the program lays them. -/
theorem lay_fill {N : Nat} {s : AState} {a : Act} (hr : SR W N S s a w) (place : Nat → Option (Nat × Nat)) : ∀ (l : List (Nat × Operand)) (ps : List (Nat × Nat × Operand)) (cs cs' : List AVal) (cur : Array Value),
  l.mapM (fun p => (place p.1).map fun q => (q.1, q.2, p.2)) = some ps → lay s.tm cs ps = some cs' → CR S w cs cur → ∃ cur', Instr.fill place cur (l.map fun p => (p.1, a.eval p.2)) = some cur' ∧ CR S w cs' cur'
 | [], ps, cs, cs', cur, h, hl, hc => by simp at h; subst h; simp [lay] at hl; subst hl; exact ⟨cur, rfl, hc⟩
 | (i, x) :: l, ps, cs, cs', cur, h, hl, hc => by
  simp only [List.mapM_cons, Option.bind_eq_bind, Option.bind_eq_some_iff, Option.map_eq_some_iff, Option.pure_def, Option.some.injEq] at h
  obtain ⟨_, ⟨⟨off, n⟩, hpl, rfl⟩, ps', h2, rfl⟩ := h
  simp only [lay] at hl
  split at hl
  ·rename_i hcond
   obtain ⟨h3, h4, h5⟩ := hcond
   have hp := oneOr_cells (hr.ev x) h5
   have e := put_cells off (a.eval x).cells.toList 0 cur (by have := hp.1; have := hc.1; simp; omega)
   have hcc := hc.lay hp (off := off) (by omega) (cur' := (((a.eval x).cells.toList.zipIdx 0).foldl (fun cs (c, j) => cs.setIfInBounds (off + j) c) cur)) (by rw [e]; simp)
   rw [h3] at hcc
   obtain ⟨cur', h6, h7⟩ := lay_fill hr place l ps' _ cs' _ h2 hl hcc
   refine ⟨cur', ?_, h7⟩
   simp only [List.map_cons, Instr.fill, hpl]
   have hz : (a.eval x).cells.size = n := by rw [hp.1, h3]
   rw [if_neg (by have := hc.1; simp [hz]; omega)]
   rw [← h6]
   congr 1
   rw [← Array.foldl_toList]
   simp
  ·cases hl

theorem bld_run {t : TypeId} {fs : Array Field} {zero cells : Array Value} (ht : P.underlying t = some (.struct fs)) (hz : (P.info? t).bind (·.zero) = some (.agg zero)) (hfs : fs.all (fun (f : Field) => (szOf P f.type).isSome) = true) (parts : List (Nat × Value))
  (hf : Instr.fill (fun (i : Nat) => (fs[i]?).bind fun (f : Field) => (szOf P f.type).map fun n => (f.offset, n)) zero parts = some cells) (w : World) : (Instr.build t parts.toArray).run P w = .ok (.agg cells) w := by
 obtain ⟨i, hi, hz⟩ : ∃ i, P.info? t = some i ∧ i.zero = some (.agg zero) := by
  cases e : P.info? t <;> simp_all
 have hm : ∀ (l : List Field), (∀ f ∈ l, (szOf P f.type).isSome = true) → ∀ (acc : List (Nat × Nat)) (w : World), (l.mapM (fun (f : Field) => (do pure (f.offset, ← sizeOf f.type) : Sem (Nat × Nat)))).run P w = .ok (l.map fun (f : Field) => (f.offset, (szOf P f.type).getD 0)) w := by
  intro l
  induction l with
  | nil => intro _ _ w; rfl
  | cons f l ih =>
   intro h acc w
   obtain ⟨n, hn⟩ := Option.isSome_iff_exists.1 (h f (by simp))
   obtain ⟨j, hj, hs⟩ : ∃ j, P.info? f.type = some j ∧ j.size = n := by
    unfold szOf at hn; cases e : P.info? f.type <;> simp_all
   have := ih (fun g hg => h g (by simp [hg])) acc w
   simp only [List.mapM_cons, Sem.run_bind] at this ⊢
   simp [sizeOf, typeInfo, Sem.run_bind, hj, hs, hn] at this ⊢
   simp [this]
 have hm2 := hm fs.toList (fun f hf => by simp at hfs; obtain ⟨k, hk, rfl⟩ := List.mem_iff_getElem.1 hf; simp at hk ⊢; exact hfs k hk) [] w
 have hm3 : (fs.mapM (fun (f : Field) => (do pure (f.offset, ← sizeOf f.type) : Sem (Nat × Nat)))).run P w = .ok (fs.toList.map fun (f : Field) => (f.offset, (szOf P f.type).getD 0)).toArray w := by
  rw [Array.mapM_eq_mapM_toList, Sem.run_map, hm2]; rfl
 have hplace : ∀ i : Nat, (fs.toList.map fun (f : Field) => (f.offset, (szOf P f.type).getD 0)).toArray[i]? = (fs[i]?).bind fun (f : Field) => (szOf P f.type).map fun n => (f.offset, n) := by
  intro i
  simp only [List.getElem?_toArray, List.getElem?_map, Array.getElem?_toList]
  cases e : fs[i]? with
  | none => rfl
  | some f =>
   obtain ⟨hlt, rfl⟩ := Array.getElem?_eq_some_iff.1 e
   simp at hfs
   obtain ⟨n, hn⟩ := Option.isSome_iff_exists.1 (hfs i hlt)
   simp [hn]
 unfold Instr.build
 simp only [Sem.run_bind, zeroValue, typeInfo, run_program, hi, hz, Sem.run_pure, Result.andThen_ok, run_underlying ht, hm3]
 simp only [Value.cells, hplace]
 rw [hf]
 rfl
theorem bld_run2 {t e : TypeId} {len n : Nat} {zero cells : Array Value} (ht : P.underlying t = some (.array len e)) (hz : (P.info? t).bind (·.zero) = some (.agg zero)) (hn : szOf P e = some n) (parts : List (Nat × Value))
  (hf : Instr.fill (fun (i : Nat) => some (i * n, n)) zero parts = some cells) (w : World) : (Instr.build t parts.toArray).run P w = .ok (.agg cells) w := by
 obtain ⟨i, hi, hz⟩ : ∃ i, P.info? t = some i ∧ i.zero = some (.agg zero) := by
  cases e : P.info? t <;> simp_all
 obtain ⟨j, hj, rfl⟩ : ∃ j, P.info? e = some j ∧ j.size = n := by
  unfold szOf at hn; cases e : P.info? e <;> simp_all
 unfold Instr.build
 simp only [Sem.run_bind, zeroValue, typeInfo, sizeOf, run_program, hi, hj, hz, Sem.run_pure, Result.andThen_ok, run_underlying ht]
 simp only [Value.cells]
 rw [hf]
 rfl
end Go.Proofs.YtfaodacmdlnabaaGreatDoor.M
namespace Go.Proofs.YtfaodacmdlnabaaGreatDoor.M
open Go.RowKit
set_option linter.unusedVariables false
set_option linter.unusedSimpArgs false
variable {P : Program} {W : World} {S : Nat → Prop} {w : World} {N : Nat} {s : AState} {a : Act} {G : World → Prop}
theorem exec_val {ρ : Operand → Value} {o : Oper} {m : Sem Value} (h : execOp ρ o = (do pure (.value (← m)))) {u : Value} {w : World} (hr : m.run P w = .ok u w) : (execOp ρ o).run P w = .ok (.value u) w := by
 rw [h, Sem.run_bind, hr]; rfl
def OVal (P : Program) (S : Nat → Prop) (w : World) (G : World → Prop) (m : Sem Next) (K : AVal → Prop) : Prop := ∃ x u, K x ∧ VR S w x u ∧ ∀ w', G w' → m.run P w' = .ok (.value u) w'
def AO.mem : AO → Bool
 | .ld _ _ _ | .lk _ _ _ _ _ | .mlen _ | .men _ => true
 | _ => false
theorem Val.to {ρ : Operand → Value} {o : Oper} {m : Sem Value} {K : AVal → Prop} (h : Val P S w G m K) (he : execOp ρ o = (do pure (.value (← m)))) : OVal P S w G (execOp ρ o) K :=
 let ⟨x, u, hk, hv, hg⟩ := h; ⟨x, u, hk, hv, fun w' hq => exec_val he (hg w' hq)⟩
theorem asl_sound {sz : Nat} {t e : TypeId} (ht : P.underlying t = some (.slice e)) (hs : szOf P e = some sz) {H : AHeap} {ax : AVal} {u : Value} (hx : VR S w ax u) {lo hi : Option Value} {mx : Option Value} {l h : Int} {m : Option Int} {K : AVal → Prop}
  (hlo : (lo = none ∧ l = 0) ∨ ∃ k, lo = some (.int k l)) (hhi : (hi = none ∧ h = lenA ax ∧ mx = none) ∨ ∃ k, hi = some (.int k h)) (hmx : (mx = none ∧ m = none) ∨ ∃ k m', mx = some (.int k m') ∧ m = some m')
  (hk : asl H sz ax l h m K) : Val P S w G (Instr.sliceAt t u lo hi mx) K := by
 unfold asl at hk
 split at hk
 ·rename_i full sz' rows
  obtain ⟨⟨rfl, h0, h1, h2, h3⟩, hk⟩ := hk
  cases hx with
  | @sl _ _ _ A c us hc hm hf hb hl ho hh =>
  have hrun : ∀ (m2 : Int), (mx = none ∧ m2 = c) ∨ (∃ k, mx = some (.int k m2)) → h ≤ m2 → m2 ≤ c → ∀ w', (Instr.sliceAt t (.slice A rows.length c) lo hi mx).run P w' = .ok (.slice (if m2.toNat = l.toNat then A else A.map (·.add (l.toNat * sz))) (h.toNat - l.toNat) (m2.toNat - l.toNat)) w' := fun m2 hm2 h4 h5 w' =>
   lsl_run ht hs A rows.length c hc lo hi mx l h m2 h0 h1 h4 h5 hlo (hhi.imp (fun e => ⟨e.1, e.2.1, e.2.2⟩) id) hm2 w'
  have hres : ∀ (full' : Bool) (m2 : Int), h ≤ m2 → m2 ≤ c → (full' = true → m2 = h) → VR S w (.sl full' sz ((rows.take h.toNat).drop l.toNat)) (.slice (if m2.toNat = l.toNat then A else A.map (·.add (l.toNat * sz))) (h.toNat - l.toNat) (m2.toNat - l.toNat)) := by
   intro full' m2 h4 h5 h6
   have hlen : ((rows.take h.toNat).drop l.toNat).length = h.toNat - l.toNat := by simp; omega
   rw [← hlen]
   refine .sl (fun i j => us (l.toNat + i) j) (by rw [hlen]; omega) (by omega) (fun e => by rw [hlen]; have := h6 e; omega) ?_ (fun i hi => ?_) (fun i hi j hj => ?_) (fun i hi j hj => ?_)
   ·by_cases he : h.toNat - l.toNat = 0
    ·exact .inl (List.length_eq_zero_iff.1 (by rw [hlen]; exact he))
    ·right
     rcases hb with hb | ⟨b, o, rfl, hS, hx⟩
     ·rw [hb] at h2; simp at h2; omega
     ·refine ⟨b, o + l.toNat * sz, ?_, hS, fun i j hi hj => ?_⟩
      ·rw [if_neg (by omega)]; simp [Addr.add_mid]
      ·rw [hlen] at hi
       have := hx (l.toNat + i) j (by omega) hj
       rw [Nat.add_mul] at this
       rw [← this]; congr 2; omega
   ·simp at hi ⊢; exact hl _ _
   ·simp at hi hj ⊢; exact ho _ _ _ _
   ·simp at hi hj ⊢; exact hh _ _ _ _
  rcases hmx with ⟨rfl, rfl⟩ | ⟨k, m', rfl, rfl⟩
  ·refine ⟨_, _, hk, hres _ c (by omega) (Int.le_refl _) (fun e => ?_), fun w' _ => hrun c (.inl ⟨rfl, rfl⟩) (by omega) (Int.le_refl _) w'⟩
   simp at e
   have := hf e.1
   omega
  ·obtain ⟨h4, h5⟩ := h3 m' rfl
   refine ⟨_, _, hk, hres _ m' h4 (by omega) (fun e => by simpa using e), fun w' _ => hrun m' (.inr ⟨k, rfl⟩) h4 (by omega) w'⟩
 ·obtain ⟨⟨rfl, rfl, h3⟩, hk⟩ := hk
  cases hx
  rcases hmx with ⟨rfl, rfl⟩ | ⟨k, m', rfl, rfl⟩
  ·refine .base hk fun w' => ?_
   rw [lsl_run ht hs none 0 0 (Nat.le_refl _) lo hi none 0 0 0 (by omega) (by omega) (by omega) (by omega) hlo hhi (.inl ⟨rfl, rfl⟩)]
   simp
  ·have := h3 m' rfl
   subst this
   refine .base hk fun w' => ?_
   rw [lsl_run ht hs none 0 0 (Nat.le_refl _) lo hi _ 0 0 0 (by omega) (by omega) (by omega) (by omega) hlo hhi (.inr ⟨k, rfl⟩)]
   simp
 ·rename_i g sz' n
  obtain ⟨⟨rfl, h0, h1, h2, h3⟩, hk1, hk2⟩ := hk
  cases hx with
  | @bs _ _ _ c hn hm hw =>
  have h2' : h ≤ (n : Int) := h2
  have hrun : ∀ (m2 : Int), (mx = none ∧ m2 = c) ∨ (∃ k, mx = some (.int k m2)) → h ≤ m2 → m2 ≤ c → ∀ w', (Instr.sliceAt t (.slice (some ⟨g, 0, none⟩) n c) lo hi mx).run P w' = .ok (.slice (if m2.toNat = l.toNat then (some ⟨g, 0, none⟩) else (some (⟨g, 0, none⟩ : Addr)).map (·.add (l.toNat * sz))) (h.toNat - l.toNat) (m2.toNat - l.toNat)) w' := fun m2 hm2 h4 h5 w' =>
   lsl_run ht hs _ n c hn lo hi mx l h m2 h0 h1 h4 h5 hlo (hhi.imp (fun e => ⟨e.1, e.2.1, e.2.2⟩) id) hm2 w'
  have hv : ∀ (full : Bool) (m2 : Int), h ≤ m2 → m2 ≤ c → (full = true → m2 = h) → VR S w (.bv full g sz l.toNat (h - l).toNat) (.slice (if m2.toNat = l.toNat then (some ⟨g, 0, none⟩) else (some (⟨g, 0, none⟩ : Addr)).map (·.add (l.toNat * sz))) (h.toNat - l.toNat) (m2.toNat - l.toNat)) := fun full m2 h4 h5 h6 => by
   have e1 : (h - l).toNat = h.toNat - l.toNat := by omega
   rw [e1]
   by_cases he : m2.toNat = l.toNat
   ·rw [if_pos he]
    exact .bv (fun h7 => by omega) (by omega) (by omega) (fun e => by have := h6 e; omega)
   ·rw [if_neg he]
    exact .bv (fun _ => by simp [Addr.add_mid]) (by omega) (by omega) (fun e => by have := h6 e; omega)
  rcases hmx with ⟨rfl, rfl⟩ | ⟨k, m', rfl, rfl⟩
  ·by_cases hz : l = 0
   ·subst hz
    refine ⟨_, .slice (some ⟨g, 0, none⟩) h.toNat c, hk1 ⟨rfl, rfl⟩, .bs (by omega) hm hw, fun w' _ => ?_⟩
    rw [hrun c (.inl ⟨rfl, rfl⟩) (by omega) (by omega)]
    simp [Addr.add]
   ·exact ⟨_, _, hk2 (fun e => hz e.1), hv false c (by omega) (by omega) (fun e => by cases e), fun w' _ => hrun c (.inl ⟨rfl, rfl⟩) (by omega) (by omega) w'⟩
  ·obtain ⟨h4, h5⟩ := h3 m' rfl
   exact ⟨_, _, hk2 (fun e => by cases e.2), hv _ m' h4 (by omega) (fun e => by simpa using e), fun w' _ => hrun m' (.inr ⟨k, rfl⟩) h4 (by omega) w'⟩
 ·rename_i full g sz' off n
  obtain ⟨⟨rfl, h0, h1, h2, h3⟩, hk⟩ := hk
  cases hx with
  | @bv _ _ _ _ _ c A hA hn hm hf =>
  have h2' : h ≤ (n : Int) := h2
  have hrun : ∀ (m2 : Int), (mx = none ∧ m2 = c) ∨ (∃ k, mx = some (.int k m2)) → h ≤ m2 → m2 ≤ c → ∀ w', (Instr.sliceAt t (.slice (some A) n c) lo hi mx).run P w' = .ok (.slice (if m2.toNat = l.toNat then some A else (some A).map (·.add (l.toNat * sz))) (h.toNat - l.toNat) (m2.toNat - l.toNat)) w' := fun m2 hm2 h4 h5 w' =>
   lsl_run ht hs _ n c hn lo hi mx l h m2 h0 h1 h4 h5 hlo (hhi.imp (fun e => ⟨e.1, e.2.1, e.2.2⟩) id) hm2 w'
  have hv : ∀ (full : Bool) (m2 : Int), h ≤ m2 → m2 ≤ c → (full = true → m2 = h) → VR S w (.bv full g sz (off + l.toNat) (h - l).toNat) (.slice (if m2.toNat = l.toNat then some A else (some A).map (·.add (l.toNat * sz))) (h.toNat - l.toNat) (m2.toNat - l.toNat)) := fun full m2 h4 h5 h6 => by
   have e1 : (h - l).toNat = h.toNat - l.toNat := by omega
   rw [e1]
   by_cases he : m2.toNat = l.toNat
   ·rw [if_pos he]
    exact .bv (fun h7 => by omega) (by omega) (by omega) (fun e => by have := h6 e; omega)
   ·rw [if_neg he]
    refine .bv (fun h7 => ?_) (by omega) (by omega) (fun e => by have := h6 e; omega)
    rw [hA (by omega)]
    show Addr.add _ _ = _
    rw [Addr.add_mid, Nat.add_mul]
  rcases hmx with ⟨rfl, rfl⟩ | ⟨k, m', rfl, rfl⟩
  ·refine ⟨_, _, hk, hv _ c (by omega) (by omega) (fun e => ?_), fun w' _ => hrun c (.inl ⟨rfl, rfl⟩) (by omega) (by omega) w'⟩
   simp at e
   have := hf e.1
   omega
  ·obtain ⟨h4, h5⟩ := h3 m' rfl
   exact ⟨_, _, hk, hv _ m' h4 (by omega) (fun e => by simpa using e), fun w' _ => hrun m' (.inr ⟨k, rfl⟩) h4 (by omega) w'⟩
 ·exact hk.elim
theorem aval_sound (hr : SR W N S s a w) {o : Oper} {m : AO} (hG : m.mem = true → ∀ w', G w' → Quiet w w') (hc : compM P o.op = some m) {K : AVal → Prop} (h : aval m s K) : OVal P S w G (execOp a.eval o) K := by
 obtain ⟨dst, op, type, pos, after, guard⟩ := o
 unfold compM at hc
 dsimp only at hc
 split at hc
 ·cases hc; exact ⟨_, _, h, hr.ev _, fun w' _ => rfl⟩
 ·cases hc; exact ⟨_, _, h, hr.ev _, fun w' _ => rfl⟩
 ·cases hc
  rename_i c x y
  simp only [aval] at h
  split at h
  ·rename_i t e
   have hv := hr.ev c
   rw [e] at hv
   have he : a.eval c = .bool t := by generalize a.eval c = u at hv; cases hv; rfl
   cases t
   ·exact ⟨_, _, h.2 rfl, hr.ev y, fun w' _ => by simp [execOp, he, asBool]⟩
   ·exact ⟨_, _, h.1 rfl, hr.ev x, fun w' _ => by simp [execOp, he, asBool]⟩
  ·exact h.elim
 ·rename_i op t x y yt
  split at hc
  ·rename_i ne hne
   cases hc
   have hy := (isnOf_some hne).1
   have := isn_sound (P := P) (S := S) (w := w) (G := G) (x := x) hne h (hr.ev x)
   subst hy
   exact this.to rfl
  split at hc
  ·cases hc
  ·cases hc
  ·rename_i cl hcl1 hcl
   cases hc
   exact (abin_sound hcl h (hr.ev x) (hr.ev y)).to rfl
 ·cases hc; exact (aun_sound h (hr.ev _)).to rfl
 ·simp only [Option.map_eq_some_iff] at hc
  obtain ⟨cl, hcl, rfl⟩ := hc
  exact (acv_sound (H := s.H) hcl h (hr.ev _)).to rfl
 ·rename_i t x i
  split at hc
  ·rename_i fs ht
   split at hc
   ·rename_i f hf
    split at hc
    ·rename_i ag n hag hn
     cases hc
     simp only [aval] at h
     split at h
     ·rename_i cs e
      have hv := hr.ev x
      rw [e] at hv
      obtain ⟨vs, he⟩ : ∃ vs, a.eval x = .agg vs := by generalize a.eval x = u at hv; cases hv; exact ⟨_, rfl⟩
      rw [he] at hv
      have := part_sound (G := G) hag hn hv h
      refine Val.to (m := Instr.field t (a.eval x) i) ?_ rfl
      obtain ⟨y, u, hk, hv', hg⟩ := this
      exact ⟨y, u, hk, hv', fun w' hq => by simp [Instr.field, Sem.run_bind, run_underlying ht, hf, he, asAgg, hg w' hq]⟩
     ·exact h.elim
    ·cases hc
   ·cases hc
  ·cases hc
 ·rename_i t x i
  split at hc
  ·rename_i fs ht
   split at hc
   ·rename_i f hf
    split at hc
    ·rename_i n hn
     cases hc
     simp only [aval] at h
     have hv := hr.ev x
     refine Val.to (m := Instr.fieldAt t (a.eval x) i) ?_ rfl
     generalize a.eval x = u at hv
     split at h
     ·rename_i cells e
      rw [e] at hv
      cases hv with
      | @pl _ b o us hb hcc hh =>
      refine ⟨_, _, h.2, .pl (fun j => us (f.offset + j)) hb (fun j hj => ?_) (fun j hj => ?_), fun w' _ => fad_run ht hf hn b o w'⟩
      ·simp at hj; have := hcc (f.offset + j) (by omega); rw [← Nat.add_assoc] at this; exact this
      ·simp at hj ⊢; exact hh _ _
     ·rename_i b o e
      rw [e] at hv
      cases hv
      exact .base h fun w' => fad_run ht hf hn b o w'
     ·rename_i g sz i' k e
      rw [e] at hv
      cases hv
      refine ⟨_, _, h, .bp, fun w' _ => ?_⟩
      rw [fad_run ht hf hn, Nat.add_assoc]
     ·exact h.elim
    ·cases hc
   ·cases hc
  ·cases hc
 ·rename_i t x i
  split at hc
  ·rename_i e ht
   simp only [Option.map_eq_some_iff] at hc
   obtain ⟨sz, hsz, rfl⟩ := hc
   simp only [aval] at h
   have hv := hr.ev x
   have hv2 := hr.ev i
   refine Val.to (m := Instr.indexAt t (a.eval x) (a.eval i)) ?_ rfl
   generalize a.eval x = u at hv
   generalize a.eval i = u2 at hv2
   split at h
   ·rename_i full sz' rows k n e1 e2
    rw [e1] at hv; rw [e2] at hv2
    cases hv2
    obtain ⟨⟨rfl, h0, h1⟩, h⟩ := h
    cases hv with
    | @sl _ _ _ A c us hc hm hf hb hl ho hh =>
    have hi : n.toNat < rows.length := by omega
    rcases hb with hb | ⟨b, o, rfl, hS, hx⟩
    ·rw [hb] at hi; simp at hi
    ·refine ⟨_, _, h, ?_, fun w' _ => ixa_run ht hsz b o _ c k n h0 h1 w'⟩
     have e3 : rows.getD n.toNat [] = rows[n.toNat] := by simp [hi]
     rw [e3]
     exact .pl (us n.toNat) hS (fun j hj => hx n.toNat j hi (by rw [← hl n.toNat hi]; exact hj)) (fun j hj => hh n.toNat hi j hj)
   ·rename_i g sz' len k n e1 e2
    rw [e1] at hv; rw [e2] at hv2
    cases hv2
    obtain ⟨⟨rfl, h0, h1⟩, h⟩ := h
    cases hv with
    | @bs _ _ _ c hn hm hw =>
    refine ⟨_, _, h, .bp, fun w' _ => ?_⟩
    rw [ixa_run ht hsz g 0 _ c k n h0 h1 w']
    simp
   ·rename_i full g sz' off len k n e1 e2
    rw [e1] at hv; rw [e2] at hv2
    cases hv2
    obtain ⟨⟨rfl, h0, h1⟩, h⟩ := h
    cases hv with
    | @bv _ _ _ _ _ c A hA hn hm hf =>
    refine ⟨_, _, h, .bp, fun w' _ => ?_⟩
    rw [hA (by omega), ixa_run ht hsz g (off * sz) _ c k n h0 h1 w', Nat.add_mul]
    simp
   ·exact h.elim
  ·rename_i len e ht
   split at hc
   ·rename_i k j n hsz
    split at hc
    ·rename_i hj
     cases hc
     simp only [aval] at h
     have hv := hr.ev x
     refine Val.to (m := Instr.indexAt t (a.eval x) (a.eval (.const (.int k j)))) ?_ rfl
     generalize a.eval x = u at hv
     have e2 : a.eval (.const (.int k j)) = .int k j := rfl
     rw [e2]
     split at h
     ·rename_i cells e1
      rw [e1] at hv
      cases hv with
      | @pl _ b o us hb hc hh =>
      refine ⟨_, _, h.2, .pl (fun i => us (j.toNat * (n + 1) + i)) hb (fun i hi => ?_) (fun i hi => ?_), fun w' _ => aix_run ht hsz b o k j hj.1 hj.2 w'⟩
      ·have := hc (j.toNat * (n + 1) + i) (by simp at hi; omega)
       rw [← this, Nat.add_assoc]
      ·have := hh (j.toNat * (n + 1) + i) (by simp at hi; omega)
       simpa using this
     ·rename_i b o e1
      rw [e1] at hv
      cases hv
      exact .base h fun w' => aix_run ht hsz b o k j hj.1 hj.2 w'
     ·rename_i g sz i k2 e1
      rw [e1] at hv
      cases hv
      refine ⟨_, _, h, .bp, fun w' _ => ?_⟩
      rw [aix_run ht hsz _ _ k j hj.1 hj.2 w', Nat.add_assoc]
     ·exact h.elim
    ·cases hc
   ·rename_i i _ _ n hni hsz
    cases hc
    simp only [aval] at h
    have hv := hr.ev x
    have hv2 := hr.ev i
    refine Val.to (m := Instr.indexAt t (a.eval x) (a.eval i)) ?_ rfl
    generalize a.eval x = u at hv
    generalize a.eval i = u2 at hv2
    split at h
    ·rename_i k j e2
     rw [e2] at hv2
     cases hv2
     obtain ⟨hj, h⟩ := h
     split at h
     ·rename_i cells e1
      rw [e1] at hv
      cases hv with
      | @pl _ b o us hb hc hh =>
      refine ⟨_, _, h.2, .pl (fun i => us (j.toNat * (n + 1) + i)) hb (fun i hi => ?_) (fun i hi => ?_), fun w' _ => aix_run ht hsz b o k j hj.1 hj.2 w'⟩
      ·have := hc (j.toNat * (n + 1) + i) (by simp at hi; omega)
       rw [← this, Nat.add_assoc]
      ·have := hh (j.toNat * (n + 1) + i) (by simp at hi; omega)
       simpa using this
     ·rename_i b o e1
      rw [e1] at hv
      cases hv
      exact .base h fun w' => aix_run ht hsz b o k j hj.1 hj.2 w'
     ·rename_i g sz i k2 e1
      rw [e1] at hv
      cases hv
      refine ⟨_, _, h, .bp, fun w' _ => ?_⟩
      rw [aix_run ht hsz _ _ k j hj.1 hj.2 w', Nat.add_assoc]
     ·exact h.elim
    ·exact h.elim
   ·cases hc
  ·cases hc
 ·rename_i t x i
  split at hc
  ·rename_i ht
   cases hc
   simp only [aval] at h
   have hv := hr.ev x
   have hv2 := hr.ev i
   refine Val.to (m := Instr.index t (a.eval x) (a.eval i)) ?_ rfl
   generalize a.eval x = u at hv
   generalize a.eval i = u2 at hv2
   split at h
   ·rename_i st k n e1 e2
    rw [e1] at hv; rw [e2] at hv2
    cases hv2; cases hv
    obtain ⟨⟨h0, h1⟩, h⟩ := h
    refine .base h fun w' => ?_
    have hi : n.toNat < st.size := by omega
    have e3 : st[n.toNat]? = some (st.data.toList.getD n.toNat 0) := by
     have hi2 : n.toNat < st.data.size := hi
     simp [hi, hi2]; rfl
    simp only [Instr.index, Sem.run_bind, asIntOf, Sem.run_pure, Result.andThen_ok, run_underlying ht, if_pos h0, e3]
   ·exact h.elim
  ·rename_i len e ht
   split at hc
   ·rename_i ag n hag hn
    cases hc
    simp only [aval] at h
    have hv := hr.ev x
    have hv2 := hr.ev i
    refine Val.to (m := Instr.index t (a.eval x) (a.eval i)) ?_ rfl
    generalize a.eval i = u2 at hv2
    split at h
    ·rename_i k j e2
     rw [e2] at hv2
     cases hv2
     obtain ⟨hj, h⟩ := h
     split at h
     ·rename_i cs e1
      rw [e1] at hv
      obtain ⟨vs, he⟩ : ∃ vs, a.eval x = .agg vs := by generalize a.eval x = u at hv; cases hv; exact ⟨_, rfl⟩
      rw [he] at hv
      have := part_sound (G := G) hag hn hv h
      obtain ⟨y, u, hk, hv', hg⟩ := this
      rw [he]
      exact ⟨y, u, hk, hv', fun w' hq => aixv_run ht hn vs k j hj.1 hj.2 (hg w' hq)⟩
     ·exact h.elim
    ·exact h.elim
   ·cases hc
  ·cases hc
 ·rename_i t x lo hi mx
  split at hc
  ·rename_i ht
   split at hc
   ·rename_i hmx
    cases hc
    simp only [aval] at h
    have hv := hr.ev x
    split at h
    ·rename_i st e
     rw [e] at hv
     obtain ⟨l, h, hl⟩ := bnd_open h
     obtain ⟨hh, h, hh2⟩ := bnd_open h
     have h1 := bnd_run hr hl
     have h2 := bnd_run hr hh2
     refine Val.to (m := Instr.sliceAt t (a.eval x) (lo.map a.eval) (hi.map a.eval) (mx.map a.eval)) ?_ rfl
     generalize a.eval x = u at hv
     cases hv
     obtain ⟨⟨h3, h4, h5⟩, h⟩ := h
     have : mx = none := by simpa using hmx
     subst this
     exact .base h fun w' => ssl_run ht st _ _ l hh h3 h4 h5 (h1.imp (fun e => ⟨e.1, e.2.2⟩) id) (h2.imp (fun e => ⟨e.1, e.2.2⟩) id) w'
    ·exact h.elim
   ·cases hc
  ·rename_i e ht
   split at hc
   ·rename_i hmx
    simp only [Option.map_eq_some_iff] at hc
    obtain ⟨sz, hsz, rfl⟩ := hc
    simp only [aval] at h
    obtain ⟨l, h, hl⟩ := bnd_open h
    obtain ⟨hh, h, hh2⟩ := bnd_open h
    have h1 := bnd_run hr hl
    have h2 := bnd_run hr hh2
    refine Val.to (m := Instr.sliceAt t (a.eval x) (lo.map a.eval) (hi.map a.eval) (mx.map a.eval)) ?_ rfl
    cases mx with
    | none => exact asl_sound ht hsz (hr.ev x) (h1.imp (fun e => ⟨e.1, e.2.2⟩) id) (h2.imp (fun e => ⟨e.1, e.2.2, rfl⟩) id) (.inl ⟨rfl, rfl⟩) h
    | some mo =>
     dsimp only at h
     obtain ⟨m', h, hm⟩ := bnd_open h
     have h3 := bnd_run hr hm
     rcases h3 with ⟨_, h3, _⟩ | ⟨k3, h3⟩
     ·cases h3
     rcases h2 with ⟨_, rfl, _⟩ | h2
     ·simp at hmx
     ·exact asl_sound ht hsz (hr.ev x) (h1.imp (fun e => ⟨e.1, e.2.2⟩) id) (.inr h2) (.inr ⟨k3, m', h3, rfl⟩) h
   ·cases hc
  ·cases hc
 ·rename_i args ts
  split at hc
  ·rename_i x t e1 e2
   obtain rfl : args = #[x] := by cases args; simp_all
   obtain rfl : ts = #[t] := by cases ts; simp_all
   have hv := hr.ev x
   have key : ∀ (u : Value) (n : Nat), a.eval x = u → (∀ w', (Builtin.len_ #[t] type #[u]).run P w' = .ok (.int .i64 n) w') → K (.v (.int .i64 n)) → OVal P S w G (execOp a.eval ⟨dst, .call ⟨.builtin .len, #[x], #[t]⟩, type, pos, after, guard⟩) K := fun u n hu hrun hk =>
    ⟨_, _, hk, .v _, fun w' _ => by simp [execOp, resolve, invoke, builtin, Sem.run_bind, hu, hrun w']⟩
   split at hc
   ·rename_i ht
    cases hc
    simp only [aval] at h
    generalize a.eval x = u at hv key
    generalize ev s.tm x = ax at hv h
    split at h <;> first | exact h.elim | skip
    ·cases hv; exact key _ _ rfl (fun w' => by simp [Builtin.len_, Sem.run_bind, run_underlying ht, goInt]) h
    all_goals simp_all
   ·rename_i e ht
    cases hc
    simp only [aval] at h
    generalize a.eval x = u at hv key
    generalize ev s.tm x = ax at hv h
    split at h <;> first | exact h.elim | skip
    ·simp_all
    all_goals cases hv; exact key _ _ rfl (fun w' => by simp [Builtin.len_, Sem.run_bind, run_underlying ht, goInt]) h
   ·rename_i k e ht
    cases hc
    simp only [aval] at h
    refine (mlen_sound (hG rfl) hr.wr ht type (hr.ev x) h.1 h.2).to ?_
    simp [execOp, resolve, invoke, builtin]
   ·cases hc
  ·cases hc
 ·rename_i t x i ok
  split at hc
  ·rename_i k e ht
   split at hc
   ·rename_i kc z hkc hz
    split at hc
    ·rename_i hz1
     cases hc
     simp only [aval] at h
     exact (lk_sound (hG rfl) hr.wr ht hkc hz hz1 ok (hr.ev x) (hr.ev i) h.1 h.2).to rfl
    ·cases hc
   ·cases hc
  ·cases hc
 ·cases hc
  simp only [aval] at h
  exact (men_sound (hG rfl) hr.wr (hr.ev _) h.1 h.2).to rfl
 ·rename_i args ts
  split at hc
  ·rename_i x y e1
   cases hc
   obtain rfl : args = #[x, y] := by cases args; simp_all
   have hx := hr.ev x
   have hy := hr.ev y
   simp only [aval] at h
   have key : ∀ (p q u : Value), a.eval x = p → a.eval y = q → (∀ w', (Builtin.max_ ts type #[p, q]).run P w' = .ok u w') → K (.v u) → OVal P S w G (execOp a.eval ⟨dst, .call ⟨.builtin .max, #[x, y], ts⟩, type, pos, after, guard⟩) K := fun p q u hp hq hrun hk =>
    ⟨_, _, hk, .v _, fun w' _ => by simp [execOp, resolve, invoke, builtin, Sem.run_bind, hp, hq, hrun w']⟩
   generalize a.eval x = p at hx key
   generalize a.eval y = q at hy key
   unfold minmax at h
   split at h
   ·rename_i k i k' j e2 e3
    rw [e2] at hx; rw [e3] at hy
    cases hx; cases hy
    obtain ⟨rfl, h⟩ := h
    refine key _ _ _ rfl rfl (fun w' => ?_) h
    simp [Builtin.max_, Builtin.max2]
    split <;> omega
   ·exact h.elim
  ·cases hc
 ·rename_i args ts
  split at hc
  ·rename_i x y e1
   cases hc
   obtain rfl : args = #[x, y] := by cases args; simp_all
   have hx := hr.ev x
   have hy := hr.ev y
   simp only [aval] at h
   have key : ∀ (p q u : Value), a.eval x = p → a.eval y = q → (∀ w', (Builtin.min_ ts type #[p, q]).run P w' = .ok u w') → K (.v u) → OVal P S w G (execOp a.eval ⟨dst, .call ⟨.builtin .min, #[x, y], ts⟩, type, pos, after, guard⟩) K := fun p q u hp hq hrun hk =>
    ⟨_, _, hk, .v _, fun w' _ => by simp [execOp, resolve, invoke, builtin, Sem.run_bind, hp, hq, hrun w']⟩
   generalize a.eval x = p at hx key
   generalize a.eval y = q at hy key
   unfold minmax at h
   split at h
   ·rename_i k i k' j e2 e3
    rw [e2] at hx; rw [e3] at hy
    cases hx; cases hy
    obtain ⟨rfl, h⟩ := h
    refine key _ _ _ rfl rfl (fun w' => ?_) h
    simp [Builtin.min_, Builtin.min2]
    split <;> omega
   ·exact h.elim
  ·cases hc
 ·rename_i x i
  cases hc
  simp only [aval] at h
  have hx := hr.ev x
  refine Val.to (m := Instr.extract (a.eval x) i) ?_ rfl
  generalize a.eval x = p at hx
  split at h
  ·rename_i vs e
   rw [e] at hx
   obtain ⟨c, hc, hk⟩ := h
   obtain ⟨hlt, rfl⟩ := List.getElem?_eq_some_iff.1 hc
   cases hx with
   | @tup _ us' us hl hv hh =>
   refine ⟨_, us i, hk, hh i hlt, fun w' _ => ?_⟩
   have : us'[i]? = some (us i) := by rw [Array.getElem?_eq_getElem (by omega), hv]
   simp [Instr.extract, this]
  ·exact h.elim
 ·rename_i f first caps
  split at hc
  ·rename_i hf
   cases hc
   simp only [aval] at h
   have : first = #[] := by simpa using hf
   subst this
   refine ⟨_, .func (.func f) #[] (caps.map a.eval), h, .fn (fun j => (caps.map a.eval).getD j undef) (by simp) (fun j hj => by simp at hj; simp [hj]) (fun j hj => ?_), fun w' _ => by simp [execOp, Instr.makeFunc]⟩
   simp at hj ⊢
   simpa [hj] using hr.ev caps[j]
  ·split at hc
   ·rename_i hf2
    cases hc
    simp only [aval] at h
    have : caps = #[] := by simpa using hf2
    subst this
    refine ⟨_, .func (.func f) (first.map a.eval) #[], h, .bm (fun j => (first.map a.eval).getD j undef) (by simp) (fun j hj => by simp at hj; simp [hj]) (fun j hj => ?_), fun w' _ => by simp [execOp, Instr.makeFunc]⟩
    simp at hj ⊢
    simpa [hj] using hr.ev first[j]
   ·cases hc
 ·rename_i t x
  split at hc
  ·cases hc
  ·cases hc
  ·rename_i d hn ht
   cases hc
   simp only [aval] at h
   refine ⟨_, .iface t (a.eval x), h, .ifc (hr.ev x), fun w' _ => ?_⟩
   have hd : (underlying t).run P w' = .ok d w' := run_underlying ht w'
   simp only [execOp, Instr.makeInterface, Sem.run_bind, hd, Result.andThen_ok]
   cases d <;> simp_all
 ·rename_i x
  cases hc
  simp only [aval] at h
  have hx := hr.ev x
  have key : ∀ u, a.eval x = u → (∀ y, K y → VR S w y u → (∀ w', (execOp a.eval ⟨dst, .nilCheck x, type, pos, after, guard⟩).run P w' = .ok (.value u) w') → OVal P S w G (execOp a.eval ⟨dst, .nilCheck x, type, pos, after, guard⟩) K) := fun u hu y hk hv hrun => ⟨y, u, hk, hv, fun w' _ => hrun w'⟩
  have hex : ∀ u, a.eval x = u → ∀ w', (∃ A, u = .pointer (some A)) ∨ (∃ f vs, u = .func (.func f) #[] vs) ∨ (∃ f vs, u = .func (.func f) vs #[]) ∨ (∃ t v, u = .iface t v) → (execOp a.eval ⟨dst, .nilCheck x, type, pos, after, guard⟩).run P w' = .ok (.value u) w' := by
   rintro u hu w' (⟨A, rfl⟩ | ⟨f, vs, rfl⟩ | ⟨f, vs, rfl⟩ | ⟨t, v, rfl⟩) <;> simp [execOp, hu]
  generalize a.eval x = u at hx key hex
  split at h
  ·rename_i A e
   rw [e] at hx
   exact key u rfl _ h hx (fun w' => hex u rfl w' (.inl (by cases hx; exact ⟨_, rfl⟩)))
  ·rename_i cells e
   rw [e] at hx
   exact key u rfl _ h hx (fun w' => hex u rfl w' (.inl (by cases hx; exact ⟨_, rfl⟩)))
  ·rename_i g sz i k e
   rw [e] at hx
   exact key u rfl _ h hx (fun w' => hex u rfl w' (.inl (by cases hx; exact ⟨_, rfl⟩)))
  ·rename_i f caps e
   rw [e] at hx
   exact key u rfl _ h hx (fun w' => hex u rfl w' (.inr (.inl (by cases hx; exact ⟨_, _, rfl⟩))))
  ·rename_i f caps e
   rw [e] at hx
   exact key u rfl _ h hx (fun w' => hex u rfl w' (.inr (.inr (.inl (by cases hx; exact ⟨_, _, rfl⟩)))))
  ·rename_i t y e
   rw [e] at hx
   exact key u rfl _ h hx (fun w' => hex u rfl w' (.inr (.inr (.inr (by cases hx; exact ⟨_, _, rfl⟩)))))
  ·exact h.elim
 ·rename_i x xt t ok
  split at hc
  ·rename_i hok
   subst hok
   split at hc
   ·cases hc
   ·cases hc
   ·rename_i dt z hn ht hz
    split at hc
    ·rename_i hz1
     cases hc
     obtain ⟨ti, hti, hzz⟩ : ∃ ti, P.info? t = some ti ∧ ti.zero = some z := by cases e : P.info? t <;> simp_all
     simp only [aval] at h
     have hx := hr.ev x
     refine Val.to (m := Instr.typeAssert (a.eval x) xt t true) ?_ rfl
     generalize a.eval x = u at hx
     have hd : ∀ w', (underlying t).run P w' = .ok dt w' := fun w' => run_underlying ht w'
     have hnot : ∀ ms, dt ≠ .interface ms := fun ms e => hn ms e
     split at h
     ·rename_i t' y e
      rw [e] at hx
      cases hx with
      | @ifc _ _ v hy =>
      by_cases et : t' = t
      ·subst et
       refine ⟨_, .tuple #[v, .bool true], h.1 rfl, VR.pair hy (.v _), fun w' _ => ?_⟩
       simp only [Instr.typeAssert, Sem.run_bind, hd w', Result.andThen_ok]
       cases dt <;> simp_all
      ·refine ⟨_, .tuple #[z, .bool false], h.2 et, VR.pair (zeroA_sound hz1) (.v _), fun w' _ => ?_⟩
       simp only [Instr.typeAssert, Sem.run_bind, hd w', Result.andThen_ok]
       cases dt <;> simp_all [zeroValue, typeInfo]
     ·rename_i e
      rw [e] at hx
      cases hx
      refine ⟨_, .tuple #[z, .bool false], h, VR.pair (zeroA_sound hz1) (.v _), fun w' _ => ?_⟩
      simp only [Instr.typeAssert, Sem.run_bind, hd w', Result.andThen_ok]
      cases dt <;> simp_all [zeroValue, typeInfo]
     ·exact h.elim
    ·cases hc
   ·cases hc
  ·cases hc
 ·rename_i t x
  split at hc
  ·rename_i ag n hag hn
   cases hc
   exact (ald_sound (hG rfl) hr.wr hag hn h (hr.ev x)).to rfl
  ·cases hc
 ·rename_i t parts
  split at hc
  ·rename_i fs zero ht hz
   split at hc
   ·rename_i ps hps
    split at hc
    ·rename_i hcond
     cases hc
     simp only [aval] at h
     obtain ⟨cs, hl, hk⟩ := h
     simp only [Bool.and_eq_true] at hcond
     have hzero : CR S w (zero.toList.map AVal.v) zero := by
      refine ⟨by simp, fun j hj => ?_, fun j hj hj' => ?_⟩
      ·simp at hj ⊢
       have := hcond.2
       simp at this
       simpa [AVal.one] using this j hj
      ·simp; exact .v _
     obtain ⟨pl, hpl⟩ : ∃ pl : Nat → Option (Nat × Nat), pl = fun (i : Nat) => (fs[i]?).bind fun (f : Field) => (szOf P f.type).map fun n => (f.offset, n) := ⟨_, rfl⟩
     have hmap : (parts.toList.mapM fun p => (pl p.1).map fun q => (q.1, q.2, p.2)) = some ps := by
      rw [← hps, hpl]
      congr 1
      funext p
      dsimp only
      cases e : fs[p.1]? with
      | none => rfl
      | some f => simp only [Option.bind_some, Option.map_map]; rfl
     obtain ⟨cur', h1, h2⟩ := lay_fill hr pl parts.toList ps _ cs zero hmap hl hzero
     rw [hpl] at h1
     refine ⟨_, .agg cur', hk, h2.agg, fun w' _ => exec_val (m := Instr.build t (parts.map fun (i, x) => (i, a.eval x))) rfl ?_⟩
     have := bld_run ht hz hcond.1 (parts.toList.map fun p => (p.1, a.eval p.2)) h1 w'
     rw [← this]
     congr 2
     apply Array.ext'
     simp
    ·cases hc
   ·cases hc
  ·rename_i len e zero ht hz
   split at hc
   ·rename_i n hn
    split at hc
    ·rename_i hcond
     cases hc
     simp only [aval] at h
     obtain ⟨cs, hl, hk⟩ := h
     have hzero : CR S w (zero.toList.map AVal.v) zero := by
      refine ⟨by simp, fun j hj => ?_, fun j hj hj' => ?_⟩
      ·simp at hj ⊢
       simp at hcond
       simpa [AVal.one] using hcond j hj
      ·simp; exact .v _
     have hmap : ∀ l : List (Nat × Operand), (l.mapM fun p => ((fun (i : Nat) => some (i * n, n)) p.1).map fun q => (q.1, q.2, p.2)) = some (l.map fun p => (p.1 * n, n, p.2)) := by
      intro l
      induction l with
      | nil => rfl
      | cons p l ih => simp at ih; simp [List.mapM_cons, ih]
     obtain ⟨cur', h1, h2⟩ := lay_fill hr (fun (i : Nat) => some (i * n, n)) parts.toList _ _ cs zero (hmap _) hl hzero
     refine ⟨_, .agg cur', hk, h2.agg, fun w' _ => exec_val (m := Instr.build t (parts.map fun (i, x) => (i, a.eval x))) rfl ?_⟩
     have := bld_run2 ht hz hn (parts.toList.map fun p => (p.1, a.eval p.2)) h1 w'
     rw [← this]
     congr 2
     apply Array.ext'
     simp
    ·cases hc
   ·cases hc
  ·cases hc
 ·cases hc
end Go.Proofs.YtfaodacmdlnabaaGreatDoor.M
