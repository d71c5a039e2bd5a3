/-
 Maps and what is gone through, written.
-/
/-
 Appends, conversions, calls.
-/
import Derived.Test.YtfaodacmdlnabaaGreatDoorMG4
namespace Go.Proofs.YtfaodacmdlnabaaGreatDoor.M
open Go.RowKit
open Go.ChangeMaps (setBlock)
set_option linter.unusedVariables false
set_option linter.unusedSimpArgs false
variable {P : Program} {W : World} {S : Nat → Prop} {w : World} {N : Nat} {s : AState} {a : Act} {Q : Exit → Act → World → Prop}
def AE.writes : AE → Bool
 | .alloc _ _ | .box _ _ | .bsl _ _ _ | .s2b _ _ | .b2s _ | .callq _ _ | .appq _ _ _ _ _ _ | .niq _ _ | .mks _ _ _ _ => false
 | _ => true
theorem set_facts {w : World} {b : Nat} {o : Obj} (hb : w.heap[b]? = some o) (o' : Obj) : (setBlock w b o').heap[b]? = some o' ∧ (∀ i, i ≠ b → (setBlock w b o').heap[i]? = w.heap[i]?) ∧ (setBlock w b o').heap.size = w.heap.size := by
 have hlt := lt_of_some hb
 refine ⟨by simp [setBlock, hlt], fun i hi => ?_, by simp [setBlock]⟩
 simp only [setBlock, Array.getElem?_setIfInBounds]
 rw [if_neg (fun e => hi e.symm)]
/-- A block that holds no cells is written. -/
theorem blk_step {H : AHeap} (hw : WR W S H w) {b : Nat} {o0 : Obj} (hb : w.heap[b]? = some o0) (hH : H b ≠ none) (hno : ∀ c E fz, o0 ≠ .cells c E fz) (o' : Obj) {o : AObj} (ho : OR S (setBlock w b o') b o) : Ext S H w S (H.put b o) (setBlock w b o') ∧ WR W S (H.put b o) (setBlock w b o') := by
 obtain ⟨f1, f2, f3⟩ := set_facts hb o'
 exact own_step (w' := setBlock w b o') hw rfl rfl rfl (by omega) (.inl hH) (fun i _ hi => f2 i hi) (fun m ⟨cur, E, fz, h1, _⟩ => by rw [hb] at h1; cases h1; exact absurd rfl (hno _ _ _)) (Sub.refl H) ho
theorem VR.blk {H : AHeap} (hw : WR W S H w) {b : Nat} {o0 : Obj} (hb : w.heap[b]? = some o0) (hH : H b ≠ none) (hno : ∀ c E fz, o0 ≠ .cells c E fz) (o' : Obj) {x : AVal} {u : Value} (h : VR S w x u) : VR S (setBlock w b o') x u := by
 obtain ⟨f1, f2, f3⟩ := set_facts hb o'
 refine h.keep (w' := setBlock w b o') (fun i hi => ⟨hi, f2 i (fun e => ?_)⟩) (fun i m ⟨cur, E, fz, h1, h2⟩ => ⟨cur, E, fz, ?_, h2⟩)
 ·subst e
  cases e2 : H i with
  | none => exact hH e2
  | some o => exact hw.apart i o e2 hi
 ·by_cases e : i = b
  ·subst e; rw [hb] at h1; cases h1; exact absurd rfl (hno _ _ _)
  ·rw [f2 i e]; exact h1
theorem mapped_open {H : AHeap} (hw : WR W S H w) {x : AVal} {u : Value} (hx : VR S w x u) {K : Nat → List (Value × Nat × AVal) → Nat → Prop} (h : mapped H x K) : ∃ b l c es, u = .map (some b) ∧ H b = some (.mp l c) ∧ w.heap[b]? = some (.map es c) ∧ MR S w l es.toList ∧ K b l c := by
 unfold mapped mapB at h
 split at h
 ·rename_i b e
  split at e
  ·cases e
   cases hx
   split at h
   ·rename_i l c hb
    obtain ⟨es, h1, h2⟩ := hw.objs _ _ hb
    exact ⟨b, l, c, es, rfl, hb, h1, h2, h⟩
   ·exact h.elim
  ·cases e
 ·exact h.elim
theorem key_open {kc : Option IntKind} {x : AVal} {u : Value} (hx : VR S w x u) (h : kOk kc (keyA x) = true) : x = .v u := by
 cases x with
 | v y => cases hx; rfl
 | _ => cases kc <;> cases h
theorem mk_sound (hr : SR W N S s a w) {o : Oper} (hd : dstOk N o.dst = true) {t : TypeId} (ho : o.op = .makeMap t none) {K : AState → Prop} (h : aeff P W .mk o.dst s K) : o.wp P a w (Then W N S s w K) Q := by
 obtain ⟨f1, f2, f3, f4, f5, f6⟩ := alloc_facts w (.map #[] 0)
 refine wp_value (u := .map (some w.heap.size)) (w' := w.alloc (.map #[] 0)) ?_ ?_
 ·simp [execOp, ho, Instr.makeMap, Sem.run_bind, newObj, Sem.run]
 ·exact then_put hr hd (own_new (o := .mp [] 0) hr.wr f1 f2 f3 f4 f5 ⟨#[], f6, trivial⟩) (.v _) (h _ hr.wr.fresh)
theorem run_setMap {w : World} {b : Nat} {es : Array MapEntry} {c : Nat} (hb : w.heap[b]? = some (.map es c)) (o' : Obj) : (setObj b o').run P w = .ok () (setBlock w b o') := by
 simp [setObj, Sem.run, hb, setBlock]
theorem mput_end (k : Value) (c : Nat) {x : MapEntry} : ∀ {l : List (Value × Nat × AVal)} {es : List MapEntry}, MR S w l es → ∀ {e : Value × Nat × AVal}, x.key = e.1 → x.born = e.2.1 → VR S w e.2.2 x.val → MR S w (l ++ [e]) (es ++ [x])
 | [], [], _, e, h1, h2, h3 => ⟨h1, h2, h3, trivial⟩
 | [], _ :: _, h, _, _, _, _ => h.elim
 | _ :: _, [], h, _, _, _, _ => h.elim
 | _ :: l, _ :: es, h, e, h1, h2, h3 => ⟨h.1, h.2.1, h.2.2.1, mput_end k c h.2.2.2 h1 h2 h3⟩
theorem stays_run {kc : Option IntKind} {old new : Value} (h1 : kOk kc old = true) (h : old = new) (w : World) : (Instr.keyThatStays old new).run P w = .ok new w := by
 subst h
 have : Instr.sameBits 10000 old old = true := by
  cases kc <;> cases old <;> simp [kOk] at h1 <;> simp [Instr.sameBits, byte_beq]
 simp [Instr.keyThatStays, this]
theorem up_sound (hr : SR W N S s a w) {o : Oper} (hd : dstOk N o.dst = true) {t k e : TypeId} (ht : P.underlying t = some (.map k e)) {kc : Option IntKind} (hk : kcOf P k = some kc) {x i v : Operand} (ho : o.op = .mapUpdate t x i v ∨ o.op = .insert t x i v) {K : AState → Prop} (h : aeff P W (.up kc x i v) o.dst s K) : o.wp P a w (Then W N S s w K) Q := by
 obtain ⟨b, l, c, es, hb1, hb2, hb3, hmr, ⟨hall, hkey⟩, hK⟩ := mapped_open hr.wr (hr.ev x) h
 have hi := key_open (hr.ev i) hkey
 rw [hi] at hkey hK
 simp only [keyA] at hkey hK
 obtain ⟨d, hd2⟩ : ∃ d, P.underlying k = some d := by unfold kcOf at hk; split at hk <;> simp_all
 have hH : s.H b ≠ none := by rw [hb2]; simp
 have hno : ∀ cc E fz, (Obj.map es c) ≠ .cells cc E fz := fun _ _ _ h => by cases h
 have hvr := fun o' => (VR.blk hr.wr hb3 hH hno o' (hr.ev v))
 have hchk := key_check hk false 9999 (a.eval i) w
 rcases find_now hk hd2 hkey l es.toList hmr hall 0 with ⟨k1, k2, k3, k4⟩ | ⟨j, y, av, k1, k2, k3, k4, k5, k6, k7, k8⟩
 ·refine wp_skip' (w' := setBlock w b (.map (es.push { key := a.eval i, val := a.eval v, born := c }) (c + 1))) ?_ ?_
  ·have hf := find_key (P := P) hd2 k1 w
   rcases ho with ho | ho <;> simp [execOp, ho, Instr.mapUpdate, Sem.run_bind, run_underlying ht, hb1, MapKept.run_getObj_map hb3, hchk, hf, run_setMap hb3]
  ·have hc : mclk (a.eval i) c l = c + 1 := by simp [mclk, k2]
   rw [hc, (k4 _ _).1] at hK
   refine then_put hr hd (blk_step (o := .mp _ _) hr.wr hb3 hH hno _ ⟨_, (set_facts hb3 _).1, ?_⟩) (.any _) hK
   rw [Array.toList_push]
   exact mput_end (a.eval i) c (hmr.mono fun x u h => VR.blk hr.wr hb3 hH hno _ h) rfl rfl (hvr _)
 ·have hjl : j < es.toList.length := (List.getElem?_eq_some_iff.1 k1).1
  have hjs : j < es.size := by simpa using hjl
  have hj : es[j] = y := by
   have := (List.getElem?_eq_some_iff.1 k1).2
   simpa using this
  refine wp_skip' (w' := setBlock w b (.map (es.modify j fun e => { e with key := a.eval i, val := a.eval v }) c)) ?_ ?_
  ·have hf := find_key (P := P) hd2 k3 w
   have hst := stays_run (P := P) (kc := kc) (old := a.eval i) (new := a.eval i) hkey rfl w
   rw [Nat.zero_add] at hf
   rcases ho with ho | ho <;> simp [execOp, ho, Instr.mapUpdate, Sem.run_bind, run_underlying ht, hb1, MapKept.run_getObj_map hb3, hchk, hf, hjs, hj, k2, hst, run_setMap hb3]
  ·have hc : mclk (a.eval i) c l = c := by simp [mclk, k4]
   rw [hc] at hK
   refine then_put hr hd (blk_step (o := .mp _ _) hr.wr hb3 hH hno _ ⟨_, (set_facts hb3 _).1, ?_⟩) (.any _) hK
   rw [Array.toList_modify]
   exact (k8 _ _ c (hr.ev v)).mono fun x u h => VR.blk hr.wr hb3 hH hno _ h
theorem del_sound (hr : SR W N S s a w) {o : Oper} (hd : dstOk N o.dst = true) {t k e u : TypeId} (ht : P.underlying t = some (.map k e)) {kc : Option IntKind} (hk : kcOf P k = some kc) {x i : Operand} (ho : o.op = .call ⟨.builtin .delete, #[x, i], #[t, u]⟩) {K : AState → Prop} (h : aeff P W (.del kc x i) o.dst s K) : o.wp P a w (Then W N S s w K) Q := by
 obtain ⟨b, l, c, es, hb1, hb2, hb3, hmr, ⟨hall, hkey⟩, hK⟩ := mapped_open hr.wr (hr.ev x) h
 have hi := key_open (hr.ev i) hkey
 rw [hi] at hkey hK
 simp only [keyA] at hkey hK
 obtain ⟨d, hd2⟩ : ∃ d, P.underlying k = some d := by unfold kcOf at hk; split at hk <;> simp_all
 have hH : s.H b ≠ none := by rw [hb2]; simp
 have hno : ∀ cc E fz, (Obj.map es c) ≠ .cells cc E fz := fun _ _ _ h => by cases h
 have hchk := key_check hk es.isEmpty 9999 (a.eval i) w
 rcases find_now hk hd2 hkey l es.toList hmr hall 0 with ⟨k1, k2, k3, k4⟩ | ⟨j, y, av, k1, k2, k3, k4, k5, k6, k7, k8⟩
 ·refine wp_value (u := .tuple #[]) (w' := setBlock w b (.map es c)) ?_ ?_
  ·have hf := find_key (P := P) hd2 k1 w
   simp [execOp, ho, resolve, invoke, builtin, Builtin.delete_, Sem.run_bind, run_underlying ht, hb1, MapKept.run_getObj_map hb3, hchk, hf, run_setMap hb3]
  ·rw [k3] at hK
   exact then_put hr hd (blk_step (o := .mp _ _) hr.wr hb3 hH hno _ ⟨_, (set_facts hb3 _).1, hmr.mono fun x u h => VR.blk hr.wr hb3 hH hno _ h⟩) (.any _) hK
 ·have hjl : j < es.toList.length := (List.getElem?_eq_some_iff.1 k1).1
  have hjs : j < es.size := by simpa using hjl
  refine wp_value (u := .tuple #[]) (w' := setBlock w b (.map (es.eraseIdxIfInBounds j) c)) ?_ ?_
  ·have hf := find_key (P := P) hd2 k3 w
   rw [Nat.zero_add] at hf
   simp [execOp, ho, resolve, invoke, builtin, Builtin.delete_, Sem.run_bind, run_underlying ht, hb1, MapKept.run_getObj_map hb3, hchk, hf, run_setMap hb3]
  ·refine then_put hr hd (blk_step (o := .mp _ _) hr.wr hb3 hH hno _ ⟨_, (set_facts hb3 _).1, ?_⟩) (.any _) hK
   unfold Array.eraseIdxIfInBounds
   rw [dif_pos hjs]
   simp only [Array.toList_eraseIdx]
   exact k6.mono fun x u h => VR.blk hr.wr hb3 hH hno _ h
theorem rg_sound (hr : SR W N S s a w) {o : Oper} (hd : dstOk N o.dst = true) {t k e : TypeId} (ht : P.underlying t = some (.map k e)) {x : Operand} (ho : o.op = .range t x) {K : AState → Prop} (h : aeff P W (.rg x) o.dst s K) : o.wp P a w (Then W N S s w K) Q := by
 obtain ⟨b, l, c, es, hb1, hb2, hb3, hmr, hK⟩ := mapped_open hr.wr (hr.ev x) h
 obtain ⟨f1, f2, f3, f4, f5, f6⟩ := alloc_facts w (.mapIter (some b) c #[] c)
 refine wp_value (u := .pointer (some ⟨w.heap.size, 0, none⟩)) (w' := w.alloc (.mapIter (some b) c #[] c)) ?_ ?_
 ·simp [execOp, ho, Instr.range, Sem.run_bind, run_underlying ht, hb1, MapKept.run_getObj_map hb3, newObj, Sem.run]
 ·exact then_put hr hd (own_new hr.wr f1 f2 f3 f4 f5 (show OR S _ _ (.it b c [] c) from f6)) (.v _) (hK _ hr.wr.fresh)
theorem srg_sound (hr : SR W N S s a w) {o : Oper} (hd : dstOk N o.dst = true) {t : TypeId} (ht : P.underlying t = some .string) {x : Operand} (ho : o.op = .range t x) {K : AState → Prop} (h : aeff P W (.srg x) o.dst s K) : o.wp P a w (Then W N S s w K) Q := by
 simp only [aeff] at h
 have hx := hr.ev x
 generalize ev s.tm x = ax at h hx
 generalize hu : a.eval x = u at hx
 unfold strA at h
 split at h
 ·rename_i txt e
  split at e
  ·cases e
   cases hx
   obtain ⟨f1, f2, f3, f4, f5, f6⟩ := alloc_facts w (.stringIter txt 0)
   refine wp_value (u := .pointer (some ⟨w.heap.size, 0, none⟩)) (w' := w.alloc (.stringIter txt 0)) ?_ ?_
   ·simp [execOp, ho, Instr.range, Sem.run_bind, run_underlying ht, hu, newObj, Sem.run]
   ·exact then_put hr hd (own_new hr.wr f1 f2 f3 f4 f5 (show OR S _ _ (.si txt 0) from f6)) (.v _) (h _ hr.wr.fresh)
  ·cases e
 ·exact h.elim
theorem ptrB_open {x : AVal} {r : Nat} (h : ptrB x = some r) {u : Value} (hx : VR S w x u) : u = .pointer (some ⟨r, 0, none⟩) := by
 unfold ptrB at h
 split at h
 ·cases h; cases hx; rfl
 ·cases h
theorem VR.trio {a b c : AVal} {u v t : Value} (ha : VR S w a u) (hb : VR S w b v) (hc : VR S w c t) : VR S w (.tup [a, b, c]) (.tuple #[u, v, t]) := by
 refine .tup (fun j => if j = 0 then u else if j = 1 then v else t) rfl (fun j hj => ?_) (fun j hj => ?_)
 ·rcases j with _ | _ | _ | j
  ·rfl
  ·rfl
  ·rfl
  ·simp at hj; omega
 ·rcases j with _ | _ | _ | j
  ·exact ha
  ·exact hb
  ·exact hc
  ·simp at hj; omega
theorem VR.sole {a : AVal} {u : Value} (ha : VR S w a u) : VR S w (.tup [a]) (.tuple #[u]) := by
 refine .tup (fun j => u) rfl (fun j hj => ?_) (fun j hj => ?_)
 ·rcases j with _ | j
  ·rfl
  ·simp at hj
 ·rcases j with _ | j
  ·exact ha
  ·simp at hj
theorem snx_sound (hr : SR W N S s a w) {o : Oper} (hd : dstOk N o.dst = true) {x : Operand} (ho : o.op = .next x true) {K : AState → Prop} (h : aeff P W (.snx x) o.dst s K) : o.wp P a w (Then W N S s w K) Q := by
 simp only [aeff] at h
 split at h
 ·rename_i r e
  have hu := ptrB_open e (hr.ev x)
  split at h
  ·rename_i t p hH
   have hb : w.heap[r]? = some (.stringIter t p) := hr.wr.objs _ _ hH
   have hH' : s.H r ≠ none := by rw [hH]; simp
   have hno : ∀ cc E fz, (Obj.stringIter t p) ≠ .cells cc E fz := fun _ _ _ h => by cases h
   by_cases hp : p < t.size
   ·refine wp_value (u := .tuple #[.bool true, .int .i64 p, .int .i32 (Utf8.decode t p).1]) (w' := setBlock w r (.stringIter t (p + (Utf8.decode t p).2))) ?_ ?_
    ·simp [execOp, ho, Instr.next, Sem.run_bind, hu, getObj, Sem.run, hb, hp, setObj, setBlock, goInt, Result.andThen]
    ·exact then_put hr hd (blk_step hr.wr hb hH' hno _ (show OR S _ _ (.si t _) from (set_facts hb _).1)) (VR.trio (.v _) (.v _) (.v _)) (h.1 hp)
   ·refine wp_value (u := .tuple #[.bool false]) (w' := w) ?_ ?_
    ·simp [execOp, ho, Instr.next, Sem.run_bind, hu, getObj, Sem.run, hb, hp, Result.andThen]
    ·exact then_put (H' := s.H) hr hd ⟨Ext.refl _ _ _, hr.wr⟩ (VR.sole (.v _)) (h.2 hp)
  ·exact h.elim
 ·exact h.elim
theorem MR.mem : ∀ {l : List (Value × Nat × AVal)} {es : List MapEntry}, MR S w l es → (∀ x ∈ es, ∃ e ∈ l, x.key = e.1 ∧ x.born = e.2.1 ∧ VR S w e.2.2 x.val) ∧ (∀ e ∈ l, ∃ x ∈ es, x.born = e.2.1)
 | [], [], _ => ⟨by simp, by simp⟩
 | [], _ :: _, h => h.elim
 | _ :: _, [], h => h.elim
 | e :: l, x :: es, h => by
  obtain ⟨h1, h2⟩ := h.2.2.2.mem
  refine ⟨fun y hy => ?_, fun f hf => ?_⟩
  ·rcases List.mem_cons.1 hy with rfl | hy
   ·exact ⟨e, by simp, h.1, h.2.1, h.2.2.1⟩
   ·obtain ⟨f, hf, r⟩ := h1 y hy
    exact ⟨f, by simp [hf], r⟩
  ·rcases List.mem_cons.1 hf with rfl | hf
   ·exact ⟨x, by simp, h.2.1⟩
   ·obtain ⟨y, hy, r⟩ := h2 f hf
    exact ⟨y, by simp [hy], r⟩
theorem nx_sound (hr : SR W N S s a w) {o : Oper} (hd : dstOk N o.dst = true) {x : Operand} (ho : o.op = .next x false) {K : AState → Prop} (h : aeff P W (.nx x) o.dst s K) : o.wp P a w (Then W N S s w K) Q := by
 simp only [aeff] at h
 split at h
 ·rename_i r e
  have hu := ptrB_open e (hr.ev x)
  split at h
  ·rename_i m since seen c0 hH
   split at h
   ·rename_i l c hm
    obtain ⟨⟨hold, hsc⟩, hdone, hmore⟩ := h
    have hb : w.heap[r]? = some (.mapIter (some m) since seen.toArray c0) := hr.wr.objs _ _ hH
    obtain ⟨es, he1, he2⟩ := hr.wr.objs _ _ hm
    have hH' : s.H r ≠ none := by rw [hH]; simp
    obtain ⟨m1, m2⟩ := he2.mem
    rcases run_next_at (P := P) w o.type r m since c0 seen.toArray es c hb he1 (fun x hx => by obtain ⟨f, hf, _, hb, _⟩ := m1 x hx; rw [hb]; exact hold f hf) hsc with ⟨h0, hrun⟩ | ⟨y, hy, w1, hw1, hrun⟩
    ·refine wp_value (u := .tuple #[.bool false]) (w' := w) (by simp [execOp, ho, Sem.run_bind, hu, hrun, Result.andThen]) ?_
     refine then_put (H' := s.H) hr hd ⟨Ext.refl _ _ _, hr.wr⟩ (VR.sole (.v _)) (hdone fun f hf => ?_)
     obtain ⟨x, hx, hxb⟩ := m2 f hf
     have := all_seen es seen.toArray h0 x hx
     rw [← hxb]
     simpa using this
    ·obtain ⟨hym, hys⟩ := mem_left hy
     obtain ⟨f, hf, fk, fb, fv⟩ := m1 y hym
     have hfs : f.2.1 ∉ seen := by rw [← fb]; simpa using hys
     have hr1 : ∃ S1 : Unit, SR W N S s a w1 ∧ Ext S s.H w S s.H w1 ∧ w1.heap = w.heap := by
      rcases hw1 with rfl | rfl
      ·exact ⟨(), hr, Ext.refl _ _ _, rfl⟩
      ·refine ⟨(), ⟨hr.defers, hr.size, fun k => VR.keep (w := w) (w' := w.drew) (fun b hb => ⟨hb, rfl⟩) (fun _ _ h => h) (hr.tm k), ⟨⟨hr.wr.old.os, hr.wr.old.tape, hr.wr.old.output, hr.wr.old.size, hr.wr.old.block⟩, hr.wr.new, hr.wr.lt, hr.wr.apart, fun b o h => OR.keep (w := w) (w' := w.drew) (fun b hb => ⟨hb, rfl⟩) (fun _ _ h => h) rfl (hr.wr.objs b o h)⟩⟩, ⟨Nat.le_refl _, fun _ _ _ => rfl, fun _ _ h => h, fun _ h => h, fun _ h => .inl h, fun _ h => .inl h⟩, rfl⟩
     obtain ⟨_, hr1, hx1, hheap⟩ := hr1
     have hb' : w1.heap[r]? = some (.mapIter (some m) since seen.toArray c0) := by rw [hheap]; exact hb
     have hno : ∀ cc E fz, (Obj.mapIter (some m) since seen.toArray c0) ≠ .cells cc E fz := fun _ _ _ h => by cases h
     refine wp_value (u := .tuple #[.bool true, y.key, y.val]) (w' := setBlock w1 r (.mapIter (some m) since (seen.toArray.push y.born) c)) (by simp [execOp, ho, Sem.run_bind, hu, hrun, Result.andThen]) ?_
     obtain ⟨g1, g2⟩ := blk_step hr1.wr hb' hH' hno (.mapIter (some m) since (seen.toArray.push y.born) c) (o := .it m since (seen ++ [f.2.1]) c) (by
      show (setBlock w1 r _).heap[r]? = _
      rw [(set_facts hb' _).1, fb]; simp)
     refine then_put hr hd ⟨hx1.trans g1, g2⟩ (VR.trio (.v _) (by rw [fk]; exact .v _) ?_) (hmore f hf hfs)
     exact VR.blk hr1.wr hb' hH' hno _ (fv.keep (fun b hb => ⟨hb, by rw [hheap]⟩) (fun b k ⟨cur, E, fz, q1, q2⟩ => ⟨cur, E, fz, by rw [hheap]; exact q1, q2⟩))
   ·exact h.elim
  ·exact h.elim
 ·exact h.elim
theorem me_sound (hr : SR W N S s a w) {o : Oper} (hd : dstOk N o.dst = true) {t k e : TypeId} (ht : P.underlying t = some (.map k e)) {kc : Option IntKind} (hk : kcOf P k = some kc) {z : Value} (hz : (P.info? e).bind (·.zero) = some z) (hz1 : z.cells.all (·.oneCell') = true) {x i : Operand} (ho : o.op = .mapEntry t x i) {K : AState → Prop} (h : aeff P W (.me kc z x i) o.dst s K) : o.wp P a w (Then W N S s w K) Q := by
 obtain ⟨b, l, c, es, hb1, hb2, hb3, hmr, ⟨hall, hkey⟩, hK⟩ := mapped_open hr.wr (hr.ev x) h
 have hi := key_open (hr.ev i) hkey
 rw [hi] at hkey hK
 simp only [keyA] at hkey hK
 obtain ⟨d, hd2⟩ : ∃ d, P.underlying k = some d := by unfold kcOf at hk; split at hk <;> simp_all
 obtain ⟨inf, hinf, hz⟩ : ∃ i, P.info? e = some i ∧ i.zero = some z := by cases e' : P.info? e <;> simp_all
 have hzero : ∀ w', (zeroValue e).run P w' = .ok z w' := fun w' => by simp [zeroValue, Sem.run_bind, typeInfo, hinf, hz]
 have hH : s.H b ≠ none := by rw [hb2]; simp
 have hno : ∀ cc E fz, (Obj.map es c) ≠ .cells cc E fz := fun _ _ _ h => by cases h
 have hchk := key_check hk false 9999 (a.eval i) w
 rcases find_now hk hd2 hkey l es.toList hmr hall 0 with ⟨k1, k2, k3, k4⟩ | ⟨j, y, av, k1, k2, k3, k4, k5, k6, k7, k8⟩
 ·refine wp_value (u := .tuple #[z, goInt c]) (w' := setBlock w b (.map (es.push { key := a.eval i, val := z, born := c }) (c + 1))) ?_ ?_
  ·have hf := find_key (P := P) hd2 k1 w
   simp [execOp, ho, Instr.mapEntry, Sem.run_bind, run_underlying ht, hb1, MapKept.run_getObj_map hb3, hchk, hf, hzero w, run_setMap hb3]
  ·have hc : mclk (a.eval i) c l = c + 1 := by simp [mclk, k2]
   rw [hc, (k4 _ _).1, (k4 .any c).2, k2] at hK
   refine then_put hr hd (blk_step (o := .mp _ _) hr.wr hb3 hH hno _ ⟨_, (set_facts hb3 _).1, ?_⟩) (VR.pair (zeroA_sound hz1) (.v _)) hK
   rw [Array.toList_push]
   exact mput_end (a.eval i) c (hmr.mono fun x u h => VR.blk hr.wr hb3 hH hno _ h) rfl rfl (zeroA_sound hz1)
 ·have hjl : j < es.toList.length := (List.getElem?_eq_some_iff.1 k1).1
  have hjs : j < es.size := by simpa using hjl
  have hj : es[j] = y := by
   have := (List.getElem?_eq_some_iff.1 k1).2
   simpa using this
  refine wp_value (u := .tuple #[y.val, goInt y.born]) (w' := setBlock w b (.map (es.modify j fun e => { e with key := a.eval i }) c)) ?_ ?_
  ·have hf := find_key (P := P) hd2 k3 w
   have hst := stays_run (P := P) (kc := kc) (old := a.eval i) (new := a.eval i) hkey rfl w
   rw [Nat.zero_add] at hf
   simp [execOp, ho, Instr.mapEntry, Sem.run_bind, run_underlying ht, hb1, MapKept.run_getObj_map hb3, hchk, hf, hjs, hj, k2, hst, run_setMap hb3]
  ·have hc : mclk (a.eval i) c l = c := by simp [mclk, k4]
   rw [hc, k7, k4] at hK
   refine then_put hr hd (blk_step (o := .mp _ _) hr.wr hb3 hH hno _ ⟨_, (set_facts hb3 _).1, ?_⟩) (VR.pair (VR.blk hr.wr hb3 hH hno _ k5) (.v _)) hK
   rw [Array.toList_modify]
   have := (k8 av y.val c k5).mono (w' := setBlock w b (.map (es.modify j fun e => { e with key := a.eval i }) c)) fun x u h => VR.blk hr.wr hb3 hH hno _ h
   have e1 : (es.toList.modify j fun e => { e with key := a.eval i, val := y.val }) = es.toList.modify j fun e => { e with key := a.eval i } := by
    apply List.ext_getElem?
    intro n
    simp only [List.getElem?_modify]
    by_cases hn : j = n
    ·subst hn; simp [hjs, hj]
    ·simp [hn]
   rw [e1] at this
   exact this
theorem niq_sound (hr : SR W N S s a w) {o : Oper} (hd : dstOk N o.dst = true) {op : BinOp} {t yt : TypeId} {x y : Operand} (ho : o.op = .binOp op t x y yt) {m : AE} (hc : compE P o.op = some m) {K : AState → Prop} (h : aeff P W m o.dst s K) : o.wp P a w (ThenQ W N S s w K) Q ∧ m.writes = false := by
 rw [ho] at hc
 simp only [compE] at hc
 have hx := hr.ev x
 have key : ∀ (neg : Bool) (e : TypeId) (n' c' : Nat), P.underlying t = some (.slice e) → y = .const (.slice none n' c') → op = (if neg then .neq else .eql) → aeff P W (.niq neg x) o.dst s K → o.wp P a w (ThenQ W N S s w K) Q := by
  rintro neg e n' c' ht rfl rfl h
  have hrun : ∀ (A : Option Addr) (n c : Nat), a.eval x = .slice A n c → (execOp a.eval o).run P w = .ok (.value (.bool (flip neg A.isNone))) w := by
   intro A n c hA
   have hev : a.eval (.const (.slice none n' c')) = .slice none n' c' := rfl
   cases neg
   ·have := bin_run P .eql t x (.const (.slice none n' c')) (.slice A n c) (.slice none n' c') (.bool A.isNone) w (by simp) (by simp) (by simp [binOp, Sem.run_bind, eq_slice ht])
    simp only [execOp, ho, hA, hev, if_false, Bool.false_eq_true]
    rw [Sem.run_bind]
    simp only [Sem.run_bind] at this ⊢
    simp [this, flip]
   ·have := bin_run P .neq t x (.const (.slice none n' c')) (.slice A n c) (.slice none n' c') (.bool (!A.isNone)) w (by simp) (by simp) (by simp [binOp, Sem.run_bind, eq_slice ht])
    simp only [execOp, ho, hA, hev, if_true]
    rw [Sem.run_bind]
    simp only [Sem.run_bind] at this ⊢
    simp [this, flip]
  simp only [aeff] at h
  generalize ev s.tm x = ax at hx h
  generalize hu : a.eval x = u at hx hrun
  have fin : ∀ t : Bool, K (s.put o.dst (.v (.bool (flip neg t)))) → ThenQ W N S s w K (a.put o.dst (.bool (flip neg t))) w := fun t hk => ⟨then_put (H' := s.H) hr hd ⟨Ext.refl _ _ _, hr.wr⟩ (.v _) hk, Quiet.refl w⟩
  unfold niqA at h
  split at h
  ·cases hx with
   | @sl _ _ _ A c us hc1 hm hf hb _ _ _ =>
   refine wp_value (hrun _ _ _ rfl) (fin _ (h _ fun hA => ?_))
   rcases hb with hb | ⟨b, o, rfl, _⟩
   ·exact hb
   ·cases hA
  ·cases hx; exact wp_value (hrun _ _ _ rfl) (fin _ h)
  ·cases hx; exact wp_value (hrun _ _ _ rfl) (fin _ h)
  ·cases hx; exact wp_value (hrun _ _ _ rfl) (fin _ h)
  ·exact h.elim
 split at hc
 ·rename_i e n c ht
  cases hc
  exact ⟨key false e _ _ ht rfl rfl h, rfl⟩
 ·rename_i e n c ht
  cases hc
  exact ⟨key true e _ _ ht rfl rfl h, rfl⟩
 ·cases hc
theorem mset_sound {n : Nat} {v : AVal} {val : Value} (hv : VR S w v val) : ∀ {l : List (Value × Nat × AVal)} {es : List MapEntry}, MR S w l es → (∃ e ∈ l, e.2.1 = n) → ∃ j, es.findIdx? (fun e => (e.born : Int) == (n : Int)) = some j ∧ MR S w (mset n v l) (es.modify j fun e => { e with val := val })
 | [], [], _, h => by simp at h
 | [], _ :: _, h, _ => h.elim
 | _ :: _, [], h, _ => h.elim
 | e :: l, x :: es, h, hex => by
  obtain ⟨h1, h2, h3, h4⟩ := h
  by_cases he : e.2.1 = n
  ·refine ⟨0, ?_, ?_⟩
   ·simp [List.findIdx?_cons, h2, he]
   ·simp only [mset, he, if_true, List.modify_zero_cons]; exact ⟨h1, by rw [← he]; exact h2, hv, h4⟩
  ·obtain ⟨j, hj, hm⟩ := mset_sound hv h4 (by obtain ⟨f, hf, hfn⟩ := hex; rcases List.mem_cons.1 hf with rfl | hf
                                              · exact absurd hfn he
                                              · exact ⟨f, hf, hfn⟩)
   refine ⟨j + 1, ?_, ?_⟩
   ·have : ((x.born : Int) == (n : Int)) = false := by rw [h2]; simp; exact_mod_cast he
    simp [List.findIdx?_cons, this, hj]
   ·simp only [mset, he, if_false, List.modify_succ_cons]; exact ⟨h1, h2, h3, hm⟩
theorem es_sound (hr : SR W N S s a w) {o : Oper} (hd : dstOk N o.dst = true) {t : TypeId} {x n v : Operand} (ho : o.op = .entryStore t x n v) {K : AState → Prop} (h : aeff P W (.es x n v) o.dst s K) : o.wp P a w (Then W N S s w K) Q := by
 obtain ⟨b, l, c, es, hb1, hb2, hb3, hmr, h⟩ := mapped_open hr.wr (hr.ev x) h
 have hn := hr.ev n
 split at h
 ·rename_i k e
  rw [e] at hn
  obtain ⟨⟨f, hf, hfk⟩, hK⟩ := h
  have hH : s.H b ≠ none := by rw [hb2]; simp
  have hno : ∀ cc E fz, (Obj.map es c) ≠ .cells cc E fz := fun _ _ _ h => by cases h
  generalize hu : a.eval n = u at hn
  cases hn
  obtain rfl : k = (f.2.1 : Int) := hfk.symm
  simp only [Int.toNat_natCast] at hK
  obtain ⟨j, hj, hm⟩ := mset_sound (hr.ev v) hmr ⟨f, hf, rfl⟩
  refine wp_skip' (w' := setBlock w b (.map (es.modify j fun e => { e with val := a.eval v }) c)) ?_ ?_
  ·have hj' : es.findIdx? (fun e => (e.born : Int) == (f.2.1 : Int)) = some j := by rw [← List.findIdx?_toArray] at hj; simpa using hj
   have has : (asInt (.int .i64 (f.2.1 : Int))).run P w = .ok (f.2.1 : Int) w := by simp [asInt, asIntOf]
   simp [execOp, ho, Instr.entryStore, Sem.run_bind, hb1, MapKept.run_getObj_map hb3, hu, has, hj', run_setMap hb3]
  ·refine then_put hr hd (blk_step (o := .mp _ _) hr.wr hb3 hH hno _ ⟨_, (set_facts hb3 _).1, ?_⟩) (.any _) hK
   rw [Array.toList_modify]
   exact hm.mono fun x u h => VR.blk hr.wr hb3 hH hno _ h
 ·exact h.elim
end Go.Proofs.YtfaodacmdlnabaaGreatDoor.M
namespace Go.Proofs.YtfaodacmdlnabaaGreatDoor.M
open Go.RowKit
set_option linter.unusedVariables false
set_option linter.unusedSimpArgs false
variable {P : Program} {W : World} {S : Nat → Prop} {w : World} {N : Nat} {s : AState} {a : Act} {Q : Exit → Act → World → Prop}
theorem Sub.del (H : AHeap) (g : Nat) : Sub (H.del g) H := fun b o h => by
 unfold AHeap.del at h
 split at h
 ·cases h
 ·exact h
theorem zeroCells_size (z : Array Value) (n : Nat) : (Builtin.zeroCells z n).size = n * z.size := by simp [Builtin.zeroCells]
/-- An append that makes a new row. -/
theorem app_grow {H H2 : AHeap} (hw : WR W S H w) (hs : Sub H2 H) {t tx ty E : TypeId} {i : TypeInfo} {z : Value} (ht : P.underlying t = some (.slice E)) (hi : P.info? E = some i) (hz : i.zero = some z) (hzs : z.cells.size = i.size) (hby : 0 < i.bytes)
  {base : Option Addr} {n c : Nat} {olds news : List Value} {orows new : List (List AVal)} (hol : orows.length = n) (hold : (Builtin.firstCells i.size n (.slice base n c)).run P w.drew = .ok olds.toArray w.drew) (h1 : Rowed S w i.size orows olds) {u : Value} (hsrc : Src P i.size tx u new.length news w) (h2 : Rowed S w i.size new news)
  (hg : c < n + new.length) (hbd : (n + new.length) * i.bytes ≤ 140737488355328) :
  ∃ cap w1, (Builtin.append_ #[t, tx] ty #[.slice base n c, u]).run P w = .ok (.slice (some ⟨w.heap.size, 0, none⟩) (n + new.length) cap) w1 ∧
   (Ext S H w S (H2.put w.heap.size (.buf E i.size (orows ++ new))) w1 ∧ WR W S (H2.put w.heap.size (.buf E i.size (orows ++ new))) w1) ∧ VR S w1 (.bs w.heap.size i.size (n + new.length)) (.slice (some ⟨w.heap.size, 0, none⟩) (n + new.length) cap) ∧ Quiet w w1 := by
 have hn : n + new.length ≤ 140737488355328 := by
  have : (n + new.length) * 1 ≤ (n + new.length) * i.bytes := Nat.mul_le_mul_left _ hby
  omega
 have hcapb : Builtin.nextslicecap (n + new.length) c * i.bytes ≤ 281474976710656 := by
  have := nextslicecap_le hg
  have h3 : Builtin.nextslicecap (n + new.length) c * i.bytes ≤ (2 * (n + new.length)) * i.bytes := Nat.mul_le_mul_right _ this
  rw [Nat.mul_assoc] at h3
  omega
 have hrun := run_append_grow_src (P := P) w t tx ty E i z ht hi hz base n c olds hold u new.length news hsrc hg (by omega) hcapb
 have hge := grownCap_ge w (n + new.length) c E
 have hle := grownCap_le_maxLen w (n + new.length) c E (by unfold maxLen; omega)
 generalize hcap : grownCap w (n + new.length) c E = cap at hrun hge hle
 obtain ⟨f1, f2, f3, f4, f5, f6⟩ := alloc_facts w.drew (.cells ((olds ++ news).toArray ++ Builtin.zeroCells z.cells (cap - (n + new.length))) E)
 replace f5 : ∀ b, b < w.heap.size → (w.drew.alloc (.cells ((olds ++ news).toArray ++ Builtin.zeroCells z.cells (cap - (n + new.length))) E)).heap[b]? = w.heap[b]? := f5
 have h12 := h1.append h2
 have hlen : (orows ++ new).length = n + new.length := by simp [hol]
 have hq : ∀ x u, VR S w x u → VR S (w.drew.alloc (.cells ((olds ++ news).toArray ++ Builtin.zeroCells z.cells (cap - (n + new.length))) E)) x u := fun x u hv =>
  hv.keep (fun b hS => ⟨hS, f5 b (hw.lt b hS)⟩) (fun b m ⟨cur, E', fz, h1, h2⟩ => ⟨cur, E', fz, (f5 b (lt_of_some h1)).trans h1, h2⟩)
 have hcs : (olds ++ news).length = (n + new.length) * i.size := by rw [h12.1, hlen]
 have hsize : ((olds ++ news).toArray ++ Builtin.zeroCells z.cells (cap - (n + new.length))).size = cap * i.size := by
  rw [Array.size_append, List.size_toArray, hcs, zeroCells_size, hzs, ← Nat.add_mul]
  congr 1; omega
 refine ⟨cap, _, hrun, own_step hw f1 f2 f3 (by rw [f4]; exact Nat.le_succ _) (.inr (Nat.le_refl _)) (fun b hb _ => f5 b hb) (fun m ⟨cur, E', fz, h1, _⟩ => absurd (lt_of_some h1) (Nat.lt_irrefl _)) hs ?_, .bs hge hle ⟨_, E, (0, 0), f6, by rw [hsize]; exact Nat.le_refl _⟩, by rw [f4]; exact Nat.le_succ _, f5⟩
 refine Rowed.to_buf (c := cap) f6 hsize (by omega) hle (Soft.new f6) (cs := olds ++ news) (fun k hk => ?_) (h12.keep hq)
 rw [Array.getElem?_append_left (by simpa using hk)]
 simp
/-- An append with room. -/
theorem app_room {H : AHeap} (hw : WR W S H w) {t tx ty E : TypeId} {i : TypeInfo} (ht : P.underlying t = some (.slice E)) (hi : P.info? E = some i) {g n c : Nat} {rows new : List (List AVal)} (hb : H g = some (.buf E i.size rows)) (hn : n ≤ rows.length) (hwd : Wide w g (c * i.size)) (hcm : c ≤ maxLen)
  {u : Value} {news : List Value} (hsrc : Src P i.size tx u new.length news w) (h2 : Rowed S w i.size new news) (hroom : n + new.length ≤ c) :
  ∃ w1, (Builtin.append_ #[t, tx] ty #[.slice (some ⟨g, 0, none⟩) n c, u]).run P w = .ok (.slice (some ⟨g, 0, none⟩) (n + new.length) c) w1 ∧
   (Ext S H w S ((H.del g).put g (.buf E i.size (rows.take n ++ new))) w1 ∧ WR W S ((H.del g).put g (.buf E i.size (rows.take n ++ new))) w1) ∧ VR S w1 (.bs g i.size (n + new.length)) (.slice (some ⟨g, 0, none⟩) (n + new.length) c) := by
 obtain ⟨cur, fz, c', e1, e2, e3, e4, e5, e6⟩ := Rowed.of_buf hw hb
 have hwd2 : c * i.size ≤ cur.size := by obtain ⟨cur2, E2, fz2, h7, h8⟩ := hwd; rw [e1] at h7; cases h7; exact h8
 have hnl : news.length = new.length * i.size := hsrc.newsLen
 have hfit : n * i.size + news.length ≤ c * i.size := by rw [hnl, ← Nat.add_mul]; exact Nat.mul_le_mul_right _ hroom
 have hrun := run_append_room_src (P := P) w t tx ty E i ht hi g 0 n c u new.length news hsrc hroom (fun j hj => by rw [cell_at e1]; simp; omega) (fun j hj => e5 _ (by omega))
 rw [Nat.zero_add] at hrun
 obtain ⟨f1, f2, f3, f4, f5, cur', f6, f7⟩ := setCells_facts g news (n * i.size) w cur E fz e1 (by omega)
 have hsz' : cur'.size = cur.size := by have := congrArg List.length f7; simp at this; omega
 have hwide : ∀ m, Wide w g m → Wide (w.setCells g (n * i.size) news) g m := fun m ⟨cur2, E2, fz2, h7, h8⟩ => by
  rw [e1] at h7; cases h7
  exact ⟨cur', E, fz, f6, by omega⟩
 have hq : ∀ x u, VR S w x u → VR S (w.setCells g (n * i.size) news) x u := fun x u hv =>
  hv.keep (fun b hS => ⟨hS, f5 b (fun e => by subst e; exact hw.apart _ _ hb hS)⟩) (wide_of (fun b _ hb => f5 b hb) hwide)
 have h6 := e6.take n hn
 have h12 := h6.append h2
 have hle1 : n * i.size ≤ rows.length * i.size := Nat.mul_le_mul_right _ hn
 have hle2 : rows.length * i.size ≤ c' * i.size := Nat.mul_le_mul_right _ e3
 have e8 : (cur.toList.take (rows.length * i.size)).take (n * i.size) = cur.toList.take (n * i.size) := by rw [List.take_take, Nat.min_eq_left hle1]
 rw [e8] at h12
 refine ⟨_, hrun, own_step hw f1 f2 f3 (by omega) (.inl (by simp [hb])) (fun b _ hb => f5 b hb) hwide (Sub.del H g) ?_, .bs hroom hcm (hwide _ hwd)⟩
 have hlen : (rows.take n ++ new).length = n + new.length := by simp; omega
 have hc' : n + new.length ≤ c' ∨ i.size = 0 := by
  by_cases h0 : i.size = 0
  ·exact .inr h0
  ·left
   have : (n + new.length) * i.size ≤ c' * i.size := by rw [← e2, Nat.add_mul, ← hnl]; omega
   exact Nat.le_of_mul_le_mul_right this (Nat.pos_of_ne_zero h0)
 have hmain : ∀ c2, cur'.size = c2 * i.size → n + new.length ≤ c2 → c2 ≤ maxLen → OR S (w.setCells g (n * i.size) news) g (.buf E i.size (rows.take n ++ new)) := fun c2 hc2 h7 h8 => by
  refine Rowed.to_buf (c := c2) f6 hc2 (by omega) h8 (fun o ho => by rw [World.frozen?_setCells]; exact e5 o (by omega)) (cs := cur.toList.take (n * i.size) ++ news) (fun k hk => ?_) (h12.keep hq)
  rw [← Array.getElem?_toList, f7, List.getElem?_append_left hk]
 rcases hc' with h7 | h7
 ·exact hmain c' (by omega) h7 e4
 ·exact hmain c (by rw [hsz', e2, h7]; simp) hroom hcm
theorem app_none {t tx ty E : TypeId} {i : TypeInfo} (ht : P.underlying t = some (.slice E)) (hi : P.info? E = some i) {A : Option Addr} {n c : Nat} (hnc : n ≤ c) {u : Value} (hsrc : Src P i.size tx u 0 [] w) : (Builtin.append_ #[t, tx] ty #[.slice A n c, u]).run P w = .ok (.slice A n c) w := by
 have hc := hsrc.cells
 have hl := hsrc.len
 rcases hsrc.kind with ⟨e', hk⟩ | hk <;> cases A <;>
  simp [Builtin.append_, Sem.run_bind, run_underlying ht, run_underlying hk, sizeOf, typeInfo, hi, hl, hnc, hc, storeCells]
theorem app_both (hr : SR W N S s a w) {o : Oper} (hd : dstOk N o.dst = true) {args : Array Operand} {ts : Array TypeId} (ho : o.op = .call ⟨.builtin .append, args, ts⟩) {m : AE} (hc : compE P o.op = some m) {K : AState → Prop} (h : aeff P W m o.dst s K) : o.wp P a w (fun a' w' => Then W N S s w K a' w' ∧ (growsA (ev s.tm (args.getD 0 (.const undef))) = true → Quiet w w')) Q := by
 rw [ho] at hc
 simp only [compE] at hc
 split at hc
 ·rename_i x y t tx hargs hts
  obtain rfl : args = #[x, y] := by cases args; simp_all
  obtain rfl : ts = #[t, tx] := by cases ts; simp_all
  split at hc
  ·rename_i E ht
   split at hc
   ·rename_i i hi
    split at hc
    ·rename_i z hz
     split at hc
     ·rename_i hcond
      obtain ⟨hzs, hsz, hby⟩ := hcond
      have hmk : ((∃ e', P.underlying tx = some (.slice e')) ∨ P.underlying tx = some .string) ∧ ∃ b, m = .app E i.size i.bytes b x y := by
       split at hc
       ·rename_i e' hk; cases hc; exact ⟨.inl ⟨_, hk⟩, _, rfl⟩
       ·rename_i hk; cases hc; exact ⟨.inr hk, _, rfl⟩
       ·cases hc
      obtain ⟨hk, b, rfl⟩ := hmk
      clear hc
      obtain ⟨new, hnew, h⟩ := h
      obtain ⟨news, hsrc, hrd⟩ := src_open hr.wr hnew (hr.ev y) hk
      have hex : ∀ {u v : Value} {w' : World}, a.eval x = u → (Builtin.append_ #[t, tx] o.type #[u, a.eval y]).run P w = .ok v w' → (execOp a.eval o).run P w = .ok (.value v) w' := fun he hrun => by
       simp [execOp, ho, resolve, invoke, builtin, Sem.run_bind, he, hrun]
      have hx := hr.ev x
      generalize hux : a.eval x = ux at hx
      have hga : (#[x, y] : Array Operand).getD 0 (.const undef) = x := rfl
      rw [hga]
      obtain ⟨hzero, h⟩ := h
      by_cases hn : new = []
      ·obtain ⟨hsl, h0⟩ := hzero hn
       subst hn
       have hnl := hsrc.newsLen
       obtain rfl : news = [] := by simpa using hnl
       have hsh : ∃ A n c, ux = .slice A n c ∧ n ≤ c := by
        unfold isSl at hsl
        split at hsl
        ·rename_i e; rw [e] at hx; cases hx; exact ⟨_, _, _, rfl, Nat.le_refl _⟩
        ·rename_i e; rw [e] at hx; cases hx with | @sl _ _ _ A c us hc => exact ⟨_, _, _, rfl, hc⟩
        ·rename_i e; rw [e] at hx; cases hx with | @bs _ _ _ c hc => exact ⟨_, _, _, rfl, hc⟩
        ·rename_i e; rw [e] at hx; cases hx with | @bv _ _ _ _ _ c A hA hc => exact ⟨_, _, _, rfl, hc⟩
        ·cases hsl
       obtain ⟨A, n, c, rfl, hnc⟩ := hsh
       exact wp_value (hex hux (app_none ht hi hnc hsrc)) ⟨then_put hr hd ⟨Ext.refl _ _ _, hr.wr⟩ hx h0, fun _ => Quiet.refl w⟩
      ·have h := h hn
       have hpos : 0 < new.length := List.length_pos_iff.2 hn
       split at h
       ·rename_i e
        rw [e] at hx
        cases hx
        obtain ⟨hbd, h⟩ := h
        obtain ⟨cap, w1, hrun, hx, hv, hqt⟩ := app_grow hr.wr (Sub.refl _) (ty := o.type) ht hi hz hzs hby (orows := []) (n := 0) (c := 0) (base := none) (olds := []) rfl rfl ⟨by simp, fun i hi => by simp at hi, fun i hi => by simp at hi, fun i hi => by simp at hi⟩ hsrc hrd (by omega) (by simpa using hbd)
        simp only [Nat.zero_add, List.nil_append] at hrun hx hv hqt
        exact wp_value (hex hux hrun) ⟨then_put hr hd hx hv (h _ hr.wr.fresh), fun _ => hqt⟩
       ·rename_i sz' rows e
        obtain ⟨⟨rfl, hbd⟩, h⟩ := h
        rw [e] at hx
        have hsx : srcOf s.H i.size (.sl true i.size rows) = some rows := by simp [srcOf]
        obtain ⟨olds, hsrc2, hrd2⟩ := src_open hr.wr hsx hx (tx := t) (.inl ⟨E, ht⟩)
        cases hx with
        | @sl _ _ _ A c us hc hm hf hb hl ho' hh =>
        have hcl := hf rfl
        obtain ⟨cap, w1, hrun, hx, hv, hqt⟩ := app_grow hr.wr (Sub.refl _) (ty := o.type) ht hi hz hzs hby (orows := rows) (n := rows.length) (c := c) (base := A) (olds := olds) rfl hsrc2.cellsD hrd2 hsrc hrd (by omega) hbd
        exact wp_value (hex hux hrun) ⟨then_put hr hd hx hv (h _ hr.wr.fresh), fun _ => hqt⟩
       ·rename_i g sz' n e
        split at h
        ·rename_i E' sz2 rows hb
         obtain ⟨⟨rfl, rfl, rfl, hle, hbd⟩, h⟩ := h
         rw [e] at hx
         have hsx : srcOf s.H i.size (.bs g i.size n) = some (rows.take n) := by simp [srcOf, hb, hle]
         obtain ⟨olds, hsrc2, hrd2⟩ := src_open hr.wr hsx hx (tx := t) (.inl ⟨E, ht⟩)
         have hlen : (rows.take n).length = n := by simp; omega
         rw [hlen] at hsrc2
         cases hx with
         | @bs _ _ _ c hnc hcm hwd =>
         by_cases hroom : n + new.length ≤ c
         ·obtain ⟨w1, hrun, hx, hv⟩ := app_room hr.wr (ty := o.type) ht hi hb hle hwd hcm hsrc hrd hroom
          exact wp_value (hex hux hrun) ⟨then_put hr hd hx hv (h g (by simp [AHeap.del])), fun e9 => by rw [e] at e9; cases e9⟩
         ·obtain ⟨cap, w1, hrun, hx, hv, hqt⟩ := app_grow hr.wr (Sub.del s.H g) (ty := o.type) ht hi hz hzs hby (orows := rows.take n) (n := n) (c := c) (base := some ⟨g, 0, none⟩) (olds := olds) hlen hsrc2.cellsD hrd2 hsrc hrd (by omega) hbd
          refine wp_value (hex hux hrun) ⟨then_put hr hd hx hv (h _ ?_), fun _ => hqt⟩
          have := hr.wr.fresh
          unfold AHeap.del
          split
          ·rfl
          ·exact this
        ·exact h.elim
       ·rename_i g sz' lo n e
        split at h
        ·rename_i E' sz2 rows hb
         obtain ⟨⟨rfl, rfl, hle, hbd⟩, h⟩ := h
         rw [e] at hx
         have hsx : srcOf s.H i.size (.bv true g i.size lo n) = some ((rows.drop lo).take n) := by simp [srcOf, hb, hle]
         obtain ⟨olds, hsrc2, hrd2⟩ := src_open hr.wr hsx hx (tx := t) (.inl ⟨E, ht⟩)
         have hlen : ((rows.drop lo).take n).length = n := by simp; omega
         rw [hlen] at hsrc2
         cases hx with
         | @bv _ _ _ _ _ c A hA hnc hcm hf =>
         have hcl := hf rfl
         obtain ⟨cap, w1, hrun, hx, hv, hqt⟩ := app_grow hr.wr (Sub.refl _) (ty := o.type) ht hi hz hzs hby (orows := (rows.drop lo).take n) (n := n) (c := c) (base := some A) (olds := olds) hlen hsrc2.cellsD hrd2 hsrc hrd (by omega) hbd
         exact wp_value (hex hux hrun) ⟨then_put hr hd hx hv (h _ hr.wr.fresh), fun _ => hqt⟩
        ·exact h.elim
       ·exact h.elim
     ·cases hc
    ·cases hc
   ·cases hc
  ·cases hc
 ·cases hc

theorem app_sound (hr : SR W N S s a w) {o : Oper} (hd : dstOk N o.dst = true) {args : Array Operand} {ts : Array TypeId} (ho : o.op = .call ⟨.builtin .append, args, ts⟩) {m : AE} (hc : compE P o.op = some m) {K : AState → Prop} (h : aeff P W m o.dst s K) : o.wp P a w (Then W N S s w K) Q :=
 Oper.wp_mono (fun _ _ h => h.1) (app_both hr hd ho hc h)
theorem compE_app {args : Array Operand} {ts : Array TypeId} {m : AE} (hc : compE P (.call ⟨.builtin .append, args, ts⟩) = some m) : ∃ E sz b st x y, m = .app E sz b st x y ∧ args.getD 0 (.const undef) = x := by
 simp only [compE] at hc
 split at hc
 ·rename_i x y t tx hargs hts
  obtain rfl : args = #[x, y] := by cases args; simp_all
  split at hc
  ·split at hc
   ·split at hc
    ·split at hc
     ·split at hc
      ·cases hc; exact ⟨_, _, _, _, _, _, rfl, rfl⟩
      ·cases hc; exact ⟨_, _, _, _, _, _, rfl, rfl⟩
      ·cases hc
     ·cases hc
    ·cases hc
   ·cases hc
  ·cases hc
 ·cases hc
theorem bytes_cells (t : ByteArray) (k : Nat) (hk : k < t.size) : (byteCells t)[k]? = some (.int .u8 ((t.data.toList.getD k 0).toNat : Int)) := by
 have h2 : t.data.toList[k]? = some (t.data.toList[k]'(by rw [Array.length_toList]; exact hk)) := List.getElem?_eq_getElem _
 rw [byteCells, List.getElem?_map, h2, List.getD, h2]
 rfl
theorem s2b_sound (hr : SR W N S s a w) {o : Oper} (hd : dstOk N o.dst = true) {t1 t2 E : TypeId} {x : Operand} (ho : o.op = .convert t1 t2 x) (h1 : P.underlying t1 = some .string) (h2 : P.underlying t2 = some (.slice E)) (h3 : P.underlying E = some (.int .u8)) {K : AState → Prop}
  (h : aeff P W (.s2b E x) o.dst s K) : o.wp P a w (ThenQ W N S s w K) Q := by
 simp only [aeff] at h
 have hx := hr.ev x
 generalize hux : a.eval x = ux at hx
 split at h
 ·rename_i t e
  rw [e] at hx
  cases hx
  obtain ⟨hb, h⟩ := h
  have hrun := Go.Lib.run_convert_string_bytes (P := P) w t1 t2 E t h1 h2 h3
  have hge := grownCap_ge w t.size 0 E
  have hle := grownCap_le_maxLen w t.size 0 E (by unfold maxLen; omega)
  have f4 := Go.Lib.bytesWorld_size w E t
  have f6 := Go.Lib.bytesWorld_at_new w E t
  have f5 : ∀ b, b < w.heap.size → (Go.Lib.bytesWorld w E t).heap[b]? = w.heap[b]? := fun b hb => Go.Lib.bytesWorld_at_old w E t b hb
  have hbl : (bytesOf t).length = t.size := by unfold bytesOf; rw [List.length_map, Array.length_toList]; rfl
  have hcsz : (Go.Lib.bytesCells w E t).size = grownCap w t.size 0 E * 1 := by
   simp [Go.Lib.bytesCells]
   have : t.data.size = t.size := rfl
   omega
  have hor : OR S (Go.Lib.bytesWorld w E t) w.heap.size (.buf E 1 (bytesOf t)) := by
   refine Rowed.to_buf (c := grownCap w t.size 0 E) f6 hcsz (by omega) hle (fun o ho => ?_) (cs := byteCells t) (fun k hk => ?_) (Rowed.bytes t)
   ·simp [World.frozen?, f6]; omega
   ·rw [byteCells_length] at hk
    have := Go.Lib.bytesWorld_cell w E t k hk
    rw [cell_at f6] at this
    rw [this, bytes_cells t k hk]
  refine wp_value (u := .slice (some ⟨w.heap.size, 0, none⟩) t.size (grownCap w t.size 0 E)) (w' := Go.Lib.bytesWorld w E t) ?_ ?_
  ·simp [execOp, ho, hux, Sem.run_bind, hrun]
  ·exact ⟨then_put hr hd (own_new (w' := Go.Lib.bytesWorld w E t) hr.wr rfl rfl rfl f4 f5 hor) (.bs hge hle ⟨_, E, _, f6, by omega⟩) (h _ hr.wr.fresh), by omega, f5⟩
 ·exact h.elim
theorem push_fold : ∀ (l : List UInt8) (s : ByteArray), ((l.map fun b => (b.toNat : Int)).foldl (fun r n => r.push (UInt8.ofNat n.toNat)) s).data.toList = s.data.toList ++ l
 | [], s => by simp
 | b :: l, s => by
  rw [List.map_cons, List.foldl_cons, push_fold l]
  simp [ByteArray.push]
theorem b2s_sound (hr : SR W N S s a w) {o : Oper} (hd : dstOk N o.dst = true) {t1 t2 E : TypeId} {x : Operand} (ho : o.op = .convert t1 t2 x) (h1 : P.underlying t1 = some (.slice E)) (h2 : P.underlying t2 = some .string) (h3 : P.underlying E = some (.int .u8)) {K : AState → Prop}
  (h : aeff P W (.b2s x) o.dst s K) : o.wp P a w (ThenQ W N S s w K) Q := by
 obtain ⟨hisl, rows, bs, hs, rfl, hk⟩ := h
 have hx := hr.ev x
 have hbl : (bytesOf bs).length = bs.size := by unfold bytesOf; rw [List.length_map, Array.length_toList]; rfl
 have key : ∀ (A : Option Addr) (n c : Nat), a.eval x = .slice A n c → (convert t1 t2 (.slice A n c)).run P w = .ok (.string bs) w → o.wp P a w (ThenQ W N S s w K) Q := fun A n c he hrun =>
  wp_value (by simp [execOp, ho, he, Sem.run_bind, hrun]) ⟨then_put hr hd ⟨Ext.refl _ _ _, hr.wr⟩ (.v _) hk, Quiet.refl w⟩
 obtain ⟨news, hsrc, hrd⟩ := src_open hr.wr hs hx (tx := t1) (.inl ⟨E, h1⟩)
 have hnews : news = (bs.data.toList.map fun b => (b.toNat : Int)).map (Value.int .u8) := by
  refine List.ext_getElem (by rw [hrd.1, hbl]; simp) fun k hk1 hk2 => ?_
  have hk3 : k < (bytesOf bs).length := by rw [hrd.1] at hk1; omega
  obtain ⟨u, hu, hv⟩ := hrd.2.2.2 k hk3 0 (by rw [hrd.2.1 k hk3]; omega)
  rw [Nat.mul_one, Nat.add_zero, List.getElem?_eq_getElem hk1] at hu
  cases hu
  have e : (bytesOf bs)[k][0]'(by rw [hrd.2.1 k hk3]; omega) = .v (.int .u8 ((bs.data.toList[k]'(by simp at hk2; simpa using hk2)).toNat : Int)) := by simp [bytesOf]
  rw [e] at hv
  generalize news[k] = nk at hv ⊢
  cases hv
  simp
 have hlen := hsrc.len w
 have hcells := hsrc.cells
 have hfold : ((bs.data.toList.map fun b => (b.toNat : Int)).foldl (fun r n => r.push (UInt8.ofNat n.toNat)) ByteArray.empty) = bs := by
  have := push_fold bs.data.toList ByteArray.empty
  cases bs with
  | mk d =>
   generalize ((Array.toList d).map fun b => (b.toNat : Int)).foldl (fun r n => r.push (UInt8.ofNat n.toNat)) ByteArray.empty = r at this ⊢
   cases r with
   | mk d2 => congr 1; apply Array.ext'; simpa using this
 have hsl : ∃ A n c, a.eval x = .slice A n c := by
  generalize a.eval x = u at hx hsrc
  unfold srcOf at hs
  split at hs
  ·rename_i e; rw [e] at hx; cases hx; exact ⟨_, _, _, rfl⟩
  ·rename_i e; rw [e] at hx; cases hx; exact ⟨_, _, _, rfl⟩
  ·rename_i t e
   rw [e] at hisl
   cases hisl
  ·rename_i e; rw [e] at hx; cases hx; exact ⟨_, _, _, rfl⟩
  ·rename_i e; rw [e] at hx; cases hx; exact ⟨_, _, _, rfl⟩
  ·cases hs
 obtain ⟨A, n, c, he⟩ := hsl
 rw [he] at hlen hcells
 have hn : n = (bytesOf bs).length := by simpa [Builtin.lenOf] using hlen
 refine key A n c he ?_
 rw [run_convert_bytes_string w t1 t2 E A n c h1 h3 h2]
 cases A with
 | none =>
  have : bs = ByteArray.empty := by
   simp [Builtin.firstCells] at hcells
   rw [hnews] at hcells
   have h0 : bs.data.toList = [] := by
    cases e : bs.data.toList with
    | nil => rfl
    | cons b l => rw [e] at hcells; simp at hcells
   cases bs with
   | mk d => congr 1; apply Array.ext'; exact h0
  rw [this]; rfl
 | some A =>
  have hl : (loadCells A n).run P w = .ok ((bs.data.toList.map fun b => (b.toNat : Int)).map (Value.int .u8)).toArray w := by
   rw [← hnews, hn]
   simpa [Builtin.firstCells] using hcells
  rw [run_bytesToString w A n c _ hl, hfold]

theorem mks_open {o : Oper} {t : TypeId} {l c : Operand} (ho : o.op = .makeSlice t l c) {m : AE} (hc : compE P o.op = some m) : ∃ E i z, P.underlying t = some (.slice E) ∧ P.info? E = some i ∧ i.zero = some z ∧ i.size = 1 ∧ z.cells.size = 1 ∧ (z.cells.getD 0 undef).oneCell' = true ∧ sameO l c = true ∧ m = .mks E i.bytes (z.cells.getD 0 undef) l := by
 rw [ho] at hc
 simp only [compE] at hc
 split at hc
 ·rename_i E ht
  split at hc
  ·rename_i i hi
   split at hc
   ·rename_i z hz
    split at hc
    ·rename_i hcond; cases hc; exact ⟨E, i, z, ht, hi, hz, hcond.1, hcond.2.1, hcond.2.2.1, hcond.2.2.2, rfl⟩
    ·cases hc
   ·cases hc
  ·cases hc
 ·cases hc
theorem mks_sound (hr : SR W N S s a w) {o : Oper} (hd : dstOk N o.dst = true) {t : TypeId} {l c : Operand} (ho : o.op = .makeSlice t l c) {m : AE} (hc : compE P o.op = some m) {K : AState → Prop} (h : aeff P W m o.dst s K) : o.wp P a w (ThenQ W N S s w K) Q := by
 obtain ⟨E, i, z, ht, hi, hz, hi1, hz1, hone, hlc, rfl⟩ := mks_open ho hc
 simp only [aeff] at h
 have hx := hr.ev l
 have hec := sameO_eq (a := a) hlc
 generalize hux : a.eval l = ux at hx hec
 split at h
 ·rename_i kd n e
  rw [e] at hx
  cases hx
  obtain ⟨⟨h0, h1, h2⟩, h⟩ := h
  obtain ⟨k, rfl⟩ : ∃ k : Nat, n = k := ⟨n.toNat, by omega⟩
  rw [Int.toNat_natCast] at h
  have hrun := run_make (P := P) w t E i z ht hi hz kd kd (k : Int) (k : Int) h0 (Int.le_refl _) (by rw [Int.mul_comm]; omega) (by omega)
  rw [Int.toNat_natCast] at hrun
  obtain ⟨f1, f2, f3, f4, f5, f6⟩ := alloc_facts w (.cells (madeCells z.cells (k * i.size)) E)
  have hm1 : (madeCells z.cells (k * i.size)).size = k * 1 := by rw [size_madeCells, hi1]
  have hm2 : ∀ j, j < k → (madeCells z.cells (k * i.size))[j]? = some (z.cells.getD 0 undef) := fun j hj => by
   rw [hi1]; simp [madeCells, hz1, Nat.mod_one, hj]
  have hrd : Rowed S (w.alloc (.cells (madeCells z.cells (k * i.size)) E)) 1 (List.replicate k [AVal.v (z.cells.getD 0 undef)]) (List.replicate k (z.cells.getD 0 undef)) := by
   refine ⟨by simp, fun i hi => by simp, fun i hi j hj => ?_, fun i hi j hj => ?_⟩
   ·simp only [List.getElem_replicate, List.length_cons, List.length_nil] at hj ⊢
    obtain rfl : j = 0 := by omega
    exact hone
   ·simp only [List.getElem_replicate, List.length_cons, List.length_nil] at hj ⊢
    obtain rfl : j = 0 := by omega
    simp at hi
    exact ⟨_, by rw [Nat.mul_one, Nat.add_zero, List.getElem?_replicate, if_pos hi], .v _⟩
  have hor : OR S (w.alloc (.cells (madeCells z.cells (k * i.size)) E)) w.heap.size (.buf E 1 (List.replicate k [AVal.v (z.cells.getD 0 undef)])) := by
   refine Rowed.to_buf (c := k) f6 hm1 (by simp) (by unfold maxLen; omega) (Soft.new f6) (cs := List.replicate k (z.cells.getD 0 undef)) (fun j hj => ?_) hrd
   have hj : j < k := by simpa using hj
   rw [hm2 j hj, List.getElem?_replicate, if_pos hj]
  refine wp_value (u := .slice (some ⟨w.heap.size, 0, none⟩) k k) (w' := w.alloc (.cells (madeCells z.cells (k * i.size)) E)) ?_ ?_
  ·simp [execOp, ho, hux, ← hec, Sem.run_bind, hrun]
  ·exact ⟨then_put hr hd (own_new hr.wr f1 f2 f3 f4 f5 hor) (.bs (Nat.le_refl _) (by unfold maxLen; omega) ⟨_, E, _, f6, by rw [hm1]; exact Nat.le_refl _⟩) (h _ hr.wr.fresh), by omega, f5⟩
 ·exact h.elim
theorem cpy_sound (hr : SR W N S s a w) {o : Oper} (hd : dstOk N o.dst = true) {args : Array Operand} {ts : Array TypeId} (ho : o.op = .call ⟨.builtin .copy, args, ts⟩) {m : AE} (hc : compE P o.op = some m) {K : AState → Prop} (h : aeff P W m o.dst s K) : o.wp P a w (Then W N S s w K) Q := by
 rw [ho] at hc
 simp only [compE] at hc
 split at hc
 ·rename_i x y t u hargs hts
  obtain rfl : args = #[x, y] := by cases args; simp_all
  obtain rfl : ts = #[t, u] := by cases ts; simp_all
  split at hc
  ·rename_i E E2 ht hu
   split at hc
   ·rename_i i hi
    split at hc
    ·rename_i hpos
     cases hc
     simp only [aeff] at h
     have hx := hr.ev x
     generalize hux : a.eval x = ux at hx
     split at h
     ·rename_i g sz' n e
      split at h
      ·rename_i E3 sz2 rows hb
       obtain ⟨new, hnew, ⟨rfl, rfl, hrl, hnl⟩, h⟩ := h
       obtain ⟨news, hsrc, hrd⟩ := src_open hr.wr hnew (hr.ev y) (.inl ⟨E2, hu⟩)
       rw [e] at hx
       cases hx with
       | @bs _ _ _ c hnc hcm hwd =>
       obtain ⟨cur, fz, c', e1, e2, e3, e4, e5, e6⟩ := Rowed.of_buf hr.wr hb
       have hlen := hsrc.newsLen
       rw [hnl] at hlen hsrc
       have hle : n * i.size ≤ c' * i.size := Nat.mul_le_mul_right _ (by omega)
       have hst := run_storeCells_cells (P := P) g 0 news 0 w (fun j hj => by rw [cell_at e1]; simp at hj ⊢; omega) (fun j hj => e5 _ (by omega)) hsrc.one
       simp only [Nat.add_zero] at hst
       have hrun : (Builtin.copy_ #[t, u] o.type #[.slice (some ⟨g, 0, none⟩) n c, a.eval y]).run P w = .ok (goInt n) (w.setCells g 0 news) := by
        simp [Builtin.copy_, Sem.run_bind, run_underlying ht, hsrc.len, sizeOf, typeInfo, hi, hsrc.cells, hst]
       obtain ⟨f1, f2, f3, f4, f5, cur', f6, f7⟩ := setCells_facts g news 0 w cur E3 fz e1 (by omega)
       have hsz' : cur'.size = cur.size := by have := congrArg List.length f7; simp at this; omega
       have hwide : ∀ m, Wide w g m → Wide (w.setCells g 0 news) g m := fun m ⟨cur2, E2, fz2, h7, h8⟩ => by
        rw [e1] at h7; cases h7
        exact ⟨cur', E3, fz, f6, by omega⟩
       have hq : ∀ x u, VR S w x u → VR S (w.setCells g 0 news) x u := fun x u hv =>
        hv.keep (fun b hS => ⟨hS, f5 b (fun e => by subst e; exact hr.wr.apart _ _ hb hS)⟩) (wide_of (fun b _ hb => f5 b hb) hwide)
       refine wp_value (u := goInt n) (w' := w.setCells g 0 news) ?_ ?_
       ·simp [execOp, ho, resolve, invoke, builtin, Sem.run_bind, hux, hrun]
       ·refine then_put hr hd (own_step hr.wr f1 f2 f3 (by omega) (.inl (by simp [hb])) (fun b _ hb => f5 b hb) hwide (Sub.refl _) ?_) (.v _) h
        refine Rowed.to_buf (c := c') f6 (by omega) (by omega) e4 (fun o ho => by rw [World.frozen?_setCells]; exact e5 o (by omega)) (cs := news) (fun k hk => ?_) (hrd.keep hq)
        rw [← Array.getElem?_toList, f7, List.take_zero, List.nil_append, List.getElem?_append_left hk]
      ·exact h.elim
     ·exact h.elim
    ·cases hc
   ·cases hc
  ·cases hc
 ·cases hc
/-- A call taken as one that writes nothing that stands. -/
theorem sla_open {P : Program} {t : TypeId} {x : Operand} {lo hi mx : Option Operand} {m : AE} (hc : compE P (.slice t x lo hi mx) = some m) : ∃ n y, m = .sla n y := by
 cases lo <;> cases hi <;> cases mx <;> simp only [compE] at hc <;> first | (cases hc; done) | skip
 split at hc
 ·split at hc
  ·cases hc; exact ⟨_, _, rfl⟩
  ·cases hc
 ·cases hc
def AE.quiet : AE → AE
 | .call f xs => .callq f xs
 | .app E sz b sx x y => .appq E sz b sx x y
 | m => m
/-- ALL OPERATIONS THAT WRITE NOTHING THAT STANDS. -/
theorem aeff_quiet (hr : SR W N S s a w) {o : Oper} (hd : dstOk N o.dst = true) {m : AE} (hc : compE P o.op = some m) {K : AState → Prop} (hq : m.quiet.writes = false) (h : aeff P W m.quiet o.dst s K) : o.wp P a w (ThenQ W N S s w K) Q := by
 cases ho : o.op with
 | alloc E =>
  have : m.quiet = m := by
   rw [ho] at hc; simp only [compE] at hc; split at hc <;> (try split at hc) <;> cases hc; rfl
  rw [this] at h
  exact alloc_sound hr hd ho hc h
 | box E x =>
  have : m.quiet = m := by rw [ho] at hc; simp only [compE, Option.some.injEq] at hc; subst hc; rfl
  rw [this] at h
  exact box_sound hr hd ho hc h
 | buildSlice t len parts =>
  have : m.quiet = m := by
   rw [ho] at hc; simp only [compE] at hc; split at hc <;> (try split at hc) <;> (try split at hc) <;> cases hc; rfl
  rw [this] at h
  exact bsl_sound hr hd ho hc h
 | convert t1 t2 x =>
  rw [ho] at hc
  simp only [compE] at hc
  split at hc
  ·rename_i E h1 h2
   split at hc
   ·rename_i h3; cases hc; exact s2b_sound hr hd ho h1 h2 h3 h
   ·cases hc
  ·rename_i E h1 h2
   split at hc
   ·rename_i h3; cases hc; exact b2s_sound hr hd ho h1 h2 h3 h
   ·cases hc
  ·cases hc
 | call c =>
  obtain ⟨cl, args, ts⟩ := c
  cases cl with
  | builtin b =>
   cases b with
   | append =>
    obtain ⟨E, sz, b, st, x, y, rfl, hx0⟩ := compE_app (by rw [ho] at hc; exact hc)
    obtain ⟨hgr, h⟩ := h
    have h2 : aeff P W (.app E sz b st x y) o.dst s K := h
    exact Oper.wp_mono (fun _ _ h => ⟨h.1, h.2 (by rw [hx0]; exact hgr)⟩) (app_both hr hd ho hc h2)
   | delete =>
    rw [ho] at hc
    simp only [compE] at hc
    split at hc
    ·split at hc
     ·simp only [Option.map_eq_some_iff] at hc; obtain ⟨n, _, rfl⟩ := hc; cases hq
     ·cases hc
    ·cases hc
   | copy =>
    rw [ho] at hc
    simp only [compE] at hc
    split at hc
    ·split at hc
     ·split at hc
      ·split at hc <;> cases hc
       cases hq
      ·cases hc
     ·cases hc
    ·cases hc
   | _ => rw [ho] at hc; simp [compE] at hc
  | invoke r m => rw [ho] at hc; simp only [compE, Option.some.injEq] at hc; subst hc; cases hq
  | value f =>
   cases f with
   | func fid =>
    rw [ho] at hc
    simp only [compE] at hc
    split at hc
    ·rename_i hcb
     cases hc
     refine callq_sound hr hd hcb (vs := (args.toList.map a.eval).toArray) (fun w => ?_) (evs hr) h
     have e : (args.toList.map a.eval).toArray = args.map a.eval := by apply Array.ext'; simp
     simp [execOp, ho, resolve, Deferred.ofValue, Act.eval, invoke, Sem.run_bind, e]
    ·cases hc
   | tmp k => rw [ho] at hc; simp only [compE, Option.some.injEq] at hc; subst hc; cases hq
   | const v => rw [ho] at hc; simp only [compE, Option.some.injEq] at hc; subst hc; cases hq
   | «global» g => rw [ho] at hc; simp only [compE, Option.some.injEq] at hc; subst hc; cases hq
 | binOp op t x y yt =>
  have : m.quiet = m := by
   rw [ho] at hc; simp only [compE] at hc; split at hc <;> cases hc <;> rfl
  rw [this] at h
  exact (niq_sound hr hd ho hc h).1
 | store t x y => rw [ho] at hc; simp only [compE, Option.map_eq_some_iff] at hc; obtain ⟨n, _, rfl⟩ := hc; cases hq
 | makeMap t r => rw [ho] at hc; simp only [compE] at hc; split at hc <;> cases hc; cases hq
 | mapUpdate t x i v =>
  rw [ho] at hc
  simp only [compE] at hc
  split at hc
  ·simp only [Option.map_eq_some_iff] at hc; obtain ⟨n, _, rfl⟩ := hc; cases hq
  ·cases hc
 | insert t x i v =>
  rw [ho] at hc
  simp only [compE] at hc
  split at hc
  ·simp only [Option.map_eq_some_iff] at hc; obtain ⟨n, _, rfl⟩ := hc; cases hq
  ·cases hc
 | makeSlice t l c =>
  have : m.quiet = m := by
   obtain ⟨_, _, _, _, _, _, _, _, _, _, rfl⟩ := mks_open ho hc; rfl
  rw [this] at h
  exact mks_sound hr hd ho hc h
 | range t x => rw [ho] at hc; simp only [compE] at hc; split at hc <;> cases hc <;> cases hq
 | next x b => rw [ho] at hc; simp only [compE] at hc; split at hc <;> cases hc <;> cases hq
 | mapEntry t x i =>
  rw [ho] at hc
  simp only [compE] at hc
  split at hc
  ·split at hc
   ·split at hc <;> cases hc; cases hq
   ·cases hc
  ·cases hc
 | entryStore t x n v => rw [ho] at hc; simp only [compE, Option.some.injEq] at hc; subst hc; cases hq
 | slice t x lo hi mx =>
  obtain ⟨n, y, rfl⟩ := sla_open (ho ▸ hc)
  cases hq
 | _ => rw [ho] at hc; simp [compE] at hc
theorem method_run {t : TypeId} {name : String} {f : FuncId} (h : methA P t name = some f) (u : Value) (w : World) : (method (P.types.size + Made.depth) t u name).run P w = .ok (f, u) w := by
 obtain ⟨n, hn⟩ : ∃ n, P.types.size + Made.depth = n + 1 := ⟨P.types.size + 99, rfl⟩
 rw [hn]
 unfold methA at h
 split at h
 ·rename_i i hi
  split at h
  ·rename_i m hm
   split at h
   ·rename_i hp hf hu
    cases h
    simp [method, Sem.run_bind, typeInfo, hi, hm, hp, follow, hf, receiverAt, run_underlying hu, Place.get]
   ·cases h
   ·rename_i hnp hp hf hu
    cases h
    have hrun := run_underlying hu w
    simp only [method, Sem.run_bind, typeInfo, run_program, Result.andThen_ok, hi, hm, hp, follow, hf, receiverAt, hrun, Place.get, Sem.run_pure]
   ·cases h
  ·cases h
 ·cases h
theorem sla_sound (hr : SR W N S s a w) {o : Oper} (hd : dstOk N o.dst = true) {t : TypeId} {x : Operand} {lo hi mx : Option Operand} (ho : o.op = .slice t x lo hi mx) {m : AE} (hc : compE P o.op = some m) {K : AState → Prop} (h : aeff P W m o.dst s K) : o.wp P a w (Then W N S s w K) Q := by
 rw [ho] at hc
 cases lo <;> cases hi <;> cases mx <;> simp only [compE] at hc <;> first | (cases hc; done) | skip
 split at hc
 ·rename_i n el hte
  split at hc
  ·rename_i hsz
   cases hc
   simp only [aeff] at h
   have hx := hr.ev x
   generalize hux : a.eval x = ux at hx
   split at h
   ·rename_i b e1
    rw [e1] at hx
    cases hx
    split at h
    ·rename_i E cs hb
     obtain ⟨⟨hl, hmx⟩, h⟩ := h
     obtain ⟨cur, fz, h1, h2, h3, h4, h5⟩ := hr.wr.objs _ _ hb
     have hdel : Sub (s.H.del b) s.H := fun c o hco => by
      unfold AHeap.del at hco
      split at hco
      ·cases hco
      ·exact hco
     obtain ⟨g1, g2⟩ := less_ext hr.wr hdel
     obtain ⟨i, hi, hz⟩ : ∃ i, P.info? el = some i ∧ i.size = 1 := by
      unfold szOf at hsz; cases e' : P.info? el <;> simp_all
     have hrun : (Instr.sliceAt t (.pointer (some ⟨b, 0, none⟩)) none none none).run P w = .ok (.slice (some ⟨b, 0, none⟩) n n) w := by
      simp [Instr.sliceAt, Instr.sureAddr, Instr.sliceBounds, Sem.run_bind, run_underlying hte, sizeOf, typeInfo, hi, Addr.add]
     refine wp_value (u := .slice (some ⟨b, 0, none⟩) n n) (w' := w) ?_ ?_
     ·simp [execOp, ho, Sem.run_bind, hux, hrun]
     ·refine then_put hr hd ⟨g1, g2⟩ ?_ h
      have hlen : (cs.map fun c => [c]).length = n := by simp [hl]
      rw [← hlen]
      refine .sl (fun i j => cur.getD i undef) (Nat.le_refl _) (by rw [hlen]; exact hmx) (fun _ => rfl) (.inr ⟨b, 0, rfl, .inr ⟨by rw [hb]; simp, by simp [AHeap.del]⟩, fun i j hi hj => ?_⟩) (fun i hi => by simp) (fun i hi j hj => ?_) (fun i hi j hj => ?_)
      ·obtain rfl : j = 0 := by omega
       simp only [List.length_map] at hi
       have hi2 : i < cur.size := by omega
       rw [cell_at h1]
       simp [hi2]
      ·simp at hi hj ⊢
       exact h4 i hi
      ·simp only [List.length_map] at hi
       have hi2 : i < cur.size := by omega
       have := h5 i hi hi2
       have e2 : j = 0 := by simp at hj; exact hj
       subst e2
       simp only [List.getElem_map, List.getElem_cons_zero]
       have e3 : cur.getD i undef = cur[i] := by simp [hi2]
       rw [e3]
       exact this.keep (fun c hc => ⟨.inl hc, rfl⟩) (fun _ _ h => h)
    ·exact h.elim
   ·exact h.elim
  ·cases hc
 ·cases hc
/-- ALL OPERATIONS THAT WRITE. -/
theorem aeff_sound (hr : SR W N S s a w) {o : Oper} (hd : dstOk N o.dst = true) {m : AE} (hc : compE P o.op = some m) {K : AState → Prop} (h : aeff P W m o.dst s K) : o.wp P a w (Then W N S s w K) Q := by
 cases ho : o.op with
 | alloc E => exact Oper.wp_mono (fun _ _ h => h.1) (alloc_sound hr hd ho hc h)
 | box E x => exact Oper.wp_mono (fun _ _ h => h.1) (box_sound hr hd ho hc h)
 | buildSlice t len parts => exact Oper.wp_mono (fun _ _ h => h.1) (bsl_sound hr hd ho hc h)
 | store t x y => exact st_sound hr hd ho hc h
 | convert t1 t2 x =>
  rw [ho] at hc
  simp only [compE] at hc
  split at hc
  ·rename_i E h1 h2
   split at hc
   ·rename_i h3; cases hc; exact Oper.wp_mono (fun _ _ h => h.1) (s2b_sound hr hd ho h1 h2 h3 h)
   ·cases hc
  ·rename_i E h1 h2
   split at hc
   ·rename_i h3; cases hc; exact Oper.wp_mono (fun _ _ h => h.1) (b2s_sound hr hd ho h1 h2 h3 h)
   ·cases hc
  ·cases hc
 | call c =>
  obtain ⟨cl, args, ts⟩ := c
  cases cl with
  | builtin b =>
   cases b with
   | append => exact app_sound hr hd ho hc h
   | copy => exact cpy_sound hr hd ho hc h
   | delete =>
    rw [ho] at hc
    simp only [compE] at hc
    split at hc
    ·rename_i x i t u e1 e2
     split at hc
     ·rename_i k e ht
      simp only [Option.map_eq_some_iff] at hc
      obtain ⟨kc, hkc, rfl⟩ := hc
      obtain rfl : args = #[x, i] := by cases args; simp_all
      obtain rfl : ts = #[t, u] := by cases ts; simp_all
      exact del_sound hr hd ht hkc ho h
     ·cases hc
    ·cases hc
   | _ => rw [ho] at hc; simp [compE] at hc
  | invoke r mn =>
   rw [ho] at hc
   simp only [compE, Option.some.injEq] at hc
   subst hc
   simp only [aeff] at h
   have hx := hr.ev r
   split at h
   ·rename_i t y e
    obtain ⟨f, hm, hcb, h⟩ := h
    rw [e] at hx
    generalize hux : a.eval r = ux at hx
    cases hx with
    | @ifc _ _ u hu =>
    refine call_sound hr hd hcb (vs := #[u] ++ args.map a.eval) (fun w => ?_) ⟨?_, fun i hi hi' => ?_⟩ h
    ·have := method_run hm u w
     simp only [execOp, ho, resolve, hux, Sem.run_bind, Sem.run_pure, Result.andThen_ok, invoke]
     have e0 : (#[Value.iface t u] ++ args.map a.eval)[0]? = some (.iface t u) := by simp [Array.getElem?_append]
     have e1 : (#[Value.iface t u] ++ args.map a.eval).extract 1 (#[Value.iface t u] ++ args.map a.eval).size = args.map a.eval := by
      apply Array.ext'
      simp
      exact List.take_of_length_le (by simp)
     rw [e0]
     dsimp only
     rw [e1]
     simp only [callMethod, Sem.run_bind, run_program, Result.andThen_ok, this]
    ·simp; omega
    ·rcases i with _ | i
     ·simpa using hu
     ·simp at hi
      simp only [List.getElem_cons_succ, List.getElem_map]
      rw [Array.getElem_append_right (by simp)]
      simp; exact hr.ev _
   ·exact h.elim
  | value f =>
   have hcv : ∀ x : Operand, f = x → m = .callv x args.toList → o.wp P a w (Then W N S s w K) Q := by
    rintro x rfl rfl
    simp only [aeff] at h
    have hx := hr.ev f
    split at h
    ·rename_i fid caps e
     obtain ⟨hcb, h⟩ := h
     rw [e] at hx
     generalize hux : a.eval f = ux at hx
     cases hx with
     | @fn _ _ vs us hl hv hh =>
     refine call_sound hr hd hcb (vs := (args.map a.eval) ++ vs) (fun w => ?_) ⟨?_, fun i hi hi' => ?_⟩ h
     ·simp [execOp, ho, resolve, Deferred.ofValue, hux, invoke, Sem.run_bind]
     ·simp [hl]
     ·by_cases h1 : i < args.size
      ·rw [List.getElem_append_left (by simpa using h1), Array.getElem_append_left (by simpa using h1)]
       simp; exact hr.ev _
      ·simp at hi
       rw [List.getElem_append_right (by simp; omega), Array.getElem_append_right (by simp; omega)]
       simp only [List.length_map, Array.length_toList, Array.size_map]
       rw [hv]
       exact hh _ _
    ·rename_i fid ys e
     obtain ⟨hcb, h⟩ := h
     rw [e] at hx
     generalize hux : a.eval f = ux at hx
     cases hx with
     | @bm _ _ vs us hl hv hh =>
     refine call_sound hr hd hcb (vs := vs ++ (args.map a.eval)) (fun w => ?_) ⟨?_, fun i hi hi' => ?_⟩ h
     ·simp [execOp, ho, resolve, Deferred.ofValue, hux, invoke, Sem.run_bind]
     ·simp [hl]
     ·by_cases h1 : i < ys.length
      ·rw [List.getElem_append_left h1, Array.getElem_append_left (by omega)]
       rw [hv]
       exact hh _ _
      ·simp at hi
       rw [List.getElem_append_right (by omega), Array.getElem_append_right (by omega)]
       simp only [List.getElem_map, Array.getElem_map, Array.getElem_toList, hl]
       exact hr.ev _
    ·exact h.elim
   cases f with
   | func fid =>
    rw [ho] at hc
    simp only [compE] at hc
    split at hc
    ·rename_i hcb
     cases hc
     obtain ⟨s1, hwk, h⟩ := h
     obtain ⟨S1, hx1, hr1⟩ := Weak.sound hr hwk
     refine Oper.wp_mono (fun a' w' ⟨S2, s2, k2, x2, r2⟩ => ⟨S2, s2, k2, hx1.trans x2, r2⟩) (call_sound hr1 hd hcb (vs := (args.toList.map a.eval).toArray) (fun w => ?_) (evs hr1) h)
     have e : (args.toList.map a.eval).toArray = args.map a.eval := by apply Array.ext'; simp
     simp [execOp, ho, resolve, Deferred.ofValue, Act.eval, invoke, Sem.run_bind, e]
    ·cases hc
   | tmp k => rw [ho] at hc; simp only [compE, Option.some.injEq] at hc; exact hcv _ rfl hc.symm
   | const v => rw [ho] at hc; simp only [compE, Option.some.injEq] at hc; exact hcv _ rfl hc.symm
   | «global» g => rw [ho] at hc; simp only [compE, Option.some.injEq] at hc; exact hcv _ rfl hc.symm
 | binOp op t x y yt => exact Oper.wp_mono (fun _ _ h => h.1) (niq_sound hr hd ho hc h).1
 | makeMap t r =>
  rw [ho] at hc
  simp only [compE] at hc
  split at hc
  ·rename_i hn
   cases hc
   obtain rfl : r = none := by cases r <;> simp_all
   exact mk_sound hr hd ho h
  ·cases hc
 | mapUpdate t x i v =>
  rw [ho] at hc
  simp only [compE] at hc
  split at hc
  ·rename_i k e ht
   simp only [Option.map_eq_some_iff] at hc
   obtain ⟨kc, hkc, rfl⟩ := hc
   exact up_sound hr hd ht hkc (.inl ho) h
  ·cases hc
 | insert t x i v =>
  rw [ho] at hc
  simp only [compE] at hc
  split at hc
  ·rename_i k e ht
   simp only [Option.map_eq_some_iff] at hc
   obtain ⟨kc, hkc, rfl⟩ := hc
   exact up_sound hr hd ht hkc (.inr ho) h
  ·cases hc
 | makeSlice t l c => exact Oper.wp_mono (fun _ _ h => h.1) (mks_sound hr hd ho hc h)
 | range t x =>
  rw [ho] at hc
  simp only [compE] at hc
  split at hc
  ·rename_i ht; cases hc; exact rg_sound hr hd ht ho h
  ·rename_i ht; cases hc; exact srg_sound hr hd ht ho h
  ·cases hc
 | next x b =>
  rw [ho] at hc
  simp only [compE] at hc
  split at hc
  ·rename_i hb; cases hc; subst hb; exact snx_sound hr hd ho h
  ·rename_i hb
   cases hc
   obtain rfl : b = false := by simpa using hb
   exact nx_sound hr hd ho h
 | mapEntry t x i =>
  rw [ho] at hc
  simp only [compE] at hc
  split at hc
  ·rename_i k e ht
   split at hc
   ·rename_i kc z hkc hz
    split at hc
    ·rename_i hz1; cases hc; exact me_sound hr hd ht hkc hz hz1 ho h
    ·cases hc
   ·cases hc
  ·cases hc
 | entryStore t x n v => rw [ho] at hc; simp only [compE, Option.some.injEq] at hc; subst hc; exact es_sound hr hd ho h
 | slice t x lo hi mx => exact sla_sound hr hd ho hc h
 | _ => rw [ho] at hc; simp [compE] at hc
end Go.Proofs.YtfaodacmdlnabaaGreatDoor.M
