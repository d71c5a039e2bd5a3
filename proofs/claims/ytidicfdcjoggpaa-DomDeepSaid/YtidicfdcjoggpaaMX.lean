/-
  Maps and what is gone through, written.
-/
import Derived.Test.YtidicfdcjoggpaaMG4
namespace Go.Proofs.Ytidicfdcjoggpaa.M
open Go.RowKit
open Go.ChangeMaps (setBlock)
set_option linter.unusedVariables false
set_option linter.unusedSimpArgs false
variable {P : Program} {W : World} {S : Nat → Prop} {w : World} {N : Nat} {s : AState} {a : Act} {Q : Exit → Act → World → Prop}
def AE.writes : AE → Bool
  | .alloc _ _ | .box _ _ | .bsl _ _ _ | .s2b _ _ | .b2s _ | .callq _ _ | .appq _ _ _ _ _ _ | .niq _ _ => false
  | _ => true
theorem set_facts {w : World} {b : Nat} {o : Obj} (hb : w.heap[b]? = some o) (o' : Obj) : (setBlock w b o').heap[b]? = some o' ∧ (∀ i, i ≠ b → (setBlock w b o').heap[i]? = w.heap[i]?) ∧ (setBlock w b o').heap.size = w.heap.size := by
  have hlt := lt_of_some hb
  refine ⟨by simp [setBlock, hlt], fun i hi => ?_, by simp [setBlock]⟩
  simp only [setBlock, Array.getElem?_setIfInBounds]
  rw [if_neg (fun e => hi e.symm)]
/-- A block that holds no cells is written. -/
theorem blk_step {H : AHeap} (hw : WR W S H w) {b : Nat} {o0 : Obj} (hb : w.heap[b]? = some o0) (hH : H b ≠ none) (hno : ∀ c E fz, o0 ≠ .cells c E fz) (o' : Obj) {o : AObj} (ho : OR S (setBlock w b o') b o) : Ext S H w S (H.put b o) (setBlock w b o') ∧ WR W S (H.put b o) (setBlock w b o') := by
  obtain ⟨f1, f2, f3⟩ := set_facts hb o'
  exact own_step (w' := setBlock w b o') hw rfl rfl rfl (by omega) (.inl hH) (fun i _ hi => f2 i hi) (fun m ⟨cur, E, fz, h1, _⟩ => by rw [hb] at h1; cases h1; exact absurd rfl (hno _ _ _)) (Sub.refl H) ho
theorem VR.blk {H : AHeap} (hw : WR W S H w) {b : Nat} {o0 : Obj} (hb : w.heap[b]? = some o0) (hH : H b ≠ none) (hno : ∀ c E fz, o0 ≠ .cells c E fz) (o' : Obj) {x : AVal} {u : Value} (h : VR S w x u) : VR S (setBlock w b o') x u := by
  obtain ⟨f1, f2, f3⟩ := set_facts hb o'
  refine h.keep (w' := setBlock w b o') (fun i hi => ⟨hi, f2 i (fun e => ?_)⟩) (fun i m ⟨cur, E, fz, h1, h2⟩ => ⟨cur, E, fz, ?_, h2⟩)
  · subst e
    cases e2 : H i with
    | none => exact hH e2
    | some o => exact hw.apart i o e2 hi
  · by_cases e : i = b
    · subst e; rw [hb] at h1; cases h1; exact absurd rfl (hno _ _ _)
    · rw [f2 i e]; exact h1
theorem mapped_open {H : AHeap} (hw : WR W S H w) {x : AVal} {u : Value} (hx : VR S w x u) {K : Nat → List (Value × Nat × AVal) → Nat → Prop} (h : mapped H x K) : ∃ b l c es, u = .map (some b) ∧ H b = some (.mp l c) ∧ w.heap[b]? = some (.map es c) ∧ MR S w l es.toList ∧ K b l c := by
  unfold mapped mapB at h
  split at h
  · rename_i b e
    split at e
    · cases e
      cases hx
      split at h
      · rename_i l c hb
        obtain ⟨es, h1, h2⟩ := hw.objs _ _ hb
        exact ⟨b, l, c, es, rfl, hb, h1, h2, h⟩
      · exact h.elim
    · cases e
  · exact h.elim
theorem key_open {kc : Option IntKind} {x : AVal} {u : Value} (hx : VR S w x u) (h : kOk kc (keyA x) = true) : x = .v u := by
  cases x with
  | v y => cases hx; rfl
  | _ => cases kc <;> cases h
theorem mk_sound (hr : SR W N S s a w) {o : Oper} (hd : dstOk N o.dst = true) {t : TypeId} (ho : o.op = .makeMap t none) {K : AState → Prop} (h : aeff P W .mk o.dst s K) : o.wp P a w (Then W N S s w K) Q := by
  obtain ⟨f1, f2, f3, f4, f5, f6⟩ := alloc_facts w (.map #[] 0)
  refine wp_value (u := .map (some w.heap.size)) (w' := w.alloc (.map #[] 0)) ?_ ?_
  · simp [execOp, ho, Instr.makeMap, Sem.run_bind, newObj, Sem.run]
  · exact then_put hr hd (own_new (o := .mp [] 0) hr.wr f1 f2 f3 f4 f5 ⟨#[], f6, trivial⟩) (.v _) (h _ hr.wr.fresh)
theorem run_setMap {w : World} {b : Nat} {es : Array MapEntry} {c : Nat} (hb : w.heap[b]? = some (.map es c)) (o' : Obj) : (setObj b o').run P w = .ok () (setBlock w b o') := by
  simp [setObj, Sem.run, hb, setBlock]
theorem mput_end (k : Value) (c : Nat) {x : MapEntry} : ∀ {l : List (Value × Nat × AVal)} {es : List MapEntry}, MR S w l es → ∀ {e : Value × Nat × AVal}, x.key = e.1 → x.born = e.2.1 → VR S w e.2.2 x.val → MR S w (l ++ [e]) (es ++ [x])
  | [], [], _, e, h1, h2, h3 => ⟨h1, h2, h3, trivial⟩
  | [], _ :: _, h, _, _, _, _ => h.elim
  | _ :: _, [], h, _, _, _, _ => h.elim
  | _ :: l, _ :: es, h, e, h1, h2, h3 => ⟨h.1, h.2.1, h.2.2.1, mput_end k c h.2.2.2 h1 h2 h3⟩
theorem stays_run {kc : Option IntKind} {old new : Value} (h1 : kOk kc old = true) (h : old = new) (w : World) : (Instr.keyThatStays old new).run P w = .ok new w := by
  subst h
  have : Instr.sameBits 10000 old old = true := by
    cases kc <;> cases old <;> simp [kOk] at h1 <;> simp [Instr.sameBits, byte_beq]
  simp [Instr.keyThatStays, this]
theorem up_sound (hr : SR W N S s a w) {o : Oper} (hd : dstOk N o.dst = true) {t k e : TypeId} (ht : P.underlying t = some (.map k e)) {kc : Option IntKind} (hk : kcOf P k = some kc) {x i v : Operand} (ho : o.op = .mapUpdate t x i v) {K : AState → Prop} (h : aeff P W (.up kc x i v) o.dst s K) : o.wp P a w (Then W N S s w K) Q := by
  obtain ⟨b, l, c, es, hb1, hb2, hb3, hmr, ⟨hall, hkey⟩, hK⟩ := mapped_open hr.wr (hr.ev x) h
  have hi := key_open (hr.ev i) hkey
  rw [hi] at hkey hK
  simp only [keyA] at hkey hK
  obtain ⟨d, hd2⟩ : ∃ d, P.underlying k = some d := by unfold kcOf at hk; split at hk <;> simp_all
  have hH : s.H b ≠ none := by rw [hb2]; simp
  have hno : ∀ cc E fz, (Obj.map es c) ≠ .cells cc E fz := fun _ _ _ h => by cases h
  have hvr := fun o' => (VR.blk hr.wr hb3 hH hno o' (hr.ev v))
  have hchk := key_check hk false 9999 (a.eval i) w
  rcases find_now hk hd2 hkey l es.toList hmr hall 0 with ⟨k1, k2, k3, k4⟩ | ⟨j, y, av, k1, k2, k3, k4, k5, k6, k7, k8⟩
  · refine wp_skip' (w' := setBlock w b (.map (es.push { key := a.eval i, val := a.eval v, born := c }) (c + 1))) ?_ ?_
    · have hf := find_key (P := P) hd2 k1 w
      simp [execOp, ho, Instr.mapUpdate, Sem.run_bind, run_underlying ht, hb1, MapKept.run_getObj_map hb3, hchk, hf, run_setMap hb3]
    · have hc : mclk (a.eval i) c l = c + 1 := by simp [mclk, k2]
      rw [hc, (k4 _ _).1] at hK
      refine then_put hr hd (blk_step (o := .mp _ _) hr.wr hb3 hH hno _ ⟨_, (set_facts hb3 _).1, ?_⟩) (.any _) hK
      rw [Array.toList_push]
      exact mput_end (a.eval i) c (hmr.mono fun x u h => VR.blk hr.wr hb3 hH hno _ h) rfl rfl (hvr _)
  · have hjl : j < es.toList.length := (List.getElem?_eq_some_iff.1 k1).1
    have hjs : j < es.size := by simpa using hjl
    have hj : es[j] = y := by
      have := (List.getElem?_eq_some_iff.1 k1).2
      simpa using this
    refine wp_skip' (w' := setBlock w b (.map (es.modify j fun e => { e with key := a.eval i, val := a.eval v }) c)) ?_ ?_
    · have hf := find_key (P := P) hd2 k3 w
      have hst := stays_run (P := P) (kc := kc) (old := a.eval i) (new := a.eval i) hkey rfl w
      rw [Nat.zero_add] at hf
      simp [execOp, ho, Instr.mapUpdate, Sem.run_bind, run_underlying ht, hb1, MapKept.run_getObj_map hb3, hchk, hf, hjs, hj, k2, hst, run_setMap hb3]
    · have hc : mclk (a.eval i) c l = c := by simp [mclk, k4]
      rw [hc] at hK
      refine then_put hr hd (blk_step (o := .mp _ _) hr.wr hb3 hH hno _ ⟨_, (set_facts hb3 _).1, ?_⟩) (.any _) hK
      rw [Array.toList_modify]
      exact (k8 _ _ c (hr.ev v)).mono fun x u h => VR.blk hr.wr hb3 hH hno _ h
theorem del_sound (hr : SR W N S s a w) {o : Oper} (hd : dstOk N o.dst = true) {t k e u : TypeId} (ht : P.underlying t = some (.map k e)) {kc : Option IntKind} (hk : kcOf P k = some kc) {x i : Operand} (ho : o.op = .call ⟨.builtin .delete, #[x, i], #[t, u]⟩) {K : AState → Prop} (h : aeff P W (.del kc x i) o.dst s K) : o.wp P a w (Then W N S s w K) Q := by
  obtain ⟨b, l, c, es, hb1, hb2, hb3, hmr, ⟨hall, hkey⟩, hK⟩ := mapped_open hr.wr (hr.ev x) h
  have hi := key_open (hr.ev i) hkey
  rw [hi] at hkey hK
  simp only [keyA] at hkey hK
  obtain ⟨d, hd2⟩ : ∃ d, P.underlying k = some d := by unfold kcOf at hk; split at hk <;> simp_all
  have hH : s.H b ≠ none := by rw [hb2]; simp
  have hno : ∀ cc E fz, (Obj.map es c) ≠ .cells cc E fz := fun _ _ _ h => by cases h
  have hchk := key_check hk es.isEmpty 9999 (a.eval i) w
  rcases find_now hk hd2 hkey l es.toList hmr hall 0 with ⟨k1, k2, k3, k4⟩ | ⟨j, y, av, k1, k2, k3, k4, k5, k6, k7, k8⟩
  · refine wp_value (u := .tuple #[]) (w' := setBlock w b (.map es c)) ?_ ?_
    · have hf := find_key (P := P) hd2 k1 w
      simp [execOp, ho, resolve, invoke, builtin, Builtin.delete_, Sem.run_bind, run_underlying ht, hb1, MapKept.run_getObj_map hb3, hchk, hf, run_setMap hb3]
    · rw [k3] at hK
      exact then_put hr hd (blk_step (o := .mp _ _) hr.wr hb3 hH hno _ ⟨_, (set_facts hb3 _).1, hmr.mono fun x u h => VR.blk hr.wr hb3 hH hno _ h⟩) (.any _) hK
  · have hjl : j < es.toList.length := (List.getElem?_eq_some_iff.1 k1).1
    have hjs : j < es.size := by simpa using hjl
    refine wp_value (u := .tuple #[]) (w' := setBlock w b (.map (es.eraseIdxIfInBounds j) c)) ?_ ?_
    · have hf := find_key (P := P) hd2 k3 w
      rw [Nat.zero_add] at hf
      simp [execOp, ho, resolve, invoke, builtin, Builtin.delete_, Sem.run_bind, run_underlying ht, hb1, MapKept.run_getObj_map hb3, hchk, hf, run_setMap hb3]
    · refine then_put hr hd (blk_step (o := .mp _ _) hr.wr hb3 hH hno _ ⟨_, (set_facts hb3 _).1, ?_⟩) (.any _) hK
      unfold Array.eraseIdxIfInBounds
      rw [dif_pos hjs]
      simp only [Array.toList_eraseIdx]
      exact k6.mono fun x u h => VR.blk hr.wr hb3 hH hno _ h
theorem rg_sound (hr : SR W N S s a w) {o : Oper} (hd : dstOk N o.dst = true) {t k e : TypeId} (ht : P.underlying t = some (.map k e)) {x : Operand} (ho : o.op = .range t x) {K : AState → Prop} (h : aeff P W (.rg x) o.dst s K) : o.wp P a w (Then W N S s w K) Q := by
  obtain ⟨b, l, c, es, hb1, hb2, hb3, hmr, hK⟩ := mapped_open hr.wr (hr.ev x) h
  obtain ⟨f1, f2, f3, f4, f5, f6⟩ := alloc_facts w (.mapIter (some b) c #[] c)
  refine wp_value (u := .pointer (some ⟨w.heap.size, 0, none⟩)) (w' := w.alloc (.mapIter (some b) c #[] c)) ?_ ?_
  · simp [execOp, ho, Instr.range, Sem.run_bind, run_underlying ht, hb1, MapKept.run_getObj_map hb3, newObj, Sem.run]
  · exact then_put hr hd (own_new hr.wr f1 f2 f3 f4 f5 (show OR S _ _ (.it b c [] c) from f6)) (.v _) (hK _ hr.wr.fresh)
theorem srg_sound (hr : SR W N S s a w) {o : Oper} (hd : dstOk N o.dst = true) {t : TypeId} (ht : P.underlying t = some .string) {x : Operand} (ho : o.op = .range t x) {K : AState → Prop} (h : aeff P W (.srg x) o.dst s K) : o.wp P a w (Then W N S s w K) Q := by
  simp only [aeff] at h
  have hx := hr.ev x
  generalize ev s.tm x = ax at h hx
  generalize hu : a.eval x = u at hx
  unfold strA at h
  split at h
  · rename_i txt e
    split at e
    · cases e
      cases hx
      obtain ⟨f1, f2, f3, f4, f5, f6⟩ := alloc_facts w (.stringIter txt 0)
      refine wp_value (u := .pointer (some ⟨w.heap.size, 0, none⟩)) (w' := w.alloc (.stringIter txt 0)) ?_ ?_
      · simp [execOp, ho, Instr.range, Sem.run_bind, run_underlying ht, hu, newObj, Sem.run]
      · exact then_put hr hd (own_new hr.wr f1 f2 f3 f4 f5 (show OR S _ _ (.si txt 0) from f6)) (.v _) (h _ hr.wr.fresh)
    · cases e
  · exact h.elim
theorem ptrB_open {x : AVal} {r : Nat} (h : ptrB x = some r) {u : Value} (hx : VR S w x u) : u = .pointer (some ⟨r, 0, none⟩) := by
  unfold ptrB at h
  split at h
  · cases h; cases hx; rfl
  · cases h
theorem VR.trio {a b c : AVal} {u v t : Value} (ha : VR S w a u) (hb : VR S w b v) (hc : VR S w c t) : VR S w (.tup [a, b, c]) (.tuple #[u, v, t]) := by
  refine .tup (fun j => if j = 0 then u else if j = 1 then v else t) rfl (fun j hj => ?_) (fun j hj => ?_)
  · rcases j with _ | _ | _ | j
    · rfl
    · rfl
    · rfl
    · simp at hj; omega
  · rcases j with _ | _ | _ | j
    · exact ha
    · exact hb
    · exact hc
    · simp at hj; omega
theorem VR.sole {a : AVal} {u : Value} (ha : VR S w a u) : VR S w (.tup [a]) (.tuple #[u]) := by
  refine .tup (fun j => u) rfl (fun j hj => ?_) (fun j hj => ?_)
  · rcases j with _ | j
    · rfl
    · simp at hj
  · rcases j with _ | j
    · exact ha
    · simp at hj
theorem snx_sound (hr : SR W N S s a w) {o : Oper} (hd : dstOk N o.dst = true) {x : Operand} (ho : o.op = .next x true) {K : AState → Prop} (h : aeff P W (.snx x) o.dst s K) : o.wp P a w (Then W N S s w K) Q := by
  simp only [aeff] at h
  split at h
  · rename_i r e
    have hu := ptrB_open e (hr.ev x)
    split at h
    · rename_i t p hH
      have hb : w.heap[r]? = some (.stringIter t p) := hr.wr.objs _ _ hH
      have hH' : s.H r ≠ none := by rw [hH]; simp
      have hno : ∀ cc E fz, (Obj.stringIter t p) ≠ .cells cc E fz := fun _ _ _ h => by cases h
      by_cases hp : p < t.size
      · refine wp_value (u := .tuple #[.bool true, .int .i64 p, .int .i32 (Utf8.decode t p).1]) (w' := setBlock w r (.stringIter t (p + (Utf8.decode t p).2))) ?_ ?_
        · simp [execOp, ho, Instr.next, Sem.run_bind, hu, getObj, Sem.run, hb, hp, setObj, setBlock, goInt, Result.andThen]
        · exact then_put hr hd (blk_step hr.wr hb hH' hno _ (show OR S _ _ (.si t _) from (set_facts hb _).1)) (VR.trio (.v _) (.v _) (.v _)) (h.1 hp)
      · refine wp_value (u := .tuple #[.bool false]) (w' := w) ?_ ?_
        · simp [execOp, ho, Instr.next, Sem.run_bind, hu, getObj, Sem.run, hb, hp, Result.andThen]
        · exact then_put (H' := s.H) hr hd ⟨Ext.refl _ _ _, hr.wr⟩ (VR.sole (.v _)) (h.2 hp)
    · exact h.elim
  · exact h.elim
theorem MR.mem : ∀ {l : List (Value × Nat × AVal)} {es : List MapEntry}, MR S w l es → (∀ x ∈ es, ∃ e ∈ l, x.key = e.1 ∧ x.born = e.2.1 ∧ VR S w e.2.2 x.val) ∧ (∀ e ∈ l, ∃ x ∈ es, x.born = e.2.1)
  | [], [], _ => ⟨by simp, by simp⟩
  | [], _ :: _, h => h.elim
  | _ :: _, [], h => h.elim
  | e :: l, x :: es, h => by
    obtain ⟨h1, h2⟩ := h.2.2.2.mem
    refine ⟨fun y hy => ?_, fun f hf => ?_⟩
    · rcases List.mem_cons.1 hy with rfl | hy
      · exact ⟨e, by simp, h.1, h.2.1, h.2.2.1⟩
      · obtain ⟨f, hf, r⟩ := h1 y hy
        exact ⟨f, by simp [hf], r⟩
    · rcases List.mem_cons.1 hf with rfl | hf
      · exact ⟨x, by simp, h.2.1⟩
      · obtain ⟨y, hy, r⟩ := h2 f hf
        exact ⟨y, by simp [hy], r⟩
theorem nx_sound (hr : SR W N S s a w) {o : Oper} (hd : dstOk N o.dst = true) {x : Operand} (ho : o.op = .next x false) {K : AState → Prop} (h : aeff P W (.nx x) o.dst s K) : o.wp P a w (Then W N S s w K) Q := by
  simp only [aeff] at h
  split at h
  · rename_i r e
    have hu := ptrB_open e (hr.ev x)
    split at h
    · rename_i m since seen c0 hH
      split at h
      · rename_i l c hm
        obtain ⟨⟨hold, hsc⟩, hdone, hmore⟩ := h
        have hb : w.heap[r]? = some (.mapIter (some m) since seen.toArray c0) := hr.wr.objs _ _ hH
        obtain ⟨es, he1, he2⟩ := hr.wr.objs _ _ hm
        have hH' : s.H r ≠ none := by rw [hH]; simp
        obtain ⟨m1, m2⟩ := he2.mem
        rcases run_next_at (P := P) w o.type r m since c0 seen.toArray es c hb he1 (fun x hx => by obtain ⟨f, hf, _, hb, _⟩ := m1 x hx; rw [hb]; exact hold f hf) hsc with ⟨h0, hrun⟩ | ⟨y, hy, w1, hw1, hrun⟩
        · refine wp_value (u := .tuple #[.bool false]) (w' := w) (by simp [execOp, ho, Sem.run_bind, hu, hrun, Result.andThen]) ?_
          refine then_put (H' := s.H) hr hd ⟨Ext.refl _ _ _, hr.wr⟩ (VR.sole (.v _)) (hdone fun f hf => ?_)
          obtain ⟨x, hx, hxb⟩ := m2 f hf
          have := all_seen es seen.toArray h0 x hx
          rw [← hxb]
          simpa using this
        · obtain ⟨hym, hys⟩ := mem_left hy
          obtain ⟨f, hf, fk, fb, fv⟩ := m1 y hym
          have hfs : f.2.1 ∉ seen := by rw [← fb]; simpa using hys
          have hr1 : ∃ S1 : Unit, SR W N S s a w1 ∧ Ext S s.H w S s.H w1 ∧ w1.heap = w.heap := by
            rcases hw1 with rfl | rfl
            · exact ⟨(), hr, Ext.refl _ _ _, rfl⟩
            · refine ⟨(), ⟨hr.defers, hr.size, fun k => VR.keep (w := w) (w' := w.drew) (fun b hb => ⟨hb, rfl⟩) (fun _ _ h => h) (hr.tm k), ⟨⟨hr.wr.old.os, hr.wr.old.tape, hr.wr.old.output, hr.wr.old.size, hr.wr.old.block⟩, hr.wr.new, hr.wr.lt, hr.wr.apart, fun b o h => OR.keep (w := w) (w' := w.drew) (fun b hb => ⟨hb, rfl⟩) (fun _ _ h => h) rfl (hr.wr.objs b o h)⟩⟩, ⟨Nat.le_refl _, fun _ _ _ => rfl, fun _ _ h => h, fun _ h => h, fun _ h => .inl h, fun _ h => .inl h⟩, rfl⟩
          obtain ⟨_, hr1, hx1, hheap⟩ := hr1
          have hb' : w1.heap[r]? = some (.mapIter (some m) since seen.toArray c0) := by rw [hheap]; exact hb
          have hno : ∀ cc E fz, (Obj.mapIter (some m) since seen.toArray c0) ≠ .cells cc E fz := fun _ _ _ h => by cases h
          refine wp_value (u := .tuple #[.bool true, y.key, y.val]) (w' := setBlock w1 r (.mapIter (some m) since (seen.toArray.push y.born) c)) (by simp [execOp, ho, Sem.run_bind, hu, hrun, Result.andThen]) ?_
          obtain ⟨g1, g2⟩ := blk_step hr1.wr hb' hH' hno (.mapIter (some m) since (seen.toArray.push y.born) c) (o := .it m since (seen ++ [f.2.1]) c) (by
            show (setBlock w1 r _).heap[r]? = _
            rw [(set_facts hb' _).1, fb]; simp)
          refine then_put hr hd ⟨hx1.trans g1, g2⟩ (VR.trio (.v _) (by rw [fk]; exact .v _) ?_) (hmore f hf hfs)
          exact VR.blk hr1.wr hb' hH' hno _ (fv.keep (fun b hb => ⟨hb, by rw [hheap]⟩) (fun b k ⟨cur, E, fz, q1, q2⟩ => ⟨cur, E, fz, by rw [hheap]; exact q1, q2⟩))
      · exact h.elim
    · exact h.elim
  · exact h.elim
theorem me_sound (hr : SR W N S s a w) {o : Oper} (hd : dstOk N o.dst = true) {t k e : TypeId} (ht : P.underlying t = some (.map k e)) {kc : Option IntKind} (hk : kcOf P k = some kc) {z : Value} (hz : (P.info? e).bind (·.zero) = some z) (hz1 : z.cells.all (·.oneCell') = true) {x i : Operand} (ho : o.op = .mapEntry t x i) {K : AState → Prop} (h : aeff P W (.me kc z x i) o.dst s K) : o.wp P a w (Then W N S s w K) Q := by
  obtain ⟨b, l, c, es, hb1, hb2, hb3, hmr, ⟨hall, hkey⟩, hK⟩ := mapped_open hr.wr (hr.ev x) h
  have hi := key_open (hr.ev i) hkey
  rw [hi] at hkey hK
  simp only [keyA] at hkey hK
  obtain ⟨d, hd2⟩ : ∃ d, P.underlying k = some d := by unfold kcOf at hk; split at hk <;> simp_all
  obtain ⟨inf, hinf, hz⟩ : ∃ i, P.info? e = some i ∧ i.zero = some z := by cases e' : P.info? e <;> simp_all
  have hzero : ∀ w', (zeroValue e).run P w' = .ok z w' := fun w' => by simp [zeroValue, Sem.run_bind, typeInfo, hinf, hz]
  have hH : s.H b ≠ none := by rw [hb2]; simp
  have hno : ∀ cc E fz, (Obj.map es c) ≠ .cells cc E fz := fun _ _ _ h => by cases h
  have hchk := key_check hk false 9999 (a.eval i) w
  rcases find_now hk hd2 hkey l es.toList hmr hall 0 with ⟨k1, k2, k3, k4⟩ | ⟨j, y, av, k1, k2, k3, k4, k5, k6, k7, k8⟩
  · refine wp_value (u := .tuple #[z, goInt c]) (w' := setBlock w b (.map (es.push { key := a.eval i, val := z, born := c }) (c + 1))) ?_ ?_
    · have hf := find_key (P := P) hd2 k1 w
      simp [execOp, ho, Instr.mapEntry, Sem.run_bind, run_underlying ht, hb1, MapKept.run_getObj_map hb3, hchk, hf, hzero w, run_setMap hb3]
    · have hc : mclk (a.eval i) c l = c + 1 := by simp [mclk, k2]
      rw [hc, (k4 _ _).1, (k4 .any c).2, k2] at hK
      refine then_put hr hd (blk_step (o := .mp _ _) hr.wr hb3 hH hno _ ⟨_, (set_facts hb3 _).1, ?_⟩) (VR.pair (zeroA_sound hz1) (.v _)) hK
      rw [Array.toList_push]
      exact mput_end (a.eval i) c (hmr.mono fun x u h => VR.blk hr.wr hb3 hH hno _ h) rfl rfl (zeroA_sound hz1)
  · have hjl : j < es.toList.length := (List.getElem?_eq_some_iff.1 k1).1
    have hjs : j < es.size := by simpa using hjl
    have hj : es[j] = y := by
      have := (List.getElem?_eq_some_iff.1 k1).2
      simpa using this
    refine wp_value (u := .tuple #[y.val, goInt y.born]) (w' := setBlock w b (.map (es.modify j fun e => { e with key := a.eval i }) c)) ?_ ?_
    · have hf := find_key (P := P) hd2 k3 w
      have hst := stays_run (P := P) (kc := kc) (old := a.eval i) (new := a.eval i) hkey rfl w
      rw [Nat.zero_add] at hf
      simp [execOp, ho, Instr.mapEntry, Sem.run_bind, run_underlying ht, hb1, MapKept.run_getObj_map hb3, hchk, hf, hjs, hj, k2, hst, run_setMap hb3]
    · have hc : mclk (a.eval i) c l = c := by simp [mclk, k4]
      rw [hc, k7, k4] at hK
      refine then_put hr hd (blk_step (o := .mp _ _) hr.wr hb3 hH hno _ ⟨_, (set_facts hb3 _).1, ?_⟩) (VR.pair (VR.blk hr.wr hb3 hH hno _ k5) (.v _)) hK
      rw [Array.toList_modify]
      have := (k8 av y.val c k5).mono (w' := setBlock w b (.map (es.modify j fun e => { e with key := a.eval i }) c)) fun x u h => VR.blk hr.wr hb3 hH hno _ h
      have e1 : (es.toList.modify j fun e => { e with key := a.eval i, val := y.val }) = es.toList.modify j fun e => { e with key := a.eval i } := by
        apply List.ext_getElem?
        intro n
        simp only [List.getElem?_modify]
        by_cases hn : j = n
        · subst hn; simp [hjs, hj]
        · simp [hn]
      rw [e1] at this
      exact this
theorem niq_sound (hr : SR W N S s a w) {o : Oper} (hd : dstOk N o.dst = true) {op : BinOp} {t yt : TypeId} {x y : Operand} (ho : o.op = .binOp op t x y yt) {m : AE} (hc : compE P o.op = some m) {K : AState → Prop} (h : aeff P W m o.dst s K) : o.wp P a w (ThenQ W N S s w K) Q ∧ m.writes = false := by
  rw [ho] at hc
  simp only [compE] at hc
  have hx := hr.ev x
  have key : ∀ (neg : Bool) (e : TypeId) (n' c' : Nat), P.underlying t = some (.slice e) → y = .const (.slice none n' c') → op = (if neg then .neq else .eql) → aeff P W (.niq neg x) o.dst s K → o.wp P a w (ThenQ W N S s w K) Q := by
    rintro neg e n' c' ht rfl rfl h
    have hrun : ∀ (A : Option Addr) (n c : Nat), a.eval x = .slice A n c → (execOp a.eval o).run P w = .ok (.value (.bool (flip neg A.isNone))) w := by
      intro A n c hA
      have hev : a.eval (.const (.slice none n' c')) = .slice none n' c' := rfl
      cases neg
      · have := bin_run P .eql t x (.const (.slice none n' c')) (.slice A n c) (.slice none n' c') (.bool A.isNone) w (by simp) (by simp) (by simp [binOp, Sem.run_bind, eq_slice ht])
        simp only [execOp, ho, hA, hev, if_false, Bool.false_eq_true]
        rw [Sem.run_bind]
        simp only [Sem.run_bind] at this ⊢
        simp [this, flip]
      · have := bin_run P .neq t x (.const (.slice none n' c')) (.slice A n c) (.slice none n' c') (.bool (!A.isNone)) w (by simp) (by simp) (by simp [binOp, Sem.run_bind, eq_slice ht])
        simp only [execOp, ho, hA, hev, if_true]
        rw [Sem.run_bind]
        simp only [Sem.run_bind] at this ⊢
        simp [this, flip]
    simp only [aeff] at h
    generalize ev s.tm x = ax at hx h
    generalize hu : a.eval x = u at hx hrun
    have fin : ∀ t : Bool, K (s.put o.dst (.v (.bool (flip neg t)))) → ThenQ W N S s w K (a.put o.dst (.bool (flip neg t))) w := fun t hk => ⟨then_put (H' := s.H) hr hd ⟨Ext.refl _ _ _, hr.wr⟩ (.v _) hk, Quiet.refl w⟩
    unfold niqA at h
    split at h
    · cases hx with
      | @sl _ _ _ A c us hc1 hm hf hb _ _ _ =>
      refine wp_value (hrun _ _ _ rfl) (fin _ (h _ fun hA => ?_))
      rcases hb with hb | ⟨b, o, rfl, _⟩
      · exact hb
      · cases hA
    · cases hx; exact wp_value (hrun _ _ _ rfl) (fin _ h)
    · cases hx; exact wp_value (hrun _ _ _ rfl) (fin _ h)
    · cases hx; exact wp_value (hrun _ _ _ rfl) (fin _ h)
    · exact h.elim
  split at hc
  · rename_i e n c ht
    cases hc
    exact ⟨key false e _ _ ht rfl rfl h, rfl⟩
  · rename_i e n c ht
    cases hc
    exact ⟨key true e _ _ ht rfl rfl h, rfl⟩
  · cases hc
theorem mset_sound {n : Nat} {v : AVal} {val : Value} (hv : VR S w v val) : ∀ {l : List (Value × Nat × AVal)} {es : List MapEntry}, MR S w l es → (∃ e ∈ l, e.2.1 = n) → ∃ j, es.findIdx? (fun e => (e.born : Int) == (n : Int)) = some j ∧ MR S w (mset n v l) (es.modify j fun e => { e with val := val })
  | [], [], _, h => by simp at h
  | [], _ :: _, h, _ => h.elim
  | _ :: _, [], h, _ => h.elim
  | e :: l, x :: es, h, hex => by
    obtain ⟨h1, h2, h3, h4⟩ := h
    by_cases he : e.2.1 = n
    · refine ⟨0, ?_, ?_⟩
      · simp [List.findIdx?_cons, h2, he]
      · simp only [mset, he, if_true, List.modify_zero_cons]; exact ⟨h1, by rw [← he]; exact h2, hv, h4⟩
    · obtain ⟨j, hj, hm⟩ := mset_sound hv h4 (by obtain ⟨f, hf, hfn⟩ := hex; rcases List.mem_cons.1 hf with rfl | hf
                                                 · exact absurd hfn he
                                                 · exact ⟨f, hf, hfn⟩)
      refine ⟨j + 1, ?_, ?_⟩
      · have : ((x.born : Int) == (n : Int)) = false := by rw [h2]; simp; exact_mod_cast he
        simp [List.findIdx?_cons, this, hj]
      · simp only [mset, he, if_false, List.modify_succ_cons]; exact ⟨h1, h2, h3, hm⟩
theorem es_sound (hr : SR W N S s a w) {o : Oper} (hd : dstOk N o.dst = true) {t : TypeId} {x n v : Operand} (ho : o.op = .entryStore t x n v) {K : AState → Prop} (h : aeff P W (.es x n v) o.dst s K) : o.wp P a w (Then W N S s w K) Q := by
  obtain ⟨b, l, c, es, hb1, hb2, hb3, hmr, h⟩ := mapped_open hr.wr (hr.ev x) h
  have hn := hr.ev n
  split at h
  · rename_i k e
    rw [e] at hn
    obtain ⟨⟨f, hf, hfk⟩, hK⟩ := h
    have hH : s.H b ≠ none := by rw [hb2]; simp
    have hno : ∀ cc E fz, (Obj.map es c) ≠ .cells cc E fz := fun _ _ _ h => by cases h
    generalize hu : a.eval n = u at hn
    cases hn
    obtain rfl : k = (f.2.1 : Int) := hfk.symm
    simp only [Int.toNat_natCast] at hK
    obtain ⟨j, hj, hm⟩ := mset_sound (hr.ev v) hmr ⟨f, hf, rfl⟩
    refine wp_skip' (w' := setBlock w b (.map (es.modify j fun e => { e with val := a.eval v }) c)) ?_ ?_
    · have hj' : es.findIdx? (fun e => (e.born : Int) == (f.2.1 : Int)) = some j := by rw [← List.findIdx?_toArray] at hj; simpa using hj
      have has : (asInt (.int .i64 (f.2.1 : Int))).run P w = .ok (f.2.1 : Int) w := by simp [asInt, asIntOf]
      simp [execOp, ho, Instr.entryStore, Sem.run_bind, hb1, MapKept.run_getObj_map hb3, hu, has, hj', run_setMap hb3]
    · refine then_put hr hd (blk_step (o := .mp _ _) hr.wr hb3 hH hno _ ⟨_, (set_facts hb3 _).1, ?_⟩) (.any _) hK
      rw [Array.toList_modify]
      exact hm.mono fun x u h => VR.blk hr.wr hb3 hH hno _ h
  · exact h.elim
end Go.Proofs.Ytidicfdcjoggpaa.M
