/-
 A Builder that holds nothing; a byte more; a text with all of one byte written anew.
-/
import Derived.Test.YtfaodacmdlnabaaGreatDoorPtext
import Derived.Test.YtfaodacmdlnabaaGreatDoorLa
namespace Go.Proofs.YtfaodacmdlnabaaGreatDoor
open Go.RowKit
set_option linter.unusedVariables false
set_option linter.unusedSimpArgs false
set_option maxHeartbeats 1000000 in
set_option maxRecDepth 100000 in
theorem bstr_nil {T : TypeId} (b : Nat) (p : Value) (fz : Nat × Nat) (w : World) (hbk : w.heap[b]? = some (.cells #[p, .slice none 0 0] T fz)) :
  Calls Tryz.prog 19 #[.pointer (some ⟨b, 0, none⟩)] w fun e w' => e = .returned (.string ⟨#[]⟩) ∧ Below w.heap.size w w' := by
 have c1 : w.drew.cell? ⟨b, 1, none⟩ = some (.slice none 0 0) := by
  have : w.drew.heap[b]? = some (.cells #[p, .slice none 0 0] T fz) := hbk
  rw [Lib.cell_of_heap this]; rfl
 have hSD : (Builtin.unsafeSliceData_ #[43] 68 #[.slice none 0 0]).run Tryz.prog w.drew = .ok (.pointer none) w.drew := rfl
 have hUS : (Builtin.unsafeString_ #[68, 3] 9 #[.pointer none, .int .i64 0]).run Tryz.prog w.drew = .ok (.string .empty) w.drew := Lib.run_unsafeString_none _ _ _ _ _
 have mixed := mixedB
 go_enter Tryz.func19, Tryz.ntmps19
 go_wp2
 go_region_o
 all_goals (go_wp2; go_ret; exact ⟨rfl, Below.drew (Below.refl _ w)⟩)
set_option maxHeartbeats 1000000 in
set_option maxRecDepth 100000 in
theorem bstr_room {T : TypeId} (b g cap : Nat) (p : Value) (fz : Nat × Nat) (w : World) (hc0 : cap ≠ 0) (hbk : w.heap[b]? = some (.cells #[p, .slice (some ⟨g, 0, none⟩) 0 cap] T fz)) :
  Calls Tryz.prog 19 #[.pointer (some ⟨b, 0, none⟩)] w fun e w' => e = .returned (.string ⟨#[]⟩) ∧ Below w.heap.size w w' := by
 have c1 : w.drew.cell? ⟨b, 1, none⟩ = some (.slice (some ⟨g, 0, none⟩) 0 cap) := by
  have : w.drew.heap[b]? = some (.cells #[p, .slice (some ⟨g, 0, none⟩) 0 cap] T fz) := hbk
  rw [Lib.cell_of_heap this]; rfl
 have hSD : (Builtin.unsafeSliceData_ #[43] 68 #[.slice (some ⟨g, 0, none⟩) 0 cap]).run Tryz.prog w.drew = .ok (.pointer (some ⟨g, 0, none⟩)) w.drew :=
  Lib.run_unsafeSliceData_row _ _ _ _ _ _ hc0
 have hUS : (Builtin.unsafeString_ #[68, 3] 9 #[.pointer (some ⟨g, 0, none⟩), .int .i64 0]).run Tryz.prog w.drew = .ok (.string .empty) w.drew := Lib.run_unsafeString_none _ _ _ _ _
 clear hc0
 have mixed := mixedB
 go_enter Tryz.func19, Tryz.ntmps19
 go_wp2
 go_region_o
 all_goals (go_wp2; go_ret; exact ⟨rfl, Below.drew (Below.refl _ w)⟩)
set_option maxHeartbeats 1000000 in
set_option maxRecDepth 100000 in
theorem bstr_noroom {T : TypeId} (b g : Nat) (p : Value) (cur : Array Value) (fz fg : Nat × Nat) (w : World) (hbk : w.heap[b]? = some (.cells #[p, .slice (some ⟨g, 0, none⟩) 0 0] T fz)) (hg : w.heap[g]? = some (.cells cur 5 fg)) :
  Calls Tryz.prog 19 #[.pointer (some ⟨b, 0, none⟩)] w fun e w' => e = .returned (.string ⟨#[]⟩) ∧ Below w.heap.size w w' := by
 have hlt : b < w.heap.size := by
  rcases Nat.lt_or_ge b w.heap.size with h' | h'
  ·exact h'
  ·simp [Array.getElem?_eq_none h'] at hbk
 have c1 : w.drew.cell? ⟨b, 1, none⟩ = some (.slice (some ⟨g, 0, none⟩) 0 0) := by
  have : w.drew.heap[b]? = some (.cells #[p, .slice (some ⟨g, 0, none⟩) 0 0] T fz) := hbk
  rw [Lib.cell_of_heap this]; rfl
 have hSD : (Builtin.unsafeSliceData_ #[43] 68 #[.slice (some ⟨g, 0, none⟩) 0 0]).run Tryz.prog w.drew = .ok (.pointer (some ⟨w.drew.heap.size, 0, none⟩)) (w.drew.alloc (.view ⟨g, 0, none⟩ 5)) :=
  Lib.run_unsafeSliceData_zero w.drew _ _ 5 Tryz.underlying68 ⟨g, 0, none⟩ 0 (5, cur.size) (by have hg' : w.drew.heap[g]? = some (.cells cur 5 fg) := hg; simp [World.shape?, hg'])
 have hUS : ∀ (W : World) (q : Option Addr), (Builtin.unsafeString_ #[68, 3] 9 #[.pointer q, .int .i64 0]).run Tryz.prog W = .ok (.string .empty) W := fun _ _ => Lib.run_unsafeString_none _ _ _ _ _
 have c2 : (w.drew.alloc (.view ⟨g, 0, none⟩ 5)).cell? ⟨b, 1, none⟩ = some (.slice (some ⟨g, 0, none⟩) 0 0) := by
  have : (w.drew.alloc (.view ⟨g, 0, none⟩ 5)).heap[b]? = _ := (Lib.alloc_old w.drew _ b hlt).trans hbk
  rw [Lib.cell_of_heap this]; rfl
 have c3 : (w.alloc (.view ⟨g, 0, none⟩ 5)).drew.cell? ⟨b, 1, none⟩ = some (.slice (some ⟨g, 0, none⟩) 0 0) := c2
 have c0 : w.cell? ⟨b, 1, none⟩ = some (.slice (some ⟨g, 0, none⟩) 0 0) := c1
 have mixed := mixedB
 go_enter Tryz.func19, Tryz.ntmps19
 go_wp2
 go_region_o
 all_goals (go_wp2; go_ret; exact ⟨rfl, (Below.drew (Below.refl _ w)).alloc (Nat.le_refl _) _⟩)
end Go.Proofs.YtfaodacmdlnabaaGreatDoor
namespace Go.Proofs.YtfaodacmdlnabaaGreatDoor.M
open Go.RowKit
set_option linter.unusedVariables false
set_option linter.unusedSimpArgs false
theorem below_any {W w w' : World} {S : Nat → Prop} {H : AHeap} (hw : WR W S H w) (hbel : Below w.heap.size w w') : Ext S H w S AHeap.none w' ∧ WR W S AHeap.none w' :=
 ⟨⟨hbel.size, fun b hb _ => hbel.block b hb, fun b m ⟨cur, E, fz, h1, h2⟩ => ⟨cur, E, fz, (hbel.block b (lt_of_some h1)).trans h1, h2⟩, fun _ h => h, fun _ h => .inl h, fun b h => absurd rfl h⟩,
  ⟨⟨hbel.os.trans hw.old.os, hbel.tape.trans hw.old.tape, hbel.output.trans hw.old.output, Nat.le_trans hw.old.size hbel.size, fun b hb => (hbel.block b (Nat.lt_of_lt_of_le hb hw.old.size)).trans (hw.old.block b hb)⟩, fun _ _ h => (by cases h), fun b h => Nat.lt_of_lt_of_le (hw.lt b h) hbel.size, fun _ _ h => (by cases h), fun _ _ h => (by cases h)⟩⟩
theorem bstr0_ok {W : World} {T : TypeId} {H : AHeap} {b : Nat} (hB : BuildT T H b ByteArray.empty) : ACalls Tryz.prog W 19 [.v (.pointer (some ⟨b, 0, none⟩))] H fun r _ => r = .v (.string ByteArray.empty) := by
 obtain ⟨p, x, hb, hp, hr⟩ := hB
 intro S w us hw hv
 obtain ⟨u, rfl, hu⟩ := hv.of1
 obtain rfl := hu.v_eq
 obtain ⟨cur, fz, h1, h2, h3, h4, h5⟩ := hw.objs _ _ hb
 obtain ⟨c0, c1, rfl⟩ : ∃ c0 c1, cur = #[c0, c1] := by
  rcases cur with ⟨l⟩
  rcases l with _ | ⟨a, _ | ⟨c, _ | ⟨d, l⟩⟩⟩ <;> simp at h2
  exact ⟨a, c, rfl⟩
 have e1 := h5 1 (by simp) (by simp)
 simp only [List.getElem_cons_succ, List.getElem_cons_zero, List.getElem_toArray] at e1
 have fin : ∀ e w', e = Ending.returned (.string ⟨#[]⟩) ∧ Below w.heap.size w w' → ∃ r H' S' v, r = AVal.v (.string ByteArray.empty) ∧ e = .returned v ∧ Ext S H w S' H' w' ∧ WR W S' H' w' ∧ VR S' w' r v := by
  rintro e w' ⟨rfl, hbel⟩
  obtain ⟨g1, g2⟩ := below_any hw hbel
  exact ⟨_, AHeap.none, S, _, rfl, rfl, g1, g2, .v _⟩
 have hbl : bytesOf ByteArray.empty = [] := rfl
 rw [hbl] at hr
 cases hr with
 | nil =>
  obtain rfl := e1.v_eq
  exact (bstr_nil b c0 fz w h1).mono fin
 | @bs g n _ hg hn =>
  obtain rfl : n = 0 := hn
  cases e1 with
  | @bs _ _ _ c hnc hm hwd =>
  obtain ⟨cur2, fz2, c2, k1, k2, k3, k4, k5, k6, k7, k8⟩ := hw.objs _ _ hg
  by_cases hc : c = 0
  ·subst hc
   exact (bstr_noroom b g c0 cur2 fz fz2 w h1 k1).mono fin
  ·exact (bstr_room b g c c0 fz w hc h1).mono fin
/-- What a Builder holds. -/
theorem bstrA_ok {W : World} {T : TypeId} {H : AHeap} {b : Nat} {t : Str} (hB : BuildT T H b t) : ACalls Tryz.prog W 19 [.v (.pointer (some ⟨b, 0, none⟩))] H fun r _ => r = .v (.string t) := by
 by_cases h : t = ByteArray.empty
 ·subst h; exact bstr0_ok hB
 ·exact bstring_ok hB h
def c_WriteByte : AFn := ⟨2, 17, [4],
 .seq (.ops [oq 4 (.mv (.const .nilIface))])
 (.seq (.ops [oq 5 (.mv (.tmp 0)),
   oe 6 (.call 31 [(.tmp 5)])])
 (.seq (.ops [oq 7 (.mv (.tmp 0)),
   oq 8 (.mv (.tmp 0)),
   oq 9 (.nck (.tmp 8)),
   oq 10 (.fad 1 1 (.tmp 9)),
   oq 11 (.ld false 1 (.tmp 10)),
   oq 12 (.mv (.tmp 1)),
   oe 13 (.bsl 5 1 [(.tmp 12)]),
   oe 14 (.app 5 1 1 false (.tmp 11) (.tmp 13)),
   oq 15 (.nck (.tmp 7)),
   oq 16 (.fad 1 1 (.tmp 15)),
   on (.st 1 (.tmp 16) (.tmp 14))])
 (.seq (.ops [oq 4 (.mv (.const .nilIface))])
 (.ret)))), []⟩
theorem k_WriteByte : compF Tryz.prog 66 = some c_WriteByte := by kernel_rfl
set_option maxHeartbeats 2000000 in
theorem wbyte_ok {W : World} {H : AHeap} {b : Nat} {t : Str} (c : UInt8) (hB : BuildH H b t) (hs : t.size ≤ 100000000000) : ACalls Tryz.prog W 66 [.v (.pointer (some ⟨b, 0, none⟩)), .v (.int .u8 c.toNat)] H fun r H' => BuildH H' b (t ++ ⟨#[c]⟩) := by
 obtain ⟨p, x, hb, hp, hr⟩ := hB
 refine fn_run follows k_WriteByte rfl ?_
 simp only [oq, og, oe, oh, on, c_WriteByte, aretC_nil, List.zipIdx_cons, List.zipIdx_nil, List.map_cons, List.map_nil, Nat.zero_add]
 (try simp +decide -implicitDefEqProofs only [go_sem])
 refine stk_call (cc_ok liesB hb hp) fun v H1 hv => ?_
 obtain ⟨rfl, rfl⟩ := hv
 have hr2 : RowO (H.put b (.cells 45 [.v (.pointer (some ⟨b, 0, none⟩)), x])) 5 1 x (bytesOf t) := hr.put (hr.notC hb)
 have hxb := hr.notC hb
 obtain rfl | ⟨g0, n0, rfl⟩ := hr.shape
 all_goals (
  (try simp +decide -implicitDefEqProofs only [go_sem, hp_self, lay, oneOr, List.take_succ_cons, List.take_zero, List.drop_succ_cons, List.drop_zero, List.nil_append, List.cons_append, Option.getD_some, Nat.reduceAdd, Nat.reduceLeDiff, List.append_nil, and_self, List.all_cons, List.all_nil])
  refine stk_appO hr2 (by rfl) (by rw [bytesOf_len]; simp; omega) fun x1 H2 h1 h2 => ?_
  have hH2 := h2 b _ (hp_self _ _ _) hxb
  have hnb := h1.notC hH2
  obtain rfl | ⟨g1, n1, rfl⟩ := h1.shape
  all_goals (
   (try simp +decide -implicitDefEqProofs only [go_sem, hH2, lay, oneOr, List.take_succ_cons, List.take_zero, List.drop_succ_cons, List.drop_zero, List.nil_append, List.cons_append, Option.getD_some, Nat.reduceAdd, Nat.reduceLeDiff, List.append_nil, and_self, List.all_cons, List.all_nil])
   refine ⟨.inr rfl, _, .v .nilIface, Sub.refl _, .refl _, _, _, hp_self _ _ _, .inr rfl, ?_⟩
   rw [bytesOf_append]
   exact h1.put hnb))
theorem VRs.of3 {S : Nat → Prop} {w : World} {x y z : AVal} {us : Array Value} (h : VRs S w [x, y, z] us) : ∃ u v t, us = #[u, v, t] ∧ VR S w x u ∧ VR S w y v ∧ VR S w z t := by
 obtain ⟨hsz, hv⟩ := h
 refine ⟨us[0]'(by rw [hsz]; simp), us[1]'(by rw [hsz]; simp), us[2]'(by rw [hsz]; simp), ?_, hv 0 (by simp) (by rw [hsz]; simp), hv 1 (by simp) (by rw [hsz]; simp), hv 2 (by simp) (by rw [hsz]; simp)⟩
 apply Array.ext
 ·simpa using hsz
 ·intro i h1 h2; simp at h2; obtain rfl | rfl | rfl : i = 0 ∨ i = 1 ∨ i = 2 := by omega
  ·rfl
  ·rfl
  ·rfl
/-- One byte of a text written anew, wherever it stands. -/
theorem replace_ok {W : World} (L : Laid W) (s : Str) (b : UInt8) (new : Str) (hn : new.data.toList ≠ [b]) (h2 : new.size ≤ 2) (hs : s.size ≤ 1000000000) : ACalls Tryz.prog W 94 [.v (.string s), .v (.string ⟨#[b]⟩), .v (.string new)] AHeap.none fun v _ => v = .v (.string (mkS (putB b (bl new) (bl s)))) := by
 refine lift fun S w us hw hv => ?_
 obtain ⟨u0, u1, u2, rfl, k0, k1, k2⟩ := hv.of3
 obtain rfl := k0.v_eq
 obtain rfl := k1.v_eq
 obtain rfl := k2.v_eq
 obtain ⟨m, hm⟩ := L.mostAt hw
 have hc := Lib.countB_le (⟨#[b]⟩ : Str) (Nat.le_refl 1) s.size s (Nat.le_refl _)
 have hmul : Lib.countB s ⟨#[b]⟩ * new.size ≤ s.size * 2 := Nat.mul_le_mul hc h2
 refine ⟨_, (Lay.strings_ReplaceAll s ⟨#[b]⟩ new m w (by omega) hm (Nat.le_refl 1) (by omega)).mono ?_, fun S w' => .v _⟩
 rintro e w' ⟨rfl, hb⟩
 refine ⟨?_, hb⟩
 have e1 := replaceAll_putB b (bl new) (bl s) hn
 show Ending.returned (.string (mkS (Lib.replaceAll (bl s) [b] (bl new)))) = _
 rw [e1]
def c_lnEscape : AFn := ⟨1, 6, [2],
 .seq (.ops [oq 2 (.mv (.const (.string ByteArray.empty)))])
 (.seq (.ops [oq 3 (.mv (.tmp 0)),
   oe 4 (.call 94 [(.tmp 3), (.const (.string ⟨#[92]⟩)), (.const (.string ⟨#[92, 92]⟩))]),
   oe 5 (.call 94 [(.tmp 4), (.const (.string ⟨#[10]⟩)), (.const (.string ⟨#[92, 110]⟩))]),
   oq 2 (.mv (.tmp 5))])
 (.ret)), []⟩
theorem k_lnEscape : compF Tryz.prog 59 = some c_lnEscape := by kernel_rfl
theorem escape_ok {W : World} (L : Laid W) (s : Str) (hs : s.size ≤ 100000000) : ACalls Tryz.prog W 59 [.v (.string s)] AHeap.none fun v _ => v = .v (.string (escS s)) := by
 refine fn_run follows k_lnEscape rfl ?_
 simp only [oq, og, oe, oh, on, c_lnEscape, aretC_nil, List.zipIdx_cons, List.zipIdx_nil, List.map_cons, List.map_nil, Nat.zero_add]
 (try simp +decide -implicitDefEqProofs only [go_sem])
 refine stk_pure (replace_ok L s 92 ⟨#[92, 92]⟩ (by decide) (by decide) (by omega)) fun v hv => ?_
 subst hv
 have h1 : (mkS (putB 92 (bl ⟨#[92, 92]⟩) (bl s))).size ≤ 1000000000 := by
  rw [mkS_size]
  have : (putB 92 (bl ⟨#[92, 92]⟩) (bl s)).length ≤ 2 * (bl s).length := putB_len _ _ (by decide) _
  rw [bl_len] at this
  omega
 (try simp +decide -implicitDefEqProofs only [go_sem])
 refine stk_pure (replace_ok L _ 10 ⟨#[92, 110]⟩ (by decide) (by decide) h1) fun v hv => ?_
 subst hv
 (try simp +decide -implicitDefEqProofs only [go_sem])
 refine aret_pure (.inr rfl) ?_; simp +decide only [retOf, tget, if_true, if_false, ↓reduceIte, List.map_cons, List.map_nil]
 rw [bl_mkS]
 unfold escS
 rw [← escL_two]; rfl
end Go.Proofs.YtfaodacmdlnabaaGreatDoor.M
