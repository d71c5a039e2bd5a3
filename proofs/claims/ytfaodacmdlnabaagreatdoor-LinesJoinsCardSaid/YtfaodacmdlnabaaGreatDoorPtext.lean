/-
 Writing into a Builder, and what it holds.
-/
import Derived.Test.YtfaodacmdlnabaaGreatDoorPlift
import Derived.Test.YtfaodacmdlnabaaGreatDoorMU
namespace Go.Proofs.YtfaodacmdlnabaaGreatDoor.M
open Go.RowKit
set_option linter.unusedVariables false
set_option linter.unusedSimpArgs false
theorem bytesOf_append (a b : Str) : bytesOf (a ++ b) = bytesOf a ++ bytesOf b := by
 unfold bytesOf
 rw [ByteArray.data_append, Array.toList_append, List.map_append]
theorem bytesOf_get (t : Str) {j : Nat} (h : j < (bytesOf t).length) (h' : j < t.data.toList.length) : (bytesOf t)[j] = [.v (.int .u8 (t.data.toList[j]).toNat)] := List.getElem_map _
theorem bytesOf_len (a : Str) : (bytesOf a).length = a.size := by
 unfold bytesOf
 rw [List.length_map, Array.length_toList]; rfl
theorem RowO.blk {H : AHeap} {E sz b : Nat} {x : AVal} {rows : List (List AVal)} (h : RowO H E sz x rows) (hb : blkOf x = some b) : H b = some (.buf E sz rows) := by
 cases h with
 | nil => cases hb
 | bs h hn => cases hb; exact h
theorem RowO.shape {H : AHeap} {E sz : Nat} {x : AVal} {rows : List (List AVal)} (h : RowO H E sz x rows) : x = .v (.slice none 0 0) ∨ ∃ g n, x = .bs g sz n := by
 cases h with
 | nil => exact .inl rfl
 | bs h hn => exact .inr ⟨_, _, rfl⟩
theorem RowO.notC {H : AHeap} {E sz b T : Nat} {cs : List AVal} {x : AVal} {rows : List (List AVal)} (h : RowO H E sz x rows) (hb : H b = some (.cells T cs)) : blkOf x ≠ some b := fun e => by
 have := h.blk e
 rw [hb] at this; cases this
theorem RowO.one {H : AHeap} {E sz : Nat} {x : AVal} {rows : List (List AVal)} (h : RowO H E sz x rows) : x.one = true := by cases h <;> rfl
def c_WriteString : AFn := ⟨2, 19, [4, 5],
 .seq (.ops [oq 4 (.mv (.const (.int .i64 0))),
   oq 5 (.mv (.const .nilIface))])
 (.seq (.ops [oq 6 (.mv (.tmp 0)),
   oe 7 (.call 31 [(.tmp 6)])])
 (.seq (.ops [oq 8 (.mv (.tmp 0)),
   oq 9 (.mv (.tmp 0)),
   oq 10 (.nck (.tmp 9)),
   oq 11 (.fad 1 1 (.tmp 10)),
   oq 12 (.ld false 1 (.tmp 11)),
   oq 13 (.mv (.tmp 1)),
   oe 14 (.app 5 1 1 true (.tmp 12) (.tmp 13)),
   oq 15 (.nck (.tmp 8)),
   oq 16 (.fad 1 1 (.tmp 15)),
   on (.st 1 (.tmp 16) (.tmp 14))])
 (.seq (.ops [oq 17 (.mv (.tmp 1)),
   oq 18 (.len true (.tmp 17)),
   oq 4 (.mv (.tmp 18)),
   oq 5 (.mv (.const .nilIface))])
 (.ret)))), []⟩
theorem k_WriteString : compF Tryz.prog 18 = some c_WriteString := by kernel_rfl
set_option maxHeartbeats 2000000 in
theorem writeT_ok {W : World} {T : TypeId} (hT : Bears T) {H : AHeap} {b : Nat} {t s : Str} (hB : BuildT T H b t) (hs : t.size + s.size ≤ 100000000000) : ACalls Tryz.prog W 18 [.v (.pointer (some ⟨b, 0, none⟩)), .v (.string s)] H fun r H' => BuildT T H' b (t ++ s) := by
 obtain ⟨p, x, hb, hp, hr⟩ := hB
 refine fn_run follows k_WriteString rfl ?_
 simp only [oq, og, oe, oh, on, c_WriteString, aretC_nil, List.zipIdx_cons, List.zipIdx_nil, List.map_cons, List.map_nil, Nat.zero_add]
 (try simp +decide -implicitDefEqProofs only [go_sem])
 refine stk_call (cc_ok hT hb hp) fun v H1 hv => ?_
 obtain ⟨rfl, rfl⟩ := hv
 have hr2 : RowO (H.put b (.cells T [.v (.pointer (some ⟨b, 0, none⟩)), x])) 5 1 x (bytesOf t) := hr.put (hr.notC hb)
 have hxb := hr.notC hb
 obtain rfl | ⟨g0, n0, rfl⟩ := hr.shape
 all_goals (
  (try simp +decide -implicitDefEqProofs only [go_sem, hp_self, lay, oneOr, List.take_succ_cons, List.take_zero, List.drop_succ_cons, List.drop_zero, List.nil_append, List.cons_append, Option.getD_some, Nat.reduceAdd, Nat.reduceLeDiff, List.append_nil, and_self, List.all_cons, List.all_nil])
  refine stk_appO hr2 (by rfl) (by rw [bytesOf_len, bytesOf_len]; omega) fun x1 H2 h1 h2 => ?_
  have hH2 := h2 b _ (hp_self _ _ _) hxb
  have hnb := h1.notC hH2
  obtain rfl | ⟨g1, n1, rfl⟩ := h1.shape
  all_goals (
   (try simp +decide -implicitDefEqProofs only [go_sem, hH2, lay, oneOr, List.take_succ_cons, List.take_zero, List.drop_succ_cons, List.drop_zero, List.nil_append, List.cons_append, Option.getD_some, Nat.reduceAdd, Nat.reduceLeDiff, List.append_nil, and_self, List.all_cons, List.all_nil])
   refine ⟨.inr rfl, _, .any, Sub.refl _, .any _, _, _, hp_self _ _ _, .inr rfl, ?_⟩
   rw [bytesOf_append]
   exact h1.put hnb))
theorem write_ok {W : World} {H : AHeap} {b : Nat} {t s : Str} (hB : BuildH H b t) (hs : t.size + s.size ≤ 100000000000) : ACalls Tryz.prog W 18 [.v (.pointer (some ⟨b, 0, none⟩)), .v (.string s)] H fun r H' => BuildH H' b (t ++ s) := writeT_ok liesB hB hs
theorem bstring_ok {W : World} {T : TypeId} {H : AHeap} {b : Nat} {t : Str} (hB : BuildT T H b t) (ht : t ≠ ByteArray.empty) : ACalls Tryz.prog W 19 [.v (.pointer (some ⟨b, 0, none⟩))] H fun r _ => r = .v (.string t) := by
 obtain ⟨p, x, hb, hp, hr⟩ := hB
 intro S w us hw hv
 obtain ⟨u, rfl, hu⟩ := hv.of1
 obtain rfl := hu.v_eq
 obtain ⟨cur, fz, h1, h2, h3, h4, h5⟩ := hw.objs _ _ hb
 obtain ⟨c0, c1, rfl⟩ : ∃ c0 c1, cur = #[c0, c1] := by
  rcases cur with ⟨l⟩
  rcases l with _ | ⟨a, _ | ⟨c, _ | ⟨d, l⟩⟩⟩ <;> simp at h2
  exact ⟨a, c, rfl⟩
 have e1 := h5 1 (by simp) (by simp)
 simp only [List.getElem_cons_succ, List.getElem_cons_zero, List.getElem_toArray] at e1
 have hbl := bytesOf_len t
 generalize hrows : bytesOf t = rows at hr hbl
 have hne : t.data.toList ≠ [] := fun h => ht (by
  apply ByteArray.ext
  apply Array.ext'
  rw [h]; rfl)
 have htl : t.data.toList.length = t.size := by rw [Array.length_toList]; rfl
 cases hr with
 | nil =>
  exfalso
  apply hne
  rw [← List.length_eq_zero_iff, htl, ← hbl]; rfl
 | @bs g n _ hg hn =>
  cases e1 with
  | @bs _ _ _ c hnc hm hwd =>
  obtain ⟨cur2, fz2, c2, k1, k2, k3, k4, k5, k6, k7, k8⟩ := hw.objs _ _ hg
  have hgb : g ≠ b := fun e => by rw [e, hb] at hg; cases hg
  have hnl : n = t.data.toList.length := by rw [hn, hbl, htl]
  subst hnl
  obtain ⟨cur3, E3, fz3, m1, m2⟩ := hwd
  rw [k1] at m1; cases m1
  refine (bstr_row b g c c0 cur2 fz t.data.toList w h1 hne hm hnc ⟨fz2, k1⟩ (by omega) (fun j y hy => ?_)).mono ?_
  ·obtain ⟨hj, rfl⟩ := List.getElem?_eq_some_iff.1 hy
   have hjr : j < rows.length := by omega
   obtain ⟨u, hu1, hu2⟩ := k8 j hjr 0 (by rw [k6 j hjr]; omega)
   have e3 : rows[j] = [.v (.int .u8 (t.data.toList[j]).toNat)] := by subst hrows; exact bytesOf_get t hjr hj
   simp only [e3, List.getElem_cons_zero] at hu2
   obtain rfl := hu2.v_eq
   have e4 : w.cell? ⟨g, j, none⟩ = some (.int .u8 (t.data.toList[j]).toNat) := by
    rw [cell_at k1]; simpa using hu1
   unfold Addr.add
   split
   ·rename_i h0; subst h0; exact e4
   ·simpa using e4
  ·rintro e w' ⟨rfl, rfl⟩
   have hother : ∀ c, c ≠ g → (w.drew.freeze ⟨g, 0, none⟩ t.data.toList.length).heap[c]? = w.heap[c]? := fun c hc => by
    unfold World.freeze
    split
    ·rfl
    ·show (w.heap.modify g _)[c]? = _
     rw [Array.getElem?_modify, if_neg (fun e => hc e.symm)]
   have hsz : (w.drew.freeze ⟨g, 0, none⟩ t.data.toList.length).heap.size = w.heap.size := by
    unfold World.freeze
    split
    ·rfl
    ·show (w.heap.modify g _).size = _
     simp
   have hwg : ∀ m, Wide w g m → Wide (w.drew.freeze ⟨g, 0, none⟩ t.data.toList.length) g m := fun m ⟨a, E, f, q1, q2⟩ => by
    rw [k1] at q1; cases q1
    unfold World.freeze Wide
    split
    ·exact ⟨_, _, _, k1, q2⟩
    ·have hfz : ∀ f : Obj → Obj, (∀ fz, ∃ fz', f (.cells cur2 5 fz) = .cells cur2 5 fz') → ∃ fz', (w.heap.modify g f)[g]? = some (.cells cur2 5 fz') := fun f hf => by
      obtain ⟨fz', h⟩ := hf fz2
      exact ⟨fz', by rw [Array.getElem?_modify, if_pos rfl, k1]; simp [h]⟩
     refine Exists.elim (hfz _ ?hf) (fun fz' h => ⟨cur2, _, fz', h, q2⟩)
     rintro ⟨lo, hi⟩
     exact ⟨_, rfl⟩
   have hos : (w.drew.freeze ⟨g, 0, none⟩ t.data.toList.length).os = w.os ∧ (w.drew.freeze ⟨g, 0, none⟩ t.data.toList.length).tape = w.tape ∧ (w.drew.freeze ⟨g, 0, none⟩ t.data.toList.length).output = w.output := by
    unfold World.freeze
    split
    ·exact ⟨rfl, rfl, rfl⟩
    ·exact ⟨rfl, rfl, rfl⟩
   have hgW := hw.new _ _ hg
   refine ⟨_, AHeap.none, S, _, rfl, rfl, ⟨by rw [hsz]; exact Nat.le_refl _, fun c hc hH => hother c (fun e => by rw [e, hg] at hH; cases hH), wide_of (fun c _ hc => hother c hc) hwg, fun _ h => h, fun _ h => .inl h, fun c h => absurd rfl h⟩, ⟨⟨hos.1.trans hw.old.os, hos.2.1.trans hw.old.tape, hos.2.2.trans hw.old.output, by rw [hsz]; exact hw.old.size, fun c hc => (hother c (by omega)).trans (hw.old.block c hc)⟩, fun _ _ h => (by cases h), fun c h => by rw [hsz]; exact hw.lt c h, fun _ _ h => (by cases h), fun _ _ h => (by cases h)⟩, ?_⟩
   exact .v _
def nlS : Str := ⟨#[10]⟩
def spS : Str := ⟨#[32]⟩
def c_Text1 : AFn := ⟨1, 7, [],
 .ops [oq 3 (.mv (.tmp 0)),
   oe 4 (.call 60 [(.tmp 3), (.const (.string ⟨#[32]⟩))]),
   oq 5 (.bin .add .num (.tmp 4) (.const (.string ⟨#[10]⟩))),
   oe 6 (.call 18 [(.tmp 1), (.tmp 5)])], []⟩
theorem k_Text1 : compF Tryz.prog 62 = some c_Text1 := by kernel_rfl
set_option maxHeartbeats 2000000 in
theorem lay_ok {W : World} {H : AHeap} {f : Bool} {b : Nat} {t : Str} (ws : List Str) (hB : BuildH H b t) (hn : ws.length ≤ 1000000) (hs : t.size + (joinS ws spS).size ≤ 10000000000) :
  ACalls Tryz.prog W 62 [.sl f 1 (strRows ws), .v (.pointer (some ⟨b, 0, none⟩))] H fun r H' => BuildH H' b (t ++ (joinS ws spS ++ nlS)) := by
 refine fn_run follows k_Text1 rfl ?_
 simp only [oq, og, oe, oh, on, c_Text1, aretC_nil, List.zipIdx_cons, List.zipIdx_nil, List.map_cons, List.map_nil, Nat.zero_add]
 (try simp +decide -implicitDefEqProofs only [go_sem])
 refine stk_pure (join_ok ws spS hn (by omega)) fun v hv => ?_
 subst hv
 have e1 : ((joinS ws spS).size : Int) + 1 ≤ 9223372036854775807 := by omega
 have e2 : (⟨#[10]⟩ : ByteArray).size = 1 := rfl
 have e3 : (joinS ws spS).size + 1 ≤ 9223372036854775807 := by omega
 (try simp +decide -implicitDefEqProofs only [go_sem, e2, e3])
 refine stk_call (write_ok (s := joinS ws spS ++ nlS) hB (by rw [ByteArray.size_append, show nlS.size = 1 from rfl]; omega)) fun v H1 hv => ?_
 (try simp +decide -implicitDefEqProofs only [go_sem])
 exact ⟨.inl rfl, _, .any, Sub.refl _, .any _, hv⟩
end Go.Proofs.YtfaodacmdlnabaaGreatDoor.M
