/-
 Layer 16: the program's own lists: what rises out of a map, what a list lacks, what two join to.
-/
import Derived.Test.YtfaodacmdlnabaaGreatDoorDg2
import Derived.Test.YtfaodacmdlnabaaGreatDoorMU
import Derived.Test.YtfaodacmdlnabaaGreatDoorShelf
namespace Go.Proofs.YtfaodacmdlnabaaGreatDoor.M
open Go.RowKit
set_option linter.unusedVariables false
set_option linter.unusedSimpArgs false
theorem inj_of_nodup {α β : Type} {f : α → β} : ∀ {l : List α}, (l.map f).Nodup → ∀ {a b : α}, a ∈ l → b ∈ l → f a = f b → a = b
 | [], _, _, _, h, _, _ => by cases h
 | x :: l, hn, a, b, ha, hb, e => by
  rw [List.map_cons, List.nodup_cons] at hn
  rcases List.mem_cons.1 ha with h1 | h1 <;> rcases List.mem_cons.1 hb with h2 | h2
  ·rw [h1, h2]
  ·exact absurd (List.mem_map.2 ⟨b, h2, by rw [← e, h1]⟩) hn.1
  ·exact absurd (List.mem_map.2 ⟨a, h1, by rw [e, h2]⟩) hn.1
  ·exact inj_of_nodup hn.2 h1 h2 e
theorem nodup_len : ∀ {l m : List Str}, l.Nodup → (∀ x ∈ l, x ∈ m) → l.length ≤ m.length
 | [], _, _, _ => Nat.zero_le _
 | x :: l, m, hn, h => by
  rw [List.nodup_cons] at hn
  have hx := h x (by simp)
  have := nodup_len (m := m.erase x) hn.2 (fun y hy => by
   refine (List.mem_erase_of_ne ?_).2 (h y (by simp [hy]))
   intro e; subst e; exact hn.1 hy)
  rw [List.length_erase_of_mem hx] at this
  have : 0 < m.length := List.length_pos_of_mem hx
  simp only [List.length_cons]; omega
def c_risingB : AFn := ⟨1, 18, [2],
 .seq (.ops [oq 2 (.mv (.const (.slice none 0 0)))])
 (.seq (.ops [oq 3 (.mv (.const (.slice none 0 0)))])
 (.seq (.seq (.ops [oq 5 (.mv (.tmp 0)),
   oe 6 (.rg (.tmp 5))])
 (.block 0 (.loop (.seq (.ops [oe 7 (.nx (.tmp 6)),
     oq 8 (.ext (.tmp 7) 0)])
   (.seq (.cond (.tmp 8)
    (.skip)
    (.exit 0))
   (.block 1 (.seq (.ops [oq 9 (.men (.tmp 6)),
      oq 10 (.ext (.tmp 9) 0),
      oq 4 (.mv (.tmp 10))])
    (.ops [oq 11 (.mv (.tmp 3)),
      oq 12 (.mv (.tmp 4)),
      oe 13 (.bsl 9 1 [(.tmp 12)]),
      oe 14 (.app 9 1 16 false (.tmp 11) (.tmp 13)),
      oq 3 (.mv (.tmp 14))]))))))))
 (.seq (.ops [oq 15 (.mv (.tmp 3)),
   oe 16 (.call 169 [(.tmp 15)])])
 (.seq (.ops [oq 17 (.mv (.tmp 3)),
   oq 2 (.mv (.tmp 17))])
 (.ret))))), []⟩
theorem k_risingB : compF Tryz.prog 162 = some c_risingB := by kernel_rfl
set_option maxHeartbeats 1000000 in
theorem risingB_ok {W : World} {H : AHeap} {m c : Nat} {l : List (Str × Nat × AVal)} (hm : H m = some (.mp (smap l) c)) (hn : Neat l c) (hl : l.length ≤ 1000000) : ACalls Tryz.prog W 162 [.v (.map (some m))] H (fun r _ => r = .sl false 1 (strRows (sortS (l.map (·.1))))) := by
 refine fn_run follows k_risingB rfl ?_
 simp only [oq, og, oe, oh, on, c_risingB, aretC_nil, List.zipIdx_cons, List.zipIdx_nil, List.map_cons, List.map_nil, Nat.zero_add]
 (try simp +decide -implicitDefEqProofs only [go_sem])
 refine stk_rg (b := m) (c := c) (l := smap l) rfl hm fun p hp => ?_
 have hpm : m ≠ p := ne_of_some hm hp
 (try simp +decide -implicitDefEqProofs only [go_sem])
 refine stk_loop (fun n s => ∃ (done : List (Str × Nat × AVal)) (x : AVal) (H' : AHeap), done.length + n = l.length ∧ (done.map (·.1)).Nodup ∧ (∀ e ∈ done, e ∈ l) ∧ RowO H' 9 1 x (strRows (done.map (·.1))) ∧ H' p = some (.it m c (done.map (·.2.1)) c) ∧ H' m = some (.mp (smap l) c) ∧
  s = ⟨[(6, .v (.pointer (some ⟨p, 0, none⟩))), (3, x)], H'⟩) l.length _ (Weak.list [(6, .v (.pointer (some ⟨p, 0, none⟩))), (3, .v (.slice none 0 0))] (Sub.refl _) (by (try simp +decide -implicitDefEqProofs only [go_sem]))) ⟨[], .v (.slice none 0 0), _, by simp, by simp, by simp, RowO.nil, put_self _ _ _, by rw [put_ne _ _ hpm]; exact hm, rfl⟩ ?_
 rintro n s ⟨done, x, H', hlen, hnd, hsub, hrow, hHp, hHm, rfl⟩
 have hlt : ∀ e ∈ smap l, e.2.1 < c := by
  intro e he
  obtain ⟨e', he', rfl⟩ := List.mem_map.1 he
  exact hn.lt e' he'
 (try simp +decide -implicitDefEqProofs only [go_sem])
 refine stk_nx (p := p) (m := m) (since := c) (c0 := c) (c := c) (seen := done.map (·.2.1)) (l := smap l) rfl hHp hHm hlt (Nat.le_refl _) (fun hall => ?_) (fun e he hnew => ?_)
 ·have hsame : sortS (done.map (·.1)) = sortS (l.map (·.1)) := by
   refine rises_eq (sortS_strict hnd) (sortS_strict hn.keys) fun z => ?_
   rw [(sortS_perm _).mem_iff, (sortS_perm _).mem_iff]
   constructor
   ·intro hz
    obtain ⟨e, he, rfl⟩ := List.mem_map.1 hz
    exact List.mem_map.2 ⟨e, hsub e he, rfl⟩
   ·intro hz
    obtain ⟨e, he, rfl⟩ := List.mem_map.1 hz
    obtain ⟨d, hd, hdb⟩ := List.mem_map.1 (hall (.string e.1, e.2.1, e.2.2) (List.mem_map.2 ⟨e, he, rfl⟩))
    have : d = e := inj_of_nodup hn.born (hsub d hd) he hdb
    exact List.mem_map.2 ⟨d, hd, by rw [this]⟩
  have hln : done.length ≤ 1000000 := by omega
  (try simp +decide -implicitDefEqProofs only [go_sem])
  refine stk_call (sort_row Lay.slices_Sort_string Lay.slices_Sort_string_none (l := done.map (·.1)) hrow (by simp; omega)) fun v H2 hv => ?_
  (try simp +decide -implicitDefEqProofs only [go_sem])
  refine aret_row (E := 9) (rows := strRows (sortS (l.map (·.1)))) (.inr rfl) ?_ (strGood _) rfl
  simp +decide only [retOf, tget, if_true, if_false, ↓reduceIte]
  rw [← hsame]
  exact hv.1.row
 ·obtain ⟨e', he', rfl⟩ := List.mem_map.1 he
  have hment := ment_ok (H := H'.put p (.it m c (done.map (·.2.1) ++ [e'.2.1]) c)) hn.born he' (put_self _ _ _) (by rw [put_ne _ _ hpm]; exact hHm)
  have hoff : blkOf x ≠ some p := hrow.off hHp (fun _ _ _ h => by cases h)
  have hoffm : blkOf x ≠ some m := hrow.off hHm (fun _ _ _ h => by cases h)
  have hnew' : e'.1 ∉ done.map (·.1) := by
   intro hz
   obtain ⟨d, hd, hdk⟩ := List.mem_map.1 hz
   have : d = e' := inj_of_nodup hn.keys (hsub d hd) he' hdk
   exact hnew (List.mem_map.2 ⟨d, hd, by rw [this]⟩)
  have hnd' : ((done ++ [e']).map (·.1)).Nodup := by
   rw [List.map_append, List.nodup_append]
   exact ⟨hnd, by simp, fun a ha b hb => by simp at hb; subst hb; intro e; subst e; exact hnew' ha⟩
  have hsub' : ∀ e ∈ done ++ [e'], e ∈ l := by
   intro e he
   rcases List.mem_append.1 he with h | h
   ·exact hsub e h
   ·simp at h; subst h; exact he'
  have hle : (done ++ [e']).length ≤ l.length := by
   have := nodup_len hnd' (m := l.map (·.1)) (fun z hz => by obtain ⟨e, he, rfl⟩ := List.mem_map.1 hz; exact List.mem_map.2 ⟨e, hsub' e he, rfl⟩)
   simpa using this
  have hle2 : done.length + 1 ≤ l.length := by simpa using hle
  (try simp +decide -implicitDefEqProofs only [go_sem, hment])
  refine stk_appO (rows := strRows (done.map (·.1))) (hrow.put hoff) (by rfl) (by simp only [strRows_len, List.length_map, List.length_cons, List.length_nil]; omega) fun x2 H2 hr2 hrest => ?_
  (try simp +decide -implicitDefEqProofs only [go_sem])
  have hp2 : H2 p = some (.it m c ((done ++ [e']).map (·.2.1)) c) := by
   rw [List.map_append]; exact hrest p _ (put_self _ _ _) hoff
  have hm2 : H2 m = some (.mp (smap l) c) := hrest m _ ((put_ne H' (.it m c (done.map (·.2.1) ++ [e'.2.1]) c) hpm).trans hHm) hoffm
  refine ⟨n - 1, _, by omega, Weak.list [(6, .v (.pointer (some ⟨p, 0, none⟩))), (3, x2)] (Sub.refl _) (by (try simp +decide -implicitDefEqProofs only [go_sem])), done ++ [e'], x2, H2, by simp; omega, hnd', hsub', ?_, hp2, hm2, rfl⟩
  simpa [strRows, strRow] using hr2
end Go.Proofs.YtfaodacmdlnabaaGreatDoor.M
