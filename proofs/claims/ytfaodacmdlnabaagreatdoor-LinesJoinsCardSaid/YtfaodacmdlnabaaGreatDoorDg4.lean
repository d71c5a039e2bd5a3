/-
 Layer 16: what a list lacks, and what two join to, are what the document says.
-/
import Derived.Test.YtfaodacmdlnabaaGreatDoorDg3
namespace Go.Proofs.YtfaodacmdlnabaaGreatDoor.M
open Go.RowKit
set_option linter.unusedVariables false
set_option linter.unusedSimpArgs false
theorem putS_ins (x : Str) : ∀ l : List Str, putS l x = insS x l
 | [] => by simp [putS, placeS, insS]
 | y :: l => by
  have ih := putS_ins x l
  unfold putS at ih ⊢
  unfold insS
  by_cases h : Lt y x
  ·have hp : placeS (y :: l) x = placeS l x + 1 := by rw [placeS, if_pos h]
   rw [if_pos h, hp, ← ih]
   simp only [List.getD_cons_succ, List.length_cons, Nat.add_lt_add_iff_right]
   split <;> simp
  ·have hp : placeS (y :: l) x = 0 := by rw [placeS, if_neg h]
   rw [if_neg h, hp]
   simp
theorem fold_ins : ∀ (l : List Str) (a : List Str), a.Pairwise Lt → (l.foldl putS a).Pairwise Lt ∧ ∀ z, z ∈ l.foldl putS a ↔ z ∈ a ∨ z ∈ l
 | [], a, h => ⟨h, fun z => by simp⟩
 | x :: l, a, h => by
  obtain ⟨h1, h2⟩ := fold_ins l (putS a x) (by rw [putS_ins]; exact insS_rises x h)
  refine ⟨h1, fun z => ?_⟩
  rw [List.foldl_cons, h2, putS_ins, insS_mem]
  simp only [List.mem_cons]
  constructor
  ·rintro ((h | h) | h) <;> simp [h]
  ·rintro (h | h | h) <;> simp [h]
theorem joinS_rises (a b : List Str) : (dgJoin a b).Pairwise Lt := (fold_ins b _ (fold_ins a [] .nil).1).1
theorem joinS_mem (a b : List Str) (z : Str) : z ∈ dgJoin a b ↔ z ∈ a ∨ z ∈ b := by
 unfold dgJoin
 rw [(fold_ins b _ (fold_ins a [] .nil).1).2, (fold_ins a [] .nil).2]
 simp
theorem lacks_fold (has : List Str) : ∀ (l : List Str) (a : List Str), a.Pairwise Lt → (l.foldl (fun out x => if x ∈ has then out else putS out x) a).Pairwise Lt ∧ ∀ z, z ∈ l.foldl (fun out x => if x ∈ has then out else putS out x) a ↔ z ∈ a ∨ (z ∈ l ∧ z ∉ has)
 | [], a, h => ⟨h, fun z => by simp⟩
 | x :: l, a, h => by
  by_cases hx : x ∈ has
  ·obtain ⟨h1, h2⟩ := lacks_fold has l a h
   simp only [List.foldl_cons, if_pos hx]
   refine ⟨h1, fun z => ?_⟩
   rw [h2]
   simp only [List.mem_cons]
   constructor
   ·rintro (h | h)
    ·exact .inl h
    ·exact .inr ⟨.inr h.1, h.2⟩
   ·rintro (h | ⟨h | h, k⟩)
    ·exact .inl h
    ·subst h; exact absurd hx k
    ·exact .inr ⟨h, k⟩
  ·obtain ⟨h1, h2⟩ := lacks_fold has l (putS a x) (by rw [putS_ins]; exact insS_rises x h)
   simp only [List.foldl_cons, if_neg hx]
   refine ⟨h1, fun z => ?_⟩
   rw [h2, putS_ins, insS_mem]
   simp only [List.mem_cons]
   constructor
   ·rintro ((h | h) | h)
    ·subst h; exact .inr ⟨.inl rfl, hx⟩
    ·exact .inl h
    ·exact .inr ⟨.inr h.1, h.2⟩
   ·rintro (h | ⟨h | h, k⟩)
    ·exact .inl (.inr h)
    ·exact .inl (.inl h)
    ·exact .inr ⟨h, k⟩
theorem lacksS_rises (a b : List Str) : (lacksS a b).Pairwise Lt := (lacks_fold a b [] .nil).1
theorem lacksS_mem (a b : List Str) (z : Str) : z ∈ lacksS a b ↔ z ∈ b ∧ z ∉ a := by
 unfold lacksS
 rw [(lacks_fold a b [] .nil).2]
 simp
theorem mem_take_succ {l : List Str} {i : Nat} (h : i < l.length) (z : Str) : z ∈ l.take (i + 1) ↔ z = l.getD i ByteArray.empty ∨ z ∈ l.take i := by
 rw [List.take_succ_eq_append_getElem h, List.mem_append]
 simp [h]
 constructor <;> (rintro (h | h) <;> simp [h])
def c_Lacks : AFn := ⟨2, 31, [4],
 .seq (.ops [oq 4 (.mv (.const (.slice none 0 0)))])
 (.seq (.ops [oe 10 (.mk),
   oq 5 (.mv (.tmp 10))])
 (.seq (.seq (.ops [oq 11 (.mv (.tmp 1)),
   oq 12 (.len false (.tmp 11)),
   oq 13 (.mv (.const (.int .i64 0)))])
 (.block 0 (.loop (.seq (.ops [oq 14 (.bin .lss .num (.tmp 13) (.tmp 12))])
   (.seq (.cond (.tmp 14)
    (.skip)
    (.exit 0))
   (.seq (.block 1 (.seq (.ops [oq 15 (.ixa 1 (.tmp 11) (.tmp 13)),
      oq 16 (.ld false 1 (.tmp 15)),
      oq 7 (.mv (.tmp 16))])
    (.ops [oq 17 (.mv (.tmp 5)),
      oq 18 (.mv (.tmp 7)),
      on (.up none (.tmp 17) (.tmp 18) (.const (.bool true)))])))
   (.ops [oq 19 (.bin .add .num (.tmp 13) (.const (.int .i64 1))),
     oq 13 (.mv (.tmp 19))])))))))
 (.seq (.seq (.ops [oq 20 (.mv (.tmp 0)),
   oq 21 (.len false (.tmp 20)),
   oq 22 (.mv (.const (.int .i64 0)))])
 (.block 2 (.loop (.seq (.ops [oq 23 (.bin .lss .num (.tmp 22) (.tmp 21))])
   (.seq (.cond (.tmp 23)
    (.skip)
    (.exit 2))
   (.seq (.block 3 (.seq (.ops [oq 24 (.ixa 1 (.tmp 20) (.tmp 22)),
      oq 25 (.ld false 1 (.tmp 24)),
      oq 9 (.mv (.tmp 25))])
    (.ops [oq 26 (.mv (.tmp 5)),
      oq 27 (.mv (.tmp 9)),
      on (.del none (.tmp 26) (.tmp 27))])))
   (.ops [oq 28 (.bin .add .num (.tmp 22) (.const (.int .i64 1))),
     oq 22 (.mv (.tmp 28))])))))))
 (.seq (.ops [oq 29 (.mv (.tmp 5)),
   oe 30 (.call 162 [(.tmp 29)]),
   oq 4 (.mv (.tmp 30))])
 (.ret))))), []⟩
theorem k_Lacks : compF Tryz.prog 124 = some c_Lacks := by kernel_rfl
set_option maxHeartbeats 1000000 in
theorem lacks_ok {W : World} (f g : Bool) (a b : List Str) (ha : a.length ≤ 100000) (hb : b.length ≤ 100000) : ACalls Tryz.prog W 124 [.sl f 1 (strRows a), .sl g 1 (strRows b)] AHeap.none (fun r _ => r = .sl false 1 (strRows (lacksS a b))) := by
 refine fn_run follows k_Lacks rfl ?_
 simp only [oq, og, oe, oh, on, c_Lacks, aretC_nil, List.zipIdx_cons, List.zipIdx_nil, List.map_cons, List.map_nil, Nat.zero_add]
 (try simp +decide -implicitDefEqProofs only [go_sem])
 intro m hm0
 (try simp +decide -implicitDefEqProofs only [go_sem])
 refine stk_up (α := List (Str × Nat × AVal) × Nat) b.length (fun i t => ⟨[(13, .v (.int .i64 i)), (12, .v (.int .i64 b.length)), (11, .sl g 1 (strRows b)), (5, .v (.map (some m))), (0, .sl f 1 (strRows a))], AHeap.none.put m (.mp (smap t.1) t.2)⟩)
  (fun i t => Neat t.1 t.2 ∧ t.1.length ≤ i ∧ ∀ z, z ∈ t.1.map (·.1) ↔ z ∈ b.take i) ([], 0) (Weak.list _ (Sub.refl _) (by (try simp +decide -implicitDefEqProofs only [go_sem]))) ⟨Neat.nil, by simp, by simp⟩ ?_
 rintro i ⟨l, c⟩ hi ⟨hn, hlen, hmem⟩
 dsimp only at hn hlen hmem
 by_cases hl : i < b.length
 ·have h1 : (i : Int) < (b.length : Int) := by omega
  have hg := strRows_get hl
  have hw := wrap_in (n := i + 1) (by omega) (by omega)
  (try simp +decide -implicitDefEqProofs only [go_sem, h1, hg, hw])
  refine stk_up' (b := m) (c := c) (l := smap l) rfl (put_self _ _ _) (smap_ok l) rfl ?_
  (try simp +decide -implicitDefEqProofs only [go_sem, h1, hg, hw, mput_smap, mclk_smap, put_put])
  refine ⟨by omega, (sput (b.getD i ByteArray.empty) (.v (.bool true)) c l, sclk (b.getD i ByteArray.empty) c l), Weak.list _ (Sub.refl _) (by (try simp +decide -implicitDefEqProofs only [go_sem])), hn.put _ _, ?_, fun z => ?_⟩
  ·have := sput_len (b.getD i ByteArray.empty) (.v (.bool true)) c l
   simp only; omega
  ·rw [mem_take_succ hl, ← hmem]; exact sput_mem
 ·have h1 : ¬ (i : Int) < (b.length : Int) := by omega
  have hib : b.take i = b := by rw [List.take_of_length_le (by omega)]
  rw [hib] at hmem
  (try simp +decide -implicitDefEqProofs only [go_sem, h1])
  refine stk_up (α := List (Str × Nat × AVal)) a.length (fun j t => ⟨[(22, .v (.int .i64 j)), (21, .v (.int .i64 a.length)), (20, .sl f 1 (strRows a)), (5, .v (.map (some m)))], AHeap.none.put m (.mp (smap t) c)⟩)
   (fun j t => Neat t c ∧ t.length ≤ b.length ∧ ∀ z, z ∈ t.map (·.1) ↔ z ∈ b ∧ z ∉ a.take j) l (Weak.list _ (Sub.refl _) (by (try simp +decide -implicitDefEqProofs only [go_sem]))) ⟨hn, by omega, by simpa using hmem⟩ ?_
  rintro j t hj ⟨hn2, hlen2, hmem2⟩
  by_cases hl2 : j < a.length
  ·have h1 : (j : Int) < (a.length : Int) := by omega
   have hg := strRows_get hl2
   have hw := wrap_in (n := j + 1) (by omega) (by omega)
   (try simp +decide -implicitDefEqProofs only [go_sem, h1, hg, hw])
   refine stk_del (b := m) (c := c) (l := smap t) rfl (put_self _ _ _) (smap_ok t) rfl ?_
   (try simp +decide -implicitDefEqProofs only [go_sem, h1, hg, hw, mdel_smap, put_put])
   refine ⟨by omega, sdel (a.getD j ByteArray.empty) t, Weak.list _ (Sub.refl _) (by (try simp +decide -implicitDefEqProofs only [go_sem])), hn2.del _, ?_, fun z => ?_⟩
   ·have := sdel_len (a.getD j ByteArray.empty) t
    omega
   ·rw [sdel_mem hn2.keys, hmem2, mem_take_succ hl2]
    constructor
    ·rintro ⟨h1, h2, h3⟩; exact ⟨h2, fun h => by rcases h with h | h; exact h1 h; exact h3 h⟩
    ·rintro ⟨h1, h2⟩; exact ⟨fun h => h2 (.inl h), h1, fun h => h2 (.inr h)⟩
  ·have h1 : ¬ (j : Int) < (a.length : Int) := by omega
   have hja : a.take j = a := by rw [List.take_of_length_le (by omega)]
   rw [hja] at hmem2
   (try simp +decide -implicitDefEqProofs only [go_sem, h1])
   refine stk_call (risingB_ok (put_self _ _ _) hn2 (by omega)) fun v H2 hv => ?_
   subst hv
   (try simp +decide -implicitDefEqProofs only [go_sem])
   have e : sortS (t.map (·.1)) = lacksS a b := rises_eq (sortS_strict hn2.keys) (lacksS_rises a b) fun z => by rw [(sortS_perm _).mem_iff, hmem2, lacksS_mem]
   rw [← e]
   refine aret_loose (f := false) (sz := 1) (rows := strRows (sortS (t.map (·.1)))) (.inr rfl) ?_ rfl
   simp +decide only [retOf, tget, if_true, if_false, ↓reduceIte]
def IntV (x : AVal) : Prop := ∃ n : Int, x = .v (.int .i64 n)
theorem get_int {x : Str} {l : List (Str × Nat × AVal)} (h : ∀ e ∈ l, IntV e.2.2) : ∃ n : Int, (sget x l).getD (zeroA (.int .i64 0)) = .v (.int .i64 n) := by
 cases hg : sget x l with
 | none => exact ⟨0, rfl⟩
 | some v => obtain ⟨n, rfl⟩ := sget_all h hg; exact ⟨n, rfl⟩
end Go.Proofs.YtfaodacmdlnabaaGreatDoor.M
