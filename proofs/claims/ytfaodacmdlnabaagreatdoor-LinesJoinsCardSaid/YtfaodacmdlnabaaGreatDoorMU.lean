/-
 Maps of texts, gone through.
-/
import Derived.Test.YtfaodacmdlnabaaGreatDoorMS
import Derived.Test.YtfaodacmdlnabaaGreatDoorMT
namespace Go.Proofs.YtfaodacmdlnabaaGreatDoor.M
open Go.RowKit Go.Sort
set_option linter.unusedVariables false
set_option linter.unusedSimpArgs false
variable {P : Program} {W : World} {k : List Item} {Q : Exit → AState → Prop} {s : AState}
instance : LawfulBEq ByteArray where
 eq_of_beq {a b} h := by rw [byte_beq] at h; exact of_decide_eq_true h
 rfl {a} := by rw [byte_beq]; exact decide_eq_true rfl
theorem put_none {H : AHeap} {b x : Nat} {o : AObj} (h : (H.put b o) x = none) : x ≠ b ∧ H x = none := by
 by_cases e : x = b
 ·subst e; rw [put_self] at h; cases h
 ·rw [put_ne H o e] at h; exact ⟨e, h⟩
theorem ne_of_some {H : AHeap} {b x : Nat} {o : AObj} (h : H b = some o) (hx : H x = none) : b ≠ x := fun e => by rw [e, hx] at h; cases h
theorem Row.off {H : AHeap} {E sz : Nat} {x : AVal} {rows : List (List AVal)} (h : Row H E sz x rows) {b : Nat} {o : AObj} (hb : H b = some o) (ho : ∀ E sz rows, o ≠ .buf E sz rows) : blkOf x ≠ some b := by
 intro e
 cases h with
 | nil => cases e
 | sl rows => cases e
 | bs h => cases e; rw [h] at hb; cases hb; exact ho _ _ _ rfl
theorem Row.keep {H H' : AHeap} {E sz : Nat} {x : AVal} {rows : List (List AVal)} (h : Row H E sz x rows) (hk : ∀ b o, blkOf x = some b → H b = some o → H' b = some o) : Row H' E sz x rows := by
 cases h with
 | nil => exact .nil
 | sl rows => exact .sl rows
 | bs h => exact .bs (hk _ _ rfl h)
theorem Row.put {H : AHeap} {E sz : Nat} {x : AVal} {rows : List (List AVal)} (h : Row H E sz x rows) {b : Nat} {o : AObj} (hb : blkOf x ≠ some b) : Row (H.put b o) E sz x rows :=
 h.keep fun c o' hc ho => by rw [put_ne H o (fun e => hb (by rw [hc, e]))]; exact ho
theorem stk_up' {d : Option Nat} {kc : Option IntKind} {x i v : Operand} {r : List AOper} {b c : Nat} {l : List (Value × Nat × AVal)} (hx : mapB (ev s.tm x) = some b) (hb : s.H b = some (.mp l c)) (hl : l.all (fun e => kOk kc e.1) = true) (hk : kOk kc (keyA (ev s.tm i)) = true)
  (h : stk P W (.ops r :: k) Q .normal ((⟨s.tm, s.H.put b (.mp (mput (keyA (ev s.tm i)) (ev s.tm v) c l) (mclk (keyA (ev s.tm i)) c l))⟩ : AState).put d .any)) : stk P W (.ops (⟨d, none, .e (.up kc x i v)⟩ :: r) :: k) Q .normal s := by
 show mapped s.H (ev s.tm x) _
 unfold mapped
 simp only [hx, hb]
 exact ⟨⟨hl, hk⟩, h⟩
theorem stk_del {d : Option Nat} {kc : Option IntKind} {x i : Operand} {r : List AOper} {b c : Nat} {l : List (Value × Nat × AVal)} (hx : mapB (ev s.tm x) = some b) (hb : s.H b = some (.mp l c)) (hl : l.all (fun e => kOk kc e.1) = true) (hk : kOk kc (keyA (ev s.tm i)) = true)
  (h : stk P W (.ops r :: k) Q .normal ((⟨s.tm, s.H.put b (.mp (mdel (keyA (ev s.tm i)) l) c)⟩ : AState).put d .any)) : stk P W (.ops (⟨d, none, .e (.del kc x i)⟩ :: r) :: k) Q .normal s := by
 show mapped s.H (ev s.tm x) _
 unfold mapped
 simp only [hx, hb]
 exact ⟨⟨hl, hk⟩, h⟩
theorem stk_rg {d : Option Nat} {x : Operand} {r : List AOper} {b c : Nat} {l : List (Value × Nat × AVal)} (hx : mapB (ev s.tm x) = some b) (hb : s.H b = some (.mp l c))
  (h : ∀ p, s.H p = none → stk P W (.ops r :: k) Q .normal ((⟨s.tm, s.H.put p (.it b c [] c)⟩ : AState).put d (.v (.pointer (some ⟨p, 0, none⟩))))) : stk P W (.ops (⟨d, none, .e (.rg x)⟩ :: r) :: k) Q .normal s := by
 show mapped s.H (ev s.tm x) _
 unfold mapped
 simp only [hx, hb]
 exact h
theorem stk_nx {d : Option Nat} {x : Operand} {r : List AOper} {p m since c0 c : Nat} {seen : List Nat} {l : List (Value × Nat × AVal)} (hx : ptrB (ev s.tm x) = some p) (hp : s.H p = some (.it m since seen c0)) (hm : s.H m = some (.mp l c)) (h1 : ∀ e ∈ l, e.2.1 < since) (h2 : since ≤ c0)
  (hd : (∀ e ∈ l, e.2.1 ∈ seen) → stk P W (.ops r :: k) Q .normal (s.put d (.tup [.v (.bool false)])))
  (hn : ∀ e ∈ l, e.2.1 ∉ seen → stk P W (.ops r :: k) Q .normal ((⟨s.tm, s.H.put p (.it m since (seen ++ [e.2.1]) c)⟩ : AState).put d (.tup [.v (.bool true), .v e.1, e.2.2]))) : stk P W (.ops (⟨d, none, .e (.nx x)⟩ :: r) :: k) Q .normal s := by
 have : aeff P W (.nx x) d s (fun s' => rops P W r s' (stk P W k Q .normal)) := by
  simp only [aeff, hx, hp, hm]
  exact ⟨⟨h1, h2⟩, hd, hn⟩
 exact this
theorem RowO.off {H : AHeap} {E sz : Nat} {x : AVal} {rows : List (List AVal)} (h : RowO H E sz x rows) {b : Nat} {o : AObj} (hb : H b = some o) (ho : ∀ E sz rows, o ≠ .buf E sz rows) : blkOf x ≠ some b := h.row.off hb ho
theorem RowO.keep {H H' : AHeap} {E sz : Nat} {x : AVal} {rows : List (List AVal)} (h : RowO H E sz x rows) (hk : ∀ b o, blkOf x = some b → H b = some o → H' b = some o) : RowO H' E sz x rows := by
 cases h with
 | nil => exact .nil
 | bs h hn => exact .bs (hk _ _ rfl h) hn
theorem RowO.put {H : AHeap} {E sz : Nat} {x : AVal} {rows : List (List AVal)} (h : RowO H E sz x rows) {b : Nat} {o : AObj} (hb : blkOf x ≠ some b) : RowO (H.put b o) E sz x rows :=
 h.keep fun c o' hc ho => by rw [put_ne H o (fun e => hb (by rw [hc, e]))]; exact ho
theorem sort_row {f : FuncId} (h : ∀ (blk off cap : Nat) (ss : List (List UInt8)) (w : World), Holds encStr w blk off ss.toArray → blk < w.heap.size → ss.length < 4611686018427387904 →
   Calls P f #[.slice (some ⟨blk, off, none⟩) ss.length cap] w fun e w' => e = .returned (.tuple #[]) ∧ ∃ n os, w' = grow (putRow encStr (Sort.ahead w n) blk off (ss.mergeSort fun x y => decide (x ≤ y)).toArray) os)
  (h0 : ∀ (p : Option Addr) (cap : Nat) (w : World), Calls P f #[.slice p 0 cap] w fun e w' => e = .returned (.tuple #[]) ∧ w' = w)
  {H : AHeap} {E : TypeId} {x : AVal} {l : List Str} (hr : RowO H E 1 x (strRows l)) (hl : l.length < 4611686018427387904) : ACalls P W f [x] H fun r H' => RowO H' E 1 x (strRows (sortS l)) ∧ ∀ b, blkOf x ≠ some b → H' b = H b := by
 generalize he : strRows l = rows at hr
 cases hr with
 | nil =>
  have : l = [] := by simpa [strRows] using he
  subst this
  refine (sort_none h0).mono fun r H' e => ?_
  subst e
  have e0 : strRows (sortS []) = [] := by simp [strRows, sortS]
  rw [e0]
  exact ⟨RowO.nil, fun _ _ => rfl⟩
 | @bs g n rows hb hn =>
  subst he
  refine (sort_lift h hb hl (by rw [hn, strRows_len])).mono fun r H' e => ?_
  subst e
  refine ⟨.bs (put_self H g _) ?_, fun b hb => put_ne H _ (fun e => hb (by rw [e]; rfl))⟩
  rw [hn, strRows_len, strRows_len, (sortS_perm l).length_eq]
/-- A text put into a list that rises. -/
def insS (x : Str) : List Str → List Str
 | [] => [x]
 | y :: l => if Lt y x then y :: insS x l else if y = x then y :: l else x :: y :: l
theorem insS_mem (x z : Str) : ∀ l : List Str, z ∈ insS x l ↔ z = x ∨ z ∈ l
 | [] => by simp [insS]
 | y :: l => by
  have := insS_mem x z l
  unfold insS
  split
  ·simp only [List.mem_cons, this]
   constructor
   ·rintro (h | h | h) <;> simp [h]
   ·rintro (h | h | h) <;> simp [h]
  ·split
   ·rename_i h; subst h; simp
   ·simp
theorem insS_rises (x : Str) : ∀ {l : List Str}, l.Pairwise Lt → (insS x l).Pairwise Lt
 | [], _ => by simp [insS]
 | y :: l, h => by
  obtain ⟨h1, h2⟩ := List.pairwise_cons.1 h
  unfold insS
  split
  ·rename_i hy
   refine List.pairwise_cons.2 ⟨fun z hz => ?_, insS_rises x h2⟩
   rcases (insS_mem x z l).1 hz with rfl | hz
   ·exact hy
   ·exact h1 z hz
  ·split
   ·exact h
   ·rename_i hy hne
    have hxy : Lt x y := by
     rcases Lt.total y x with h | h | h
     ·exact absurd h hy
     ·exact absurd h hne
     ·exact h
    refine List.pairwise_cons.2 ⟨fun z hz => ?_, h⟩
    rcases List.mem_cons.1 hz with rfl | hz
    ·exact hxy
    ·exact hxy.trans (h1 z hz)
/-- A map of texts. -/
def smap (l : List (Str × Nat × AVal)) : List (Value × Nat × AVal) := l.map fun e => (.string e.1, e.2.1, e.2.2)
theorem smap_ok (l : List (Str × Nat × AVal)) : (smap l).all (fun e => kOk none e.1) = true := by simp [smap, kOk]
def sput (x : Str) (v : AVal) (c : Nat) : List (Str × Nat × AVal) → List (Str × Nat × AVal)
 | [] => [(x, c, v)]
 | e :: l => if x = e.1 then (x, e.2.1, v) :: l else e :: sput x v c l
def sdel (x : Str) : List (Str × Nat × AVal) → List (Str × Nat × AVal)
 | [] => []
 | e :: l => if x = e.1 then l else e :: sdel x l
def sget (x : Str) : List (Str × Nat × AVal) → Option AVal
 | [] => none
 | e :: l => if x = e.1 then some e.2.2 else sget x l
def sclk (x : Str) (c : Nat) (l : List (Str × Nat × AVal)) : Nat := if (sget x l).isSome then c else c + 1
theorem mget_smap (x : Str) : ∀ l, mget (.string x) (smap l) = sget x l
 | [] => rfl
 | e :: l => by
  have := mget_smap x l
  simp only [smap, List.map_cons, mget, sget, kEq, decide_eq_true_eq] at this ⊢
  split <;> simp_all
theorem mput_smap (x : Str) (v : AVal) (c : Nat) : ∀ l, mput (.string x) v c (smap l) = smap (sput x v c l)
 | [] => rfl
 | e :: l => by
  have := mput_smap x v c l
  simp only [smap, List.map_cons, mput, sput, kEq, decide_eq_true_eq] at this ⊢
  split <;> simp_all
theorem mdel_smap (x : Str) : ∀ l, mdel (.string x) (smap l) = smap (sdel x l)
 | [] => rfl
 | e :: l => by
  have := mdel_smap x l
  simp only [smap, List.map_cons, mdel, sdel, kEq, decide_eq_true_eq] at this ⊢
  split <;> simp_all
theorem mclk_smap (x : Str) (c : Nat) (l : List (Str × Nat × AVal)) : mclk (.string x) c (smap l) = sclk x c l := by unfold mclk sclk; rw [mget_smap]
/-- A map's entries are in order: no key twice, stamps below the clock, none twice. -/
structure Neat (l : List (Str × Nat × AVal)) (c : Nat) : Prop where
 keys : (l.map (·.1)).Nodup
 born : (l.map (·.2.1)).Nodup
 lt : ∀ e ∈ l, e.2.1 < c
theorem Neat.nil : Neat [] 0 := ⟨by simp, by simp, by simp⟩
theorem sget_none {x : Str} : ∀ {l : List (Str × Nat × AVal)}, sget x l = none ↔ x ∉ l.map (·.1)
 | [] => by simp [sget]
 | e :: l => by
  have := sget_none (x := x) (l := l)
  unfold sget
  split
  ·rename_i h; simp [h]
  ·rename_i h; simp [h, this]
theorem sput_keys {x : Str} {v : AVal} {c : Nat} : ∀ {l : List (Str × Nat × AVal)}, (sget x l).isSome = true → (sput x v c l).map (·.1) = l.map (·.1) ∧ (sput x v c l).map (·.2.1) = l.map (·.2.1)
 | [], h => by simp [sget] at h
 | e :: l, h => by
  unfold sget at h
  unfold sput
  split at h
  ·rename_i hx; simp [hx]
  ·rename_i hx
   have := sput_keys (x := x) (v := v) (c := c) (l := l) h
   simp [hx, this.1, this.2]
theorem sput_new {x : Str} {v : AVal} {c : Nat} : ∀ {l : List (Str × Nat × AVal)}, sget x l = none → sput x v c l = l ++ [(x, c, v)]
 | [], _ => rfl
 | e :: l, h => by
  unfold sget at h
  unfold sput
  split at h
  ·cases h
  ·rename_i hx; rw [if_neg hx, sput_new h]; rfl
theorem Neat.put {l : List (Str × Nat × AVal)} {c : Nat} (h : Neat l c) (x : Str) (v : AVal) : Neat (sput x v c l) (sclk x c l) := by
 cases hg : sget x l with
 | none =>
  have hx := sget_none.1 hg
  have hc : sclk x c l = c + 1 := by simp [sclk, hg]
  rw [sput_new hg, hc]
  refine ⟨?_, ?_, fun e he => ?_⟩
  ·rw [List.map_append, List.nodup_append]
   refine ⟨h.keys, by simp, fun a ha b hb => ?_⟩
   simp at hb; subst hb
   intro e; subst e; exact hx ha
  ·rw [List.map_append, List.nodup_append]
   refine ⟨h.born, by simp, fun a ha b hb => ?_⟩
   simp at hb; subst hb
   obtain ⟨e, he, rfl⟩ := List.mem_map.1 ha
   have := h.lt e he
   omega
  ·rcases List.mem_append.1 he with he | he
   ·have := h.lt e he; omega
   ·simp at he; subst he; simp
 | some w =>
  have hs : (sget x l).isSome = true := by rw [hg]; rfl
  have hc : sclk x c l = c := by simp [sclk, hg]
  obtain ⟨h1, h2⟩ := sput_keys (v := v) (c := c) hs
  rw [hc]
  refine ⟨by rw [h1]; exact h.keys, by rw [h2]; exact h.born, fun e he => ?_⟩
  have : e.2.1 ∈ (sput x v c l).map (·.2.1) := List.mem_map.2 ⟨e, he, rfl⟩
  rw [h2] at this
  obtain ⟨e', he', h3⟩ := List.mem_map.1 this
  rw [← h3]; exact h.lt e' he'
theorem sput_mem {x y : Str} {v : AVal} {c : Nat} {l : List (Str × Nat × AVal)} : y ∈ (sput x v c l).map (·.1) ↔ y = x ∨ y ∈ l.map (·.1) := by
 cases hg : sget x l with
 | none => rw [sput_new hg]; simp; constructor <;> (rintro (h | h) <;> simp [h])
 | some w =>
  have hs : (sget x l).isSome = true := by rw [hg]; rfl
  rw [(sput_keys (v := v) (c := c) hs).1]
  constructor
  ·exact .inr
  ·rintro (rfl | h)
   ·exact Classical.byContradiction fun hn => by rw [sget_none.2 hn] at hg; cases hg
   ·exact h
theorem sdel_sub (x : Str) : ∀ l : List (Str × Nat × AVal), (sdel x l).Sublist l
 | [] => .slnil
 | e :: l => by
  unfold sdel
  split
  ·exact List.sublist_cons_self e l
  ·exact (sdel_sub x l).cons_cons e
theorem Neat.del {l : List (Str × Nat × AVal)} {c : Nat} (h : Neat l c) (x : Str) : Neat (sdel x l) c :=
 ⟨h.keys.sublist ((sdel_sub x l).map _), h.born.sublist ((sdel_sub x l).map _), fun e he => h.lt e ((sdel_sub x l).subset he)⟩
theorem sdel_mem {x y : Str} : ∀ {l : List (Str × Nat × AVal)}, (l.map (·.1)).Nodup → (y ∈ (sdel x l).map (·.1) ↔ y ≠ x ∧ y ∈ l.map (·.1))
 | [], _ => by simp [sdel]
 | e :: l, h => by
  rw [List.map_cons, List.nodup_cons] at h
  unfold sdel
  split
  ·rename_i hx
   subst hx
   simp only [List.map_cons, List.mem_cons]
   constructor
   ·intro hy; exact ⟨fun e2 => h.1 (by rw [← e2]; exact hy), .inr hy⟩
   ·rintro ⟨h1, h2 | h2⟩
    ·exact absurd h2 h1
    ·exact h2
  ·rename_i hx
   simp only [List.map_cons, List.mem_cons, sdel_mem h.2]
   constructor
   ·rintro (rfl | ⟨h1, h2⟩)
    ·exact ⟨fun e2 => hx e2.symm, .inl rfl⟩
    ·exact ⟨h1, .inr h2⟩
   ·rintro ⟨h1, h2 | h2⟩
    ·exact .inl h2
    ·exact .inr ⟨h1, h2⟩
theorem kOk_str (x : Str) : kOk none (.string x) = true := rfl
theorem put_put (H : AHeap) (b : Nat) (o o' : AObj) : (H.put b o).put b o' = H.put b o' := by
 funext x; unfold AHeap.put; split <;> rfl
theorem sput_len (x : Str) (v : AVal) (c : Nat) : ∀ l : List (Str × Nat × AVal), (sput x v c l).length ≤ l.length + 1
 | [] => by simp [sput]
 | e :: l => by
  have := sput_len x v c l
  unfold sput
  split <;> simp <;> omega
theorem sdel_len (x : Str) (l : List (Str × Nat × AVal)) : (sdel x l).length ≤ l.length := (sdel_sub x l).length_le
theorem sput_all {p : AVal → Prop} {x : Str} {v : AVal} {c : Nat} (hv : p v) : ∀ {l : List (Str × Nat × AVal)}, (∀ e ∈ l, p e.2.2) → ∀ e ∈ sput x v c l, p e.2.2
 | [], _, e, he => by simp [sput] at he; subst he; exact hv
 | f :: l, h, e, he => by
  unfold sput at he
  split at he
  ·rcases List.mem_cons.1 he with rfl | he
   ·exact hv
   ·exact h e (by simp [he])
  ·rcases List.mem_cons.1 he with rfl | he
   ·exact h _ (by simp)
   ·exact sput_all hv (fun e he => h e (by simp [he])) e he
theorem sget_all {p : AVal → Prop} {x : Str} : ∀ {l : List (Str × Nat × AVal)}, (∀ e ∈ l, p e.2.2) → ∀ {v : AVal}, sget x l = some v → p v
 | [], _, v, h => by cases h
 | f :: l, hp, v, h => by
  unfold sget at h
  split at h
  ·cases h; exact hp f (by simp)
  ·exact sget_all (fun e he => hp e (by simp [he])) h
theorem ment_ok {H : AHeap} {p m since c : Nat} {seen : List Nat} {l : List (Str × Nat × AVal)} (hn : (l.map (·.2.1)).Nodup) {e : Str × Nat × AVal} (he : e ∈ l) (hp : H p = some (.it m since (seen ++ [e.2.1]) c)) (hm : H m = some (.mp (smap l) c)) : mentA H (.v (.pointer (some ⟨p, 0, none⟩))) = some (.string e.1, e.2.2) := by
 have hf : (smap l).find? (fun f => f.2.1 == e.2.1) = some (.string e.1, e.2.1, e.2.2) := by
  clear hm
  induction l with
  | nil => cases he
  | cons f l ih =>
   rw [List.map_cons, List.nodup_cons] at hn
   simp only [smap, List.map_cons, List.find?_cons]
   rcases List.mem_cons.1 he with rfl | he'
   ·simp
   ·have : (f.2.1 == e.2.1) = false := by
     simp only [beq_eq_false_iff_ne]
     intro h; exact hn.1 (by rw [h]; exact List.mem_map.2 ⟨e, he', rfl⟩)
    rw [this]
    exact ih hn.2 he'
 simp [mentA, hp, hm, hf]
end Go.Proofs.YtfaodacmdlnabaaGreatDoor.M
