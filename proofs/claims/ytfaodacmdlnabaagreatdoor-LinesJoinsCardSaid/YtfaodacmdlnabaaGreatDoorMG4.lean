/-
 What may be called less: rows that are owned, and are not written any more.
-/
/-
 Steps that write: what becomes of what is known.
-/
/-
 The operations that write do what the abstract machine says.
-/
/-
 Stores, literals of slices, conversions between texts and bytes.
-/
/-
 Literals of slices, appends, conversions, calls; all operations that write.
-/
/-
 Appends, conversions, calls: all operations that write.
-/
import Derived.Test.YtfaodacmdlnabaaGreatDoorME
import Derived.Deep.AppendSrc
import Derived.Lib.ConvBytes
import Derived.Laws.MakeOwn
namespace Go.Proofs.YtfaodacmdlnabaaGreatDoor.M
open Go.RowKit
set_option linter.unusedVariables false
set_option linter.unusedSimpArgs false
variable {P : Program} {W : World} {S : Nat → Prop} {w : World} {N : Nat} {s : AState} {a : Act}
/-- A value may be called y where it was x, if what H' no longer owns is immutable from here on. -/
inductive FZ (H H' : AHeap) : AVal → AVal → Prop
 | refl (x : AVal) : FZ H H' x x
 | any (x : AVal) : FZ H H' x .any
 | nil (sz : Nat) : FZ H H' (.v (.slice none 0 0)) (.sl false sz [])
 | loose (full : Bool) (sz : Nat) (rows : List (List AVal)) : FZ H H' (.sl full sz rows) (.sl false sz rows)
 | buf {g E sz n : Nat} {rows rows' : List (List AVal)} (hb : H g = some (.buf E sz rows)) (hf : H' g = none) (hn : n ≤ rows.length) (hl : rows'.length = n) (hz : ∀ i (hi : i < rows'.length), rows'[i].length = sz)
   (ho : ∀ i (hi : i < rows'.length) j (hj : j < rows'[i].length), rows'[i][j].one = true)
   (h : ∀ i (hi : i < rows.length) (hi' : i < rows'.length) j (hj : j < rows[i].length) (hj' : j < rows'[i].length), FZ H H' rows[i][j] rows'[i][j]) : FZ H H' (.bs g sz n) (.sl false sz rows')
 | view {full : Bool} {g E sz lo n : Nat} {rows rows' : List (List AVal)} (hb : H g = some (.buf E sz rows)) (hf : H' g = none) (hn : lo + n ≤ rows.length) (hl : rows'.length = n) (hz : ∀ i (hi : i < rows'.length), rows'[i].length = sz)
   (ho : ∀ i (hi : i < rows'.length) j (hj : j < rows'[i].length), rows'[i][j].one = true)
   (h : ∀ i (hi : lo + i < rows.length) (hi' : i < rows'.length) j (hj : j < rows[lo + i].length) (hj' : j < rows'[i].length), FZ H H' rows[lo + i][j] rows'[i][j]) : FZ H H' (.bv full g sz lo n) (.sl false sz rows')
 | tup {xs ys : List AVal} (hl : ys.length = xs.length) (h : ∀ j (hj : j < xs.length) (hj' : j < ys.length), FZ H H' xs[j] ys[j]) : FZ H H' (.tup xs) (.tup ys)
 | agg {xs ys : List AVal} (hl : ys.length = xs.length) (ho : ∀ j (hj : j < ys.length), ys[j].one = true) (h : ∀ j (hj : j < xs.length) (hj' : j < ys.length), FZ H H' xs[j] ys[j]) : FZ H H' (.agg xs) (.agg ys)
 | cells {b E : Nat} {cs cs' : List AVal} (hb : H b = some (.cells E cs)) (hf : H' b = none) (hl : cs'.length = cs.length) (h : ∀ j (hj : j < cs.length) (hj' : j < cs'.length), FZ H H' cs[j] cs'[j]) : FZ H H' (.v (.pointer (some ⟨b, 0, none⟩))) (.pl cs')
 | fn {f : FuncId} {xs ys : List AVal} (hl : ys.length = xs.length) (h : ∀ j (hj : j < xs.length) (hj' : j < ys.length), FZ H H' xs[j] ys[j]) : FZ H H' (.fn f xs) (.fn f ys)
theorem FZ.sound {H H' : AHeap} (hw : WR W S H w) (hs : Sub H' H) {x y : AVal} (h : FZ H H' x y) : ∀ {u : Value}, VR S w x u → VR (fun b => S b ∨ (H b ≠ none ∧ H' b = none)) w y u := by
 have mono : ∀ {x : AVal} {u : Value}, VR S w x u → VR (fun b => S b ∨ (H b ≠ none ∧ H' b = none)) w x u := fun h => h.keep (fun b hb => ⟨.inl hb, rfl⟩) (fun _ _ h => h)
 induction h with
 | refl x => exact mono
 | any x => intro u _; exact .any u
 | nil sz =>
  intro u hu
  cases hu
  exact .sl (rows := []) (fun _ _ => undef) (Nat.le_refl _) (Nat.zero_le _) (fun e => by cases e) (.inl rfl) (fun i hi => by simp at hi) (fun i hi => by simp at hi) (fun i hi => by simp at hi)
 | loose full sz rows =>
  intro u hu
  cases mono hu with
  | sl us hc hm hf hb hl ho hh => exact .sl us hc hm (fun e => by cases e) hb hl ho hh
 | @buf g E sz n rows rows' hb hf hn hl hz ho h ih =>
  intro u hu
  cases hu with
  | @bs _ _ _ c hnc hm hwd =>
  obtain ⟨cur, fz, c', h1, h2, h3, h4, h5, h6, h7, h8⟩ := hw.objs _ _ hb
  subst hl
  refine .sl (fun i j => cur.getD (i * sz + j) undef) hnc hm (fun e => by cases e) ?_ hz ho (fun i hi j hj => ?_)
  ·refine .inr ⟨g, 0, rfl, .inr ⟨by rw [hb]; simp, hf⟩, fun i j hi hj => ?_⟩
   obtain ⟨v, hv, _⟩ := h8 i (by omega) j (by rw [h6 i (by omega)]; exact hj)
   rw [Nat.zero_add, cell_at h1, hv]
   simp [hv]
  ·have hjz := hz i hi
   obtain ⟨v, hv, hr⟩ := h8 i (by omega) j (by rw [h6 i (by omega)]; omega)
   have := ih i (by omega) hi j (by rw [h6 i (by omega)]; omega) hj hr
   simpa [hv] using this
 | @view full g E sz lo n rows rows' hb hf hn hl hz ho h ih =>
  intro u hu
  cases hu with
  | @bv _ _ _ _ _ c A hA hnc hm hfl =>
  obtain ⟨cur, fz, c', h1, h2, h3, h4, h5, h6, h7, h8⟩ := hw.objs _ _ hb
  subst hl
  refine .sl (fun i j => cur.getD ((lo + i) * sz + j) undef) hnc hm (fun e => by cases e) ?_ hz ho (fun i hi j hj => ?_)
  ·by_cases h0 : rows'.length = 0
   ·exact .inl (List.length_eq_zero_iff.1 h0)
   ·refine .inr ⟨g, lo * sz, by rw [hA (by omega)], .inr ⟨by rw [hb]; simp, hf⟩, fun i j hi hj => ?_⟩
    obtain ⟨v, hv, _⟩ := h8 (lo + i) (by omega) j (by rw [h6 (lo + i) (by omega)]; exact hj)
    rw [show lo * sz + i * sz + j = (lo + i) * sz + j by rw [Nat.add_mul], cell_at h1, hv]
    simp [hv]
  ·have hjz := hz i hi
   obtain ⟨v, hv, hr⟩ := h8 (lo + i) (by omega) j (by rw [h6 (lo + i) (by omega)]; omega)
   have := ih i (by omega) hi j (by rw [h6 (lo + i) (by omega)]; omega) hj hr
   simpa [hv] using this
 | @tup xs ys hl h ih =>
  intro u hu
  cases hu with
  | tup us hl2 hv hh => exact .tup us (by omega) hv (fun j hj => ih j (by omega) hj (hh j (by omega)))
 | @agg xs ys hl ho h ih =>
  intro u hu
  cases hu with
  | agg us hl2 hv ho2 hh => exact .agg us (by omega) hv ho (fun j hj => ih j (by omega) hj (hh j (by omega)))
 | @cells b E cs cs' hb hf hl h ih =>
  intro u hu
  cases hu
  obtain ⟨cur, fz, h1, h2, h3, h4, h5⟩ := hw.objs _ _ hb
  refine .pl (fun j => cur.getD j undef) (.inr ⟨by rw [hb]; simp, hf⟩) (fun j hj => ?_) (fun j hj => ?_)
  ·have hj2 : j < cur.size := by omega
   rw [Nat.zero_add, cell_at h1]
   simp [hj2]
  ·have := ih j (by omega) hj (h5 j (by omega) (by omega))
   simpa [show j < cur.size by omega] using this
 | @fn f xs ys hl h ih =>
  intro u hu
  cases hu with
  | fn us hl2 hv hh => exact .fn us (by omega) hv (fun j hj => ih j (by omega) hj (hh j (by omega)))
theorem FZ.take {H H' : AHeap} (hw : WR W S H w) {g E sz n : Nat} {rows : List (List AVal)} (hb : H g = some (.buf E sz rows)) : True := trivial
/-- The same world, its owned part called smaller. -/
theorem less_ext {H H' : AHeap} (hw : WR W S H w) (hs : Sub H' H) : Ext S H w (fun b => S b ∨ (H b ≠ none ∧ H' b = none)) H' w ∧ WR W (fun b => S b ∨ (H b ≠ none ∧ H' b = none)) H' w := by
 refine ⟨⟨Nat.le_refl _, fun _ _ _ => rfl, fun _ _ h => h, fun _ h => .inl h, fun b h => ?_, fun b h => ?_⟩, ⟨hw.old, fun b o h => hw.new b o (hs b o h), fun b h => ?_, fun b o h hS => ?_, fun b o h => (hw.objs b o (hs b o h)).keep (fun b hb => ⟨.inl hb, rfl⟩) (fun _ _ h => h) rfl⟩⟩
 ·rcases h with h | h
  ·exact .inl h
  ·exact .inr (.inr h.1)
 ·left
  intro e
  cases e2 : H' b with
  | none => exact h e2
  | some o => rw [hs b o e2] at e; cases e
 ·rcases h with h | h
  ·exact hw.lt b h
  ·cases e : H b with
   | none => exact absurd e h.1
   | some o => exact (hw.objs b o e).lt
 ·rcases hS with hS | hS
  ·exact hw.apart b o (hs b o h) hS
  ·rw [h] at hS; cases hS.2
def Weak (s s0 : AState) : Prop := Sub s0.H s.H ∧ ∀ k, FZ s.H s0.H (tget s.tm k) (tget s0.tm k)
theorem Weak.refl (s : AState) : Weak s s := ⟨Sub.refl _, fun k => .refl _⟩
theorem Weak.sound (hr : SR W N S s a w) {s0 : AState} (h : Weak s s0) : ∃ S', Ext S s.H w S' s0.H w ∧ SR W N S' s0 a w := by
 obtain ⟨hx, hw⟩ := less_ext hr.wr h.1
 exact ⟨_, hx, hr.defers, hr.size, fun k => (h.2 k).sound hr.wr h.1 (hr.tm k), hw⟩
theorem tget_any {tm : List (Nat × AVal)} {k : Nat} (h : ∀ p ∈ tm, p.1 ≠ k) : tget tm k = .any := by
 induction tm with
 | nil => rfl
 | cons p tm ih =>
  obtain ⟨j, x⟩ := p
  rw [tget, if_neg (h (j, x) (by simp))]
  exact ih (fun p hp => h p (by simp [hp]))
theorem FZ.list {H H' : AHeap} {tm : List (Nat × AVal)} : ∀ (l : List (Nat × AVal)), (∀ p ∈ l, FZ H H' (tget tm p.1) p.2) → ∀ k, FZ H H' (tget tm k) (tget l k)
 | [], _, k => .any _
 | (j, x) :: l, h, k => by
  rw [tget]
  split
  ·rename_i e; subst e; exact h (j, x) (by simp)
  ·exact FZ.list l (fun p hp => h p (by simp [hp])) k
theorem Weak.list {tm : List (Nat × AVal)} {H H' : AHeap} (l : List (Nat × AVal)) (hs : Sub H' H) (h : ∀ p ∈ l, FZ H H' (tget tm p.1) p.2) : Weak ⟨tm, H⟩ ⟨l, H'⟩ := ⟨hs, FZ.list l h⟩

end Go.Proofs.YtfaodacmdlnabaaGreatDoor.M
namespace Go.Proofs.YtfaodacmdlnabaaGreatDoor.M
open Go.RowKit
set_option linter.unusedVariables false
set_option linter.unusedSimpArgs false
variable {P : Program} {W : World} {S : Nat → Prop} {w : World} {N : Nat} {s : AState} {a : Act}
theorem none_of {H : AHeap} {b : Nat} (h : ¬ H b ≠ none) : H b = none := Classical.byContradiction h
theorem wide_of {w w' : World} {g : Nat} (h : ∀ b, b < w.heap.size → b ≠ g → w'.heap[b]? = w.heap[b]?) (hg : ∀ m, Wide w g m → Wide w' g m) : ∀ b m, Wide w b m → Wide w' b m := by
 intro b m hb
 by_cases e : b = g
 ·subst e; exact hg m hb
 ·obtain ⟨cur, E, fz, h1, h2⟩ := hb
  exact ⟨cur, E, fz, (h b (lt_of_some h1) e).trans h1, h2⟩
/-- One owned block is written, or a new one is made. -/
theorem own_step {H H2 : AHeap} {w' : World} (hw : WR W S H w) (hos : w'.os = w.os) (htp : w'.tape = w.tape) (hout : w'.output = w.output) (hsz : w.heap.size ≤ w'.heap.size) {g : Nat} (hg : H g ≠ none ∨ w.heap.size ≤ g)
  (hb : ∀ b, b < w.heap.size → b ≠ g → w'.heap[b]? = w.heap[b]?) (hwd : ∀ m, Wide w g m → Wide w' g m) (hs : Sub H2 H) {o : AObj} (ho : OR S w' g o) : Ext S H w S (H2.put g o) w' ∧ WR W S (H2.put g o) w' := by
 have hSg : ∀ b, S b → b ≠ g := fun b hS e => by
  subst e
  rcases hg with h | h
  ·cases e2 : H b with
   | none => exact h e2
   | some o2 => exact hw.apart b o2 e2 hS
  ·have := hw.lt b hS; omega
 have hstill : ∀ b, S b → S b ∧ w'.heap[b]? = w.heap[b]? := fun b hS => ⟨hS, hb b (hw.lt b hS) (hSg b hS)⟩
 have hwide := wide_of hb hwd
 have hnew : W.heap.size ≤ g := by
  rcases hg with h | h
  ·cases e2 : H g with
   | none => exact absurd e2 h
   | some o2 => exact hw.new g o2 e2
  ·have := hw.old.size; omega
 refine ⟨⟨hsz, fun b hlt hn => hb b hlt (fun e => ?_), hwide, fun _ h => h, fun _ h => .inl h, fun b hn => ?_⟩, ⟨⟨hos.trans hw.old.os, htp.trans hw.old.tape, hout.trans hw.old.output, Nat.le_trans hw.old.size hsz, fun b hlt => ?_⟩, fun b o' e => ?_, fun b hS => Nat.lt_of_lt_of_le (hw.lt b hS) hsz, fun b o' e => ?_, fun b o' e => ?_⟩⟩
 ·subst e
  rcases hg with h | h
  ·exact h hn
  ·omega
 ·unfold AHeap.put at hn
  by_cases e : b = g
  ·subst e; exact hg
  ·rw [if_neg e] at hn
   left
   intro h
   cases e2 : H2 b with
   | none => exact hn e2
   | some o2 => rw [hs b o2 e2] at h; cases h
 ·exact (hb b (Nat.lt_of_lt_of_le hlt hw.old.size) (by omega)).trans (hw.old.block b hlt)
 ·unfold AHeap.put at e
  by_cases h : b = g
  ·subst h; exact hnew
  ·rw [if_neg h] at e; exact hw.new b o' (hs b o' e)
 ·unfold AHeap.put at e
  by_cases h : b = g
  ·intro hS; exact hSg b hS h
  ·rw [if_neg h] at e; exact hw.apart b o' (hs b o' e)
 ·unfold AHeap.put at e
  by_cases h : b = g
  ·subst h; rw [if_pos rfl] at e; cases e; exact ho
  ·rw [if_neg h] at e
   have h1 := hw.objs b o' (hs b o' e)
   exact h1.keep hstill hwide (hb b h1.lt h)
/-- A new block that never changes. -/
theorem fix_step {H : AHeap} {w' : World} (hw : WR W S H w) (hos : w'.os = w.os) (htp : w'.tape = w.tape) (hout : w'.output = w.output) (hsz : w'.heap.size = w.heap.size + 1)
  (hb : ∀ b, b < w.heap.size → w'.heap[b]? = w.heap[b]?) : Ext S H w (fun x => S x ∨ x = w.heap.size) H w' ∧ WR W (fun x => S x ∨ x = w.heap.size) H w' := by
 have hstill : ∀ b, S b → (S b ∨ b = w.heap.size) ∧ w'.heap[b]? = w.heap[b]? := fun b hS => ⟨.inl hS, hb b (hw.lt b hS)⟩
 have hwide : ∀ b m, Wide w b m → Wide w' b m := fun b m ⟨cur, E, fz, h1, h2⟩ => ⟨cur, E, fz, (hb b (lt_of_some h1)).trans h1, h2⟩
 refine ⟨⟨by omega, fun b hlt _ => hb b hlt, hwide, fun _ h => .inl h, fun b h => ?_, fun b h => .inl h⟩, ⟨⟨hos.trans hw.old.os, htp.trans hw.old.tape, hout.trans hw.old.output, by have := hw.old.size; omega, fun b hlt => (hb b (by have := hw.old.size; omega)).trans (hw.old.block b hlt)⟩, hw.new, fun b h => ?_, fun b o e h => ?_, fun b o e => ?_⟩⟩
 ·rcases h with h | h
  ·exact .inl h
  ·exact .inr (.inl (by omega))
 ·rcases h with h | h
  ·have := hw.lt b h; omega
  ·omega
 ·have h1 := (hw.objs b o e).lt
  rcases h with h | h
  ·exact hw.apart b o e h
  ·omega
 ·have h1 := hw.objs b o e
  exact h1.keep hstill hwide (hb b h1.lt)
/-- Draws change nothing that is known. -/
theorem Soft.new {w : World} {c : Array Value} {E : TypeId} {b n : Nat} (h : w.heap[b]? = some (.cells c E (0, 0))) : Soft w b n := fun o _ => by simp [World.frozen?, h]
theorem alloc_facts (w : World) (o : Obj) : (w.alloc o).os = w.os ∧ (w.alloc o).tape = w.tape ∧ (w.alloc o).output = w.output ∧ (w.alloc o).heap.size = w.heap.size + 1 ∧ (∀ b, b < w.heap.size → (w.alloc o).heap[b]? = w.heap[b]?) ∧ (w.alloc o).heap[w.heap.size]? = some o := by
 refine ⟨rfl, rfl, rfl, ?_, fun b hb => ?_, ?_⟩
 ·show (w.heap.push o).size = _; simp
 ·show (w.heap.push o)[b]? = _; simp [Array.getElem?_push, show b ≠ w.heap.size by omega]
 ·show (w.heap.push o)[w.heap.size]? = _; simp

/-! ### Operations that write -/
inductive AE where
 | alloc (E : TypeId) (zero : List Value)
 | box (E : TypeId) (x : Operand)
 | bsl (E sz : Nat) (xs : List Operand)
 | st (n : Nat) (x y : Operand)
 | app (E sz by_ : Nat) (str : Bool) (x y : Operand)
 | appq (E sz by_ : Nat) (str : Bool) (x y : Operand)
 | s2b (E : TypeId) (x : Operand)
 | b2s (x : Operand)
 | call (f : FuncId) (xs : List Operand)
 | callq (f : FuncId) (xs : List Operand)
 | callv (x : Operand) (xs : List Operand)
 | inv (m : String) (x : Operand) (xs : List Operand)
 | sla (n : Nat) (x : Operand)
 | mk
 | up (kc : Option IntKind) (x i v : Operand)
 | del (kc : Option IntKind) (x i : Operand)
 | rg (x : Operand)
 | nx (x : Operand)
 | srg (x : Operand)
 | snx (x : Operand)
 | me (kc : Option IntKind) (z : Value) (x i : Operand)
 | es (x n v : Operand)
 | niq (neg : Bool) (x : Operand)
 | mks (E by_ : Nat) (z : Value) (x : Operand)
 | cpy (sz : Nat) (x y : Operand)
def bytesOf (s : ByteArray) : List (List AVal) := s.data.toList.map fun b => [.v (.int .u8 b.toNat)]
/-- What is appended. -/
def srcOf (H : AHeap) (sz : Nat) : AVal → Option (List (List AVal))
 | .sl _ sz' rows => if sz = sz' then some rows else none
 | .v (.slice none 0 0) => some []
 | .v (.string s) => if sz = 1 then some (bytesOf s) else none
 | .bs g sz' n => match H g with
  | some (.buf _ sz2 rows) => if sz = sz' ∧ sz = sz2 ∧ n ≤ rows.length then some (rows.take n) else none
  | _ => none
 | .bv _ g sz' lo n => match H g with
  | some (.buf _ sz2 rows) => if sz = sz' ∧ sz = sz2 ∧ lo + n ≤ rows.length then some ((rows.drop lo).take n) else none
  | _ => none
 | _ => none
def isSl : AVal → Bool
 | .v (.slice none 0 0) | .sl _ _ _ | .bs _ _ _ | .bv _ _ _ _ _ => true
 | _ => false
def aapp (H : AHeap) (E sz by_ : Nat) (x : AVal) (new : List (List AVal)) (K : AVal → AHeap → Prop) : Prop :=
 (new = [] → isSl x = true ∧ K x H) ∧ (new ≠ [] →
 match x with
 | .v (.slice none 0 0) => new.length * by_ ≤ 140737488355328 ∧ ∀ g, H g = none → K (.bs g sz new.length) (H.put g (.buf E sz new))
 | .sl true sz' rows => (sz = sz' ∧ (rows.length + new.length) * by_ ≤ 140737488355328) ∧ ∀ g, H g = none → K (.bs g sz (rows.length + new.length)) (H.put g (.buf E sz (rows ++ new)))
 | .bs g sz' n => match H g with
  | some (.buf E' sz2 rows) => (E = E' ∧ sz = sz' ∧ sz = sz2 ∧ n ≤ rows.length ∧ (n + new.length) * by_ ≤ 140737488355328) ∧ ∀ g', (H.del g) g' = none → K (.bs g' sz (n + new.length)) ((H.del g).put g' (.buf E sz (rows.take n ++ new)))
  | _ => False
 | .bv true g sz' lo n => match H g with
  | some (.buf E' sz2 rows) => (sz = sz' ∧ sz = sz2 ∧ lo + n ≤ rows.length ∧ (n + new.length) * by_ ≤ 140737488355328) ∧ ∀ g', H g' = none → K (.bs g' sz (n + new.length)) (H.put g' (.buf E sz ((rows.drop lo).take n ++ new)))
  | _ => False
 | _ => False)
/-- An append that always makes a new row. -/
def growsA : AVal → Bool
 | .v (.slice none 0 0) | .sl true _ _ | .bv true _ _ _ _ => true
 | _ => false
def ast (H : AHeap) (n : Nat) (x : AVal) (p : List AVal) (K : AHeap → Prop) : Prop :=
 (p.length = n ∧ p.all (·.one) = true) ∧
 match x with
 | .v (.pointer (some ⟨b, o, none⟩)) => match H b with
  | some (.cells E cs) => o + n ≤ cs.length ∧ K (H.put b (.cells E (cs.take o ++ p ++ cs.drop (o + n))))
  | _ => False
 | .bp g sz i k => match H g with
  | some (.buf E sz' rows) => sz = sz' ∧ ∃ r, rows[i]? = some r ∧ k + n ≤ r.length ∧ K (H.put g (.buf E sz (rows.set i (r.take k ++ p ++ r.drop (k + n)))))
  | _ => False
 | _ => False
/-- The block of a map that is owned. -/
def mapB : AVal → Option Nat
 | .v (.map (some b)) => some b
 | _ => none
def ptrB : AVal → Option Nat
 | .v (.pointer (some ⟨r, 0, none⟩)) => some r
 | _ => none
def strA : AVal → Option ByteArray
 | .v (.string t) => some t
 | _ => none
def mapped (H : AHeap) (x : AVal) (K : Nat → List (Value × Nat × AVal) → Nat → Prop) : Prop := match mapB x with
 | some b => match H b with
  | some (.mp l c) => K b l c
  | _ => False
 | none => False
/-- Is a slice nil? -/
def niqA (x : AVal) (K : Bool → Prop) : Prop := match x with
 | .sl _ _ rows => ∀ t : Bool, (t = true → rows = []) → K t
 | .v (.slice none _ _) => K true
 | .bs _ _ _ | .bv _ _ _ _ _ => K false
 | _ => False
def flip (neg t : Bool) : Bool := match neg with
 | true => !t
 | false => t
def callable (P : Program) (f : FuncId) : Bool :=
 match P.funcs[f]? with
 | some fn => !(fn.name == "runtime.NumGoroutine") && fn.body.isSome
 | none => false
/-- The function that a type's method of a name is. -/
def methA (P : Program) (t : TypeId) (name : String) : Option FuncId :=
 match P.info? t with
 | some i => match i.methods.find? (·.name == name) with
  | some m => match m.path.toList, m.func, P.underlying t with
   | [], some (f, true), some (.pointer _) => some f
   | [], some (_, false), some (.pointer _) => none
   | [], some (f, false), some _ => some f
   | _, _, _ => none
  | none => none
 | none => none
/-- Is it known to the last bit? -/
def AVal.isV : AVal → Bool
 | .v _ => true
 | _ => false
def FZs (H H' : AHeap) (xs ys : List AVal) : Prop := ys.length = xs.length ∧ ∀ j (hj : j < xs.length) (hj' : j < ys.length), FZ H H' xs[j] ys[j]
theorem FZs.refl {H H' : AHeap} (xs : List AVal) : FZs H H' xs xs := ⟨rfl, fun j hj hj' => .refl _⟩
theorem FZs.nil {H H' : AHeap} : FZs H H' [] [] := ⟨rfl, fun j hj => by simp at hj⟩
theorem FZs.cons {H H' : AHeap} {x y : AVal} {xs ys : List AVal} (h : FZ H H' x y) (k : FZs H H' xs ys) : FZs H H' (x :: xs) (y :: ys) := ⟨by simp [k.1], fun j hj hj' => by
 rcases j with _ | j
 ·exact h
 ·exact k.2 j (by simpa using hj) (by simpa using hj')⟩
/-- A call that reads what is owned, and writes nothing. -/
theorem reads_core {f : FuncId} {args ys : List AVal} {H : AHeap} {R : AVal → Prop} (hz : FZs H AHeap.none args ys) (h : ACalls P W f ys AHeap.none fun r _ => R r ∧ r.isV = true) {vs : Array Value} (hw : WR W S H w) (hv : VRs S w args vs) :
  Calls P f vs w fun e w' => ∃ r S' v, R r ∧ e = .returned v ∧ (w.heap.size ≤ w'.heap.size ∧ ∀ b, b < w.heap.size → w'.heap[b]? = w.heap[b]?) ∧ Ext S H w S' H w' ∧ WR W S' H w' ∧ VR S' w' r v := by
 obtain ⟨hx0, hw0⟩ := less_ext (H' := AHeap.none) hw (Sub.none H)
 refine (h _ w vs hw0 ⟨by rw [hv.1, hz.1], fun i hi hi' => (hz.2 i (by rw [← hz.1]; exact hi) hi).sound hw (Sub.none H) (hv.2 i (by rw [← hz.1]; exact hi) hi')⟩).mono ?_
 rintro e w' ⟨r, H1', S', v, ⟨hk, hV⟩, rfl, hx, hw', hvr⟩
 have hq : w.heap.size ≤ w'.heap.size ∧ ∀ b, b < w.heap.size → w'.heap[b]? = w.heap[b]? := ⟨hx.size, fun b hb => hx.block b hb rfl⟩
 have hdown : ∀ b, S' b → H b = none → S b ∨ w.heap.size ≤ b := fun b hb hn => by
  rcases hx.down b hb with h1 | h1 | h1
  ·rcases h1 with h1 | h1
   ·exact .inl h1
   ·exact absurd hn h1.1
  ·exact .inr h1
  ·exact absurd rfl h1
 have hup : ∀ b, S b → S' b ∧ H b = none := fun b hb => ⟨hx.up b (.inl hb), by cases e : H b with | none => rfl | some o => exact absurd hb (hw.apart b o e)⟩
 refine ⟨r, fun b => S' b ∧ H b = none, v, hk, rfl, hq, ⟨hx.size, fun b hb _ => hq.2 b hb, hx.wide, hup, fun b hb => (hdown b hb.1 hb.2).imp id .inl, fun b hb => .inl hb⟩, ⟨hw'.old, hw.new, fun b hb => hw'.lt b hb.1, fun b o hb hS => ?_, fun b o hb => (hw.objs b o hb).keep (fun c hc => ⟨hup c hc, hq.2 c (hw.lt c hc)⟩) hx.wide (hq.2 b (hw.objs b o hb).lt)⟩, ?_⟩
 ·rw [hS.2] at hb; cases hb
 ·cases hvr <;> first | exact .v _ | cases hV
theorem ACalls.reads {f : FuncId} {args ys : List AVal} {H : AHeap} {R : AVal → Prop} (hz : FZs H AHeap.none args ys) (h : ACalls P W f ys AHeap.none fun r _ => R r ∧ r.isV = true) : ACalls P W f args H fun r H' => R r ∧ H' = H := by
 intro S w us hw hv
 refine (reads_core hz h hw hv).mono ?_
 rintro e w' ⟨r, S', v, hk, rfl, -, hx, hw', hvr⟩
 exact ⟨r, H, S', v, ⟨hk, rfl⟩, rfl, hx, hw', hvr⟩
def aeff (P : Program) (W : World) (m : AE) (d : Option Nat) (s : AState) (K : AState → Prop) : Prop :=
 match m with
 | .alloc E zero => ∀ b, s.H b = none → K ((⟨s.tm, s.H.put b (.cells E (zero.map .v))⟩ : AState).put d (.v (.pointer (some ⟨b, 0, none⟩))))
 | .box E x => (oneOr (ev s.tm x)).all (·.one) = true ∧ ∀ b, s.H b = none → K ((⟨s.tm, s.H.put b (.cells E (oneOr (ev s.tm x)))⟩ : AState).put d (.v (.pointer (some ⟨b, 0, none⟩))))
 | .bsl E sz xs => ((xs.map fun x => oneOr (ev s.tm x)).all fun r => r.length == sz && r.all (·.one)) = true ∧ K (s.put d (.sl true sz (xs.map fun x => oneOr (ev s.tm x))))
 | .st n x y => ast s.H n (ev s.tm x) (oneOr (ev s.tm y)) fun H' => K ((⟨s.tm, H'⟩ : AState).put d .any)
 | .app E sz by_ str x y => ∃ new, srcOf s.H sz (ev s.tm y) = some new ∧ aapp s.H E sz by_ (ev s.tm x) new fun r H' => K ((⟨s.tm, H'⟩ : AState).put d r)
 | .appq E sz by_ str x y => growsA (ev s.tm x) = true ∧ ∃ new, srcOf s.H sz (ev s.tm y) = some new ∧ aapp s.H E sz by_ (ev s.tm x) new fun r H' => K ((⟨s.tm, H'⟩ : AState).put d r)
 | .s2b E x => match ev s.tm x with
  | .v (.string t) => t.size ≤ 9223372036854775807 ∧ ∀ g, s.H g = none → K ((⟨s.tm, s.H.put g (.buf E 1 (bytesOf t))⟩ : AState).put d (.bs g 1 t.size))
  | _ => False
 | .b2s x => isSl (ev s.tm x) = true ∧ ∃ rows bs, srcOf s.H 1 (ev s.tm x) = some rows ∧ rows = bytesOf bs ∧ K (s.put d (.v (.string bs)))
 | .call f xs => ∃ s1, Weak s s1 ∧ ACalls P W f (xs.map (ev s1.tm)) s1.H fun r H' => K ((⟨s1.tm, H'⟩ : AState).put d r)
 | .callq f xs => ∃ ys, FZs s.H AHeap.none (xs.map (ev s.tm)) ys ∧ ACalls P W f ys AHeap.none fun r _ => (ys = xs.map (ev s.tm) ∨ r.isV = true) ∧ K (s.put d r)
 | .callv x xs => match ev s.tm x with
  | .fn f caps => callable P f = true ∧ ACalls P W f (xs.map (ev s.tm) ++ caps) s.H fun r H' => K ((⟨s.tm, H'⟩ : AState).put d r)
  | .bm f ys => callable P f = true ∧ ACalls P W f (ys ++ xs.map (ev s.tm)) s.H fun r H' => K ((⟨s.tm, H'⟩ : AState).put d r)
  | _ => False
 | .inv m x xs => match ev s.tm x with
  | .ifc t y => ∃ f, methA P t m = some f ∧ callable P f = true ∧ ACalls P W f (y :: xs.map (ev s.tm)) s.H fun r H' => K ((⟨s.tm, H'⟩ : AState).put d r)
  | _ => False
 | .sla n x => match ev s.tm x with
  | .v (.pointer (some ⟨b, 0, none⟩)) => match s.H b with
   | some (.cells _ cs) => (cs.length = n ∧ n ≤ maxLen) ∧ K ((⟨s.tm, s.H.del b⟩ : AState).put d (.sl true 1 (cs.map fun c => [c])))
   | _ => False
  | _ => False
 | .mk => ∀ b, s.H b = none → K ((⟨s.tm, s.H.put b (.mp [] 0)⟩ : AState).put d (.v (.map (some b))))
 | .up kc x i v => mapped s.H (ev s.tm x) fun b l c => (l.all (fun e => kOk kc e.1) = true ∧ kOk kc (keyA (ev s.tm i)) = true) ∧ K ((⟨s.tm, s.H.put b (.mp (mput (keyA (ev s.tm i)) (ev s.tm v) c l) (mclk (keyA (ev s.tm i)) c l))⟩ : AState).put d .any)
 | .del kc x i => mapped s.H (ev s.tm x) fun b l c => (l.all (fun e => kOk kc e.1) = true ∧ kOk kc (keyA (ev s.tm i)) = true) ∧ K ((⟨s.tm, s.H.put b (.mp (mdel (keyA (ev s.tm i)) l) c)⟩ : AState).put d .any)
 | .rg x => mapped s.H (ev s.tm x) fun b l c => ∀ r, s.H r = none → K ((⟨s.tm, s.H.put r (.it b c [] c)⟩ : AState).put d (.v (.pointer (some ⟨r, 0, none⟩))))
 | .nx x => match ptrB (ev s.tm x) with
  | some r => match s.H r with
   | some (.it m since seen c0) => match s.H m with
    | some (.mp l c) => ((∀ e ∈ l, e.2.1 < since) ∧ since ≤ c0) ∧ ((∀ e ∈ l, e.2.1 ∈ seen) → K (s.put d (.tup [.v (.bool false)]))) ∧ ∀ e ∈ l, e.2.1 ∉ seen → K ((⟨s.tm, s.H.put r (.it m since (seen ++ [e.2.1]) c)⟩ : AState).put d (.tup [.v (.bool true), .v e.1, e.2.2]))
    | _ => False
   | _ => False
  | none => False
 | .srg x => match strA (ev s.tm x) with
  | some t => ∀ r, s.H r = none → K ((⟨s.tm, s.H.put r (.si t 0)⟩ : AState).put d (.v (.pointer (some ⟨r, 0, none⟩))))
  | none => False
 | .snx x => match ptrB (ev s.tm x) with
  | some r => match s.H r with
   | some (.si t p) => (p < t.size → K ((⟨s.tm, s.H.put r (.si t (p + (Utf8.decode t p).2))⟩ : AState).put d (.tup [.v (.bool true), .v (.int .i64 p), .v (.int .i32 (Utf8.decode t p).1)]))) ∧ (¬ p < t.size → K (s.put d (.tup [.v (.bool false)])))
   | _ => False
  | none => False
 | .me kc z x i => mapped s.H (ev s.tm x) fun b l c => (l.all (fun e => kOk kc e.1) = true ∧ kOk kc (keyA (ev s.tm i)) = true) ∧
   K ((⟨s.tm, s.H.put b (.mp (mput (keyA (ev s.tm i)) ((mget (keyA (ev s.tm i)) l).getD (zeroA z)) c l) (mclk (keyA (ev s.tm i)) c l))⟩ : AState).put d (.tup [(mget (keyA (ev s.tm i)) l).getD (zeroA z), .v (.int .i64 (mborn (keyA (ev s.tm i)) c l))]))
 | .es x n v => mapped s.H (ev s.tm x) fun b l c => match ev s.tm n with
  | .v (.int .i64 k) => (∃ e ∈ l, (e.2.1 : Int) = k) ∧ K ((⟨s.tm, s.H.put b (.mp (mset k.toNat (ev s.tm v) l) c)⟩ : AState).put d .any)
  | _ => False
 | .niq neg x => niqA (ev s.tm x) fun t => K (s.put d (.v (.bool (flip neg t))))
 | .mks E by_ z x => match ev s.tm x with
  | .v (.int _ n) => (0 ≤ n ∧ n ≤ 140737488355328 ∧ n * by_ ≤ 140737488355328) ∧ ∀ g, s.H g = none → K ((⟨s.tm, s.H.put g (.buf E 1 (List.replicate n.toNat [.v z]))⟩ : AState).put d (.bs g 1 n.toNat))
  | _ => False
 | .cpy sz x y => match ev s.tm x with
  | .bs g sz' n => match s.H g with
   | some (.buf E sz2 rows) => ∃ new, srcOf s.H sz (ev s.tm y) = some new ∧ (sz' = sz ∧ sz2 = sz ∧ rows.length = n ∧ new.length = n) ∧ K ((⟨s.tm, s.H.put g (.buf E sz new)⟩ : AState).put d (.v (.int .i64 n)))
   | _ => False
  | _ => False

def sameO : Operand → Operand → Bool
 | .tmp a, .tmp b => a == b
 | .const (.int k a), .const (.int k' b) => decide (k = k') && a == b
 | _, _ => false
theorem sameO_eq {a : Act} {x y : Operand} (h : sameO x y = true) : a.eval x = a.eval y := by
 unfold sameO at h
 split at h
 ·simp at h; rw [h]
 ·simp at h; rw [h.1, h.2]
 ·cases h
def compE (P : Program) : Op → Option AE
 | .alloc E => match (P.info? E).bind (·.zero) with
  | some z => if z.cells.all (·.oneCell') then some (.alloc E z.cells.toList) else none
  | none => none
 | .box E x => some (.box E x)
 | .buildSlice t len parts => match P.underlying t with
  | some (.slice E) => match szOf P E, (P.info? E).bind (·.zero) with
   | some sz, some z => if parts.toList.map (·.1) = List.range len ∧ len * sz ≤ 16777216 ∧ z.cells.size = sz ∧ 0 < sz ∧ z.cells.all (·.oneCell') = true then some (.bsl E sz (parts.toList.map (·.2))) else none
   | _, _ => none
  | _ => none
 | .store t x y => (szOf P t).map fun n => .st n x y
 | .call ⟨.builtin .append, args, ts⟩ => match args.toList, ts.toList with
  | [x, y], [t, u] => match P.underlying t with
   | some (.slice E) => match P.info? E with
    | some i => match i.zero with
     | some z => if z.cells.size = i.size ∧ 0 < i.size ∧ 0 < i.bytes then
       match P.underlying u with
       | some (.slice _) => some (.app E i.size i.bytes false x y)
       | some .string => some (.app E i.size i.bytes true x y)
       | _ => none
      else none
     | none => none
    | none => none
   | _ => none
  | _, _ => none
 | .convert sr dt x => match P.underlying sr, P.underlying dt with
  | some .string, some (.slice E) => match P.underlying E with
   | some (.int .u8) => some (.s2b E x)
   | _ => none
  | some (.slice E), some .string => match P.underlying E with
   | some (.int .u8) => some (.b2s x)
   | _ => none
  | _, _ => none
 | .makeMap _ r => if r.isNone then some .mk else none
 | .mapUpdate t x i v => match P.underlying t with
  | some (.map k _) => (kcOf P k).map fun kc => .up kc x i v
  | _ => none
 | .insert t x i v => match P.underlying t with
  | some (.map k _) => (kcOf P k).map fun kc => .up kc x i v
  | _ => none
 | .makeSlice t l c => match P.underlying t with
  | some (.slice E) => match P.info? E with
   | some i => match i.zero with
    | some z => if i.size = 1 ∧ z.cells.size = 1 ∧ (z.cells.getD 0 undef).oneCell' = true ∧ sameO l c = true then some (.mks E i.bytes (z.cells.getD 0 undef) l) else none
    | none => none
   | none => none
  | _ => none
 | .call ⟨.builtin .copy, args, ts⟩ => match args.toList, ts.toList with
  | [x, y], [t, u] => match P.underlying t, P.underlying u with
   | some (.slice E), some (.slice _) => match P.info? E with
    | some i => if 0 < i.size then some (.cpy i.size x y) else none
    | none => none
   | _, _ => none
  | _, _ => none
 | .call ⟨.builtin .delete, args, ts⟩ => match args.toList, ts.toList with
  | [x, i], [t, _] => match P.underlying t with
   | some (.map k _) => (kcOf P k).map fun kc => .del kc x i
   | _ => none
  | _, _ => none
 | .range t x => match P.underlying t with
  | some (.map _ _) => some (.rg x)
  | some .string => some (.srg x)
  | _ => none
 | .next x str => if str then some (.snx x) else some (.nx x)
 | .mapEntry t x i => match P.underlying t with
  | some (.map k e) => match kcOf P k, (P.info? e).bind (·.zero) with
   | some kc, some z => if z.cells.all (·.oneCell') then some (.me kc z x i) else none
   | _, _ => none
  | _ => none
 | .entryStore _ x n v => some (.es x n v)
 | .binOp op t x y _ => match P.underlying t, y, op with
  | some (.slice _), .const (.slice none _ _), .eql => some (.niq false x)
  | some (.slice _), .const (.slice none _ _), .neq => some (.niq true x)
  | _, _, _ => none
 | .call ⟨.invoke x m, args, _⟩ => some (.inv m x args.toList)
 | .slice t x none none none => match P.underlying t with
  | some (.array n el) => if szOf P el = some 1 then some (.sla n x) else none
  | _ => none
 | .call ⟨.value (.func f), args, _⟩ => if callable P f then some (.call f args.toList) else none
 | .call ⟨.value x, args, _⟩ => some (.callv x args.toList)
 | _ => none
end Go.Proofs.YtfaodacmdlnabaaGreatDoor.M
namespace Go.Proofs.YtfaodacmdlnabaaGreatDoor.M
open Go.RowKit
set_option linter.unusedVariables false
set_option linter.unusedSimpArgs false
variable {P : Program} {W : World} {S : Nat → Prop} {w : World} {N : Nat} {s : AState} {a : Act} {Q : Exit → Act → World → Prop}
/-- What holds behind a step. -/
def Then (W : World) (N : Nat) (S : Nat → Prop) (s : AState) (w : World) (K : AState → Prop) (a' : Act) (w' : World) : Prop := ∃ S' s', K s' ∧ Ext S s.H w S' s'.H w' ∧ SR W N S' s' a' w'
/-- .. and all that stood stands. -/
def ThenQ (W : World) (N : Nat) (S : Nat → Prop) (s : AState) (w : World) (K : AState → Prop) (a' : Act) (w' : World) : Prop := Then W N S s w K a' w' ∧ Quiet w w'
theorem wp_value {o : Oper} {u : Value} {w' : World} (h : (execOp a.eval o).run P w = .ok (.value u) w') {K : Act → World → Prop} (hk : K (a.put o.dst u) w') : o.wp P a w K Q := by
 unfold Oper.wp; rw [h]; exact hk
theorem wp_skip' {o : Oper} {w' : World} (h : (execOp a.eval o).run P w = .ok .skip w') {K : Act → World → Prop} (hk : K (a.put o.dst undef) w') : o.wp P a w K Q := by
 unfold Oper.wp; rw [h]; exact hk
theorem put_H (s : AState) (H : AHeap) (d : Option Nat) (x : AVal) : ((⟨s.tm, H⟩ : AState).put d x).H = H := by cases d <;> rfl
theorem then_put (hr : SR W N S s a w) {K : AState → Prop} {S' : Nat → Prop} {H' : AHeap} {w' : World} {d : Option Nat} (hd : dstOk N d = true) {x : AVal} {u : Value} (hx : Ext S s.H w S' H' w' ∧ WR W S' H' w') (hv : VR S' w' x u) (hk : K ((⟨s.tm, H'⟩ : AState).put d x)) : Then W N S s w K (a.put d u) w' :=
 ⟨S', _, hk, by rw [put_H]; exact hx.1, hr.next hx.1 hx.2 hd hv⟩
/-- A new object of the call's own, in a block of its own. -/
theorem own_new {H : AHeap} {w' : World} (hw : WR W S H w) (hos : w'.os = w.os) (htp : w'.tape = w.tape) (hout : w'.output = w.output) (hsz : w'.heap.size = w.heap.size + 1) (hb : ∀ b, b < w.heap.size → w'.heap[b]? = w.heap[b]?) {o : AObj} (ho : OR S w' w.heap.size o) :
  Ext S H w S (H.put w.heap.size o) w' ∧ WR W S (H.put w.heap.size o) w' :=
 own_step hw hos htp hout (by omega) (.inr (Nat.le_refl _)) (fun b h _ => hb b h) (fun m ⟨cur, E, fz, h1, _⟩ => absurd (lt_of_some h1) (Nat.lt_irrefl _)) (Sub.refl H) ho
theorem run_newVar (E : TypeId) (v : Value) (w : World) : (newVar E v).run P w = .ok ⟨w.heap.size, 0, none⟩ (w.alloc (.cells v.cells E)) := by
 simp [newVar, newRow, Sem.run_bind, newObj, Sem.run]
/-- Cells of a block that was just made. -/
theorem OR.made {cs : List AVal} {vs : Array Value} {E : TypeId} {w' : World} {b : Nat} (h : CR S w cs vs) (hq : ∀ x u, VR S w x u → VR S w' x u) (hb : w'.heap[b]? = some (.cells vs E (0, 0))) : OR S w' b (.cells E cs) :=
 ⟨vs, (0, 0), hb, h.1, Soft.new hb, h.2.1, fun i hi hi' => hq _ _ (h.2.2 i hi hi')⟩
theorem VR.later {w' : World} (hw : WR W S s.H w) (hb : ∀ b, b < w.heap.size → w'.heap[b]? = w.heap[b]?) {x : AVal} {u : Value} (h : VR S w x u) : VR S w' x u :=
 h.keep (fun b hS => ⟨hS, hb b (hw.lt b hS)⟩) (fun b m ⟨cur, E, fz, h1, h2⟩ => ⟨cur, E, fz, (hb b (lt_of_some h1)).trans h1, h2⟩)
theorem alloc_sound (hr : SR W N S s a w) {o : Oper} (hd : dstOk N o.dst = true) {E : TypeId} (ho : o.op = .alloc E) {m : AE} (hc : compE P o.op = some m) {K : AState → Prop} (h : aeff P W m o.dst s K) : o.wp P a w (ThenQ W N S s w K) Q := by
 rw [ho] at hc
 simp only [compE] at hc
 split at hc
 ·rename_i z hz
  split at hc
  ·rename_i hone
   cases hc
   obtain ⟨i, hi, hz⟩ : ∃ i, P.info? E = some i ∧ i.zero = some z := by cases e : P.info? E <;> simp_all
   obtain ⟨f1, f2, f3, f4, f5, f6⟩ := alloc_facts w (.cells z.cells E)
   refine wp_value (u := .pointer (some ⟨w.heap.size, 0, none⟩)) (w' := w.alloc (.cells z.cells E)) ?_ ?_
   ·simp [execOp, ho, Instr.alloc, Sem.run_bind, zeroValue, typeInfo, hi, hz, run_newVar]
   ·have hcr : CR S w (z.cells.toList.map AVal.v) z.cells := ⟨by simp, fun j hj => by
     simp at hj ⊢
     simp at hone
     simpa [AVal.one] using hone j hj, fun j hj hj' => by simp; exact .v _⟩
    exact ⟨then_put hr hd (own_new hr.wr f1 f2 f3 f4 f5 (OR.made hcr (fun x u hv => hv.later hr.wr f5) f6)) (.v _) (h _ hr.wr.fresh), by omega, f5⟩
  ·cases hc
 ·cases hc
theorem box_sound (hr : SR W N S s a w) {o : Oper} (hd : dstOk N o.dst = true) {E : TypeId} {x : Operand} (ho : o.op = .box E x) {m : AE} (hc : compE P o.op = some m) {K : AState → Prop} (h : aeff P W m o.dst s K) : o.wp P a w (ThenQ W N S s w K) Q := by
 rw [ho] at hc
 simp only [compE, Option.some.injEq] at hc
 subst hc
 obtain ⟨hone, h⟩ := h
 have hcr := oneOr_cells (hr.ev x) hone
 obtain ⟨f1, f2, f3, f4, f5, f6⟩ := alloc_facts w (.cells (a.eval x).cells E)
 refine wp_value (u := .pointer (some ⟨w.heap.size, 0, none⟩)) (w' := w.alloc (.cells (a.eval x).cells E)) ?_ ?_
 ·simp [execOp, ho, Instr.box, Sem.run_bind, run_newVar]
 ·exact ⟨then_put hr hd (own_new hr.wr f1 f2 f3 f4 f5 (OR.made hcr (fun x u hv => hv.later hr.wr f5) f6)) (.v _) (h _ hr.wr.fresh), by omega, f5⟩

theorem call_sound (hr : SR W N S s a w) {o : Oper} (hd : dstOk N o.dst = true) {f : FuncId} {vs : Array Value} {args : List AVal} (hf : callable P f = true) (hrun : ∀ w, (execOp a.eval o).run P w = (callFunc f vs).run P w) (hvs : VRs S w args vs) {K : AState → Prop}
  (h : ACalls P W f args s.H fun r H' => K ((⟨s.tm, H'⟩ : AState).put o.dst r)) : o.wp P a w (Then W N S s w K) Q := by
 have hcall : (callFunc f vs).run P w = .ok (.enter f vs) w := by
  unfold callable at hf
  split at hf
  ·rename_i fn hfn
   simp only [Bool.and_eq_true, Bool.not_eq_true'] at hf
   have hb : fn.body.isNone = false := by cases e : fn.body <;> simp_all
   simp only [callFunc, Sem.run_bind, run_program, Result.andThen_ok, hfn, hf.1, hb, Bool.false_eq_true, if_false, Sem.run_pure]
  ·cases hf
 unfold Oper.wp
 rw [hrun, hcall]
 show Calls P f vs w _
 refine (h S w vs hr.wr hvs).mono ?_
 rintro e w' ⟨r, H', S', v, hk, rfl, hx, hw', hv⟩
 exact then_put hr hd ⟨hx, hw'⟩ hv hk
theorem callq_sound (hr : SR W N S s a w) {o : Oper} (hd : dstOk N o.dst = true) {f : FuncId} {vs : Array Value} {args : List AVal} (hf : callable P f = true) (hrun : ∀ w, (execOp a.eval o).run P w = (callFunc f vs).run P w) (hvs : VRs S w args vs) {K : AState → Prop}
  (h : ∃ ys, FZs s.H AHeap.none args ys ∧ ACalls P W f ys AHeap.none fun r _ => (ys = args ∨ r.isV = true) ∧ K (s.put o.dst r)) : o.wp P a w (ThenQ W N S s w K) Q := by
 obtain ⟨ys, hz, h0⟩ := h
 by_cases hys : ys = args
 case neg =>
  have hcall : (callFunc f vs).run P w = .ok (.enter f vs) w := by
   unfold callable at hf
   split at hf
   ·rename_i fn hfn
    simp only [Bool.and_eq_true, Bool.not_eq_true'] at hf
    have hb : fn.body.isNone = false := by cases e : fn.body <;> simp_all
    simp only [callFunc, Sem.run_bind, run_program, Result.andThen_ok, hfn, hf.1, hb, Bool.false_eq_true, if_false, Sem.run_pure]
   ·cases hf
  unfold Oper.wp
  rw [hrun, hcall]
  show Calls P f vs w _
  refine (reads_core (R := fun r => K (s.put o.dst r)) hz (ACalls.mono h0 fun r _ h => ⟨h.2, h.1.resolve_left hys⟩) hr.wr hvs).mono ?_
  rintro e w' ⟨r, S', v, hk, rfl, hq, hx, hw', hvr⟩
  exact ⟨then_put hr hd ⟨hx, hw'⟩ hvr hk, hq⟩
 subst hys
 have h : ACalls P W f ys AHeap.none fun r _ => K (s.put o.dst r) := ACalls.mono h0 fun r _ h => h.2
 have h2 : ACalls P W f ys AHeap.none fun r H' => K (s.put o.dst r) ∧ H' = AHeap.none := by
  intro S w us hw hv
  refine (h S w us hw hv).mono ?_
  rintro e w' ⟨r, H1', S', v, hk, rfl, hx, hw', hvr⟩
  exact ⟨r, AHeap.none, S', v, ⟨hk, rfl⟩, rfl, hx.less (Sub.none _), hw'.less (Sub.none _), hvr⟩
 have hcall : (callFunc f vs).run P w = .ok (.enter f vs) w := by
  unfold callable at hf
  split at hf
  ·rename_i fn hfn
   simp only [Bool.and_eq_true, Bool.not_eq_true'] at hf
   have hb : fn.body.isNone = false := by cases e : fn.body <;> simp_all
   simp only [callFunc, Sem.run_bind, run_program, Result.andThen_ok, hfn, hf.1, hb, Bool.false_eq_true, if_false, Sem.run_pure]
  ·cases hf
 unfold Oper.wp
 rw [hrun, hcall]
 show Calls P f vs w _
 refine (h2 S w vs (hr.wr.less (Sub.none _)) hvs).mono ?_
 rintro e w' ⟨r, H', S', v, ⟨hk, rfl⟩, rfl, hx, hw', hv⟩
 have hq : Quiet w w' := ⟨hx.size, fun b hb => hx.block b hb rfl⟩
 have hdown : ∀ b, S' b → S b ∨ w.heap.size ≤ b := fun b hb => by
  rcases hx.down b hb with h1 | h1 | h1
  ·exact .inl h1
  ·exact .inr h1
  ·exact absurd rfl h1
 have hx2 : Ext S s.H w S' s.H w' := ⟨hx.size, fun b hb _ => hq.2 b hb, hx.wide, hx.up, fun b hb => (hdown b hb).imp id .inl, fun b hb => .inl hb⟩
 have hw2 : WR W S' s.H w' := ⟨hw'.old, hr.wr.new, hw'.lt, fun b o hb hS => by
  rcases hdown b hS with h1 | h1
  ·exact hr.wr.apart b o hb h1
  ·have := (hr.wr.objs b o hb).lt; omega, fun b o hb => (hr.wr.objs b o hb).keep (fun c hc => ⟨hx.up c hc, hq.2 c (hr.wr.lt c hc)⟩) hx.wide (hq.2 b (hr.wr.objs b o hb).lt)⟩
 exact ⟨then_put hr hd ⟨hx2, hw2⟩ hv hk, hq⟩
theorem evs {xs : List Operand} (hr : SR W N S s a w) : VRs S w (xs.map (ev s.tm)) (xs.map a.eval).toArray := ⟨by simp, fun i hi hi' => by simp at hi ⊢; exact hr.ev _⟩
end Go.Proofs.YtfaodacmdlnabaaGreatDoor.M
namespace Go.Proofs.YtfaodacmdlnabaaGreatDoor.M
open Go.RowKit
set_option linter.unusedVariables false
set_option linter.unusedSimpArgs false
variable {P : Program} {W : World} {S : Nat → Prop} {w : World} {N : Nat} {s : AState} {a : Act} {Q : Exit → Act → World → Prop}
theorem setCell_facts (w : World) (b o : Nat) (v : Value) : (w.setCell ⟨b, o, none⟩ v).os = w.os ∧ (w.setCell ⟨b, o, none⟩ v).tape = w.tape ∧ (w.setCell ⟨b, o, none⟩ v).output = w.output ∧ (w.setCell ⟨b, o, none⟩ v).heap.size = w.heap.size ∧
  (∀ c, c ≠ b → (w.setCell ⟨b, o, none⟩ v).heap[c]? = w.heap[c]?) ∧ ∀ cur E fz, w.heap[b]? = some (.cells cur E fz) → (w.setCell ⟨b, o, none⟩ v).heap[b]? = some (.cells (cur.setIfInBounds o v) E fz) := by
 refine ⟨rfl, rfl, rfl, by simp [World.setCell], fun c hc => ?_, fun cur E fz h => ?_⟩
 ·simp [World.setCell, Array.getElem?_modify, Ne.symm hc]
 ·simp [World.setCell, Array.getElem?_modify, h]
theorem setCells_facts (b : Nat) : ∀ (vs : List Value) (o : Nat) (w : World) (cur : Array Value) (E : TypeId) (fz : Nat × Nat), w.heap[b]? = some (.cells cur E fz) → o + vs.length ≤ cur.size →
  (w.setCells b o vs).os = w.os ∧ (w.setCells b o vs).tape = w.tape ∧ (w.setCells b o vs).output = w.output ∧ (w.setCells b o vs).heap.size = w.heap.size ∧ (∀ c, c ≠ b → (w.setCells b o vs).heap[c]? = w.heap[c]?) ∧
  ∃ cur', (w.setCells b o vs).heap[b]? = some (.cells cur' E fz) ∧ cur'.toList = cur.toList.take o ++ vs ++ cur.toList.drop (o + vs.length)
 | [], o, w, cur, E, fz, h, hl => ⟨rfl, rfl, rfl, rfl, fun _ _ => rfl, cur, h, by simp⟩
 | v :: vs, o, w, cur, E, fz, h, hl => by
  simp only [List.length_cons] at hl
  obtain ⟨f1, f2, f3, f4, f5, f6⟩ := setCell_facts w b o v
  obtain ⟨g1, g2, g3, g4, g5, cur', g6, g7⟩ := setCells_facts b vs (o + 1) (w.setCell ⟨b, o, none⟩ v) _ E fz (f6 cur E fz h) (by simp; omega)
  refine ⟨g1.trans f1, g2.trans f2, g3.trans f3, g4.trans f4, fun c hc => (g5 c hc).trans (f5 c hc), cur', g6, ?_⟩
  rw [g7]
  simp only [Array.toList_setIfInBounds, List.length_cons]
  have e1 : (cur.toList.set o v).take (o + 1) = cur.toList.take o ++ [v] := by
   rw [List.take_succ_eq_append_getElem (by simp; omega)]
   simp [List.take_set_of_le]
  have e2 : (cur.toList.set o v).drop (o + 1 + vs.length) = cur.toList.drop (o + (vs.length + 1)) := by
   rw [List.drop_set_of_lt (by omega)]
   congr 1; omega
  rw [e1, e2]
  simp
theorem storeVar_run {t : TypeId} {n : Nat} (hn : szOf P t = some n) {b o : Nat} {cur : Array Value} {E : TypeId} {fz : Nat × Nat} (hb : w.heap[b]? = some (.cells cur E fz)) (hs : Soft w b cur.size) {v : Value} (hv : v.cells.size = n) (h1 : ∀ u ∈ v.cells.toList, u.oneCell' = true) (hl : o + n ≤ cur.size) :
  (Instr.storeAt t (.pointer (some ⟨b, o, none⟩)) v).run P w = .ok () (w.setCells b o v.cells.toList) := by
 obtain ⟨i, hi, rfl⟩ : ∃ i, P.info? t = some i ∧ i.size = n := by
  unfold szOf at hn; cases e : P.info? t <;> simp_all
 have := run_storeCells_cells (P := P) b o v.cells.toList 0 w (fun j hj => by rw [cell_at hb]; simp at hj ⊢; omega) (fun j hj => hs _ (by simp at hj; omega)) h1
 simp only [Nat.add_zero] at this
 simp [Instr.storeAt, Instr.sureAddr, Sem.run_bind, storeVar, sizeOf, typeInfo, hi, hv, this]
theorem CR.ones {cs : List AVal} {vs : Array Value} (h : CR S w cs vs) : ∀ u ∈ vs.toList, u.oneCell' = true := by
 intro u hu
 obtain ⟨j, hj, rfl⟩ := List.mem_iff_getElem.1 hu
 simp at hj ⊢
 exact (h.2.2 j (by have := h.1; omega) hj).one (h.2.1 j (by have := h.1; omega))
theorem CR.keepv {cs : List AVal} {vs : Array Value} {w' : World} (h : CR S w cs vs) (hq : ∀ x u, VR S w x u → VR S w' x u) : CR S w' cs vs := ⟨h.1, h.2.1, fun j hj hj' => hq _ _ (h.2.2 j hj hj')⟩
theorem st_sound (hr : SR W N S s a w) {o : Oper} (hd : dstOk N o.dst = true) {t : TypeId} {x y : Operand} (ho : o.op = .store t x y) {m : AE} (hc : compE P o.op = some m) {K : AState → Prop} (h : aeff P W m o.dst s K) : o.wp P a w (Then W N S s w K) Q := by
 rw [ho] at hc
 simp only [compE, Option.map_eq_some_iff] at hc
 obtain ⟨n, hn, rfl⟩ := hc
 simp only [aeff, ast] at h
 obtain ⟨⟨hp, hone⟩, h⟩ := h
 have hcr := oneOr_cells (hr.ev y) hone
 have hx := hr.ev x
 have hex : ∀ {A : Addr} {w' : World}, a.eval x = .pointer (some A) → (Instr.storeAt t (.pointer (some A)) (a.eval y)).run P w = .ok () w' → (execOp a.eval o).run P w = .ok .skip w' := fun he hrun => by
  simp [execOp, ho, he, Sem.run_bind, hrun]
 generalize hux : a.eval x = ux at hx
 split at h
 ·rename_i b off e
  rw [e] at hx
  cases hx
  split at h
  ·rename_i E cs hb
   obtain ⟨hle, hk⟩ := h
   obtain ⟨cur, fz, h1, h2, h3, h4, h5⟩ := hr.wr.objs _ _ hb
   have hrun := storeVar_run hn (w := w) (b := b) (o := off) h1 h3 (by rw [hcr.1, hp]) hcr.ones (by omega)
   obtain ⟨f1, f2, f3, f4, f5, cur', f6, f7⟩ := setCells_facts b (a.eval y).cells.toList off w cur E fz h1 (by have := hcr.1; simp; omega)
   have hcs : CR S w cs cur := ⟨h2, h4, h5⟩
   have hq : ∀ x u, VR S w x u → VR S (w.setCells b off (a.eval y).cells.toList) x u := fun x u hv =>
    hv.keep (fun c hS => ⟨hS, f5 c (fun e => by subst e; exact hr.wr.apart _ _ hb hS)⟩) (wide_of (fun c _ hc => f5 c hc) (fun m ⟨cur2, E2, fz2, h7, h8⟩ => by
     rw [h1] at h7; cases h7
     exact ⟨cur', E, fz, f6, by have := congrArg List.length f7; simp at this; have := hcr.1; omega⟩))
   have hor : OR S (w.setCells b off (a.eval y).cells.toList) b (.cells E (cs.take off ++ oneOr (ev s.tm y) ++ cs.drop (off + n))) := by
    have hl := hcs.lay hcr (off := off) (by omega) (cur' := cur') (by rw [f7]; simp)
    rw [hp] at hl
    have hl2 := hl.keepv hq
    refine ⟨cur', fz, f6, hl2.1, fun o2 ho2 => ?_, hl2.2.1, hl2.2.2⟩
    rw [World.frozen?_setCells]
    exact h3 o2 (by have := hl.1; simp at this; omega)
   refine wp_skip' (hex hux hrun) ?_
   exact then_put hr hd (own_step hr.wr f1 f2 f3 (by omega) (.inl (by simp [hb])) (fun c _ hc => f5 c hc) (fun m ⟨cur2, E2, fz2, h7, h8⟩ => by
     rw [h1] at h7; cases h7
     exact ⟨cur', E, fz, f6, by have := congrArg List.length f7; simp at this; have := hcr.1; omega⟩) (Sub.refl _) hor) (.any _) hk
  ·exact h.elim
 ·rename_i g sz i k e
  rw [e] at hx
  cases hx
  split at h
  ·rename_i E sz' rows hb
   obtain ⟨rfl, r, hri, hle, hk⟩ := h
   obtain ⟨hi, rfl⟩ := List.getElem?_eq_some_iff.1 hri
   obtain ⟨cur, fz, c, h1, h2, h3, h4, h5, h6, h7, h8⟩ := hr.wr.objs _ _ hb
   have hrow := h6 i hi
   have hcap : i * sz + sz ≤ cur.size := by
    have : (i + 1) * sz ≤ c * sz := Nat.mul_le_mul_right _ (by omega)
    rw [Nat.add_mul] at this; omega
   have hrun := storeVar_run hn (w := w) (b := g) (o := i * sz + k) h1 h5 (by rw [hcr.1, hp]) hcr.ones (by omega)
   obtain ⟨f1, f2, f3, f4, f5, cur', f6, f7⟩ := setCells_facts g (a.eval y).cells.toList (i * sz + k) w cur E fz h1 (by have := hcr.1; simp; omega)
   have hsz' : cur'.size = cur.size := by have := congrArg List.length f7; simp at this; have := hcr.1; omega
   have hq : ∀ x u, VR S w x u → VR S (w.setCells g (i * sz + k) (a.eval y).cells.toList) x u := fun x u hv =>
    hv.keep (fun c hS => ⟨hS, f5 c (fun e => by subst e; exact hr.wr.apart _ _ hb hS)⟩) (wide_of (fun c _ hc => f5 c hc) (fun m ⟨cur2, E2, fz2, h7, h8⟩ => by
     rw [h1] at h7; cases h7
     exact ⟨cur', E, fz, f6, by omega⟩))
   have hyz : (a.eval y).cells.size = n := by rw [hcr.1, hp]
   have hget : ∀ j, j < cur.size → cur'[j]? = if j < i * sz + k then cur[j]? else if j < i * sz + k + n then (a.eval y).cells[j - (i * sz + k)]? else cur[j]? := by
    intro j hj
    rw [← Array.getElem?_toList, f7]
    split
    ·rename_i hj1
     rw [List.append_assoc, List.getElem?_append_left (by simp; omega), List.getElem?_take_of_lt hj1, Array.getElem?_toList]
    ·split
     ·rename_i hj1 hj2
      rw [List.append_assoc, List.getElem?_append_right (by simp; omega), List.getElem?_append_left (by simp; omega)]
      simp [show min (i * sz + k) cur.size = i * sz + k by omega]
     ·rename_i hj1 hj2
      rw [List.append_assoc, List.getElem?_append_right (by simp; omega), List.getElem?_append_right (by simp; omega)]
      simp [show min (i * sz + k) cur.size = i * sz + k by omega, hyz]
      congr 1; omega
   obtain ⟨nr, hnr⟩ : ∃ nr, nr = rows[i].take k ++ oneOr (ev s.tm y) ++ rows[i].drop (k + n) := ⟨_, rfl⟩
   have hnl : nr.length = sz := by subst hnr; simp; omega
   have hA : ∀ j (hj : j < nr.length), nr[j].one = true := by
    subst hnr
    intro j hj
    by_cases j1 : j < k
    ·rw [List.getElem_append_left (by simp; omega), List.getElem_append_left (by simp; omega)]; simp; exact h7 _ _ _ _
    ·by_cases j2 : j < k + n
     ·rw [List.getElem_append_left (by simp; omega), List.getElem_append_right (by simp; omega)]; exact hcr.2.1 _ _
     ·rw [List.getElem_append_right (by simp; omega)]; simp; exact h7 _ _ _ _
   have hB : ∀ j (hj : j < nr.length), ∃ u, cur'[i * sz + j]? = some u ∧ VR S (w.setCells g (i * sz + k) (a.eval y).cells.toList) nr[j] u := by
    intro j hj
    have hj' : j < sz := by omega
    rw [hget (i * sz + j) (by omega)]
    subst hnr
    by_cases j1 : j < k
    ·rw [if_pos (by omega)]
     obtain ⟨u, hu, hv⟩ := h8 i hi j (by omega)
     refine ⟨u, hu, ?_⟩
     rw [List.getElem_append_left (by simp; omega), List.getElem_append_left (by simp; omega)]
     simp; exact hq _ _ hv
    ·rw [if_neg (by omega)]
     by_cases j2 : j < k + n
     ·rw [if_pos (by omega)]
      have e3 : i * sz + j - (i * sz + k) = j - k := by omega
      refine ⟨_, by rw [e3, Array.getElem?_eq_getElem (by omega)], ?_⟩
      rw [List.getElem_append_left (by simp; omega), List.getElem_append_right (by simp; omega)]
      have e4 : j - (rows[i].take k).length = j - k := by simp; omega
      simp only [e4]
      exact hq _ _ (hcr.2.2 _ _ _)
     ·rw [if_neg (by omega)]
      obtain ⟨u, hu, hv⟩ := h8 i hi j (by omega)
      refine ⟨u, hu, ?_⟩
      rw [List.getElem_append_right (by simp; omega)]
      have e4 : k + n + (j - (rows[i].take k ++ oneOr (ev s.tm y)).length) = j := by simp; omega
      simp only [List.getElem_drop, e4]
      exact hq _ _ hv
   rw [← hnr] at hk
   clear hnr
   have hor : OR S (w.setCells g (i * sz + k) (a.eval y).cells.toList) g (.buf E sz (rows.set i nr)) := by
    refine ⟨cur', fz, c, f6, by omega, by simp; omega, h4, fun o2 ho2 => ?_, fun i' hi' => ?_, fun i' hi' j hj => ?_, fun i' hi' j hj => ?_⟩
    ·rw [World.frozen?_setCells]; exact h5 o2 (by omega)
    ·simp at hi'
     by_cases e2 : i = i'
     ·subst e2; rw [List.getElem_set_self]; exact hnl
     ·rw [List.getElem_set_ne e2]; exact h6 _ _
    ·simp at hi'
     by_cases e2 : i = i'
     ·subst e2; simp only [List.getElem_set_self] at hj ⊢; exact hA j hj
     ·simp only [List.getElem_set_ne e2] at hj ⊢; exact h7 _ _ _ _
    ·simp at hi'
     by_cases e2 : i = i'
     ·subst e2; simp only [List.getElem_set_self] at hj ⊢; exact hB j hj
     ·simp only [List.getElem_set_ne e2] at hj ⊢
      obtain ⟨u, hu, hv⟩ := h8 i' hi' j hj
      refine ⟨u, ?_, hq _ _ hv⟩
      have hj' : j < sz := by rw [← h6 i' hi']; exact hj
      have hb1 : i' * sz + sz ≤ cur.size := by
       have : (i' + 1) * sz ≤ c * sz := Nat.mul_le_mul_right _ (by omega)
       rw [Nat.add_mul] at this; omega
      rw [hget _ (by omega)]
      rcases Nat.lt_or_gt_of_ne e2 with h9 | h9
      ·have : (i + 1) * sz ≤ i' * sz := Nat.mul_le_mul_right _ h9
       rw [Nat.add_mul] at this
       rw [if_neg (by omega), if_neg (by omega)]; exact hu
      ·have : (i' + 1) * sz ≤ i * sz := Nat.mul_le_mul_right _ h9
       rw [Nat.add_mul] at this
       rw [if_pos (by omega)]; exact hu
   refine wp_skip' (hex hux hrun) ?_
   exact then_put hr hd (own_step hr.wr f1 f2 f3 (by omega) (.inl (by simp [hb])) (fun c _ hc => f5 c hc) (fun m ⟨cur2, E2, fz2, h7, h8⟩ => by
     rw [h1] at h7; cases h7
     exact ⟨cur', E, fz, f6, by omega⟩) (Sub.refl _) hor) (.any _) hk
  ·exact h.elim
 ·exact h.elim
end Go.Proofs.YtfaodacmdlnabaaGreatDoor.M
namespace Go.Proofs.YtfaodacmdlnabaaGreatDoor.M
open Go.RowKit
set_option linter.unusedVariables false
set_option linter.unusedSimpArgs false
variable {P : Program} {W : World} {S : Nat → Prop} {w : World} {N : Nat} {s : AState} {a : Act} {Q : Exit → Act → World → Prop}
theorem flat_len {α : Type} {sz : Nat} : ∀ (rows : List (List α)), (∀ r ∈ rows, r.length = sz) → rows.flatten.length = rows.length * sz
 | [], _ => by simp
 | r :: rows, h => by
  rw [List.flatten_cons, List.length_append, flat_len rows (fun r hr => h r (by simp [hr])), h r (by simp), List.length_cons, Nat.add_mul]; omega
theorem flat_get {α : Type} {sz : Nat} : ∀ (rows : List (List α)), (∀ r ∈ rows, r.length = sz) → ∀ i (hi : i < rows.length) j, j < sz → rows.flatten[i * sz + j]? = rows[i][j]?
 | r :: rows, h, 0, _, j, hj => by
  have := h r (by simp)
  simp only [List.flatten_cons, Nat.zero_mul, Nat.zero_add, List.getElem_cons_zero]
  rw [List.getElem?_append_left (by omega)]
 | r :: rows, h, i + 1, hi, j, hj => by
  have h1 := h r (by simp)
  have := flat_get rows (fun r hr => h r (by simp [hr])) i (by simpa using hi) j hj
  simp only [List.flatten_cons, List.getElem_cons_succ]
  rw [List.getElem?_append_right (by rw [h1, Nat.add_mul]; omega), ← this, h1]
  congr 1
  rw [Nat.add_mul]; omega
/-- Rows in order, laid one behind the other. -/
theorem lay_rows (tm : List (Nat × AVal)) (sz : Nat) : ∀ (xs : List Operand) (k : Nat) (pre rest : List AVal), pre.length = k * sz → rest.length = xs.length * sz → ((xs.map fun x => oneOr (ev tm x)).all fun r => r.length == sz && r.all (·.one)) = true →
  lay tm (pre ++ rest) ((xs.zipIdx k).map fun p => (p.2 * sz, sz, p.1)) = some (pre ++ (xs.map fun x => oneOr (ev tm x)).flatten)
 | [], k, pre, rest, h1, h2, h3 => by simp at h2; subst h2; simp [lay]
 | x :: xs, k, pre, rest, h1, h2, h3 => by
  simp only [List.map_cons, List.all_cons, Bool.and_eq_true, beq_iff_eq] at h3
  obtain ⟨⟨h4, h5⟩, h6⟩ := h3
  simp only [List.length_cons, Nat.add_mul, Nat.one_mul] at h2
  simp only [List.zipIdx_cons, List.map_cons, lay, h4]
  rw [if_pos ⟨trivial, by simp; omega, h5⟩]
  have e1 : (pre ++ rest).take (k * sz) = pre := by rw [← h1]; simp
  have e2 : (pre ++ rest).drop (k * sz + sz) = rest.drop sz := by
   rw [← h1, List.drop_append]; simp
  rw [e1, e2, lay_rows tm sz xs (k + 1) (pre ++ oneOr (ev tm x)) (rest.drop sz) (by simp [h1, h4, Nat.add_mul]) (by simp; omega) h6]
  simp
theorem bsl_sound (hr : SR W N S s a w) {o : Oper} (hd : dstOk N o.dst = true) {t : TypeId} {len : Nat} {parts : Array (Nat × Operand)} (ho : o.op = .buildSlice t len parts) {m : AE} (hc : compE P o.op = some m) {K : AState → Prop} (h : aeff P W m o.dst s K) : o.wp P a w (ThenQ W N S s w K) Q := by
 rw [ho] at hc
 simp only [compE] at hc
 split at hc
 ·rename_i E ht
  split at hc
  ·rename_i sz z hsz hz
   split at hc
   ·rename_i hcond
    cases hc
    obtain ⟨hidx, hmax, hzs, hsz0, hz1⟩ := hcond
    obtain ⟨hall, hk⟩ := h
    obtain ⟨i, hi, rfl⟩ : ∃ i, P.info? E = some i ∧ i.size = sz := by
     unfold szOf at hsz; cases e' : P.info? E <;> simp_all
    have hzz : i.zero = some z := by simpa [hi] using hz
    obtain ⟨xs, hxs⟩ : ∃ xs, xs = parts.toList.map (·.2) := ⟨_, rfl⟩
    rw [← hxs] at hall hk
    have hlen : xs.length = len := by
     have := congrArg List.length hidx
     simp at this
     simp [hxs, this]
    have hparts : parts.toList = (xs.zipIdx 0).map fun p => (p.2, p.1) := by
     have e0 : ∀ j (hj : j < parts.size), parts[j].1 = j := fun j hj => by
      have h1 : (parts.toList.map (·.1))[j]? = (List.range len)[j]? := by rw [hidx]
      rw [List.getElem?_map, Array.getElem?_toList, Array.getElem?_eq_getElem hj, List.getElem?_range (by rw [← hlen, hxs]; simpa using hj)] at h1
      simpa using h1
     refine List.ext_getElem (by simp [hxs]) fun j hj hj' => ?_
     simp at hj
     simp [hxs]
     exact Prod.ext (e0 j hj) rfl
    have hzero : CR S w ((List.range (len * i.size)).map fun k => AVal.v (z.cells[k % i.size]!)) ((Array.range (len * i.size)).map fun k => z.cells[k % z.cells.size]!) := by
     refine ⟨by simp, fun j hj => ?_, fun j hj hj' => ?_⟩
     ·simp at hj ⊢
      have : j % i.size < z.cells.size := by rw [hzs]; exact Nat.mod_lt _ hsz0
      simp at hz1
      simp only [AVal.one]
      rw [getElem!_pos z.cells _ this]
      exact hz1 _ this
     ·simp [hzs]; exact .v _
    have hlay := lay_rows s.tm i.size xs 0 [] ((List.range (len * i.size)).map fun k => AVal.v (z.cells[k % i.size]!)) (by simp) (by simp [hlen]) hall
    simp only [List.nil_append] at hlay
    have hmap : ((xs.zipIdx 0).map fun p => (p.2, p.1)).mapM (fun p => ((fun (k : Nat) => some (k * i.size, i.size)) p.1).map fun q => (q.1, q.2, p.2)) = some ((xs.zipIdx 0).map fun p => (p.2 * i.size, i.size, p.1)) := by
     generalize xs.zipIdx 0 = l
     induction l with
     | nil => rfl
     | cons p l ih => simp only [List.map_cons, List.mapM_cons, ih]; rfl
    obtain ⟨cur, h1, h2⟩ := lay_fill hr (fun (k : Nat) => some (k * i.size, i.size)) _ _ _ _ _ hmap hlay hzero
    rw [← hparts] at h1
    obtain ⟨f1, f2, f3, f4, f5, f6⟩ := alloc_facts w (.cells cur E)
    have hrows : ∀ r ∈ xs.map (fun x => oneOr (ev s.tm x)), r.length = i.size := fun r hr => by
     have := List.all_eq_true.1 hall r hr
     simp at this; exact this.1
    refine wp_value (u := .slice (some ⟨w.heap.size, 0, none⟩) len len) (w' := w.alloc (.cells cur E)) ?_ ?_
    ·have hmx : ¬ (16777216 < len * i.size) := by omega
     have hfl : Instr.fill (fun k => some (k * i.size, i.size)) ((Array.range (len * i.size)).map fun k => z.cells[k % z.cells.size]!) (parts.toList.map fun p => (p.1, a.eval p.2)) = some cur := h1
     by_cases hn : len * i.size = 0
     ·have e1 : (Array.range (len * i.size)).map (fun k => (#[] : Array Value)[k % 0]!) = (Array.range (len * i.size)).map fun k => z.cells[k % z.cells.size]! := by rw [hn]; simp
      simp [execOp, ho, Instr.buildSlice, Sem.run_bind, run_underlying ht, sizeOf, typeInfo, hi, hmx, hn, newRow, newObj, Sem.run, Array.range_zero'] at hfl ⊢
      rw [hfl]; rfl
     ·simp [execOp, ho, Instr.buildSlice, Sem.run_bind, run_underlying ht, sizeOf, typeInfo, zeroValue, hi, hzz, hmx, hn, newRow, newObj, Sem.run] at hfl ⊢
      rw [hfl]; rfl
    ·have hx := fix_step hr.wr f1 f2 f3 f4 f5
     refine ⟨then_put hr hd (S' := fun x => S x ∨ x = w.heap.size) hx ?_ hk, by omega, f5⟩
     have hfl := flat_len _ hrows
     have e0 : (xs.map fun x => oneOr (ev s.tm x)).length = len := by simp [hlen]
     rw [show Value.slice (some ⟨w.heap.size, 0, none⟩) len len = Value.slice (some ⟨w.heap.size, 0, none⟩) (xs.map fun x => oneOr (ev s.tm x)).length len by rw [e0]]
     have hidx2 : ∀ k j, k < len → j < i.size → k * i.size + j < len * i.size := fun k j hk hj => by
      have : (k + 1) * i.size ≤ len * i.size := Nat.mul_le_mul_right _ hk
      rw [Nat.add_mul] at this; omega
     have hget : ∀ k (hk : k < (xs.map fun x => oneOr (ev s.tm x)).length) j (hj : j < ((xs.map fun x => oneOr (ev s.tm x))[k]).length), ∃ hj2 : k * i.size + j < (xs.map fun x => oneOr (ev s.tm x)).flatten.length, (xs.map fun x => oneOr (ev s.tm x)).flatten[k * i.size + j] = (xs.map fun x => oneOr (ev s.tm x))[k][j] := fun k hk j hj => by
      have hj' : j < i.size := by rw [← hrows _ (List.getElem_mem hk)]; exact hj
      have := flat_get _ hrows k hk j hj'
      rw [List.getElem?_eq_getElem hj] at this
      exact List.getElem?_eq_some_iff.1 this
     refine .sl (fun k j => cur.getD (k * i.size + j) undef) (by omega) (by unfold maxLen; have : len ≤ len * i.size := Nat.le_mul_of_pos_right _ hsz0; omega) (fun _ => by omega) ?_ (fun k hk => hrows _ (List.getElem_mem hk)) (fun k hk j hj => ?_) (fun k hk j hj => ?_)
     ·refine .inr ⟨w.heap.size, 0, rfl, .inr rfl, fun k j hk hj => ?_⟩
      rw [e0] at hk
      have := hidx2 k j hk hj
      have hcs : cur.size = len * i.size := by rw [h2.1, hfl, e0]
      rw [cell_at f6]
      simp [show k * i.size + j < cur.size by omega]
     ·obtain ⟨h3, h4⟩ := hget k hk j hj
      rw [← h4]; exact h2.2.1 _ _
     ·obtain ⟨h3, h4⟩ := hget k hk j hj
      have h5 : k * i.size + j < cur.size := by rw [h2.1]; exact h3
      have := h2.2.2 _ h3 h5
      rw [h4] at this
      simp only [show cur.getD (k * i.size + j) undef = cur[k * i.size + j] by simp [h5]]
      exact this.ext hr.wr hx.1
   ·cases hc
  ·cases hc
 ·cases hc
end Go.Proofs.YtfaodacmdlnabaaGreatDoor.M
namespace Go.Proofs.YtfaodacmdlnabaaGreatDoor.M
open Go.RowKit
set_option linter.unusedVariables false
set_option linter.unusedSimpArgs false
variable {P : Program} {W : World} {S : Nat → Prop} {w : World} {N : Nat} {s : AState} {a : Act} {Q : Exit → Act → World → Prop}
/-- Rows as cells in a row. -/
def Rowed (S : Nat → Prop) (w : World) (sz : Nat) (rows : List (List AVal)) (cs : List Value) : Prop :=
 cs.length = rows.length * sz ∧ (∀ i (hi : i < rows.length), rows[i].length = sz) ∧ (∀ i (hi : i < rows.length) j (hj : j < rows[i].length), rows[i][j].one = true) ∧ ∀ i (hi : i < rows.length) j (hj : j < rows[i].length), ∃ u, cs[i * sz + j]? = some u ∧ VR S w rows[i][j] u
theorem Rowed.one {sz : Nat} {rows : List (List AVal)} {cs : List Value} (h : Rowed S w sz rows cs) (h0 : 0 < sz ∨ cs = []) : ∀ u ∈ cs, u.oneCell' = true := by
 intro u hu
 rcases h0 with h0 | h0
 ·obtain ⟨k, hk, rfl⟩ := List.mem_iff_getElem.1 hu
  have h1 := h.1
  have hi : k / sz < rows.length := Nat.div_lt_of_lt_mul (by rw [Nat.mul_comm]; omega)
  have hj : k % sz < rows[k / sz].length := by rw [h.2.1 _ hi]; exact Nat.mod_lt _ h0
  obtain ⟨v, hv, hr⟩ := h.2.2.2 _ hi _ hj
  have e : k / sz * sz + k % sz = k := by rw [Nat.mul_comm]; exact Nat.div_add_mod k sz
  rw [e, List.getElem?_eq_getElem hk] at hv
  cases hv
  exact hr.one (h.2.2.1 _ hi _ hj)
 ·rw [h0] at hu; cases hu
theorem Rowed.append {sz : Nat} {r1 r2 : List (List AVal)} {c1 c2 : List Value} (h1 : Rowed S w sz r1 c1) (h2 : Rowed S w sz r2 c2) : Rowed S w sz (r1 ++ r2) (c1 ++ c2) := by
 have key : ∀ i (hi : i < (r1 ++ r2).length), (∃ hi1 : i < r1.length, (r1 ++ r2)[i] = r1[i]) ∨ (∃ hi2 : i - r1.length < r2.length, r1.length ≤ i ∧ (r1 ++ r2)[i] = r2[i - r1.length]) := by
  intro i hi
  by_cases h : i < r1.length
  ·exact .inl ⟨h, by rw [List.getElem_append_left h]⟩
  ·simp at hi
   exact .inr ⟨by omega, by omega, by rw [List.getElem_append_right (by omega)]⟩
 refine ⟨by simp [h1.1, h2.1, Nat.add_mul], fun i hi => ?_, fun i hi j hj => ?_, fun i hi j hj => ?_⟩
 ·rcases key i hi with ⟨h, e⟩ | ⟨h, _, e⟩ <;> rw [e]
  ·exact h1.2.1 _ _
  ·exact h2.2.1 _ _
 ·rcases key i hi with ⟨h, e⟩ | ⟨h, _, e⟩ <;> simp only [e] at hj ⊢
  ·exact h1.2.2.1 _ _ _ _
  ·exact h2.2.2.1 _ _ _ _
 ·rcases key i hi with ⟨h, e⟩ | ⟨h, hle, e⟩ <;> simp only [e] at hj ⊢
  ·obtain ⟨u, hu, hv⟩ := h1.2.2.2 i h j hj
   exact ⟨u, by rw [List.getElem?_append_left (List.getElem?_eq_some_iff.1 hu).1]; exact hu, hv⟩
  ·obtain ⟨u, hu, hv⟩ := h2.2.2.2 _ h j hj
   refine ⟨u, ?_, hv⟩
   have : r1.length * sz + (i - r1.length) * sz = i * sz := by rw [← Nat.add_mul]; congr 1; omega
   rw [List.getElem?_append_right (by rw [h1.1]; omega), ← hu, h1.1]
   congr 1; omega
theorem Rowed.take {sz : Nat} {rows : List (List AVal)} {cs : List Value} (h : Rowed S w sz rows cs) (n : Nat) (hn : n ≤ rows.length) : Rowed S w sz (rows.take n) (cs.take (n * sz)) := by
 have hle : n * sz ≤ rows.length * sz := Nat.mul_le_mul_right _ hn
 refine ⟨by rw [List.length_take, h.1, List.length_take, Nat.min_eq_left hle, Nat.min_eq_left hn], fun i hi => ?_, fun i hi j hj => ?_, fun i hi j hj => ?_⟩
 ·simp at hi ⊢; exact h.2.1 _ _
 ·simp at hi hj ⊢; exact h.2.2.1 _ _ _ _
 ·simp at hi
  simp only [List.getElem_take] at hj ⊢
  obtain ⟨u, hu, hv⟩ := h.2.2.2 i (by omega) j hj
  have hj' : j < sz := by rw [← h.2.1 i (by omega)]; exact hj
  have : (i + 1) * sz ≤ n * sz := Nat.mul_le_mul_right _ (by omega)
  rw [Nat.add_mul] at this
  exact ⟨u, by rw [List.getElem?_take_of_lt (by omega)]; exact hu, hv⟩
theorem Rowed.keep {sz : Nat} {rows : List (List AVal)} {cs : List Value} {S' : Nat → Prop} {w' : World} (h : Rowed S w sz rows cs) (hq : ∀ x u, VR S w x u → VR S' w' x u) : Rowed S' w' sz rows cs :=
 ⟨h.1, h.2.1, h.2.2.1, fun i hi j hj => let ⟨u, hu, hv⟩ := h.2.2.2 i hi j hj; ⟨u, hu, hq _ _ hv⟩⟩
theorem Rowed.of_buf {H : AHeap} (hw : WR W S H w) {g E sz : Nat} {rows : List (List AVal)} (hb : H g = some (.buf E sz rows)) : ∃ cur fz c, w.heap[g]? = some (.cells cur E fz) ∧ cur.size = c * sz ∧ rows.length ≤ c ∧ c ≤ maxLen ∧ Soft w g cur.size ∧ Rowed S w sz rows (cur.toList.take (rows.length * sz)) := by
 obtain ⟨cur, fz, c, h1, h2, h3, h4, h5, h6, h7, h8⟩ := hw.objs _ _ hb
 have hle : rows.length * sz ≤ c * sz := Nat.mul_le_mul_right _ h3
 refine ⟨cur, fz, c, h1, h2, h3, h4, h5, by simp; omega, h6, h7, fun i hi j hj => ?_⟩
 obtain ⟨u, hu, hv⟩ := h8 i hi j hj
 have hj' : j < sz := by rw [← h6 i hi]; exact hj
 have : (i + 1) * sz ≤ rows.length * sz := Nat.mul_le_mul_right _ hi
 rw [Nat.add_mul] at this
 exact ⟨u, by rw [List.getElem?_take_of_lt (by omega), Array.getElem?_toList]; exact hu, hv⟩
theorem Rowed.to_buf {w' : World} {g E sz : Nat} {rows : List (List AVal)} {cur : Array Value} {fz : Nat × Nat} {c : Nat} (h1 : w'.heap[g]? = some (.cells cur E fz)) (h2 : cur.size = c * sz) (h3 : rows.length ≤ c) (h4 : c ≤ maxLen) (h5 : Soft w' g cur.size)
  {cs : List Value} (hc : ∀ k, k < cs.length → cur[k]? = cs[k]?) (h : Rowed S w' sz rows cs) : OR S w' g (.buf E sz rows) :=
 ⟨cur, fz, c, h1, h2, h3, h4, h5, h.2.1, h.2.2.1, fun i hi j hj => let ⟨u, hu, hv⟩ := h.2.2.2 i hi j hj; ⟨u, by rw [hc _ (List.getElem?_eq_some_iff.1 hu).1]; exact hu, hv⟩⟩
theorem Rowed.bytes (t : ByteArray) : Rowed S w 1 (bytesOf t) (byteCells t) := by
 have e : (bytesOf t).length = t.size := by unfold bytesOf; rw [List.length_map, Array.length_toList]; rfl
 refine ⟨by rw [byteCells_length, e]; omega, fun i hi => by simp [bytesOf], fun i hi j hj => ?_, fun i hi j hj => ?_⟩
 ·simp [bytesOf] at hi hj ⊢; rfl
 ·simp [bytesOf] at hi hj ⊢
  subst hj
  refine ⟨.int .u8 ((t.data.toList[i]'(by simpa using hi)).toNat : Int), ?_, .v _⟩
  simp [byteCells, hi]
/-- What is appended, in memory. -/
theorem src_open {H : AHeap} (hw : WR W S H w) {sz : Nat} {ay : AVal} {u : Value} {new : List (List AVal)} (h : srcOf H sz ay = some new) (hv : VR S w ay u) {tx : TypeId} (hk : (∃ e', P.underlying tx = some (.slice e')) ∨ P.underlying tx = some .string) :
  ∃ news, Src P sz tx u new.length news w ∧ Rowed S w sz new news := by
 have lenOk : ∀ (A : Option Addr) (n c : Nat) (w' : World), (Builtin.lenOf (.slice A n c)).run P w' = .ok n w' := fun _ _ _ _ => rfl
 unfold srcOf at h
 split at h
 ·rename_i full sz' rows
  split at h
  ·rename_i e
   subst e
   obtain rfl : rows = new := by simpa using h
   clear h
   cases hv with
   | @sl _ _ _ A c us hc hm hf hb hl ho hh =>
   have hrd : Rowed S w sz rows ((List.range (rows.length * sz)).map fun k => us (k / sz) (k % sz)) := by
    refine ⟨by simp, hl, ho, fun i hi j hj => ?_⟩
    have hj' : j < sz := by rw [← hl i hi]; exact hj
    have : (i + 1) * sz ≤ rows.length * sz := Nat.mul_le_mul_right _ hi
    rw [Nat.add_mul] at this
    have e1 : (i * sz + j) / sz = i := by rw [Nat.mul_comm, Nat.mul_add_div (by omega), Nat.div_eq_of_lt hj', Nat.add_zero]
    have e2 : (i * sz + j) % sz = j := by rw [Nat.mul_comm, Nat.mul_add_mod, Nat.mod_eq_of_lt hj']
    refine ⟨us i j, ?_, hh i hi j hj⟩
    rw [List.getElem?_map, List.getElem?_range (by omega)]
    simp [e1, e2]
   refine ⟨_, ?_, hrd⟩
   by_cases h0 : rows.length * sz = 0
   ·have hnil : ((List.range (rows.length * sz)).map fun k => us (k / sz) (k % sz)) = [] := by rw [h0]; rfl
    rw [hnil]
    have hf1 : ∀ w', (Builtin.firstCells sz rows.length (.slice A rows.length c)).run P w' = .ok #[] w' := fun w' => by
     cases A with
     | none => rfl
     | some A => simp [Builtin.firstCells, h0, loadCells, loadCellsFrom]
    exact ⟨hk, lenOk _ _ _, hf1 w, hf1 w.drew, by simp [h0], fun _ h => by cases h⟩
   ·rcases hb with hb | ⟨b, o, rfl, hS, hx⟩
    ·simp [hb] at h0
    ·have hcell : ∀ j v, ((List.range (rows.length * sz)).map fun k => us (k / sz) (k % sz))[j]? = some v → w.cell? ((⟨b, o, none⟩ : Addr).add j) = some v := by
      intro j v hj
      obtain ⟨hlt, rfl⟩ := List.getElem?_eq_some_iff.1 hj
      simp at hlt ⊢
      have hsz : 0 < sz := Nat.pos_of_ne_zero (fun e => by subst e; simp at h0)
      have := hx (j / sz) (j % sz) (Nat.div_lt_of_lt_mul (by rw [Nat.mul_comm]; exact hlt)) (Nat.mod_lt _ hsz)
      rw [Addr.add_mid, ← this, Nat.add_assoc, Nat.mul_comm (j / sz) sz, Nat.div_add_mod]
     have h1 := hrd.one (.inl (Nat.pos_of_ne_zero (fun e => by subst e; simp at h0)))
     exact ⟨hk, lenOk _ _ _, run_firstCells_some w sz _ _ _ _ _ (by simp) hcell, run_firstCells_some w.drew sz _ _ _ _ _ (by simp) (by simpa using hcell), by simp, h1⟩
  ·cases h
 ·cases h
  cases hv
  exact ⟨[], ⟨hk, lenOk _ _ _, rfl, rfl, by simp, fun _ h => by cases h⟩, by simp, fun i hi => by simp at hi, fun i hi => by simp at hi, fun i hi => by simp at hi⟩
 ·rename_i t
  split at h
  ·rename_i e
   subst e
   cases h
   cases hv
   have e : (bytesOf t).length = t.size := by unfold bytesOf; rw [List.length_map, Array.length_toList]; rfl
   rw [e]
   exact ⟨byteCells t, ⟨hk, fun _ => rfl, firstCells_string t w, firstCells_string t w.drew, by rw [byteCells_length, Nat.mul_one], fun u hu => by
    obtain ⟨_, _, rfl⟩ := List.mem_map.1 hu
    rfl⟩, Rowed.bytes t⟩
  ·cases h
 ·rename_i g sz' n
  split at h
  ·rename_i E sz2 rows hb
   split at h
   ·rename_i e
    obtain ⟨rfl, rfl, hle⟩ := e
    cases h
    cases hv with
    | @bs _ _ _ c hn hm hwd =>
    obtain ⟨cur, fz, c', h1, h2, h3, h4, h5, h6⟩ := Rowed.of_buf hw hb
    have h7 := h6.take n hle
    have hlen : (rows.take n).length = n := by simp; omega
    have hnl := h7.1
    rw [hlen] at hnl ⊢
    have hcell : ∀ j v, ((cur.toList.take (rows.length * sz)).take (n * sz))[j]? = some v → w.cell? ((⟨g, 0, none⟩ : Addr).add j) = some v := by
     intro j v hj
     rw [Addr.add_mid, Nat.zero_add, cell_at h1, ← Array.getElem?_toList]
     rw [List.getElem?_take] at hj
     split at hj
     ·rw [List.getElem?_take] at hj
      split at hj
      ·exact hj
      ·cases hj
     ·cases hj
    by_cases h0 : n * sz = 0
    ·have hnil : ((cur.toList.take (rows.length * sz)).take (n * sz)) = [] := by rw [h0]; simp
     rw [hnil] at h7
     have hf1 : ∀ w', (Builtin.firstCells sz n (.slice (some ⟨g, 0, none⟩) n c)).run P w' = .ok #[] w' := fun w' => by simp [Builtin.firstCells, h0, loadCells, loadCellsFrom]
     exact ⟨_, ⟨hk, lenOk _ _ _, hf1 w, hf1 w.drew, by simp [h0], fun _ h => by cases h⟩, h7⟩
    ·have h1' := h7.one (.inl (Nat.pos_of_ne_zero (fun e => by subst e; simp at h0)))
     exact ⟨_, ⟨hk, lenOk _ _ _, run_firstCells_some w sz _ _ _ _ _ hnl hcell, run_firstCells_some w.drew sz _ _ _ _ _ hnl (by simpa using hcell), hnl, h1'⟩, h7⟩
   ·cases h
  ·cases h
 ·rename_i full g sz' lo n
  split at h
  ·rename_i E sz2 rows hb
   split at h
   ·rename_i e
    obtain ⟨rfl, rfl, hle⟩ := e
    cases h
    cases hv with
    | @bv _ _ _ _ _ c A hA hn hm hf =>
    obtain ⟨cur, fz, c', h1, h2, h3, h4, h5, h6⟩ := Rowed.of_buf hw hb
    have h7 : Rowed S w sz ((rows.drop lo).take n) ((cur.toList.drop (lo * sz)).take (n * sz)) := by
     have h8 := h6
     have hlen : ((rows.drop lo).take n).length = n := by simp; omega
     have hle2 : (lo + n) * sz ≤ rows.length * sz := Nat.mul_le_mul_right _ hle
     have hle3 : rows.length * sz ≤ c' * sz := Nat.mul_le_mul_right _ h3
     rw [Nat.add_mul] at hle2
     refine ⟨by rw [hlen]; simp; omega, fun i hi => ?_, fun i hi j hj => ?_, fun i hi j hj => ?_⟩
     ·simp at hi ⊢; exact h8.2.1 _ _
     ·simp at hi hj ⊢; exact h8.2.2.1 _ _ _ _
     ·rw [hlen] at hi
      simp only [List.getElem_take, List.getElem_drop] at hj ⊢
      obtain ⟨u, hu, hv⟩ := h8.2.2.2 (lo + i) (by omega) j hj
      have hj' : j < sz := by rw [← h8.2.1 (lo + i) (by omega)]; exact hj
      have h9 : (i + 1) * sz ≤ n * sz := Nat.mul_le_mul_right _ hi
      rw [Nat.add_mul] at h9
      refine ⟨u, ?_, hv⟩
      rw [List.getElem?_take_of_lt (by omega), List.getElem?_drop]
      rw [List.getElem?_take_of_lt (by rw [Nat.add_mul]; omega)] at hu
      rw [← hu, Nat.add_mul, Nat.add_assoc]
    have hlen : ((rows.drop lo).take n).length = n := by simp; omega
    have hnl := h7.1
    rw [hlen] at hnl ⊢
    by_cases h0 : n * sz = 0
    ·have hnil : ((cur.toList.drop (lo * sz)).take (n * sz)) = [] := by rw [h0]; simp
     rw [hnil] at h7
     have hf1 : ∀ w', (Builtin.firstCells sz n (.slice (some A) n c)).run P w' = .ok #[] w' := fun w' => by simp [Builtin.firstCells, h0, loadCells, loadCellsFrom]
     exact ⟨_, ⟨hk, lenOk _ _ _, hf1 w, hf1 w.drew, by simp [h0], fun _ h => by cases h⟩, h7⟩
    ·have hpos : 0 < n := Nat.pos_of_ne_zero (fun e => by subst e; simp at h0)
     have hcell : ∀ j v, ((cur.toList.drop (lo * sz)).take (n * sz))[j]? = some v → w.cell? (A.add j) = some v := by
      intro j v hj
      rw [hA hpos, Addr.add_mid, cell_at h1, ← Array.getElem?_toList]
      rw [List.getElem?_take] at hj
      split at hj
      ·rw [List.getElem?_drop] at hj; exact hj
      ·cases hj
     have h1' := h7.one (.inl (Nat.pos_of_ne_zero (fun e => by subst e; simp at h0)))
     exact ⟨_, ⟨hk, lenOk _ _ _, run_firstCells_some w sz _ _ _ _ _ hnl hcell, run_firstCells_some w.drew sz _ _ _ _ _ hnl (by simpa using hcell), hnl, h1'⟩, h7⟩
   ·cases h
  ·cases h
 ·cases h
end Go.Proofs.YtfaodacmdlnabaaGreatDoor.M
