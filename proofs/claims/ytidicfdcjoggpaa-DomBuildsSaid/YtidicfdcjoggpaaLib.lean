/-
  Words on memory for all walks of this seat: which blocks a step leaves alone ('Upd'), and how a slice, a string, a struct of Go reads as plain data ('SliceOf', 'Rep').
-/
import Derived.Test.YtidicfdcjoggpaaProg
import Derived.WalkKit
import Derived.Deep.AppendLies
import Derived.Lib.Hide
import Derived.Deep.QuietTactic
import Derived.Deep.RegionHeld3
import Derived.Deep.DrawnRows
import Derived.BigQuiet
namespace Go.Proofs.Ytidicfdcjoggpaa
open Go.RowKit
set_option linter.unusedVariables false
set_option linter.unusedSimpArgs false

theorem str_ext {a b : ByteArray} (h : a.toList = b.toList) : a = b := by
  rw [ByteArray.toList_eq, ByteArray.toList_eq] at h
  cases a; cases b; simp at h; subst h; rfl
instance decStr : DecidableEq ByteArray := fun a b => if h : a.data.toList = b.data.toList then .isTrue (str_ext (by rw [ByteArray.toList_eq, ByteArray.toList_eq, h])) else .isFalse (fun e => h (by rw [e]))
instance decMem (x : ByteArray) (xs : List ByteArray) : Decidable (x ∈ xs) := decidable_of_iff (xs.any (fun y => decide (x = y)) = true) (by simp)
theorem str_beq (a b : ByteArray) : (a.toList == b.toList) = decide (a = b) := by
  by_cases h : a = b
  · subst h; simp
  · rw [decide_eq_false h]; exact beq_eq_false_iff_ne.2 (fun e => h (str_ext e))
theorem lit_eq (l : List UInt8) (a : ByteArray) : (a.toList == l) = decide (a = ⟨l.toArray⟩) := by
  rw [← str_beq]; congr 1; rw [ByteArray.toList_eq]
theorem lit_true {l : List UInt8} {a : ByteArray} (h : a = ⟨l.toArray⟩) : (a.toList == l) = true := (lit_eq l a).trans (decide_eq_true h)
theorem lit_false {l : List UInt8} {a : ByteArray} (h : a ≠ ⟨l.toArray⟩) : (a.toList == l) = false := (lit_eq l a).trans (decide_eq_false h)
theorem empty_toList : ByteArray.empty.toList = [] := by rw [ByteArray.toList_eq]; rfl
theorem str_nil {s : ByteArray} (h : s = ByteArray.empty) : s.toList = [] := by rw [h, empty_toList]
theorem str_some {s : ByteArray} (h : s ≠ ByteArray.empty) : s.toList.isEmpty = false := by
  cases e : s.toList with
  | nil => exact absurd (str_ext (e.trans empty_toList.symm)) h
  | cons => rfl
theorem str_some2 {s : ByteArray} (h : s ≠ ByteArray.empty) : (s.toList == []) = false := by
  have := str_some h
  cases e : s.toList with
  | nil => rw [e] at this; cases this
  | cons => rfl
theorem str_eq {a b : ByteArray} (h : a = b) : (a.toList == b.toList) = true := by subst h; simp
theorem str_ne {a b : ByteArray} (h : a ≠ b) : (a.toList == b.toList) = false := by rw [str_beq, decide_eq_false h]
def BoolIs (b : Bool) (e : Ending) : Prop := e = .returned (.bool b)
def TupIs (e : Ending) : Prop := e = .returned (.tuple #[])
def IntIs (n : Nat) (e : Ending) : Prop := e = .returned (.int .i64 n)
abbrev FP := Nat → Prop
/-- The blocks of P stand in w' as in w. -/
def Same (P : FP) (w w' : World) : Prop := ∀ b, P b → w'.heap[b]? = w.heap[b]?
theorem Same.refl (P : FP) (w : World) : Same P w w := fun _ _ => rfl
theorem Same.trans {P : FP} {a b c : World} (h : Same P a b) (k : Same P b c) : Same P a c := fun x hx => (k x hx).trans (h x hx)
theorem Same.mono {P Q : FP} {a b : World} (h : Same P a b) (hq : ∀ k, Q k → P k) : Same Q a b := fun x hx => h x (hq x hx)
theorem Same.cell {P : FP} {w w' : World} (h : Same P w w') {b : Nat} (hb : P b) (o : Nat) : w'.cell? ⟨b, o, none⟩ = w.cell? ⟨b, o, none⟩ := World.cell?_of_block (h b hb)

/-- All that stood in w stands in w' as it stood, but for the blocks of M. -/
structure Upd (M : FP) (w w' : World) : Prop where
  os : w'.os = w.os
  tape : w'.tape = w.tape
  output : w'.output = w.output
  size : w.heap.size ≤ w'.heap.size
  block : ∀ k, k < w.heap.size → ¬ M k → w'.heap[k]? = w.heap[k]?
abbrev None : FP := fun _ => False
namespace Upd
variable {M : FP} {a w w' : World}
theorem refl (M : FP) (w : World) : Upd M w w := ⟨rfl, rfl, rfl, Nat.le_refl _, fun _ _ _ => rfl⟩
theorem trans {M N : FP} {a b c : World} (h : Upd M a b) (k : Upd N b c) (hn : ∀ x, x < a.heap.size → N x → M x) : Upd M a c :=
  ⟨k.os.trans h.os, k.tape.trans h.tape, k.output.trans h.output, Nat.le_trans h.size k.size, fun i hi hm => (k.block i (Nat.lt_of_lt_of_le hi h.size) (fun e => hm (hn i hi e))).trans (h.block i hi hm)⟩
theorem mono {M N : FP} (h : Upd M a w) (hn : ∀ x, x < a.heap.size → M x → N x) : Upd N a w := ⟨h.os, h.tape, h.output, h.size, fun k hk hm => h.block k hk (fun e => hm (hn k hk e))⟩
theorem drew (h : Upd M a w) : Upd M a w.drew := ⟨h.os, h.tape, h.output, h.size, h.block⟩
theorem drewN (h : Upd M a w) (n : Nat) : Upd M a (w.drewN n) := ⟨h.os, h.tape, h.output, h.size, h.block⟩
theorem alloc (h : Upd M a w) (o : Obj) : Upd M a (w.alloc o) :=
  ⟨h.os, h.tape, h.output, Nat.le_trans h.size (by simp), fun k hk hm => (Below.heap_alloc _ _ _ (Nat.lt_of_lt_of_le hk h.size)).trans (h.block k hk hm)⟩
theorem setCell (h : Upd M a w) {p : Addr} (hp : M p.block ∨ a.heap.size ≤ p.block) (u : Value) : Upd M a (w.setCell p u) :=
  ⟨h.os, h.tape, h.output, Nat.le_trans h.size (by simp [World.setCell]), fun k hk hm => (Below.heap_setCell _ _ _ _ (by rintro rfl; rcases hp with hp | hp; exact hm hp; omega)).trans (h.block k hk hm)⟩
theorem grown {row : Option Nat} (h : Upd M a w) (hg : w.grownBy w' row) (hr : ∀ k, row = some k → M k ∨ a.heap.size ≤ k) : Upd M a w' :=
  ⟨hg.os.trans h.os, hg.tape.trans h.tape, hg.output.trans h.output, Nat.le_trans h.size hg.size, fun k hk hm => (hg.block k (Nat.lt_of_lt_of_le hk h.size) (fun e => by rcases hr k e.symm with h | h; exact hm h; omega)).trans (h.block k hk hm)⟩
theorem below (h : Upd None a w) : Below a.heap.size a w := ⟨h.os, h.tape, h.output, h.size, fun k hk => h.block k hk (fun e => e)⟩
theorem belowB {B : Nat} (h : Upd (fun b => B ≤ b) a w) (hB : B ≤ a.heap.size) : Below B a w := ⟨h.os, h.tape, h.output, h.size, fun k hk => h.block k (Nat.lt_of_lt_of_le hk hB) (Nat.not_le.2 hk)⟩
theorem of_below (h : Below a.heap.size a w) : Upd M a w := ⟨h.os, h.tape, h.output, h.size, fun k hk _ => h.block k hk⟩
theorem same (h : Upd M a w) : Same (fun k => k < a.heap.size ∧ ¬ M k) a w := fun k hk => h.block k hk.1 hk.2
theorem cellp (h : Upd M a w) {p : Addr} {v : Value} (hc : a.cell? p = some v) (hm : ¬ M p.block) : w.cell? p = some v := by
  have hlt : p.block < a.heap.size := by
    rcases Nat.lt_or_ge p.block a.heap.size with hlt | hge
    · exact hlt
    · simp [World.cell?, Array.getElem?_eq_none hge] at hc
  rw [World.cell?_of_block (h.block p.block hlt hm)]; exact hc
theorem cell (h : Upd M a w) {b o : Nat} {v : Value} (hc : a.cell? ⟨b, o, none⟩ = some v) (hm : ¬ M b) : w.cell? ⟨b, o, none⟩ = some v := by
  have hlt : b < a.heap.size := by
    rcases Nat.lt_or_ge b a.heap.size with hlt | hge
    · exact hlt
    · simp [World.cell?, Array.getElem?_eq_none hge] at hc
  rw [World.cell?_of_block (h.block b hlt hm)]; exact hc
end Upd
theorem own_upd {M : FP} {w w1 : World} {base : Nat} {e : TypeId} {size n : Nat} {v : Value} {xs : List Value} (h : w.ownsRow base e size v n xs) (hs : Upd M w w1) (hm : ∀ k, v.ownBlock = some k → ¬ M k) : w1.ownsRow base e size v n xs := by
  obtain ⟨h1, h2⟩ := h
  refine ⟨h1, ?_⟩
  rcases h2 with h2 | ⟨g, cap, cur, rfl, hg, hh, r⟩
  · exact .inl h2
  · refine .inr ⟨g, cap, cur, rfl, hg, (hs.block g ?_ (hm g rfl)).trans hh, r⟩
    rcases Nat.lt_or_ge g w.heap.size with hlt | hge
    · exact hlt
    · rw [Array.getElem?_eq_none hge] at hh; cases hh
theorem own_none {w w1 : World} {base : Nat} {e : TypeId} {size n : Nat} {v : Value} {xs : List Value} (h : w.ownsRow base e size v n xs) (hs : Upd None w w1) : w1.ownsRow base e size v n xs := own_upd h hs (fun _ _ e => e)
theorem own_lt {w : World} {base : Nat} {e : TypeId} {size n : Nat} {v : Value} {xs : List Value} (h : w.ownsRow base e size v n xs) {k : Nat} (hk : v.ownBlock = some k) : base ≤ k ∧ k < w.heap.size ∧ ∃ cur, w.heap[k]? = some (.cells cur e (0, 0)) := by
  rcases h.2 with ⟨rfl, _⟩ | ⟨g, cap, cur, rfl, hg, hh, r⟩
  · cases hk
  · cases hk
    refine ⟨hg, ?_, cur, hh⟩
    rcases Nat.lt_or_ge g w.heap.size with hlt | hge
    · exact hlt
    · rw [show w.heap[g]? = Option.none from Array.getElem?_eq_none hge] at hh; cases hh
theorem own_slice {w : World} {base : Nat} {e : TypeId} {size n : Nat} {v : Value} {xs : List Value} (h : w.ownsRow base e size v n xs) : ∃ A c, v = .slice A n c := by
  rcases h.2 with ⟨rfl, rfl⟩ | ⟨g, cap, cur, rfl, _⟩
  · exact ⟨_, _, rfl⟩
  · exact ⟨_, _, rfl⟩
theorem heap_alloc_at {w : World} {o : Obj} {n : Nat} (h : n = w.heap.size) : (w.alloc o).heap[n]? = some o := by
  subst h
  show (w.heap.push o)[w.heap.size]? = some o
  simp
theorem own_cells {w : World} {base : Nat} {e : TypeId} {size n g cap : Nat} {xs ys : List Value} {m : Nat} (h : w.ownsRow base e size (.slice (some ⟨g, 0, none⟩) (n + m) cap) (n + m) (xs ++ ys)) (hx : xs.length = n * size) (hy : ys.length = m * size) {j : Nat} {u : Value} (hu : ys[j]? = some u) : w.cell? ⟨g, n * size + j, none⟩ = some u := by
  have hj : j < ys.length := by rw [List.getElem?_eq_some_iff] at hu; exact hu.1
  rw [h.cellAt _ (by rw [Nat.add_mul]; omega), List.getElem?_append_right (by omega), hx, Nat.add_sub_cancel_left]
  exact hu
theorem set_app (xs ys : List Value) (a j : Nat) (u : Value) (h : xs.length = a) : (xs ++ ys).set (a + j) u = xs ++ ys.set j u := by
  subst h
  rw [List.set_append, if_neg (by omega)]; simp
theorem own_store {w : World} {base : Nat} {e : TypeId} {size n g cap a : Nat} {xs ys : List Value} (h : w.ownsRow base e size (.slice (some ⟨g, 0, none⟩) n cap) n (xs ++ ys)) (hx : xs.length = a) (j : Nat) (u : Value) : (w.setCell ⟨g, a + j, none⟩ u).ownsRow base e size (.slice (some ⟨g, 0, none⟩) n cap) n (xs ++ ys.set j u) := by
  have := (h.stored (a + j) u).1
  rwa [set_app xs ys a j u hx] at this
theorem own_store0 {w : World} {base : Nat} {e : TypeId} {size n g cap a : Nat} {xs ys : List Value} (h : w.ownsRow base e size (.slice (some ⟨g, 0, none⟩) n cap) n (xs ++ ys)) (hx : xs.length = a) (u : Value) : (w.setCell ⟨g, a, none⟩ u).ownsRow base e size (.slice (some ⟨g, 0, none⟩) n cap) n (xs ++ ys.set 0 u) := own_store h hx 0 u
theorem own_other {w : World} {base : Nat} {e : TypeId} {size n : Nat} {v : Value} {xs : List Value} (h : w.ownsRow base e size v n xs) (a : Addr) (u : Value) (ha : v.ownBlock ≠ some a.block) : (w.setCell a u).ownsRow base e size v n xs :=
  own_upd h (M := fun k => k = a.block) (Upd.setCell (M := fun k => k = a.block) (p := a) (Upd.refl _ w) (.inl rfl) u) (fun k hk e => ha (e ▸ hk))
theorem one4 {p : Value → Prop} {a b c d : Value} (h0 : p a) (h1 : p b) (h2 : p c) (h3 : p d) : ∀ u ∈ [a, b, c, d], p u := by
  intro u hu
  simp only [List.mem_cons, List.mem_nil_iff, or_false] at hu
  rcases hu with rfl | rfl | rfl | rfl <;> assumption
@[go_sem] theorem alloc_drewN (w : World) (k : Nat) (o : Obj) : (w.drewN k).alloc o = (w.alloc o).drewN k := rfl
@[go_sem] theorem setCell_drewN (w : World) (k : Nat) (a : Addr) (v : Value) : (w.drewN k).setCell a v = (w.setCell a v).drewN k := rfl
theorem lt_of_block {w : World} {b : Nat} {o : Obj} (h : w.heap[b]? = some o) : b < w.heap.size := by
  rcases Nat.lt_or_ge b w.heap.size with hlt | hge
  · exact hlt
  · rw [Array.getElem?_eq_none hge] at h; cases h
theorem lt_of_cell {w : World} {b o : Nat} {v : Value} (h : w.cell? ⟨b, o, none⟩ = some v) : b < w.heap.size := by
  rcases Nat.lt_or_ge b w.heap.size with hlt | hge
  · exact hlt
  · simp [World.cell?, Array.getElem?_eq_none hge] at h

/-- v is a slice of n elements of sz cells each, in a block of P; element i's cells are as D i says. -/
def SliceOf (w : World) (P : FP) (sz : Nat) (v : Value) (n : Nat) (D : Nat → List Value → Prop) : Prop :=
  ∃ A c, v = .slice A n c ∧ n ≤ c ∧ c ≤ maxLen ∧ (0 < n → ∃ b o, A = some ⟨b, o, none⟩ ∧ P b ∧
    ∀ i, i < n → ∃ cs, D i cs ∧ cs.length = sz ∧ ∀ j u, cs[j]? = some u → w.cell? ⟨b, o + i * sz + j, none⟩ = some u)
namespace SliceOf
variable {w w' : World} {P Q : FP} {sz n : Nat} {v : Value} {D D' : Nat → List Value → Prop}
theorem imp (h : SliceOf w P sz v n D) (hs : Same P w w') (hq : ∀ b, P b → Q b) (hd : ∀ i cs, i < n → D i cs → D' i cs) : SliceOf w' Q sz v n D' := by
  obtain ⟨A, c, rfl, hc, hm, h⟩ := h
  refine ⟨A, c, rfl, hc, hm, fun hn => ?_⟩
  obtain ⟨b, o, rfl, hb, h⟩ := h hn
  refine ⟨b, o, rfl, hq b hb, fun i hi => ?_⟩
  obtain ⟨cs, hcs, hl, hx⟩ := h i hi
  exact ⟨cs, hd i cs hi hcs, hl, fun j u hu => (hs.cell hb _).trans (hx j u hu)⟩
theorem nil (w : World) (P : FP) (sz : Nat) (D : Nat → List Value → Prop) : SliceOf w P sz (.slice none 0 0) 0 D := ⟨none, 0, rfl, Nat.le_refl _, Nat.zero_le _, fun h => absurd h (Nat.lt_irrefl _)⟩
theorem shape (h : SliceOf w P sz v n D) : ∃ A c, v = .slice A n c ∧ n ≤ c ∧ c ≤ maxLen := let ⟨A, c, e, h1, h2, _⟩ := h; ⟨A, c, e, h1, h2⟩
theorem at_ (h : SliceOf w P sz v n D) (hn : 0 < n) : ∃ b o c, v = .slice (some ⟨b, o, none⟩) n c ∧ n ≤ c ∧ c ≤ maxLen ∧ P b ∧ ∀ i, i < n → ∃ cs, D i cs ∧ cs.length = sz ∧ ∀ j u, cs[j]? = some u → w.cell? ⟨b, o + i * sz + j, none⟩ = some u := by
  obtain ⟨A, c, rfl, hc, hm, h⟩ := h
  obtain ⟨b, o, rfl, hb, h⟩ := h hn
  exact ⟨b, o, c, rfl, hc, hm, hb, h⟩
end SliceOf

/-- Plain data as cells of memory, blocks of P alone. -/
class Rep (α : Type) where
  sz : Nat
  Is : World → FP → α → List Value → Prop
  len : ∀ {w P x cs}, Is w P x cs → cs.length = sz
  one : ∀ {w P x cs}, Is w P x cs → ∀ u ∈ cs, u.oneCell' = true
  frame : ∀ {w w' : World} {P Q : FP} {x cs}, Same P w w' → (∀ b, P b → Q b) → Is w P x cs → Is w' Q x cs
  pos : 0 < sz
  bound : ∀ {w : World} {P : FP} {x cs}, Is w P x cs → Is w (fun b => P b ∧ b < w.heap.size) x cs
theorem SliceOf.bound {w : World} {P : FP} {sz n : Nat} {v : Value} {D D' : Nat → List Value → Prop} (h : SliceOf w P sz v n D) (hz : 0 < sz) (hd : ∀ i cs, i < n → D i cs → D' i cs) : SliceOf w (fun b => P b ∧ b < w.heap.size) sz v n D' := by
  obtain ⟨A, c, rfl, hc, hm, h⟩ := h
  refine ⟨A, c, rfl, hc, hm, fun hn => ?_⟩
  obtain ⟨b, o, rfl, hb, h⟩ := h hn
  refine ⟨b, o, rfl, ⟨hb, ?_⟩, fun i hi => ?_⟩
  · obtain ⟨cs, _, hl, hx⟩ := h 0 hn
    cases cs with
    | nil => simp at hl; omega
    | cons u r => exact lt_of_cell (hx 0 u rfl)
  · obtain ⟨cs, h1, h2⟩ := h i hi
    exact ⟨cs, hd i cs hi h1, h2⟩
section
variable {α : Type} [Rep α] {w w' : World} {P Q : FP} {v : Value} {xs : List α}
def SliceIs (w : World) (P : FP) (v : Value) (xs : List α) : Prop := SliceOf w P (Rep.sz α) v xs.length (fun i cs => ∃ h : i < xs.length, Rep.Is w P xs[i] cs)
theorem SliceIs.frame (h : SliceIs w P v xs) (hs : Same P w w') (hq : ∀ b, P b → Q b) : SliceIs w' Q v xs := SliceOf.imp h hs hq (fun _ _ _ ⟨h, hx⟩ => ⟨h, Rep.frame hs hq hx⟩)
theorem SliceIs.bound (h : SliceIs w P v xs) : SliceIs w (fun b => P b ∧ b < w.heap.size) v xs := SliceOf.bound h Rep.pos (fun _ _ _ ⟨h, hx⟩ => ⟨h, Rep.bound hx⟩)
/-- Behind a step that turns nothing that was there. -/
theorem SliceIs.keep (h : SliceIs w P v xs) (hu : Upd None w w') : SliceIs w' P v xs := h.bound.frame (fun b hb => hu.block b hb.2 id) (fun _ h => h.1)
theorem Rep.keep {x : α} {cs : List Value} (h : Rep.Is w P x cs) (hu : Upd None w w') : Rep.Is w' P x cs := Rep.frame (fun b hb => hu.block b hb.2 id) (fun _ h => h.1) (Rep.bound h)
theorem SliceIs.nil (w : World) (P : FP) : SliceIs w P (.slice none 0 0) ([] : List α) := SliceOf.nil _ _ _ _
theorem SliceIs.at_ (h : SliceIs w P v xs) {i : Nat} (hi : i < xs.length) : ∃ b o c cs, v = .slice (some ⟨b, o, none⟩) xs.length c ∧ xs.length ≤ c ∧ c ≤ maxLen ∧ P b ∧ Rep.Is w P xs[i] cs ∧ ∀ j u, cs[j]? = some u → w.cell? ⟨b, o + i * Rep.sz α + j, none⟩ = some u := by
  obtain ⟨b, o, c, e, hc, hm, hb, h⟩ := SliceOf.at_ h (by omega)
  obtain ⟨cs, ⟨_, hx⟩, _, h⟩ := h i hi
  exact ⟨b, o, c, cs, e, hc, hm, hb, hx, h⟩
end
theorem SliceIs.oneCell {α : Type} [Rep α] {w : World} {P : FP} {v : Value} {xs : List α} (h : SliceIs w P v xs) : v.oneCell' = true := by obtain ⟨A, c, rfl, _⟩ := h; rfl
instance : Rep ByteArray where
  sz := 1
  pos := by decide
  bound h := h
  Is _ _ s cs := cs = [.string s]
  len := by rintro _ _ _ _ rfl; rfl
  one := by rintro _ _ _ _ rfl u hu; simp at hu; subst hu; rfl
  frame _ _ h := h
instance : Rep Int where
  sz := 1
  pos := by decide
  bound h := h
  Is _ _ s cs := cs = [.int .i64 s]
  len := by rintro _ _ _ _ rfl; rfl
  one := by rintro _ _ _ _ rfl u hu; simp at hu; subst hu; rfl
  frame _ _ h := h
instance : Rep Bool where
  sz := 1
  pos := by decide
  bound h := h
  Is _ _ s cs := cs = [.bool s]
  len := by rintro _ _ _ _ rfl; rfl
  one := by rintro _ _ _ _ rfl u hu; simp at hu; subst hu; rfl
  frame _ _ h := h
instance {α : Type} [Rep α] : Rep (List α) where
  sz := 1
  pos := by decide
  bound := by rintro _ _ _ _ ⟨v, rfl, h⟩; exact ⟨v, rfl, h.bound⟩
  Is w P xs cs := ∃ v, cs = [v] ∧ SliceIs w P v xs
  len := by rintro _ _ _ _ ⟨v, rfl, _⟩; rfl
  one := by rintro _ _ _ _ ⟨v, rfl, h⟩ u hu; simp at hu; subst hu; exact h.oneCell
  frame hs hq := by rintro ⟨v, rfl, h⟩; exact ⟨v, rfl, h.frame hs hq⟩

/-! ### A slice of the call's own, which is appended to -/
section
variable {α : Type} [Rep α] {w w' : World} {P Q : FP} {v : Value} {xs : List α} {B E : Nat}
/-- Element cells by rows. -/
def Cells (w : World) (P : FP) : List α → List Value → Prop
  | [], cs => cs = []
  | x :: xs, cs => ∃ c r, cs = c ++ r ∧ Rep.Is w P x c ∧ Cells w P xs r
theorem Cells.frame {xs : List α} {cs : List Value} (h : Cells w P xs cs) (hs : Same P w w') (hq : ∀ b, P b → Q b) : Cells w' Q xs cs := by
  induction xs generalizing cs with
  | nil => exact h
  | cons x xs ih => obtain ⟨c, r, rfl, h1, h2⟩ := h; exact ⟨c, r, rfl, Rep.frame hs hq h1, ih h2⟩
theorem Cells.len {xs : List α} {cs : List Value} (h : Cells w P xs cs) : cs.length = xs.length * Rep.sz α := by
  induction xs generalizing cs with
  | nil => cases h; simp
  | cons x xs ih => obtain ⟨c, r, rfl, h1, h2⟩ := h; simp [Rep.len h1, ih h2, Nat.add_mul, Nat.add_comm]
theorem Cells.snoc {xs : List α} {cs c : List Value} {x : α} (h : Cells w P xs cs) (hx : Rep.Is w P x c) : Cells w P (xs ++ [x]) (cs ++ c) := by
  induction xs generalizing cs with
  | nil => cases h; exact ⟨c, [], by simp, hx, rfl⟩
  | cons y xs ih => obtain ⟨d, r, rfl, h1, h2⟩ := h; exact ⟨d, r ++ c, by simp, h1, ih h2⟩
theorem Cells.get {xs : List α} {cs : List Value} (h : Cells w P xs cs) {i : Nat} (hi : i < xs.length) : ∃ c, Rep.Is w P xs[i] c ∧ ∀ j u, c[j]? = some u → cs[i * Rep.sz α + j]? = some u := by
  induction xs generalizing cs i with
  | nil => simp at hi
  | cons x xs ih =>
    obtain ⟨c, r, rfl, h1, h2⟩ := h
    cases i with
    | zero => exact ⟨c, h1, fun j u hu => by simp only [Nat.zero_mul, Nat.zero_add]; rw [List.getElem?_append_left (by rw [List.getElem?_eq_some_iff] at hu; exact hu.1)]; exact hu⟩
    | succ i =>
      obtain ⟨c', h3, h4⟩ := ih h2 (i := i) (by simpa using hi)
      refine ⟨c', h3, fun j u hu => ?_⟩
      have hl := Rep.len h1
      rw [List.getElem?_append_right (by rw [hl, Nat.add_mul]; omega), ← h4 j u hu]
      congr 1
      rw [hl, Nat.add_mul]; omega
/-- v owns the elements xs (element type E); what they lead to lies in blocks of P beside v's own. -/
def Mine (w : World) (B : Nat) (E : TypeId) (P : FP) (v : Value) (xs : List α) : Prop :=
  ∃ cs, w.ownsRow B E (Rep.sz α) v xs.length cs ∧ Cells w (fun b => P b ∧ some b ≠ v.ownBlock ∧ b < w.heap.size) xs cs
theorem Mine.nil (w : World) (B : Nat) (E : TypeId) (P : FP) : Mine w B E P (.slice none 0 0) ([] : List α) := ⟨[], ⟨by simp, .inl ⟨rfl, rfl⟩⟩, rfl⟩
theorem Mine.slice (h : Mine w B E P v xs) : SliceIs w (fun b => P b ∨ v.ownBlock = some b) v xs := by
  obtain ⟨cs, ⟨hl, h0 | ⟨g, cap, cur, rfl, hg, hh, hn, hm, hcur, ht⟩⟩, hc⟩ := h
  · obtain ⟨rfl, h0⟩ := h0
    have : xs = [] := List.length_eq_zero_iff.1 h0
    subst this
    exact SliceIs.nil _ _
  · refine ⟨some ⟨g, 0, none⟩, cap, rfl, hn, hm, fun _ => ⟨g, 0, rfl, .inr rfl, fun i hi => ?_⟩⟩
    obtain ⟨c, h1, h2⟩ := hc.get hi
    refine ⟨c, ⟨hi, Rep.frame (Same.refl _ _) (fun b hb => .inl hb.1) h1⟩, Rep.len h1, fun j u hu => ?_⟩
    have h3 := h2 j u hu
    rw [cell_of_row w g _ cur E (0, 0) hh, Nat.zero_add, ← Array.getElem?_toList]
    rw [← ht, List.getElem?_take] at h3
    split at h3
    · exact h3
    · cases h3
theorem Mine.shape (h : Mine w B E P v xs) : ∃ A c, v = .slice A xs.length c := by
  obtain ⟨cs, ⟨hl, h0 | ⟨g, cap, cur, rfl, hg, hh, hn, hm, hcur, ht⟩⟩, hc⟩ := h
  · exact ⟨none, 0, by rw [h0.1, ← h0.2]⟩
  · exact ⟨_, _, rfl⟩
/-- Behind a step that leaves v's own block and those of P alone. -/
theorem Mine.step (h : Mine w B E P v xs) (hs : Same (fun b => P b ∧ b < w.heap.size) w w') (ho : ∀ k, v.ownBlock = some k → w'.heap[k]? = w.heap[k]?) (hz : w.heap.size ≤ w'.heap.size) : Mine w' B E P v xs := by
  obtain ⟨cs, ⟨hl, h0⟩, hc⟩ := h
  refine ⟨cs, ⟨hl, ?_⟩, hc.frame (fun b hb => hs b ⟨hb.1, hb.2.2⟩) (fun b hb => ⟨hb.1, hb.2.1, Nat.lt_of_lt_of_le hb.2.2 hz⟩)⟩
  rcases h0 with h0 | ⟨g, cap, cur, rfl, hg, hh, r⟩
  · exact .inl h0
  · exact .inr ⟨g, cap, cur, rfl, hg, (ho g rfl).trans hh, r⟩
end
theorem addr_add (b o j : Nat) : (⟨b, o, none⟩ : Addr).add j = ⟨b, o + j, none⟩ := by unfold Addr.add; split <;> simp_all
section
variable {α : Type} [Rep α] {w w' : World} {P Q : FP} {v : Value} {xs : List α}
theorem Cells.one {xs : List α} {cs : List Value} (h : Cells w P xs cs) : ∀ u ∈ cs, u.oneCell' = true := by
  induction xs generalizing cs with
  | nil => cases h; simp
  | cons x xs ih =>
    obtain ⟨c, r, rfl, h1, h2⟩ := h
    intro u hu
    rcases List.mem_append.1 hu with hu | hu
    · exact Rep.one h1 u hu
    · exact ih h2 u hu
theorem Cells.last_ {xs : List α} {x : α} {cs : List Value} (h : Cells w P (xs ++ [x]) cs) : ∃ c0 cn, cs = c0 ++ cn ∧ Cells w P xs c0 ∧ Rep.Is w P x cn := by
  induction xs generalizing cs with
  | nil => obtain ⟨c, r, rfl, h1, h2⟩ := h; cases h2; exact ⟨[], c, by simp, rfl, h1⟩
  | cons k ks ih =>
    obtain ⟨c, r, rfl, h1, h2⟩ := h
    obtain ⟨c0, cn, rfl, h3, h4⟩ := ih h2
    exact ⟨c ++ c0, cn, by simp, ⟨c, c0, rfl, h1, h3⟩, h4⟩
/-- All cells of a slice in a row. -/
theorem SliceIs.flat (h : SliceIs w P v xs) (hn : 0 < xs.length) : ∃ b o c cs, v = .slice (some ⟨b, o, none⟩) xs.length c ∧ P b ∧ Cells w P xs cs ∧ ∀ j u, cs[j]? = some u → w.cell? ((⟨b, o, none⟩ : Addr).add j) = some u := by
  obtain ⟨b, o, c, rfl, _, _, hb, hg⟩ := SliceOf.at_ h hn
  have key : ∀ k, k ≤ xs.length → ∃ cs, Cells w P (xs.take k) cs ∧ ∀ j u, cs[j]? = some u → w.cell? ⟨b, o + j, none⟩ = some u := by
    intro k
    induction k with
    | zero => intro _; exact ⟨[], by simp [Cells], by simp⟩
    | succ k ih =>
      intro hk
      obtain ⟨cs, h1, h2⟩ := ih (by omega)
      obtain ⟨c, ⟨_, hc⟩, hl, hx⟩ := hg k (by omega)
      refine ⟨cs ++ c, ?_, fun j u hu => ?_⟩
      · rw [List.take_succ_eq_append_getElem (by omega)]; exact h1.snoc hc
      · have hlen := h1.len
        rw [List.length_take, Nat.min_eq_left (by omega)] at hlen
        rcases Nat.lt_or_ge j cs.length with hj | hj
        · rw [List.getElem?_append_left hj] at hu; exact h2 j u hu
        · rw [List.getElem?_append_right hj] at hu
          have := hx _ u hu
          rw [show o + k * Rep.sz α + (j - cs.length) = o + j by omega] at this
          exact this
  obtain ⟨cs, h1, h2⟩ := key xs.length (Nat.le_refl _)
  rw [List.take_length] at h1
  exact ⟨b, o, c, cs, rfl, hb, h1, fun j u hu => by rw [addr_add]; exact h2 j u hu⟩
end
/-- Data without anything behind it. -/
class Flat (α : Type) [Rep α] : Prop where
  any : ∀ {w w' : World} {P Q : FP} {x : α} {cs : List Value}, Rep.Is w P x cs → Rep.Is w' Q x cs
instance : Flat ByteArray := ⟨fun h => h⟩
instance : Flat Int := ⟨fun h => h⟩
theorem Cells.any {α : Type} [Rep α] [Flat α] {w w' : World} {P Q : FP} {xs : List α} {cs : List Value} (h : Cells w P xs cs) : Cells w' Q xs cs := by
  induction xs generalizing cs with
  | nil => exact h
  | cons x xs ih => obtain ⟨c, r, rfl, h1, h2⟩ := h; exact ⟨c, r, rfl, Flat.any h1, ih h2⟩
/-- What owns a row of such data is a slice of it, wherever it lies. -/
theorem own_flat {α : Type} [Rep α] [Flat α] {w : World} {B E n : Nat} {v : Value} {xs : List α} {cs : List Value} (h : w.ownsRow B E (Rep.sz α) v n cs) (hn : n = xs.length) {w0 : World} {P : FP} (hc : Cells w0 P xs cs) : SliceIs w (fun b => B ≤ b ∧ b < w.heap.size) v xs := by
  subst hn
  have : Mine w B E (fun b => b < w.heap.size) v xs := ⟨cs, h, hc.any⟩
  refine (Mine.slice (P := None) ⟨cs, h, hc.any⟩).frame (Same.refl _ _) (fun b hb => ?_)
  rcases hb with hb | hb
  · exact hb.elim
  · exact ⟨(own_lt h hb).1, (own_lt h hb).2.1⟩
end Go.Proofs.Ytidicfdcjoggpaa
