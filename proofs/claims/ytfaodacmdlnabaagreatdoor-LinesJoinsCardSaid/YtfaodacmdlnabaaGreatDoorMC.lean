/-
 An abstract machine under which Go functions are walked: values that carry their content, memory that is immutable (S) or owned (H).
-/
/-
 The abstract machine's operations that leave memory alone: what they yield, and that the program's operations yield it.
-/
/-
 What the abstract machine's quiet operations yield, the program's yield.
-/
import Derived.WalkKit
import Derived.Lib.Hide
import Derived.OrdersHeld
import Derived.Deep.LoopGhost
import Derived.Deep.MidRow
import Derived.Laws.Entries
import Derived.ChangeKeysEq
import Derived.Laws.StructEq
namespace Go.Proofs.YtfaodacmdlnabaaGreatDoor.M
open Go.RowKit
set_option linter.unusedVariables false
set_option linter.unusedSimpArgs false

inductive AVal where
 | any
 | v (x : Value)
 | sl (full : Bool) (sz : Nat) (rows : List (List AVal))
 | bs (g sz n : Nat)
 | bv (full : Bool) (g sz lo n : Nat)
 | bp (g sz i k : Nat)
 | pl (cells : List AVal)
 | agg (cells : List AVal)
 | tup (vs : List AVal)
 | fn (f : FuncId) (caps : List AVal)
 | ifc (t : TypeId) (x : AVal)
 | bm (f : FuncId) (xs : List AVal)

/-- May a cell hold it? -/
def AVal.one : AVal → Bool
 | .agg _ | .tup _ | .any => false
 | .v x => x.oneCell'
 | _ => true

inductive AObj where
 | cells (E : TypeId) (cs : List AVal)
 | buf (E : TypeId) (sz : Nat) (rows : List (List AVal))
 | mp (l : List (Value × Nat × AVal)) (clock : Nat)
 | it (m since : Nat) (seen : List Nat) (c0 : Nat)
 | si (t : ByteArray) (pos : Nat)

abbrev AHeap := Nat → Option AObj
def AHeap.none : AHeap := fun _ => Option.none
def AHeap.put (H : AHeap) (b : Nat) (o : AObj) : AHeap := fun x => if x = b then some o else H x
def AHeap.del (H : AHeap) (b : Nat) : AHeap := fun x => if x = b then Option.none else H x

/-- The block b of w has m cells at least. -/
def Wide (w : World) (b m : Nat) : Prop := ∃ cur E fz, w.heap[b]? = some (.cells cur E fz) ∧ m ≤ cur.size

/-- A value, and what it is known to be: S are the blocks that never change. -/
inductive VR (S : Nat → Prop) (w : World) : AVal → Value → Prop
 | any (x : Value) : VR S w .any x
 | v (x : Value) : VR S w (.v x) x
 | sl {full : Bool} {sz : Nat} {rows : List (List AVal)} {A : Option Addr} {c : Nat} (us : Nat → Nat → Value) (hc : rows.length ≤ c) (hm : c ≤ maxLen) (hf : full = true → c = rows.length)
   (hb : rows = [] ∨ ∃ b o, A = some ⟨b, o, none⟩ ∧ S b ∧ ∀ i j, i < rows.length → j < sz → w.cell? ⟨b, o + i * sz + j, none⟩ = some (us i j))
   (hl : ∀ i (hi : i < rows.length), rows[i].length = sz) (ho : ∀ i (hi : i < rows.length) j (hj : j < rows[i].length), rows[i][j].one = true)
   (h : ∀ i (hi : i < rows.length) j (hj : j < rows[i].length), VR S w rows[i][j] (us i j)) : VR S w (.sl full sz rows) (.slice A rows.length c)
 | bs {g sz n c : Nat} (hn : n ≤ c) (hm : c ≤ maxLen) (hw : Wide w g (c * sz)) : VR S w (.bs g sz n) (.slice (some ⟨g, 0, none⟩) n c)
 | bv {full : Bool} {g sz lo n c : Nat} {A : Addr} (hA : 0 < n → A = ⟨g, lo * sz, none⟩) (hn : n ≤ c) (hm : c ≤ maxLen) (hf : full = true → c = n) : VR S w (.bv full g sz lo n) (.slice (some A) n c)
 | bp {g sz i k : Nat} : VR S w (.bp g sz i k) (.pointer (some ⟨g, i * sz + k, none⟩))
 | pl {cells : List AVal} {b o : Nat} (us : Nat → Value) (hb : S b) (hc : ∀ j, j < cells.length → w.cell? ⟨b, o + j, none⟩ = some (us j)) (h : ∀ j (hj : j < cells.length), VR S w cells[j] (us j)) : VR S w (.pl cells) (.pointer (some ⟨b, o, none⟩))
 | agg {cells : List AVal} {vs : Array Value} (us : Nat → Value) (hl : vs.size = cells.length) (hv : ∀ j (hj : j < vs.size), vs[j] = us j) (ho : ∀ j (hj : j < cells.length), cells[j].one = true) (h : ∀ j (hj : j < cells.length), VR S w cells[j] (us j)) : VR S w (.agg cells) (.agg vs)
 | tup {cells : List AVal} {vs : Array Value} (us : Nat → Value) (hl : vs.size = cells.length) (hv : ∀ j (hj : j < vs.size), vs[j] = us j) (h : ∀ j (hj : j < cells.length), VR S w cells[j] (us j)) : VR S w (.tup cells) (.tuple vs)
 | fn {f : FuncId} {caps : List AVal} {vs : Array Value} (us : Nat → Value) (hl : vs.size = caps.length) (hv : ∀ j (hj : j < vs.size), vs[j] = us j) (h : ∀ j (hj : j < caps.length), VR S w caps[j] (us j)) : VR S w (.fn f caps) (.func (.func f) #[] vs)
 | ifc {t : TypeId} {x : AVal} {u : Value} (h : VR S w x u) : VR S w (.ifc t x) (.iface t u)
 | bm {f : FuncId} {xs : List AVal} {vs : Array Value} (us : Nat → Value) (hl : vs.size = xs.length) (hv : ∀ j (hj : j < vs.size), vs[j] = us j) (h : ∀ j (hj : j < xs.length), VR S w xs[j] (us j)) : VR S w (.bm f xs) (.func (.func f) vs #[])

theorem VR.one {S : Nat → Prop} {w : World} {x : AVal} {u : Value} (h : VR S w x u) (ho : x.one = true) : u.oneCell' = true := by
 cases h <;> simp_all [AVal.one, Value.oneCell']

/-- What was known stays known where the immutable blocks stand and no block changes its width. -/
theorem VR.keep {S S' : Nat → Prop} {w w' : World} (hS : ∀ b, S b → S' b ∧ w'.heap[b]? = w.heap[b]?) (hw : ∀ b m, Wide w b m → Wide w' b m) {x : AVal} {u : Value} (h : VR S w x u) : VR S' w' x u := by
 have cellEq : ∀ b o, S b → w'.cell? ⟨b, o, none⟩ = w.cell? ⟨b, o, none⟩ := fun b o hb => World.cell?_of_block (hS b hb).2
 induction h with
 | any x => exact .any x
 | v x => exact .v x
 | sl us hc hm hf hb hl ho h ih =>
  refine .sl us hc hm hf ?_ hl ho ih
  rcases hb with hb | ⟨b, o, e, hb, hx⟩
  ·exact .inl hb
  ·exact .inr ⟨b, o, e, (hS b hb).1, fun i j hi hj => (cellEq b _ hb).trans (hx i j hi hj)⟩
 | bs hn hm hwd => exact .bs hn hm (hw _ _ hwd)
 | bv hA hn hm hf => exact .bv hA hn hm hf
 | bp => exact .bp
 | pl us hb hc h ih => exact .pl us (hS _ hb).1 (fun j hj => (cellEq _ _ hb).trans (hc j hj)) ih
 | agg us hl hv ho h ih => exact .agg us hl hv ho ih
 | tup us hl hv h ih => exact .tup us hl hv ih
 | fn us hl hv h ih => exact .fn us hl hv ih
 | ifc h ih => exact .ifc ih
 | bm us hl hv h ih => exact .bm us hl hv ih

/-- An owned object in memory. -/
def Soft (w : World) (b n : Nat) : Prop := ∀ o, o < n → w.frozen? ⟨b, o, none⟩ = false
/-- A map's entries. -/
def MR (S : Nat → Prop) (w : World) : List (Value × Nat × AVal) → List MapEntry → Prop
 | [], [] => True
 | e :: l, x :: es => x.key = e.1 ∧ x.born = e.2.1 ∧ VR S w e.2.2 x.val ∧ MR S w l es
 | _, _ => False
theorem MR.mono {S S' : Nat → Prop} {w w' : World} (hv : ∀ x u, VR S w x u → VR S' w' x u) : ∀ {l : List (Value × Nat × AVal)} {es : List MapEntry}, MR S w l es → MR S' w' l es
 | [], [], h => h
 | _ :: _, _ :: _, h => ⟨h.1, h.2.1, hv _ _ h.2.2.1, h.2.2.2.mono hv⟩
 | [], _ :: _, h => h.elim
 | _ :: _, [], h => h.elim
def OR (S : Nat → Prop) (w : World) (b : Nat) : AObj → Prop
 | .cells E cs => ∃ cur fz, w.heap[b]? = some (.cells cur E fz) ∧ cur.size = cs.length ∧ Soft w b cur.size ∧ (∀ i (h : i < cs.length), cs[i].one = true) ∧ ∀ i (h : i < cs.length) (h' : i < cur.size), VR S w cs[i] cur[i]
 | .buf E sz rows => ∃ cur fz c, w.heap[b]? = some (.cells cur E fz) ∧ cur.size = c * sz ∧ rows.length ≤ c ∧ c ≤ maxLen ∧ Soft w b cur.size ∧ (∀ i (hi : i < rows.length), rows[i].length = sz) ∧
   (∀ i (hi : i < rows.length) j (hj : j < rows[i].length), rows[i][j].one = true) ∧ ∀ i (hi : i < rows.length) j (hj : j < rows[i].length), ∃ u, cur[i * sz + j]? = some u ∧ VR S w rows[i][j] u
 | .mp l clock => ∃ es, w.heap[b]? = some (.map es clock) ∧ MR S w l es.toList
 | .it m since seen c0 => w.heap[b]? = some (.mapIter (some m) since seen.toArray c0)
 | .si t pos => w.heap[b]? = some (.stringIter t pos)
structure WR (W : World) (S : Nat → Prop) (H : AHeap) (w : World) : Prop where
 old : Below W.heap.size W w
 new : ∀ b o, H b = some o → W.heap.size ≤ b
 lt : ∀ b, S b → b < w.heap.size
 apart : ∀ b o, H b = some o → ¬ S b
 objs : ∀ b o, H b = some o → OR S w b o
theorem lt_of_some {w : World} {b : Nat} {o : Obj} (h : w.heap[b]? = some o) : b < w.heap.size := by
 rcases Nat.lt_or_ge b w.heap.size with hlt | hge
 ·exact hlt
 ·rw [Array.getElem?_eq_none hge] at h; cases h
theorem OR.lt {S : Nat → Prop} {w : World} {b : Nat} {o : AObj} (h : OR S w b o) : b < w.heap.size := by
 cases o with
 | cells E cs => obtain ⟨cur, fz, h, _⟩ := h; exact lt_of_some h
 | buf E sz rows => obtain ⟨cur, fz, c, h, _⟩ := h; exact lt_of_some h
 | mp l c => obtain ⟨es, h, _⟩ := h; exact lt_of_some h
 | it m a l c => exact lt_of_some h
 | si t p => exact lt_of_some h
theorem WR.fresh {W : World} {S : Nat → Prop} {H : AHeap} {w : World} (h : WR W S H w) : H w.heap.size = none := by
 cases e : H w.heap.size with
 | none => rfl
 | some o => exact absurd (h.objs _ _ e).lt (Nat.lt_irrefl _)
theorem OR.keep {S S' : Nat → Prop} {w w' : World} (hS : ∀ b, S b → S' b ∧ w'.heap[b]? = w.heap[b]?) (hw : ∀ b m, Wide w b m → Wide w' b m) {b : Nat} (hb : w'.heap[b]? = w.heap[b]?) {o : AObj} (h : OR S w b o) : OR S' w' b o := by
 have hs : ∀ n, Soft w b n → Soft w' b n := fun n h o ho => by rw [← h o ho]; unfold World.frozen?; rw [hb]
 cases o with
 | cells E cs =>
  obtain ⟨cur, fz, h1, h2, h3, h4, h5⟩ := h
  exact ⟨cur, fz, hb.trans h1, h2, hs _ h3, h4, fun i hi hi' => (h5 i hi hi').keep hS hw⟩
 | buf E sz rows =>
  obtain ⟨cur, fz, c, h1, h2, h3, h4, h5, h6, h7, h8⟩ := h
  exact ⟨cur, fz, c, hb.trans h1, h2, h3, h4, hs _ h5, h6, h7, fun i hi j hj => let ⟨u, hu, hv⟩ := h8 i hi j hj; ⟨u, hu, hv.keep hS hw⟩⟩
 | mp l c =>
  obtain ⟨es, h1, h2⟩ := h
  exact ⟨es, hb.trans h1, h2.mono fun x u h => h.keep hS hw⟩
 | it m a l c => exact hb.trans h
 | si t p => exact hb.trans h

/-- What a step may do: blocks that stood and are not owned stand; none changes its width. -/
structure Ext (S : Nat → Prop) (H : AHeap) (w : World) (S' : Nat → Prop) (H' : AHeap) (w' : World) : Prop where
 size : w.heap.size ≤ w'.heap.size
 block : ∀ b, b < w.heap.size → H b = none → w'.heap[b]? = w.heap[b]?
 wide : ∀ b m, Wide w b m → Wide w' b m
 up : ∀ b, S b → S' b
 down : ∀ b, S' b → S b ∨ w.heap.size ≤ b ∨ H b ≠ none
 dom : ∀ b, H' b ≠ none → H b ≠ none ∨ w.heap.size ≤ b
theorem Ext.refl (S : Nat → Prop) (H : AHeap) (w : World) : Ext S H w S H w :=
 ⟨Nat.le_refl _, fun _ _ _ => rfl, fun _ _ h => h, fun _ h => h, fun _ h => .inl h, fun _ h => .inl h⟩
theorem Ext.trans {S S1 S2 : Nat → Prop} {H H1 H2 : AHeap} {w w1 w2 : World} (h : Ext S H w S1 H1 w1) (k : Ext S1 H1 w1 S2 H2 w2) : Ext S H w S2 H2 w2 where
 size := Nat.le_trans h.size k.size
 block b hb hH := by
  have h1 : H1 b = none := by
   cases e : H1 b with
   | none => rfl
   | some o =>
    rcases h.dom b (by simp [e]) with h2 | h2
    ·exact absurd hH h2
    ·omega
  exact (k.block b (Nat.lt_of_lt_of_le hb h.size) h1).trans (h.block b hb hH)
 wide b m hm := k.wide b m (h.wide b m hm)
 up b hb := k.up b (h.up b hb)
 down b hb := by
  rcases k.down b hb with h1 | h1 | h1
  ·exact h.down b h1
  ·have := h.size; exact .inr (.inl (by omega))
  ·rcases h.dom b h1 with h2 | h2
   ·exact .inr (.inr h2)
   ·exact .inr (.inl h2)
 dom b hb := by
  rcases k.dom b hb with h1 | h1
  ·exact h.dom b h1
  ·have := h.size; exact .inr (by omega)
/-- The heap's own part may be called smaller. -/
def Sub (H' H : AHeap) : Prop := ∀ b o, H' b = some o → H b = some o
theorem Sub.refl (H : AHeap) : Sub H H := fun _ _ h => h
theorem Sub.none (H : AHeap) : Sub AHeap.none H := fun _ _ h => by cases h
theorem Ext.less {S S' : Nat → Prop} {H H' H2 : AHeap} {w w' : World} (h : Ext S H w S' H' w') (hs : Sub H2 H') : Ext S H w S' H2 w' :=
 { h with dom := fun b hb => h.dom b (fun e => hb (by cases e2 : H2 b with | none => rfl | some o => rw [hs b o e2] at e; cases e)) }
theorem WR.less {W : World} {S : Nat → Prop} {H H2 : AHeap} {w : World} (h : WR W S H w) (hs : Sub H2 H) : WR W S H2 w := ⟨h.old, fun b o hb => h.new b o (hs b o hb), h.lt, fun b o hb => h.apart b o (hs b o hb), fun b o hb => h.objs b o (hs b o hb)⟩
theorem Ext.still {W : World} {S S' : Nat → Prop} {H H' : AHeap} {w w' : World} (h : Ext S H w S' H' w') (hw : WR W S H w) : ∀ b, S b → S' b ∧ w'.heap[b]? = w.heap[b]? := fun b hb =>
 ⟨h.up b hb, h.block b (hw.lt b hb) (by cases e : H b with | none => rfl | some o => exact absurd hb (hw.apart b o e))⟩
theorem VR.ext {W : World} {S S' : Nat → Prop} {H H' : AHeap} {w w' : World} {x : AVal} {u : Value} (h : VR S w x u) (hw : WR W S H w) (he : Ext S H w S' H' w') : VR S' w' x u := h.keep (he.still hw) he.wide

def VRs (S : Nat → Prop) (w : World) (xs : List AVal) (us : Array Value) : Prop := us.size = xs.length ∧ ∀ i (h : i < xs.length) (h' : i < us.size), VR S w xs[i] us[i]

/-- A call, as it is told: from these arguments and owned objects on it returns, and K holds of the result and of what is owned then. -/
def ACalls (P : Program) (W : World) (f : FuncId) (args : List AVal) (H : AHeap) (K : AVal → AHeap → Prop) : Prop :=
 ∀ (S : Nat → Prop) (w : World) (us : Array Value), WR W S H w → VRs S w args us →
  Calls P f us w fun e w' => ∃ r H' S' v, K r H' ∧ e = .returned v ∧ Ext S H w S' H' w' ∧ WR W S' H' w' ∧ VR S' w' r v
theorem ACalls.mono {P : Program} {W : World} {f : FuncId} {args : List AVal} {H : AHeap} {K K' : AVal → AHeap → Prop} (h : ACalls P W f args H K) (hk : ∀ r H', K r H' → K' r H') : ACalls P W f args H K' :=
 fun S w us hw hv => (h S w us hw hv).mono fun e w' ⟨r, H', S', v, k, rest⟩ => ⟨r, H', S', v, hk _ _ k, rest⟩
/-- The rest of what is owned stays as it is. -/
def AHeap.over (H1 F : AHeap) : AHeap := fun b => match H1 b with | some o => some o | .none => F b
theorem ACalls.frame {P : Program} {W : World} {f : FuncId} {args : List AVal} {H1 H : AHeap} {K : AVal → AHeap → Prop} (hs : Sub H1 H) (h : ACalls P W f args H1 K) :
  ACalls P W f args H fun r H' => ∃ H1', K r H1' ∧ H' = H1'.over (fun b => match H1 b with | some _ => none | none => H b) := by
 intro S w us hw hv
 refine (h S w us (hw.less hs) hv).mono ?_
 rintro e w' ⟨r, H1', S', v, hk, rfl, hx, hw', hvr⟩
 refine ⟨r, _, S', v, ⟨H1', hk, rfl⟩, rfl, ?_, ?_, hvr⟩
 ·exact { hx with
   block := fun b hb hH => hx.block b hb (by cases e : H1 b with | none => rfl | some o => rw [hs b o e] at hH; cases hH)
   down := fun b hb => by
    rcases hx.down b hb with h1 | h1 | h1
    ·exact .inl h1
    ·exact .inr (.inl h1)
    ·refine .inr (.inr fun e => h1 ?_)
     cases e2 : H1 b with
     | none => rfl
     | some o => rw [hs b o e2] at e; cases e
   dom := fun b hb => by
    unfold AHeap.over at hb
    cases e : H1' b with
    | some o =>
     rcases hx.dom b (by simp [e]) with h1 | h1
     ·refine .inl fun e3 => h1 ?_
      cases e2 : H1 b with
      | none => rfl
      | some o => rw [hs b o e2] at e3; cases e3
     ·exact .inr h1
    | none =>
     simp only [e] at hb
     cases e2 : H1 b with
     | some o => simp [e2] at hb
     | none => simp only [e2] at hb; exact .inl hb }
 ·have hstill := hx.still (hw.less hs)
  have hkept : ∀ b o, H1 b = none → H b = some o → w'.heap[b]? = w.heap[b]? := fun b o h1 h2 => hx.block b (hw.objs b o h2).lt h1
  refine ⟨hw'.old, fun b o hb => ?_, hw'.lt, fun b o hb => ?_, fun b o hb => ?_⟩
  ·unfold AHeap.over at hb
   cases e : H1' b with
   | some o' => exact hw'.new b o' e
   | none =>
    simp only [e] at hb
    cases e2 : H1 b with
    | some o => simp [e2] at hb
    | none => simp only [e2] at hb; exact hw.new b o hb
  ·unfold AHeap.over at hb
   cases e : H1' b with
   | some o' => exact hw'.apart b o' e
   | none =>
    simp only [e] at hb
    cases e2 : H1 b with
    | some o => simp [e2] at hb
    | none =>
     simp only [e2] at hb
     intro hS
     rcases hx.down b hS with h1 | h1 | h1
     ·exact hw.apart b o hb h1
     ·have := (hw.objs b o hb).lt; omega
     ·exact h1 e2
  ·unfold AHeap.over at hb
   cases e : H1' b with
   | some o' => simp only [e, Option.some.injEq] at hb; subst hb; exact hw'.objs b _ e
   | none =>
    simp only [e] at hb
    cases e2 : H1 b with
    | some o => simp [e2] at hb
    | none =>
     simp only [e2] at hb
     exact (hw.objs b o hb).keep hstill hx.wide (hkept b o e2 hb)
/-- A call that owns nothing. -/
theorem ACalls.pure {P : Program} {W : World} {f : FuncId} {args : List AVal} {H : AHeap} {K : AVal → AHeap → Prop} {R : AVal → Prop} (h : ACalls P W f args AHeap.none fun r _ => R r) (hk : ∀ r, R r → K r H) : ACalls P W f args H K := by
 have h2 : ACalls P W f args AHeap.none fun r H' => R r ∧ H' = AHeap.none := by
  intro S w us hw hv
  refine (h S w us hw hv).mono ?_
  rintro e w' ⟨r, H1', S', v, hk, rfl, hx, hw', hvr⟩
  exact ⟨r, AHeap.none, S', v, ⟨hk, rfl⟩, rfl, hx.less (Sub.none _), hw'.less (Sub.none _), hvr⟩
 refine (ACalls.frame (Sub.none H) h2).mono ?_
 rintro r H' ⟨H1', ⟨h3, rfl⟩, rfl⟩
 have : AHeap.none.over (fun b => match AHeap.none b with | some _ => none | none => H b) = H := by funext b; rfl
 rw [this]
 exact hk r h3
end Go.Proofs.YtfaodacmdlnabaaGreatDoor.M
namespace Go.Proofs.YtfaodacmdlnabaaGreatDoor.M
open Go.RowKit
set_option linter.unusedVariables false
set_option linter.unusedSimpArgs false

structure AState where
 tm : List (Nat × AVal)
 H : AHeap
def tget : List (Nat × AVal) → Nat → AVal
 | [], _ => .any
 | (k, x) :: r, i => if k = i then x else tget r i
def ev (tm : List (Nat × AVal)) : Operand → AVal
 | .tmp t => tget tm t
 | .const v => .v v
 | .global g => .v (.pointer (some ⟨g, 0, none⟩))
 | .func f => .fn f []
def AState.put (s : AState) (d : Option Nat) (x : AVal) : AState := match d with
 | some k => ⟨(k, x) :: s.tm, s.H⟩
 | none => s

structure SR (W : World) (N : Nat) (S : Nat → Prop) (s : AState) (a : Act) (w : World) : Prop where
 defers : a.defers = []
 size : N ≤ a.tmps.size
 tm : ∀ k, VR S w (tget s.tm k) (a.tmps.getD k undef)
 wr : WR W S s.H w
theorem SR.ev {W : World} {N : Nat} {S : Nat → Prop} {s : AState} {a : Act} {w : World} (h : SR W N S s a w) (x : Operand) : VR S w (ev s.tm x) (a.eval x) := by
 cases x with
 | tmp t => exact h.tm t
 | const v => exact .v v
 | global g => exact .v _
 | func f => exact .fn (fun _ => undef) rfl (by simp) (by simp)
def dstOk (N : Nat) (d : Option Nat) : Bool := match d with | some k => decide (k < N) | none => true
theorem getD_set (t : Array Value) (k j : Nat) (x : Value) (hk : k < t.size) : (t.setIfInBounds k x).getD j undef = if k = j then x else t.getD j undef := by
 by_cases h : k = j
 ·subst h; simp [hk]
 ·simp [h, Array.getElem?_setIfInBounds_ne h]
theorem tmps_put {N : Nat} {S : Nat → Prop} {tm : List (Nat × AVal)} {t : Array Value} {w : World} (hs : N ≤ t.size) (h : ∀ k, VR S w (tget tm k) (t.getD k undef)) {k : Nat} (hk : k < N) {x : AVal} {u : Value} (hx : VR S w x u) :
  ∀ j, VR S w (tget ((k, x) :: tm) j) ((t.setIfInBounds k u).getD j undef) := by
 intro j
 rw [getD_set _ _ _ _ (by omega), tget]
 by_cases e : k = j
 ·rw [if_pos e, if_pos e]; exact hx
 ·rw [if_neg e, if_neg e]; exact h j
/-- Behind a step: the state's own part, and a value in its place. -/
theorem SR.next {W : World} {N : Nat} {S S' : Nat → Prop} {s : AState} {a : Act} {w w' : World} {H' : AHeap} (h : SR W N S s a w) (he : Ext S s.H w S' H' w') (hw : WR W S' H' w') {d : Option Nat} (hd : dstOk N d = true) {x : AVal} {u : Value} (hx : VR S' w' x u) :
  SR W N S' ((⟨s.tm, H'⟩ : AState).put d x) (a.put d u) w' := by
 have ht : ∀ k, VR S' w' (tget s.tm k) (a.tmps.getD k undef) := fun k => (h.tm k).ext h.wr he
 cases d with
 | none => exact ⟨h.defers, h.size, ht, hw⟩
 | some k =>
  refine ⟨h.defers, by simpa [Act.put] using h.size, ?_, hw⟩
  exact tmps_put h.size ht (by simpa [dstOk] using hd) hx
theorem SR.put {W : World} {N : Nat} {S : Nat → Prop} {s : AState} {a : Act} {w : World} (h : SR W N S s a w) {d : Option Nat} (hd : dstOk N d = true) {x : AVal} {u : Value} (hx : VR S w x u) : SR W N S (s.put d x) (a.put d u) w := by
 have := h.next (Ext.refl S s.H w) h.wr hd hx
 exact this

/-! ### What the operations are -/
inductive Cls where
 | num | bool | slice | ptr | func | map
 | struct (ks : List Nat)
inductive Cv where
 | int (k : IntKind) | str | same | b2s
inductive AO where
 | mv (x : Operand)
 | pick (c a b : Operand)
 | bin (op : BinOp) (cl : Cls) (x y : Operand)
 | un (op : UnOp) (x : Operand)
 | cv (c : Cv) (x : Operand)
 | fld (ag : Bool) (off n : Nat) (x : Operand)
 | fad (off n : Nat) (x : Operand)
 | ixa (sz : Nat) (x i : Operand)
 | six (x i : Operand)
 | ssl (x : Operand) (lo hi : Option Operand)
 | lsl (sz : Nat) (x : Operand) (lo hi mx : Option Operand)
 | len (str : Bool) (x : Operand)
 | ext (x : Operand) (i : Nat)
 | mm (isMax : Bool) (x y : Operand)
 | bld (zero : List Value) (parts : List (Nat × Nat × Operand))
 | mkf (f : FuncId) (caps : List Operand)
 | mki (t : TypeId) (x : Operand)
 | mkb (f : FuncId) (xs : List Operand)
 | xad (len n : Nat) (x i : Operand)
 | aix (ag : Bool) (len n : Nat) (x i : Operand)
 | tas (t : TypeId) (z : Value) (x : Operand)
 | nck (x : Operand)
 | isn (ne : Bool) (x : Operand)
 | ld (ag : Bool) (n : Nat) (x : Operand)
 | lk (kc : Option IntKind) (ok : Bool) (z : Value) (x i : Operand)
 | mlen (x : Operand)
 | men (x : Operand)

instance : DecidableEq ByteArray := fun a b => if h : a.data.toList = b.data.toList then .isTrue (by cases a; cases b; simp at h; subst h; rfl) else .isFalse (fun e => h (by rw [e]))
theorem str_ext {a b : ByteArray} (h : a.toList = b.toList) : a = b := by
 rw [ByteArray.toList_eq, ByteArray.toList_eq] at h
 cases a; cases b; simp at h; subst h; rfl
theorem str_beq (a b : ByteArray) : (a.toList == b.toList) = decide (a = b) := by
 by_cases h : a = b
 ·subst h; simp
 ·rw [decide_eq_false h]; exact beq_eq_false_iff_ne.2 (fun e => h (str_ext e))
def strLt (a b : ByteArray) : Bool := Op.bytesLess a.toList b.toList

/-- Rows of a slice value, where they are known. -/
def rowsOf (H : AHeap) : AVal → Option (List (List AVal))
 | .sl _ _ rows => some rows
 | .v (.slice none 0 0) => some []
 | .bs g _ n => match H g with
  | some (.buf _ _ rows) => if n ≤ rows.length then some (rows.take n) else none
  | _ => none
 | _ => none

/-! ### Maps -/
def kOk : Option IntKind → Value → Bool
 | some k, .int k' _ => k == k'
 | none, .string _ => true
 | _, _ => false
def kEq : Value → Value → Bool
 | .int _ a, .int _ b => a == b
 | .string a, .string b => decide (a = b)
 | _, _ => false
def mget (k : Value) : List (Value × Nat × AVal) → Option AVal
 | [] => none
 | e :: l => if kEq k e.1 then some e.2.2 else mget k l
def mput (k : Value) (v : AVal) (c : Nat) : List (Value × Nat × AVal) → List (Value × Nat × AVal)
 | [] => [(k, c, v)]
 | e :: l => if kEq k e.1 then (k, e.2.1, v) :: l else e :: mput k v c l
def mclk (k : Value) (c : Nat) (l : List (Value × Nat × AVal)) : Nat := if (mget k l).isSome then c else c + 1
def mdel (k : Value) : List (Value × Nat × AVal) → List (Value × Nat × AVal)
 | [] => []
 | e :: l => if kEq k e.1 then l else e :: mdel k l
def mborn (k : Value) (c : Nat) : List (Value × Nat × AVal) → Nat
 | [] => c
 | e :: l => if kEq k e.1 then e.2.1 else mborn k c l
def mset (n : Nat) (v : AVal) : List (Value × Nat × AVal) → List (Value × Nat × AVal)
 | [] => []
 | e :: l => if e.2.1 = n then (e.1, n, v) :: l else e :: mset n v l
def zeroA : Value → AVal
 | .agg cs => .agg (cs.toList.map .v)
 | z => .v z
def mapA (H : AHeap) : AVal → List (Value × Nat × AVal)
 | .v (.map (some b)) => match H b with
  | some (.mp l _) => l
  | _ => []
 | _ => []
def isMapA (H : AHeap) : AVal → Bool
 | .v (.map none) => true
 | .v (.map (some b)) => match H b with
  | some (.mp _ _) => true
  | _ => false
 | _ => false
def keyA : AVal → Value
 | .v k => k
 | _ => undef
def lkside (H : AHeap) (kc : Option IntKind) (x i : AVal) : Prop := isMapA H x = true ∧ (mapA H x).all (fun e => kOk kc e.1) = true ∧ kOk kc (keyA i) = true
def lkval (H : AHeap) (ok : Bool) (z : Value) (x i : AVal) : AVal := match ok with
 | true => .tup [(mget (keyA i) (mapA H x)).getD (zeroA z), .v (.bool (mget (keyA i) (mapA H x)).isSome)]
 | false => (mget (keyA i) (mapA H x)).getD (zeroA z)
/-- The entry that a step has handed out. -/
def mentA (H : AHeap) : AVal → Option (Value × AVal)
 | .v (.pointer (some ⟨r, 0, none⟩)) => match H r with
  | some (.it m _ seen c0) => match H m with
   | some (.mp l c) => if c = c0 then match seen.getLast? with
    | some b => (l.find? (fun e => e.2.1 == b)).map (fun e => (e.1, e.2.2))
    | none => none
    else none
   | _ => none
  | _ => none
 | _ => none
def menval (H : AHeap) (x : AVal) : AVal := match mentA H x with
 | some (k, v) => .tup [.v k, v]
 | none => .any
/-! ### Structs of plain fields -/
def flat1 : Nat → AVal → AVal → Option Bool
 | 0, .v (.int k a), .v (.int k' b) => if k = k' then some (decide (a = b)) else none
 | 1, .v (.string a), .v (.string b) => some (decide (a = b))
 | 2, .v (.bool a), .v (.bool b) => some (a == b)
 | _, _, _ => none
def flatEq : List Nat → List AVal → List AVal → Option Bool
 | [], [], [] => some true
 | k :: ks, x :: xs, y :: ys => match flat1 k x y, flatEq ks xs ys with
  | some a, some b => some (a && b)
  | _, _ => none
 | _, _, _ => none
def aggA : AVal → List AVal
 | .agg cs => cs
 | _ => []
def isAggA : AVal → Bool
 | .agg _ => true
 | _ => false
def steq (ks : List Nat) (x y : AVal) : Option Bool := if isAggA x = true ∧ isAggA y = true then flatEq ks (aggA x) (aggA y) else none

def abin (op : BinOp) (cl : Cls) (x y : AVal) (K : AVal → Prop) : Prop :=
 match cl with
 | .num =>
  match x, y with
  | .v (.int k a), .v (.int k' b) =>
   match op with
   | .add => k = k' ∧ K (.v (.int k (k.wrap (a + b))))
   | .sub => k = k' ∧ K (.v (.int k (k.wrap (a - b))))
   | .mul => k = k' ∧ K (.v (.int k (k.wrap (a * b))))
   | .quo => k = k' ∧ b ≠ 0 ∧ K (.v (.int k (k.wrap (a.tdiv b))))
   | .rem => k = k' ∧ b ≠ 0 ∧ K (.v (.int k (a.tmod b)))
   | .shl => 0 ≤ b ∧ K (.v (.int k (k.wrap (a * 2 ^ (min b.toNat k.bits)))))
   | .shr => 0 ≤ b ∧ K (.v (.int k (a.fdiv (2 ^ (min b.toNat k.bits)))))
   | .eql => k = k' ∧ K (.v (.bool (decide (a = b))))
   | .neq => k = k' ∧ K (.v (.bool (decide (a ≠ b))))
   | .lss => k = k' ∧ K (.v (.bool (decide (a < b))))
   | .leq => k = k' ∧ K (.v (.bool (decide (a ≤ b))))
   | .gtr => k = k' ∧ K (.v (.bool (decide (b < a))))
   | .geq => k = k' ∧ K (.v (.bool (decide (b ≤ a))))
   | .or => k = k' ∧ K (.v (.int k (k.wrap ((BitVec.ofInt k.bits a ||| BitVec.ofInt k.bits b).toNat : Int))))
   | .and => k = k' ∧ K (.v (.int k (k.wrap ((BitVec.ofInt k.bits a &&& BitVec.ofInt k.bits b).toNat : Int))))
   | _ => False
  | .v (.string a), .v (.string b) =>
   match op with
   | .add => a.size + b.size ≤ 9223372036854775807 ∧ K (.v (.string (a ++ b)))
   | .eql => K (.v (.bool (decide (a = b))))
   | .neq => K (.v (.bool (decide (a ≠ b))))
   | .lss => K (.v (.bool (strLt a b)))
   | .leq => K (.v (.bool (strLt a b || decide (a = b))))
   | .gtr => K (.v (.bool (!(strLt a b || decide (a = b)))))
   | .geq => K (.v (.bool (!strLt a b)))
   | _ => False
  | _, _ => False
 | .bool =>
  match op, x, y with
  | .eql, .v (.bool a), .v (.bool b) => K (.v (.bool (a == b)))
  | .neq, .v (.bool a), .v (.bool b) => K (.v (.bool (a != b)))
  | _, _, _ => False
 | .slice =>
  match op, x, y with
  | .eql, .bs _ _ _, .v (.slice none _ _) => K (.v (.bool false))
  | .eql, .bv _ _ _ _ _, .v (.slice none _ _) => K (.v (.bool false))
  | .neq, .bv _ _ _ _ _, .v (.slice none _ _) => K (.v (.bool true))
  | .neq, .bs _ _ _, .v (.slice none _ _) => K (.v (.bool true))
  | .eql, .v (.slice none _ _), .v (.slice none _ _) => K (.v (.bool true))
  | .neq, .v (.slice none _ _), .v (.slice none _ _) => K (.v (.bool false))
  | .eql, .sl _ _ rows, .v (.slice none _ _) => ∀ t : Bool, (t = true → rows = []) → K (.v (.bool t))
  | .neq, .sl _ _ rows, .v (.slice none _ _) => ∀ t : Bool, (t = false → rows = []) → K (.v (.bool t))
  | _, _, _ => False
 | .ptr =>
  match op, x, y with
  | .eql, .v (.pointer a), .v (.pointer none) => K (.v (.bool a.isNone))
  | .neq, .v (.pointer a), .v (.pointer none) => K (.v (.bool a.isSome))
  | _, _, _ => False
 | .struct ks =>
  match op with
  | .eql => ∃ b, steq ks x y = some b ∧ K (.v (.bool b))
  | .neq => ∃ b, steq ks x y = some b ∧ K (.v (.bool (!b)))
  | _ => False
 | _ => False
def aun (op : UnOp) (x : AVal) (K : AVal → Prop) : Prop :=
 match op, x with
 | .not, .v (.bool b) => K (.v (.bool !b))
 | .neg, .v (.int k n) => K (.v (.int k (k.wrap (0 - n))))
 | _, _ => False
/-- A slice's bytes. -/
def byteOf : List AVal → Option UInt8
 | [.v (.int .u8 n)] => some (UInt8.ofNat n.toNat)
 | _ => none
def acv (H : AHeap) (c : Cv) (x : AVal) (K : AVal → Prop) : Prop :=
 match c, x with
 | .int k, .v (.int _ n) => K (.v (.int k (k.wrap n)))
 | .str, .v (.int _ n) => K (.v (.string (Utf8.encode n)))
 | .same, .v (.string s) => K (.v (.string s))
 | _, _ => False
/-- A bound of a slice expression. -/
def bnd (tm : List (Nat × AVal)) (o : Option Operand) (dflt : Int) (K : Int → Prop) : Prop :=
 match o with
 | none => K dflt
 | some x => match ev tm x with | .v (.int _ n) => K n | _ => False
def lenA : AVal → Int
 | .v (.slice _ n _) => n
 | .sl _ _ rows => rows.length
 | .bs _ _ n => n
 | .bv _ _ _ _ n => n
 | _ => 0
def asl (H : AHeap) (sz : Nat) (x : AVal) (lo hi : Int) (mx : Option Int) (K : AVal → Prop) : Prop :=
 match x with
 | .sl full sz' rows => (sz = sz' ∧ 0 ≤ lo ∧ lo ≤ hi ∧ hi ≤ rows.length ∧ (∀ m, mx = some m → hi ≤ m ∧ m ≤ rows.length)) ∧ K (.sl (mx.elim (full && decide (hi = rows.length)) (fun m => decide (m = hi))) sz ((rows.take hi.toNat).drop lo.toNat))
 | .v (.slice none 0 0) => (lo = 0 ∧ hi = 0 ∧ (∀ m, mx = some m → m = 0)) ∧ K (.v (.slice none 0 0))
 | .bs g sz' n => (sz = sz' ∧ 0 ≤ lo ∧ lo ≤ hi ∧ hi ≤ n ∧ (∀ m, mx = some m → hi ≤ m ∧ m ≤ n)) ∧ (lo = 0 ∧ mx = none → K (.bs g sz hi.toNat)) ∧ (¬ (lo = 0 ∧ mx = none) → K (.bv (mx.elim false (fun m => decide (m = hi))) g sz lo.toNat (hi - lo).toNat))
 | .bv full g sz' o n => (sz = sz' ∧ 0 ≤ lo ∧ lo ≤ hi ∧ hi ≤ n ∧ (∀ m, mx = some m → hi ≤ m ∧ m ≤ n)) ∧ K (.bv (mx.elim (full && decide (hi = n)) (fun m => decide (m = hi))) g sz (o + lo.toNat) (hi - lo).toNat)
 | _ => False
def minmax (isMax : Bool) (x y : AVal) (K : AVal → Prop) : Prop :=
 match x, y with
 | .v (.int k a), .v (.int k' b) => k = k' ∧ K (.v (.int k (if isMax then max a b else min a b)))
 | _, _ => False
def oneOr (x : AVal) : List AVal := match x with | .agg cs => cs | y => [y]
/-- Parts laid into cells. -/
def lay (tm : List (Nat × AVal)) : List AVal → List (Nat × Nat × Operand) → Option (List AVal)
 | cs, [] => some cs
 | cs, (off, n, x) :: r => let p := oneOr (ev tm x); if p.length = n ∧ off + n ≤ cs.length ∧ p.all (·.one) = true then lay tm (cs.take off ++ p ++ cs.drop (off + n)) r else none
def ald (H : AHeap) (ag : Bool) (n : Nat) (x : AVal) (K : AVal → Prop) : Prop :=
 match x with
 | .pl cells => if ag then (n ≤ cells.length ∧ (∀ c ∈ cells.take n, c.one = true)) ∧ K (.agg (cells.take n)) else ∃ c, cells[0]? = some c ∧ K c
 | .v (.pointer (some ⟨b, o, none⟩)) =>
  match H b with
  | some (.cells _ cs) => if ag then o + n ≤ cs.length ∧ K (.agg ((cs.drop o).take n)) else ∃ c, cs[o]? = some c ∧ K c
  | _ => False
 | .bp g sz i k =>
  match H g with
  | some (.buf _ sz' rows) => sz = sz' ∧ ∃ r, rows[i]? = some r ∧ if ag then k + n ≤ r.length ∧ K (.agg ((r.drop k).take n)) else ∃ c, r[k]? = some c ∧ K c
  | _ => False
 | _ => False
def aval (m : AO) (s : AState) (K : AVal → Prop) : Prop :=
 match m with
 | .mv x => K (ev s.tm x)
 | .pick c a b => match ev s.tm c with | .v (.bool t) => (t = true → K (ev s.tm a)) ∧ (t = false → K (ev s.tm b)) | _ => False
 | .bin op cl x y => abin op cl (ev s.tm x) (ev s.tm y) K
 | .un op x => aun op (ev s.tm x) K
 | .cv c x => acv s.H c (ev s.tm x) K
 | .fld ag off n x => match ev s.tm x with | .agg cs => if ag then off + n ≤ cs.length ∧ K (.agg ((cs.drop off).take n)) else ∃ c, cs[off]? = some c ∧ K c | _ => False
 | .fad off n x => match ev s.tm x with
  | .pl cells => off ≤ cells.length ∧ K (.pl (cells.drop off))
  | .v (.pointer (some ⟨b, o, none⟩)) => K (.v (.pointer (some ⟨b, o + off, none⟩)))
  | .bp g sz i k => K (.bp g sz i (k + off))
  | _ => False
 | .ixa sz x i => match ev s.tm x, ev s.tm i with
  | .sl _ sz' rows, .v (.int _ n) => (sz = sz' ∧ 0 ≤ n ∧ n < rows.length) ∧ K (.pl (rows.getD n.toNat []))
  | .bs g sz' len, .v (.int _ n) => (sz = sz' ∧ 0 ≤ n ∧ n < len) ∧ K (.bp g sz n.toNat 0)
  | .bv _ g sz' o len, .v (.int _ n) => (sz = sz' ∧ 0 ≤ n ∧ n < len) ∧ K (.bp g sz (o + n.toNat) 0)
  | _, _ => False
 | .six x i => match ev s.tm x, ev s.tm i with
  | .v (.string t), .v (.int _ n) => (0 ≤ n ∧ n < t.size) ∧ K (.v (.int .u8 ((t.data.toList.getD n.toNat 0).toNat : Int)))
  | _, _ => False
 | .ssl x lo hi => match ev s.tm x with
  | .v (.string t) => bnd s.tm lo 0 fun l => bnd s.tm hi t.size fun h => (0 ≤ l ∧ l ≤ h ∧ h ≤ t.size) ∧ K (.v (.string (t.extract l.toNat h.toNat)))
  | _ => False
 | .lsl sz x lo hi mx => bnd s.tm lo 0 fun l => bnd s.tm hi (lenA (ev s.tm x)) fun h => match mx with
  | none => asl s.H sz (ev s.tm x) l h none K
  | some m => bnd s.tm (some m) 0 fun m => asl s.H sz (ev s.tm x) l h (some m) K
 | .len str x => match str, ev s.tm x with
  | true, .v (.string t) => K (.v (.int .i64 t.size))
  | false, .v (.slice _ n _) => K (.v (.int .i64 n))
  | false, .sl _ _ rows => K (.v (.int .i64 rows.length))
  | false, .bs _ _ n => K (.v (.int .i64 n))
  | false, .bv _ _ _ _ n => K (.v (.int .i64 n))
  | _, _ => False
 | .ext x i => match ev s.tm x with | .tup vs => ∃ c, vs[i]? = some c ∧ K c | _ => False
 | .mm isMax x y => minmax isMax (ev s.tm x) (ev s.tm y) K
 | .bld zero parts => ∃ cs, lay s.tm (zero.map .v) parts = some cs ∧ K (.agg cs)
 | .mkf f caps => K (.fn f (caps.map (ev s.tm)))
 | .mki t x => K (.ifc t (ev s.tm x))
 | .mkb f xs => K (.bm f (xs.map (ev s.tm)))
 | .xad len n x i => match ev s.tm i with
  | .v (.int _ j) => (0 ≤ j ∧ j < (len : Int)) ∧ match ev s.tm x with
   | .pl cells => j.toNat * n ≤ cells.length ∧ K (.pl (cells.drop (j.toNat * n)))
   | .v (.pointer (some ⟨b, o, none⟩)) => K (.v (.pointer (some ⟨b, o + j.toNat * n, none⟩)))
   | .bp g sz i k => K (.bp g sz i (k + j.toNat * n))
   | _ => False
  | _ => False
 | .aix ag len n x i => match ev s.tm i with
  | .v (.int _ j) => (0 ≤ j ∧ j < (len : Int)) ∧ match ev s.tm x with
   | .agg cs => if ag then j.toNat * n + n ≤ cs.length ∧ K (.agg ((cs.drop (j.toNat * n)).take n)) else ∃ c, cs[j.toNat * n]? = some c ∧ K c
   | _ => False
  | _ => False
 | .tas t z x => match ev s.tm x with
  | .ifc t' y => (t' = t → K (.tup [y, .v (.bool true)])) ∧ (t' ≠ t → K (.tup [zeroA z, .v (.bool false)]))
  | .v .nilIface => K (.tup [zeroA z, .v (.bool false)])
  | _ => False
 | .isn ne x => match ev s.tm x with
  | .v .nilIface => K (.v (.bool (!ne)))
  | .ifc _ _ => K (.v (.bool ne))
  | _ => False
 | .nck x => match ev s.tm x with
  | .v (.pointer (some a)) => K (.v (.pointer (some a)))
  | .pl cells => K (.pl cells)
  | .bp g sz i k => K (.bp g sz i k)
  | .fn f caps => K (.fn f caps)
  | .bm f xs => K (.bm f xs)
  | .ifc t y => K (.ifc t y)
  | _ => False
 | .ld ag n x => ald s.H ag n (ev s.tm x) K
 | .lk kc ok z x i => lkside s.H kc (ev s.tm x) (ev s.tm i) ∧ K (lkval s.H ok z (ev s.tm x) (ev s.tm i))
 | .mlen x => isMapA s.H (ev s.tm x) = true ∧ K (.v (.int .i64 (mapA s.H (ev s.tm x)).length))
 | .men x => (mentA s.H (ev s.tm x)).isSome = true ∧ K (menval s.H (ev s.tm x))

/-! ### Out of the program's operations -/
def szOf (P : Program) (t : TypeId) : Option Nat := (P.info? t).map (·.size)
def aggOf (P : Program) (t : TypeId) : Option Bool := (P.underlying t).map (fun d => d.isRow)
def flatKind (P : Program) (t : TypeId) : Option Nat := match P.underlying t with
 | some (.int _) => some 0
 | some .string => some 1
 | some .bool => some 2
 | _ => none
def flatFields (P : Program) : List Field → Nat → Option (List Nat)
 | [], _ => some []
 | f :: r, i => if (f.name == "_") = false ∧ f.offset = i then match flatKind P f.type, flatFields P r (i + 1) with
  | some k, some ks => some (k :: ks)
  | _, _ => none
  else none
def kcOf (P : Program) (t : TypeId) : Option (Option IntKind) := match P.underlying t with
 | some (.int k) => some (some k)
 | some .string => some none
 | _ => none
def clsOf (P : Program) (t : TypeId) : Option Cls :=
 match P.underlying t with
 | some (.int _) | some .string => some .num
 | some .bool => some .bool
 | some (.slice _) => some .slice
 | some (.pointer _) => some .ptr
 | some (.struct fs) => if P.stoodInHeld t = false ∧ P.eqGuardType P.depth t = false then (flatFields P fs.toList 0).map .struct else none
 | _ => none
def cvOf (P : Program) (src dst : TypeId) : Option Cv :=
 match P.underlying src, P.underlying dst with
 | some (.int _), some (.int k) => some (.int k)
 | some (.int _), some .string => some .str
 | some .string, some .string => some .same
 | _, _ => none
/-- A test of an interface against nil. -/
def isnOf (P : Program) (op : BinOp) (t : TypeId) (y : Operand) : Option Bool := match y with
 | .const .nilIface => match P.underlying t with
  | some (.interface _) => match op with
   | .eql => some false
   | .neq => some true
   | _ => none
  | _ => none
 | _ => none
theorem isnOf_some {P : Program} {op : BinOp} {t : TypeId} {y : Operand} {ne : Bool} (h : isnOf P op t y = some ne) : y = .const .nilIface ∧ (∃ ms, P.underlying t = some (.interface ms)) ∧ ((op = .eql ∧ ne = false) ∨ (op = .neq ∧ ne = true)) := by
 unfold isnOf at h
 split at h
 ·split at h
  ·rename_i ms hms
   split at h
   ·cases h; exact ⟨rfl, ⟨ms, hms⟩, .inl ⟨rfl, rfl⟩⟩
   ·cases h; exact ⟨rfl, ⟨ms, hms⟩, .inr ⟨rfl, rfl⟩⟩
   ·cases h
  ·cases h
 ·cases h
def compM (P : Program) : Op → Option AO
 | .move x | .assign x => some (.mv x)
 | .pick c a b => some (.pick c a b)
 | .binOp op t x y _ => match isnOf P op t y with
  | some ne => some (.isn ne x)
  | none => match clsOf P t with
   | some .slice | none => none
   | some c => some (.bin op c x y)
 | .unOp op _ x => some (.un op x)
 | .convert s d x => (cvOf P s d).map fun c => .cv c x
 | .field t x i => match P.underlying t with
  | some (.struct fs) => match fs[i]? with
   | some f => match aggOf P f.type, szOf P f.type with
    | some ag, some n => some (.fld ag f.offset n x)
    | _, _ => none
   | none => none
  | _ => none
 | .fieldAddr t x i => match P.underlying t with
  | some (.struct fs) => match fs[i]? with
   | some f => match szOf P f.type with
    | some (n + 1) => some (.fad f.offset (n + 1) x)
    | _ => none
   | none => none
  | _ => none
 | .indexAddr t x i => match P.underlying t with
  | some (.slice e) => (szOf P e).map fun sz => .ixa sz x i
  | some (.array len e) => match i, szOf P e with
   | .const (.int _ j), some (n + 1) => if 0 ≤ j ∧ j < (len : Int) then some (.fad (j.toNat * (n + 1)) (n + 1) x) else none
   | _, some (n + 1) => some (.xad len (n + 1) x i)
   | _, _ => none
  | _ => none
 | .index t x i => match P.underlying t with
  | some .string => some (.six x i)
  | some (.array len e) => match aggOf P e, szOf P e with
   | some ag, some n => some (.aix ag len n x i)
   | _, _ => none
  | _ => none
 | .slice t x lo hi mx => match P.underlying t with
  | some .string => if mx.isNone then some (.ssl x lo hi) else none
  | some (.slice e) => if mx.isNone || hi.isSome then (szOf P e).map fun sz => .lsl sz x lo hi mx else none
  | _ => none
 | .call ⟨.builtin .len, args, ts⟩ => match args.toList, ts.toList with
  | [x], [t] => match P.underlying t with
   | some .string => some (.len true x)
   | some (.slice _) => some (.len false x)
   | some (.map _ _) => some (.mlen x)
   | _ => none
  | _, _ => none
 | .lookup t x i ok => match P.underlying t with
  | some (.map k e) => match kcOf P k, (P.info? e).bind (·.zero) with
   | some kc, some z => if z.cells.all (·.oneCell') then some (.lk kc ok z x i) else none
   | _, _ => none
  | _ => none
 | .entry x => some (.men x)
 | .call ⟨.builtin .max, args, _⟩ => match args.toList with
  | [x, y] => some (.mm true x y)
  | _ => none
 | .call ⟨.builtin .min, args, _⟩ => match args.toList with
  | [x, y] => some (.mm false x y)
  | _ => none
 | .extract x i => some (.ext x i)
 | .makeFunc (.func f) first caps => if first.isEmpty then some (.mkf f caps.toList) else if caps.isEmpty then some (.mkb f first.toList) else none
 | .makeInterface t x => match P.underlying t with
  | some (.interface _) | none => none
  | some _ => some (.mki t x)
 | .nilCheck x => some (.nck x)
 | .typeAssert x _ t ok => if ok then match P.underlying t, (P.info? t).bind (·.zero) with
  | some (.interface _), _ | none, _ => none
  | some _, some z => if z.cells.all (·.oneCell') then some (.tas t z x) else none
  | _, _ => none
  else none
 | .load t x => match aggOf P t, szOf P t with
  | some ag, some n => some (.ld ag n x)
  | _, _ => none
 | .build t parts => match P.underlying t, (P.info? t).bind (·.zero) with
  | some (.struct fs), some (.agg zero) => match parts.toList.mapM (fun p => (fs[p.1]?).bind fun f => (szOf P f.type).map fun n => (f.offset, n, p.2)) with
   | some ps => if fs.all (fun f => (szOf P f.type).isSome) && zero.all (·.oneCell') then some (.bld zero.toList ps) else none
   | none => none
  | some (.array _ e), some (.agg zero) => match szOf P e with
   | some n => if zero.all (·.oneCell') then some (.bld zero.toList (parts.toList.map fun p => (p.1 * n, n, p.2))) else none
   | none => none
  | _, _ => none
 | _ => none
def Quiet (w w' : World) : Prop := w.heap.size ≤ w'.heap.size ∧ ∀ b, b < w.heap.size → w'.heap[b]? = w.heap[b]?
theorem Quiet.refl (w : World) : Quiet w w := ⟨Nat.le_refl _, fun _ _ => rfl⟩
theorem Quiet.trans {a b c : World} (h : Quiet a b) (k : Quiet b c) : Quiet a c := ⟨Nat.le_trans h.1 k.1, fun x hx => (k.2 x (Nat.lt_of_lt_of_le hx h.1)).trans (h.2 x hx)⟩
theorem Quiet.cell {w w' : World} (h : Quiet w w') {b o : Nat} {u : Value} (hc : w.cell? ⟨b, o, none⟩ = some u) : w'.cell? ⟨b, o, none⟩ = some u := by
 have hlt : b < w.heap.size := by
  rcases Nat.lt_or_ge b w.heap.size with hlt | hge
  ·exact hlt
  ·simp [World.cell?, Array.getElem?_eq_none hge] at hc
 rw [World.cell?_of_block (h.2 b hlt)]; exact hc
/-- An operation's value: in every world in which what stood stands. -/
def Gives (P : Program) (G : World → Prop) (m : Sem Value) (u : Value) : Prop := ∀ w', G w' → m.run P w' = .ok u w'
end Go.Proofs.YtfaodacmdlnabaaGreatDoor.M
namespace Go.Proofs.YtfaodacmdlnabaaGreatDoor.M
open Go.RowKit
set_option linter.unusedVariables false
set_option linter.unusedSimpArgs false
variable {P : Program} {W : World} {S : Nat → Prop} {w : World} {G : World → Prop}

def Val (P : Program) (S : Nat → Prop) (w : World) (G : World → Prop) (m : Sem Value) (K : AVal → Prop) : Prop := ∃ x u, K x ∧ VR S w x u ∧ Gives P G m u
theorem Val.mk {m : Sem Value} {K : AVal → Prop} {x : AVal} {u : Value} (hk : K x) (hv : VR S w x u) (hg : ∀ w', m.run P w' = .ok u w') : Val P S w G m K := ⟨x, u, hk, hv, fun w' _ => hg w'⟩
theorem Val.base {m : Sem Value} {K : AVal → Prop} {u : Value} (hk : K (.v u)) (hg : ∀ w', m.run P w' = .ok u w') : Val P S w G m K := .mk hk (.v u) hg

theorem bin_run (P : Program) (op : BinOp) (t : TypeId) (x y : Operand) (a b u : Value) (w : World) (h1 : a ≠ .nilIface) (h2 : ∀ cs, a ≠ .agg cs) (h : (binOp op t a b).run P w = .ok u w) : (do eqGuard op t x y a b; binOp op t a b : Sem Value).run P w = .ok u w := by
 have he : (eqGuard op t x y a b).run P w = .ok () w := by
  unfold eqGuard
  cases a <;> simp_all <;> cases op <;> simp
 rw [Sem.run_bind, he]
 exact h
theorem eq_bool {t : TypeId} (ht : P.underlying t = some .bool) (a b : Bool) (w : World) : (Op.equal t (.bool a) (.bool b)).run P w = .ok (a == b) w := by
 unfold Op.equal Op.maxDepth Op.equalIn
 simp [Sem.run_bind, run_underlying ht]
theorem eq_slice {t e : TypeId} (ht : P.underlying t = some (.slice e)) (A : Option Addr) (n c n' c' : Nat) (w : World) : (Op.equal t (.slice A n c) (.slice none n' c')).run P w = .ok A.isNone w := by
 unfold Op.equal Op.maxDepth Op.equalIn
 cases A <;> simp [Sem.run_bind, run_underlying ht]
theorem eq_ptr {t e : TypeId} (ht : P.underlying t = some (.pointer e)) (A : Option Addr) (w : World) : (Op.equal t (.pointer A) (.pointer none)).run P w = .ok A.isNone w := by
 unfold Op.equal Op.maxDepth Op.equalIn
 cases A <;> simp [Sem.run_bind, run_underlying ht]
theorem part_flat {t : TypeId} {k : Nat} (hk : flatKind P t = some k) {vs : Array Value} {i : Nat} {u : Value} (hu : vs[i]? = some u) (w' : World) : (part t vs i).run P w' = .ok u w' := by
 obtain ⟨d, hd, hr⟩ : ∃ d, P.underlying t = some d ∧ d.isRow = false := by
  unfold flatKind at hk; split at hk <;> simp_all [TypeDesc.isRow]
 have hagg : (isAgg t).run P w' = .ok false w' := by
  unfold isAgg
  rw [Sem.run_bind, run_underlying hd w']
  cases d <;> simp_all [TypeDesc.isRow]
 simp [part, Sem.run_bind, hagg, hu]
theorem flat1_run {t : TypeId} {k : Nat} (hk : flatKind P t = some k) {x y : AVal} {a b : Value} {r : Bool} (h : flat1 k x y = some r) (hx : VR S w x a) (hy : VR S w y b) (d : Nat) (w' : World) : (Op.equalIn (d + 1) t a b).run P w' = .ok r w' := by
 unfold flat1 at h
 split at h
 ·cases hx; cases hy
  unfold flatKind at hk
  split at hk <;> simp at hk
  rename_i ht
  split at h <;> simp at h
  rename_i e
  subst e; subst h
  simp [Op.equalIn, run_underlying ht, BEq.beq]
 ·cases hx; cases hy
  unfold flatKind at hk
  split at hk <;> simp at hk
  rename_i ht
  simp at h
  subst h
  rw [run_equalIn_string w' d t _ _ ht, str_beq]
 ·cases hx; cases hy
  unfold flatKind at hk
  split at hk <;> simp at hk
  rename_i ht
  simp at h
  subst h
  rw [run_equalIn_bool' w' d t _ _ ht]
 ·cases h
theorem flat_run {cs ds : List AVal} {vs us : Array Value} (hx : VR S w (.agg cs) (.agg vs)) (hy : VR S w (.agg ds) (.agg us)) (d : Nat) (w' : World) : ∀ (fs : List Field) (i : Nat) (ks : List Nat) (b : Bool), flatFields P fs i = some ks → flatEq ks (cs.drop i) (ds.drop i) = some b → (Op.eqFields (d + 1) vs us fs).run P w' = .ok b w'
 | [], i, ks, b, h, he => by
  simp only [flatFields, Option.some.injEq] at h
  subst h
  unfold flatEq at he
  split at he <;> simp_all [Op.eqFields]
 | f :: r, i, ks, b, h, he => by
  simp only [flatFields] at h
  split at h
  ·rename_i hf
   split at h
   ·rename_i k ks' hk hks
    cases h
    cases hcs : cs.drop i with
    | nil => rw [hcs] at he; simp [flatEq] at he
    | cons x xs =>
     cases hds : ds.drop i with
     | nil => rw [hcs, hds] at he; simp [flatEq] at he
     | cons y ys =>
      rw [hcs, hds] at he
      simp only [flatEq] at he
      split at he
      ·rename_i a b' ha hb
       cases he
       have hxs : cs.drop (i + 1) = xs := by rw [← List.tail_drop, hcs]; rfl
       have hys : ds.drop (i + 1) = ys := by rw [← List.tail_drop, hds]; rfl
       have hilc : i < cs.length := by
        rcases Nat.lt_or_ge i cs.length with h | h
        ·exact h
        ·rw [List.drop_eq_nil_of_le h] at hcs; cases hcs
       have hild : i < ds.length := by
        rcases Nat.lt_or_ge i ds.length with h | h
        ·exact h
        ·rw [List.drop_eq_nil_of_le h] at hds; cases hds
       have ex : x = cs[i] := by rw [List.drop_eq_getElem_cons hilc] at hcs; cases hcs; rfl
       have ey : y = ds[i] := by rw [List.drop_eq_getElem_cons hild] at hds; cases hds; rfl
       have ih := flat_run hx hy d w' r (i + 1) ks' b' hks (by rw [hxs, hys]; exact hb)
       cases hx with
       | agg u1 hl1 hv1 ho1 hh1 =>
       cases hy with
       | agg u2 hl2 hv2 ho2 hh2 =>
       have h1 : vs[i]? = some (u1 i) := by rw [Array.getElem?_eq_getElem (by omega), hv1]
       have h2 : us[i]? = some (u2 i) := by rw [Array.getElem?_eq_getElem (by omega), hv2]
       have e3 := flat1_run hk ha (by rw [ex]; exact hh1 i hilc) (by rw [ey]; exact hh2 i hild) d w'
       have hn : f.name ≠ "_" := by simpa using hf.1
       simp only [Op.eqFields, if_pos hn, Sem.run_bind, hf.2, part_flat hk h1 w', part_flat hk h2 w', e3, Result.andThen_ok]
       cases a
       ·simp
       ·simpa using ih
      ·cases he
   ·cases h
  ·cases h
theorem steq_run {t : TypeId} {ks : List Nat} (hc : clsOf P t = some (.struct ks)) {x y : AVal} {a b : Value} {r : Bool} (h : steq ks x y = some r) (hx : VR S w x a) (hy : VR S w y b) (w' : World) : (∃ us vs, a = .agg us ∧ b = .agg vs) ∧ P.eqGuardType P.depth t = false ∧ (Op.equal t a b).run P w' = .ok r w' := by
 unfold steq at h
 split at h
 ·rename_i hag
  unfold clsOf at hc
  split at hc <;> simp at hc
  rename_i fs ht
  cases x <;> simp [isAggA] at hag
  cases y <;> simp at hag
  cases hx with
  | @agg cs vs u1 hl1 hv1 ho1 hh1 =>
  cases hy with
  | @agg ds us u2 hl2 hv2 ho2 hh2 =>
  refine ⟨⟨_, _, rfl, rfl⟩, hc.1.2, ?_⟩
  have hf : P.fieldsOf t = fs := by simp [Program.fieldsOf, ht]
  unfold Op.equal Op.maxDepth
  rw [run_equalIn_struct w' 9999 t vs us (by rw [hf]; exact ht) hc.1.1, hf]
  exact flat_run (.agg u1 hl1 hv1 ho1 hh1) (.agg u2 hl2 hv2 ho2 hh2) 9998 w' fs.toList 0 ks r hc.2 (by simpa [aggA] using h)
 ·cases h
theorem eq_nil {t : TypeId} {ms : Array (String × TypeId)} (ht : P.underlying t = some (.interface ms)) (w : World) : (Op.equal t .nilIface .nilIface).run P w = .ok true w := by
 unfold Op.equal Op.maxDepth Op.equalIn
 simp [Sem.run_bind, run_underlying ht]
theorem eq_ifc {t : TypeId} {ms : Array (String × TypeId)} (ht : P.underlying t = some (.interface ms)) (u : TypeId) (v : Value) (w : World) : (Op.equal t (.iface u v) .nilIface).run P w = .ok false w := by
 unfold Op.equal Op.maxDepth Op.equalIn
 simp [Sem.run_bind, run_underlying ht]
theorem isn_sound {op : BinOp} {t : TypeId} {x y : Operand} {ax : AVal} {a : Value} {ne : Bool} {K : AVal → Prop} (hi : isnOf P op t y = some ne) (h : match ax with
  | .v .nilIface => K (.v (.bool (!ne)))
  | .ifc _ _ => K (.v (.bool ne))
  | _ => False) (hx : VR S w ax a) : Val P S w G (do eqGuard op t x y a .nilIface; binOp op t a .nilIface) K := by
 obtain ⟨rfl, ⟨ms, ht⟩, hop⟩ := isnOf_some hi
 have g0 : ∀ w', (eqGuard op t x (.const .nilIface) .nilIface .nilIface).run P w' = .ok () w' := fun w' => by
  rcases hop with ⟨rfl, rfl⟩ | ⟨rfl, rfl⟩ <;> simp [eqGuard]
 have g1 : ∀ u v w', (eqGuard op t x (.const .nilIface) (.iface u v) .nilIface).run P w' = .ok () w' := fun u v w' => by
  rcases hop with ⟨rfl, rfl⟩ | ⟨rfl, rfl⟩ <;> simp [eqGuard]
 split at h
 ·cases hx
  refine .base h fun w' => ?_
  rw [Sem.run_bind, g0]
  rcases hop with ⟨rfl, rfl⟩ | ⟨rfl, rfl⟩ <;> simp [binOp, Sem.run_bind, eq_nil ht]
 ·cases hx
  refine .base h fun w' => ?_
  rw [Sem.run_bind, g1]
  rcases hop with ⟨rfl, rfl⟩ | ⟨rfl, rfl⟩ <;> simp [binOp, Sem.run_bind, eq_ifc ht]
 ·exact h.elim
theorem abin_sound {op : BinOp} {t : TypeId} {cl : Cls} {x y : Operand} {ax ay : AVal} {a b : Value} {K : AVal → Prop} (hc : clsOf P t = some cl) (h : abin op cl ax ay K) (hx : VR S w ax a) (hy : VR S w ay b) :
  Val P S w G (do eqGuard op t x y a b; binOp op t a b) K := by
 cases cl with
 | num =>
  simp only [abin] at h
  split at h
  ·cases hx; cases hy
   rename_i k i k' j
   cases op <;> simp only [] at h
   all_goals first
    | exact h.elim
    | (obtain ⟨rfl, h0, h⟩ := h; exact .base h fun w' => bin_run _ _ _ _ _ _ _ _ _ (by simp) (by simp) (by simp [binOp, Op.intDiv, h0]))
    | (obtain ⟨rfl, h⟩ := h; exact .base h fun w' => bin_run _ _ _ _ _ _ _ _ _ (by simp) (by simp) (by simp [binOp, Op.intArith, Op.intCmp, Op.intBits, BEq.beq, bne]))
    | (obtain ⟨h0, h⟩ := h; exact .base h fun w' => bin_run _ _ _ _ _ _ _ _ _ (by simp) (by simp) (by simp [binOp, Op.shift, show ¬ j < 0 by omega]))
  ·cases hx; cases hy
   rename_i i j
   cases op <;> simp only [] at h
   all_goals first
    | exact h.elim
    | (obtain ⟨h0, h⟩ := h; exact .base h fun w' => bin_run _ _ _ _ _ _ _ _ _ (by simp) (by simp) (by
      have : ¬ (IntKind.i64.max < ((i.size + j.size : Nat) : Int)) := by simp [IntKind.max, IntKind.bits]; omega
      simp only [binOp, Op.stringOp]
      rw [if_neg (by omega)]; rfl))
    | exact .base h fun w' => bin_run _ _ _ _ _ _ _ _ _ (by simp) (by simp) (by simp [binOp, Op.stringOp, strLt, str_beq])
  ·exact h.elim
 | bool =>
  have ht : P.underlying t = some .bool := by
   unfold clsOf at hc; split at hc <;> simp_all
  simp only [abin] at h
  split at h
  ·cases hx; cases hy
   exact .base h fun w' => bin_run _ _ _ _ _ _ _ _ _ (by simp) (by simp) (by simp [binOp, Sem.run_bind, eq_bool ht])
  ·cases hx; cases hy
   exact .base h fun w' => bin_run _ _ _ _ _ _ _ _ _ (by simp) (by simp) (by simp [binOp, Sem.run_bind, eq_bool ht, bne])
  ·exact h.elim
 | slice =>
  obtain ⟨e, ht⟩ : ∃ e, P.underlying t = some (.slice e) := by
   unfold clsOf at hc; split at hc <;> simp_all
  have key : ∀ (A : Option Addr) (n c n' c' : Nat) (w' : World), (do eqGuard .eql t x y (.slice A n c) (.slice none n' c'); binOp .eql t (.slice A n c) (.slice none n' c') : Sem Value).run P w' = .ok (.bool A.isNone) w' := fun A n c n' c' w' =>
   bin_run _ _ _ _ _ _ _ _ _ (by simp) (by simp) (by simp [binOp, Sem.run_bind, eq_slice ht])
  have key2 : ∀ (A : Option Addr) (n c n' c' : Nat) (w' : World), (do eqGuard .neq t x y (.slice A n c) (.slice none n' c'); binOp .neq t (.slice A n c) (.slice none n' c') : Sem Value).run P w' = .ok (.bool (!A.isNone)) w' := fun A n c n' c' w' =>
   bin_run _ _ _ _ _ _ _ _ _ (by simp) (by simp) (by simp [binOp, Sem.run_bind, eq_slice ht])
  simp only [abin] at h
  split at h
  ·cases hx; cases hy; exact .base h fun w' => key _ _ _ _ _ w'
  ·cases hx; cases hy; exact .base h fun w' => key _ _ _ _ _ w'
  ·cases hx; cases hy; exact .base h fun w' => key2 _ _ _ _ _ w'
  ·cases hx; cases hy; exact .base h fun w' => key2 _ _ _ _ _ w'
  ·cases hx; cases hy; exact .base h fun w' => key _ _ _ _ _ w'
  ·cases hx; cases hy; exact .base h fun w' => key2 _ _ _ _ _ w'
  ·cases hy
   cases hx with
   | @sl _ _ _ A c us hc1 hm hf hb _ _ _ =>
   refine .base (h A.isNone fun hA => ?_) fun w' => key _ _ _ _ _ w'
   rcases hb with hb | ⟨b, o, rfl, _⟩
   ·exact hb
   ·cases hA
  ·cases hy
   cases hx with
   | @sl _ _ _ A c us hc1 hm hf hb _ _ _ =>
   refine .base (h (!A.isNone) fun hA => ?_) fun w' => key2 _ _ _ _ _ w'
   rcases hb with hb | ⟨b, o, rfl, _⟩
   ·exact hb
   ·cases hA
  ·exact h.elim
 | ptr =>
  obtain ⟨e, ht⟩ : ∃ e, P.underlying t = some (.pointer e) := by
   unfold clsOf at hc; split at hc <;> simp_all
  simp only [abin] at h
  split at h
  ·cases hx; cases hy; exact .base h fun w' => bin_run _ _ _ _ _ _ _ _ _ (by simp) (by simp) (by simp [binOp, Sem.run_bind, eq_ptr ht])
  ·cases hx; cases hy; rename_i A; exact .base h fun w' => bin_run _ _ _ _ _ _ _ _ _ (by simp) (by simp) (by cases A <;> simp [binOp, Sem.run_bind, eq_ptr ht])
  ·exact h.elim
 | func => exact h.elim
 | map => exact h.elim
 | struct ks =>
  simp only [abin] at h
  split at h
  ·obtain ⟨r, h1, h2⟩ := h
   refine .base h2 fun w' => ?_
   obtain ⟨⟨us, vs, rfl, rfl⟩, hg, hrun⟩ := steq_run hc h1 hx hy w'
   simp only [Sem.run_bind, run_eqGuard_agg w' _ _ _ _ _ _ hg, Result.andThen_ok, run_eql_struct]
   have : (Op.equalIn 10000 t (.agg us) (.agg vs)).run P w' = .ok r w' := hrun
   rw [this]; rfl
  ·obtain ⟨r, h1, h2⟩ := h
   refine .base h2 fun w' => ?_
   obtain ⟨⟨us, vs, rfl, rfl⟩, hg, hrun⟩ := steq_run hc h1 hx hy w'
   simp only [Sem.run_bind, run_eqGuard_agg w' _ _ _ _ _ _ hg, Result.andThen_ok, run_neq_struct]
   have : (Op.equalIn 10000 t (.agg us) (.agg vs)).run P w' = .ok r w' := hrun
   rw [this]; rfl
  ·exact h.elim

theorem aun_sound {op : UnOp} {ax : AVal} {a : Value} {K : AVal → Prop} (h : aun op ax K) (hx : VR S w ax a) : Val P S w G (Op.unary op a) K := by
 unfold aun at h
 split at h
 ·cases hx; exact .base h fun w' => by simp [Op.unary]
 ·cases hx; exact .base h fun w' => by simp [Op.unary, Op.intArith]
 ·exact h.elim
theorem acv_sound {H : AHeap} {sr dt : TypeId} {c : Cv} {ax : AVal} {a : Value} {K : AVal → Prop} (hc : cvOf P sr dt = some c) (h : acv H c ax K) (hx : VR S w ax a) : Val P S w G (convert sr dt a) K := by
 unfold cvOf at hc
 unfold acv at h
 split at hc
 ·rename_i h1 h2
  simp only [Option.some.injEq] at hc; subst hc
  split at h <;> first | exact h.elim | skip
  ·cases hx; simp_all; exact .base h fun w' => by simp [convert, Sem.run_bind, run_underlying h1, run_underlying h2, Conv.intToInt]
  all_goals simp_all
 ·rename_i h1 h2
  simp only [Option.some.injEq] at hc; subst hc
  split at h <;> first | exact h.elim | skip
  ·simp_all
  ·cases hx; exact .base h fun w' => by simp [convert, Sem.run_bind, run_underlying h1, run_underlying h2, Conv.intToString]
  all_goals simp_all
 ·rename_i h1 h2
  simp only [Option.some.injEq] at hc; subst hc
  split at h <;> first | exact h.elim | skip
  ·simp_all
  ·simp_all
  ·cases hx; exact .base h fun w' => by simp [convert, Sem.run_bind, run_underlying h1, run_underlying h2]
 ·cases hc
/-- A part of a struct's value. -/
theorem part_sound {t : TypeId} {ag : Bool} {n : Nat} (hag : aggOf P t = some ag) (hn : szOf P t = some n) {cs : List AVal} {vs : Array Value} (hx : VR S w (.agg cs) (.agg vs)) {off : Nat} {K : AVal → Prop}
  (h : if ag then off + n ≤ cs.length ∧ K (.agg ((cs.drop off).take n)) else ∃ c, cs[off]? = some c ∧ K c) : Val P S w G (part t vs off) K := by
 obtain ⟨d, hd, rfl⟩ : ∃ d, P.underlying t = some d ∧ d.isRow = ag := by
  unfold aggOf at hag; cases e : P.underlying t <;> simp_all
 obtain ⟨i, hi, rfl⟩ : ∃ i, P.info? t = some i ∧ i.size = n := by
  unfold szOf at hn; cases e : P.info? t <;> simp_all
 have hagg : ∀ w', (isAgg t).run P w' = .ok d.isRow w' := fun w' => by
  unfold isAgg
  rw [Sem.run_bind, run_underlying hd w']
  cases d <;> simp_all
 cases hx with
 | agg us hl hv ho hh =>
 by_cases hr : d.isRow = true
 ·rw [if_pos hr] at h
  refine ⟨_, .agg (vs.extract off (off + i.size)), h.2, .agg (fun j => us (off + j)) (by simp; omega) (fun j hj => by simp at hj ⊢; exact hv _ _) (fun j hj => by simp at hj ⊢; exact ho _ (by omega)) (fun j hj => by simp at hj ⊢; exact hh _ (by omega)), fun w' _ => ?_⟩
  simp [part, Sem.run_bind, hagg, hr, sizeOf, typeInfo, hi]
 ·rw [if_neg hr] at h
  obtain ⟨c, hc, hk⟩ := h
  obtain ⟨hlt, rfl⟩ := List.getElem?_eq_some_iff.1 hc
  refine ⟨_, us off, hk, hh off hlt, fun w' _ => ?_⟩
  have : vs[off]? = some (us off) := by rw [Array.getElem?_eq_getElem (by omega), hv]
  simp [part, Sem.run_bind, hagg, hr, this]
theorem cell_of {w w' : World} (hq : Quiet w w') {b : Nat} {o : Nat} {u : Value} (h : w.cell? ⟨b, o, none⟩ = some u) : w'.cell? ⟨b, o, none⟩ = some u := hq.cell h
/-- A variable read at a place whose cells are known. -/
theorem load_sound (hG : ∀ w', G w' → Quiet w w') {t : TypeId} {ag : Bool} {n : Nat} (hag : aggOf P t = some ag) (hn : szOf P t = some n) {cs : List AVal} {b o : Nat} (us : Nat → Value) (hc : ∀ j, j < cs.length → w.cell? ⟨b, o + j, none⟩ = some (us j)) (hh : ∀ j (hj : j < cs.length), VR S w cs[j] (us j)) {K : AVal → Prop}
  (h : if ag then (n ≤ cs.length ∧ (∀ c ∈ cs.take n, c.one = true)) ∧ K (.agg (cs.take n)) else ∃ c, cs[0]? = some c ∧ K c) : Val P S w G (Instr.loadAt t (.pointer (some ⟨b, o, none⟩))) K := by
 obtain ⟨d, hd, rfl⟩ : ∃ d, P.underlying t = some d ∧ d.isRow = ag := by
  unfold aggOf at hag; cases e : P.underlying t <;> simp_all
 obtain ⟨i, hi, rfl⟩ : ∃ i, P.info? t = some i ∧ i.size = n := by
  unfold szOf at hn; cases e : P.info? t <;> simp_all
 by_cases hr : d.isRow = true
 ·rw [if_pos hr] at h
  obtain ⟨⟨hle, hone⟩, hk⟩ := h
  have hlen : ((List.range i.size).map us).length = i.size := by simp
  refine ⟨_, .agg ((List.range i.size).map us).toArray, hk, .agg us (by simp; omega) (fun j hj => by simp) (fun j hj => ?_) (fun j hj => by simp at hj ⊢; exact hh _ (by omega)), fun w' hq => ?_⟩
  ·exact hone _ (List.getElem_mem hj)
  ·refine run_loadAt_mid w' b o t _ d (fun j v hv => ?_) hd hr (by simp [hi])
   obtain ⟨hj, rfl⟩ := List.getElem?_eq_some_iff.1 hv
   simp at hj ⊢
   exact (hG w' hq).cell (hc j (by omega))
 ·rw [if_neg hr] at h
  obtain ⟨c, hc0, hk⟩ := h
  obtain ⟨hlt, rfl⟩ := List.getElem?_eq_some_iff.1 hc0
  refine ⟨_, us 0, hk, hh 0 hlt, fun w' hq => ?_⟩
  have hagg : (isAgg t).run P w' = .ok false w' := by
   unfold isAgg
   rw [Sem.run_bind, run_underlying hd w']
   cases d <;> simp_all
  have := (hG w' hq).cell (hc 0 hlt)
  rw [Nat.add_zero] at this
  simp [Instr.loadAt, Instr.sureAddr, Sem.run_bind, loadVar, hagg, load, Sem.run, this]
end Go.Proofs.YtfaodacmdlnabaaGreatDoor.M
