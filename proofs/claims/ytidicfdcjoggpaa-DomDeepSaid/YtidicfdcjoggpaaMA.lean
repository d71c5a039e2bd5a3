/-
  An abstract machine under which Go functions are walked: values that carry their content, memory that is immutable (S) or owned (H).
-/
import Derived.WalkKit
import Derived.Lib.Hide
import Derived.OrdersHeld
import Derived.Deep.LoopGhost
namespace Go.Proofs.Ytidicfdcjoggpaa.M
open Go.RowKit
set_option linter.unusedVariables false
set_option linter.unusedSimpArgs false

inductive AVal where
  | any
  | v (x : Value)
  | sl (full : Bool) (sz : Nat) (rows : List (List AVal))
  | bs (g sz n : Nat)
  | bv (full : Bool) (g sz lo n : Nat)
  | bp (g sz i k : Nat)
  | pl (cells : List AVal)
  | agg (cells : List AVal)
  | tup (vs : List AVal)
  | fn (f : FuncId) (caps : List AVal)
  | ifc (t : TypeId) (x : AVal)

/-- May a cell hold it? -/
def AVal.one : AVal → Bool
  | .agg _ | .tup _ | .any => false
  | .v x => x.oneCell'
  | _ => true

inductive AObj where
  | cells (E : TypeId) (cs : List AVal)
  | buf (E : TypeId) (sz : Nat) (rows : List (List AVal))
  | mp (l : List (Value × Nat × AVal)) (clock : Nat)
  | it (m since : Nat) (seen : List Nat) (c0 : Nat)
  | si (t : ByteArray) (pos : Nat)

abbrev AHeap := Nat → Option AObj
def AHeap.none : AHeap := fun _ => Option.none
def AHeap.put (H : AHeap) (b : Nat) (o : AObj) : AHeap := fun x => if x = b then some o else H x
def AHeap.del (H : AHeap) (b : Nat) : AHeap := fun x => if x = b then Option.none else H x

/-- The block b of w has m cells at least. -/
def Wide (w : World) (b m : Nat) : Prop := ∃ cur E fz, w.heap[b]? = some (.cells cur E fz) ∧ m ≤ cur.size

/-- A value, and what it is known to be: S are the blocks that never change. -/
inductive VR (S : Nat → Prop) (w : World) : AVal → Value → Prop
  | any (x : Value) : VR S w .any x
  | v (x : Value) : VR S w (.v x) x
  | sl {full : Bool} {sz : Nat} {rows : List (List AVal)} {A : Option Addr} {c : Nat} (us : Nat → Nat → Value) (hc : rows.length ≤ c) (hm : c ≤ maxLen) (hf : full = true → c = rows.length)
      (hb : rows = [] ∨ ∃ b o, A = some ⟨b, o, none⟩ ∧ S b ∧ ∀ i j, i < rows.length → j < sz → w.cell? ⟨b, o + i * sz + j, none⟩ = some (us i j))
      (hl : ∀ i (hi : i < rows.length), rows[i].length = sz) (ho : ∀ i (hi : i < rows.length) j (hj : j < rows[i].length), rows[i][j].one = true)
      (h : ∀ i (hi : i < rows.length) j (hj : j < rows[i].length), VR S w rows[i][j] (us i j)) : VR S w (.sl full sz rows) (.slice A rows.length c)
  | bs {g sz n c : Nat} (hn : n ≤ c) (hm : c ≤ maxLen) (hw : Wide w g (c * sz)) : VR S w (.bs g sz n) (.slice (some ⟨g, 0, none⟩) n c)
  | bv {full : Bool} {g sz lo n c : Nat} {A : Addr} (hA : 0 < n → A = ⟨g, lo * sz, none⟩) (hn : n ≤ c) (hm : c ≤ maxLen) (hf : full = true → c = n) : VR S w (.bv full g sz lo n) (.slice (some A) n c)
  | bp {g sz i k : Nat} : VR S w (.bp g sz i k) (.pointer (some ⟨g, i * sz + k, none⟩))
  | pl {cells : List AVal} {b o : Nat} (us : Nat → Value) (hb : S b) (hc : ∀ j, j < cells.length → w.cell? ⟨b, o + j, none⟩ = some (us j)) (h : ∀ j (hj : j < cells.length), VR S w cells[j] (us j)) : VR S w (.pl cells) (.pointer (some ⟨b, o, none⟩))
  | agg {cells : List AVal} {vs : Array Value} (us : Nat → Value) (hl : vs.size = cells.length) (hv : ∀ j (hj : j < vs.size), vs[j] = us j) (ho : ∀ j (hj : j < cells.length), cells[j].one = true) (h : ∀ j (hj : j < cells.length), VR S w cells[j] (us j)) : VR S w (.agg cells) (.agg vs)
  | tup {cells : List AVal} {vs : Array Value} (us : Nat → Value) (hl : vs.size = cells.length) (hv : ∀ j (hj : j < vs.size), vs[j] = us j) (h : ∀ j (hj : j < cells.length), VR S w cells[j] (us j)) : VR S w (.tup cells) (.tuple vs)
  | fn {f : FuncId} {caps : List AVal} {vs : Array Value} (us : Nat → Value) (hl : vs.size = caps.length) (hv : ∀ j (hj : j < vs.size), vs[j] = us j) (h : ∀ j (hj : j < caps.length), VR S w caps[j] (us j)) : VR S w (.fn f caps) (.func (.func f) #[] vs)
  | ifc {t : TypeId} {x : AVal} {u : Value} (h : VR S w x u) : VR S w (.ifc t x) (.iface t u)

theorem VR.one {S : Nat → Prop} {w : World} {x : AVal} {u : Value} (h : VR S w x u) (ho : x.one = true) : u.oneCell' = true := by
  cases h <;> simp_all [AVal.one, Value.oneCell']

/-- What was known stays known where the immutable blocks stand and no block changes its width. -/
theorem VR.keep {S S' : Nat → Prop} {w w' : World} (hS : ∀ b, S b → S' b ∧ w'.heap[b]? = w.heap[b]?) (hw : ∀ b m, Wide w b m → Wide w' b m) {x : AVal} {u : Value} (h : VR S w x u) : VR S' w' x u := by
  have cellEq : ∀ b o, S b → w'.cell? ⟨b, o, none⟩ = w.cell? ⟨b, o, none⟩ := fun b o hb => World.cell?_of_block (hS b hb).2
  induction h with
  | any x => exact .any x
  | v x => exact .v x
  | sl us hc hm hf hb hl ho h ih =>
    refine .sl us hc hm hf ?_ hl ho ih
    rcases hb with hb | ⟨b, o, e, hb, hx⟩
    · exact .inl hb
    · exact .inr ⟨b, o, e, (hS b hb).1, fun i j hi hj => (cellEq b _ hb).trans (hx i j hi hj)⟩
  | bs hn hm hwd => exact .bs hn hm (hw _ _ hwd)
  | bv hA hn hm hf => exact .bv hA hn hm hf
  | bp => exact .bp
  | pl us hb hc h ih => exact .pl us (hS _ hb).1 (fun j hj => (cellEq _ _ hb).trans (hc j hj)) ih
  | agg us hl hv ho h ih => exact .agg us hl hv ho ih
  | tup us hl hv h ih => exact .tup us hl hv ih
  | fn us hl hv h ih => exact .fn us hl hv ih
  | ifc h ih => exact .ifc ih

/-- An owned object in memory. -/
def Soft (w : World) (b n : Nat) : Prop := ∀ o, o < n → w.frozen? ⟨b, o, none⟩ = false
/-- A map's entries. -/
def MR (S : Nat → Prop) (w : World) : List (Value × Nat × AVal) → List MapEntry → Prop
  | [], [] => True
  | e :: l, x :: es => x.key = e.1 ∧ x.born = e.2.1 ∧ VR S w e.2.2 x.val ∧ MR S w l es
  | _, _ => False
theorem MR.mono {S S' : Nat → Prop} {w w' : World} (hv : ∀ x u, VR S w x u → VR S' w' x u) : ∀ {l : List (Value × Nat × AVal)} {es : List MapEntry}, MR S w l es → MR S' w' l es
  | [], [], h => h
  | _ :: _, _ :: _, h => ⟨h.1, h.2.1, hv _ _ h.2.2.1, h.2.2.2.mono hv⟩
  | [], _ :: _, h => h.elim
  | _ :: _, [], h => h.elim
def OR (S : Nat → Prop) (w : World) (b : Nat) : AObj → Prop
  | .cells E cs => ∃ cur fz, w.heap[b]? = some (.cells cur E fz) ∧ cur.size = cs.length ∧ Soft w b cur.size ∧ (∀ i (h : i < cs.length), cs[i].one = true) ∧ ∀ i (h : i < cs.length) (h' : i < cur.size), VR S w cs[i] cur[i]
  | .buf E sz rows => ∃ cur fz c, w.heap[b]? = some (.cells cur E fz) ∧ cur.size = c * sz ∧ rows.length ≤ c ∧ c ≤ maxLen ∧ Soft w b cur.size ∧ (∀ i (hi : i < rows.length), rows[i].length = sz) ∧
      (∀ i (hi : i < rows.length) j (hj : j < rows[i].length), rows[i][j].one = true) ∧ ∀ i (hi : i < rows.length) j (hj : j < rows[i].length), ∃ u, cur[i * sz + j]? = some u ∧ VR S w rows[i][j] u
  | .mp l clock => ∃ es, w.heap[b]? = some (.map es clock) ∧ MR S w l es.toList
  | .it m since seen c0 => w.heap[b]? = some (.mapIter (some m) since seen.toArray c0)
  | .si t pos => w.heap[b]? = some (.stringIter t pos)
structure WR (W : World) (S : Nat → Prop) (H : AHeap) (w : World) : Prop where
  old : Below W.heap.size W w
  new : ∀ b o, H b = some o → W.heap.size ≤ b
  lt : ∀ b, S b → b < w.heap.size
  apart : ∀ b o, H b = some o → ¬ S b
  objs : ∀ b o, H b = some o → OR S w b o
theorem lt_of_some {w : World} {b : Nat} {o : Obj} (h : w.heap[b]? = some o) : b < w.heap.size := by
  rcases Nat.lt_or_ge b w.heap.size with hlt | hge
  · exact hlt
  · rw [Array.getElem?_eq_none hge] at h; cases h
theorem OR.lt {S : Nat → Prop} {w : World} {b : Nat} {o : AObj} (h : OR S w b o) : b < w.heap.size := by
  cases o with
  | cells E cs => obtain ⟨cur, fz, h, _⟩ := h; exact lt_of_some h
  | buf E sz rows => obtain ⟨cur, fz, c, h, _⟩ := h; exact lt_of_some h
  | mp l c => obtain ⟨es, h, _⟩ := h; exact lt_of_some h
  | it m a l c => exact lt_of_some h
  | si t p => exact lt_of_some h
theorem WR.fresh {W : World} {S : Nat → Prop} {H : AHeap} {w : World} (h : WR W S H w) : H w.heap.size = none := by
  cases e : H w.heap.size with
  | none => rfl
  | some o => exact absurd (h.objs _ _ e).lt (Nat.lt_irrefl _)
theorem OR.keep {S S' : Nat → Prop} {w w' : World} (hS : ∀ b, S b → S' b ∧ w'.heap[b]? = w.heap[b]?) (hw : ∀ b m, Wide w b m → Wide w' b m) {b : Nat} (hb : w'.heap[b]? = w.heap[b]?) {o : AObj} (h : OR S w b o) : OR S' w' b o := by
  have hs : ∀ n, Soft w b n → Soft w' b n := fun n h o ho => by rw [← h o ho]; unfold World.frozen?; rw [hb]
  cases o with
  | cells E cs =>
    obtain ⟨cur, fz, h1, h2, h3, h4, h5⟩ := h
    exact ⟨cur, fz, hb.trans h1, h2, hs _ h3, h4, fun i hi hi' => (h5 i hi hi').keep hS hw⟩
  | buf E sz rows =>
    obtain ⟨cur, fz, c, h1, h2, h3, h4, h5, h6, h7, h8⟩ := h
    exact ⟨cur, fz, c, hb.trans h1, h2, h3, h4, hs _ h5, h6, h7, fun i hi j hj => let ⟨u, hu, hv⟩ := h8 i hi j hj; ⟨u, hu, hv.keep hS hw⟩⟩
  | mp l c =>
    obtain ⟨es, h1, h2⟩ := h
    exact ⟨es, hb.trans h1, h2.mono fun x u h => h.keep hS hw⟩
  | it m a l c => exact hb.trans h
  | si t p => exact hb.trans h

/-- What a step may do: blocks that stood and are not owned stand; none changes its width. -/
structure Ext (S : Nat → Prop) (H : AHeap) (w : World) (S' : Nat → Prop) (H' : AHeap) (w' : World) : Prop where
  size : w.heap.size ≤ w'.heap.size
  block : ∀ b, b < w.heap.size → H b = none → w'.heap[b]? = w.heap[b]?
  wide : ∀ b m, Wide w b m → Wide w' b m
  up : ∀ b, S b → S' b
  down : ∀ b, S' b → S b ∨ w.heap.size ≤ b ∨ H b ≠ none
  dom : ∀ b, H' b ≠ none → H b ≠ none ∨ w.heap.size ≤ b
theorem Ext.refl (S : Nat → Prop) (H : AHeap) (w : World) : Ext S H w S H w :=
  ⟨Nat.le_refl _, fun _ _ _ => rfl, fun _ _ h => h, fun _ h => h, fun _ h => .inl h, fun _ h => .inl h⟩
theorem Ext.trans {S S1 S2 : Nat → Prop} {H H1 H2 : AHeap} {w w1 w2 : World} (h : Ext S H w S1 H1 w1) (k : Ext S1 H1 w1 S2 H2 w2) : Ext S H w S2 H2 w2 where
  size := Nat.le_trans h.size k.size
  block b hb hH := by
    have h1 : H1 b = none := by
      cases e : H1 b with
      | none => rfl
      | some o =>
        rcases h.dom b (by simp [e]) with h2 | h2
        · exact absurd hH h2
        · omega
    exact (k.block b (Nat.lt_of_lt_of_le hb h.size) h1).trans (h.block b hb hH)
  wide b m hm := k.wide b m (h.wide b m hm)
  up b hb := k.up b (h.up b hb)
  down b hb := by
    rcases k.down b hb with h1 | h1 | h1
    · exact h.down b h1
    · have := h.size; exact .inr (.inl (by omega))
    · rcases h.dom b h1 with h2 | h2
      · exact .inr (.inr h2)
      · exact .inr (.inl h2)
  dom b hb := by
    rcases k.dom b hb with h1 | h1
    · exact h.dom b h1
    · have := h.size; exact .inr (by omega)
/-- The heap's own part may be called smaller. -/
def Sub (H' H : AHeap) : Prop := ∀ b o, H' b = some o → H b = some o
theorem Sub.refl (H : AHeap) : Sub H H := fun _ _ h => h
theorem Sub.none (H : AHeap) : Sub AHeap.none H := fun _ _ h => by cases h
theorem Ext.less {S S' : Nat → Prop} {H H' H2 : AHeap} {w w' : World} (h : Ext S H w S' H' w') (hs : Sub H2 H') : Ext S H w S' H2 w' :=
  { h with dom := fun b hb => h.dom b (fun e => hb (by cases e2 : H2 b with | none => rfl | some o => rw [hs b o e2] at e; cases e)) }
theorem WR.less {W : World} {S : Nat → Prop} {H H2 : AHeap} {w : World} (h : WR W S H w) (hs : Sub H2 H) : WR W S H2 w := ⟨h.old, fun b o hb => h.new b o (hs b o hb), h.lt, fun b o hb => h.apart b o (hs b o hb), fun b o hb => h.objs b o (hs b o hb)⟩
theorem Ext.still {W : World} {S S' : Nat → Prop} {H H' : AHeap} {w w' : World} (h : Ext S H w S' H' w') (hw : WR W S H w) : ∀ b, S b → S' b ∧ w'.heap[b]? = w.heap[b]? := fun b hb =>
  ⟨h.up b hb, h.block b (hw.lt b hb) (by cases e : H b with | none => rfl | some o => exact absurd hb (hw.apart b o e))⟩
theorem VR.ext {W : World} {S S' : Nat → Prop} {H H' : AHeap} {w w' : World} {x : AVal} {u : Value} (h : VR S w x u) (hw : WR W S H w) (he : Ext S H w S' H' w') : VR S' w' x u := h.keep (he.still hw) he.wide

def VRs (S : Nat → Prop) (w : World) (xs : List AVal) (us : Array Value) : Prop := us.size = xs.length ∧ ∀ i (h : i < xs.length) (h' : i < us.size), VR S w xs[i] us[i]

/-- A call, as it is told: from these arguments and owned objects on it returns, and K holds of the result and of what is owned then. -/
def ACalls (P : Program) (W : World) (f : FuncId) (args : List AVal) (H : AHeap) (K : AVal → AHeap → Prop) : Prop :=
  ∀ (S : Nat → Prop) (w : World) (us : Array Value), WR W S H w → VRs S w args us →
    Calls P f us w fun e w' => ∃ r H' S' v, K r H' ∧ e = .returned v ∧ Ext S H w S' H' w' ∧ WR W S' H' w' ∧ VR S' w' r v
theorem ACalls.mono {P : Program} {W : World} {f : FuncId} {args : List AVal} {H : AHeap} {K K' : AVal → AHeap → Prop} (h : ACalls P W f args H K) (hk : ∀ r H', K r H' → K' r H') : ACalls P W f args H K' :=
  fun S w us hw hv => (h S w us hw hv).mono fun e w' ⟨r, H', S', v, k, rest⟩ => ⟨r, H', S', v, hk _ _ k, rest⟩
/-- The rest of what is owned stays as it is. -/
def AHeap.over (H1 F : AHeap) : AHeap := fun b => match H1 b with | some o => some o | .none => F b
theorem ACalls.frame {P : Program} {W : World} {f : FuncId} {args : List AVal} {H1 H : AHeap} {K : AVal → AHeap → Prop} (hs : Sub H1 H) (h : ACalls P W f args H1 K) :
    ACalls P W f args H fun r H' => ∃ H1', K r H1' ∧ H' = H1'.over (fun b => match H1 b with | some _ => none | none => H b) := by
  intro S w us hw hv
  refine (h S w us (hw.less hs) hv).mono ?_
  rintro e w' ⟨r, H1', S', v, hk, rfl, hx, hw', hvr⟩
  refine ⟨r, _, S', v, ⟨H1', hk, rfl⟩, rfl, ?_, ?_, hvr⟩
  · exact { hx with
      block := fun b hb hH => hx.block b hb (by cases e : H1 b with | none => rfl | some o => rw [hs b o e] at hH; cases hH)
      down := fun b hb => by
        rcases hx.down b hb with h1 | h1 | h1
        · exact .inl h1
        · exact .inr (.inl h1)
        · refine .inr (.inr fun e => h1 ?_)
          cases e2 : H1 b with
          | none => rfl
          | some o => rw [hs b o e2] at e; cases e
      dom := fun b hb => by
        unfold AHeap.over at hb
        cases e : H1' b with
        | some o =>
          rcases hx.dom b (by simp [e]) with h1 | h1
          · refine .inl fun e3 => h1 ?_
            cases e2 : H1 b with
            | none => rfl
            | some o => rw [hs b o e2] at e3; cases e3
          · exact .inr h1
        | none =>
          simp only [e] at hb
          cases e2 : H1 b with
          | some o => simp [e2] at hb
          | none => simp only [e2] at hb; exact .inl hb }
  · have hstill := hx.still (hw.less hs)
    have hkept : ∀ b o, H1 b = none → H b = some o → w'.heap[b]? = w.heap[b]? := fun b o h1 h2 => hx.block b (hw.objs b o h2).lt h1
    refine ⟨hw'.old, fun b o hb => ?_, hw'.lt, fun b o hb => ?_, fun b o hb => ?_⟩
    · unfold AHeap.over at hb
      cases e : H1' b with
      | some o' => exact hw'.new b o' e
      | none =>
        simp only [e] at hb
        cases e2 : H1 b with
        | some o => simp [e2] at hb
        | none => simp only [e2] at hb; exact hw.new b o hb
    · unfold AHeap.over at hb
      cases e : H1' b with
      | some o' => exact hw'.apart b o' e
      | none =>
        simp only [e] at hb
        cases e2 : H1 b with
        | some o => simp [e2] at hb
        | none =>
          simp only [e2] at hb
          intro hS
          rcases hx.down b hS with h1 | h1 | h1
          · exact hw.apart b o hb h1
          · have := (hw.objs b o hb).lt; omega
          · exact h1 e2
    · unfold AHeap.over at hb
      cases e : H1' b with
      | some o' => simp only [e, Option.some.injEq] at hb; subst hb; exact hw'.objs b _ e
      | none =>
        simp only [e] at hb
        cases e2 : H1 b with
        | some o => simp [e2] at hb
        | none =>
          simp only [e2] at hb
          exact (hw.objs b o hb).keep hstill hx.wide (hkept b o e2 hb)
/-- A call that owns nothing. -/
theorem ACalls.pure {P : Program} {W : World} {f : FuncId} {args : List AVal} {H : AHeap} {K : AVal → AHeap → Prop} {R : AVal → Prop} (h : ACalls P W f args AHeap.none fun r _ => R r) (hk : ∀ r, R r → K r H) : ACalls P W f args H K := by
  have h2 : ACalls P W f args AHeap.none fun r H' => R r ∧ H' = AHeap.none := by
    intro S w us hw hv
    refine (h S w us hw hv).mono ?_
    rintro e w' ⟨r, H1', S', v, hk, rfl, hx, hw', hvr⟩
    exact ⟨r, AHeap.none, S', v, ⟨hk, rfl⟩, rfl, hx.less (Sub.none _), hw'.less (Sub.none _), hvr⟩
  refine (ACalls.frame (Sub.none H) h2).mono ?_
  rintro r H' ⟨H1', ⟨h3, rfl⟩, rfl⟩
  have : AHeap.none.over (fun b => match AHeap.none b with | some _ => none | none => H b) = H := by funext b; rfl
  rw [this]
  exact hk r h3
end Go.Proofs.Ytidicfdcjoggpaa.M
