/-
  The abstract machine's operations that leave memory alone: what they yield, and that the program's operations yield it.
-/
import Derived.Test.YtidicfdcjoggpaaMA
import Derived.Deep.MidRow
import Derived.Laws.Entries
namespace Go.Proofs.Ytidicfdcjoggpaa.M
open Go.RowKit
set_option linter.unusedVariables false
set_option linter.unusedSimpArgs false

structure AState where
  tm : List (Nat × AVal)
  H : AHeap
def tget : List (Nat × AVal) → Nat → AVal
  | [], _ => .any
  | (k, x) :: r, i => if k = i then x else tget r i
def ev (tm : List (Nat × AVal)) : Operand → AVal
  | .tmp t => tget tm t
  | .const v => .v v
  | .global g => .v (.pointer (some ⟨g, 0, none⟩))
  | .func f => .fn f []
def AState.put (s : AState) (d : Option Nat) (x : AVal) : AState := match d with
  | some k => ⟨(k, x) :: s.tm, s.H⟩
  | none => s

structure SR (W : World) (N : Nat) (S : Nat → Prop) (s : AState) (a : Act) (w : World) : Prop where
  defers : a.defers = []
  size : a.tmps.size = N
  tm : ∀ k, VR S w (tget s.tm k) (a.tmps.getD k undef)
  wr : WR W S s.H w
theorem SR.ev {W : World} {N : Nat} {S : Nat → Prop} {s : AState} {a : Act} {w : World} (h : SR W N S s a w) (x : Operand) : VR S w (ev s.tm x) (a.eval x) := by
  cases x with
  | tmp t => exact h.tm t
  | const v => exact .v v
  | global g => exact .v _
  | func f => exact .fn (fun _ => undef) rfl (by simp) (by simp)
def dstOk (N : Nat) (d : Option Nat) : Bool := match d with | some k => decide (k < N) | none => true
theorem getD_set (t : Array Value) (k j : Nat) (x : Value) (hk : k < t.size) : (t.setIfInBounds k x).getD j undef = if k = j then x else t.getD j undef := by
  by_cases h : k = j
  · subst h; simp [hk]
  · simp [h, Array.getElem?_setIfInBounds_ne h]
theorem tmps_put {N : Nat} {S : Nat → Prop} {tm : List (Nat × AVal)} {t : Array Value} {w : World} (hs : t.size = N) (h : ∀ k, VR S w (tget tm k) (t.getD k undef)) {k : Nat} (hk : k < N) {x : AVal} {u : Value} (hx : VR S w x u) :
    ∀ j, VR S w (tget ((k, x) :: tm) j) ((t.setIfInBounds k u).getD j undef) := by
  intro j
  rw [getD_set _ _ _ _ (by omega), tget]
  by_cases e : k = j
  · rw [if_pos e, if_pos e]; exact hx
  · rw [if_neg e, if_neg e]; exact h j
/-- Behind a step: the state's own part, and a value in its place. -/
theorem SR.next {W : World} {N : Nat} {S S' : Nat → Prop} {s : AState} {a : Act} {w w' : World} {H' : AHeap} (h : SR W N S s a w) (he : Ext S s.H w S' H' w') (hw : WR W S' H' w') {d : Option Nat} (hd : dstOk N d = true) {x : AVal} {u : Value} (hx : VR S' w' x u) :
    SR W N S' ((⟨s.tm, H'⟩ : AState).put d x) (a.put d u) w' := by
  have ht : ∀ k, VR S' w' (tget s.tm k) (a.tmps.getD k undef) := fun k => (h.tm k).ext h.wr he
  cases d with
  | none => exact ⟨h.defers, h.size, ht, hw⟩
  | some k =>
    refine ⟨h.defers, by simp [Act.put, h.size], ?_, hw⟩
    exact tmps_put h.size ht (by simpa [dstOk] using hd) hx
theorem SR.put {W : World} {N : Nat} {S : Nat → Prop} {s : AState} {a : Act} {w : World} (h : SR W N S s a w) {d : Option Nat} (hd : dstOk N d = true) {x : AVal} {u : Value} (hx : VR S w x u) : SR W N S (s.put d x) (a.put d u) w := by
  have := h.next (Ext.refl S s.H w) h.wr hd hx
  exact this

/-! ### What the operations are -/
inductive Cls where
  | num | bool | slice | ptr | func | map
  | struct (ks : List Nat)
inductive Cv where
  | int (k : IntKind) | str | same | b2s
inductive AO where
  | mv (x : Operand)
  | pick (c a b : Operand)
  | bin (op : BinOp) (cl : Cls) (x y : Operand)
  | un (op : UnOp) (x : Operand)
  | cv (c : Cv) (x : Operand)
  | fld (ag : Bool) (off n : Nat) (x : Operand)
  | fad (off n : Nat) (x : Operand)
  | ixa (sz : Nat) (x i : Operand)
  | six (x i : Operand)
  | ssl (x : Operand) (lo hi : Option Operand)
  | lsl (sz : Nat) (x : Operand) (lo hi mx : Option Operand)
  | len (str : Bool) (x : Operand)
  | ext (x : Operand) (i : Nat)
  | mm (isMax : Bool) (x y : Operand)
  | bld (zero : List Value) (parts : List (Nat × Nat × Operand))
  | mkf (f : FuncId) (caps : List Operand)
  | mki (t : TypeId) (x : Operand)
  | nck (x : Operand)
  | ld (ag : Bool) (n : Nat) (x : Operand)
  | lk (kc : Option IntKind) (ok : Bool) (z : Value) (x i : Operand)
  | mlen (x : Operand)
  | men (x : Operand)

instance : DecidableEq ByteArray := fun a b => if h : a.data.toList = b.data.toList then .isTrue (by cases a; cases b; simp at h; subst h; rfl) else .isFalse (fun e => h (by rw [e]))
theorem str_ext {a b : ByteArray} (h : a.toList = b.toList) : a = b := by
  rw [ByteArray.toList_eq, ByteArray.toList_eq] at h
  cases a; cases b; simp at h; subst h; rfl
theorem str_beq (a b : ByteArray) : (a.toList == b.toList) = decide (a = b) := by
  by_cases h : a = b
  · subst h; simp
  · rw [decide_eq_false h]; exact beq_eq_false_iff_ne.2 (fun e => h (str_ext e))
def strLt (a b : ByteArray) : Bool := Op.bytesLess a.toList b.toList

/-- Rows of a slice value, where they are known. -/
def rowsOf (H : AHeap) : AVal → Option (List (List AVal))
  | .sl _ _ rows => some rows
  | .v (.slice none 0 0) => some []
  | .bs g _ n => match H g with
    | some (.buf _ _ rows) => if n ≤ rows.length then some (rows.take n) else none
    | _ => none
  | _ => none

/-! ### Maps -/
def kOk : Option IntKind → Value → Bool
  | some k, .int k' _ => k == k'
  | none, .string _ => true
  | _, _ => false
def kEq : Value → Value → Bool
  | .int _ a, .int _ b => a == b
  | .string a, .string b => decide (a = b)
  | _, _ => false
def mget (k : Value) : List (Value × Nat × AVal) → Option AVal
  | [] => none
  | e :: l => if kEq k e.1 then some e.2.2 else mget k l
def mput (k : Value) (v : AVal) (c : Nat) : List (Value × Nat × AVal) → List (Value × Nat × AVal)
  | [] => [(k, c, v)]
  | e :: l => if kEq k e.1 then (k, e.2.1, v) :: l else e :: mput k v c l
def mclk (k : Value) (c : Nat) (l : List (Value × Nat × AVal)) : Nat := if (mget k l).isSome then c else c + 1
def mdel (k : Value) : List (Value × Nat × AVal) → List (Value × Nat × AVal)
  | [] => []
  | e :: l => if kEq k e.1 then l else e :: mdel k l
def mborn (k : Value) (c : Nat) : List (Value × Nat × AVal) → Nat
  | [] => c
  | e :: l => if kEq k e.1 then e.2.1 else mborn k c l
def mset (n : Nat) (v : AVal) : List (Value × Nat × AVal) → List (Value × Nat × AVal)
  | [] => []
  | e :: l => if e.2.1 = n then (e.1, n, v) :: l else e :: mset n v l
def zeroA : Value → AVal
  | .agg cs => .agg (cs.toList.map .v)
  | z => .v z
def mapA (H : AHeap) : AVal → List (Value × Nat × AVal)
  | .v (.map (some b)) => match H b with
    | some (.mp l _) => l
    | _ => []
  | _ => []
def isMapA (H : AHeap) : AVal → Bool
  | .v (.map none) => true
  | .v (.map (some b)) => match H b with
    | some (.mp _ _) => true
    | _ => false
  | _ => false
def keyA : AVal → Value
  | .v k => k
  | _ => undef
def lkside (H : AHeap) (kc : Option IntKind) (x i : AVal) : Prop := isMapA H x = true ∧ (mapA H x).all (fun e => kOk kc e.1) = true ∧ kOk kc (keyA i) = true
def lkval (H : AHeap) (ok : Bool) (z : Value) (x i : AVal) : AVal := match ok with
  | true => .tup [(mget (keyA i) (mapA H x)).getD (zeroA z), .v (.bool (mget (keyA i) (mapA H x)).isSome)]
  | false => (mget (keyA i) (mapA H x)).getD (zeroA z)
/-- The entry that a step has handed out. -/
def mentA (H : AHeap) : AVal → Option (Value × AVal)
  | .v (.pointer (some ⟨r, 0, none⟩)) => match H r with
    | some (.it m _ seen c0) => match H m with
      | some (.mp l c) => if c = c0 then match seen.getLast? with
        | some b => (l.find? (fun e => e.2.1 == b)).map (fun e => (e.1, e.2.2))
        | none => none
        else none
      | _ => none
    | _ => none
  | _ => none
def menval (H : AHeap) (x : AVal) : AVal := match mentA H x with
  | some (k, v) => .tup [.v k, v]
  | none => .any
/-! ### Structs of plain fields -/
def flat1 : Nat → AVal → AVal → Option Bool
  | 0, .v (.int k a), .v (.int k' b) => if k = k' then some (decide (a = b)) else none
  | 1, .v (.string a), .v (.string b) => some (decide (a = b))
  | 2, .v (.bool a), .v (.bool b) => some (a == b)
  | _, _, _ => none
def flatEq : List Nat → List AVal → List AVal → Option Bool
  | [], [], [] => some true
  | k :: ks, x :: xs, y :: ys => match flat1 k x y, flatEq ks xs ys with
    | some a, some b => some (a && b)
    | _, _ => none
  | _, _, _ => none
def aggA : AVal → List AVal
  | .agg cs => cs
  | _ => []
def isAggA : AVal → Bool
  | .agg _ => true
  | _ => false
def steq (ks : List Nat) (x y : AVal) : Option Bool := if isAggA x = true ∧ isAggA y = true then flatEq ks (aggA x) (aggA y) else none

def abin (op : BinOp) (cl : Cls) (x y : AVal) (K : AVal → Prop) : Prop :=
  match cl with
  | .num =>
    match x, y with
    | .v (.int k a), .v (.int k' b) =>
      match op with
      | .add => k = k' ∧ K (.v (.int k (k.wrap (a + b))))
      | .sub => k = k' ∧ K (.v (.int k (k.wrap (a - b))))
      | .mul => k = k' ∧ K (.v (.int k (k.wrap (a * b))))
      | .quo => k = k' ∧ b ≠ 0 ∧ K (.v (.int k (k.wrap (a.tdiv b))))
      | .rem => k = k' ∧ b ≠ 0 ∧ K (.v (.int k (a.tmod b)))
      | .shl => 0 ≤ b ∧ K (.v (.int k (k.wrap (a * 2 ^ (min b.toNat k.bits)))))
      | .shr => 0 ≤ b ∧ K (.v (.int k (a.fdiv (2 ^ (min b.toNat k.bits)))))
      | .eql => k = k' ∧ K (.v (.bool (decide (a = b))))
      | .neq => k = k' ∧ K (.v (.bool (decide (a ≠ b))))
      | .lss => k = k' ∧ K (.v (.bool (decide (a < b))))
      | .leq => k = k' ∧ K (.v (.bool (decide (a ≤ b))))
      | .gtr => k = k' ∧ K (.v (.bool (decide (b < a))))
      | .geq => k = k' ∧ K (.v (.bool (decide (b ≤ a))))
      | .or => k = k' ∧ K (.v (.int k (k.wrap ((BitVec.ofInt k.bits a ||| BitVec.ofInt k.bits b).toNat : Int))))
      | .and => k = k' ∧ K (.v (.int k (k.wrap ((BitVec.ofInt k.bits a &&& BitVec.ofInt k.bits b).toNat : Int))))
      | _ => False
    | .v (.string a), .v (.string b) =>
      match op with
      | .add => a.size + b.size ≤ 9223372036854775807 ∧ K (.v (.string (a ++ b)))
      | .eql => K (.v (.bool (decide (a = b))))
      | .neq => K (.v (.bool (decide (a ≠ b))))
      | .lss => K (.v (.bool (strLt a b)))
      | .leq => K (.v (.bool (strLt a b || decide (a = b))))
      | .gtr => K (.v (.bool (!(strLt a b || decide (a = b)))))
      | .geq => K (.v (.bool (!strLt a b)))
      | _ => False
    | _, _ => False
  | .bool =>
    match op, x, y with
    | .eql, .v (.bool a), .v (.bool b) => K (.v (.bool (a == b)))
    | .neq, .v (.bool a), .v (.bool b) => K (.v (.bool (a != b)))
    | _, _, _ => False
  | .slice =>
    match op, x, y with
    | .eql, .bs _ _ _, .v (.slice none _ _) => K (.v (.bool false))
    | .eql, .bv _ _ _ _ _, .v (.slice none _ _) => K (.v (.bool false))
    | .neq, .bv _ _ _ _ _, .v (.slice none _ _) => K (.v (.bool true))
    | .neq, .bs _ _ _, .v (.slice none _ _) => K (.v (.bool true))
    | .eql, .v (.slice none _ _), .v (.slice none _ _) => K (.v (.bool true))
    | .neq, .v (.slice none _ _), .v (.slice none _ _) => K (.v (.bool false))
    | .eql, .sl _ _ rows, .v (.slice none _ _) => ∀ t : Bool, (t = true → rows = []) → K (.v (.bool t))
    | .neq, .sl _ _ rows, .v (.slice none _ _) => ∀ t : Bool, (t = false → rows = []) → K (.v (.bool t))
    | _, _, _ => False
  | .ptr =>
    match op, x, y with
    | .eql, .v (.pointer a), .v (.pointer none) => K (.v (.bool a.isNone))
    | .neq, .v (.pointer a), .v (.pointer none) => K (.v (.bool a.isSome))
    | _, _, _ => False
  | .struct ks =>
    match op with
    | .eql => ∃ b, steq ks x y = some b ∧ K (.v (.bool b))
    | .neq => ∃ b, steq ks x y = some b ∧ K (.v (.bool (!b)))
    | _ => False
  | _ => False
def aun (op : UnOp) (x : AVal) (K : AVal → Prop) : Prop :=
  match op, x with
  | .not, .v (.bool b) => K (.v (.bool !b))
  | .neg, .v (.int k n) => K (.v (.int k (k.wrap (0 - n))))
  | _, _ => False
/-- A slice's bytes. -/
def byteOf : List AVal → Option UInt8
  | [.v (.int .u8 n)] => some (UInt8.ofNat n.toNat)
  | _ => none
def acv (H : AHeap) (c : Cv) (x : AVal) (K : AVal → Prop) : Prop :=
  match c, x with
  | .int k, .v (.int _ n) => K (.v (.int k (k.wrap n)))
  | .str, .v (.int _ n) => K (.v (.string (Utf8.encode n)))
  | .same, .v (.string s) => K (.v (.string s))
  | _, _ => False
/-- A bound of a slice expression. -/
def bnd (tm : List (Nat × AVal)) (o : Option Operand) (dflt : Int) (K : Int → Prop) : Prop :=
  match o with
  | none => K dflt
  | some x => match ev tm x with | .v (.int _ n) => K n | _ => False
def lenA : AVal → Int
  | .v (.slice _ n _) => n
  | .sl _ _ rows => rows.length
  | .bs _ _ n => n
  | .bv _ _ _ _ n => n
  | _ => 0
def asl (H : AHeap) (sz : Nat) (x : AVal) (lo hi : Int) (mx : Option Int) (K : AVal → Prop) : Prop :=
  match x with
  | .sl full sz' rows => (sz = sz' ∧ 0 ≤ lo ∧ lo ≤ hi ∧ hi ≤ rows.length ∧ (∀ m, mx = some m → hi ≤ m ∧ m ≤ rows.length)) ∧ K (.sl (mx.elim (full && decide (hi = rows.length)) (fun m => decide (m = hi))) sz ((rows.take hi.toNat).drop lo.toNat))
  | .v (.slice none 0 0) => (lo = 0 ∧ hi = 0 ∧ (∀ m, mx = some m → m = 0)) ∧ K (.v (.slice none 0 0))
  | .bs g sz' n => (sz = sz' ∧ 0 ≤ lo ∧ lo ≤ hi ∧ hi ≤ n ∧ (∀ m, mx = some m → hi ≤ m ∧ m ≤ n)) ∧ (lo = 0 ∧ mx = none → K (.bs g sz hi.toNat)) ∧ (¬ (lo = 0 ∧ mx = none) → K (.bv (mx.elim false (fun m => decide (m = hi))) g sz lo.toNat (hi - lo).toNat))
  | .bv full g sz' o n => (sz = sz' ∧ 0 ≤ lo ∧ lo ≤ hi ∧ hi ≤ n ∧ (∀ m, mx = some m → hi ≤ m ∧ m ≤ n)) ∧ K (.bv (mx.elim (full && decide (hi = n)) (fun m => decide (m = hi))) g sz (o + lo.toNat) (hi - lo).toNat)
  | _ => False
def minmax (isMax : Bool) (x y : AVal) (K : AVal → Prop) : Prop :=
  match x, y with
  | .v (.int k a), .v (.int k' b) => k = k' ∧ K (.v (.int k (if isMax then max a b else min a b)))
  | _, _ => False
def oneOr (x : AVal) : List AVal := match x with | .agg cs => cs | y => [y]
/-- Parts laid into cells. -/
def lay (tm : List (Nat × AVal)) : List AVal → List (Nat × Nat × Operand) → Option (List AVal)
  | cs, [] => some cs
  | cs, (off, n, x) :: r => let p := oneOr (ev tm x); if p.length = n ∧ off + n ≤ cs.length ∧ p.all (·.one) = true then lay tm (cs.take off ++ p ++ cs.drop (off + n)) r else none
def ald (H : AHeap) (ag : Bool) (n : Nat) (x : AVal) (K : AVal → Prop) : Prop :=
  match x with
  | .pl cells => if ag then (n ≤ cells.length ∧ (∀ c ∈ cells.take n, c.one = true)) ∧ K (.agg (cells.take n)) else ∃ c, cells[0]? = some c ∧ K c
  | .v (.pointer (some ⟨b, o, none⟩)) =>
    match H b with
    | some (.cells _ cs) => if ag then o + n ≤ cs.length ∧ K (.agg ((cs.drop o).take n)) else ∃ c, cs[o]? = some c ∧ K c
    | _ => False
  | .bp g sz i k =>
    match H g with
    | some (.buf _ sz' rows) => sz = sz' ∧ ∃ r, rows[i]? = some r ∧ if ag then k + n ≤ r.length ∧ K (.agg ((r.drop k).take n)) else ∃ c, r[k]? = some c ∧ K c
    | _ => False
  | _ => False
def aval (m : AO) (s : AState) (K : AVal → Prop) : Prop :=
  match m with
  | .mv x => K (ev s.tm x)
  | .pick c a b => match ev s.tm c with | .v (.bool t) => (t = true → K (ev s.tm a)) ∧ (t = false → K (ev s.tm b)) | _ => False
  | .bin op cl x y => abin op cl (ev s.tm x) (ev s.tm y) K
  | .un op x => aun op (ev s.tm x) K
  | .cv c x => acv s.H c (ev s.tm x) K
  | .fld ag off n x => match ev s.tm x with | .agg cs => if ag then off + n ≤ cs.length ∧ K (.agg ((cs.drop off).take n)) else ∃ c, cs[off]? = some c ∧ K c | _ => False
  | .fad off n x => match ev s.tm x with
    | .pl cells => off ≤ cells.length ∧ K (.pl (cells.drop off))
    | .v (.pointer (some ⟨b, o, none⟩)) => K (.v (.pointer (some ⟨b, o + off, none⟩)))
    | .bp g sz i k => K (.bp g sz i (k + off))
    | _ => False
  | .ixa sz x i => match ev s.tm x, ev s.tm i with
    | .sl _ sz' rows, .v (.int _ n) => (sz = sz' ∧ 0 ≤ n ∧ n < rows.length) ∧ K (.pl (rows.getD n.toNat []))
    | .bs g sz' len, .v (.int _ n) => (sz = sz' ∧ 0 ≤ n ∧ n < len) ∧ K (.bp g sz n.toNat 0)
    | .bv _ g sz' o len, .v (.int _ n) => (sz = sz' ∧ 0 ≤ n ∧ n < len) ∧ K (.bp g sz (o + n.toNat) 0)
    | _, _ => False
  | .six x i => match ev s.tm x, ev s.tm i with
    | .v (.string t), .v (.int _ n) => (0 ≤ n ∧ n < t.size) ∧ K (.v (.int .u8 ((t.data.toList.getD n.toNat 0).toNat : Int)))
    | _, _ => False
  | .ssl x lo hi => match ev s.tm x with
    | .v (.string t) => bnd s.tm lo 0 fun l => bnd s.tm hi t.size fun h => (0 ≤ l ∧ l ≤ h ∧ h ≤ t.size) ∧ K (.v (.string (t.extract l.toNat h.toNat)))
    | _ => False
  | .lsl sz x lo hi mx => bnd s.tm lo 0 fun l => bnd s.tm hi (lenA (ev s.tm x)) fun h => match mx with
    | none => asl s.H sz (ev s.tm x) l h none K
    | some m => bnd s.tm (some m) 0 fun m => asl s.H sz (ev s.tm x) l h (some m) K
  | .len str x => match str, ev s.tm x with
    | true, .v (.string t) => K (.v (.int .i64 t.size))
    | false, .v (.slice _ n _) => K (.v (.int .i64 n))
    | false, .sl _ _ rows => K (.v (.int .i64 rows.length))
    | false, .bs _ _ n => K (.v (.int .i64 n))
    | false, .bv _ _ _ _ n => K (.v (.int .i64 n))
    | _, _ => False
  | .ext x i => match ev s.tm x with | .tup vs => ∃ c, vs[i]? = some c ∧ K c | _ => False
  | .mm isMax x y => minmax isMax (ev s.tm x) (ev s.tm y) K
  | .bld zero parts => ∃ cs, lay s.tm (zero.map .v) parts = some cs ∧ K (.agg cs)
  | .mkf f caps => K (.fn f (caps.map (ev s.tm)))
  | .mki t x => K (.ifc t (ev s.tm x))
  | .nck x => match ev s.tm x with
    | .v (.pointer (some a)) => K (.v (.pointer (some a)))
    | .pl cells => K (.pl cells)
    | .bp g sz i k => K (.bp g sz i k)
    | .fn f caps => K (.fn f caps)
    | .ifc t y => K (.ifc t y)
    | _ => False
  | .ld ag n x => ald s.H ag n (ev s.tm x) K
  | .lk kc ok z x i => lkside s.H kc (ev s.tm x) (ev s.tm i) ∧ K (lkval s.H ok z (ev s.tm x) (ev s.tm i))
  | .mlen x => isMapA s.H (ev s.tm x) = true ∧ K (.v (.int .i64 (mapA s.H (ev s.tm x)).length))
  | .men x => (mentA s.H (ev s.tm x)).isSome = true ∧ K (menval s.H (ev s.tm x))

/-! ### Out of the program's operations -/
def szOf (P : Program) (t : TypeId) : Option Nat := (P.info? t).map (·.size)
def aggOf (P : Program) (t : TypeId) : Option Bool := (P.underlying t).map (fun d => d.isRow)
def flatKind (P : Program) (t : TypeId) : Option Nat := match P.underlying t with
  | some (.int _) => some 0
  | some .string => some 1
  | some .bool => some 2
  | _ => none
def flatFields (P : Program) : List Field → Nat → Option (List Nat)
  | [], _ => some []
  | f :: r, i => if (f.name == "_") = false ∧ f.offset = i then match flatKind P f.type, flatFields P r (i + 1) with
    | some k, some ks => some (k :: ks)
    | _, _ => none
    else none
def kcOf (P : Program) (t : TypeId) : Option (Option IntKind) := match P.underlying t with
  | some (.int k) => some (some k)
  | some .string => some none
  | _ => none
def clsOf (P : Program) (t : TypeId) : Option Cls :=
  match P.underlying t with
  | some (.int _) | some .string => some .num
  | some .bool => some .bool
  | some (.slice _) => some .slice
  | some (.pointer _) => some .ptr
  | some (.struct fs) => if P.stoodInHeld t = false ∧ P.eqGuardType P.depth t = false then (flatFields P fs.toList 0).map .struct else none
  | _ => none
def cvOf (P : Program) (src dst : TypeId) : Option Cv :=
  match P.underlying src, P.underlying dst with
  | some (.int _), some (.int k) => some (.int k)
  | some (.int _), some .string => some .str
  | some .string, some .string => some .same
  | _, _ => none
def compM (P : Program) : Op → Option AO
  | .move x | .assign x => some (.mv x)
  | .pick c a b => some (.pick c a b)
  | .binOp op t x y _ => match clsOf P t with
    | some .slice | none => none
    | some c => some (.bin op c x y)
  | .unOp op _ x => some (.un op x)
  | .convert s d x => (cvOf P s d).map fun c => .cv c x
  | .field t x i => match P.underlying t with
    | some (.struct fs) => match fs[i]? with
      | some f => match aggOf P f.type, szOf P f.type with
        | some ag, some n => some (.fld ag f.offset n x)
        | _, _ => none
      | none => none
    | _ => none
  | .fieldAddr t x i => match P.underlying t with
    | some (.struct fs) => match fs[i]? with
      | some f => match szOf P f.type with
        | some (n + 1) => some (.fad f.offset (n + 1) x)
        | _ => none
      | none => none
    | _ => none
  | .indexAddr t x i => match P.underlying t with
    | some (.slice e) => (szOf P e).map fun sz => .ixa sz x i
    | _ => none
  | .index t x i => match P.underlying t with
    | some .string => some (.six x i)
    | _ => none
  | .slice t x lo hi mx => match P.underlying t with
    | some .string => if mx.isNone then some (.ssl x lo hi) else none
    | some (.slice e) => if mx.isNone || hi.isSome then (szOf P e).map fun sz => .lsl sz x lo hi mx else none
    | _ => none
  | .call ⟨.builtin .len, args, ts⟩ => match args.toList, ts.toList with
    | [x], [t] => match P.underlying t with
      | some .string => some (.len true x)
      | some (.slice _) => some (.len false x)
      | some (.map _ _) => some (.mlen x)
      | _ => none
    | _, _ => none
  | .lookup t x i ok => match P.underlying t with
    | some (.map k e) => match kcOf P k, (P.info? e).bind (·.zero) with
      | some kc, some z => if z.cells.all (·.oneCell') then some (.lk kc ok z x i) else none
      | _, _ => none
    | _ => none
  | .entry x => some (.men x)
  | .call ⟨.builtin .max, args, _⟩ => match args.toList with
    | [x, y] => some (.mm true x y)
    | _ => none
  | .call ⟨.builtin .min, args, _⟩ => match args.toList with
    | [x, y] => some (.mm false x y)
    | _ => none
  | .extract x i => some (.ext x i)
  | .makeFunc (.func f) first caps => if first.isEmpty then some (.mkf f caps.toList) else none
  | .makeInterface t x => match P.underlying t with
    | some (.interface _) | none => none
    | some _ => some (.mki t x)
  | .nilCheck x => some (.nck x)
  | .load t x => match aggOf P t, szOf P t with
    | some ag, some n => some (.ld ag n x)
    | _, _ => none
  | .build t parts => match P.underlying t, (P.info? t).bind (·.zero) with
    | some (.struct fs), some (.agg zero) => match parts.toList.mapM (fun p => (fs[p.1]?).bind fun f => (szOf P f.type).map fun n => (f.offset, n, p.2)) with
      | some ps => if fs.all (fun f => (szOf P f.type).isSome) && zero.all (·.oneCell') then some (.bld zero.toList ps) else none
      | none => none
    | _, _ => none
  | _ => none
def Quiet (w w' : World) : Prop := w.heap.size ≤ w'.heap.size ∧ ∀ b, b < w.heap.size → w'.heap[b]? = w.heap[b]?
theorem Quiet.refl (w : World) : Quiet w w := ⟨Nat.le_refl _, fun _ _ => rfl⟩
theorem Quiet.trans {a b c : World} (h : Quiet a b) (k : Quiet b c) : Quiet a c := ⟨Nat.le_trans h.1 k.1, fun x hx => (k.2 x (Nat.lt_of_lt_of_le hx h.1)).trans (h.2 x hx)⟩
theorem Quiet.cell {w w' : World} (h : Quiet w w') {b o : Nat} {u : Value} (hc : w.cell? ⟨b, o, none⟩ = some u) : w'.cell? ⟨b, o, none⟩ = some u := by
  have hlt : b < w.heap.size := by
    rcases Nat.lt_or_ge b w.heap.size with hlt | hge
    · exact hlt
    · simp [World.cell?, Array.getElem?_eq_none hge] at hc
  rw [World.cell?_of_block (h.2 b hlt)]; exact hc
/-- An operation's value: in every world in which what stood stands. -/
def Gives (P : Program) (G : World → Prop) (m : Sem Value) (u : Value) : Prop := ∀ w', G w' → m.run P w' = .ok u w'
end Go.Proofs.Ytidicfdcjoggpaa.M
