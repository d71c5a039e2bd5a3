/-
 The abstract machine, run: what is left to do as a list, values as terms, side conditions as they come.
-/
/-
 The abstract machine, run: what is left to do is a list of items; rules by which a run is walked.
-/
/-
 The abstract machine, run: more rules, and plain data as rows.
-/
import Derived.Test.YtfaodacmdlnabaaGreatDoorMI
namespace Go.Proofs.YtfaodacmdlnabaaGreatDoor.M
open Go.RowKit
set_option linter.unusedVariables false
set_option linter.unusedSimpArgs false
variable {P : Program} {W : World}

/-! ### Values and their side conditions -/
def bside (op : BinOp) (cl : Cls) (x y : AVal) : Prop :=
 match cl, x, y with
 | .num, .v (.int k a), .v (.int k' b) => match op with
  | .quo | .rem => k = k' ∧ b ≠ 0
  | .shl | .shr => 0 ≤ b
  | .andNot | .xor => False
  | _ => k = k'
 | .num, .v (.string a), .v (.string b) => match op with
  | .add => a.size + b.size ≤ 9223372036854775807
  | .eql | .neq | .lss | .leq | .gtr | .geq => True
  | _ => False
 | .bool, .v (.bool _), .v (.bool _) => match op with
  | .eql | .neq => True
  | _ => False
 | .slice, .bs _ _ _, .v (.slice none _ _) | .slice, .bv _ _ _ _ _, .v (.slice none _ _) | .slice, .v (.slice none _ _), .v (.slice none _ _) => match op with
  | .eql | .neq => True
  | _ => False
 | .ptr, .v (.pointer _), .v (.pointer none) => match op with
  | .eql | .neq => True
  | _ => False
 | .struct ks, x, y => match op with
  | .eql | .neq => (steq ks x y).isSome = true
  | _ => False
 | _, _, _ => False
def bval (op : BinOp) (cl : Cls) (x y : AVal) : AVal :=
 match cl, x, y with
 | .num, .v (.int k a), .v (.int k' b) => match op with
  | .add => .v (.int k (k.wrap (a + b)))
  | .sub => .v (.int k (k.wrap (a - b)))
  | .mul => .v (.int k (k.wrap (a * b)))
  | .quo => .v (.int k (k.wrap (a.tdiv b)))
  | .rem => .v (.int k (a.tmod b))
  | .shl => .v (.int k (k.wrap (a * 2 ^ (min b.toNat k.bits))))
  | .shr => .v (.int k (a.fdiv (2 ^ (min b.toNat k.bits))))
  | .eql => .v (.bool (decide (a = b)))
  | .neq => .v (.bool (decide (a ≠ b)))
  | .lss => .v (.bool (decide (a < b)))
  | .leq => .v (.bool (decide (a ≤ b)))
  | .gtr => .v (.bool (decide (b < a)))
  | .geq => .v (.bool (decide (b ≤ a)))
  | .or => .v (.int k (k.wrap ((BitVec.ofInt k.bits a ||| BitVec.ofInt k.bits b).toNat : Int)))
  | .and => .v (.int k (k.wrap ((BitVec.ofInt k.bits a &&& BitVec.ofInt k.bits b).toNat : Int)))
  | _ => .any
 | .num, .v (.string a), .v (.string b) => match op with
  | .add => .v (.string (a ++ b))
  | .eql => .v (.bool (decide (a = b)))
  | .neq => .v (.bool (decide (a ≠ b)))
  | .lss => .v (.bool (strLt a b))
  | .leq => .v (.bool (strLt a b || decide (a = b)))
  | .gtr => .v (.bool (!(strLt a b || decide (a = b))))
  | .geq => .v (.bool (!strLt a b))
  | _ => .any
 | .bool, .v (.bool a), .v (.bool b) => match op with
  | .eql => .v (.bool (a == b))
  | .neq => .v (.bool (a != b))
  | _ => .any
 | .slice, .bs _ _ _, _ | .slice, .bv _ _ _ _ _, _ => match op with
  | .eql => .v (.bool false)
  | _ => .v (.bool true)
 | .slice, .v (.slice none _ _), _ => match op with
  | .eql => .v (.bool true)
  | _ => .v (.bool false)
 | .ptr, .v (.pointer a), _ => match op with
  | .eql => .v (.bool a.isNone)
  | _ => .v (.bool a.isSome)
 | .struct ks, x, y => match op with
  | .eql => .v (.bool ((steq ks x y).getD false))
  | _ => .v (.bool (!(steq ks x y).getD false))
 | _, _, _ => .any
theorem abin_of {op : BinOp} {cl : Cls} {x y : AVal} {K : AVal → Prop} (h : bside op cl x y) (hk : K (bval op cl x y)) : abin op cl x y K := by
 unfold bside at h
 split at h
 ·cases op <;> simp_all [abin, bval]
 ·cases op <;> simp_all [abin, bval]
 ·cases op <;> simp_all [abin, bval]
 ·cases op <;> simp_all [abin, bval]
 ·cases op <;> simp_all [abin, bval]
 ·cases op <;> simp_all [abin, bval]
 ·cases op <;> simp_all [abin, bval]
 ·rename_i ks x y
  cases op <;> simp only [] at h <;> first | exact h.elim | skip
  all_goals
   obtain ⟨b, hb⟩ := Option.isSome_iff_exists.1 h
   refine ⟨b, hb, ?_⟩
   simpa [bval, hb] using hk
 ·exact h.elim
def uside (op : UnOp) (x : AVal) : Prop := match op, x with
 | .not, .v (.bool _) | .neg, .v (.int _ _) => True
 | _, _ => False
def uval (op : UnOp) (x : AVal) : AVal := match op, x with
 | .not, .v (.bool b) => .v (.bool !b)
 | .neg, .v (.int k n) => .v (.int k (k.wrap (0 - n)))
 | _, _ => .any
def cside (c : Cv) (x : AVal) : Prop := match c, x with
 | .int _, .v (.int _ _) | .str, .v (.int _ _) | .same, .v (.string _) => True
 | _, _ => False
def cval (c : Cv) (x : AVal) : AVal := match c, x with
 | .int k, .v (.int _ n) => .v (.int k (k.wrap n))
 | .str, .v (.int _ n) => .v (.string (Utf8.encode n))
 | .same, .v (.string s) => .v (.string s)
 | _, _ => .any
def intA : AVal → Int
 | .v (.int _ n) => n
 | _ => 0
def isInt : AVal → Bool
 | .v (.int _ _) => true
 | _ => false
def bndS (tm : List (Nat × AVal)) (o : Option Operand) : Prop := match o with
 | none => True
 | some x => isInt (ev tm x) = true
def bndV (tm : List (Nat × AVal)) (o : Option Operand) (d : Int) : Int := match o with
 | none => d
 | some x => intA (ev tm x)
theorem bnd_of {tm : List (Nat × AVal)} {o : Option Operand} {d : Int} {K : Int → Prop} (h : bndS tm o) (hk : K (bndV tm o d)) : bnd tm o d K := by
 unfold bndS at h
 unfold bnd
 cases o with
 | none => exact hk
 | some x =>
  simp only at h ⊢
  unfold isInt at h
  split at h
  ·rename_i e
   rw [bndV, e] at hk
   rw [e]; exact hk
  ·cases h
def lside (H : AHeap) (ag : Bool) (n : Nat) (x : AVal) : Prop :=
 match x with
 | .pl cells => match ag with
  | true => n ≤ cells.length ∧ (cells.take n).all (·.one) = true
  | false => 0 < cells.length
 | .v (.pointer (some ⟨b, o, none⟩)) => match H b with
  | some (.cells _ cs) => match ag with
   | true => o + n ≤ cs.length
   | false => o < cs.length
  | _ => False
 | .bp g sz i k => match H g with
  | some (.buf _ sz' rows) => sz = sz' ∧ i < rows.length ∧ match ag with
   | true => k + n ≤ (rows.getD i []).length
   | false => k < (rows.getD i []).length
  | _ => False
 | _ => False
def lval (H : AHeap) (ag : Bool) (n : Nat) (x : AVal) : AVal :=
 match x with
 | .pl cells => match ag with
  | true => .agg (cells.take n)
  | false => cells.getD 0 .any
 | .v (.pointer (some ⟨b, o, none⟩)) => match H b with
  | some (.cells _ cs) => match ag with
   | true => .agg ((cs.drop o).take n)
   | false => cs.getD o .any
  | _ => .any
 | .bp g _ i k => match H g with
  | some (.buf _ _ rows) => match ag with
   | true => .agg (((rows.getD i []).drop k).take n)
   | false => (rows.getD i []).getD k .any
  | _ => .any
 | _ => .any
theorem getD_some {α : Type} {l : List α} {i : Nat} (h : i < l.length) (d : α) : l[i]? = some (l.getD i d) := by simp [h]
theorem ald_of {H : AHeap} {ag : Bool} {n : Nat} {x : AVal} {K : AVal → Prop} (h : lside H ag n x) (hk : K (lval H ag n x)) : ald H ag n x K := by
 unfold lside at h
 split at h
 ·cases ag with
  | true => exact ⟨⟨h.1, fun c hc => List.all_eq_true.1 h.2 c hc⟩, hk⟩
  | false => exact ⟨_, getD_some h .any, hk⟩
 ·split at h
  ·rename_i e
   simp only [ald, e]
   simp only [lval, e] at hk
   cases ag with
   | true => exact ⟨h, hk⟩
   | false => exact ⟨_, getD_some h .any, hk⟩
  ·exact h.elim
 ·split at h
  ·rename_i e
   simp only [ald, e]
   simp only [lval, e] at hk
   obtain ⟨h1, h2, h3⟩ := h
   refine ⟨h1, _, getD_some h2 [], ?_⟩
   cases ag with
   | true => exact ⟨h3, hk⟩
   | false => exact ⟨_, getD_some h3 .any, hk⟩
  ·exact h.elim
 ·exact h.elim
def fside (ag : Bool) (off n : Nat) (x : AVal) : Prop := match x with
 | .agg cs => match ag with
  | true => off + n ≤ cs.length
  | false => off < cs.length
 | _ => False
def fval (ag : Bool) (off n : Nat) (x : AVal) : AVal := match x with
 | .agg cs => match ag with
  | true => .agg ((cs.drop off).take n)
  | false => cs.getD off .any
 | _ => .any
def faside (off : Nat) (x : AVal) : Prop := match x with
 | .pl cells => off ≤ cells.length
 | .v (.pointer (some ⟨_, _, none⟩)) | .bp _ _ _ _ => True
 | _ => False
def faval (off : Nat) (x : AVal) : AVal := match x with
 | .pl cells => .pl (cells.drop off)
 | .v (.pointer (some ⟨b, o, none⟩)) => .v (.pointer (some ⟨b, o + off, none⟩))
 | .bp g sz i k => .bp g sz i (k + off)
 | _ => .any
def iside (sz : Nat) (x i : AVal) : Prop := match x, i with
 | .sl _ sz' rows, .v (.int _ n) => sz = sz' ∧ 0 ≤ n ∧ n < rows.length
 | .bs _ sz' len, .v (.int _ n) => sz = sz' ∧ 0 ≤ n ∧ n < len
 | .bv _ _ sz' _ len, .v (.int _ n) => sz = sz' ∧ 0 ≤ n ∧ n < len
 | _, _ => False
def ival (sz : Nat) (x i : AVal) : AVal := match x, i with
 | .sl _ _ rows, .v (.int _ n) => .pl (rows.getD n.toNat [])
 | .bs g _ _, .v (.int _ n) => .bp g sz n.toNat 0
 | .bv _ g _ o _, .v (.int _ n) => .bp g sz (o + n.toNat) 0
 | _, _ => .any
def sxside (x i : AVal) : Prop := match x, i with
 | .v (.string t), .v (.int _ n) => 0 ≤ n ∧ n < t.size
 | _, _ => False
/-- The byte at a place. -/
def bt (t : ByteArray) (n : Int) : Int := ((t.data.toList.getD n.toNat 0).toNat : Int)
def sxval (x i : AVal) : AVal := match x, i with
 | .v (.string t), .v (.int _ n) => .v (.int .u8 (bt t n))
 | _, _ => .any
def sizeA : AVal → Int
 | .v (.string t) => t.size
 | _ => 0
/-- A part of a text. -/
def cutS (t : ByteArray) (l h : Int) : ByteArray := t.extract l.toNat h.toNat
def slside (x : AVal) (l h : Int) : Prop := match x with
 | .v (.string t) => 0 ≤ l ∧ l ≤ h ∧ h ≤ t.size
 | _ => False
def slval (x : AVal) (l h : Int) : AVal := match x with
 | .v (.string t) => .v (.string (cutS t l h))
 | _ => .any
def llside (sz : Nat) (x : AVal) (lo hi : Int) : Prop := match x with
 | .sl _ sz' rows => sz = sz' ∧ 0 ≤ lo ∧ lo ≤ hi ∧ hi ≤ rows.length
 | .v (.slice none 0 0) => lo = 0 ∧ hi = 0
 | .bs _ sz' n => sz = sz' ∧ 0 ≤ lo ∧ lo ≤ hi ∧ hi ≤ n
 | .bv _ _ sz' _ n => sz = sz' ∧ 0 ≤ lo ∧ lo ≤ hi ∧ hi ≤ n
 | _ => False
def llval (sz : Nat) (x : AVal) (lo hi : Int) : AVal := match x with
 | .sl full _ rows => .sl (full && decide (hi = rows.length)) sz ((rows.take hi.toNat).drop lo.toNat)
 | .v (.slice none 0 0) => .v (.slice none 0 0)
 | .bs g _ _ => if lo = 0 then .bs g sz hi.toNat else .bv false g sz lo.toNat (hi - lo).toNat
 | .bv full g _ o n => .bv (full && decide (hi = n)) g sz (o + lo.toNat) (hi - lo).toNat
 | _ => .any
theorem asl_of {H : AHeap} {sz : Nat} {x : AVal} {lo hi : Int} {K : AVal → Prop} (h : llside sz x lo hi) (hk : K (llval sz x lo hi)) : asl H sz x lo hi none K := by
 unfold llside at h
 split at h
 ·exact ⟨⟨h.1, h.2.1, h.2.2.1, h.2.2.2, fun m hm => by cases hm⟩, hk⟩
 ·exact ⟨⟨h.1, h.2, fun m hm => by cases hm⟩, hk⟩
 ·simp only [llval] at hk
  refine ⟨⟨h.1, h.2.1, h.2.2.1, h.2.2.2, fun m hm => by cases hm⟩, fun e => ?_, fun e => ?_⟩
  ·rw [if_pos e.1] at hk; exact hk
  ·rw [if_neg (fun e2 => e ⟨e2, rfl⟩)] at hk; exact hk
 ·exact ⟨⟨h.1, h.2.1, h.2.2.1, h.2.2.2, fun m hm => by cases hm⟩, hk⟩
 ·exact h.elim
def lenside (str : Bool) (x : AVal) : Prop := match str, x with
 | true, .v (.string _) | false, .v (.slice _ _ _) | false, .sl _ _ _ | false, .bs _ _ _ | false, .bv _ _ _ _ _ => True
 | _, _ => False
def lenval (str : Bool) (x : AVal) : AVal := match str with
 | true => .v (.int .i64 (sizeA x))
 | false => .v (.int .i64 (lenA x))
def tupA : AVal → List AVal
 | .tup vs => vs
 | _ => []
def mmside (x y : AVal) : Prop := match x, y with
 | .v (.int k _), .v (.int k' _) => k = k'
 | _, _ => False
def mmval (isMax : Bool) (x y : AVal) : AVal := match x, y with
 | .v (.int k a), .v (.int _ b) => .v (.int k (match isMax with | true => max a b | false => min a b))
 | _, _ => .any
def nkside : AVal → Prop
 | .v (.pointer (some _)) | .pl _ | .bp _ _ _ _ | .fn _ _ | .bm _ _ | .ifc _ _ => True
 | _ => False
def isnside : AVal → Prop
 | .v .nilIface | .ifc _ _ => True
 | _ => False
def isnval (ne : Bool) : AVal → AVal
 | .v .nilIface => .v (.bool (!ne))
 | .ifc _ _ => .v (.bool ne)
 | _ => .any
def xaside (len n : Nat) (x i : AVal) : Prop := match i with
 | .v (.int _ j) => (0 ≤ j ∧ j < (len : Int)) ∧ match x with
  | .pl cells => j.toNat * n ≤ cells.length
  | .v (.pointer (some ⟨_, _, none⟩)) => True
  | .bp _ _ _ _ => True
  | _ => False
 | _ => False
def xaval (n : Nat) (x i : AVal) : AVal := match i with
 | .v (.int _ j) => match x with
  | .pl cells => .pl (cells.drop (j.toNat * n))
  | .v (.pointer (some ⟨b, o, none⟩)) => .v (.pointer (some ⟨b, o + j.toNat * n, none⟩))
  | .bp g sz i k => .bp g sz i (k + j.toNat * n)
  | _ => .any
 | _ => .any
def aixside (ag : Bool) (len n : Nat) (x i : AVal) : Prop := match i with
 | .v (.int _ j) => (0 ≤ j ∧ j < (len : Int)) ∧ fside ag (j.toNat * n) n x
 | _ => False
def tasval (t : TypeId) (z : Value) (x : AVal) : AVal := match x with
 | .ifc t' y => if t' = t then .tup [y, .v (.bool true)] else .tup [zeroA z, .v (.bool false)]
 | _ => .tup [zeroA z, .v (.bool false)]
def boolA : AVal → Bool
 | .v (.bool b) => b
 | _ => false
def isBool : AVal → Bool
 | .v (.bool _) => true
 | _ => false
def side (m : AO) (s : AState) : Prop :=
 match m with
 | .mv _ => True
 | .pick c _ _ => isBool (ev s.tm c) = true
 | .bin op cl x y => bside op cl (ev s.tm x) (ev s.tm y)
 | .un op x => uside op (ev s.tm x)
 | .cv c x => cside c (ev s.tm x)
 | .fld ag off n x => fside ag off n (ev s.tm x)
 | .fad off _ x => faside off (ev s.tm x)
 | .ixa sz x i => iside sz (ev s.tm x) (ev s.tm i)
 | .six x i => sxside (ev s.tm x) (ev s.tm i)
 | .ssl x lo hi => bndS s.tm lo ∧ bndS s.tm hi ∧ slside (ev s.tm x) (bndV s.tm lo 0) (bndV s.tm hi (sizeA (ev s.tm x)))
 | .lsl sz x lo hi none => bndS s.tm lo ∧ bndS s.tm hi ∧ llside sz (ev s.tm x) (bndV s.tm lo 0) (bndV s.tm hi (lenA (ev s.tm x)))
 | .lsl _ _ _ _ (some _) => False
 | .len str x => lenside str (ev s.tm x)
 | .ext x i => i < (tupA (ev s.tm x)).length
 | .mm _ x y => mmside (ev s.tm x) (ev s.tm y)
 | .bld zero parts => (lay s.tm (zero.map .v) parts).isSome = true
 | .mkf _ _ => True
 | .mki _ _ => True
 | .mkb _ _ => True
 | .xad len n x i => xaside len n (ev s.tm x) (ev s.tm i)
 | .aix ag len n x i => aixside ag len n (ev s.tm x) (ev s.tm i)
 | .tas _ _ x => isnside (ev s.tm x)
 | .nck x => nkside (ev s.tm x)
 | .isn _ x => isnside (ev s.tm x)
 | .ld ag n x => lside s.H ag n (ev s.tm x)
 | .lk kc _ _ x i => lkside s.H kc (ev s.tm x) (ev s.tm i)
 | .mlen x => isMapA s.H (ev s.tm x) = true
 | .men x => (mentA s.H (ev s.tm x)).isSome = true
def val (m : AO) (s : AState) : AVal :=
 match m with
 | .mv x => ev s.tm x
 | .pick c a b => match boolA (ev s.tm c) with | true => ev s.tm a | false => ev s.tm b
 | .bin op cl x y => bval op cl (ev s.tm x) (ev s.tm y)
 | .un op x => uval op (ev s.tm x)
 | .cv c x => cval c (ev s.tm x)
 | .fld ag off n x => fval ag off n (ev s.tm x)
 | .fad off _ x => faval off (ev s.tm x)
 | .ixa sz x i => ival sz (ev s.tm x) (ev s.tm i)
 | .six x i => sxval (ev s.tm x) (ev s.tm i)
 | .ssl x lo hi => slval (ev s.tm x) (bndV s.tm lo 0) (bndV s.tm hi (sizeA (ev s.tm x)))
 | .lsl sz x lo hi _ => llval sz (ev s.tm x) (bndV s.tm lo 0) (bndV s.tm hi (lenA (ev s.tm x)))
 | .len str x => lenval str (ev s.tm x)
 | .ext x i => (tupA (ev s.tm x)).getD i .any
 | .mm b x y => mmval b (ev s.tm x) (ev s.tm y)
 | .bld zero parts => .agg ((lay s.tm (zero.map .v) parts).getD [])
 | .mkf f caps => .fn f (caps.map (ev s.tm))
 | .mki t x => .ifc t (ev s.tm x)
 | .mkb f xs => .bm f (xs.map (ev s.tm))
 | .xad _ n x i => xaval n (ev s.tm x) (ev s.tm i)
 | .aix ag _ n x i => fval ag ((intA (ev s.tm i)).toNat * n) n (ev s.tm x)
 | .tas t z x => tasval t z (ev s.tm x)
 | .nck x => ev s.tm x
 | .isn ne x => isnval ne (ev s.tm x)
 | .ld ag n x => lval s.H ag n (ev s.tm x)
 | .lk _ ok z x i => lkval s.H ok z (ev s.tm x) (ev s.tm i)
 | .mlen x => .v (.int .i64 (mapA s.H (ev s.tm x)).length)
 | .men x => menval s.H (ev s.tm x)
theorem aval_of {m : AO} {s : AState} {K : AVal → Prop} (h : side m s) (hk : K (val m s)) : aval m s K := by
 cases m with
 | mv x => exact hk
 | pick c x y =>
  simp only [side, isBool] at h
  simp only [val, boolA] at hk
  simp only [aval]
  split at h
  ·rename_i b e
   rw [e] at hk
   rw [e]
   simp only at hk ⊢
   cases b
   ·exact ⟨(fun e => by cases e), fun _ => hk⟩
   ·exact ⟨fun _ => hk, (fun e => by cases e)⟩
  ·cases h
 | bin op cl x y => exact abin_of h hk
 | un op x =>
  simp only [side, uside] at h
  simp only [val, uval] at hk
  simp only [aval, aun]
  split at h <;> simp_all
 | cv c x =>
  simp only [side, cside] at h
  simp only [val, cval] at hk
  simp only [aval, acv]
  split at h <;> simp_all
 | fld ag off n x =>
  simp only [side, fside] at h
  simp only [val, fval] at hk
  simp only [aval]
  split at h
  ·rename_i e
   rw [e] at hk
   rw [e]
   cases ag with
   | true => exact ⟨h, hk⟩
   | false => exact ⟨_, getD_some h .any, hk⟩
  ·exact h.elim
 | fad off n x =>
  simp only [side, faside] at h
  simp only [val, faval] at hk
  simp only [aval]
  split at h <;> simp_all
 | ixa sz x i =>
  simp only [side, iside] at h
  simp only [val, ival] at hk
  simp only [aval]
  split at h <;> simp_all
 | six x i =>
  simp only [side, sxside] at h
  simp only [val, sxval] at hk
  simp only [aval]
  split at h <;> simp_all [bt]
 | ssl x lo hi =>
  simp only [side, slside] at h
  simp only [val, slval] at hk
  simp only [aval]
  obtain ⟨h1, h2, h3⟩ := h
  split at h3
  ·rename_i e
   rw [e] at hk
   rw [e]
   refine bnd_of h1 ?_
   refine bnd_of h2 ?_
   simp only [e, sizeA] at h3 hk
   exact ⟨h3, hk⟩
  ·exact h3.elim
 | lsl sz x lo hi mx =>
  cases mx with
  | none => obtain ⟨h1, h2, h3⟩ := h; simp only [aval]; refine bnd_of h1 ?_; refine bnd_of h2 ?_; exact asl_of h3 hk
  | some m => exact h.elim
 | len str x =>
  simp only [side, lenside] at h
  simp only [val, lenval] at hk
  simp only [aval]
  split at h <;> simp_all [sizeA, lenA]
 | ext x i =>
  simp only [side] at h
  simp only [val] at hk
  simp only [aval]
  unfold tupA at h hk
  split at h
  ·rename_i vs e
   rw [e] at hk
   rw [e]
   exact ⟨_, getD_some h .any, hk⟩
  ·simp at h
 | mm b x y =>
  simp only [side, mmside] at h
  simp only [val, mmval] at hk
  simp only [aval, minmax]
  split at h
  ·rename_i e1 e2
   rw [e1, e2] at hk
   rw [e1, e2]
   refine ⟨h, ?_⟩
   cases b <;> exact hk
  ·exact h.elim
 | bld zero parts =>
  obtain ⟨cs, hcs⟩ := Option.isSome_iff_exists.1 h
  simp only [val, hcs, Option.getD_some] at hk
  exact ⟨cs, hcs, hk⟩
 | mkf f caps => exact hk
 | mki t x => exact hk
 | mkb f xs => exact hk
 | xad len n x i =>
  simp only [side, xaside] at h
  simp only [val, xaval] at hk
  simp only [aval]
  split at h
  ·rename_i e2
   rw [e2] at hk
   rw [e2]
   refine ⟨h.1, ?_⟩
   have h := h.2
   split at h <;> simp_all
  ·exact h.elim
 | aix ag len n x i =>
  simp only [side, aixside] at h
  simp only [val] at hk
  simp only [aval]
  split at h
  ·rename_i e2
   rw [e2] at hk
   rw [e2]
   refine ⟨h.1, ?_⟩
   have h := h.2
   simp only [fside] at h
   split at h
   ·rename_i cs e
    rw [e] at hk
    rw [e]
    cases ag with
    | true => exact ⟨h, hk⟩
    | false => exact ⟨_, getD_some h .any, hk⟩
   ·exact h.elim
  ·exact h.elim
 | tas t z x =>
  simp only [side, isnside] at h
  simp only [val, tasval] at hk
  simp only [aval]
  split at h
  ·rename_i e
   rw [e] at hk ⊢
   exact hk
  ·rename_i t' y e
   rw [e] at hk ⊢
   have hk : K (if t' = t then .tup [y, .v (.bool true)] else .tup [zeroA z, .v (.bool false)]) := hk
   exact ⟨fun e2 => by rw [if_pos e2] at hk; exact hk, fun e2 => by rw [if_neg e2] at hk; exact hk⟩
  ·exact h.elim
 | isn ne x =>
  simp only [side, isnside] at h
  simp only [val, isnval] at hk
  simp only [aval]
  split at h <;> simp_all
 | nck x =>
  simp only [side, nkside] at h
  simp only [val] at hk
  simp only [aval]
  split at h <;> simp_all
 | ld ag n x => exact ald_of h hk
 | lk kc ok z x i => exact ⟨h, hk⟩
 | mlen x => exact ⟨h, hk⟩
 | men x => exact ⟨h, hk⟩
end Go.Proofs.YtfaodacmdlnabaaGreatDoor.M
namespace Go.Proofs.YtfaodacmdlnabaaGreatDoor.M
open Go.RowKit
set_option linter.unusedVariables false
set_option linter.unusedSimpArgs false
variable {P : Program} {W : World}

theorem ast_mono {H : AHeap} {n : Nat} {x : AVal} {p : List AVal} {K K' : AHeap → Prop} (hk : ∀ H, K H → K' H) (h : ast H n x p K) : ast H n x p K' := by
 obtain ⟨h0, h⟩ := h
 refine ⟨h0, ?_⟩
 split at h
 ·split at h
  ·exact ⟨h.1, hk _ h.2⟩
  ·exact h.elim
 ·split at h
  ·obtain ⟨h1, r, h2, h3, h4⟩ := h; exact ⟨h1, r, h2, h3, hk _ h4⟩
  ·exact h.elim
 ·exact h.elim
theorem aapp_mono {H : AHeap} {E sz b : Nat} {x : AVal} {new : List (List AVal)} {K K' : AVal → AHeap → Prop} (hk : ∀ r H, K r H → K' r H) (h : aapp H E sz b x new K) : aapp H E sz b x new K' := by
 obtain ⟨h0, h⟩ := h
 refine ⟨fun e => ⟨(h0 e).1, hk _ _ (h0 e).2⟩, fun e => ?_⟩
 have h := h e
 split at h
 ·exact ⟨h.1, fun g hg => hk _ _ (h.2 g hg)⟩
 ·exact ⟨h.1, fun g hg => hk _ _ (h.2 g hg)⟩
 ·split at h
  ·exact ⟨h.1, fun g hg => hk _ _ (h.2 g hg)⟩
  ·exact h.elim
 ·split at h
  ·exact ⟨h.1, fun g hg => hk _ _ (h.2 g hg)⟩
  ·exact h.elim
 ·exact h.elim
theorem mapped_mono {H : AHeap} {x : AVal} {K K' : Nat → List (Value × Nat × AVal) → Nat → Prop} (hk : ∀ b l c, K b l c → K' b l c) (h : mapped H x K) : mapped H x K' := by
 unfold mapped at h ⊢
 split at h <;> try exact h.elim
 split at h <;> try exact h.elim
 exact hk _ _ _ h
theorem aeff_mono {m : AE} {d : Option Nat} {s : AState} {K K' : AState → Prop} (hk : ∀ s, K s → K' s) (h : aeff P W m d s K) : aeff P W m d s K' := by
 cases m with
 | alloc E z => exact fun b hb => hk _ (h b hb)
 | box E x => exact ⟨h.1, fun b hb => hk _ (h.2 b hb)⟩
 | bsl E sz xs => exact ⟨h.1, hk _ h.2⟩
 | st n x y => exact ast_mono (K := fun H' => K ((⟨s.tm, H'⟩ : AState).put d .any)) (fun _ h => hk _ h) h
 | app E sz b str x y => obtain ⟨new, h1, h2⟩ := h; exact ⟨new, h1, aapp_mono (fun _ _ h => hk _ h) h2⟩
 | appq E sz b str x y => obtain ⟨h0, new, h1, h2⟩ := h; exact ⟨h0, new, h1, aapp_mono (fun _ _ h => hk _ h) h2⟩
 | s2b E x =>
  simp only [aeff] at h ⊢
  split at h
  ·exact ⟨h.1, fun b hb => hk _ (h.2 b hb)⟩
  ·exact h.elim
 | b2s x => obtain ⟨h1, rows, bs, h2, h3, h4⟩ := h; exact ⟨h1, rows, bs, h2, h3, hk _ h4⟩
 | call f xs => obtain ⟨s1, hw, h⟩ := h; exact ⟨s1, hw, ACalls.mono h (fun _ _ h => hk _ h)⟩
 | callq f xs => obtain ⟨ys, hz, h⟩ := h; exact ⟨ys, hz, ACalls.mono h (fun _ _ h => ⟨h.1, hk _ h.2⟩)⟩
 | callv x xs =>
  simp only [aeff] at h ⊢
  split at h
  ·exact ⟨h.1, ACalls.mono h.2 (fun _ _ h => hk _ h)⟩
  ·exact ⟨h.1, ACalls.mono h.2 (fun _ _ h => hk _ h)⟩
  ·exact h.elim
 | inv m x xs =>
  simp only [aeff] at h ⊢
  split at h
  ·obtain ⟨f, h1, h2, h3⟩ := h
   exact ⟨f, h1, h2, ACalls.mono h3 (fun _ _ h => hk _ h)⟩
  ·exact h.elim
 | sla n x =>
  simp only [aeff] at h ⊢
  split at h
  ·split at h
   ·exact ⟨h.1, hk _ h.2⟩
   ·exact h.elim
  ·exact h.elim
 | mk => exact fun b hb => hk _ (h b hb)
 | up kc x i v => exact mapped_mono (fun b l c h => ⟨h.1, hk _ h.2⟩) h
 | del kc x i => exact mapped_mono (fun b l c h => ⟨h.1, hk _ h.2⟩) h
 | rg x => exact mapped_mono (fun b l c h r hr => hk _ (h r hr)) h
 | nx x =>
  simp only [aeff] at h ⊢
  split at h <;> try exact h.elim
  split at h <;> try exact h.elim
  split at h <;> try exact h.elim
  exact ⟨h.1, fun e => hk _ (h.2.1 e), fun e he hs => hk _ (h.2.2 e he hs)⟩
 | srg x =>
  simp only [aeff] at h ⊢
  split at h <;> try exact h.elim
  exact fun r hr => hk _ (h r hr)
 | snx x =>
  simp only [aeff] at h ⊢
  split at h <;> try exact h.elim
  split at h <;> try exact h.elim
  exact ⟨fun e => hk _ (h.1 e), fun e => hk _ (h.2 e)⟩
 | niq neg x =>
  simp only [aeff, niqA] at h ⊢
  split at h
  ·exact fun t ht => hk _ (h t ht)
  ·exact hk _ h
  ·exact hk _ h
  ·exact hk _ h
  ·exact h.elim
 | mks E b z x =>
  simp only [aeff] at h ⊢
  split at h
  ·exact ⟨h.1, fun g hg => hk _ (h.2 g hg)⟩
  ·exact h.elim
 | cpy sz x y =>
  simp only [aeff] at h ⊢
  split at h <;> try exact h.elim
  split at h <;> try exact h.elim
  obtain ⟨new, h1, h2, h3⟩ := h
  exact ⟨new, h1, h2, hk _ h3⟩
 | me kc z x i => exact mapped_mono (fun b l c h => ⟨h.1, hk _ h.2⟩) h
 | es x n v => exact mapped_mono (fun b l c h => by
   split at h
   ·exact ⟨h.1, hk _ h.2⟩
   ·exact h.elim) h
/-- An operation, run. -/
def rac (P : Program) (W : World) (a : Act1) (d : Option Nat) (s : AState) (F : AState → Prop) : Prop :=
 match a with
 | .q m => side m s ∧ F (s.put d (val m s))
 | .e m => aeff P W m d s F
def rops (P : Program) (W : World) : List AOper → AState → (AState → Prop) → Prop
 | [], s, K => K s
 | o :: r, s, K => guarded o.guard s (rac P W o.act o.dst s fun s' => rops P W r s' K) (rops P W r (s.put o.dst (.v undef)) K)
theorem guarded_mono {g : Option (Nat × Bool)} {s : AState} {A B A' B' : Prop} (ha : A → A') (hb : B → B') (h : guarded g s A B) : guarded g s A' B' := by
 unfold guarded at h ⊢
 split at h
 ·exact ha h
 ·split at h
  ·exact ⟨fun e => ha (h.1 e), fun e => hb (h.2 e)⟩
  ·exact hb h
  ·exact h.elim
theorem aops_of : ∀ (l : List AOper) (s : AState) (K K' : AState → Prop), (∀ s, K s → K' s) → rops P W l s K → aops P W l s K'
 | [], s, K, K', hk, h => hk _ h
 | o :: r, s, K, K', hk, h => by
  refine guarded_mono (fun h => ?_) (fun h => aops_of r _ K K' hk h) h
  unfold rac at h
  unfold astep
  cases ha : o.act with
  | q m => rw [ha] at h; exact aval_of h.1 (aops_of r _ K K' hk h.2)
  | e m => rw [ha] at h; exact aeff_mono (fun s h => aops_of r s K K' hk h) h
def rwp (P : Program) (W : World) : ACode → (Exit → AState → Prop) → AState → Prop
 | .skip, Q, s => Q .normal s
 | .ops l, Q, s => rops P W l s (Q .normal)
 | .seq x y, Q, s => rwp P W x (thenA (rwp P W y Q) Q) s
 | .both x y, Q, s => rwp P W x Q s ∧ rwp P W y Q s
 | .cond c x y, Q, s => match ev s.tm c with
  | .v (.bool t) => (t = true → rwp P W x Q s) ∧ (t = false → rwp P W y Q s)
  | _ => False
 | .block id x, Q, s => rwp P W x (blockA id Q) s
 | .loop x, Q, s => ∃ (I : Nat → AState → Prop), (∃ n s0, Weak s s0 ∧ I n s0) ∧ ∀ n s1, I n s1 → rwp P W x (thenA (fun s2 => ∃ k s3, k < n ∧ Weak s2 s3 ∧ I k s3) Q) s1
 | .exit id, Q, s => Q (.exit id) s
 | .ret, Q, s => Q .ret s
 | .scope x, Q, s => rwp P W x (noGotoA Q) s
 | .label _, Q, s => Q .normal s
 | .goto l, Q, s => Q (.goto l) s
 | .jumps l1 l2 x y z, Q, s => ∃ (J1 J2 : Nat → AState → Prop),
   rwp P W x (jumpA l1 l2 (fun s2 => ∃ k s3, Weak s2 s3 ∧ J1 k s3) (fun s2 => ∃ k s3, Weak s2 s3 ∧ J2 k s3) Q) s ∧
   (∀ n s1, J1 n s1 → rwp P W y (jumpA l1 l2 (fun s2 => ∃ k s3, k < n ∧ Weak s2 s3 ∧ J1 k s3) (fun s2 => ∃ k s3, k < n ∧ Weak s2 s3 ∧ J2 k s3) Q) s1) ∧
   (∀ n s1, J2 n s1 → rwp P W z (jumpA l1 l2 (fun s2 => ∃ k s3, k < n ∧ Weak s2 s3 ∧ J1 k s3) (fun s2 => ∃ k s3, k < n ∧ Weak s2 s3 ∧ J2 k s3) Q) s1)
theorem noGotoA_mono {Q Q' : Exit → AState → Prop} (hq : ∀ e s, Q e s → Q' e s) : ∀ e s, noGotoA Q e s → noGotoA Q' e s := fun e s h => by
 cases e <;> first | exact h.elim | exact hq _ _ h
theorem jumpA_mono {l1 l2 : Nat} {G1 G2 : AState → Prop} {Q Q' : Exit → AState → Prop} (hq : ∀ e s, Q e s → Q' e s) : ∀ e s, jumpA l1 l2 G1 G2 Q e s → jumpA l1 l2 G1 G2 Q' e s := fun e s h => by
 cases e <;> first | exact hq _ _ h | exact h
theorem rac_mono {a : Act1} {d : Option Nat} {s : AState} {K K' : AState → Prop} (hk : ∀ s, K s → K' s) (h : rac P W a d s K) : rac P W a d s K' := by
 unfold rac at h ⊢
 split at h
 ·exact ⟨h.1, hk _ h.2⟩
 ·exact aeff_mono hk h
theorem rops_mono : ∀ {l : List AOper} {s : AState} {K K' : AState → Prop}, (∀ s, K s → K' s) → rops P W l s K → rops P W l s K'
 | [], s, K, K', hk, h => hk _ h
 | o :: r, s, K, K', hk, h => guarded_mono (rac_mono fun s h => rops_mono hk h) (rops_mono hk) h
theorem rwp_mono : ∀ {c : ACode} {s : AState} {Q Q' : Exit → AState → Prop}, (∀ e s, Q e s → Q' e s) → rwp P W c Q s → rwp P W c Q' s := by
 intro c
 induction c with
 | skip => intro s Q Q' hq h; exact hq _ _ h
 | ops l => intro s Q Q' hq h; exact rops_mono (hq .normal) h
 | seq x y ihx ihy => intro s Q Q' hq h; exact ihx (fun e s h => by cases e <;> first | exact ihy hq h | exact hq _ _ h) h
 | both x y ihx ihy => intro s Q Q' hq h; exact ⟨ihx hq h.1, ihy hq h.2⟩
 | cond c x y ihx ihy =>
  intro s Q Q' hq h
  simp only [rwp] at h ⊢
  split at h
  ·exact ⟨fun e => ihx hq (h.1 e), fun e => ihy hq (h.2 e)⟩
  ·exact h.elim
 | block id x ih => intro s Q Q' hq h; exact ih (fun e s h => by
   cases e with
   | exit i => simp only [blockA] at h ⊢; split at h <;> rename_i e <;> simp only [e, if_true, if_false] <;> exact hq _ _ h
   | _ => exact hq _ _ h) h
 | loop x ih =>
  rintro s Q Q' hq ⟨I, h0, h⟩
  exact ⟨I, h0, fun n s1 hI => ih (fun e s h => by cases e <;> first | exact h | exact hq _ _ h) (h n s1 hI)⟩
 | exit id => intro s Q Q' hq h; exact hq _ _ h
 | ret => intro s Q Q' hq h; exact hq _ _ h
 | scope x ih => intro s Q Q' hq h; exact ih (noGotoA_mono hq) h
 | label l => intro s Q Q' hq h; exact hq _ _ h
 | goto l => intro s Q Q' hq h; exact hq _ _ h
 | jumps l1 l2 x y z ihx ihy ihz =>
  rintro s Q Q' hq ⟨J1, J2, h0, h1, h2⟩
  exact ⟨J1, J2, ihx (jumpA_mono hq) h0, fun n s1 h => ihy (jumpA_mono hq) (h1 n s1 h), fun n s1 h => ihz (jumpA_mono hq) (h2 n s1 h)⟩
theorem awp_of : ∀ (c : ACode) (s : AState) (Q Q' : Exit → AState → Prop), (∀ e s, Q e s → Q' e s) → rwp P W c Q s → awp P W c Q' s := by
 intro c
 induction c with
 | skip => intro s Q Q' hq h; exact hq _ _ h
 | ops l => intro s Q Q' hq h; exact aops_of l s _ _ (hq .normal) h
 | seq x y ihx ihy => intro s Q Q' hq h; exact ihx s _ _ (fun e s h => by cases e <;> first | exact ihy _ _ _ hq h | exact hq _ _ h) h
 | both x y ihx ihy => intro s Q Q' hq h; exact ⟨ihx s _ _ hq h.1, ihy s _ _ hq h.2⟩
 | cond c x y ihx ihy =>
  intro s Q Q' hq h
  simp only [rwp] at h
  simp only [awp]
  split at h
  ·rename_i t e
   rw [e]
   exact ⟨fun e => ihx s _ _ hq (h.1 e), fun e => ihy s _ _ hq (h.2 e)⟩
  ·exact h.elim
 | block id x ih => intro s Q Q' hq h; exact ih s _ _ (fun e s h => by
   cases e with
   | exit i => simp only [blockA] at h ⊢; split at h <;> rename_i e <;> simp only [e, if_true, if_false] <;> exact hq _ _ h
   | _ => exact hq _ _ h) h
 | loop x ih =>
  rintro s Q Q' hq ⟨I, h0, h⟩
  exact ⟨I, h0, fun n s1 hI => ih s1 _ _ (fun e s h => by cases e <;> first | exact h | exact hq _ _ h) (h n s1 hI)⟩
 | exit id => intro s Q Q' hq h; exact hq _ _ h
 | ret => intro s Q Q' hq h; exact hq _ _ h
 | scope x ih => intro s Q Q' hq h; exact ih s _ _ (noGotoA_mono hq) h
 | label l => intro s Q Q' hq h; exact hq _ _ h
 | goto l => intro s Q Q' hq h; exact hq _ _ h
 | jumps l1 l2 x y z ihx ihy ihz =>
  rintro s Q Q' hq ⟨J1, J2, h0, h1, h2⟩
  exact ⟨J1, J2, ihx _ _ _ (jumpA_mono hq) h0, fun n s1 h => ihy _ _ _ (jumpA_mono hq) (h1 n s1 h), fun n s1 h => ihz _ _ _ (jumpA_mono hq) (h2 n s1 h)⟩

inductive Item where
 | code (c : ACode)
 | ops (l : List AOper)
 | endb (id : Nat)
 | endl (K : AState → Prop)
 | ends
 | endj (l1 l2 : Nat) (G1 G2 : AState → Prop)
def stk (P : Program) (W : World) : List Item → (Exit → AState → Prop) → Exit → AState → Prop
 | [], Q, e, s => Q e s
 | .code c :: k, Q, .normal, s => rwp P W c (stk P W k Q) s
 | .ops l :: k, Q, .normal, s => rops P W l s (stk P W k Q .normal)
 | .endb id :: k, Q, .exit i, s => if i = id then stk P W k Q .normal s else stk P W k Q (.exit i) s
 | .endl K :: k, Q, .normal, s => K s
 | .ends :: k, Q, .goto _, s => False
 | .endj l1 l2 G1 G2 :: k, Q, .goto l, s => if l = l1 then G1 s else l = l2 ∧ G2 s
 | _ :: k, Q, e, s => stk P W k Q e s
section
variable {k : List Item} {Q : Exit → AState → Prop} {s : AState}
theorem stk_nil {e : Exit} : stk P W [] Q e s = Q e s := rfl
theorem stk_skip : stk P W (.code .skip :: k) Q .normal s = stk P W k Q .normal s := rfl
theorem stk_ops {l : List AOper} : stk P W (.code (.ops l) :: k) Q .normal s = stk P W (.ops l :: k) Q .normal s := rfl
theorem stk_seq {x y : ACode} : stk P W (.code (.seq x y) :: k) Q .normal s = stk P W (.code x :: .code y :: k) Q .normal s := by
 have : thenA (rwp P W y (stk P W k Q)) (stk P W k Q) = stk P W (.code y :: k) Q := by funext e s; cases e <;> rfl
 show rwp P W x (thenA (rwp P W y (stk P W k Q)) (stk P W k Q)) s = rwp P W x (stk P W (.code y :: k) Q) s
 rw [this]
theorem stk_both {x y : ACode} (hx : stk P W (.code x :: k) Q .normal s) (hy : stk P W (.code y :: k) Q .normal s) : stk P W (.code (.both x y) :: k) Q .normal s := ⟨hx, hy⟩
theorem stk_block {id : Nat} {x : ACode} : stk P W (.code (.block id x) :: k) Q .normal s = stk P W (.code x :: .endb id :: k) Q .normal s := by
 have : blockA id (stk P W k Q) = stk P W (.endb id :: k) Q := by funext e s; cases e <;> rfl
 show rwp P W x (blockA id (stk P W k Q)) s = rwp P W x (stk P W (.endb id :: k) Q) s
 rw [this]
theorem stk_scope {x : ACode} : stk P W (.code (.scope x) :: k) Q .normal s = stk P W (.code x :: .ends :: k) Q .normal s := by
 have : noGotoA (stk P W k Q) = stk P W (.ends :: k) Q := by funext e s; cases e <;> rfl
 show rwp P W x (noGotoA (stk P W k Q)) s = rwp P W x (stk P W (.ends :: k) Q) s
 rw [this]
theorem stk_ends : stk P W (.ends :: k) Q .normal s = stk P W k Q .normal s := rfl
theorem stk_ends_exit {i : Nat} : stk P W (.ends :: k) Q (.exit i) s = stk P W k Q (.exit i) s := rfl
theorem stk_ends_ret : stk P W (.ends :: k) Q .ret s = stk P W k Q .ret s := rfl
theorem stk_label {l : Nat} : stk P W (.code (.label l) :: k) Q .normal s = stk P W k Q .normal s := rfl
theorem stk_goto {l : Nat} : stk P W (.code (.goto l) :: k) Q .normal s = stk P W k Q (.goto l) s := rfl
theorem stk_code_goto {c : ACode} {l : Nat} : stk P W (.code c :: k) Q (.goto l) s = stk P W k Q (.goto l) s := rfl
theorem stk_ops_goto {c : List AOper} {l : Nat} : stk P W (.ops c :: k) Q (.goto l) s = stk P W k Q (.goto l) s := rfl
theorem stk_endb_goto {id l : Nat} : stk P W (.endb id :: k) Q (.goto l) s = stk P W k Q (.goto l) s := rfl
theorem stk_endl_goto {K : AState → Prop} {l : Nat} : stk P W (.endl K :: k) Q (.goto l) s = stk P W k Q (.goto l) s := rfl
theorem stk_endj {l1 l2 : Nat} {G1 G2 : AState → Prop} : stk P W (.endj l1 l2 G1 G2 :: k) Q .normal s = stk P W k Q .normal s := rfl
theorem stk_endj_exit {l1 l2 : Nat} {G1 G2 : AState → Prop} {i : Nat} : stk P W (.endj l1 l2 G1 G2 :: k) Q (.exit i) s = stk P W k Q (.exit i) s := rfl
theorem stk_endj_ret {l1 l2 : Nat} {G1 G2 : AState → Prop} : stk P W (.endj l1 l2 G1 G2 :: k) Q .ret s = stk P W k Q .ret s := rfl
theorem stk_endj_goto {l1 l2 l : Nat} {G1 G2 : AState → Prop} : stk P W (.endj l1 l2 G1 G2 :: k) Q (.goto l) s = if l = l1 then G1 s else l = l2 ∧ G2 s := rfl
/-- A scope with two labels: what holds at each jump, with a number that falls. -/
theorem stk_jumps {l1 l2 : Nat} {x y z : ACode} (J1 J2 : Nat → AState → Prop)
  (h0 : stk P W (.code x :: .endj l1 l2 (fun s2 => ∃ k s3, Weak s2 s3 ∧ J1 k s3) (fun s2 => ∃ k s3, Weak s2 s3 ∧ J2 k s3) :: k) Q .normal s)
  (h1 : ∀ n s1, J1 n s1 → stk P W (.code y :: .endj l1 l2 (fun s2 => ∃ k s3, k < n ∧ Weak s2 s3 ∧ J1 k s3) (fun s2 => ∃ k s3, k < n ∧ Weak s2 s3 ∧ J2 k s3) :: k) Q .normal s1)
  (h2 : ∀ n s1, J2 n s1 → stk P W (.code z :: .endj l1 l2 (fun s2 => ∃ k s3, k < n ∧ Weak s2 s3 ∧ J1 k s3) (fun s2 => ∃ k s3, k < n ∧ Weak s2 s3 ∧ J2 k s3) :: k) Q .normal s1) : stk P W (.code (.jumps l1 l2 x y z) :: k) Q .normal s := by
 have e : ∀ G1 G2, jumpA l1 l2 G1 G2 (stk P W k Q) = stk P W (.endj l1 l2 G1 G2 :: k) Q := fun G1 G2 => by funext e s; cases e <;> rfl
 show rwp P W (.jumps l1 l2 x y z) (stk P W k Q) s
 refine ⟨J1, J2, ?_, fun n s1 h => ?_, fun n s1 h => ?_⟩
 ·rw [e]; exact h0
 ·rw [e]; exact h1 n s1 h
 ·rw [e]; exact h2 n s1 h
/-- A call of an interface's method, by what it bears. -/
theorem stk_inv {d : Option Nat} {m : String} {x : Operand} {xs : List Operand} {r : List AOper} {t : TypeId} {y : AVal} {f : FuncId} {R : AVal → AHeap → Prop} (hx : ev s.tm x = .ifc t y) (hm : methA P t m = some f) (hc : callable P f = true) (h : ACalls P W f (y :: xs.map (ev s.tm)) s.H R) (hk : ∀ v H', R v H' → stk P W (.ops r :: k) Q .normal ((⟨s.tm, H'⟩ : AState).put d v)) : stk P W (.ops (⟨d, none, .e (.inv m x xs)⟩ :: r) :: k) Q .normal s := by
 show aeff P W (.inv m x xs) d s (fun s' => stk P W (.ops r :: k) Q .normal s')
 simp only [aeff, hx]
 exact ⟨f, hm, hc, ACalls.mono h fun v H' hv => hk v H' hv⟩
/-- A local array, as a slice from here on. -/
theorem stk_sla {d : Option Nat} {n b E : Nat} {x : Operand} {cs : List AVal} {r : List AOper} (hx : ev s.tm x = .v (.pointer (some ⟨b, 0, none⟩))) (hb : s.H b = some (.cells E cs)) (hl : cs.length = n) (hn : n ≤ maxLen) (hk : stk P W (.ops r :: k) Q .normal ((⟨s.tm, s.H.del b⟩ : AState).put d (.sl true 1 (cs.map fun c => [c])))) : stk P W (.ops (⟨d, none, .e (.sla n x)⟩ :: r) :: k) Q .normal s := by
 show aeff P W (.sla n x) d s (fun s' => stk P W (.ops r :: k) Q .normal s')
 simp only [aeff, hx, hb]
 exact ⟨⟨hl, hn⟩, hk⟩
theorem stk_exit {id : Nat} : stk P W (.code (.exit id) :: k) Q .normal s = stk P W k Q (.exit id) s := rfl
theorem stk_ret : stk P W (.code .ret :: k) Q .normal s = stk P W k Q .ret s := rfl
theorem stk_code_exit {c : ACode} {i : Nat} : stk P W (.code c :: k) Q (.exit i) s = stk P W k Q (.exit i) s := rfl
theorem stk_code_ret {c : ACode} : stk P W (.code c :: k) Q .ret s = stk P W k Q .ret s := rfl
theorem stk_ops_exit {l : List AOper} {i : Nat} : stk P W (.ops l :: k) Q (.exit i) s = stk P W k Q (.exit i) s := rfl
theorem stk_ops_ret {l : List AOper} : stk P W (.ops l :: k) Q .ret s = stk P W k Q .ret s := rfl
theorem stk_endb {id : Nat} : stk P W (.endb id :: k) Q .normal s = stk P W k Q .normal s := rfl
theorem stk_endb_exit {id i : Nat} : stk P W (.endb id :: k) Q (.exit i) s = if i = id then stk P W k Q .normal s else stk P W k Q (.exit i) s := rfl
theorem stk_endb_ret {id : Nat} : stk P W (.endb id :: k) Q .ret s = stk P W k Q .ret s := rfl
theorem stk_endl {K : AState → Prop} : stk P W (.endl K :: k) Q .normal s = K s := rfl
theorem stk_endl_exit {K : AState → Prop} {i : Nat} : stk P W (.endl K :: k) Q (.exit i) s = stk P W k Q (.exit i) s := rfl
theorem stk_endl_ret {K : AState → Prop} : stk P W (.endl K :: k) Q .ret s = stk P W k Q .ret s := rfl
theorem stk_ops_nil : stk P W (.ops [] :: k) Q .normal s = stk P W k Q .normal s := rfl
theorem stk_q {d : Option Nat} {m : AO} {r : List AOper} : stk P W (.ops (⟨d, none, .q m⟩ :: r) :: k) Q .normal s = (side m s ∧ stk P W (.ops r :: k) Q .normal (s.put d (val m s))) := rfl
theorem stk_alloc {d : Option Nat} {E : TypeId} {z : List Value} {r : List AOper} : stk P W (.ops (⟨d, none, .e (.alloc E z)⟩ :: r) :: k) Q .normal s = ∀ b, s.H b = none → stk P W (.ops r :: k) Q .normal ((⟨s.tm, s.H.put b (.cells E (z.map .v))⟩ : AState).put d (.v (.pointer (some ⟨b, 0, none⟩)))) := rfl
theorem stk_box {d : Option Nat} {E : TypeId} {x : Operand} {r : List AOper} : stk P W (.ops (⟨d, none, .e (.box E x)⟩ :: r) :: k) Q .normal s = ((oneOr (ev s.tm x)).all (·.one) = true ∧ ∀ b, s.H b = none → stk P W (.ops r :: k) Q .normal ((⟨s.tm, s.H.put b (.cells E (oneOr (ev s.tm x)))⟩ : AState).put d (.v (.pointer (some ⟨b, 0, none⟩))))) := rfl
theorem stk_bsl {d : Option Nat} {E sz : Nat} {xs : List Operand} {r : List AOper} : stk P W (.ops (⟨d, none, .e (.bsl E sz xs)⟩ :: r) :: k) Q .normal s = (((xs.map fun x => oneOr (ev s.tm x)).all fun r => r.length == sz && r.all (·.one)) = true ∧ stk P W (.ops r :: k) Q .normal (s.put d (.sl true sz (xs.map fun x => oneOr (ev s.tm x))))) := rfl
theorem stk_niq {d : Option Nat} {neg : Bool} {x : Operand} {r : List AOper} : stk P W (.ops (⟨d, none, .e (.niq neg x)⟩ :: r) :: k) Q .normal s = niqA (ev s.tm x) fun t => stk P W (.ops r :: k) Q .normal (s.put d (.v (.bool (flip neg t)))) := rfl
theorem stk_st {d : Option Nat} {n : Nat} {x y : Operand} {r : List AOper} : stk P W (.ops (⟨d, none, .e (.st n x y)⟩ :: r) :: k) Q .normal s = ast s.H n (ev s.tm x) (oneOr (ev s.tm y)) fun H' => stk P W (.ops r :: k) Q .normal ((⟨s.tm, H'⟩ : AState).put d .any) := rfl
theorem stk_guard {d : Option Nat} {t : Nat} {want : Bool} {a : Act1} {r : List AOper} {b : Bool} (hb : tget s.tm t = .v (.bool b)) (h1 : b = want → stk P W (.ops (⟨d, none, a⟩ :: r) :: k) Q .normal s) (h2 : b = !want → stk P W (.ops r :: k) Q .normal (s.put d (.v undef))) : stk P W (.ops (⟨d, some (t, want), a⟩ :: r) :: k) Q .normal s := by
 show guarded (some (t, want)) s _ _
 simp only [guarded, hb]
 exact ⟨h1, h2⟩
theorem stk_guard_no {d : Option Nat} {t : Nat} {want : Bool} {a : Act1} {r : List AOper} (hb : tget s.tm t = .v undef) (h2 : stk P W (.ops r :: k) Q .normal (s.put d (.v undef))) : stk P W (.ops (⟨d, some (t, want), a⟩ :: r) :: k) Q .normal s := by
 show guarded (some (t, want)) s _ _
 simp only [guarded, hb]
 exact h2
theorem stk_cond {c : Operand} {x y : ACode} {b : Bool} (hb : ev s.tm c = .v (.bool b)) (h1 : b = true → stk P W (.code x :: k) Q .normal s) (h2 : b = false → stk P W (.code y :: k) Q .normal s) : stk P W (.code (.cond c x y) :: k) Q .normal s := by
 show rwp P W (.cond c x y) (stk P W k Q) s
 simp only [rwp, hb]
 exact ⟨h1, h2⟩
/-- A loop: what holds at its head, with a number that falls. -/
theorem stk_loop {x : ACode} (I : Nat → AState → Prop) (n0 : Nat) (s0 : AState) (hw : Weak s s0) (h0 : I n0 s0) (h : ∀ n s1, I n s1 → stk P W (.code x :: .endl (fun s2 => ∃ j s3, j < n ∧ Weak s2 s3 ∧ I j s3) :: k) Q .normal s1) : stk P W (.code (.loop x) :: k) Q .normal s := by
 refine ⟨I, ⟨n0, s0, hw, h0⟩, fun n s1 hI => ?_⟩
 have h1 := h n s1 hI
 have : thenA (fun s2 => ∃ j s3, j < n ∧ Weak s2 s3 ∧ I j s3) (stk P W k Q) = stk P W (.endl (fun s2 => ∃ j s3, j < n ∧ Weak s2 s3 ∧ I j s3) :: k) Q := by funext e s; cases e <;> rfl
 rw [this]
 exact h1
/-- A call, by its contract. -/
theorem stk_call {d : Option Nat} {f : FuncId} {xs : List Operand} {r : List AOper} {R : AVal → AHeap → Prop} (h : ACalls P W f (xs.map (ev s.tm)) s.H R) (hk : ∀ v H', R v H' → stk P W (.ops r :: k) Q .normal ((⟨s.tm, H'⟩ : AState).put d v)) : stk P W (.ops (⟨d, none, .e (.call f xs)⟩ :: r) :: k) Q .normal s :=
 ⟨s, Weak.refl s, ACalls.mono h hk⟩
/-- A call, ahead of which what is owned is called less. -/
theorem stk_pureW {d : Option Nat} {f : FuncId} {xs : List Operand} {r : List AOper} {R : AVal → Prop} (s1 : AState) (hw : Weak s s1) (h : ACalls P W f (xs.map (ev s1.tm)) AHeap.none fun v _ => R v) (hk : ∀ v, R v → stk P W (.ops r :: k) Q .normal (s1.put d v)) : stk P W (.ops (⟨d, none, .e (.call f xs)⟩ :: r) :: k) Q .normal s :=
 ⟨s1, hw, ACalls.pure h fun v hv => hk v hv⟩
/-- A call that owns nothing. -/
theorem stk_pure {d : Option Nat} {f : FuncId} {xs : List Operand} {r : List AOper} {R : AVal → Prop} (h : ACalls P W f (xs.map (ev s.tm)) AHeap.none fun v _ => R v) (hk : ∀ v, R v → stk P W (.ops r :: k) Q .normal (s.put d v)) : stk P W (.ops (⟨d, none, .e (.call f xs)⟩ :: r) :: k) Q .normal s :=
 ⟨s, Weak.refl s, ACalls.pure h fun v hv => hk v hv⟩
theorem stk_callq {d : Option Nat} {f : FuncId} {xs : List Operand} {r : List AOper} {R : AVal → Prop} (h : ACalls P W f (xs.map (ev s.tm)) AHeap.none fun v _ => R v) (hk : ∀ v, R v → stk P W (.ops r :: k) Q .normal (s.put d v)) : stk P W (.ops (⟨d, none, .e (.callq f xs)⟩ :: r) :: k) Q .normal s :=
 ⟨_, FZs.refl _, ACalls.mono h fun v _ hv => ⟨.inl rfl, hk v hv⟩⟩
/-- A call that reads what is owned. -/
theorem stk_callqR {d : Option Nat} {f : FuncId} {xs : List Operand} {r : List AOper} {R : AVal → Prop} (ys : List AVal) (hz : FZs s.H AHeap.none (xs.map (ev s.tm)) ys) (h : ACalls P W f ys AHeap.none fun v _ => R v) (hV : ∀ v, R v → v.isV = true) (hk : ∀ v, R v → stk P W (.ops r :: k) Q .normal (s.put d v)) : stk P W (.ops (⟨d, none, .e (.callq f xs)⟩ :: r) :: k) Q .normal s :=
 ⟨ys, hz, ACalls.mono h fun v _ hv => ⟨.inr (hV v hv), hk v hv⟩⟩
theorem stk_callR {d : Option Nat} {f : FuncId} {xs : List Operand} {r : List AOper} {R : AVal → Prop} (ys : List AVal) (hz : FZs s.H AHeap.none (xs.map (ev s.tm)) ys) (h : ACalls P W f ys AHeap.none fun v _ => R v) (hV : ∀ v, R v → v.isV = true) (hk : ∀ v, R v → stk P W (.ops r :: k) Q .normal (s.put d v)) : stk P W (.ops (⟨d, none, .e (.call f xs)⟩ :: r) :: k) Q .normal s :=
 ⟨s, Weak.refl s, ACalls.mono (ACalls.reads hz (ACalls.mono h fun v _ hv => ⟨hv, hV v hv⟩)) fun v H' hv => by obtain ⟨h1, rfl⟩ := hv; exact hk v h1⟩
end
/-- A function, by a run of its code. -/
theorem fn_run (hm : P.follows .mixedOrders = true) {f : FuncId} {af : AFn} (hc : compF P f = some af) {args : List AVal} (hl : Nat.ble af.np args.length = true) {H : AHeap} {K : AVal → AHeap → Prop}
  (h : stk P W [.code af.body] (aretC af.cells af.res K) .normal ⟨args.zipIdx.map (fun p => (p.2, p.1)), H⟩) : ACalls P W f args H K :=
 fn_sound hm hc (Nat.le_of_ble_eq_true hl) (awp_of _ _ _ _ (fun _ _ h => h) h)
/-- The result as it is. -/
theorem aret_pure {res : List Nat} {R : AVal → Prop} {e : Exit} {s : AState} (he : e = .normal ∨ e = .ret) (h : R (retOf s.tm res)) : aret res (fun r _ => R r) e s :=
 ⟨he, AHeap.none, _, Sub.none _, .refl _, h⟩
end Go.Proofs.YtfaodacmdlnabaaGreatDoor.M
namespace Go.Proofs.YtfaodacmdlnabaaGreatDoor.M
open Go.RowKit
set_option linter.unusedVariables false
set_option linter.unusedSimpArgs false
variable {P : Program} {W : World} {k : List Item} {Q : Exit → AState → Prop} {s : AState}
abbrev Str := ByteArray
def isB (x : AVal) (b : Bool) : Bool := match x with
 | .v (.bool c) => c == b
 | _ => false
def isU (x : AVal) : Bool := match x with
 | .v (.tuple _) => true
 | _ => false
/-- Where a test is not known the run stands. -/
def stuck (P : Program) (W : World) (k : List Item) (Q : Exit → AState → Prop) (s : AState) : Prop := stk P W k Q .normal s
theorem stk_g {d : Option Nat} {t : Nat} {b : Bool} {a : Act1} {r : List AOper} : stk P W (.ops (⟨d, some (t, b), a⟩ :: r) :: k) Q .normal s =
  if isB (tget s.tm t) b = true then stk P W (.ops (⟨d, none, a⟩ :: r) :: k) Q .normal s else if isB (tget s.tm t) (!b) = true then stk P W (.ops r :: k) Q .normal (s.put d (.v undef)) else if isU (tget s.tm t) = true then stk P W (.ops r :: k) Q .normal (s.put d (.v undef)) else stuck P W (.ops (⟨d, some (t, b), a⟩ :: r) :: k) Q s := by
 unfold isB isU stuck
 simp only [stk, rops, guarded]
 generalize tget s.tm t = x
 cases x with
 | v u => cases u with
  | bool c => cases c <;> cases b <;> simp
  | tuple vs => simp
  | _ => simp
 | _ => simp
theorem stk_c {c : Operand} {x y : ACode} : stk P W (.code (.cond c x y) :: k) Q .normal s = if isB (ev s.tm c) true = true then stk P W (.code x :: k) Q .normal s else if isB (ev s.tm c) false = true then stk P W (.code y :: k) Q .normal s else stuck P W (.code (.cond c x y) :: k) Q s := by
 unfold isB stuck
 simp only [stk, rwp]
 generalize ev s.tm c = x
 cases x with
 | v u => cases u with
  | bool c => cases c <;> simp
  | _ => simp
 | _ => simp
theorem stk_mk {d : Option Nat} {r : List AOper} : stk P W (.ops (⟨d, none, .e .mk⟩ :: r) :: k) Q .normal s = ∀ b, s.H b = none → stk P W (.ops r :: k) Q .normal ((⟨s.tm, s.H.put b (.mp [] 0)⟩ : AState).put d (.v (.map (some b)))) := rfl
theorem put_s (tm : List (Nat × AVal)) (H : AHeap) (k : Nat) (x : AVal) : (⟨tm, H⟩ : AState).put (some k) x = ⟨(k, x) :: tm, H⟩ := rfl
theorem put_n (s : AState) (x : AVal) : s.put none x = s := rfl
theorem ev_t (tm : List (Nat × AVal)) (k : Nat) : ev tm (.tmp k) = tget tm k := rfl
theorem ev_c (tm : List (Nat × AVal)) (v : Value) : ev tm (.const v) = .v v := rfl
theorem stk_b2s {d : Option Nat} {x : Operand} {r : List AOper} {rows : List (List AVal)} (bs : ByteArray) (hi : isSl (ev s.tm x) = true) (hs : srcOf s.H 1 (ev s.tm x) = some rows) (hb : rows = bytesOf bs) (h : stk P W (.ops r :: k) Q .normal (s.put d (.v (.string bs)))) : stk P W (.ops (⟨d, none, .e (.b2s x)⟩ :: r) :: k) Q .normal s :=
 (⟨hi, rows, bs, hs, hb, h⟩ : aeff P W (.b2s x) d s (fun s' => rops P W r s' (stk P W k Q .normal)))
theorem FZ_rfl {H H' : AHeap} {x : AVal} : FZ H H' x x = True := eq_true (.refl x)
theorem FZ_any {H H' : AHeap} {x : AVal} : FZ H H' x .any = True := eq_true (.any x)
/-- A loop that counts up. -/
theorem stk_up {α : Type} {x : ACode} (N : Nat) (st : Nat → α → AState) (J : Nat → α → Prop) (a0 : α) (hw : Weak s (st 0 a0)) (h0 : J 0 a0)
  (h : ∀ i a, i ≤ N → J i a → stk P W (.code x :: .endl (fun s2 => i < N ∧ ∃ a', Weak s2 (st (i + 1) a') ∧ J (i + 1) a') :: k) Q .normal (st i a)) : stk P W (.code (.loop x) :: k) Q .normal s := by
 refine stk_loop (fun n s => ∃ i a, i + n = N ∧ J i a ∧ s = st i a) N _ hw ⟨0, a0, by omega, h0, rfl⟩ ?_
 rintro n s1 ⟨i, a, hi, hj, rfl⟩
 have := h i a (by omega) hj
 have key : ∀ (A B : AState → Prop) (x : ACode) (s : AState), (∀ s, A s → B s) → stk P W (.code x :: .endl A :: k) Q .normal s → stk P W (.code x :: .endl B :: k) Q .normal s := by
  intro A B x s hab h
  show rwp P W x (stk P W (.endl B :: k) Q) s
  have h : rwp P W x (stk P W (.endl A :: k) Q) s := h
  have mono : ∀ (c : ACode) (s : AState) (Q Q' : Exit → AState → Prop), (∀ e s, Q e s → Q' e s) → rwp P W c Q s → rwp P W c Q' s := fun c s Q Q' hq h => rwp_mono hq h
  exact mono x s _ _ (fun e s h => by cases e <;> first | exact hab _ h | exact h) h
 refine key _ _ _ _ ?_ this
 rintro s2 ⟨hlt, a', hw', hj'⟩
 exact ⟨n - 1, _, by omega, hw', i + 1, a', by omega, hj', rfl⟩
theorem wrap_in {n : Int} (h1 : -9223372036854775808 ≤ n) (h2 : n ≤ 9223372036854775807) : IntKind.i64.wrap n = n := by rw [IntKind.wrap_i64]; omega

/-! ### Texts in rows -/
def strRow (x : Str) : List AVal := [.v (.string x)]
def strRows (l : List Str) : List (List AVal) := l.map strRow
theorem strRows_len (l : List Str) : (strRows l).length = l.length := by simp [strRows]
theorem strRows_get {l : List Str} {i : Nat} (h : i < l.length) : (strRows l).getD i [] = [.v (.string (l.getD i ByteArray.empty))] := by simp [strRows, strRow, h]
def intRow (x : Int) : List AVal := [.v (.int .i64 x)]
def intRows (l : List Int) : List (List AVal) := l.map intRow
theorem intRows_len (l : List Int) : (intRows l).length = l.length := by simp [intRows]
theorem intRows_get {l : List Int} {i : Nat} (h : i < l.length) : (intRows l).getD i [] = [.v (.int .i64 (l.getD i 0))] := by simp [intRows, intRow, h]

theorem aretC_nil {res : List Nat} {K : AVal → AHeap → Prop} : aretC [] res K = aret res K := rfl
/-- A result that lies in memory. -/
theorem aretC_one {slot a n : Nat} {ag : Bool} {cs : List (Nat × Nat × Bool × Nat)} {res : List Nat} {K : AVal → AHeap → Prop} {e : Exit} {s : AState} (h : lside s.H ag n (tget s.tm a)) (hk : aretC cs res K e ⟨(slot, lval s.H ag n (tget s.tm a)) :: s.tm, s.H⟩) : aretC ((slot, a, ag, n) :: cs) res K e s := ald_of h hk
/-- A call of a function's value that owns nothing. -/
theorem stk_callv {d : Option Nat} {x : Operand} {xs : List Operand} {f : FuncId} {caps : List AVal} {r : List AOper} {R : AVal → Prop} (hx : ev s.tm x = .fn f caps) (hc : callable P f = true) (h : ACalls P W f (xs.map (ev s.tm) ++ caps) AHeap.none fun v _ => R v) (hk : ∀ v, R v → stk P W (.ops r :: k) Q .normal (s.put d v)) : stk P W (.ops (⟨d, none, .e (.callv x xs)⟩ :: r) :: k) Q .normal s := by
 show aeff P W (.callv x xs) d s (fun s' => stk P W (.ops r :: k) Q .normal s')
 simp only [aeff, hx]
 exact ⟨hc, ACalls.pure h fun v hv => hk v hv⟩
/-- The same, of one that owns. -/
theorem stk_callvH {d : Option Nat} {x : Operand} {xs : List Operand} {f : FuncId} {caps : List AVal} {r : List AOper} {R : AVal → AHeap → Prop} (hx : ev s.tm x = .fn f caps) (hc : callable P f = true) (h : ACalls P W f (xs.map (ev s.tm) ++ caps) s.H R) (hk : ∀ v H', R v H' → stk P W (.ops r :: k) Q .normal ((⟨s.tm, H'⟩ : AState).put d v)) : stk P W (.ops (⟨d, none, .e (.callv x xs)⟩ :: r) :: k) Q .normal s := by
 show aeff P W (.callv x xs) d s (fun s' => stk P W (.ops r :: k) Q .normal s')
 simp only [aeff, hx]
 exact ⟨hc, ACalls.mono h fun v H' hv => hk v H' hv⟩

/-- A call of a method that is bound to what it is of. -/
theorem stk_callb {d : Option Nat} {x : Operand} {xs : List Operand} {f : FuncId} {ys : List AVal} {r : List AOper} {R : AVal → AHeap → Prop} (hx : ev s.tm x = .bm f ys) (hc : callable P f = true) (h : ACalls P W f (ys ++ xs.map (ev s.tm)) s.H R) (hk : ∀ v H', R v H' → stk P W (.ops r :: k) Q .normal ((⟨s.tm, H'⟩ : AState).put d v)) : stk P W (.ops (⟨d, none, .e (.callv x xs)⟩ :: r) :: k) Q .normal s := by
 show aeff P W (.callv x xs) d s (fun s' => stk P W (.ops r :: k) Q .normal s')
 simp only [aeff, hx]
 exact ⟨hc, ACalls.mono h fun v H' hv => hk v H' hv⟩
/-- A new row of so many zeros. -/
theorem stk_mks {d : Option Nat} {E b : Nat} {z : Value} {x : Operand} {r : List AOper} {kd : IntKind} {n : Nat} (hx : ev s.tm x = .v (.int kd (n : Int))) (hn : n ≤ 140737488355328) (hb : n * b ≤ 140737488355328)
  (hk : ∀ g, s.H g = none → stk P W (.ops r :: k) Q .normal ((⟨s.tm, s.H.put g (.buf E 1 (List.replicate n [.v z]))⟩ : AState).put d (.bs g 1 n))) : stk P W (.ops (⟨d, none, .e (.mks E b z x)⟩ :: r) :: k) Q .normal s := by
 show aeff P W (.mks E b z x) d s (fun s' => stk P W (.ops r :: k) Q .normal s')
 simp only [aeff, hx]
 have h2 : ((n * b : Nat) : Int) ≤ 140737488355328 := by omega
 rw [Int.natCast_mul] at h2
 exact ⟨⟨by omega, by omega, h2⟩, fun g hg => by rw [Int.toNat_natCast]; exact hk g hg⟩
/-- A row's elements, all of them, put into another one. -/
theorem stk_cpy {d : Option Nat} {E sz g n : Nat} {x y : Operand} {r : List AOper} {rows new : List (List AVal)} (hx : ev s.tm x = .bs g sz n) (hg : s.H g = some (.buf E sz rows)) (hs : srcOf s.H sz (ev s.tm y) = some new) (hl : rows.length = n) (hn : new.length = n)
  (hk : stk P W (.ops r :: k) Q .normal ((⟨s.tm, s.H.put g (.buf E sz new)⟩ : AState).put d (.v (.int .i64 n)))) : stk P W (.ops (⟨d, none, .e (.cpy sz x y)⟩ :: r) :: k) Q .normal s := by
 show aeff P W (.cpy sz x y) d s (fun s' => stk P W (.ops r :: k) Q .normal s')
 simp only [aeff, hx, hg]
 exact ⟨new, hs, ⟨trivial, trivial, hl, hn⟩, hk⟩
/-! ### Stores -/
def stside (H : AHeap) (n : Nat) (x : AVal) (p : List AVal) : Prop :=
 (p.length = n ∧ p.all (·.one) = true) ∧
 match x with
 | .v (.pointer (some ⟨b, o, none⟩)) => match H b with
  | some (.cells _ cs) => o + n ≤ cs.length
  | _ => False
 | .bp g sz i k => match H g with
  | some (.buf _ sz' rows) => sz = sz' ∧ i < rows.length ∧ k + n ≤ (rows.getD i []).length
  | _ => False
 | _ => False
def stH (H : AHeap) (n : Nat) (x : AVal) (p : List AVal) : AHeap :=
 match x with
 | .v (.pointer (some ⟨b, o, none⟩)) => match H b with
  | some (.cells E cs) => H.put b (.cells E (cs.take o ++ p ++ cs.drop (o + n)))
  | _ => H
 | .bp g sz i k => match H g with
  | some (.buf E _ rows) => H.put g (.buf E sz (rows.set i ((rows.getD i []).take k ++ p ++ (rows.getD i []).drop (k + n))))
  | _ => H
 | _ => H
theorem ast_eq {H : AHeap} {n : Nat} {x : AVal} {p : List AVal} {K : AHeap → Prop} : ast H n x p K = (stside H n x p ∧ K (stH H n x p)) := by
 apply propext
 unfold ast stside stH
 refine (and_congr (Iff.refl _) ?_).trans (and_assoc (a := p.length = n ∧ p.all (·.one) = true)).symm
 split
 ·rename_i b o
  cases he : H b with
  | none => simp [he]
  | some ob => cases ob <;> simp [he]
 ·rename_i g sz i k
  cases he : H g with
  | none => simp [he]
  | some ob =>
   cases ob with
   | buf E sz' rows =>
    simp only [he]
    constructor
    ·rintro ⟨h1, r, h2, h3, h4⟩
     obtain ⟨hi, rfl⟩ := List.getElem?_eq_some_iff.1 h2
     rw [List.getD_eq_getElem?_getD, h2]
     exact ⟨⟨h1, hi, h3⟩, h4⟩
    ·rintro ⟨⟨h1, h2, h3⟩, h4⟩
     rw [List.getD_eq_getElem?_getD, List.getElem?_eq_getElem h2] at h3 h4
     exact ⟨h1, _, List.getElem?_eq_getElem h2, h3, h4⟩
   | _ => simp [he]
 ·simp
theorem stk_st' {d : Option Nat} {n : Nat} {x y : Operand} {r : List AOper} : stk P W (.ops (⟨d, none, .e (.st n x y)⟩ :: r) :: k) Q .normal s = (stside s.H n (ev s.tm x) (oneOr (ev s.tm y)) ∧ stk P W (.ops r :: k) Q .normal ((⟨s.tm, stH s.H n (ev s.tm x) (oneOr (ev s.tm y))⟩ : AState).put d .any)) := by
 rw [stk_st, ast_eq]
/-- A code, cut off from what comes behind it. -/
theorem stk_cut {c : ACode} (I : AState → Prop) (h : stk P W (.code c :: .endl I :: k) Q .normal s) (hk : ∀ s3, I s3 → stk P W k Q .normal s3) : stk P W (.code c :: k) Q .normal s := by
 refine rwp_mono (fun e s2 h2 => ?_) (show rwp P W c (stk P W (.endl I :: k) Q) s from h)
 cases e
 ·exact hk s2 h2
 all_goals exact h2
theorem hp_self (H : AHeap) (g : Nat) (o : AObj) : (H.put g o) g = some o := by simp [AHeap.put]
theorem hp_ne (H : AHeap) {g b : Nat} (o : AObj) (h : b ≠ g) : (H.put g o) b = H b := by simp [AHeap.put, h]
theorem hp_hp (H : AHeap) (g : Nat) (o o' : AObj) : (H.put g o).put g o' = H.put g o' := by
 funext x; simp only [AHeap.put]; split <;> rfl
theorem new_ne {H : AHeap} {g b : Nat} {o : AObj} (hg : H g = some o) (hb : H b = none) : b ≠ g := fun e => by rw [e, hg] at hb; cases hb
instance decMem (x : Str) (xs : List Str) : Decidable (x ∈ xs) := decidable_of_iff (xs.any (fun y => decide (x = y)) = true) (by simp)
end Go.Proofs.YtfaodacmdlnabaaGreatDoor.M
