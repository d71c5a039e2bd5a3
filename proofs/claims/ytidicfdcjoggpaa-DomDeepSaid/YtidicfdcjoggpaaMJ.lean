/-
  The abstract machine, run: what is left to do as a list, values as terms, side conditions as they come.
-/
import Derived.Test.YtidicfdcjoggpaaMI
namespace Go.Proofs.Ytidicfdcjoggpaa.M
open Go.RowKit
set_option linter.unusedVariables false
set_option linter.unusedSimpArgs false
variable {P : Program} {W : World}

/-! ### Values and their side conditions -/
def bside (op : BinOp) (cl : Cls) (x y : AVal) : Prop :=
  match cl, x, y with
  | .num, .v (.int k a), .v (.int k' b) => match op with
    | .quo | .rem => k = k' ∧ b ≠ 0
    | .shl | .shr => 0 ≤ b
    | .andNot | .xor => False
    | _ => k = k'
  | .num, .v (.string a), .v (.string b) => match op with
    | .add => a.size + b.size ≤ 9223372036854775807
    | .eql | .neq | .lss | .leq | .gtr | .geq => True
    | _ => False
  | .bool, .v (.bool _), .v (.bool _) => match op with
    | .eql | .neq => True
    | _ => False
  | .slice, .bs _ _ _, .v (.slice none _ _) | .slice, .bv _ _ _ _ _, .v (.slice none _ _) | .slice, .v (.slice none _ _), .v (.slice none _ _) => match op with
    | .eql | .neq => True
    | _ => False
  | .ptr, .v (.pointer _), .v (.pointer none) => match op with
    | .eql | .neq => True
    | _ => False
  | .struct ks, x, y => match op with
    | .eql | .neq => (steq ks x y).isSome = true
    | _ => False
  | _, _, _ => False
def bval (op : BinOp) (cl : Cls) (x y : AVal) : AVal :=
  match cl, x, y with
  | .num, .v (.int k a), .v (.int k' b) => match op with
    | .add => .v (.int k (k.wrap (a + b)))
    | .sub => .v (.int k (k.wrap (a - b)))
    | .mul => .v (.int k (k.wrap (a * b)))
    | .quo => .v (.int k (k.wrap (a.tdiv b)))
    | .rem => .v (.int k (a.tmod b))
    | .shl => .v (.int k (k.wrap (a * 2 ^ (min b.toNat k.bits))))
    | .shr => .v (.int k (a.fdiv (2 ^ (min b.toNat k.bits))))
    | .eql => .v (.bool (decide (a = b)))
    | .neq => .v (.bool (decide (a ≠ b)))
    | .lss => .v (.bool (decide (a < b)))
    | .leq => .v (.bool (decide (a ≤ b)))
    | .gtr => .v (.bool (decide (b < a)))
    | .geq => .v (.bool (decide (b ≤ a)))
    | .or => .v (.int k (k.wrap ((BitVec.ofInt k.bits a ||| BitVec.ofInt k.bits b).toNat : Int)))
    | .and => .v (.int k (k.wrap ((BitVec.ofInt k.bits a &&& BitVec.ofInt k.bits b).toNat : Int)))
    | _ => .any
  | .num, .v (.string a), .v (.string b) => match op with
    | .add => .v (.string (a ++ b))
    | .eql => .v (.bool (decide (a = b)))
    | .neq => .v (.bool (decide (a ≠ b)))
    | .lss => .v (.bool (strLt a b))
    | .leq => .v (.bool (strLt a b || decide (a = b)))
    | .gtr => .v (.bool (!(strLt a b || decide (a = b))))
    | .geq => .v (.bool (!strLt a b))
    | _ => .any
  | .bool, .v (.bool a), .v (.bool b) => match op with
    | .eql => .v (.bool (a == b))
    | .neq => .v (.bool (a != b))
    | _ => .any
  | .slice, .bs _ _ _, _ | .slice, .bv _ _ _ _ _, _ => match op with
    | .eql => .v (.bool false)
    | _ => .v (.bool true)
  | .slice, .v (.slice none _ _), _ => match op with
    | .eql => .v (.bool true)
    | _ => .v (.bool false)
  | .ptr, .v (.pointer a), _ => match op with
    | .eql => .v (.bool a.isNone)
    | _ => .v (.bool a.isSome)
  | .struct ks, x, y => match op with
    | .eql => .v (.bool ((steq ks x y).getD false))
    | _ => .v (.bool (!(steq ks x y).getD false))
  | _, _, _ => .any
theorem abin_of {op : BinOp} {cl : Cls} {x y : AVal} {K : AVal → Prop} (h : bside op cl x y) (hk : K (bval op cl x y)) : abin op cl x y K := by
  unfold bside at h
  split at h
  · cases op <;> simp_all [abin, bval]
  · cases op <;> simp_all [abin, bval]
  · cases op <;> simp_all [abin, bval]
  · cases op <;> simp_all [abin, bval]
  · cases op <;> simp_all [abin, bval]
  · cases op <;> simp_all [abin, bval]
  · cases op <;> simp_all [abin, bval]
  · rename_i ks x y
    cases op <;> simp only [] at h <;> first | exact h.elim | skip
    all_goals
      obtain ⟨b, hb⟩ := Option.isSome_iff_exists.1 h
      refine ⟨b, hb, ?_⟩
      simpa [bval, hb] using hk
  · exact h.elim
def uside (op : UnOp) (x : AVal) : Prop := match op, x with
  | .not, .v (.bool _) | .neg, .v (.int _ _) => True
  | _, _ => False
def uval (op : UnOp) (x : AVal) : AVal := match op, x with
  | .not, .v (.bool b) => .v (.bool !b)
  | .neg, .v (.int k n) => .v (.int k (k.wrap (0 - n)))
  | _, _ => .any
def cside (c : Cv) (x : AVal) : Prop := match c, x with
  | .int _, .v (.int _ _) | .str, .v (.int _ _) | .same, .v (.string _) => True
  | _, _ => False
def cval (c : Cv) (x : AVal) : AVal := match c, x with
  | .int k, .v (.int _ n) => .v (.int k (k.wrap n))
  | .str, .v (.int _ n) => .v (.string (Utf8.encode n))
  | .same, .v (.string s) => .v (.string s)
  | _, _ => .any
def intA : AVal → Int
  | .v (.int _ n) => n
  | _ => 0
def isInt : AVal → Bool
  | .v (.int _ _) => true
  | _ => false
def bndS (tm : List (Nat × AVal)) (o : Option Operand) : Prop := match o with
  | none => True
  | some x => isInt (ev tm x) = true
def bndV (tm : List (Nat × AVal)) (o : Option Operand) (d : Int) : Int := match o with
  | none => d
  | some x => intA (ev tm x)
theorem bnd_of {tm : List (Nat × AVal)} {o : Option Operand} {d : Int} {K : Int → Prop} (h : bndS tm o) (hk : K (bndV tm o d)) : bnd tm o d K := by
  unfold bndS at h
  unfold bnd
  cases o with
  | none => exact hk
  | some x =>
    simp only at h ⊢
    unfold isInt at h
    split at h
    · rename_i e
      rw [bndV, e] at hk
      rw [e]; exact hk
    · cases h
def lside (H : AHeap) (ag : Bool) (n : Nat) (x : AVal) : Prop :=
  match x with
  | .pl cells => match ag with
    | true => n ≤ cells.length ∧ (cells.take n).all (·.one) = true
    | false => 0 < cells.length
  | .v (.pointer (some ⟨b, o, none⟩)) => match H b with
    | some (.cells _ cs) => match ag with
      | true => o + n ≤ cs.length
      | false => o < cs.length
    | _ => False
  | .bp g sz i k => match H g with
    | some (.buf _ sz' rows) => sz = sz' ∧ i < rows.length ∧ match ag with
      | true => k + n ≤ (rows.getD i []).length
      | false => k < (rows.getD i []).length
    | _ => False
  | _ => False
def lval (H : AHeap) (ag : Bool) (n : Nat) (x : AVal) : AVal :=
  match x with
  | .pl cells => match ag with
    | true => .agg (cells.take n)
    | false => cells.getD 0 .any
  | .v (.pointer (some ⟨b, o, none⟩)) => match H b with
    | some (.cells _ cs) => match ag with
      | true => .agg ((cs.drop o).take n)
      | false => cs.getD o .any
    | _ => .any
  | .bp g _ i k => match H g with
    | some (.buf _ _ rows) => match ag with
      | true => .agg (((rows.getD i []).drop k).take n)
      | false => (rows.getD i []).getD k .any
    | _ => .any
  | _ => .any
theorem getD_some {α : Type} {l : List α} {i : Nat} (h : i < l.length) (d : α) : l[i]? = some (l.getD i d) := by simp [h]
theorem ald_of {H : AHeap} {ag : Bool} {n : Nat} {x : AVal} {K : AVal → Prop} (h : lside H ag n x) (hk : K (lval H ag n x)) : ald H ag n x K := by
  unfold lside at h
  split at h
  · cases ag with
    | true => exact ⟨⟨h.1, fun c hc => List.all_eq_true.1 h.2 c hc⟩, hk⟩
    | false => exact ⟨_, getD_some h .any, hk⟩
  · split at h
    · rename_i e
      simp only [ald, e]
      simp only [lval, e] at hk
      cases ag with
      | true => exact ⟨h, hk⟩
      | false => exact ⟨_, getD_some h .any, hk⟩
    · exact h.elim
  · split at h
    · rename_i e
      simp only [ald, e]
      simp only [lval, e] at hk
      obtain ⟨h1, h2, h3⟩ := h
      refine ⟨h1, _, getD_some h2 [], ?_⟩
      cases ag with
      | true => exact ⟨h3, hk⟩
      | false => exact ⟨_, getD_some h3 .any, hk⟩
    · exact h.elim
  · exact h.elim
def fside (ag : Bool) (off n : Nat) (x : AVal) : Prop := match x with
  | .agg cs => match ag with
    | true => off + n ≤ cs.length
    | false => off < cs.length
  | _ => False
def fval (ag : Bool) (off n : Nat) (x : AVal) : AVal := match x with
  | .agg cs => match ag with
    | true => .agg ((cs.drop off).take n)
    | false => cs.getD off .any
  | _ => .any
def faside (off : Nat) (x : AVal) : Prop := match x with
  | .pl cells => off ≤ cells.length
  | .v (.pointer (some ⟨_, _, none⟩)) | .bp _ _ _ _ => True
  | _ => False
def faval (off : Nat) (x : AVal) : AVal := match x with
  | .pl cells => .pl (cells.drop off)
  | .v (.pointer (some ⟨b, o, none⟩)) => .v (.pointer (some ⟨b, o + off, none⟩))
  | .bp g sz i k => .bp g sz i (k + off)
  | _ => .any
def iside (sz : Nat) (x i : AVal) : Prop := match x, i with
  | .sl _ sz' rows, .v (.int _ n) => sz = sz' ∧ 0 ≤ n ∧ n < rows.length
  | .bs _ sz' len, .v (.int _ n) => sz = sz' ∧ 0 ≤ n ∧ n < len
  | .bv _ _ sz' _ len, .v (.int _ n) => sz = sz' ∧ 0 ≤ n ∧ n < len
  | _, _ => False
def ival (sz : Nat) (x i : AVal) : AVal := match x, i with
  | .sl _ _ rows, .v (.int _ n) => .pl (rows.getD n.toNat [])
  | .bs g _ _, .v (.int _ n) => .bp g sz n.toNat 0
  | .bv _ g _ o _, .v (.int _ n) => .bp g sz (o + n.toNat) 0
  | _, _ => .any
def sxside (x i : AVal) : Prop := match x, i with
  | .v (.string t), .v (.int _ n) => 0 ≤ n ∧ n < t.size
  | _, _ => False
/-- The byte at a place. -/
def bt (t : ByteArray) (n : Int) : Int := ((t.data.toList.getD n.toNat 0).toNat : Int)
def sxval (x i : AVal) : AVal := match x, i with
  | .v (.string t), .v (.int _ n) => .v (.int .u8 (bt t n))
  | _, _ => .any
def sizeA : AVal → Int
  | .v (.string t) => t.size
  | _ => 0
/-- A part of a text. -/
def cutS (t : ByteArray) (l h : Int) : ByteArray := t.extract l.toNat h.toNat
def slside (x : AVal) (l h : Int) : Prop := match x with
  | .v (.string t) => 0 ≤ l ∧ l ≤ h ∧ h ≤ t.size
  | _ => False
def slval (x : AVal) (l h : Int) : AVal := match x with
  | .v (.string t) => .v (.string (cutS t l h))
  | _ => .any
def llside (sz : Nat) (x : AVal) (lo hi : Int) : Prop := match x with
  | .sl _ sz' rows => sz = sz' ∧ 0 ≤ lo ∧ lo ≤ hi ∧ hi ≤ rows.length
  | .v (.slice none 0 0) => lo = 0 ∧ hi = 0
  | .bs _ sz' n => sz = sz' ∧ 0 ≤ lo ∧ lo ≤ hi ∧ hi ≤ n
  | .bv _ _ sz' _ n => sz = sz' ∧ 0 ≤ lo ∧ lo ≤ hi ∧ hi ≤ n
  | _ => False
def llval (sz : Nat) (x : AVal) (lo hi : Int) : AVal := match x with
  | .sl full _ rows => .sl (full && decide (hi = rows.length)) sz ((rows.take hi.toNat).drop lo.toNat)
  | .v (.slice none 0 0) => .v (.slice none 0 0)
  | .bs g _ _ => if lo = 0 then .bs g sz hi.toNat else .bv false g sz lo.toNat (hi - lo).toNat
  | .bv full g _ o n => .bv (full && decide (hi = n)) g sz (o + lo.toNat) (hi - lo).toNat
  | _ => .any
theorem asl_of {H : AHeap} {sz : Nat} {x : AVal} {lo hi : Int} {K : AVal → Prop} (h : llside sz x lo hi) (hk : K (llval sz x lo hi)) : asl H sz x lo hi none K := by
  unfold llside at h
  split at h
  · exact ⟨⟨h.1, h.2.1, h.2.2.1, h.2.2.2, fun m hm => by cases hm⟩, hk⟩
  · exact ⟨⟨h.1, h.2, fun m hm => by cases hm⟩, hk⟩
  · simp only [llval] at hk
    refine ⟨⟨h.1, h.2.1, h.2.2.1, h.2.2.2, fun m hm => by cases hm⟩, fun e => ?_, fun e => ?_⟩
    · rw [if_pos e.1] at hk; exact hk
    · rw [if_neg (fun e2 => e ⟨e2, rfl⟩)] at hk; exact hk
  · exact ⟨⟨h.1, h.2.1, h.2.2.1, h.2.2.2, fun m hm => by cases hm⟩, hk⟩
  · exact h.elim
def lenside (str : Bool) (x : AVal) : Prop := match str, x with
  | true, .v (.string _) | false, .v (.slice _ _ _) | false, .sl _ _ _ | false, .bs _ _ _ | false, .bv _ _ _ _ _ => True
  | _, _ => False
def lenval (str : Bool) (x : AVal) : AVal := match str with
  | true => .v (.int .i64 (sizeA x))
  | false => .v (.int .i64 (lenA x))
def tupA : AVal → List AVal
  | .tup vs => vs
  | _ => []
def mmside (x y : AVal) : Prop := match x, y with
  | .v (.int k _), .v (.int k' _) => k = k'
  | _, _ => False
def mmval (isMax : Bool) (x y : AVal) : AVal := match x, y with
  | .v (.int k a), .v (.int _ b) => .v (.int k (match isMax with | true => max a b | false => min a b))
  | _, _ => .any
def nkside : AVal → Prop
  | .v (.pointer (some _)) | .pl _ | .bp _ _ _ _ | .fn _ _ | .ifc _ _ => True
  | _ => False
def boolA : AVal → Bool
  | .v (.bool b) => b
  | _ => false
def isBool : AVal → Bool
  | .v (.bool _) => true
  | _ => false
def side (m : AO) (s : AState) : Prop :=
  match m with
  | .mv _ => True
  | .pick c _ _ => isBool (ev s.tm c) = true
  | .bin op cl x y => bside op cl (ev s.tm x) (ev s.tm y)
  | .un op x => uside op (ev s.tm x)
  | .cv c x => cside c (ev s.tm x)
  | .fld ag off n x => fside ag off n (ev s.tm x)
  | .fad off _ x => faside off (ev s.tm x)
  | .ixa sz x i => iside sz (ev s.tm x) (ev s.tm i)
  | .six x i => sxside (ev s.tm x) (ev s.tm i)
  | .ssl x lo hi => bndS s.tm lo ∧ bndS s.tm hi ∧ slside (ev s.tm x) (bndV s.tm lo 0) (bndV s.tm hi (sizeA (ev s.tm x)))
  | .lsl sz x lo hi none => bndS s.tm lo ∧ bndS s.tm hi ∧ llside sz (ev s.tm x) (bndV s.tm lo 0) (bndV s.tm hi (lenA (ev s.tm x)))
  | .lsl _ _ _ _ (some _) => False
  | .len str x => lenside str (ev s.tm x)
  | .ext x i => i < (tupA (ev s.tm x)).length
  | .mm _ x y => mmside (ev s.tm x) (ev s.tm y)
  | .bld zero parts => (lay s.tm (zero.map .v) parts).isSome = true
  | .mkf _ _ => True
  | .mki _ _ => True
  | .nck x => nkside (ev s.tm x)
  | .ld ag n x => lside s.H ag n (ev s.tm x)
  | .lk kc _ _ x i => lkside s.H kc (ev s.tm x) (ev s.tm i)
  | .mlen x => isMapA s.H (ev s.tm x) = true
  | .men x => (mentA s.H (ev s.tm x)).isSome = true
def val (m : AO) (s : AState) : AVal :=
  match m with
  | .mv x => ev s.tm x
  | .pick c a b => match boolA (ev s.tm c) with | true => ev s.tm a | false => ev s.tm b
  | .bin op cl x y => bval op cl (ev s.tm x) (ev s.tm y)
  | .un op x => uval op (ev s.tm x)
  | .cv c x => cval c (ev s.tm x)
  | .fld ag off n x => fval ag off n (ev s.tm x)
  | .fad off _ x => faval off (ev s.tm x)
  | .ixa sz x i => ival sz (ev s.tm x) (ev s.tm i)
  | .six x i => sxval (ev s.tm x) (ev s.tm i)
  | .ssl x lo hi => slval (ev s.tm x) (bndV s.tm lo 0) (bndV s.tm hi (sizeA (ev s.tm x)))
  | .lsl sz x lo hi _ => llval sz (ev s.tm x) (bndV s.tm lo 0) (bndV s.tm hi (lenA (ev s.tm x)))
  | .len str x => lenval str (ev s.tm x)
  | .ext x i => (tupA (ev s.tm x)).getD i .any
  | .mm b x y => mmval b (ev s.tm x) (ev s.tm y)
  | .bld zero parts => .agg ((lay s.tm (zero.map .v) parts).getD [])
  | .mkf f caps => .fn f (caps.map (ev s.tm))
  | .mki t x => .ifc t (ev s.tm x)
  | .nck x => ev s.tm x
  | .ld ag n x => lval s.H ag n (ev s.tm x)
  | .lk _ ok z x i => lkval s.H ok z (ev s.tm x) (ev s.tm i)
  | .mlen x => .v (.int .i64 (mapA s.H (ev s.tm x)).length)
  | .men x => menval s.H (ev s.tm x)
theorem aval_of {m : AO} {s : AState} {K : AVal → Prop} (h : side m s) (hk : K (val m s)) : aval m s K := by
  cases m with
  | mv x => exact hk
  | pick c x y =>
    simp only [side, isBool] at h
    simp only [val, boolA] at hk
    simp only [aval]
    split at h
    · rename_i b e
      rw [e] at hk
      rw [e]
      simp only at hk ⊢
      cases b
      · exact ⟨(fun e => by cases e), fun _ => hk⟩
      · exact ⟨fun _ => hk, (fun e => by cases e)⟩
    · cases h
  | bin op cl x y => exact abin_of h hk
  | un op x =>
    simp only [side, uside] at h
    simp only [val, uval] at hk
    simp only [aval, aun]
    split at h <;> simp_all
  | cv c x =>
    simp only [side, cside] at h
    simp only [val, cval] at hk
    simp only [aval, acv]
    split at h <;> simp_all
  | fld ag off n x =>
    simp only [side, fside] at h
    simp only [val, fval] at hk
    simp only [aval]
    split at h
    · rename_i e
      rw [e] at hk
      rw [e]
      cases ag with
      | true => exact ⟨h, hk⟩
      | false => exact ⟨_, getD_some h .any, hk⟩
    · exact h.elim
  | fad off n x =>
    simp only [side, faside] at h
    simp only [val, faval] at hk
    simp only [aval]
    split at h <;> simp_all
  | ixa sz x i =>
    simp only [side, iside] at h
    simp only [val, ival] at hk
    simp only [aval]
    split at h <;> simp_all
  | six x i =>
    simp only [side, sxside] at h
    simp only [val, sxval] at hk
    simp only [aval]
    split at h <;> simp_all [bt]
  | ssl x lo hi =>
    simp only [side, slside] at h
    simp only [val, slval] at hk
    simp only [aval]
    obtain ⟨h1, h2, h3⟩ := h
    split at h3
    · rename_i e
      rw [e] at hk
      rw [e]
      refine bnd_of h1 ?_
      refine bnd_of h2 ?_
      simp only [e, sizeA] at h3 hk
      exact ⟨h3, hk⟩
    · exact h3.elim
  | lsl sz x lo hi mx =>
    cases mx with
    | none => obtain ⟨h1, h2, h3⟩ := h; simp only [aval]; refine bnd_of h1 ?_; refine bnd_of h2 ?_; exact asl_of h3 hk
    | some m => exact h.elim
  | len str x =>
    simp only [side, lenside] at h
    simp only [val, lenval] at hk
    simp only [aval]
    split at h <;> simp_all [sizeA, lenA]
  | ext x i =>
    simp only [side] at h
    simp only [val] at hk
    simp only [aval]
    unfold tupA at h hk
    split at h
    · rename_i vs e
      rw [e] at hk
      rw [e]
      exact ⟨_, getD_some h .any, hk⟩
    · simp at h
  | mm b x y =>
    simp only [side, mmside] at h
    simp only [val, mmval] at hk
    simp only [aval, minmax]
    split at h
    · rename_i e1 e2
      rw [e1, e2] at hk
      rw [e1, e2]
      refine ⟨h, ?_⟩
      cases b <;> exact hk
    · exact h.elim
  | bld zero parts =>
    obtain ⟨cs, hcs⟩ := Option.isSome_iff_exists.1 h
    simp only [val, hcs, Option.getD_some] at hk
    exact ⟨cs, hcs, hk⟩
  | mkf f caps => exact hk
  | mki t x => exact hk
  | nck x =>
    simp only [side, nkside] at h
    simp only [val] at hk
    simp only [aval]
    split at h <;> simp_all
  | ld ag n x => exact ald_of h hk
  | lk kc ok z x i => exact ⟨h, hk⟩
  | mlen x => exact ⟨h, hk⟩
  | men x => exact ⟨h, hk⟩
end Go.Proofs.Ytidicfdcjoggpaa.M
