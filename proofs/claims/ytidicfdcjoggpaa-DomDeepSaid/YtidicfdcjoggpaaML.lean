/-
  The abstract machine, run: more rules, and plain data as rows.
-/
import Derived.Test.YtidicfdcjoggpaaMK
namespace Go.Proofs.Ytidicfdcjoggpaa.M
open Go.RowKit
set_option linter.unusedVariables false
set_option linter.unusedSimpArgs false
variable {P : Program} {W : World} {k : List Item} {Q : Exit → AState → Prop} {s : AState}
abbrev Str := ByteArray
def isB (x : AVal) (b : Bool) : Bool := match x with
  | .v (.bool c) => c == b
  | _ => false
def isU (x : AVal) : Bool := match x with
  | .v (.tuple _) => true
  | _ => false
/-- Where a test is not known the run stands. -/
def stuck (P : Program) (W : World) (k : List Item) (Q : Exit → AState → Prop) (s : AState) : Prop := stk P W k Q .normal s
theorem stk_g {d : Option Nat} {t : Nat} {b : Bool} {a : Act1} {r : List AOper} : stk P W (.ops (⟨d, some (t, b), a⟩ :: r) :: k) Q .normal s =
    if isB (tget s.tm t) b = true then stk P W (.ops (⟨d, none, a⟩ :: r) :: k) Q .normal s else if isB (tget s.tm t) (!b) = true then stk P W (.ops r :: k) Q .normal (s.put d (.v undef)) else if isU (tget s.tm t) = true then stk P W (.ops r :: k) Q .normal (s.put d (.v undef)) else stuck P W (.ops (⟨d, some (t, b), a⟩ :: r) :: k) Q s := by
  unfold isB isU stuck
  simp only [stk, rops, guarded]
  generalize tget s.tm t = x
  cases x with
  | v u => cases u with
    | bool c => cases c <;> cases b <;> simp
    | tuple vs => simp
    | _ => simp
  | _ => simp
theorem stk_c {c : Operand} {x y : ACode} : stk P W (.code (.cond c x y) :: k) Q .normal s = if isB (ev s.tm c) true = true then stk P W (.code x :: k) Q .normal s else if isB (ev s.tm c) false = true then stk P W (.code y :: k) Q .normal s else stuck P W (.code (.cond c x y) :: k) Q s := by
  unfold isB stuck
  simp only [stk, rwp]
  generalize ev s.tm c = x
  cases x with
  | v u => cases u with
    | bool c => cases c <;> simp
    | _ => simp
  | _ => simp
theorem stk_mk {d : Option Nat} {r : List AOper} : stk P W (.ops (⟨d, none, .e .mk⟩ :: r) :: k) Q .normal s = ∀ b, s.H b = none → stk P W (.ops r :: k) Q .normal ((⟨s.tm, s.H.put b (.mp [] 0)⟩ : AState).put d (.v (.map (some b)))) := rfl
theorem put_s (tm : List (Nat × AVal)) (H : AHeap) (k : Nat) (x : AVal) : (⟨tm, H⟩ : AState).put (some k) x = ⟨(k, x) :: tm, H⟩ := rfl
theorem put_n (s : AState) (x : AVal) : s.put none x = s := rfl
theorem ev_t (tm : List (Nat × AVal)) (k : Nat) : ev tm (.tmp k) = tget tm k := rfl
theorem ev_c (tm : List (Nat × AVal)) (v : Value) : ev tm (.const v) = .v v := rfl
theorem FZ_rfl {H H' : AHeap} {x : AVal} : FZ H H' x x = True := eq_true (.refl x)
theorem FZ_any {H H' : AHeap} {x : AVal} : FZ H H' x .any = True := eq_true (.any x)
/-- A loop that counts up. -/
theorem stk_up {α : Type} {x : ACode} (N : Nat) (st : Nat → α → AState) (J : Nat → α → Prop) (a0 : α) (hw : Weak s (st 0 a0)) (h0 : J 0 a0)
    (h : ∀ i a, i ≤ N → J i a → stk P W (.code x :: .endl (fun s2 => i < N ∧ ∃ a', Weak s2 (st (i + 1) a') ∧ J (i + 1) a') :: k) Q .normal (st i a)) : stk P W (.code (.loop x) :: k) Q .normal s := by
  refine stk_loop (fun n s => ∃ i a, i + n = N ∧ J i a ∧ s = st i a) N _ hw ⟨0, a0, by omega, h0, rfl⟩ ?_
  rintro n s1 ⟨i, a, hi, hj, rfl⟩
  have := h i a (by omega) hj
  have key : ∀ (A B : AState → Prop) (x : ACode) (s : AState), (∀ s, A s → B s) → stk P W (.code x :: .endl A :: k) Q .normal s → stk P W (.code x :: .endl B :: k) Q .normal s := by
    intro A B x s hab h
    show rwp P W x (stk P W (.endl B :: k) Q) s
    have h : rwp P W x (stk P W (.endl A :: k) Q) s := h
    have mono : ∀ (c : ACode) (s : AState) (Q Q' : Exit → AState → Prop), (∀ e s, Q e s → Q' e s) → rwp P W c Q s → rwp P W c Q' s := fun c s Q Q' hq h => rwp_mono hq h
    exact mono x s _ _ (fun e s h => by cases e <;> first | exact hab _ h | exact h) h
  refine key _ _ _ _ ?_ this
  rintro s2 ⟨hlt, a', hw', hj'⟩
  exact ⟨n - 1, _, by omega, hw', i + 1, a', by omega, hj', rfl⟩
theorem wrap_in {n : Int} (h1 : -9223372036854775808 ≤ n) (h2 : n ≤ 9223372036854775807) : IntKind.i64.wrap n = n := by rw [IntKind.wrap_i64]; omega

/-! ### Texts in rows -/
def strRow (x : Str) : List AVal := [.v (.string x)]
def strRows (l : List Str) : List (List AVal) := l.map strRow
theorem strRows_len (l : List Str) : (strRows l).length = l.length := by simp [strRows]
theorem strRows_get {l : List Str} {i : Nat} (h : i < l.length) : (strRows l).getD i [] = [.v (.string (l.getD i ByteArray.empty))] := by simp [strRows, strRow, h]
def intRow (x : Int) : List AVal := [.v (.int .i64 x)]
def intRows (l : List Int) : List (List AVal) := l.map intRow
theorem intRows_len (l : List Int) : (intRows l).length = l.length := by simp [intRows]
theorem intRows_get {l : List Int} {i : Nat} (h : i < l.length) : (intRows l).getD i [] = [.v (.int .i64 (l.getD i 0))] := by simp [intRows, intRow, h]
instance decMem (x : Str) (xs : List Str) : Decidable (x ∈ xs) := decidable_of_iff (xs.any (fun y => decide (x = y)) = true) (by simp)
end Go.Proofs.Ytidicfdcjoggpaa.M
