/-
 Rows that grow, and what is handed back.
-/
import Derived.Test.YtfaodacmdlnabaaGreatDoorML
namespace Go.Proofs.YtfaodacmdlnabaaGreatDoor.M
open Go.RowKit
set_option linter.unusedVariables false
set_option linter.unusedSimpArgs false
variable {P : Program} {W : World} {k : List Item} {Q : Exit → AState → Prop} {s : AState}
/-- A row that may be appended to. -/
inductive Row (H : AHeap) (E sz : Nat) : AVal → List (List AVal) → Prop
 | nil : Row H E sz (.v (.slice none 0 0)) []
 | sl (rows : List (List AVal)) : Row H E sz (.sl true sz rows) rows
 | bs {g : Nat} {rows : List (List AVal)} (h : H g = some (.buf E sz rows)) : Row H E sz (.bs g sz rows.length) rows
def blkOf : AVal → Option Nat
 | .bs g _ _ => some g
 | _ => none
/-- All else that was owned is. -/
def Rest (H H' : AHeap) (x : AVal) : Prop := ∀ b o, H b = some o → blkOf x ≠ some b → H' b = some o
theorem put_self (H : AHeap) (g : Nat) (o : AObj) : (H.put g o) g = some o := by simp [AHeap.put]
theorem put_ne (H : AHeap) {g b : Nat} (o : AObj) (h : b ≠ g) : (H.put g o) b = H b := by simp [AHeap.put, h]
theorem aapp_row {H : AHeap} {E sz b : Nat} {x : AVal} {rows new : List (List AVal)} {K : AVal → AHeap → Prop} (hr : Row H E sz x rows) (hb : (rows.length + new.length) * b ≤ 140737488355328)
  (hK : ∀ x' H', Row H' E sz x' (rows ++ new) → Rest H H' x → K x' H') : aapp H E sz b x new K := by
 constructor
 ·rintro rfl
  refine ⟨?_, hK x H (by simpa using hr) fun b o h _ => h⟩
  cases hr <;> rfl
 ·intro hne
  cases hr with
  | nil =>
   refine ⟨by simpa using hb, fun g hg => hK _ _ ?_ fun b o h _ => ?_⟩
   ·simpa using Row.bs (E := E) (sz := sz) (rows := new) (put_self H g _)
   ·rw [put_ne]; exact h
    intro e; rw [e, hg] at h; cases h
  | sl rows =>
   refine ⟨⟨rfl, hb⟩, fun g hg => hK _ _ ?_ fun b o h _ => ?_⟩
   ·simpa using Row.bs (E := E) (sz := sz) (rows := rows ++ new) (put_self H g _)
   ·rw [put_ne]; exact h
    intro e; rw [e, hg] at h; cases h
  | @bs g rows h =>
   simp only [h]
   refine ⟨⟨trivial, trivial, trivial, Nat.le_refl _, hb⟩, fun g' hg' => hK _ _ ?_ fun b o h2 hne => ?_⟩
   ·rw [List.take_length]
    simpa using Row.bs (E := E) (sz := sz) (rows := rows ++ new) (put_self (H.del g) g' _)
   ·have hbg : b ≠ g := fun e => hne (by rw [e]; rfl)
    have hd : (H.del g) b = H b := by simp [AHeap.del, hbg]
    rw [put_ne, hd]; exact h2
    intro e; rw [e] at hd; rw [hd, ← e, h2] at hg'; cases hg'
theorem stk_app {d : Option Nat} {E sz b : Nat} {st : Bool} {x y : Operand} {r : List AOper} {rows new : List (List AVal)} (hr : Row s.H E sz (ev s.tm x) rows) (hs : srcOf s.H sz (ev s.tm y) = some new) (hb : (rows.length + new.length) * b ≤ 140737488355328)
  (hK : ∀ x' H', Row H' E sz x' (rows ++ new) → Rest s.H H' (ev s.tm x) → stk P W (.ops r :: k) Q .normal ((⟨s.tm, H'⟩ : AState).put d x')) : stk P W (.ops (⟨d, none, .e (.app E sz b st x y)⟩ :: r) :: k) Q .normal s := by
 show rops P W (⟨d, none, .e (.app E sz b st x y)⟩ :: r) s _
 exact ⟨new, hs, aapp_row hr hb hK⟩
/-- A row of the call's own. -/
inductive RowO (H : AHeap) (E sz : Nat) : AVal → List (List AVal) → Prop
 | nil : RowO H E sz (.v (.slice none 0 0)) []
 | bs {g n : Nat} {rows : List (List AVal)} (h : H g = some (.buf E sz rows)) (hn : n = rows.length) : RowO H E sz (.bs g sz n) rows
theorem RowO.row {H : AHeap} {E sz : Nat} {x : AVal} {rows : List (List AVal)} (h : RowO H E sz x rows) : Row H E sz x rows := by
 cases h with
 | nil => exact .nil
 | bs h hn => subst hn; exact .bs h
theorem aapp_rowO {H : AHeap} {E sz b : Nat} {x : AVal} {rows new : List (List AVal)} {K : AVal → AHeap → Prop} (hr : RowO H E sz x rows) (hb : (rows.length + new.length) * b ≤ 140737488355328)
  (hK : ∀ x' H', RowO H' E sz x' (rows ++ new) → Rest H H' x → K x' H') : aapp H E sz b x new K := by
 constructor
 ·rintro rfl
  refine ⟨?_, hK x H (by simpa using hr) fun b o h _ => h⟩
  cases hr <;> rfl
 ·intro hne
  cases hr with
  | nil =>
   refine ⟨by simpa using hb, fun g hg => hK _ _ (.bs (put_self H g _) (by simp)) fun b o h _ => ?_⟩
   rw [put_ne]; exact h
   intro e; rw [e, hg] at h; cases h
  | @bs g n rows h hn =>
   subst hn
   simp only [h]
   refine ⟨⟨trivial, trivial, trivial, Nat.le_refl _, hb⟩, fun g' hg' => hK _ _ ?_ fun b o h2 hne => ?_⟩
   ·rw [List.take_length]
    exact .bs (put_self (H.del g) g' _) (by simp)
   ·have hbg : b ≠ g := fun e => hne (by rw [e]; rfl)
    have hd : (H.del g) b = H b := by simp [AHeap.del, hbg]
    rw [put_ne, hd]; exact h2
    intro e; rw [e] at hd; rw [hd, ← e, h2] at hg'; cases hg'
theorem stk_appO {d : Option Nat} {E sz b : Nat} {st : Bool} {x y : Operand} {r : List AOper} {rows new : List (List AVal)} (hr : RowO s.H E sz (ev s.tm x) rows) (hs : srcOf s.H sz (ev s.tm y) = some new) (hb : (rows.length + new.length) * b ≤ 140737488355328)
  (hK : ∀ x' H', RowO H' E sz x' (rows ++ new) → Rest s.H H' (ev s.tm x) → stk P W (.ops r :: k) Q .normal ((⟨s.tm, H'⟩ : AState).put d x')) : stk P W (.ops (⟨d, none, .e (.app E sz b st x y)⟩ :: r) :: k) Q .normal s := by
 show rops P W (⟨d, none, .e (.app E sz b st x y)⟩ :: r) s _
 exact ⟨new, hs, aapp_rowO hr hb hK⟩
def Good (sz : Nat) (rows : List (List AVal)) : Prop := ∀ r ∈ rows, r.length = sz ∧ ∀ x ∈ r, x.one = true
/-- A row, handed back: from here on it never changes. -/
theorem Row.fz {H : AHeap} {E sz : Nat} {x : AVal} {rows : List (List AVal)} (h : Row H E sz x rows) (hg : Good sz rows) {H' : AHeap} (hd : ∀ b, blkOf x = some b → H' b = none) : FZ H H' x (.sl false sz rows) := by
 cases h with
 | nil => exact .nil sz
 | sl rows => exact .loose true sz rows
 | @bs g rows h => exact .buf h (hd g rfl) (Nat.le_refl _) rfl (fun i hi => (hg _ (List.getElem_mem hi)).1) (fun i hi j hj => (hg _ (List.getElem_mem hi)).2 _ (List.getElem_mem hj)) (fun i hi hi' j hj hj' => .refl _)
theorem aret_row {res : List Nat} {R : AVal → Prop} {e : Exit} {s : AState} (he : e = .normal ∨ e = .ret) {E sz : Nat} {rows : List (List AVal)} (h : Row s.H E sz (retOf s.tm res) rows) (hg : Good sz rows) (hR : R (.sl false sz rows)) : aret res (fun r _ => R r) e s :=
 ⟨he, AHeap.none, _, Sub.none _, h.fz hg (fun _ _ => rfl), hR⟩
theorem aret_loose {res : List Nat} {R : AVal → Prop} {e : Exit} {s : AState} (he : e = .normal ∨ e = .ret) {f : Bool} {sz : Nat} {rows : List (List AVal)} (h : retOf s.tm res = .sl f sz rows) (hR : R (.sl false sz rows)) : aret res (fun r _ => R r) e s :=
 ⟨he, AHeap.none, _, Sub.none _, by rw [h]; exact .loose f sz rows, hR⟩
theorem strGood (l : List Str) : Good 1 (strRows l) := by
 intro r hr
 obtain ⟨x, _, rfl⟩ := List.mem_map.1 hr
 exact ⟨rfl, fun y hy => by simp [strRow] at hy; subst hy; rfl⟩
theorem strRows_append (a b : List Str) : strRows a ++ strRows b = strRows (a ++ b) := by simp [strRows]
theorem strRows_one (x : Str) : [[AVal.v (.string x)]] = strRows [x] := rfl
theorem strRows_take (l : List Str) (n : Nat) : (strRows l).take n = strRows (l.take n) := by simp [strRows]
theorem strRows_drop (l : List Str) (n : Nat) : (strRows l).drop n = strRows (l.drop n) := by simp [strRows]
theorem VR.nilrow {S : Nat → Prop} {w : World} {u : Value} (sz : Nat) (h : VR S w (.v (.slice none 0 0)) u) : VR S w (.sl false sz []) u := by
 cases h
 exact .sl (rows := []) (fun _ _ => undef) (Nat.le_refl _) (Nat.zero_le _) (fun e => by cases e) (.inl rfl) (fun i hi => by simp at hi) (fun i hi => by simp at hi) (fun i hi => by simp at hi)
theorem ACalls.args {f : FuncId} {as bs : List AVal} {H : AHeap} {K : AVal → AHeap → Prop} (h : ACalls P W f bs H K) (hv : ∀ S w us, VRs S w as us → VRs S w bs us) : ACalls P W f as H K := fun S w us hw h2 => h S w us hw (hv S w us h2)
theorem VRs.map2 {a b a' b' : AVal} (h : ∀ S w u, VR S w a u → VR S w a' u) (k : ∀ S w u, VR S w b u → VR S w b' u) : ∀ S w us, VRs S w [a, b] us → VRs S w [a', b'] us := fun S w us hv => ⟨hv.1, fun i hi hi' => by
 rcases i with _ | _ | i
 ·exact h _ _ _ (hv.2 0 (by simp) hi')
 ·exact k _ _ _ (hv.2 1 (by simp) hi')
 ·simp at hi; omega⟩
theorem Weak.mk' {tm : List (Nat × AVal)} {H H' : AHeap} {l : List (Nat × AVal)} (hs : Sub H' H) (h : ∀ p ∈ l, FZ H H' (tget tm p.1) p.2) : Weak ⟨tm, H⟩ ⟨l, H'⟩ := Weak.list l hs h
end Go.Proofs.YtfaodacmdlnabaaGreatDoor.M
