/-
  Steps that write: what becomes of what is known.
-/
import Derived.Test.YtidicfdcjoggpaaMY
import Derived.Deep.AppendSrc
import Derived.Lib.ConvBytes
import Derived.Laws.MakeOwn
namespace Go.Proofs.Ytidicfdcjoggpaa.M
open Go.RowKit
set_option linter.unusedVariables false
set_option linter.unusedSimpArgs false
variable {P : Program} {W : World} {S : Nat → Prop} {w : World} {N : Nat} {s : AState} {a : Act}
theorem none_of {H : AHeap} {b : Nat} (h : ¬ H b ≠ none) : H b = none := Classical.byContradiction h
theorem wide_of {w w' : World} {g : Nat} (h : ∀ b, b < w.heap.size → b ≠ g → w'.heap[b]? = w.heap[b]?) (hg : ∀ m, Wide w g m → Wide w' g m) : ∀ b m, Wide w b m → Wide w' b m := by
  intro b m hb
  by_cases e : b = g
  · subst e; exact hg m hb
  · obtain ⟨cur, E, fz, h1, h2⟩ := hb
    exact ⟨cur, E, fz, (h b (lt_of_some h1) e).trans h1, h2⟩
/-- One owned block is written, or a new one is made. -/
theorem own_step {H H2 : AHeap} {w' : World} (hw : WR W S H w) (hos : w'.os = w.os) (htp : w'.tape = w.tape) (hout : w'.output = w.output) (hsz : w.heap.size ≤ w'.heap.size) {g : Nat} (hg : H g ≠ none ∨ w.heap.size ≤ g)
    (hb : ∀ b, b < w.heap.size → b ≠ g → w'.heap[b]? = w.heap[b]?) (hwd : ∀ m, Wide w g m → Wide w' g m) (hs : Sub H2 H) {o : AObj} (ho : OR S w' g o) : Ext S H w S (H2.put g o) w' ∧ WR W S (H2.put g o) w' := by
  have hSg : ∀ b, S b → b ≠ g := fun b hS e => by
    subst e
    rcases hg with h | h
    · cases e2 : H b with
      | none => exact h e2
      | some o2 => exact hw.apart b o2 e2 hS
    · have := hw.lt b hS; omega
  have hstill : ∀ b, S b → S b ∧ w'.heap[b]? = w.heap[b]? := fun b hS => ⟨hS, hb b (hw.lt b hS) (hSg b hS)⟩
  have hwide := wide_of hb hwd
  have hnew : W.heap.size ≤ g := by
    rcases hg with h | h
    · cases e2 : H g with
      | none => exact absurd e2 h
      | some o2 => exact hw.new g o2 e2
    · have := hw.old.size; omega
  refine ⟨⟨hsz, fun b hlt hn => hb b hlt (fun e => ?_), hwide, fun _ h => h, fun _ h => .inl h, fun b hn => ?_⟩, ⟨⟨hos.trans hw.old.os, htp.trans hw.old.tape, hout.trans hw.old.output, Nat.le_trans hw.old.size hsz, fun b hlt => ?_⟩, fun b o' e => ?_, fun b hS => Nat.lt_of_lt_of_le (hw.lt b hS) hsz, fun b o' e => ?_, fun b o' e => ?_⟩⟩
  · subst e
    rcases hg with h | h
    · exact h hn
    · omega
  · unfold AHeap.put at hn
    by_cases e : b = g
    · subst e; exact hg
    · rw [if_neg e] at hn
      left
      intro h
      cases e2 : H2 b with
      | none => exact hn e2
      | some o2 => rw [hs b o2 e2] at h; cases h
  · exact (hb b (Nat.lt_of_lt_of_le hlt hw.old.size) (by omega)).trans (hw.old.block b hlt)
  · unfold AHeap.put at e
    by_cases h : b = g
    · subst h; exact hnew
    · rw [if_neg h] at e; exact hw.new b o' (hs b o' e)
  · unfold AHeap.put at e
    by_cases h : b = g
    · intro hS; exact hSg b hS h
    · rw [if_neg h] at e; exact hw.apart b o' (hs b o' e)
  · unfold AHeap.put at e
    by_cases h : b = g
    · subst h; rw [if_pos rfl] at e; cases e; exact ho
    · rw [if_neg h] at e
      have h1 := hw.objs b o' (hs b o' e)
      exact h1.keep hstill hwide (hb b h1.lt h)
/-- A new block that never changes. -/
theorem fix_step {H : AHeap} {w' : World} (hw : WR W S H w) (hos : w'.os = w.os) (htp : w'.tape = w.tape) (hout : w'.output = w.output) (hsz : w'.heap.size = w.heap.size + 1)
    (hb : ∀ b, b < w.heap.size → w'.heap[b]? = w.heap[b]?) : Ext S H w (fun x => S x ∨ x = w.heap.size) H w' ∧ WR W (fun x => S x ∨ x = w.heap.size) H w' := by
  have hstill : ∀ b, S b → (S b ∨ b = w.heap.size) ∧ w'.heap[b]? = w.heap[b]? := fun b hS => ⟨.inl hS, hb b (hw.lt b hS)⟩
  have hwide : ∀ b m, Wide w b m → Wide w' b m := fun b m ⟨cur, E, fz, h1, h2⟩ => ⟨cur, E, fz, (hb b (lt_of_some h1)).trans h1, h2⟩
  refine ⟨⟨by omega, fun b hlt _ => hb b hlt, hwide, fun _ h => .inl h, fun b h => ?_, fun b h => .inl h⟩, ⟨⟨hos.trans hw.old.os, htp.trans hw.old.tape, hout.trans hw.old.output, by have := hw.old.size; omega, fun b hlt => (hb b (by have := hw.old.size; omega)).trans (hw.old.block b hlt)⟩, hw.new, fun b h => ?_, fun b o e h => ?_, fun b o e => ?_⟩⟩
  · rcases h with h | h
    · exact .inl h
    · exact .inr (.inl (by omega))
  · rcases h with h | h
    · have := hw.lt b h; omega
    · omega
  · have h1 := (hw.objs b o e).lt
    rcases h with h | h
    · exact hw.apart b o e h
    · omega
  · have h1 := hw.objs b o e
    exact h1.keep hstill hwide (hb b h1.lt)
/-- Draws change nothing that is known. -/
theorem Soft.new {w : World} {c : Array Value} {E : TypeId} {b n : Nat} (h : w.heap[b]? = some (.cells c E (0, 0))) : Soft w b n := fun o _ => by simp [World.frozen?, h]
theorem alloc_facts (w : World) (o : Obj) : (w.alloc o).os = w.os ∧ (w.alloc o).tape = w.tape ∧ (w.alloc o).output = w.output ∧ (w.alloc o).heap.size = w.heap.size + 1 ∧ (∀ b, b < w.heap.size → (w.alloc o).heap[b]? = w.heap[b]?) ∧ (w.alloc o).heap[w.heap.size]? = some o := by
  refine ⟨rfl, rfl, rfl, ?_, fun b hb => ?_, ?_⟩
  · show (w.heap.push o).size = _; simp
  · show (w.heap.push o)[b]? = _; simp [Array.getElem?_push, show b ≠ w.heap.size by omega]
  · show (w.heap.push o)[w.heap.size]? = _; simp

/-! ### Operations that write -/
inductive AE where
  | alloc (E : TypeId) (zero : List Value)
  | box (E : TypeId) (x : Operand)
  | bsl (E sz : Nat) (xs : List Operand)
  | st (n : Nat) (x y : Operand)
  | app (E sz by_ : Nat) (str : Bool) (x y : Operand)
  | appq (E sz by_ : Nat) (str : Bool) (x y : Operand)
  | s2b (E : TypeId) (x : Operand)
  | b2s (x : Operand)
  | call (f : FuncId) (xs : List Operand)
  | callq (f : FuncId) (xs : List Operand)
  | callv (x : Operand) (xs : List Operand)
  | mk
  | up (kc : Option IntKind) (x i v : Operand)
  | del (kc : Option IntKind) (x i : Operand)
  | rg (x : Operand)
  | nx (x : Operand)
  | srg (x : Operand)
  | snx (x : Operand)
  | me (kc : Option IntKind) (z : Value) (x i : Operand)
  | es (x n v : Operand)
  | niq (neg : Bool) (x : Operand)
def bytesOf (s : ByteArray) : List (List AVal) := s.data.toList.map fun b => [.v (.int .u8 b.toNat)]
/-- What is appended. -/
def srcOf (H : AHeap) (sz : Nat) : AVal → Option (List (List AVal))
  | .sl _ sz' rows => if sz = sz' then some rows else none
  | .v (.slice none 0 0) => some []
  | .v (.string s) => if sz = 1 then some (bytesOf s) else none
  | .bs g sz' n => match H g with
    | some (.buf _ sz2 rows) => if sz = sz' ∧ sz = sz2 ∧ n ≤ rows.length then some (rows.take n) else none
    | _ => none
  | .bv _ g sz' lo n => match H g with
    | some (.buf _ sz2 rows) => if sz = sz' ∧ sz = sz2 ∧ lo + n ≤ rows.length then some ((rows.drop lo).take n) else none
    | _ => none
  | _ => none
def isSl : AVal → Bool
  | .v (.slice none 0 0) | .sl _ _ _ | .bs _ _ _ | .bv _ _ _ _ _ => true
  | _ => false
def aapp (H : AHeap) (E sz by_ : Nat) (x : AVal) (new : List (List AVal)) (K : AVal → AHeap → Prop) : Prop :=
  (new = [] → isSl x = true ∧ K x H) ∧ (new ≠ [] →
  match x with
  | .v (.slice none 0 0) => new.length * by_ ≤ 140737488355328 ∧ ∀ g, H g = none → K (.bs g sz new.length) (H.put g (.buf E sz new))
  | .sl true sz' rows => (sz = sz' ∧ (rows.length + new.length) * by_ ≤ 140737488355328) ∧ ∀ g, H g = none → K (.bs g sz (rows.length + new.length)) (H.put g (.buf E sz (rows ++ new)))
  | .bs g sz' n => match H g with
    | some (.buf E' sz2 rows) => (E = E' ∧ sz = sz' ∧ sz = sz2 ∧ n ≤ rows.length ∧ (n + new.length) * by_ ≤ 140737488355328) ∧ ∀ g', (H.del g) g' = none → K (.bs g' sz (n + new.length)) ((H.del g).put g' (.buf E sz (rows.take n ++ new)))
    | _ => False
  | .bv true g sz' lo n => match H g with
    | some (.buf E' sz2 rows) => (sz = sz' ∧ sz = sz2 ∧ lo + n ≤ rows.length ∧ (n + new.length) * by_ ≤ 140737488355328) ∧ ∀ g', H g' = none → K (.bs g' sz (n + new.length)) (H.put g' (.buf E sz ((rows.drop lo).take n ++ new)))
    | _ => False
  | _ => False)
/-- An append that always makes a new row. -/
def growsA : AVal → Bool
  | .v (.slice none 0 0) | .sl true _ _ | .bv true _ _ _ _ => true
  | _ => false
def ast (H : AHeap) (n : Nat) (x : AVal) (p : List AVal) (K : AHeap → Prop) : Prop :=
  (p.length = n ∧ p.all (·.one) = true) ∧
  match x with
  | .v (.pointer (some ⟨b, o, none⟩)) => match H b with
    | some (.cells E cs) => o + n ≤ cs.length ∧ K (H.put b (.cells E (cs.take o ++ p ++ cs.drop (o + n))))
    | _ => False
  | .bp g sz i k => match H g with
    | some (.buf E sz' rows) => sz = sz' ∧ ∃ r, rows[i]? = some r ∧ k + n ≤ r.length ∧ K (H.put g (.buf E sz (rows.set i (r.take k ++ p ++ r.drop (k + n)))))
    | _ => False
  | _ => False
/-- The block of a map that is owned. -/
def mapB : AVal → Option Nat
  | .v (.map (some b)) => some b
  | _ => none
def ptrB : AVal → Option Nat
  | .v (.pointer (some ⟨r, 0, none⟩)) => some r
  | _ => none
def strA : AVal → Option ByteArray
  | .v (.string t) => some t
  | _ => none
def mapped (H : AHeap) (x : AVal) (K : Nat → List (Value × Nat × AVal) → Nat → Prop) : Prop := match mapB x with
  | some b => match H b with
    | some (.mp l c) => K b l c
    | _ => False
  | none => False
/-- Is a slice nil? -/
def niqA (x : AVal) (K : Bool → Prop) : Prop := match x with
  | .sl _ _ rows => ∀ t : Bool, (t = true → rows = []) → K t
  | .v (.slice none _ _) => K true
  | .bs _ _ _ | .bv _ _ _ _ _ => K false
  | _ => False
def flip (neg t : Bool) : Bool := match neg with
  | true => !t
  | false => t
def callable (P : Program) (f : FuncId) : Bool :=
  match P.funcs[f]? with
  | some fn => !(fn.name == "runtime.NumGoroutine") && fn.body.isSome
  | none => false
def aeff (P : Program) (W : World) (m : AE) (d : Option Nat) (s : AState) (K : AState → Prop) : Prop :=
  match m with
  | .alloc E zero => ∀ b, s.H b = none → K ((⟨s.tm, s.H.put b (.cells E (zero.map .v))⟩ : AState).put d (.v (.pointer (some ⟨b, 0, none⟩))))
  | .box E x => (oneOr (ev s.tm x)).all (·.one) = true ∧ ∀ b, s.H b = none → K ((⟨s.tm, s.H.put b (.cells E (oneOr (ev s.tm x)))⟩ : AState).put d (.v (.pointer (some ⟨b, 0, none⟩))))
  | .bsl E sz xs => ((xs.map fun x => oneOr (ev s.tm x)).all fun r => r.length == sz && r.all (·.one)) = true ∧ K (s.put d (.sl true sz (xs.map fun x => oneOr (ev s.tm x))))
  | .st n x y => ast s.H n (ev s.tm x) (oneOr (ev s.tm y)) fun H' => K ((⟨s.tm, H'⟩ : AState).put d .any)
  | .app E sz by_ str x y => ∃ new, srcOf s.H sz (ev s.tm y) = some new ∧ aapp s.H E sz by_ (ev s.tm x) new fun r H' => K ((⟨s.tm, H'⟩ : AState).put d r)
  | .appq E sz by_ str x y => growsA (ev s.tm x) = true ∧ ∃ new, srcOf s.H sz (ev s.tm y) = some new ∧ aapp s.H E sz by_ (ev s.tm x) new fun r H' => K ((⟨s.tm, H'⟩ : AState).put d r)
  | .s2b E x => match ev s.tm x with
    | .v (.string t) => t.size ≤ 9223372036854775807 ∧ ∀ g, s.H g = none → K ((⟨s.tm, s.H.put g (.buf E 1 (bytesOf t))⟩ : AState).put d (.bs g 1 t.size))
    | _ => False
  | .b2s x => isSl (ev s.tm x) = true ∧ ∃ rows bs, srcOf s.H 1 (ev s.tm x) = some rows ∧ rows = bytesOf bs ∧ K (s.put d (.v (.string bs)))
  | .call f xs => ∃ s1, Weak s s1 ∧ ACalls P W f (xs.map (ev s1.tm)) s1.H fun r H' => K ((⟨s1.tm, H'⟩ : AState).put d r)
  | .callq f xs => ACalls P W f (xs.map (ev s.tm)) AHeap.none fun r _ => K (s.put d r)
  | .callv x xs => match ev s.tm x with
    | .fn f caps => callable P f = true ∧ ACalls P W f (xs.map (ev s.tm) ++ caps) s.H fun r H' => K ((⟨s.tm, H'⟩ : AState).put d r)
    | _ => False
  | .mk => ∀ b, s.H b = none → K ((⟨s.tm, s.H.put b (.mp [] 0)⟩ : AState).put d (.v (.map (some b))))
  | .up kc x i v => mapped s.H (ev s.tm x) fun b l c => (l.all (fun e => kOk kc e.1) = true ∧ kOk kc (keyA (ev s.tm i)) = true) ∧ K ((⟨s.tm, s.H.put b (.mp (mput (keyA (ev s.tm i)) (ev s.tm v) c l) (mclk (keyA (ev s.tm i)) c l))⟩ : AState).put d .any)
  | .del kc x i => mapped s.H (ev s.tm x) fun b l c => (l.all (fun e => kOk kc e.1) = true ∧ kOk kc (keyA (ev s.tm i)) = true) ∧ K ((⟨s.tm, s.H.put b (.mp (mdel (keyA (ev s.tm i)) l) c)⟩ : AState).put d .any)
  | .rg x => mapped s.H (ev s.tm x) fun b l c => ∀ r, s.H r = none → K ((⟨s.tm, s.H.put r (.it b c [] c)⟩ : AState).put d (.v (.pointer (some ⟨r, 0, none⟩))))
  | .nx x => match ptrB (ev s.tm x) with
    | some r => match s.H r with
      | some (.it m since seen c0) => match s.H m with
        | some (.mp l c) => ((∀ e ∈ l, e.2.1 < since) ∧ since ≤ c0) ∧ ((∀ e ∈ l, e.2.1 ∈ seen) → K (s.put d (.tup [.v (.bool false)]))) ∧ ∀ e ∈ l, e.2.1 ∉ seen → K ((⟨s.tm, s.H.put r (.it m since (seen ++ [e.2.1]) c)⟩ : AState).put d (.tup [.v (.bool true), .v e.1, e.2.2]))
        | _ => False
      | _ => False
    | none => False
  | .srg x => match strA (ev s.tm x) with
    | some t => ∀ r, s.H r = none → K ((⟨s.tm, s.H.put r (.si t 0)⟩ : AState).put d (.v (.pointer (some ⟨r, 0, none⟩))))
    | none => False
  | .snx x => match ptrB (ev s.tm x) with
    | some r => match s.H r with
      | some (.si t p) => (p < t.size → K ((⟨s.tm, s.H.put r (.si t (p + (Utf8.decode t p).2))⟩ : AState).put d (.tup [.v (.bool true), .v (.int .i64 p), .v (.int .i32 (Utf8.decode t p).1)]))) ∧ (¬ p < t.size → K (s.put d (.tup [.v (.bool false)])))
      | _ => False
    | none => False
  | .me kc z x i => mapped s.H (ev s.tm x) fun b l c => (l.all (fun e => kOk kc e.1) = true ∧ kOk kc (keyA (ev s.tm i)) = true) ∧
      K ((⟨s.tm, s.H.put b (.mp (mput (keyA (ev s.tm i)) ((mget (keyA (ev s.tm i)) l).getD (zeroA z)) c l) (mclk (keyA (ev s.tm i)) c l))⟩ : AState).put d (.tup [(mget (keyA (ev s.tm i)) l).getD (zeroA z), .v (.int .i64 (mborn (keyA (ev s.tm i)) c l))]))
  | .es x n v => mapped s.H (ev s.tm x) fun b l c => match ev s.tm n with
    | .v (.int .i64 k) => (∃ e ∈ l, (e.2.1 : Int) = k) ∧ K ((⟨s.tm, s.H.put b (.mp (mset k.toNat (ev s.tm v) l) c)⟩ : AState).put d .any)
    | _ => False
  | .niq neg x => niqA (ev s.tm x) fun t => K (s.put d (.v (.bool (flip neg t))))

def compE (P : Program) : Op → Option AE
  | .alloc E => match (P.info? E).bind (·.zero) with
    | some z => if z.cells.all (·.oneCell') then some (.alloc E z.cells.toList) else none
    | none => none
  | .box E x => some (.box E x)
  | .buildSlice t len parts => match P.underlying t with
    | some (.slice E) => match szOf P E, (P.info? E).bind (·.zero) with
      | some sz, some z => if parts.toList.map (·.1) = List.range len ∧ len * sz ≤ 16777216 ∧ z.cells.size = sz ∧ 0 < sz ∧ z.cells.all (·.oneCell') = true then some (.bsl E sz (parts.toList.map (·.2))) else none
      | _, _ => none
    | _ => none
  | .store t x y => (szOf P t).map fun n => .st n x y
  | .call ⟨.builtin .append, args, ts⟩ => match args.toList, ts.toList with
    | [x, y], [t, u] => match P.underlying t with
      | some (.slice E) => match P.info? E with
        | some i => match i.zero with
          | some z => if z.cells.size = i.size ∧ 0 < i.size ∧ 0 < i.bytes then
              match P.underlying u with
              | some (.slice _) => some (.app E i.size i.bytes false x y)
              | some .string => some (.app E i.size i.bytes true x y)
              | _ => none
            else none
          | none => none
        | none => none
      | _ => none
    | _, _ => none
  | .convert sr dt x => match P.underlying sr, P.underlying dt with
    | some .string, some (.slice E) => match P.underlying E with
      | some (.int .u8) => some (.s2b E x)
      | _ => none
    | some (.slice E), some .string => match P.underlying E with
      | some (.int .u8) => some (.b2s x)
      | _ => none
    | _, _ => none
  | .makeMap _ r => if r.isNone then some .mk else none
  | .mapUpdate t x i v => match P.underlying t with
    | some (.map k _) => (kcOf P k).map fun kc => .up kc x i v
    | _ => none
  | .call ⟨.builtin .delete, args, ts⟩ => match args.toList, ts.toList with
    | [x, i], [t, _] => match P.underlying t with
      | some (.map k _) => (kcOf P k).map fun kc => .del kc x i
      | _ => none
    | _, _ => none
  | .range t x => match P.underlying t with
    | some (.map _ _) => some (.rg x)
    | some .string => some (.srg x)
    | _ => none
  | .next x str => if str then some (.snx x) else some (.nx x)
  | .mapEntry t x i => match P.underlying t with
    | some (.map k e) => match kcOf P k, (P.info? e).bind (·.zero) with
      | some kc, some z => if z.cells.all (·.oneCell') then some (.me kc z x i) else none
      | _, _ => none
    | _ => none
  | .entryStore _ x n v => some (.es x n v)
  | .binOp op t x y _ => match P.underlying t, y, op with
    | some (.slice _), .const (.slice none _ _), .eql => some (.niq false x)
    | some (.slice _), .const (.slice none _ _), .neq => some (.niq true x)
    | _, _, _ => none
  | .call ⟨.value (.func f), args, _⟩ => if callable P f then some (.call f args.toList) else none
  | .call ⟨.value x, args, _⟩ => some (.callv x args.toList)
  | _ => none
end Go.Proofs.Ytidicfdcjoggpaa.M
