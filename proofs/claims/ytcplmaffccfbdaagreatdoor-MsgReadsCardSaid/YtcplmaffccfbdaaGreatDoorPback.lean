/-
  A policy's text, read, is the policy: in plain Lean.
-/
import Derived.Test.YtcplmaffccfbdaaGreatDoorPread
import Derived.Test.YtcplmaffccfbdaaGreatDoorPr4
namespace Go.Proofs.YtcplmaffccfbdaaGreatDoor.M
open Go.RowKit
set_option linter.unusedVariables false
set_option linter.unusedSimpArgs false
/-! ### Cut at a byte -/
def consHead (b : UInt8) : List (List UInt8) → List (List UInt8)
  | [] => [[b]]
  | x :: xs => (b :: x) :: xs
def cutL (c : UInt8) : List UInt8 → List (List UInt8)
  | [] => [[]]
  | b :: l => if b = c then [] :: cutL c l else consHead b (cutL c l)
theorem cutL_app (c : UInt8) : ∀ (a b : List UInt8), c ∉ a → cutL c (a ++ c :: b) = a :: cutL c b
  | [], b, _ => by simp [cutL]
  | x :: a, b, h => by
    have h1 : x ≠ c := fun e => h (by simp [e])
    have h2 : c ∉ a := fun e => h (by simp [e])
    rw [List.cons_append, cutL, if_neg h1, cutL_app c a b h2]
    rfl
theorem cutL_no (c : UInt8) : ∀ (a : List UInt8), c ∉ a → cutL c a = [a]
  | [], _ => rfl
  | x :: a, h => by
    have h1 : x ≠ c := fun e => h (by simp [e])
    have h2 : c ∉ a := fun e => h (by simp [e])
    rw [cutL, if_neg h1, cutL_no c a h2]
    rfl
theorem splitK_cut (c : UInt8) : ∀ (l : List UInt8), Lib.splitK [c] 0 (Lib.count l [c]) l = cutL c l
  | [] => by rw [Lib.count_miss (by simp [Lib.index])]; rfl
  | b :: l => by
    have ih := splitK_cut c l
    by_cases h : b = c
    · subst h
      have hix : Lib.index (b :: l) [b] = ((0 : Nat) : Int) := by rw [Lib.index]; simp [List.isPrefixOf]
      rw [Lib.count_cons_eq, Nat.add_comm, Lib.splitK, hix, if_neg (by decide), cutL, if_pos rfl, ← ih]
      rfl
    · have hp : ([c] : List UInt8).isPrefixOf (b :: l) = false := by simp [List.isPrefixOf, Ne.symm h]
      have hix : Lib.index (b :: l) [c] = if Lib.index l [c] == -1 then -1 else Lib.index l [c] + 1 := by rw [Lib.index, hp]; simp
      rw [Lib.count_cons_ne b c l h, cutL, if_neg h, ← ih]
      by_cases hm : Lib.index l [c] = -1
      · rw [Lib.count_miss hm]; rfl
      · have hge := Lib.index_ge l [c]
        obtain ⟨j, hj⟩ : ∃ j : Nat, Lib.index l [c] = j := ⟨(Lib.index l [c]).toNat, by omega⟩
        have hm1 : ¬ (Lib.index l [c] == -1) = true := fun e => hm (beq_iff_eq.1 e)
        have hix' : Lib.index (b :: l) [c] = ((j + 1 : Nat) : Int) := by rw [hix, if_neg hm1, hj]; omega
        rw [Lib.count_hit (by simp) hj, Nat.add_comm, Lib.splitK, Lib.splitK, hix', if_neg (by rw [beq_iff_eq]; omega), if_neg hm1, hj]
        rfl
def ch (c : UInt8) : Str := ⟨#[c]⟩
theorem splitS_cut (s : Str) (c : UInt8) : (splitS s (ch c)).map bl = cutL c (bl s) := by
  have h := Lib.splitB_data (ch c) 0 (Lib.countB s (ch c)) s
  show (Lib.splitB (ch c) 0 (Lib.countB s (ch c)) s).map (·.data.toList) = _
  rw [h]
  exact splitK_cut c (bl s)
theorem blmap_inj : ∀ {a b : List Str}, a.map bl = b.map bl → a = b
  | [], [], _ => rfl
  | [], _ :: _, h => by cases h
  | _ :: _, [], h => by cases h
  | x :: a, y :: b, h => by
    injection h with h1 h2
    rw [bl_inj h1, blmap_inj h2]
theorem splitS_app (c : UInt8) (a b : Str) (h : c ∉ bl a) : splitS ((a ++ ch c : Str) ++ b : Str) (ch c) = a :: splitS b (ch c) := by
  apply blmap_inj
  rw [splitS_cut, List.map_cons, splitS_cut, bl_app, bl_app, List.append_assoc]
  exact cutL_app c _ _ h
theorem splitS_no (c : UInt8) (a : Str) (h : c ∉ bl a) : splitS a (ch c) = [a] := by
  apply blmap_inj
  rw [splitS_cut]
  exact cutL_no c _ h
/-! ### Words -/
/-- Neither a line's end nor a space. -/
def Plain (s : Str) : Prop := (10 : UInt8) ∉ bl s ∧ (32 : UInt8) ∉ bl s
theorem plain_app {a b : Str} (h1 : Plain a) (h2 : Plain b) : Plain (a ++ b) := by
  constructor
  · rw [bl_app]; intro h
    rcases List.mem_append.1 h with h | h
    · exact h1.1 h
    · exact h2.1 h
  · rw [bl_app]; intro h
    rcases List.mem_append.1 h with h | h
    · exact h1.2 h
    · exact h2.2 h
theorem join2 (a b : Str) : joinS [a, b] spS = ((a ++ ch 32 : Str) ++ b : Str) := by
  apply bl_inj
  show (Lib.join [bl a, bl b] (bl spS)).toArray.toList = _
  rw [bl_app, bl_app]
  simp [Lib.join, List.intercalate, List.intersperse, bl, spS, ch]
theorem join4 (a b c d : Str) : joinS [a, b, c, d] spS = ((a ++ ch 32 : Str) ++ ((b ++ ch 32 : Str) ++ ((c ++ ch 32 : Str) ++ d : Str) : Str) : Str) := by
  apply bl_inj
  show (Lib.join [bl a, bl b, bl c, bl d] (bl spS)).toArray.toList = _
  simp only [bl_app]
  simp [Lib.join, List.intercalate, List.intersperse, bl, spS, ch]
theorem ten_no {a b : Str} (h1 : Plain a) (h2 : Plain b) : (10 : UInt8) ∉ bl (joinS [a, b] spS) := by
  rw [join2, bl_app, bl_app]
  intro h
  rcases List.mem_append.1 h with h | h
  · rcases List.mem_append.1 h with h | h
    · exact h1.1 h
    · exact absurd h (by decide)
  · exact h2.1 h
theorem split2 {a b : Str} (h1 : Plain a) (h2 : Plain b) : splitS (joinS [a, b] spS) spS = [a, b] := by
  rw [join2, show spS = ch 32 from rfl, splitS_app 32 a b h1.2, splitS_no 32 b h2.2]
theorem split4 {a b c d : Str} (h1 : Plain a) (h2 : Plain b) (h3 : Plain c) (h4 : Plain d) : splitS (joinS [a, b, c, d] spS) spS = [a, b, c, d] := by
  rw [join4, show spS = ch 32 from rfl, splitS_app 32 a _ h1.2, splitS_app 32 b _ h2.2, splitS_app 32 c _ h3.2, splitS_no 32 d h4.2]
theorem ten_no4 {a b c d : Str} (h1 : Plain a) (h2 : Plain b) (h3 : Plain c) (h4 : Plain d) : (10 : UInt8) ∉ bl (joinS [a, b, c, d] spS) := by
  rw [join4]
  simp only [bl_app]
  intro h
  simp only [List.mem_append] at h
  have k : (10 : UInt8) ∉ bl (ch 32) := by decide
  rcases h with (h | h) | (h | h) | (h | h) | h
  · exact h1.1 h
  · exact k h
  · exact h2.1 h
  · exact k h
  · exact h3.1 h
  · exact k h
  · exact h4.1 h
/-! ### Taken, by any way to read numbers -/
def takenG (num : Str → Int) (p : Pol) (w : List Str) : Pol :=
  let w0 := w.getD 0 ByteArray.empty
  let w1 := w.getD 1 ByteArray.empty
  if w.length = 4 ∧ w0 = (⟨#[99, 97, 112, 115]⟩ : ByteArray) then { p with depth := num w1, nodes := num (w.getD 2 ByteArray.empty), bytes := num (w.getD 3 ByteArray.empty) }
  else if w.length ≠ 2 then p
  else if w0 = (⟨#[101, 112, 111, 99, 104]⟩ : ByteArray) then { p with epoch := num w1 }
  else if w0 = (⟨#[101, 108, 101, 109]⟩ : ByteArray) then { p with elems := p.elems ++ [w1] }
  else if w0 = (⟨#[97, 116, 116, 114]⟩ : ByteArray) then { p with attrs := p.attrs ++ [w1] }
  else if w0 = (⟨#[115, 99, 104, 101, 109, 101]⟩ : ByteArray) then { p with schemes := p.schemes ++ [w1] }
  else if w0 = (⟨#[99, 108, 97, 115, 115]⟩ : ByteArray) then { p with classes := p.classes ++ [w1] }
  else if w0 = (⟨#[112, 114, 111, 112]⟩ : ByteArray) then { p with props := p.props ++ [w1] }
  else p
theorem takenP_G : takenP = takenG numP := rfl
def foldG (num : Str → Int) (s : Str) (p : Pol) : Pol := (splitS s nlS).foldl (fun p l => takenG num p (splitS l spS)) p
theorem readP_G (s : Str) : readP s = foldG numP s pol0 := rfl
theorem foldG_line {num : Str → Int} {a b : Str} (h1 : Plain a) (h2 : Plain b) (rest : Str) (p : Pol) : foldG num ((lineS [a, b] ++ rest : Str)) p = foldG num rest (takenG num p [a, b]) := by
  unfold foldG lineS
  rw [show nlS = ch 10 from rfl, splitS_app 10 _ _ (ten_no h1 h2), List.foldl_cons, split2 h1 h2]
theorem foldG_line4 {num : Str → Int} {a b c d : Str} (h1 : Plain a) (h2 : Plain b) (h3 : Plain c) (h4 : Plain d) (rest : Str) (p : Pol) : foldG num ((lineS [a, b, c, d] ++ rest : Str)) p = foldG num rest (takenG num p [a, b, c, d]) := by
  unfold foldG lineS
  rw [show nlS = ch 10 from rfl, splitS_app 10 _ _ (ten_no4 h1 h2 h3 h4), List.foldl_cons, split4 h1 h2 h3 h4]
theorem foldG_nil {num : Str → Int} (p : Pol) : foldG num ByteArray.empty p = p := by
  unfold foldG
  rw [show nlS = ch 10 from rfl, splitS_no 10 _ (by decide)]
  rw [List.foldl_cons, show spS = ch 32 from rfl, splitS_no 32 _ (by decide)]
  simp [takenG]
theorem foldG_lines {num : Str → Int} {hd : Str} (h1 : Plain hd) : ∀ (l : List Str) (rest : Str) (p : Pol), (∀ s ∈ l, Plain s) → foldG num ((linesS hd ByteArray.empty l ++ rest : Str)) p = foldG num rest (l.foldl (fun p w => takenG num p [hd, w]) p)
  | [], rest, p, _ => by
    show foldG num (ByteArray.empty ++ rest) p = _
    rw [ByteArray.empty_append]; rfl
  | s :: l, rest, p, h => by
    have e : linesS hd ByteArray.empty (s :: l) = ((lineS [hd, s] : Str) ++ linesS hd ByteArray.empty l : Str) := by
      show linesS hd (ByteArray.empty ++ lineS [hd, s]) l = _
      rw [lines_app, ByteArray.empty_append]
    rw [e, ByteArray.append_assoc, foldG_line h1 (h s (by simp)), foldG_lines h1 l rest _ (fun x hx => h x (by simp [hx]))]
    rfl
theorem taken_elem (num : Str → Int) (p : Pol) (w : Str) : takenG num p [(⟨#[101, 108, 101, 109]⟩ : ByteArray), w] = { p with elems := p.elems ++ [w] } := rfl
theorem fold_elem (num : Str → Int) : ∀ (l : List Str) (p : Pol), l.foldl (fun p w => takenG num p [(⟨#[101, 108, 101, 109]⟩ : ByteArray), w]) p = { p with elems := p.elems ++ l }
  | [], p => by rw [List.foldl_nil, List.append_nil]
  | w :: l, p => by
    rw [List.foldl_cons, fold_elem num l, taken_elem]
    simp only [List.append_assoc, List.cons_append, List.nil_append]
theorem taken_attr (num : Str → Int) (p : Pol) (w : Str) : takenG num p [(⟨#[97, 116, 116, 114]⟩ : ByteArray), w] = { p with attrs := p.attrs ++ [w] } := rfl
theorem fold_attr (num : Str → Int) : ∀ (l : List Str) (p : Pol), l.foldl (fun p w => takenG num p [(⟨#[97, 116, 116, 114]⟩ : ByteArray), w]) p = { p with attrs := p.attrs ++ l }
  | [], p => by rw [List.foldl_nil, List.append_nil]
  | w :: l, p => by
    rw [List.foldl_cons, fold_attr num l, taken_attr]
    simp only [List.append_assoc, List.cons_append, List.nil_append]
theorem taken_scheme (num : Str → Int) (p : Pol) (w : Str) : takenG num p [(⟨#[115, 99, 104, 101, 109, 101]⟩ : ByteArray), w] = { p with schemes := p.schemes ++ [w] } := rfl
theorem fold_scheme (num : Str → Int) : ∀ (l : List Str) (p : Pol), l.foldl (fun p w => takenG num p [(⟨#[115, 99, 104, 101, 109, 101]⟩ : ByteArray), w]) p = { p with schemes := p.schemes ++ l }
  | [], p => by rw [List.foldl_nil, List.append_nil]
  | w :: l, p => by
    rw [List.foldl_cons, fold_scheme num l, taken_scheme]
    simp only [List.append_assoc, List.cons_append, List.nil_append]
theorem taken_class (num : Str → Int) (p : Pol) (w : Str) : takenG num p [(⟨#[99, 108, 97, 115, 115]⟩ : ByteArray), w] = { p with classes := p.classes ++ [w] } := rfl
theorem fold_class (num : Str → Int) : ∀ (l : List Str) (p : Pol), l.foldl (fun p w => takenG num p [(⟨#[99, 108, 97, 115, 115]⟩ : ByteArray), w]) p = { p with classes := p.classes ++ l }
  | [], p => by rw [List.foldl_nil, List.append_nil]
  | w :: l, p => by
    rw [List.foldl_cons, fold_class num l, taken_class]
    simp only [List.append_assoc, List.cons_append, List.nil_append]
theorem taken_prop (num : Str → Int) (p : Pol) (w : Str) : takenG num p [(⟨#[112, 114, 111, 112]⟩ : ByteArray), w] = { p with props := p.props ++ [w] } := rfl
theorem fold_prop (num : Str → Int) : ∀ (l : List Str) (p : Pol), l.foldl (fun p w => takenG num p [(⟨#[112, 114, 111, 112]⟩ : ByteArray), w]) p = { p with props := p.props ++ l }
  | [], p => by rw [List.foldl_nil, List.append_nil]
  | w :: l, p => by
    rw [List.foldl_cons, fold_prop num l, taken_prop]
    simp only [List.append_assoc, List.cons_append, List.nil_append]
theorem textP_flat (p : Pol) : textP p = ((lineS [(⟨#[101, 112, 111, 99, 104]⟩ : ByteArray), itoaS p.epoch] : Str) ++ ((linesS (⟨#[101, 108, 101, 109]⟩ : ByteArray) ByteArray.empty p.elems : Str) ++ ((linesS (⟨#[97, 116, 116, 114]⟩ : ByteArray) ByteArray.empty p.attrs : Str) ++ ((linesS (⟨#[115, 99, 104, 101, 109, 101]⟩ : ByteArray) ByteArray.empty p.schemes : Str) ++ ((linesS (⟨#[99, 108, 97, 115, 115]⟩ : ByteArray) ByteArray.empty p.classes : Str) ++ ((linesS (⟨#[112, 114, 111, 112]⟩ : ByteArray) ByteArray.empty p.props : Str) ++ ((lineS [(⟨#[99, 97, 112, 115]⟩ : ByteArray), itoaS p.depth, itoaS p.nodes, itoaS p.bytes] : Str) ++ (ByteArray.empty : Str) : Str) : Str) : Str) : Str) : Str) : Str) : Str) := by
  show linesS (⟨#[112, 114, 111, 112]⟩ : ByteArray) (linesS (⟨#[99, 108, 97, 115, 115]⟩ : ByteArray) (linesS (⟨#[115, 99, 104, 101, 109, 101]⟩ : ByteArray) (linesS (⟨#[97, 116, 116, 114]⟩ : ByteArray) (linesS (⟨#[101, 108, 101, 109]⟩ : ByteArray) (ByteArray.empty ++ lineS [(⟨#[101, 112, 111, 99, 104]⟩ : ByteArray), itoaS p.epoch]) p.elems) p.attrs) p.schemes) p.classes) p.props ++ _ = _
  rw [lines_app (⟨#[112, 114, 111, 112]⟩ : ByteArray), lines_app (⟨#[99, 108, 97, 115, 115]⟩ : ByteArray), lines_app (⟨#[115, 99, 104, 101, 109, 101]⟩ : ByteArray), lines_app (⟨#[97, 116, 116, 114]⟩ : ByteArray), lines_app (⟨#[101, 108, 101, 109]⟩ : ByteArray)]
  simp only [ByteArray.append_assoc, ByteArray.empty_append, ByteArray.append_empty]
/-! ### Numbers -/
def isDig (c : UInt8) : Prop := 48 ≤ c.toNat ∧ c.toNat ≤ 57
theorem decDigits_dig : ∀ (n : Nat), ∀ c ∈ Lib.decDigits n, isDig c := by
  intro n
  induction n using Nat.strongRecOn with
  | _ n ih =>
    intro c hc
    have hd : ∀ d, d < 10 → c = UInt8.ofNat (48 + d) → isDig c := fun d hd e => by
      subst e
      unfold isDig
      rw [UInt8.toNat_ofNat']
      omega
    rw [Lib.decDigits] at hc
    split at hc
    · rename_i h
      exact hd n h (by simpa using hc)
    · rename_i h
      rcases List.mem_append.1 hc with h2 | h2
      · exact ih (n / 10) (by omega) c h2
      · exact hd (n % 10) (by omega) (by simpa using h2)
theorem decDigits_ne (n : Nat) : Lib.decDigits n ≠ [] := by
  rw [Lib.decDigits]; split <;> simp
def dval (a : Nat) (l : List UInt8) : Nat := l.foldl (fun a c => a * 10 + (c.toNat - 48)) a
theorem dval_dec : ∀ (n : Nat), dval 0 (Lib.decDigits n) = n := by
  intro n
  induction n using Nat.strongRecOn with
  | _ n ih =>
    have hd : ∀ d, d < 10 → (UInt8.ofNat (48 + d)).toNat = 48 + d := fun d hd => by rw [UInt8.toNat_ofNat']; omega
    rw [Lib.decDigits]
    split
    · rename_i h
      simp [dval]
      omega
    · rename_i h
      have := ih (n / 10) (by omega)
      unfold dval at this ⊢
      rw [List.foldl_append, this]
      simp [hd (n % 10) (by omega)]
      omega
theorem dval_ge : ∀ (l : List UInt8) (a : Nat), a ≤ dval a l
  | [], a => Nat.le_refl _
  | c :: l, a => by
    have := dval_ge l (a * 10 + (c.toNat - 48))
    show a ≤ dval (a * 10 + (c.toNat - 48)) l
    omega
theorem parse_dig : ∀ (l : List UInt8) (a : Nat), (∀ c ∈ l, isDig c) → dval a l < 1000000000000000000 → Lib.parseUint10 a l = .ok (dval a l)
  | [], a, _, _ => rfl
  | c :: l, a, h, hb => by
    have hc := h c (by simp)
    have h2 := dval_ge l (a * 10 + (c.toNat - 48))
    have hb' : dval (a * 10 + (c.toNat - 48)) l < 1000000000000000000 := hb
    rw [Lib.parseUint10, if_pos (show 48 ≤ c.toNat ∧ c.toNat ≤ 57 from hc), if_neg (by omega), if_neg (by omega), parse_dig l _ (fun x hx => h x (by simp [hx])) hb']
    rfl
theorem atoi_dec (n : Nat) (h : n < 1000000000000000000) : Lib.atoiAll (Lib.decDigits n) = .ok (n : Int) := by
  have h1 := decDigits_dig n
  have h2 := dval_dec n
  have h3 := decDigits_ne n
  generalize Lib.decDigits n = l at h1 h2 h3
  cases l with
  | nil => exact absurd rfl h3
  | cons c r =>
    have hc := h1 c (by simp)
    unfold isDig at hc
    have hp : Lib.parseMag (c :: r) = .ok n := by
      unfold Lib.parseMag
      rw [if_neg (by simp), parse_dig _ 0 h1 (by rw [h2]; exact h), h2]
    unfold Lib.atoiAll
    have k1 : ¬ (c.toNat = 43 ∨ c.toNat = 45) := by omega
    have k2 : ¬ c.toNat = 45 := by omega
    simp only [if_neg k1, hp]
    rw [if_neg (by omega), if_neg (fun h => k2 h.1), if_neg k2]
theorem numP_itoa (n : Int) (h0 : 0 ≤ n) (h1 : n ≤ 1000000) : numP (itoaS n) = n := by
  obtain ⟨k, rfl⟩ : ∃ k : Nat, n = k := ⟨n.toNat, by omega⟩
  unfold numP
  rw [show (itoaS (k : Int)).data.toList = Lib.decDigits k from bl_itoa k, atoi_dec k (by omega)]
theorem itoa_plain (n : Int) (h0 : 0 ≤ n) : Plain (itoaS n) := by
  obtain ⟨k, rfl⟩ : ∃ k : Nat, n = k := ⟨n.toNat, by omega⟩
  unfold Plain
  rw [bl_itoa]
  refine ⟨fun h => ?_, fun h => ?_⟩
  · have := decDigits_dig k _ h; unfold isDig at this; revert this; decide
  · have := decDigits_dig k _ h; unfold isDig at this; revert this; decide
/-! ### What is right is of plain words -/
theorem bt_get {s : Str} {k : Nat} (hk : k < (bl s).length) : bt s (k : Int) = ((bl s)[k].toNat : Int) := by
  unfold bt
  rw [Int.toNat_natCast, List.getD_eq_getElem?_getD, show s.data.toList = bl s from rfl, List.getElem?_eq_getElem hk]
  rfl
theorem bt_mem {s : Str} {c : UInt8} (h : c ∈ bl s) : ∃ i : Nat, i < s.size ∧ bt s (i : Int) = (c.toNat : Int) := by
  obtain ⟨i, hi, e⟩ := List.getElem_of_mem h
  exact ⟨i, by rw [← bl_len]; exact hi, by rw [bt_get hi, e]⟩
theorem byte_bad {s : Str} (h : ∀ i, i < s.size → okB i (bt s (i : Int)) = true) {c : UInt8} (hc : c = 10 ∨ c = 32) : c ∉ bl s := fun hm => by
  obtain ⟨i, hi, e⟩ := bt_mem hm
  have h1 := h i hi
  rw [e] at h1
  rcases hc with rfl | rfl <;> simp [okB] at h1
theorem word_plain {s : Str} (h : wordP s = true) : Plain s ∧ s.size ≤ 32 := by
  unfold wordP at h
  simp only [Bool.and_eq_true, List.all_eq_true, List.mem_range, decide_eq_true_eq] at h
  exact ⟨⟨byte_bad h.1 (.inl rfl), byte_bad h.1 (.inr rfl)⟩, h.2.2⟩
theorem attr_plain {elems : List Str} {s : Str} (he : ∀ x ∈ elems, elP x = true) (h : attrsP elems s = true) : Plain s ∧ s.size ≤ 65 := by
  unfold attrsP at h
  simp only [Bool.and_eq_true, Bool.or_eq_true, decide_eq_true_eq] at h
  obtain ⟨h1, h2, h3⟩ := h
  have hx : 0 ≤ ixS s := by
    rcases Int.lt_or_le (ixS s) 0 with k | k
    · rw [cut_none (by omega)] at h1; cases h1
    · exact k
  obtain ⟨j, hj⟩ : ∃ j : Nat, ixS s = j := ⟨(ixS s).toNat, by omega⟩
  have hjs := ixS_le s hx
  have hc := cut_first (s := s) (j := j) (by omega) hj
  rw [hc] at h2 h3
  have e1 : bl (cutS s 0 (j : Int)) = (bl s).take j := by
    rw [show (0 : Int) = ((0 : Nat) : Int) from rfl, bl_cut s 0 j (by omega)]; simp
  have e2 : bl (cutS s ((j : Int) + 1) (s.size : Int)) = (bl s).drop (j + 1) := by
    rw [show (j : Int) + 1 = ((j + 1 : Nat) : Int) by omega, bl_cut s (j + 1) s.size (Nat.le_refl _), List.take_of_length_le (by rw [bl_len]; omega)]
  have e3 := (Lib.indexByte_some (show Lib.indexByte (bl s) 46 = (j : Int) from hj)).1
  have e0 : bl s = bl (cutS s 0 (j : Int)) ++ 46 :: bl (cutS s ((j : Int) + 1) (s.size : Int)) := by
    rw [e1, e2]
    obtain ⟨hl, e4⟩ := List.getElem?_eq_some_iff.1 e3
    rw [← e4, ← List.drop_eq_getElem_cons hl, List.take_append_drop]
  have hA : Plain (cutS s 0 (j : Int)) ∧ (cutS s 0 (j : Int)).size ≤ 32 := by
    rcases h2 with h2 | h2
    · have h2' : cutS s 0 (j : Int) = starS := h2
      rw [h2']; exact ⟨⟨by decide, by decide⟩, by decide⟩
    · have := he _ h2
      unfold elP at this
      simp only [Bool.and_eq_true] at this
      exact word_plain this.1
  have hB : Plain (cutS s ((j : Int) + 1) (s.size : Int)) ∧ (cutS s ((j : Int) + 1) (s.size : Int)).size ≤ 32 := by
    unfold attrP at h3
    simp only [Bool.and_eq_true] at h3
    exact word_plain h3.1
  refine ⟨⟨?_, ?_⟩, ?_⟩
  · rw [e0]; intro hm
    rcases List.mem_append.1 hm with hm | hm
    · exact hA.1.1 hm
    · rcases List.mem_cons.1 hm with hm | hm
      · exact absurd hm (by decide)
      · exact hB.1.1 hm
  · rw [e0]; intro hm
    rcases List.mem_append.1 hm with hm | hm
    · exact hA.1.2 hm
    · rcases List.mem_cons.1 hm with hm | hm
      · exact absurd hm (by decide)
      · exact hB.1.2 hm
  · have := congrArg List.length e0
    rw [List.length_append, List.length_cons, bl_len, bl_len, bl_len] at this
    have := hA.2; have := hB.2
    omega
/-- What a list that is right holds. -/
structure Neat (m : Nat) (l : List Str) : Prop where
  len : l.length ≤ 64
  plain : ∀ s ∈ l, Plain s
  size : ∀ s ∈ l, s.size ≤ m
theorem neat_of {m : Nat} {l : List Str} {holds : Str → Bool} (h : listP l holds = true) (hh : ∀ s, holds s = true → Plain s ∧ s.size ≤ m) : Neat m l := by
  unfold listP at h
  simp only [Bool.and_eq_true, decide_eq_true_eq, List.all_eq_true] at h
  exact ⟨h.2, fun s hs => (hh s (h.1.2 s hs)).1, fun s hs => (hh s (h.1.2 s hs)).2⟩
structure NeatP (p : Pol) : Prop where
  elems : Neat 32 p.elems
  attrs : Neat 65 p.attrs
  schemes : Neat 32 p.schemes
  classes : Neat 32 p.classes
  props : Neat 32 p.props
theorem right_neat {p : Pol} (h : rightP p = true) : NeatP p := by
  unfold rightP at h
  simp only [Bool.and_eq_true] at h
  obtain ⟨_, h1, h2, h3, h4, h5, _⟩ := h
  have w : ∀ s, wordP s = true → Plain s ∧ s.size ≤ 32 := fun s hs => word_plain hs
  refine ⟨neat_of h1 fun s hs => w s ?_, neat_of h2 fun s hs => attr_plain (fun x hx => listP_all h1 hx) hs, neat_of h3 fun s hs => w s ?_, neat_of h4 w, neat_of h5 w⟩
  · unfold elP at hs; simp only [Bool.and_eq_true] at hs; exact hs.1
  · unfold schemeP at hs; simp only [Bool.and_eq_true] at hs; exact hs.1
theorem fold2_elem (num : Str → Int) (l l1 l2 l3 l4 l5 : List Str) (e d n b : Int) : l.foldl (fun p w => takenG num p [(⟨#[101, 108, 101, 109]⟩ : ByteArray), w]) (Pol.mk e l1 l2 l3 l4 l5 d n b) = Pol.mk e (l1 ++ l) l2 l3 l4 l5 d n b := fold_elem num l _
theorem fold2_attr (num : Str → Int) (l l1 l2 l3 l4 l5 : List Str) (e d n b : Int) : l.foldl (fun p w => takenG num p [(⟨#[97, 116, 116, 114]⟩ : ByteArray), w]) (Pol.mk e l1 l2 l3 l4 l5 d n b) = Pol.mk e l1 (l2 ++ l) l3 l4 l5 d n b := fold_attr num l _
theorem fold2_scheme (num : Str → Int) (l l1 l2 l3 l4 l5 : List Str) (e d n b : Int) : l.foldl (fun p w => takenG num p [(⟨#[115, 99, 104, 101, 109, 101]⟩ : ByteArray), w]) (Pol.mk e l1 l2 l3 l4 l5 d n b) = Pol.mk e l1 l2 (l3 ++ l) l4 l5 d n b := fold_scheme num l _
theorem fold2_class (num : Str → Int) (l l1 l2 l3 l4 l5 : List Str) (e d n b : Int) : l.foldl (fun p w => takenG num p [(⟨#[99, 108, 97, 115, 115]⟩ : ByteArray), w]) (Pol.mk e l1 l2 l3 l4 l5 d n b) = Pol.mk e l1 l2 l3 (l4 ++ l) l5 d n b := fold_class num l _
theorem fold2_prop (num : Str → Int) (l l1 l2 l3 l4 l5 : List Str) (e d n b : Int) : l.foldl (fun p w => takenG num p [(⟨#[112, 114, 111, 112]⟩ : ByteArray), w]) (Pol.mk e l1 l2 l3 l4 l5 d n b) = Pol.mk e l1 l2 l3 l4 (l5 ++ l) d n b := fold_prop num l _
theorem pl_epoch : Plain (⟨#[101, 112, 111, 99, 104]⟩ : ByteArray) := ⟨by decide, by decide⟩
theorem pl_caps : Plain (⟨#[99, 97, 112, 115]⟩ : ByteArray) := ⟨by decide, by decide⟩
theorem pl_elem : Plain (⟨#[101, 108, 101, 109]⟩ : ByteArray) := ⟨by decide, by decide⟩
theorem pl_attr : Plain (⟨#[97, 116, 116, 114]⟩ : ByteArray) := ⟨by decide, by decide⟩
theorem pl_scheme : Plain (⟨#[115, 99, 104, 101, 109, 101]⟩ : ByteArray) := ⟨by decide, by decide⟩
theorem pl_class : Plain (⟨#[99, 108, 97, 115, 115]⟩ : ByteArray) := ⟨by decide, by decide⟩
theorem pl_prop : Plain (⟨#[112, 114, 111, 112]⟩ : ByteArray) := ⟨by decide, by decide⟩
theorem taken_epoch (num : Str → Int) (a : Str) : takenG num pol0 [(⟨#[101, 112, 111, 99, 104]⟩ : ByteArray), a] = Pol.mk (num a) [] [] [] [] [] 0 0 0 := rfl
theorem taken_caps (num : Str → Int) (a b c : Str) (l1 l2 l3 l4 l5 : List Str) (e d n f : Int) : takenG num (Pol.mk e l1 l2 l3 l4 l5 d n f) [(⟨#[99, 97, 112, 115]⟩ : ByteArray), a, b, c] = Pol.mk e l1 l2 l3 l4 l5 (num a) (num b) (num c) := rfl
/-- Whatever way to read numbers: a right policy's text, read, is the policy. -/
theorem back_G {num : Str → Int} {p : Pol} (h : rightP p = true) (hn : ∀ n, 0 ≤ n → n ≤ 1000000 → num (itoaS n) = n) : foldG num (textP p) pol0 = p := by
  obtain ⟨n1, n2, n3, n4, n5, n6, n7, n8⟩ := rightP_nums h
  have N := right_neat h
  have p1 := itoa_plain p.epoch (by omega)
  have p2 := itoa_plain p.depth (by omega)
  have p3 := itoa_plain p.nodes (by omega)
  have p4 := itoa_plain p.bytes (by omega)
  have m1 := hn p.epoch (by omega) (by omega)
  have m2 := hn p.depth (by omega) (by omega)
  have m3 := hn p.nodes (by omega) (by omega)
  have m4 := hn p.bytes (by omega) (by omega)
  have l1 := N.elems.plain
  have l2 := N.attrs.plain
  have l3 := N.schemes.plain
  have l4 := N.classes.plain
  have l5 := N.props.plain
  clear hn N h n1 n2 n3 n4 n5 n6 n7 n8
  rw [textP_flat]
  generalize itoaS p.epoch = x1 at *
  generalize itoaS p.depth = x2 at *
  generalize itoaS p.nodes = x3 at *
  generalize itoaS p.bytes = x4 at *
  rw [foldG_line pl_epoch p1, foldG_lines pl_elem p.elems _ _ l1, foldG_lines pl_attr p.attrs _ _ l2,
    foldG_lines pl_scheme p.schemes _ _ l3, foldG_lines pl_class p.classes _ _ l4,
    foldG_lines pl_prop p.props _ _ l5, foldG_line4 pl_caps p2 p3 p4, foldG_nil]
  rw [taken_epoch, fold2_elem, fold2_attr, fold2_scheme, fold2_class, fold2_prop, taken_caps, m1, m2, m3, m4]
  simp only [List.nil_append]
theorem linesS_len (hd : Str) (m : Nat) : ∀ (l : List Str), (∀ s ∈ l, s.size ≤ m) → (linesS hd ByteArray.empty l).size ≤ l.length * (hd.size + m + 2)
  | [], _ => by show ByteArray.empty.size ≤ _; simp
  | s :: l, h => by
    have e : linesS hd ByteArray.empty (s :: l) = ((lineS [hd, s] : Str) ++ linesS hd ByteArray.empty l : Str) := by
      show linesS hd (ByteArray.empty ++ lineS [hd, s]) l = _
      rw [lines_app, ByteArray.empty_append]
    have h1 := linesS_len hd m l (fun x hx => h x (by simp [hx]))
    have h2 := h s (by simp)
    rw [e, ByteArray.size_append, lineS_two, List.length_cons, Nat.succ_mul]
    omega
theorem neat_len {m : Nat} {hd : Str} {l : List Str} (N : Neat m l) (h : hd.size ≤ 6) : (linesS hd ByteArray.empty l).size ≤ 64 * (m + 8) := by
  have h1 := linesS_len hd m l N.size
  have h2 := N.len
  have h3 : l.length * (hd.size + m + 2) ≤ 64 * (m + 8) := Nat.mul_le_mul h2 (by omega)
  omega
theorem itoa_len (n : Int) (h0 : 0 ≤ n) (h1 : n ≤ 1000000) : (itoaS n).size ≤ 7 := by
  obtain ⟨k, rfl⟩ : ∃ k : Nat, n = k := ⟨n.toNat, by omega⟩
  rw [← bl_len, bl_itoa]
  have : ∀ (d : Nat) (k : Nat), k < 10 ^ (d + 1) → (Lib.decDigits k).length ≤ d + 1 := by
    intro d
    induction d with
    | zero => intro k hk; rw [Lib.decDigits, dif_pos (by omega)]; simp
    | succ d ih =>
      intro k hk
      rw [Lib.decDigits]
      split
      · simp
      · have := ih (k / 10) (by rw [Nat.pow_succ] at hk; omega)
        simp; omega
  exact this 6 k (by omega)
theorem textP_len {p : Pol} (h : rightP p = true) : (textP p).size ≤ 19000 := by
  obtain ⟨n1, n2, n3, n4, n5, n6, n7, n8⟩ := rightP_nums h
  have N := right_neat h
  have := neat_len (hd := (⟨#[101, 108, 101, 109]⟩ : ByteArray)) N.elems (by decide)
  have := neat_len (hd := (⟨#[97, 116, 116, 114]⟩ : ByteArray)) N.attrs (by decide)
  have := neat_len (hd := (⟨#[115, 99, 104, 101, 109, 101]⟩ : ByteArray)) N.schemes (by decide)
  have := neat_len (hd := (⟨#[99, 108, 97, 115, 115]⟩ : ByteArray)) N.classes (by decide)
  have := neat_len (hd := (⟨#[112, 114, 111, 112]⟩ : ByteArray)) N.props (by decide)
  have := itoa_len p.epoch (by omega) (by omega)
  have := itoa_len p.depth (by omega) (by omega)
  have := itoa_len p.nodes (by omega) (by omega)
  have := itoa_len p.bytes (by omega) (by omega)
  rw [textP_flat]
  have e4 : ∀ a b c d : Str, (lineS [a, b, c, d]).size = a.size + b.size + c.size + d.size + 4 := fun a b c d => by
    show (joinS [a, b, c, d] spS ++ nlS).size = _
    rw [ByteArray.size_append, joinS_four, show nlS.size = 1 from rfl]; omega
  simp only [ByteArray.size_append, lineS_two, e4]
  have k1 : ((⟨#[101, 112, 111, 99, 104]⟩ : ByteArray) : Str).size = 5 := rfl
  have k2 : ((⟨#[99, 97, 112, 115]⟩ : ByteArray) : Str).size = 4 := rfl
  have k3 : (ByteArray.empty : Str).size = 0 := rfl
  rw [k1, k2, k3]
  omega
end Go.Proofs.YtcplmaffccfbdaaGreatDoor.M
