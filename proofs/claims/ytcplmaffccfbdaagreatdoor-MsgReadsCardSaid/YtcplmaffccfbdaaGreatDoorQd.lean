/-
  A text's fields; the message of a text: in plain Lean.
-/
import Derived.Test.YtcplmaffccfbdaaGreatDoorQc
namespace Go.Proofs.YtcplmaffccfbdaaGreatDoor.M
open Go.RowKit
set_option linter.unusedVariables false
set_option linter.unusedSimpArgs false
def parseF : Nat → Str → Sum Int (List Str)
  | 0, _ => .inr []
  | n + 1, s => if s = ByteArray.empty then .inr [] else
    if (fieldV s).2.2 ≠ 0 then .inl (fieldV s).2.2 else
      match parseF n (fieldV s).2.1 with
      | .inl e => .inl e
      | .inr l => .inr ((fieldV s).1 :: l)
def addP (out : List Str) : Sum Int (List Str) → Sum Int (List Str)
  | .inl e => .inl e
  | .inr l => .inr (out ++ l)
theorem addP_nil (x : Sum Int (List Str)) : addP [] x = x := by cases x <;> rfl
theorem addP_addP (a b : List Str) (x : Sum Int (List Str)) : addP a (addP b x) = addP (a ++ b) x := by
  cases x
  · rfl
  · simp [addP]
theorem parseF_nil (n : Nat) : parseF n ByteArray.empty = .inr [] := by
  cases n
  · rfl
  · unfold parseF; rw [if_pos rfl]
theorem parseF_err {n : Nat} {s : Str} (h : s ≠ ByteArray.empty) (he : (fieldV s).2.2 ≠ 0) : parseF (n + 1) s = .inl (fieldV s).2.2 := by
  unfold parseF; rw [if_neg h, if_pos he]
theorem parseF_step {n : Nat} {s : Str} (h : s ≠ ByteArray.empty) (he : (fieldV s).2.2 = 0) : parseF (n + 1) s = addP [(fieldV s).1] (parseF n (fieldV s).2.1) := by
  rw [parseF, if_neg h, if_neg (fun h => h he)]
  cases parseF n (fieldV s).2.1 <;> rfl
theorem size_pos {s : Str} (h : s ≠ ByteArray.empty) : 1 ≤ s.size := by
  rcases Nat.eq_zero_or_pos s.size with h2 | h2
  · exact absurd (ByteArray.ext (Array.eq_empty_of_size_eq_zero h2)) h
  · exact h2
theorem cutS_size2 (s : Str) (a b : Int) : (cutS s a b).size ≤ s.size - a.toNat := by
  unfold cutS; rw [ByteArray.size_extract]; omega
theorem fieldV_err (s : Str) : (fieldV s).2.2 = 0 ∨ (fieldV s).2.2 = 2 ∨ (fieldV s).2.2 = 3 := by
  unfold fieldV fieldK
  repeat' split
  all_goals simp
theorem fieldV_size {s : Str} (h : (fieldV s).2.2 = 0) : (fieldV s).1.size ≤ s.size ∧ (fieldV s).2.1.size + 1 ≤ s.size := by
  revert h
  unfold fieldV
  generalize digK (bl s) = k
  unfold fieldK
  by_cases c1 : k = 0 ∨ (1 < k ∧ bt s 0 = 48)
  · rw [if_pos c1]; intro h; simp at h
  rw [if_neg c1]
  by_cases c2 : cutS s k s.size = ByteArray.empty
  · rw [if_pos c2]; intro h; simp at h
  rw [if_neg c2]
  have hp := size_pos c2
  have hr := cutS_size s k s.size
  generalize cutS s k s.size = r at hp hr ⊢
  split
  · intro h; simp at h
  split
  · intro h; simp at h
  split
  · intro h; simp at h
  intro _
  dsimp only
  have h1 := cutS_size r 1 (1 + (dval 0 ((bl s).take k) : Int))
  have h2 := cutS_size2 r (2 + (dval 0 ((bl s).take k) : Int)) (r.size : Int)
  exact ⟨by omega, by omega⟩
/-! ### A field, read, is what it was -/
theorem decDigits_head : ∀ (n : Nat), (Lib.decDigits n).head? = some 48 → n = 0 := by
  intro n
  induction n using Nat.strongRecOn with
  | _ n ih =>
    intro h
    rw [Lib.decDigits] at h
    split at h
    · rename_i hn
      have h' : UInt8.ofNat (48 + n) = 48 := Option.some.inj h
      have := congrArg UInt8.toNat h'
      rw [UInt8.toNat_ofNat'] at this
      have e : (48 : UInt8).toNat = 48 := rfl
      omega
    · rename_i hn
      have hne := decDigits_ne (n / 10)
      have ih2 := ih (n / 10) (by omega)
      cases hd : Lib.decDigits (n / 10) with
      | nil => exact absurd hd hne
      | cons c r =>
        rw [hd] at h ih2
        have := ih2 h
        omega
theorem dec_len {n : Nat} (h : n < 1000000) : (Lib.decDigits n).length ≤ 6 := by
  have : ∀ (d : Nat) (k : Nat), k < 10 ^ (d + 1) → (Lib.decDigits k).length ≤ d + 1 := by
    intro d
    induction d with
    | zero => intro k hk; rw [Lib.decDigits, dif_pos (by omega)]; simp
    | succ d ih =>
      intro k hk
      rw [Lib.decDigits]
      split
      · simp
      · have := ih (k / 10) (by rw [Nat.pow_succ] at hk; omega)
        simp; omega
  exact this 5 n (by omega)
theorem fieldS_bl (x : Str) : bl (fieldS x) = Lib.decDigits x.size ++ 58 :: (bl x ++ [44]) := by
  unfold fieldS
  rw [bl_app, bl_app, bl_app, bl_itoa]
  simp [bl, colonS, commaS]
theorem bt_at {s : Str} {k : Nat} {c : UInt8} (h : (bl s)[k]? = some c) : bt s (k : Int) = (c.toNat : Int) := by
  obtain ⟨hk, e⟩ := List.getElem?_eq_some_iff.1 h
  rw [bt_get hk, e]
theorem fieldV_back (x rest : Str) (hx : x.size < 1000000) : fieldV (fieldS x ++ rest) = (x, rest, 0) := by
  have hb : bl (fieldS x ++ rest) = Lib.decDigits x.size ++ 58 :: (bl x ++ 44 :: bl rest) := by
    rw [bl_app, fieldS_bl]; simp
  generalize hs : (fieldS x ++ rest : Str) = s at hb
  have hlen := congrArg List.length hb
  rw [bl_len] at hlen
  have hxl := bl_len x
  have hrl := bl_len rest
  simp only [List.length_append, List.length_cons] at hlen
  have hd := decDigits_dig x.size
  have hv := dval_dec x.size
  have hne := decDigits_ne x.size
  have hl6 := dec_len hx
  have hhd := decDigits_head x.size
  generalize hdd : Lib.decDigits x.size = ds at hb hlen hd hv hne hl6 hhd
  have hds : 1 ≤ ds.length := List.length_pos_iff.2 hne
  have hblen : (bl s).length = ds.length + (bl x).length + (bl rest).length + 2 := by rw [hb]; simp; omega
  have hK : digK (bl s) = ds.length := by
    refine digK_at (by omega) hl6 (fun j hj hjk => ?_) (.inr (.inr ⟨by omega, ?_⟩))
    · have e : (bl s)[j] = ds[j] := by simp only [hb]; rw [List.getElem_append_left hjk]
      rw [e]; exact hd _ (List.getElem_mem _)
    · have e : (bl s)[ds.length]'(by omega) = 58 := by simp only [hb]; rw [List.getElem_append_right (Nat.le_refl _)]; simp
      rw [e]; decide
  have htake : (bl s).take ds.length = ds := by rw [hb, List.take_left]
  have hr : bl (cutS s (ds.length : Int) (s.size : Int)) = 58 :: (bl x ++ 44 :: bl rest) := by
    rw [bl_cut s ds.length s.size (Nat.le_refl _), List.take_of_length_le (by rw [bl_len]; omega), hb, List.drop_left]
  unfold fieldV fieldK
  rw [hK, htake, hv]
  generalize cutS s (ds.length : Int) (s.size : Int) = r at hr
  have hrl2 : r.size = x.size + rest.size + 2 := by
    rw [← bl_len, hr]; simp; omega
  have c0 : ¬ (ds.length = 0 ∨ (1 < ds.length ∧ bt s 0 = 48)) := by
    rintro (h | ⟨h1, h2⟩)
    · omega
    · have e : bt s ((0 : Nat) : Int) = ((bl s)[0]'(by omega)).toNat := bt_get (by omega)
      have e2 : (bl s)[0]'(by omega) = ds[0]'(by omega) := by simp only [hb]; rw [List.getElem_append_left (by omega)]
      rw [e2] at e
      have h2' : bt s ((0 : Nat) : Int) = 48 := h2
      have h48 : ds[0]'(by omega) = 48 := UInt8.toNat_inj.1 (by have : (48 : UInt8).toNat = 48 := rfl; omega)
      have := hhd (by rw [List.head?_eq_getElem?, List.getElem?_eq_getElem (by omega), h48])
      have h3 : ds = Lib.decDigits 0 := by rw [← hdd, this]
      rw [h3, Lib.decDigits_one (by omega)] at h1
      simp at h1
  rw [if_neg c0, if_neg (fun h => by rw [h] at hrl2; have : ByteArray.empty.size = 0 := rfl; omega)]
  have c1 : bt r 0 = 58 := bt_at (k := 0) (c := 58) (by rw [hr]; rfl)
  have c2 : bt r (1 + (x.size : Int)) = 44 := by
    have := bt_at (s := r) (k := x.size + 1) (c := 44) (by rw [hr, List.getElem?_cons_succ, List.getElem?_append_right (by omega)]; simp [hxl])
    rw [show (1 : Int) + (x.size : Int) = ((x.size + 1 : Nat) : Int) by omega]; exact this
  rw [if_neg (fun h => h c1), if_neg (by omega), if_neg (fun h => h c2)]
  have e1 : cutS r 1 (1 + (x.size : Int)) = x := bl_inj (by
    rw [show (1 : Int) + (x.size : Int) = ((x.size + 1 : Nat) : Int) by omega, show (1 : Int) = ((1 : Nat) : Int) from rfl, bl_cut r 1 (x.size + 1) (by omega), hr, List.take_succ_cons, List.drop_succ_cons, List.drop_zero, ← hxl, List.take_left])
  have e2 : cutS r (2 + (x.size : Int)) (r.size : Int) = rest := bl_inj (by
    rw [show (2 : Int) + (x.size : Int) = ((x.size + 1 + 1 : Nat) : Int) by omega, bl_cut r (x.size + 1 + 1) r.size (Nat.le_refl _), List.take_of_length_le (by rw [bl_len]; omega), hr, List.drop_succ_cons, ← hxl, List.drop_append, List.drop_of_length_le (by omega)]; simp)
  rw [e1, e2]
/-- Fields ahead of a text, parsed. -/
theorem parse_app : ∀ (l : List Str) (g : Str) (n : Nat), (∀ x ∈ l, x.size < 1000000) → (catR l ++ g : Str).size ≤ n → ∃ n', g.size ≤ n' ∧ parseF n (catR l ++ g) = addP l (parseF n' g)
  | [], g, n, _, h => ⟨n, by rwa [show (catR [] ++ g : Str) = g from ByteArray.empty_append] at h, by rw [show (catR [] ++ g : Str) = g from ByteArray.empty_append, addP_nil]⟩
  | x :: l, g, n, hl, h => by
    have e : (catR (x :: l) ++ g : Str) = fieldS x ++ (catR l ++ g : Str) := by
      show ((fieldS x ++ catR l : Str) ++ g : Str) = _
      rw [ByteArray.append_assoc]
    rw [e] at h ⊢
    have hp := fieldS_pos x
    rw [ByteArray.size_append] at h
    have hf := fieldV_back x (catR l ++ g) (hl x (by simp))
    have hne : (fieldS x ++ (catR l ++ g : Str) : Str) ≠ ByteArray.empty := fun h0 => by
      have := congrArg ByteArray.size h0
      rw [ByteArray.size_append] at this
      have e0 : ByteArray.empty.size = 0 := rfl
      omega
    obtain ⟨n0, rfl⟩ : ∃ n0, n = n0 + 1 := ⟨n - 1, by omega⟩
    obtain ⟨n', h1, h2⟩ := parse_app l g n0 (fun y hy => hl y (by simp [hy])) (by omega)
    refine ⟨n', h1, ?_⟩
    rw [parseF_step hne (by rw [hf]), hf, h2, addP_addP]
    rfl
theorem parse_cat (l : List Str) (hl : ∀ x ∈ l, x.size < 1000000) : parseF (catR l).size (catR l) = .inr l := by
  obtain ⟨n', _, h⟩ := parse_app l ByteArray.empty (catR l).size hl (by rw [ByteArray.append_empty]; exact Nat.le_refl _)
  rw [ByteArray.append_empty, parseF_nil] at h
  rw [h]; simp [addP]
/-! ### The message of fields -/
def pairsP : List Str → List (Str × Str)
  | a :: b :: l => (a, b) :: pairsP l
  | _ => []
theorem pairs_flat : ∀ (l : List (Str × Str)), pairsP (flatP l) = l
  | [] => rfl
  | p :: l => by
    show (p.1, p.2) :: pairsP (flatP l) = _
    rw [pairs_flat l]
def readPol (s : Str) : Pol := if rightP (readP s) = true ∧ textP (readP s) = s then readP s else pol0
theorem readR_pol (s : Str) : ∃ e, readR s = .tup [.agg (polCells (readPol s)), .v (.int .i64 e)] := by
  unfold readR readPol
  split
  · exact ⟨_, rfl⟩
  · exact ⟨_, rfl⟩
theorem readPol_text {p : Pol} (h : rightP p = true) : readPol (textP p) = p := by
  have e : readP (textP p) = p := by rw [readP_G]; exact back_G h numP_itoa
  unfold readPol
  rw [e, if_pos ⟨h, rfl⟩]
theorem readPol_fits (s : Str) : Fits (readPol s) := by
  unfold readPol
  split
  · rename_i h; exact (right_neat h.1).fits
  · exact (pol0_small 0 0).fits (by omega) (by omega)
def baseM (l : List Str) : Msg := ⟨numN (l.getD 0 ByteArray.empty), numN (l.getD 1 ByteArray.empty), numN (l.getD 2 ByteArray.empty), numN (l.getD 3 ByteArray.empty), [], [], pol0⟩
def withM (b : Msg) (r : List Str) : Msg :=
  if b.kind = 3 ∧ r.length = 1 then ⟨b.kind, b.frm, b.dst, b.epoch, [], [], readPol (r.getD 0 ByteArray.empty)⟩
  else if b.kind = 1 ∧ 0 < r.length then ⟨b.kind, b.frm, b.dst, b.epoch, r.drop 1, [], pol0⟩
  else if b.kind = 2 ∧ 0 < r.length then ⟨b.kind, b.frm, b.dst, b.epoch, [], pairsP (r.drop 1), pol0⟩
  else ⟨b.kind, b.frm, b.dst, b.epoch, [], [], pol0⟩
def assembleM (l : List Str) : Msg := withM (baseM l) (l.drop 4)
def msg0 : Msg := ⟨0, 0, 0, 0, [], [], pol0⟩
def decodeL (s : Str) : Sum Int (List Str) → Msg × Int
  | .inl e => (msg0, e)
  | .inr l => if l.length < 4 then (msg0, 2) else if rightM (assembleM l) = true ∧ msgT (assembleM l) = s then (assembleM l, 0) else (msg0, 2)
def decodeV (s : Str) : Msg × Int := decodeL s (parseF s.size s)
def decodeA (q : Msg × Int) : AVal := .tup [.agg (msgCells q.1), .v (.int .i64 q.2)]
def fieldsM (m : Msg) : List Str := numsM m ++ restM m
theorem msgT_cat (m : Msg) : msgT m = catR (fieldsM m) := catF_eq _
theorem fieldsM_size {m : Msg} (hm : rightM m = true) : ∀ x ∈ fieldsM m, x.size < 1000000 := by
  have R := rightM_facts hm
  intro x hx
  rcases List.mem_append.1 hx with h | h
  · have := numsM_size R x h; omega
  unfold restM at h
  split at h
  · rcases List.mem_cons.1 h with rfl | h
    · have := R.ids.1
      have := itoa_len (m.ids.length : Int) (by omega) (by omega); omega
    · have := R.ids.2 x h; omega
  split at h
  · rcases List.mem_cons.1 h with rfl | h
    · have := R.posts.1
      have := itoa_len (m.posts.length : Int) (by omega) (by omega); omega
    · obtain ⟨p, hp, e⟩ := flatP_mem _ x h
      have := R.posts.2 p hp
      rcases e with rfl | rfl <;> omega
  split at h
  · rename_i hk
    rw [List.mem_singleton.1 h]
    have := textP_len (R.pol hk); omega
  · cases h
theorem assemble_back {m : Msg} (hm : rightM m = true) : assembleM (fieldsM m) = m := by
  have R := rightM_facts hm
  have h1 := R.frm; have h2 := R.dst; have h3 := R.epoch; have h4 := R.kind
  have hb : baseM (fieldsM m) = ⟨m.kind, m.frm, m.dst, m.epoch, [], [], pol0⟩ := by
    show Msg.mk (numN (itoaS m.kind)) (numN (itoaS m.frm)) (numN (itoaS m.dst)) (numN (itoaS m.epoch)) [] [] pol0 = _
    rw [numN_itoa m.kind (by omega) (by omega), numN_itoa m.frm (by omega) (by omega), numN_itoa m.dst (by omega) (by omega), numN_itoa m.epoch (by omega) (by omega)]
  have hd : (fieldsM m).drop 4 = restM m := rfl
  unfold assembleM
  rw [hb, hd]
  have i0 := R.ids0; have p0 := R.posts0; have q0 := R.pol0; have q := R.pol
  obtain ⟨k, f, d, e, ids, posts, pol⟩ := m
  dsimp only at i0 p0 q0 q h4
  rcases h4 with rfl | rfl | rfl | rfl
  · have hr : restM (Msg.mk 1 f d e ids posts pol) = itoaS (ids.length : Int) :: ids := rfl
    rw [hr]
    unfold withM
    dsimp only
    rw [if_neg (fun h => absurd h.1 (by decide)), if_pos ⟨rfl, Nat.succ_pos _⟩, p0 (by decide), q0 (by decide)]
    rfl
  · have hr : restM (Msg.mk 2 f d e ids posts pol) = itoaS (posts.length : Int) :: flatP posts := rfl
    rw [hr]
    unfold withM
    dsimp only
    rw [if_neg (fun h => absurd h.1 (by decide)), if_neg (fun h => absurd h.1 (by decide)), if_pos ⟨rfl, Nat.succ_pos _⟩, i0 (by decide), q0 (by decide), List.drop_succ_cons, List.drop_zero, pairs_flat]
  · have hr : restM (Msg.mk 3 f d e ids posts pol) = [textP pol] := rfl
    rw [hr]
    unfold withM
    dsimp only
    rw [if_pos ⟨rfl, rfl⟩, i0 (by decide), p0 (by decide), List.getD_cons_zero, readPol_text (q rfl)]
  · have hr : restM (Msg.mk 4 f d e ids posts pol) = [] := rfl
    rw [hr]
    unfold withM
    dsimp only
    rw [if_neg (fun h => absurd h.1 (by decide)), if_neg (fun h => absurd h.1 (by decide)), if_neg (fun h => absurd h.1 (by decide)), i0 (by decide), p0 (by decide), q0 (by decide)]
theorem fieldsM_len (m : Msg) : 4 ≤ (fieldsM m).length := by
  unfold fieldsM
  rw [List.length_append, show (numsM m).length = 4 from rfl]; omega
/-- A message's text, read, is the message. -/
theorem decode_back {m : Msg} (hm : rightM m = true) : decodeV (msgT m) = (m, 0) := by
  unfold decodeV
  rw [msgT_cat, parse_cat _ (fieldsM_size hm)]
  have h4 := fieldsM_len m
  unfold decodeL
  dsimp only
  rw [if_neg (by omega), assemble_back hm, if_pos ⟨hm, msgT_cat m⟩]
theorem parseF_err2 : ∀ (n : Nat) (s : Str) (e : Int), parseF n s = .inl e → e = 2 ∨ e = 3
  | 0, s, e, h => by cases h
  | n + 1, s, e, h => by
    by_cases hs : s = ByteArray.empty
    · rw [hs, parseF_nil] at h; cases h
    by_cases he : (fieldV s).2.2 = 0
    · rw [parseF_step hs he] at h
      cases hp : parseF n (fieldV s).2.1 with
      | inl e' => rw [hp] at h; cases h; exact parseF_err2 n _ e hp
      | inr l => rw [hp] at h; cases h
    · rw [parseF_err hs he] at h
      cases h
      rcases fieldV_err s with h | h | h
      · exact absurd h he
      · exact .inl h
      · exact .inr h
/-- What is read: a message that may be, with that text; or nothing, and why. -/
theorem decode_cases (s : Str) : (∃ m, decodeV s = (m, 0) ∧ rightM m = true ∧ msgT m = s) ∨ (∃ e, decodeV s = (msg0, e) ∧ (e = 2 ∨ e = 3)) := by
  unfold decodeV
  cases hp : parseF s.size s with
  | inl e => exact .inr ⟨e, rfl, parseF_err2 _ _ _ hp⟩
  | inr l =>
    unfold decodeL
    dsimp only
    split
    · exact .inr ⟨2, rfl, .inl rfl⟩
    split
    · rename_i h; exact .inl ⟨_, rfl, h.1, h.2⟩
    · exact .inr ⟨2, rfl, .inl rfl⟩
end Go.Proofs.YtcplmaffccfbdaaGreatDoor.M
