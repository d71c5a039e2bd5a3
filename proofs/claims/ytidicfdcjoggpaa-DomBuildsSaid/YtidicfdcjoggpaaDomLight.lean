/-
  versoref04.LightTokens and versolaw04.named: the bounds that the laws on tokens ask of their input.
-/
import Derived.Test.YtidicfdcjoggpaaDomBuild
import Derived.Test.YtidicfdcjoggpaaReg
import Derived.Deep.LoopGhost
import Derived.Deep.DeepCutAuto
namespace Go.Proofs.Ytidicfdcjoggpaa
open Go.RowKit
set_option linter.unusedVariables false
set_option linter.unusedSimpArgs false
/-- How much a token weighs. -/
def tokW (t : Token) : Nat := 1 + min t.name.size 6000 + min t.text.size 6000 + min t.attrs.length 6000
def toksW (l : List Token) : Nat := (l.map tokW).sum
theorem toksW_take (l : List Token) (k : Nat) (h : k < l.length) : toksW (l.take (k + 1)) = toksW (l.take k) + tokW l[k] := by
  simp only [toksW]; rw [List.take_succ_eq_append_getElem h, List.map_append, List.sum_append]; simp
def LightPost (l : List Token) (e : Ending) : Prop := ∃ b, BoolIs b e ∧ (b = true → toksW l < 6000)
theorem tok_at {w : World} {P : FP} {v : Value} {l : List Token} (h : SliceIs w P v l) {i : Nat} (hi : i < l.length) : ∃ b o c A ca, v = .slice (some ⟨b, o, none⟩) l.length c ∧ w.cell? ⟨b, o + i * 5, none⟩ = some (.int .i64 l[i].kind) ∧ w.cell? ⟨b, o + i * 5 + 1, none⟩ = some (.string l[i].name) ∧
    w.cell? ⟨b, o + i * 5 + 2, none⟩ = some (.slice A l[i].attrs.length ca) ∧ w.cell? ⟨b, o + i * 5 + 3, none⟩ = some (.bool l[i].closed) ∧ w.cell? ⟨b, o + i * 5 + 4, none⟩ = some (.string l[i].text) ∧ SliceIs w P (.slice A l[i].attrs.length ca) l[i].attrs := by
  obtain ⟨b, o, c, cs, rfl, -, -, -, ⟨va, rfl, ha⟩, hx⟩ := h.at_ hi
  obtain ⟨A, ca, rfl, -⟩ := ha.shape
  exact ⟨b, o, c, A, ca, rfl, hx 0 _ rfl, hx 1 _ rfl, hx 2 _ rfl, hx 3 _ rfl, hx 4 _ rfl, ha⟩
def NamedPost (l : List Token) (e : Ending) : Prop := ∃ b, BoolIs b e ∧ (b = true → ∀ t ∈ l, t.kind = 2 → t.name ≠ ByteArray.empty)
set_option maxHeartbeats 2000000 in
theorem named_any (w : World) (P : FP) (v : Value) (l : List Token) (hv : SliceIs w P v l) : Calls Try.prog 13 #[v] w fun e w' => NamedPost l e ∧ w = w' := by
  obtain ⟨A, c, rfl, hlc, hcm⟩ := hv.shape
  unfold maxLen at hcm
  have HV := Lib.hid hv
  clear hv
  go_enter Try.func13, Try.ntmps13
  go_wp2
  go_loop [3] (fun i => ∃ k : Nat, k ≤ l.length ∧ i = .int .i64 k ∧ Hid (∀ j (h : j < k) (h' : j < l.length), l[j].kind = 2 → l[j].name ≠ ByteArray.empty)) (fun i => l.length - (intOf i).toNat)
  case atStart => exact ⟨0, by omega, rfl, fun j h => by omega⟩
  case round =>
    obtain ⟨k, hk, rfl, hno⟩ := hrel
    by_cases hlt : k < l.length
    · obtain ⟨b, o, c', A', ca, e, y0, y1, -⟩ := tok_at HV.out hlt
      cases e
      have hi : (k : Int) < (l.length : Int) := by omega
      by_cases hk2 : l[k].kind = 2
      · have hk2' := Lib.hid hk2
        rw [hk2] at y0
        clear hk2
        by_cases hn : l[k].name = ByteArray.empty
        · rw [hn] at y1
          clear hn
          go_wp2
          go_ret
          exact ⟨⟨false, rfl, fun h => by cases h⟩, rfl⟩
        · have hb := str_some hn
          have HN := Lib.hid hn
          clear hn
          go_wp2
          go_round
          case rel => exact ⟨k + 1, by omega, by go_num, fun j hj h' e => by
            rcases Nat.lt_or_eq_of_le (Nat.lt_succ_iff.1 hj) with h | rfl
            · exact hno.out j h h' e
            · exact HN.out⟩
          case measure => simp [intOf]; omega
      · have hb : (l[k].kind == 2) = false := by simpa using hk2
        have HN := Lib.hid hk2
        clear hk2
        go_wp2
        go_round
        case rel => exact ⟨k + 1, by omega, by go_num, fun j hj h' e => by
          rcases Nat.lt_or_eq_of_le (Nat.lt_succ_iff.1 hj) with h | rfl
          · exact hno.out j h h' e
          · exact absurd e HN.out⟩
        case measure => simp [intOf]; omega
    · go_wp2
      go_ret
      refine ⟨⟨true, rfl, fun _ t ht => ?_⟩, rfl⟩
      obtain ⟨j, hj, e⟩ := List.mem_iff_getElem.1 ht
      subst e
      exact hno.out j (by omega) hj
theorem wrap_small (x : Int) (h0 : 0 ≤ x) (h1 : x ≤ 1000000000) : IntKind.i64.wrap x = x := by
  have e1 : x % 2 ^ 64 = x := by omega
  unfold IntKind.wrap
  simp only [IntKind.bits, IntKind.signed, Bool.true_and, decide_eq_true_eq, e1]
  rw [if_neg (by rw [show (2 : Int) ^ (64 - 1) = 9223372036854775808 from rfl]; omega)]
theorem min_if (a : Nat) : (if (6000 : Int) < (a : Int) then (6000 : Int) else (a : Int)) = ((min a 6000 : Nat) : Int) := by
  split <;> omega
theorem light_num (N a b c : Nat) (h : N ≤ 24001) : IntKind.i64.wrap (IntKind.i64.wrap (IntKind.i64.wrap (IntKind.i64.wrap ((N : Int) + 1) + if (6000 : Int) < (a : Int) then (6000 : Int) else (a : Int)) + if (6000 : Int) < (b : Int) then (6000 : Int) else (b : Int)) + if (6000 : Int) < (c : Int) then (6000 : Int) else (c : Int)) = ((N + (1 + min a 6000 + min b 6000 + min c 6000) : Nat) : Int) := by
  rw [min_if, min_if, min_if, wrap_small ((N : Int) + 1) (by omega) (by omega), wrap_small ((N : Int) + 1 + ((min a 6000 : Nat) : Int)) (by omega) (by omega), wrap_small ((N : Int) + 1 + ((min a 6000 : Nat) : Int) + ((min b 6000 : Nat) : Int)) (by omega) (by omega), wrap_small _ (by omega) (by omega)]
  omega
set_option maxRecDepth 20000 in
set_option maxHeartbeats 2000000 in
theorem light_any (w : World) (P : FP) (v : Value) (l : List Token) (hv : SliceIs w P v l) : Calls Try.prog 12 #[v] w fun e w' => LightPost l e ∧ Upd None w w' := by
  obtain ⟨A, c, rfl, hlc, hcm⟩ := hv.shape
  unfold maxLen at hcm
  have HV := Lib.hid hv
  clear hv
  go_enter Try.func12, Try.ntmps12
  go_wp2
  go_loopg [3, 4] l.length (fun kq n i wr => ∃ k N : Nat, i = .int .i64 k ∧ n = .int .i64 N ∧ N ≤ 24000 ∧ Hid (k + kq = l.length ∧ N = toksW (l.take k) ∧ Upd None w wr))
  case atStart => exact ⟨0, 0, rfl, rfl, by omega, by omega, rfl, Upd.refl _ _⟩
  case round =>
    obtain ⟨k, N, rfl, rfl, hN, hrel⟩ := hrel
    obtain ⟨hk, hno, hu⟩ := hrel.out
    have HNo := Lib.hid hno
    have HU := Lib.hid hu
    clear hrel hno hu
    cases gk with
    | zero =>
      have hk' : k = l.length := by omega
      subst hk'
      by_cases hn : (N : Int) < 6000
      · go_wp2
        go_ret
        refine ⟨⟨true, rfl, fun _ => ?_⟩, HU.out⟩
        have := HNo.out
        rw [List.take_length] at this
        omega
      · go_wp2
        go_ret
        exact ⟨⟨false, rfl, fun h => by cases h⟩, HU.out⟩
    | succ k1 =>
      have hlt : k < l.length := by omega
      have hi : (k : Int) < (l.length : Int) := by omega
      by_cases hn : (N : Int) < 6000
      · obtain ⟨b, o, c', A', ca, e, y0, y1, y2, y3, y4, ha⟩ := tok_at (HV.out.keep HU.out) hlt
        cases e
        have htk := Lib.hid (toksW_take l k hlt)
        have hwk := Lib.hid (show tokW l[k] = 1 + min l[k].name.size 6000 + min l[k].text.size 6000 + min l[k].attrs.length 6000 from rfl)
        have hal : l[k].attrs.length ≤ ca ∧ ca ≤ maxLen := by obtain ⟨_, _, e, h1, h2⟩ := ha.shape; cases e; exact ⟨h1, h2⟩
        obtain ⟨hal, ham⟩ := hal
        unfold maxLen at ham
        clear ha y0 y3
        have HK := Lib.hid hk
        clear hk
        generalize l[k] = t at *
        go_wp2
        have HN := Lib.hid (And.intro hN hn)
        clear hN hn hal ham
        refine B_start (fun _ => True) (fun w' => w'.cell? ⟨b, o + k * 5 + 1, none⟩ = some (.string t.name) ∧ w'.cell? ⟨b, o + k * 5 + 4, none⟩ = some (.string t.text) ∧ w'.cell? ⟨b, o + k * 5 + 2, none⟩ = some (.slice A' t.attrs.length ca)) 26 (by kernel_rfl) trivial (by go_keep) 27 rfl #[false, false, false, false, false, false, false, false, false, false, false, false, false, false, false, false, false, false, false, false, false, false, false, false, false, false, false] rfl ?_
        refine B_take2 0 [26] (v := ?v1) (a' := ?a1) (l' := #[true, false, false, false, false, false, false, false, false, false, false, false, false, false, false, false, false, false, false, false, false, false, false, false, false, false, false]) rfl (by kernel_rfl) (by kernel_rfl) (by kernel_rfl) (by kernel_rfl) rfl (fun _ _ _ h => h) (by decide) (Or.inl ⟨by rfl, ?y1⟩) rfl ?e1 ?r1
        case y1 => (intro w' hS; (try dsimp only at hS); go_simp; try (with_reducible rfl))
        case e1 => ((try simp only [Act.put, List.setIfInBounds_toArray, List.set_cons_zero, List.set_cons_succ, List.getElem_toArray, List.getElem_cons_succ, List.getElem_cons_zero]); rfl)
        refine B_take2 1 [26] (v := ?v2) (a' := ?a2) (l' := #[true, true, false, false, false, false, false, false, false, false, false, false, false, false, false, false, false, false, false, false, false, false, false, false, false, false, false]) rfl (by kernel_rfl) (by kernel_rfl) (by kernel_rfl) (by kernel_rfl) rfl (fun _ _ _ h => h) (by decide) (Or.inl ⟨by rfl, ?y2⟩) rfl ?e2 ?r2
        case y2 => (intro w' hS; (try dsimp only at hS); go_simp; try (with_reducible rfl))
        case e2 => ((try simp only [Act.put, List.setIfInBounds_toArray, List.set_cons_zero, List.set_cons_succ, List.getElem_toArray, List.getElem_cons_succ, List.getElem_cons_zero]); rfl)
        refine B_take2 2 [26] (v := ?v3) (a' := ?a3) (l' := #[true, true, true, false, false, false, false, false, false, false, false, false, false, false, false, false, false, false, false, false, false, false, false, false, false, false, false]) rfl (by kernel_rfl) (by kernel_rfl) (by kernel_rfl) (by kernel_rfl) rfl (fun _ _ _ h => h) (by decide) (Or.inl ⟨by rfl, ?y3⟩) rfl ?e3 ?r3
        case y3 => (intro w' hS; (try dsimp only at hS); go_simp; try (with_reducible rfl))
        case e3 => ((try simp only [Act.put, List.setIfInBounds_toArray, List.set_cons_zero, List.set_cons_succ, List.getElem_toArray, List.getElem_cons_succ, List.getElem_cons_zero]); rfl)
        refine B_take2 3 [26] (v := ?v4) (a' := ?a4) (l' := #[true, true, true, true, false, false, false, false, false, false, false, false, false, false, false, false, false, false, false, false, false, false, false, false, false, false, false]) rfl (by kernel_rfl) (by kernel_rfl) (by kernel_rfl) (by kernel_rfl) rfl (fun _ _ _ h => h) (by decide) (Or.inl ⟨by rfl, ?y4⟩) rfl ?e4 ?r4
        case y4 => (intro w' hS; (try dsimp only at hS); go_simp; try (with_reducible rfl))
        case e4 => ((try simp only [Act.put, List.setIfInBounds_toArray, List.set_cons_zero, List.set_cons_succ, List.getElem_toArray, List.getElem_cons_succ, List.getElem_cons_zero]); rfl)
        refine B_take2 4 [26] (v := ?v5) (a' := ?a5) (l' := #[true, true, true, true, true, false, false, false, false, false, false, false, false, false, false, false, false, false, false, false, false, false, false, false, false, false, false]) rfl (by kernel_rfl) (by kernel_rfl) (by kernel_rfl) (by kernel_rfl) rfl (fun _ _ _ h => h) (by decide) (Or.inl ⟨by rfl, ?y5⟩) rfl ?e5 ?r5
        case y5 => (intro w' hS; (try dsimp only at hS); go_simp; try (with_reducible rfl))
        case e5 => ((try simp only [Act.put, List.setIfInBounds_toArray, List.set_cons_zero, List.set_cons_succ, List.getElem_toArray, List.getElem_cons_succ, List.getElem_cons_zero]); rfl)
        refine B_take2 5 [26] (v := ?v6) (a' := ?a6) (l' := #[true, true, true, true, true, true, false, false, false, false, false, false, false, false, false, false, false, false, false, false, false, false, false, false, false, false, false]) rfl (by kernel_rfl) (by kernel_rfl) (by kernel_rfl) (by kernel_rfl) rfl (fun _ _ _ h => h) (by decide) (Or.inl ⟨by rfl, ?y6⟩) rfl ?e6 ?r6
        case y6 => (intro w' hS; (try dsimp only at hS); go_simp; try (with_reducible rfl))
        case e6 => ((try simp only [Act.put, List.setIfInBounds_toArray, List.set_cons_zero, List.set_cons_succ, List.getElem_toArray, List.getElem_cons_succ, List.getElem_cons_zero]); rfl)
        refine B_take2 6 [26] (v := ?v7) (a' := ?a7) (l' := #[true, true, true, true, true, true, true, false, false, false, false, false, false, false, false, false, false, false, false, false, false, false, false, false, false, false, false]) rfl (by kernel_rfl) (by kernel_rfl) (by kernel_rfl) (by kernel_rfl) rfl (fun _ _ _ h => h) (by decide) (Or.inl ⟨by rfl, ?y7⟩) rfl ?e7 ?r7
        case y7 => (intro w' hS; (try dsimp only at hS); go_simp; try (with_reducible rfl))
        case e7 => ((try simp only [Act.put, List.setIfInBounds_toArray, List.set_cons_zero, List.set_cons_succ, List.getElem_toArray, List.getElem_cons_succ, List.getElem_cons_zero]); rfl)
        refine B_take2 7 [26] (v := ?v8) (a' := ?a8) (l' := #[true, true, true, true, true, true, true, true, false, false, false, false, false, false, false, false, false, false, false, false, false, false, false, false, false, false, false]) rfl (by kernel_rfl) (by kernel_rfl) (by kernel_rfl) (by kernel_rfl) rfl (fun _ _ _ h => h) (by decide) (Or.inl ⟨by rfl, ?y8⟩) rfl ?e8 ?r8
        case y8 => (intro w' hS; (try dsimp only at hS); go_simp; try (with_reducible rfl))
        case e8 => ((try simp only [Act.put, List.setIfInBounds_toArray, List.set_cons_zero, List.set_cons_succ, List.getElem_toArray, List.getElem_cons_succ, List.getElem_cons_zero]); rfl)
        refine B_take2 8 [26] (v := ?v9) (a' := ?a9) (l' := #[true, true, true, true, true, true, true, true, true, false, false, false, false, false, false, false, false, false, false, false, false, false, false, false, false, false, false]) rfl (by kernel_rfl) (by kernel_rfl) (by kernel_rfl) (by kernel_rfl) rfl (fun _ _ _ h => h) (by decide) (Or.inl ⟨by rfl, ?y9⟩) rfl ?e9 ?r9
        case y9 => (intro w' hS; (try dsimp only at hS); go_simp; try (with_reducible rfl))
        case e9 => ((try simp only [Act.put, List.setIfInBounds_toArray, List.set_cons_zero, List.set_cons_succ, List.getElem_toArray, List.getElem_cons_succ, List.getElem_cons_zero]); rfl)
        refine B_take2 9 [26] (v := ?v10) (a' := ?a10) (l' := #[true, true, true, true, true, true, true, true, true, true, false, false, false, false, false, false, false, false, false, false, false, false, false, false, false, false, false]) rfl (by kernel_rfl) (by kernel_rfl) (by kernel_rfl) (by kernel_rfl) rfl (fun _ _ _ h => h) (by decide) (Or.inl ⟨by rfl, ?y10⟩) rfl ?e10 ?r10
        case y10 => (intro w' hS; (try dsimp only at hS); go_simp; try (with_reducible rfl))
        case e10 => ((try simp only [Act.put, List.setIfInBounds_toArray, List.set_cons_zero, List.set_cons_succ, List.getElem_toArray, List.getElem_cons_succ, List.getElem_cons_zero]); rfl)
        refine B_take2 10 [26] (v := ?v11) (a' := ?a11) (l' := #[true, true, true, true, true, true, true, true, true, true, true, false, false, false, false, false, false, false, false, false, false, false, false, false, false, false, false]) rfl (by kernel_rfl) (by kernel_rfl) (by kernel_rfl) (by kernel_rfl) rfl (fun _ _ _ h => h) (by decide) (Or.inl ⟨by rfl, ?y11⟩) rfl ?e11 ?r11
        case y11 => (intro w' hS; (try dsimp only at hS); go_simp; try (with_reducible rfl))
        case e11 => ((try simp only [Act.put, List.setIfInBounds_toArray, List.set_cons_zero, List.set_cons_succ, List.getElem_toArray, List.getElem_cons_succ, List.getElem_cons_zero]); rfl)
        refine B_take2 11 [26] (v := ?v12) (a' := ?a12) (l' := #[true, true, true, true, true, true, true, true, true, true, true, true, false, false, false, false, false, false, false, false, false, false, false, false, false, false, false]) rfl (by kernel_rfl) (by kernel_rfl) (by kernel_rfl) (by kernel_rfl) rfl (fun _ _ _ h => h) (by decide) (Or.inl ⟨by rfl, ?y12⟩) rfl ?e12 ?r12
        case y12 => (intro w' hS; (try dsimp only at hS); go_simp; try (with_reducible rfl))
        case e12 => ((try simp only [Act.put, List.setIfInBounds_toArray, List.set_cons_zero, List.set_cons_succ, List.getElem_toArray, List.getElem_cons_succ, List.getElem_cons_zero]); rfl)
        refine B_take2 12 [26] (v := ?v13) (a' := ?a13) (l' := #[true, true, true, true, true, true, true, true, true, true, true, true, true, false, false, false, false, false, false, false, false, false, false, false, false, false, false]) rfl (by kernel_rfl) (by kernel_rfl) (by kernel_rfl) (by kernel_rfl) rfl (fun _ _ _ h => h) (by decide) (Or.inl ⟨by rfl, ?y13⟩) rfl ?e13 ?r13
        case y13 => (intro w' hS; (try dsimp only at hS); go_simp; try (with_reducible rfl))
        case e13 => ((try simp only [Act.put, List.setIfInBounds_toArray, List.set_cons_zero, List.set_cons_succ, List.getElem_toArray, List.getElem_cons_succ, List.getElem_cons_zero]); rfl)
        refine B_take2 13 [26] (v := ?v14) (a' := ?a14) (l' := #[true, true, true, true, true, true, true, true, true, true, true, true, true, true, false, false, false, false, false, false, false, false, false, false, false, false, false]) rfl (by kernel_rfl) (by kernel_rfl) (by kernel_rfl) (by kernel_rfl) rfl (fun _ _ _ h => h) (by decide) (Or.inl ⟨by rfl, ?y14⟩) rfl ?e14 ?r14
        case y14 => (intro w' hS; (try dsimp only at hS); go_simp; try (with_reducible rfl))
        case e14 => ((try simp only [Act.put, List.setIfInBounds_toArray, List.set_cons_zero, List.set_cons_succ, List.getElem_toArray, List.getElem_cons_succ, List.getElem_cons_zero]); rfl)
        refine B_take2 14 [26] (v := ?v15) (a' := ?a15) (l' := #[true, true, true, true, true, true, true, true, true, true, true, true, true, true, true, false, false, false, false, false, false, false, false, false, false, false, false]) rfl (by kernel_rfl) (by kernel_rfl) (by kernel_rfl) (by kernel_rfl) rfl (fun _ _ _ h => h) (by decide) (Or.inl ⟨by rfl, ?y15⟩) rfl ?e15 ?r15
        case y15 => (intro w' hS; (try dsimp only at hS); go_simp; try (with_reducible rfl))
        case e15 => ((try simp only [Act.put, List.setIfInBounds_toArray, List.set_cons_zero, List.set_cons_succ, List.getElem_toArray, List.getElem_cons_succ, List.getElem_cons_zero]); rfl)
        refine B_take2 15 [26] (v := ?v16) (a' := ?a16) (l' := #[true, true, true, true, true, true, true, true, true, true, true, true, true, true, true, true, false, false, false, false, false, false, false, false, false, false, false]) rfl (by kernel_rfl) (by kernel_rfl) (by kernel_rfl) (by kernel_rfl) rfl (fun _ _ _ h => h) (by decide) (Or.inl ⟨by rfl, ?y16⟩) rfl ?e16 ?r16
        case y16 => (intro w' hS; (try dsimp only at hS); go_simp; try (with_reducible rfl))
        case e16 => ((try simp only [Act.put, List.setIfInBounds_toArray, List.set_cons_zero, List.set_cons_succ, List.getElem_toArray, List.getElem_cons_succ, List.getElem_cons_zero]); rfl)
        refine B_take2 16 [26] (v := ?v17) (a' := ?a17) (l' := #[true, true, true, true, true, true, true, true, true, true, true, true, true, true, true, true, true, false, false, false, false, false, false, false, false, false, false]) rfl (by kernel_rfl) (by kernel_rfl) (by kernel_rfl) (by kernel_rfl) rfl (fun _ _ _ h => h) (by decide) (Or.inl ⟨by rfl, ?y17⟩) rfl ?e17 ?r17
        case y17 => (intro w' hS; (try dsimp only at hS); go_simp; try (with_reducible rfl))
        case e17 => ((try simp only [Act.put, List.setIfInBounds_toArray, List.set_cons_zero, List.set_cons_succ, List.getElem_toArray, List.getElem_cons_succ, List.getElem_cons_zero]); rfl)
        refine B_take2 17 [26] (v := ?v18) (a' := ?a18) (l' := #[true, true, true, true, true, true, true, true, true, true, true, true, true, true, true, true, true, true, false, false, false, false, false, false, false, false, false]) rfl (by kernel_rfl) (by kernel_rfl) (by kernel_rfl) (by kernel_rfl) rfl (fun _ _ _ h => h) (by decide) (Or.inl ⟨by rfl, ?y18⟩) rfl ?e18 ?r18
        case y18 => (intro w' hS; (try dsimp only at hS); go_simp; try (with_reducible rfl))
        case e18 => ((try simp only [Act.put, List.setIfInBounds_toArray, List.set_cons_zero, List.set_cons_succ, List.getElem_toArray, List.getElem_cons_succ, List.getElem_cons_zero]); rfl)
        refine B_take2 18 [26] (v := ?v19) (a' := ?a19) (l' := #[true, true, true, true, true, true, true, true, true, true, true, true, true, true, true, true, true, true, true, false, false, false, false, false, false, false, false]) rfl (by kernel_rfl) (by kernel_rfl) (by kernel_rfl) (by kernel_rfl) rfl (fun _ _ _ h => h) (by decide) (Or.inl ⟨by rfl, ?y19⟩) rfl ?e19 ?r19
        case y19 => (intro w' hS; (try dsimp only at hS); go_simp; try (with_reducible rfl))
        case e19 => ((try simp only [Act.put, List.setIfInBounds_toArray, List.set_cons_zero, List.set_cons_succ, List.getElem_toArray, List.getElem_cons_succ, List.getElem_cons_zero]); rfl)
        refine B_take2 19 [26] (v := ?v20) (a' := ?a20) (l' := #[true, true, true, true, true, true, true, true, true, true, true, true, true, true, true, true, true, true, true, true, false, false, false, false, false, false, false]) rfl (by kernel_rfl) (by kernel_rfl) (by kernel_rfl) (by kernel_rfl) rfl (fun _ _ _ h => h) (by decide) (Or.inl ⟨by rfl, ?y20⟩) rfl ?e20 ?r20
        case y20 => (intro w' hS; (try dsimp only at hS); go_simp; try (with_reducible rfl))
        case e20 => ((try simp only [Act.put, List.setIfInBounds_toArray, List.set_cons_zero, List.set_cons_succ, List.getElem_toArray, List.getElem_cons_succ, List.getElem_cons_zero]); rfl)
        refine B_take2 20 [26] (v := ?v21) (a' := ?a21) (l' := #[true, true, true, true, true, true, true, true, true, true, true, true, true, true, true, true, true, true, true, true, true, false, false, false, false, false, false]) rfl (by kernel_rfl) (by kernel_rfl) (by kernel_rfl) (by kernel_rfl) rfl (fun _ _ _ h => h) (by decide) (Or.inl ⟨by rfl, ?y21⟩) rfl ?e21 ?r21
        case y21 => (intro w' hS; (try dsimp only at hS); go_simp; try (with_reducible rfl))
        case e21 => ((try simp only [Act.put, List.setIfInBounds_toArray, List.set_cons_zero, List.set_cons_succ, List.getElem_toArray, List.getElem_cons_succ, List.getElem_cons_zero]); rfl)
        refine B_take2 21 [26] (v := ?v22) (a' := ?a22) (l' := #[true, true, true, true, true, true, true, true, true, true, true, true, true, true, true, true, true, true, true, true, true, true, false, false, false, false, false]) rfl (by kernel_rfl) (by kernel_rfl) (by kernel_rfl) (by kernel_rfl) rfl (fun _ _ _ h => h) (by decide) (Or.inl ⟨by rfl, ?y22⟩) rfl ?e22 ?r22
        case y22 => (intro w' hS; (try dsimp only at hS); go_simp; try (with_reducible rfl))
        case e22 => ((try simp only [Act.put, List.setIfInBounds_toArray, List.set_cons_zero, List.set_cons_succ, List.getElem_toArray, List.getElem_cons_succ, List.getElem_cons_zero]); rfl)
        refine B_take2 22 [26] (v := ?v23) (a' := ?a23) (l' := #[true, true, true, true, true, true, true, true, true, true, true, true, true, true, true, true, true, true, true, true, true, true, true, false, false, false, false]) rfl (by kernel_rfl) (by kernel_rfl) (by kernel_rfl) (by kernel_rfl) rfl (fun _ _ _ h => h) (by decide) (Or.inl ⟨by rfl, ?y23⟩) rfl ?e23 ?r23
        case y23 => (intro w' hS; (try dsimp only at hS); go_simp; try (with_reducible rfl))
        case e23 => ((try simp only [Act.put, List.setIfInBounds_toArray, List.set_cons_zero, List.set_cons_succ, List.getElem_toArray, List.getElem_cons_succ, List.getElem_cons_zero]); rfl)
        refine B_take2 23 [26] (v := ?v24) (a' := ?a24) (l' := #[true, true, true, true, true, true, true, true, true, true, true, true, true, true, true, true, true, true, true, true, true, true, true, true, false, false, false]) rfl (by kernel_rfl) (by kernel_rfl) (by kernel_rfl) (by kernel_rfl) rfl (fun _ _ _ h => h) (by decide) (Or.inl ⟨by rfl, ?y24⟩) rfl ?e24 ?r24
        case y24 => (intro w' hS; (try dsimp only at hS); go_simp; try (with_reducible rfl))
        case e24 => ((try simp only [Act.put, List.setIfInBounds_toArray, List.set_cons_zero, List.set_cons_succ, List.getElem_toArray, List.getElem_cons_succ, List.getElem_cons_zero]); rfl)
        refine B_take2 24 [26] (v := ?v25) (a' := ?a25) (l' := #[true, true, true, true, true, true, true, true, true, true, true, true, true, true, true, true, true, true, true, true, true, true, true, true, true, false, false]) rfl (by kernel_rfl) (by kernel_rfl) (by kernel_rfl) (by kernel_rfl) rfl (fun _ _ _ h => h) (by decide) (Or.inl ⟨by rfl, ?y25⟩) rfl ?e25 ?r25
        case y25 => (intro w' hS; (try dsimp only at hS); go_simp; try (with_reducible rfl))
        case e25 => ((try simp only [Act.put, List.setIfInBounds_toArray, List.set_cons_zero, List.set_cons_succ, List.getElem_toArray, List.getElem_cons_succ, List.getElem_cons_zero]); rfl)
        refine B_take2 25 [26] (v := ?v26) (a' := ?a26) (l' := #[true, true, true, true, true, true, true, true, true, true, true, true, true, true, true, true, true, true, true, true, true, true, true, true, true, true, false]) rfl (by kernel_rfl) (by kernel_rfl) (by kernel_rfl) (by kernel_rfl) rfl (fun _ _ _ h => h) (by decide) (Or.inl ⟨by rfl, ?y26⟩) rfl ?e26 ?r26
        case y26 => (intro w' hS; (try dsimp only at hS); go_simp; try (with_reducible rfl))
        case e26 => ((try simp only [Act.put, List.setIfInBounds_toArray, List.set_cons_zero, List.set_cons_succ, List.getElem_toArray, List.getElem_cons_succ, List.getElem_cons_zero]); rfl)
        refine B_all (rs := [26]) (by kernel_rfl) (by simp) (fun hs1 hs2 => ⟨fun K hK => ?_, trivial⟩)
        refine op_goes rfl (by rfl) ?_
        have HK := Lib.hid hK; clear hK
        go_simp
        refine HK.out _ _ trivial (fun h => absurd h (by decide)) ?_
        clear HK K hs1 hs2
        refine B_norm (l' := #[true, true, true, true, true, true, true, true, true, true, true, true, true, true, true, true, true, true, true, true, true, true, true, true, true, true, true]) (a' := ?a27) rfl ?e27 ?r27
        case e27 => ((try simp only [Act.put, List.setIfInBounds_toArray, List.set_cons_zero, List.set_cons_succ, List.getElem_toArray, List.getElem_cons_succ, List.getElem_cons_zero]); rfl)
        refine B_done (by kernel_rfl) ?_
        have hMb : N + (1 + min t.name.size 6000 + min t.text.size 6000 + min t.attrs.length 6000) ≤ 24000 := by have := HN.out; omega
        rw [light_num N _ _ _ (by omega)]
        generalize hM : N + (1 + min t.name.size 6000 + min t.text.size 6000 + min t.attrs.length 6000) = M at hMb ⊢
        have HM := Lib.hid hM
        clear hM
        generalize (if (6000 : Int) < (t.name.size : Int) then (6000 : Int) else (t.name.size : Int)) = z1
        generalize (if (6000 : Int) < (t.text.size : Int) then (6000 : Int) else (t.text.size : Int)) = z2
        generalize (if (6000 : Int) < (t.attrs.length : Int) then (6000 : Int) else (t.attrs.length : Int)) = z3
        go_wp2
        go_roundg k1
        case measure => omega
        case rel => exact ⟨k + 1, M, by go_num, rfl, hMb, by have := HK.out; omega, by rw [htk.out, ← HNo.out, hwk.out]; exact HM.out.symm, HU.out.drew⟩
      · go_wp2
        go_ret
        exact ⟨⟨false, rfl, fun h => by cases h⟩, HU.out⟩
end Go.Proofs.Ytidicfdcjoggpaa
