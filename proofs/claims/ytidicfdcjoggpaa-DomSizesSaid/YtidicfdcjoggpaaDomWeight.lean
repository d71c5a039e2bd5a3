/-
  versoref04.weight and Light: a tree that is light has few nodes and little text.
-/
import Derived.Test.YtidicfdcjoggpaaDomRefText
import Derived.Test.YtidicfdcjoggpaaDomLight
namespace Go.Proofs.Ytidicfdcjoggpaa
open Go.RowKit
set_option linter.unusedVariables false
set_option linter.unusedSimpArgs false
attribute [local go_sem ↓] Go.wp_at_zero Go.wp_at_succ
attribute [local go_sem] World.cell?_alloc_some
theorem attr_at {w : World} {P : FP} {v : Value} {l : List Attr} (h : SliceIs w P v l) {i : Nat} (hi : i < l.length) : ∃ b o c, v = .slice (some ⟨b, o, none⟩) l.length c ∧ w.cell? ⟨b, o + i * 2, none⟩ = some (.string l[i].name) ∧ w.cell? ⟨b, o + i * 2 + 1, none⟩ = some (.string l[i].value) := by
  obtain ⟨b, o, c, cs, rfl, -, -, -, ht, hx⟩ := h.at_ hi
  cases ht
  exact ⟨b, o, c, rfl, hx 0 _ rfl, hx 1 _ rfl⟩
/-- The most that weight gives at a depth. -/
def wB (d : Nat) : Nat := 60000 * (82 - d) + 20000
theorem min_if2 (a : Nat) : (if (20000 : Int) < (a : Int) then (20000 : Int) else (a : Int)) = ((min a 20000 : Nat) : Int) := by
  split <;> omega
theorem weight_num (N a b : Nat) (h : N < 20000) : IntKind.i64.wrap (IntKind.i64.wrap (IntKind.i64.wrap ((N : Int) + 1) + if (20000 : Int) < (a : Int) then (20000 : Int) else (a : Int)) + if (20000 : Int) < (b : Int) then (20000 : Int) else (b : Int)) = ((N + (1 + min a 20000 + min b 20000) : Nat) : Int) := by
  rw [min_if2, min_if2, wrap_small ((N : Int) + 1) (by omega) (by omega), wrap_small ((N : Int) + 1 + ((min a 20000 : Nat) : Int)) (by omega) (by omega), wrap_small _ (by omega) (by omega)]
  omega
def WeightPost (l : List Node) (d : Nat) (e : Ending) : Prop := ∃ N : Nat, e = .returned (.int .i64 N) ∧ N ≤ wB d ∧ (N < 20000 → nCount l + (nText l).size ≤ N)
set_option maxRecDepth 100000 in
set_option maxHeartbeats 8000000 in
theorem weight_any' (n : Nat) : ∀ (l : List Node), SizeOf.sizeOf l ≤ n → ∀ (w : World) (P : FP) (v : Value) (dI : Int) (dp : Nat), dI = dp → dp ≤ 81 → SliceIs w P v l →
    Calls Try.prog 35 #[v, .int .i64 dI] w fun e w' => WeightPost l dp e ∧ Upd None w w' := by
  induction n with
  | zero => intro l h; cases l <;> simp at h
  | succ n ih =>
    intro l hn w P v dI dp hdI hdp hv
    subst hdI
    obtain ⟨A, c, rfl, hlc, hcm⟩ := hv.shape
    unfold maxLen at hcm
    have HV := Lib.hid hv
    have IH := Lib.hid ih
    clear hv ih
    have hwB : 20000 ≤ wB dp := by unfold wB; omega
    go_enter Try.func35, Try.ntmps35
    go_wp2
    go_loopg [5, 6] l.length (fun kq v5 v6 wr => ∃ k N : Nat, v6 = .int .i64 k ∧ v5 = .int .i64 N ∧ N ≤ wB dp ∧ Hid (k + kq = l.length ∧ (N < 20000 → nCount (l.take k) + (nText (l.take k)).size ≤ N) ∧ Upd None w wr))
    case atStart => exact ⟨0, 0, rfl, rfl, by omega, by omega, fun _ => by rw [List.take_zero, nCount_nil, nText_nil]; simp, Upd.refl _ _⟩
    case round =>
      obtain ⟨k, N, rfl, rfl, hNb, hrel⟩ := hrel
      obtain ⟨hk, hN, hu⟩ := hrel.out
      have HU := Lib.hid hu; have HK := Lib.hid hk; have HN := Lib.hid hN
      clear hrel hu hk hN
      cases gk with
      | zero =>
        have hk : k = l.length := by have := HK.out; omega
        subst hk
        go_wp2
        go_ret
        exact ⟨⟨N, rfl, hNb, fun h => by have := HN.out h; rw [List.take_length] at this; exact this⟩, HU.out⟩
      | succ k1 =>
        have hlt : k < l.length := by have := HK.out; omega
        have hi2 : (k : Int) < (l.length : Int) := by omega
        by_cases hn2 : (N : Int) < 20000
        · by_cases hd : (80 : Int) < (dp : Int)
          · go_wp2
            go_ret
            exact ⟨⟨20000, rfl, hwB, fun h => by omega⟩, HU.out⟩
          have hkl := Lib.hid (kids_lt l k hlt)
          have hcn := Lib.hid (nCount_take l k hlt)
          have htx := Lib.hid (nText_take l k hlt)
          obtain ⟨b, o, c', Av, cv, Ak, ck, e, y0, y1, y2, y3, hva, hvk⟩ := node_at (HV.out.keep HU.out) hlt
          cases e
          have HVK := Lib.hid hvk
          have HVA := Lib.hid hva
          have hav : l[k].attrs.length ≤ cv ∧ cv ≤ maxLen := by obtain ⟨_, _, e, h1, h2⟩ := hva.shape; cases e; exact ⟨h1, h2⟩
          obtain ⟨hav, hcv⟩ := hav
          unfold maxLen at hcv
          have Y1 := Lib.hid y1
          have Y3 := Lib.hid y3
          clear hvk hva y1 y3
          generalize l[k] = d at *
          go_upto_region 7 with fail
          have HN2 := Lib.hid hn2
          clear hn2
          refine B_start (fun _ => True) (fun w' => w'.cell? ⟨b, o + k * 4, none⟩ = some (.string d.name) ∧ w'.cell? ⟨b, o + k * 4 + 2, none⟩ = some (.string d.text)) 18 (by kernel_rfl) trivial (by go_keep) 19 rfl #[false, false, false, false, false, false, false, false, false, false, false, false, false, false, false, false, false, false, false] rfl ?_
          refine B_take2 0 [18] (v := ?v1) (a' := ?a1) (l' := #[true, false, false, false, false, false, false, false, false, false, false, false, false, false, false, false, false, false, false]) rfl (by kernel_rfl) (by kernel_rfl) (by kernel_rfl) (by kernel_rfl) rfl (fun _ _ _ h => h) (by decide) (Or.inl ⟨by rfl, ?y1⟩) rfl ?e1 ?r1
          case y1 => (intro w' hS; (try dsimp only at hS); go_simp; try (with_reducible rfl))
          case e1 => ((try simp only [Act.put, List.setIfInBounds_toArray, List.set_cons_zero, List.set_cons_succ, List.getElem_toArray, List.getElem_cons_succ, List.getElem_cons_zero]); rfl)
          refine B_take2 1 [18] (v := ?v2) (a' := ?a2) (l' := #[true, true, false, false, false, false, false, false, false, false, false, false, false, false, false, false, false, false, false]) rfl (by kernel_rfl) (by kernel_rfl) (by kernel_rfl) (by kernel_rfl) rfl (fun _ _ _ h => h) (by decide) (Or.inl ⟨by rfl, ?y2⟩) rfl ?e2 ?r2
          case y2 => (intro w' hS; (try dsimp only at hS); go_simp; try (with_reducible rfl))
          case e2 => ((try simp only [Act.put, List.setIfInBounds_toArray, List.set_cons_zero, List.set_cons_succ, List.getElem_toArray, List.getElem_cons_succ, List.getElem_cons_zero]); rfl)
          refine B_take2 2 [18] (v := ?v3) (a' := ?a3) (l' := #[true, true, true, false, false, false, false, false, false, false, false, false, false, false, false, false, false, false, false]) rfl (by kernel_rfl) (by kernel_rfl) (by kernel_rfl) (by kernel_rfl) rfl (fun _ _ _ h => h) (by decide) (Or.inl ⟨by rfl, ?y3⟩) rfl ?e3 ?r3
          case y3 => (intro w' hS; (try dsimp only at hS); go_simp; try (with_reducible rfl))
          case e3 => ((try simp only [Act.put, List.setIfInBounds_toArray, List.set_cons_zero, List.set_cons_succ, List.getElem_toArray, List.getElem_cons_succ, List.getElem_cons_zero]); rfl)
          refine B_take2 3 [18] (v := ?v4) (a' := ?a4) (l' := #[true, true, true, true, false, false, false, false, false, false, false, false, false, false, false, false, false, false, false]) rfl (by kernel_rfl) (by kernel_rfl) (by kernel_rfl) (by kernel_rfl) rfl (fun _ _ _ h => h) (by decide) (Or.inl ⟨by rfl, ?y4⟩) rfl ?e4 ?r4
          case y4 => (intro w' hS; (try dsimp only at hS); go_simp; try (with_reducible rfl))
          case e4 => ((try simp only [Act.put, List.setIfInBounds_toArray, List.set_cons_zero, List.set_cons_succ, List.getElem_toArray, List.getElem_cons_succ, List.getElem_cons_zero]); rfl)
          refine B_take2 4 [18] (v := ?v5) (a' := ?a5) (l' := #[true, true, true, true, true, false, false, false, false, false, false, false, false, false, false, false, false, false, false]) rfl (by kernel_rfl) (by kernel_rfl) (by kernel_rfl) (by kernel_rfl) rfl (fun _ _ _ h => h) (by decide) (Or.inl ⟨by rfl, ?y5⟩) rfl ?e5 ?r5
          case y5 => (intro w' hS; (try dsimp only at hS); go_simp; try (with_reducible rfl))
          case e5 => ((try simp only [Act.put, List.setIfInBounds_toArray, List.set_cons_zero, List.set_cons_succ, List.getElem_toArray, List.getElem_cons_succ, List.getElem_cons_zero]); rfl)
          refine B_take2 5 [18] (v := ?v6) (a' := ?a6) (l' := #[true, true, true, true, true, true, false, false, false, false, false, false, false, false, false, false, false, false, false]) rfl (by kernel_rfl) (by kernel_rfl) (by kernel_rfl) (by kernel_rfl) rfl (fun _ _ _ h => h) (by decide) (Or.inl ⟨by rfl, ?y6⟩) rfl ?e6 ?r6
          case y6 => (intro w' hS; (try dsimp only at hS); go_simp; try (with_reducible rfl))
          case e6 => ((try simp only [Act.put, List.setIfInBounds_toArray, List.set_cons_zero, List.set_cons_succ, List.getElem_toArray, List.getElem_cons_succ, List.getElem_cons_zero]); rfl)
          refine B_take2 6 [18] (v := ?v7) (a' := ?a7) (l' := #[true, true, true, true, true, true, true, false, false, false, false, false, false, false, false, false, false, false, false]) rfl (by kernel_rfl) (by kernel_rfl) (by kernel_rfl) (by kernel_rfl) rfl (fun _ _ _ h => h) (by decide) (Or.inl ⟨by rfl, ?y7⟩) rfl ?e7 ?r7
          case y7 => (intro w' hS; (try dsimp only at hS); go_simp; try (with_reducible rfl))
          case e7 => ((try simp only [Act.put, List.setIfInBounds_toArray, List.set_cons_zero, List.set_cons_succ, List.getElem_toArray, List.getElem_cons_succ, List.getElem_cons_zero]); rfl)
          refine B_take2 7 [18] (v := ?v8) (a' := ?a8) (l' := #[true, true, true, true, true, true, true, true, false, false, false, false, false, false, false, false, false, false, false]) rfl (by kernel_rfl) (by kernel_rfl) (by kernel_rfl) (by kernel_rfl) rfl (fun _ _ _ h => h) (by decide) (Or.inl ⟨by rfl, ?y8⟩) rfl ?e8 ?r8
          case y8 => (intro w' hS; (try dsimp only at hS); go_simp; try (with_reducible rfl))
          case e8 => ((try simp only [Act.put, List.setIfInBounds_toArray, List.set_cons_zero, List.set_cons_succ, List.getElem_toArray, List.getElem_cons_succ, List.getElem_cons_zero]); rfl)
          refine B_take2 8 [18] (v := ?v9) (a' := ?a9) (l' := #[true, true, true, true, true, true, true, true, true, false, false, false, false, false, false, false, false, false, false]) rfl (by kernel_rfl) (by kernel_rfl) (by kernel_rfl) (by kernel_rfl) rfl (fun _ _ _ h => h) (by decide) (Or.inl ⟨by rfl, ?y9⟩) rfl ?e9 ?r9
          case y9 => (intro w' hS; (try dsimp only at hS); go_simp; try (with_reducible rfl))
          case e9 => ((try simp only [Act.put, List.setIfInBounds_toArray, List.set_cons_zero, List.set_cons_succ, List.getElem_toArray, List.getElem_cons_succ, List.getElem_cons_zero]); rfl)
          refine B_take2 9 [18] (v := ?v10) (a' := ?a10) (l' := #[true, true, true, true, true, true, true, true, true, true, false, false, false, false, false, false, false, false, false]) rfl (by kernel_rfl) (by kernel_rfl) (by kernel_rfl) (by kernel_rfl) rfl (fun _ _ _ h => h) (by decide) (Or.inl ⟨by rfl, ?y10⟩) rfl ?e10 ?r10
          case y10 => (intro w' hS; (try dsimp only at hS); go_simp; try (with_reducible rfl))
          case e10 => ((try simp only [Act.put, List.setIfInBounds_toArray, List.set_cons_zero, List.set_cons_succ, List.getElem_toArray, List.getElem_cons_succ, List.getElem_cons_zero]); rfl)
          refine B_take2 10 [18] (v := ?v11) (a' := ?a11) (l' := #[true, true, true, true, true, true, true, true, true, true, true, false, false, false, false, false, false, false, false]) rfl (by kernel_rfl) (by kernel_rfl) (by kernel_rfl) (by kernel_rfl) rfl (fun _ _ _ h => h) (by decide) (Or.inl ⟨by rfl, ?y11⟩) rfl ?e11 ?r11
          case y11 => (intro w' hS; (try dsimp only at hS); go_simp; try (with_reducible rfl))
          case e11 => ((try simp only [Act.put, List.setIfInBounds_toArray, List.set_cons_zero, List.set_cons_succ, List.getElem_toArray, List.getElem_cons_succ, List.getElem_cons_zero]); rfl)
          refine B_take2 11 [18] (v := ?v12) (a' := ?a12) (l' := #[true, true, true, true, true, true, true, true, true, true, true, true, false, false, false, false, false, false, false]) rfl (by kernel_rfl) (by kernel_rfl) (by kernel_rfl) (by kernel_rfl) rfl (fun _ _ _ h => h) (by decide) (Or.inl ⟨by rfl, ?y12⟩) rfl ?e12 ?r12
          case y12 => (intro w' hS; (try dsimp only at hS); go_simp; try (with_reducible rfl))
          case e12 => ((try simp only [Act.put, List.setIfInBounds_toArray, List.set_cons_zero, List.set_cons_succ, List.getElem_toArray, List.getElem_cons_succ, List.getElem_cons_zero]); rfl)
          refine B_take2 12 [18] (v := ?v13) (a' := ?a13) (l' := #[true, true, true, true, true, true, true, true, true, true, true, true, true, false, false, false, false, false, false]) rfl (by kernel_rfl) (by kernel_rfl) (by kernel_rfl) (by kernel_rfl) rfl (fun _ _ _ h => h) (by decide) (Or.inl ⟨by rfl, ?y13⟩) rfl ?e13 ?r13
          case y13 => (intro w' hS; (try dsimp only at hS); go_simp; try (with_reducible rfl))
          case e13 => ((try simp only [Act.put, List.setIfInBounds_toArray, List.set_cons_zero, List.set_cons_succ, List.getElem_toArray, List.getElem_cons_succ, List.getElem_cons_zero]); rfl)
          refine B_take2 13 [18] (v := ?v14) (a' := ?a14) (l' := #[true, true, true, true, true, true, true, true, true, true, true, true, true, true, false, false, false, false, false]) rfl (by kernel_rfl) (by kernel_rfl) (by kernel_rfl) (by kernel_rfl) rfl (fun _ _ _ h => h) (by decide) (Or.inl ⟨by rfl, ?y14⟩) rfl ?e14 ?r14
          case y14 => (intro w' hS; (try dsimp only at hS); go_simp; try (with_reducible rfl))
          case e14 => ((try simp only [Act.put, List.setIfInBounds_toArray, List.set_cons_zero, List.set_cons_succ, List.getElem_toArray, List.getElem_cons_succ, List.getElem_cons_zero]); rfl)
          refine B_take2 14 [18] (v := ?v15) (a' := ?a15) (l' := #[true, true, true, true, true, true, true, true, true, true, true, true, true, true, true, false, false, false, false]) rfl (by kernel_rfl) (by kernel_rfl) (by kernel_rfl) (by kernel_rfl) rfl (fun _ _ _ h => h) (by decide) (Or.inl ⟨by rfl, ?y15⟩) rfl ?e15 ?r15
          case y15 => (intro w' hS; (try dsimp only at hS); go_simp; try (with_reducible rfl))
          case e15 => ((try simp only [Act.put, List.setIfInBounds_toArray, List.set_cons_zero, List.set_cons_succ, List.getElem_toArray, List.getElem_cons_succ, List.getElem_cons_zero]); rfl)
          refine B_take2 15 [18] (v := ?v16) (a' := ?a16) (l' := #[true, true, true, true, true, true, true, true, true, true, true, true, true, true, true, true, false, false, false]) rfl (by kernel_rfl) (by kernel_rfl) (by kernel_rfl) (by kernel_rfl) rfl (fun _ _ _ h => h) (by decide) (Or.inl ⟨by rfl, ?y16⟩) rfl ?e16 ?r16
          case y16 => (intro w' hS; (try dsimp only at hS); go_simp; try (with_reducible rfl))
          case e16 => ((try simp only [Act.put, List.setIfInBounds_toArray, List.set_cons_zero, List.set_cons_succ, List.getElem_toArray, List.getElem_cons_succ, List.getElem_cons_zero]); rfl)
          refine B_take2 16 [18] (v := ?v17) (a' := ?a17) (l' := #[true, true, true, true, true, true, true, true, true, true, true, true, true, true, true, true, true, false, false]) rfl (by kernel_rfl) (by kernel_rfl) (by kernel_rfl) (by kernel_rfl) rfl (fun _ _ _ h => h) (by decide) (Or.inl ⟨by rfl, ?y17⟩) rfl ?e17 ?r17
          case y17 => (intro w' hS; (try dsimp only at hS); go_simp; try (with_reducible rfl))
          case e17 => ((try simp only [Act.put, List.setIfInBounds_toArray, List.set_cons_zero, List.set_cons_succ, List.getElem_toArray, List.getElem_cons_succ, List.getElem_cons_zero]); rfl)
          refine B_take2 17 [18] (v := ?v18) (a' := ?a18) (l' := #[true, true, true, true, true, true, true, true, true, true, true, true, true, true, true, true, true, true, false]) rfl (by kernel_rfl) (by kernel_rfl) (by kernel_rfl) (by kernel_rfl) rfl (fun _ _ _ h => h) (by decide) (Or.inl ⟨by rfl, ?y18⟩) rfl ?e18 ?r18
          case y18 => (intro w' hS; (try dsimp only at hS); go_simp; try (with_reducible rfl))
          case e18 => ((try simp only [Act.put, List.setIfInBounds_toArray, List.set_cons_zero, List.set_cons_succ, List.getElem_toArray, List.getElem_cons_succ, List.getElem_cons_zero]); rfl)
          refine B_all (rs := [18]) (by kernel_rfl) (by simp) (fun hs1 hs2 => ⟨fun K hK => ?_, trivial⟩)
          refine op_goes rfl (by rfl) ?_
          have HK := Lib.hid hK; clear hK
          go_simp
          refine HK.out _ _ trivial (fun h => absurd h (by decide)) ?_
          clear HK K hs1 hs2
          refine B_norm (l' := #[true, true, true, true, true, true, true, true, true, true, true, true, true, true, true, true, true, true, true]) (a' := ?a19) rfl ?e19 ?r19
          case e19 => ((try simp only [Act.put, List.setIfInBounds_toArray, List.set_cons_zero, List.set_cons_succ, List.getElem_toArray, List.getElem_cons_succ, List.getElem_cons_zero]); rfl)
          refine B_done (by kernel_rfl) ?_
          rw [weight_num N _ _ (by have := HN2.out; omega)]
          have hMb : N + (1 + min d.name.size 20000 + min d.text.size 20000) ≤ 60000 := by have := HN2.out; omega
          generalize hM : N + (1 + min d.name.size 20000 + min d.text.size 20000) = M at hMb ⊢
          have HM := Lib.hid hM
          clear hM y0 y2
          generalize (if (20000 : Int) < (d.name.size : Int) then (20000 : Int) else (d.name.size : Int)) = z1
          generalize (if (20000 : Int) < (d.text.size : Int) then (20000 : Int) else (d.text.size : Int)) = z2
          go_wp2_with fail
          go_loopg [5, 7] d.attrs.length (fun kq v5 v7 wx => ∃ j N2 : Nat, v7 = .int .i64 j ∧ v5 = .int .i64 N2 ∧ M ≤ N2 ∧ N2 ≤ 60000 ∧ Hid (j + kq = d.attrs.length ∧ Upd None w wx ∧ Upd None wr wx))
          case atStart => exact ⟨0, M, rfl, rfl, Nat.le_refl _, hMb, by omega, HU.out.drew, (Upd.refl None wr).drew⟩
          case round =>
            obtain ⟨j, N2, rfl, rfl, hMN, hNb2, hrel2⟩ := hrel
            obtain ⟨hj, hw1, hw2⟩ := hrel2.out
            have HJ := Lib.hid hj
            have HWX := Lib.hid (And.intro hw1 hw2)
            have x1 := hw2.cell Y1.out id
            clear hrel2 hj hw1 hw2
            cases gk with
            | zero =>
              have hj : j = d.attrs.length := by have := HJ.out; omega
              subst hj
              have hwx1 := HWX.out.2
              have y3 := hwx1.cell Y3.out id
              have HUX := Lib.hid HWX.out.1
              have HVX := Lib.hid (HVK.out.keep hwx1)
              clear hwx1 HWX
              go_wp2_with fail
              refine (IH.out d.kids (by have := hkl.out; omega) _ _ _ _ (dp + 1) (by simp) (by omega) HVX.out).mono ?_
              rintro e w2 ⟨⟨WN, rfl, hW1, hW2⟩, hu2⟩
              have HU3 := Lib.hid (HUX.out.trans hu2 (fun _ _ h => h))
              have HW := Lib.hid hW2
              have hW3 : wB (dp + 1) + 60000 ≤ wB dp := by unfold wB; omega
              have hW4 : wB dp ≤ 6000000 := by unfold wB; omega
              clear hu2 hW2 HUX y3 HVX
              go_wp2_with fail
              go_roundg k1
              case measure => omega
              case rel => exact ⟨k + 1, N2 + WN, by go_num, by go_num, by omega, by have := HK.out; omega, (by
                intro hlt2
                have h1 := HN.out; have h2 := HM.out; have h3 := HW.out; have h4 := hcn.out; have h5 := htx.out; have h6 := HN2.out
                rw [h4, h5]
                simp only [ByteArray.size_append]
                omega), HU3.out⟩
            | succ j1 =>
              have hjl : j < d.attrs.length := by have := HJ.out; omega
              have hj2 : (j : Int) < (d.attrs.length : Int) := by omega
              by_cases hn3 : (N2 : Int) < 20000
              · obtain ⟨ba, oa, ca, e, a0, a1⟩ := attr_at (HVA.out.keep HWX.out.2) hjl
                cases e
                generalize d.attrs[j] = at_ at *
                go_upto_region 11 with fail
                have HN3 := Lib.hid hn3
                clear hn3
                refine B_start (fun _ => True) (fun w' => w'.cell? ⟨b, o + k * 4 + 1, none⟩ = some (.slice (some ⟨ba, oa, none⟩) d.attrs.length cv) ∧ w'.cell? ⟨ba, oa + j * 2, none⟩ = some (.string at_.name) ∧ w'.cell? ⟨ba, oa + j * 2 + 1, none⟩ = some (.string at_.value)) 26 (by kernel_rfl) trivial (by go_keep) 27 rfl #[false, false, false, false, false, false, false, false, false, false, false, false, false, false, false, false, false, false, false, false, false, false, false, false, false, false, false] rfl ?_
                refine B_take2 0 [26] (v := ?v20) (a' := ?a20) (l' := #[true, false, false, false, false, false, false, false, false, false, false, false, false, false, false, false, false, false, false, false, false, false, false, false, false, false, false]) rfl (by kernel_rfl) (by kernel_rfl) (by kernel_rfl) (by kernel_rfl) rfl (fun _ _ _ h => h) (by decide) (Or.inl ⟨by rfl, ?y20⟩) rfl ?e20 ?r20
                case y20 => (intro w' hS; (try dsimp only at hS); go_simp; try (with_reducible rfl))
                case e20 => ((try simp only [Act.put, List.setIfInBounds_toArray, List.set_cons_zero, List.set_cons_succ, List.getElem_toArray, List.getElem_cons_succ, List.getElem_cons_zero]); rfl)
                refine B_take2 1 [26] (v := ?v21) (a' := ?a21) (l' := #[true, true, false, false, false, false, false, false, false, false, false, false, false, false, false, false, false, false, false, false, false, false, false, false, false, false, false]) rfl (by kernel_rfl) (by kernel_rfl) (by kernel_rfl) (by kernel_rfl) rfl (fun _ _ _ h => h) (by decide) (Or.inl ⟨by rfl, ?y21⟩) rfl ?e21 ?r21
                case y21 => (intro w' hS; (try dsimp only at hS); go_simp; try (with_reducible rfl))
                case e21 => ((try simp only [Act.put, List.setIfInBounds_toArray, List.set_cons_zero, List.set_cons_succ, List.getElem_toArray, List.getElem_cons_succ, List.getElem_cons_zero]); rfl)
                refine B_take2 2 [26] (v := ?v22) (a' := ?a22) (l' := #[true, true, true, false, false, false, false, false, false, false, false, false, false, false, false, false, false, false, false, false, false, false, false, false, false, false, false]) rfl (by kernel_rfl) (by kernel_rfl) (by kernel_rfl) (by kernel_rfl) rfl (fun _ _ _ h => h) (by decide) (Or.inl ⟨by rfl, ?y22⟩) rfl ?e22 ?r22
                case y22 => (intro w' hS; (try dsimp only at hS); go_simp; try (with_reducible rfl))
                case e22 => ((try simp only [Act.put, List.setIfInBounds_toArray, List.set_cons_zero, List.set_cons_succ, List.getElem_toArray, List.getElem_cons_succ, List.getElem_cons_zero]); rfl)
                refine B_take2 3 [26] (v := ?v23) (a' := ?a23) (l' := #[true, true, true, true, false, false, false, false, false, false, false, false, false, false, false, false, false, false, false, false, false, false, false, false, false, false, false]) rfl (by kernel_rfl) (by kernel_rfl) (by kernel_rfl) (by kernel_rfl) rfl (fun _ _ _ h => h) (by decide) (Or.inl ⟨by rfl, ?y23⟩) rfl ?e23 ?r23
                case y23 => (intro w' hS; (try dsimp only at hS); go_simp; try (with_reducible rfl))
                case e23 => ((try simp only [Act.put, List.setIfInBounds_toArray, List.set_cons_zero, List.set_cons_succ, List.getElem_toArray, List.getElem_cons_succ, List.getElem_cons_zero]); rfl)
                refine B_take2 4 [26] (v := ?v24) (a' := ?a24) (l' := #[true, true, true, true, true, false, false, false, false, false, false, false, false, false, false, false, false, false, false, false, false, false, false, false, false, false, false]) rfl (by kernel_rfl) (by kernel_rfl) (by kernel_rfl) (by kernel_rfl) rfl (fun _ _ _ h => h) (by decide) (Or.inl ⟨by rfl, ?y24⟩) rfl ?e24 ?r24
                case y24 => (intro w' hS; (try dsimp only at hS); go_simp; try (with_reducible rfl))
                case e24 => ((try simp only [Act.put, List.setIfInBounds_toArray, List.set_cons_zero, List.set_cons_succ, List.getElem_toArray, List.getElem_cons_succ, List.getElem_cons_zero]); rfl)
                refine B_take2 5 [26] (v := ?v25) (a' := ?a25) (l' := #[true, true, true, true, true, true, false, false, false, false, false, false, false, false, false, false, false, false, false, false, false, false, false, false, false, false, false]) rfl (by kernel_rfl) (by kernel_rfl) (by kernel_rfl) (by kernel_rfl) rfl (fun _ _ _ h => h) (by decide) (Or.inl ⟨by rfl, ?y25⟩) rfl ?e25 ?r25
                case y25 => (intro w' hS; (try dsimp only at hS); go_simp; try (with_reducible rfl))
                case e25 => ((try simp only [Act.put, List.setIfInBounds_toArray, List.set_cons_zero, List.set_cons_succ, List.getElem_toArray, List.getElem_cons_succ, List.getElem_cons_zero]); rfl)
                refine B_take2 6 [26] (v := ?v26) (a' := ?a26) (l' := #[true, true, true, true, true, true, true, false, false, false, false, false, false, false, false, false, false, false, false, false, false, false, false, false, false, false, false]) rfl (by kernel_rfl) (by kernel_rfl) (by kernel_rfl) (by kernel_rfl) rfl (fun _ _ _ h => h) (by decide) (Or.inl ⟨by rfl, ?y26⟩) rfl ?e26 ?r26
                case y26 => (intro w' hS; (try dsimp only at hS); go_simp; try (with_reducible rfl))
                case e26 => ((try simp only [Act.put, List.setIfInBounds_toArray, List.set_cons_zero, List.set_cons_succ, List.getElem_toArray, List.getElem_cons_succ, List.getElem_cons_zero]); rfl)
                refine B_take2 7 [26] (v := ?v27) (a' := ?a27) (l' := #[true, true, true, true, true, true, true, true, false, false, false, false, false, false, false, false, false, false, false, false, false, false, false, false, false, false, false]) rfl (by kernel_rfl) (by kernel_rfl) (by kernel_rfl) (by kernel_rfl) rfl (fun _ _ _ h => h) (by decide) (Or.inl ⟨by rfl, ?y27⟩) rfl ?e27 ?r27
                case y27 => (intro w' hS; (try dsimp only at hS); go_simp; try (with_reducible rfl))
                case e27 => ((try simp only [Act.put, List.setIfInBounds_toArray, List.set_cons_zero, List.set_cons_succ, List.getElem_toArray, List.getElem_cons_succ, List.getElem_cons_zero]); rfl)
                refine B_take2 8 [26] (v := ?v28) (a' := ?a28) (l' := #[true, true, true, true, true, true, true, true, true, false, false, false, false, false, false, false, false, false, false, false, false, false, false, false, false, false, false]) rfl (by kernel_rfl) (by kernel_rfl) (by kernel_rfl) (by kernel_rfl) rfl (fun _ _ _ h => h) (by decide) (Or.inl ⟨by rfl, ?y28⟩) rfl ?e28 ?r28
                case y28 => (intro w' hS; (try dsimp only at hS); go_simp; try (with_reducible rfl))
                case e28 => ((try simp only [Act.put, List.setIfInBounds_toArray, List.set_cons_zero, List.set_cons_succ, List.getElem_toArray, List.getElem_cons_succ, List.getElem_cons_zero]); rfl)
                refine B_take2 9 [26] (v := ?v29) (a' := ?a29) (l' := #[true, true, true, true, true, true, true, true, true, true, false, false, false, false, false, false, false, false, false, false, false, false, false, false, false, false, false]) rfl (by kernel_rfl) (by kernel_rfl) (by kernel_rfl) (by kernel_rfl) rfl (fun _ _ _ h => h) (by decide) (Or.inl ⟨by rfl, ?y29⟩) rfl ?e29 ?r29
                case y29 => (intro w' hS; (try dsimp only at hS); go_simp; try (with_reducible rfl))
                case e29 => ((try simp only [Act.put, List.setIfInBounds_toArray, List.set_cons_zero, List.set_cons_succ, List.getElem_toArray, List.getElem_cons_succ, List.getElem_cons_zero]); rfl)
                refine B_take2 10 [26] (v := ?v30) (a' := ?a30) (l' := #[true, true, true, true, true, true, true, true, true, true, true, false, false, false, false, false, false, false, false, false, false, false, false, false, false, false, false]) rfl (by kernel_rfl) (by kernel_rfl) (by kernel_rfl) (by kernel_rfl) rfl (fun _ _ _ h => h) (by decide) (Or.inl ⟨by rfl, ?y30⟩) rfl ?e30 ?r30
                case y30 => (intro w' hS; (try dsimp only at hS); go_simp; try (with_reducible rfl))
                case e30 => ((try simp only [Act.put, List.setIfInBounds_toArray, List.set_cons_zero, List.set_cons_succ, List.getElem_toArray, List.getElem_cons_succ, List.getElem_cons_zero]); rfl)
                refine B_take2 11 [26] (v := ?v31) (a' := ?a31) (l' := #[true, true, true, true, true, true, true, true, true, true, true, true, false, false, false, false, false, false, false, false, false, false, false, false, false, false, false]) rfl (by kernel_rfl) (by kernel_rfl) (by kernel_rfl) (by kernel_rfl) rfl (fun _ _ _ h => h) (by decide) (Or.inl ⟨by rfl, ?y31⟩) rfl ?e31 ?r31
                case y31 => (intro w' hS; (try dsimp only at hS); go_simp; try (with_reducible rfl))
                case e31 => ((try simp only [Act.put, List.setIfInBounds_toArray, List.set_cons_zero, List.set_cons_succ, List.getElem_toArray, List.getElem_cons_succ, List.getElem_cons_zero]); rfl)
                refine B_take2 12 [26] (v := ?v32) (a' := ?a32) (l' := #[true, true, true, true, true, true, true, true, true, true, true, true, true, false, false, false, false, false, false, false, false, false, false, false, false, false, false]) rfl (by kernel_rfl) (by kernel_rfl) (by kernel_rfl) (by kernel_rfl) rfl (fun _ _ _ h => h) (by decide) (Or.inl ⟨by rfl, ?y32⟩) rfl ?e32 ?r32
                case y32 => (intro w' hS; (try dsimp only at hS); go_simp; try (with_reducible rfl))
                case e32 => ((try simp only [Act.put, List.setIfInBounds_toArray, List.set_cons_zero, List.set_cons_succ, List.getElem_toArray, List.getElem_cons_succ, List.getElem_cons_zero]); rfl)
                refine B_take2 13 [26] (v := ?v33) (a' := ?a33) (l' := #[true, true, true, true, true, true, true, true, true, true, true, true, true, true, false, false, false, false, false, false, false, false, false, false, false, false, false]) rfl (by kernel_rfl) (by kernel_rfl) (by kernel_rfl) (by kernel_rfl) rfl (fun _ _ _ h => h) (by decide) (Or.inl ⟨by rfl, ?y33⟩) rfl ?e33 ?r33
                case y33 => (intro w' hS; (try dsimp only at hS); go_simp; try (with_reducible rfl))
                case e33 => ((try simp only [Act.put, List.setIfInBounds_toArray, List.set_cons_zero, List.set_cons_succ, List.getElem_toArray, List.getElem_cons_succ, List.getElem_cons_zero]); rfl)
                refine B_take2 14 [26] (v := ?v34) (a' := ?a34) (l' := #[true, true, true, true, true, true, true, true, true, true, true, true, true, true, true, false, false, false, false, false, false, false, false, false, false, false, false]) rfl (by kernel_rfl) (by kernel_rfl) (by kernel_rfl) (by kernel_rfl) rfl (fun _ _ _ h => h) (by decide) (Or.inl ⟨by rfl, ?y34⟩) rfl ?e34 ?r34
                case y34 => (intro w' hS; (try dsimp only at hS); go_simp; try (with_reducible rfl))
                case e34 => ((try simp only [Act.put, List.setIfInBounds_toArray, List.set_cons_zero, List.set_cons_succ, List.getElem_toArray, List.getElem_cons_succ, List.getElem_cons_zero]); rfl)
                refine B_take2 15 [26] (v := ?v35) (a' := ?a35) (l' := #[true, true, true, true, true, true, true, true, true, true, true, true, true, true, true, true, false, false, false, false, false, false, false, false, false, false, false]) rfl (by kernel_rfl) (by kernel_rfl) (by kernel_rfl) (by kernel_rfl) rfl (fun _ _ _ h => h) (by decide) (Or.inl ⟨by rfl, ?y35⟩) rfl ?e35 ?r35
                case y35 => (intro w' hS; (try dsimp only at hS); go_simp; try (with_reducible rfl))
                case e35 => ((try simp only [Act.put, List.setIfInBounds_toArray, List.set_cons_zero, List.set_cons_succ, List.getElem_toArray, List.getElem_cons_succ, List.getElem_cons_zero]); rfl)
                refine B_take2 16 [26] (v := ?v36) (a' := ?a36) (l' := #[true, true, true, true, true, true, true, true, true, true, true, true, true, true, true, true, true, false, false, false, false, false, false, false, false, false, false]) rfl (by kernel_rfl) (by kernel_rfl) (by kernel_rfl) (by kernel_rfl) rfl (fun _ _ _ h => h) (by decide) (Or.inl ⟨by rfl, ?y36⟩) rfl ?e36 ?r36
                case y36 => (intro w' hS; (try dsimp only at hS); go_simp; try (with_reducible rfl))
                case e36 => ((try simp only [Act.put, List.setIfInBounds_toArray, List.set_cons_zero, List.set_cons_succ, List.getElem_toArray, List.getElem_cons_succ, List.getElem_cons_zero]); rfl)
                refine B_take2 17 [26] (v := ?v37) (a' := ?a37) (l' := #[true, true, true, true, true, true, true, true, true, true, true, true, true, true, true, true, true, true, false, false, false, false, false, false, false, false, false]) rfl (by kernel_rfl) (by kernel_rfl) (by kernel_rfl) (by kernel_rfl) rfl (fun _ _ _ h => h) (by decide) (Or.inl ⟨by rfl, ?y37⟩) rfl ?e37 ?r37
                case y37 => (intro w' hS; (try dsimp only at hS); go_simp; try (with_reducible rfl))
                case e37 => ((try simp only [Act.put, List.setIfInBounds_toArray, List.set_cons_zero, List.set_cons_succ, List.getElem_toArray, List.getElem_cons_succ, List.getElem_cons_zero]); rfl)
                refine B_take2 18 [26] (v := ?v38) (a' := ?a38) (l' := #[true, true, true, true, true, true, true, true, true, true, true, true, true, true, true, true, true, true, true, false, false, false, false, false, false, false, false]) rfl (by kernel_rfl) (by kernel_rfl) (by kernel_rfl) (by kernel_rfl) rfl (fun _ _ _ h => h) (by decide) (Or.inl ⟨by rfl, ?y38⟩) rfl ?e38 ?r38
                case y38 => (intro w' hS; (try dsimp only at hS); go_simp; try (with_reducible rfl))
                case e38 => ((try simp only [Act.put, List.setIfInBounds_toArray, List.set_cons_zero, List.set_cons_succ, List.getElem_toArray, List.getElem_cons_succ, List.getElem_cons_zero]); rfl)
                refine B_take2 19 [26] (v := ?v39) (a' := ?a39) (l' := #[true, true, true, true, true, true, true, true, true, true, true, true, true, true, true, true, true, true, true, true, false, false, false, false, false, false, false]) rfl (by kernel_rfl) (by kernel_rfl) (by kernel_rfl) (by kernel_rfl) rfl (fun _ _ _ h => h) (by decide) (Or.inl ⟨by rfl, ?y39⟩) rfl ?e39 ?r39
                case y39 => (intro w' hS; (try dsimp only at hS); go_simp; try (with_reducible rfl))
                case e39 => ((try simp only [Act.put, List.setIfInBounds_toArray, List.set_cons_zero, List.set_cons_succ, List.getElem_toArray, List.getElem_cons_succ, List.getElem_cons_zero]); rfl)
                refine B_take2 20 [26] (v := ?v40) (a' := ?a40) (l' := #[true, true, true, true, true, true, true, true, true, true, true, true, true, true, true, true, true, true, true, true, true, false, false, false, false, false, false]) rfl (by kernel_rfl) (by kernel_rfl) (by kernel_rfl) (by kernel_rfl) rfl (fun _ _ _ h => h) (by decide) (Or.inl ⟨by rfl, ?y40⟩) rfl ?e40 ?r40
                case y40 => (intro w' hS; (try dsimp only at hS); go_simp; try (with_reducible rfl))
                case e40 => ((try simp only [Act.put, List.setIfInBounds_toArray, List.set_cons_zero, List.set_cons_succ, List.getElem_toArray, List.getElem_cons_succ, List.getElem_cons_zero]); rfl)
                refine B_take2 21 [26] (v := ?v41) (a' := ?a41) (l' := #[true, true, true, true, true, true, true, true, true, true, true, true, true, true, true, true, true, true, true, true, true, true, false, false, false, false, false]) rfl (by kernel_rfl) (by kernel_rfl) (by kernel_rfl) (by kernel_rfl) rfl (fun _ _ _ h => h) (by decide) (Or.inl ⟨by rfl, ?y41⟩) rfl ?e41 ?r41
                case y41 => (intro w' hS; (try dsimp only at hS); go_simp; try (with_reducible rfl))
                case e41 => ((try simp only [Act.put, List.setIfInBounds_toArray, List.set_cons_zero, List.set_cons_succ, List.getElem_toArray, List.getElem_cons_succ, List.getElem_cons_zero]); rfl)
                refine B_take2 22 [26] (v := ?v42) (a' := ?a42) (l' := #[true, true, true, true, true, true, true, true, true, true, true, true, true, true, true, true, true, true, true, true, true, true, true, false, false, false, false]) rfl (by kernel_rfl) (by kernel_rfl) (by kernel_rfl) (by kernel_rfl) rfl (fun _ _ _ h => h) (by decide) (Or.inl ⟨by rfl, ?y42⟩) rfl ?e42 ?r42
                case y42 => (intro w' hS; (try dsimp only at hS); go_simp; try (with_reducible rfl))
                case e42 => ((try simp only [Act.put, List.setIfInBounds_toArray, List.set_cons_zero, List.set_cons_succ, List.getElem_toArray, List.getElem_cons_succ, List.getElem_cons_zero]); rfl)
                refine B_take2 23 [26] (v := ?v43) (a' := ?a43) (l' := #[true, true, true, true, true, true, true, true, true, true, true, true, true, true, true, true, true, true, true, true, true, true, true, true, false, false, false]) rfl (by kernel_rfl) (by kernel_rfl) (by kernel_rfl) (by kernel_rfl) rfl (fun _ _ _ h => h) (by decide) (Or.inl ⟨by rfl, ?y43⟩) rfl ?e43 ?r43
                case y43 => (intro w' hS; (try dsimp only at hS); go_simp; try (with_reducible rfl))
                case e43 => ((try simp only [Act.put, List.setIfInBounds_toArray, List.set_cons_zero, List.set_cons_succ, List.getElem_toArray, List.getElem_cons_succ, List.getElem_cons_zero]); rfl)
                refine B_take2 24 [26] (v := ?v44) (a' := ?a44) (l' := #[true, true, true, true, true, true, true, true, true, true, true, true, true, true, true, true, true, true, true, true, true, true, true, true, true, false, false]) rfl (by kernel_rfl) (by kernel_rfl) (by kernel_rfl) (by kernel_rfl) rfl (fun _ _ _ h => h) (by decide) (Or.inl ⟨by rfl, ?y44⟩) rfl ?e44 ?r44
                case y44 => (intro w' hS; (try dsimp only at hS); go_simp; try (with_reducible rfl))
                case e44 => ((try simp only [Act.put, List.setIfInBounds_toArray, List.set_cons_zero, List.set_cons_succ, List.getElem_toArray, List.getElem_cons_succ, List.getElem_cons_zero]); rfl)
                refine B_take2 25 [26] (v := ?v45) (a' := ?a45) (l' := #[true, true, true, true, true, true, true, true, true, true, true, true, true, true, true, true, true, true, true, true, true, true, true, true, true, true, false]) rfl (by kernel_rfl) (by kernel_rfl) (by kernel_rfl) (by kernel_rfl) rfl (fun _ _ _ h => h) (by decide) (Or.inl ⟨by rfl, ?y45⟩) rfl ?e45 ?r45
                case y45 => (intro w' hS; (try dsimp only at hS); go_simp; try (with_reducible rfl))
                case e45 => ((try simp only [Act.put, List.setIfInBounds_toArray, List.set_cons_zero, List.set_cons_succ, List.getElem_toArray, List.getElem_cons_succ, List.getElem_cons_zero]); rfl)
                refine B_all (rs := [26]) (by kernel_rfl) (by simp) (fun hs1 hs2 => ⟨fun K hK => ?_, trivial⟩)
                refine op_goes rfl (by rfl) ?_
                have HK := Lib.hid hK; clear hK
                go_simp
                refine HK.out _ _ trivial (fun h => absurd h (by decide)) ?_
                clear HK K hs1 hs2
                refine B_norm (l' := #[true, true, true, true, true, true, true, true, true, true, true, true, true, true, true, true, true, true, true, true, true, true, true, true, true, true, true]) (a' := ?a46) rfl ?e46 ?r46
                case e46 => ((try simp only [Act.put, List.setIfInBounds_toArray, List.set_cons_zero, List.set_cons_succ, List.getElem_toArray, List.getElem_cons_succ, List.getElem_cons_zero]); rfl)
                refine B_done (by kernel_rfl) ?_
                rw [weight_num N2 _ _ (by have := HN3.out; omega)]
                have hMb2 : N2 + (1 + min at_.name.size 20000 + min at_.value.size 20000) ≤ 60000 := by have := HN3.out; omega
                have hMl2 : M ≤ N2 + (1 + min at_.name.size 20000 + min at_.value.size 20000) := by omega
                generalize N2 + (1 + min at_.name.size 20000 + min at_.value.size 20000) = M2 at hMb2 hMl2 ⊢
                clear a0 a1 x1
                generalize (if (20000 : Int) < (at_.name.size : Int) then (20000 : Int) else (at_.name.size : Int)) = z3
                generalize (if (20000 : Int) < (at_.value.size : Int) then (20000 : Int) else (at_.value.size : Int)) = z4
                go_wp2_with fail
                go_roundg j1
                case measure => omega
                case rel => exact ⟨j + 1, M2, by go_num, rfl, hMl2, hMb2, by have := HJ.out; omega, HWX.out.1.drew, HWX.out.2.drew⟩
              · skip
                have hwx1 := HWX.out.2
                have y3 := hwx1.cell Y3.out id
                have HUX := Lib.hid HWX.out.1
                have HVX := Lib.hid (HVK.out.keep hwx1)
                clear hwx1 HWX
                go_wp2_with fail
                refine (IH.out d.kids (by have := hkl.out; omega) _ _ _ _ (dp + 1) (by simp) (by omega) HVX.out).mono ?_
                rintro e w2 ⟨⟨WN, rfl, hW1, hW2⟩, hu2⟩
                have HU3 := Lib.hid (HUX.out.trans hu2 (fun _ _ h => h))
                have HW := Lib.hid hW2
                have hW3 : wB (dp + 1) + 60000 ≤ wB dp := by unfold wB; omega
                have hW4 : wB dp ≤ 6000000 := by unfold wB; omega
                clear hu2 hW2 HUX y3 HVX
                go_wp2_with fail
                go_roundg k1
                case measure => omega
                case rel => exact ⟨k + 1, N2 + WN, by go_num, by go_num, by omega, by have := HK.out; omega, (by
                  intro hlt2
                  have h1 := HN.out; have h2 := HM.out; have h3 := HW.out; have h4 := hcn.out; have h5 := htx.out; have h6 := HN2.out
                  rw [h4, h5]
                  simp only [ByteArray.size_append]
                  omega), HU3.out⟩
        · go_wp2
          go_ret
          exact ⟨⟨N, rfl, hNb, fun h => by omega⟩, HU.out⟩
theorem weight_any (w : World) (P : FP) (v : Value) (l : List Node) (hv : SliceIs w P v l) :
    Calls Try.prog 35 #[v, .int .i64 0] w fun e w' => WeightPost l 0 e ∧ Upd None w w' := weight_any' _ l (Nat.le_refl _) w P v 0 0 rfl (by omega) hv
end Go.Proofs.Ytidicfdcjoggpaa
