/-
  versoref04.Text and versoref04.Size: as dom.Text and dom.Size.
-/
import Derived.Test.YtidicfdcjoggpaaDomSize
namespace Go.Proofs.Ytidicfdcjoggpaa
open Go.RowKit
set_option linter.unusedVariables false
set_option linter.unusedSimpArgs false
attribute [local go_sem ↓] Go.wp_at_zero Go.wp_at_succ
attribute [local go_sem] World.cell?_alloc_some
theorem node_at {w : World} {P : FP} {v : Value} {l : List Node} (h : SliceIs w P v l) {i : Nat} (hi : i < l.length) : ∃ b o c Av cv Ak ck, v = .slice (some ⟨b, o, none⟩) l.length c ∧ w.cell? ⟨b, o + i * 4, none⟩ = some (.string l[i].name) ∧ w.cell? ⟨b, o + i * 4 + 1, none⟩ = some (.slice Av l[i].attrs.length cv) ∧
    w.cell? ⟨b, o + i * 4 + 2, none⟩ = some (.string l[i].text) ∧ w.cell? ⟨b, o + i * 4 + 3, none⟩ = some (.slice Ak l[i].kids.length ck) ∧ SliceIs w P (.slice Av l[i].attrs.length cv) l[i].attrs ∧ SliceIs w P (.slice Ak l[i].kids.length ck) l[i].kids := by
  obtain ⟨b, o, c, cs, rfl, -, -, -, ht, hx⟩ := h.at_ hi
  obtain ⟨va, vk, rfl, ha, hk⟩ := Node.open_ ht
  obtain ⟨Av, cv, rfl, -⟩ := ha.shape
  obtain ⟨Ak, ck, rfl, -⟩ := hk.shape
  exact ⟨b, o, c, Av, cv, Ak, ck, rfl, hx 0 _ rfl, hx 1 _ rfl, hx 2 _ rfl, hx 3 _ rfl, ha, hk⟩
set_option maxRecDepth 100000 in
set_option maxHeartbeats 2000000 in
theorem refText_any' (n : Nat) : ∀ (l : List Node), SizeOf.sizeOf l ≤ n → ∀ (w : World) (P : FP) (v : Value), SliceIs w P v l → (nText l).size ≤ 1000000000 →
    Calls Try.prog 25 #[v] w fun e w' => StrIs (nText l) e ∧ Upd None w w' := by
  induction n with
  | zero => intro l h; cases l <;> simp at h
  | succ n ih =>
    intro l hn w P v hv hsz
    obtain ⟨A, c, rfl, hlc, hcm⟩ := hv.shape
    unfold maxLen at hcm
    have HV := Lib.hid hv
    have IH := Lib.hid ih
    clear hv ih
    go_enter Try.func25, Try.ntmps25
    go_wp2
    go_loopg [3, 4] l.length (fun kq v3 v4 wr => ∃ k : Nat, v4 = .int .i64 k ∧ v3 = .string (nText (l.take k)) ∧ Hid (k + kq = l.length ∧ Upd None w wr))
    case atStart => exact ⟨0, rfl, by rw [List.take_zero, nText_nil]; rfl, by omega, Upd.refl _ _⟩
    case round =>
      obtain ⟨k, rfl, rfl, hrel⟩ := hrel
      obtain ⟨hk, hu⟩ := hrel.out
      have HU := Lib.hid hu; have HK := Lib.hid hk
      clear hrel hu hk
      cases gk with
      | zero =>
        have hlt : ¬ k < l.length := by have := HK.out; omega
        go_wp2
        go_ret
        exact ⟨by show StrIs _ _; rw [List.take_of_length_le (by omega)]; rfl, HU.out⟩
      | succ k1 =>
        have hlt : k < l.length := by have := HK.out; omega
        have hle := nText_le l k hlt
        have hkl := Lib.hid (kids_lt l k hlt)
        have htk := Lib.hid (nText_take l k hlt)
        obtain ⟨b, o, c', Av, cv, Ak, ck, e, x0, x1, y2, y3, -, hvk⟩ := node_at (HV.out.keep HU.out) hlt
        cases e
        have hi1 : (0 : Int) ≤ (k : Int) := by omega
        have hi2 : (k : Int) < (l.length : Int) := by omega
        have HVK := Lib.hid hvk
        clear hvk x0 x1
        generalize l[k] = d at *
        generalize nText (l.take k) = T at *
        go_upto_region 5 with fail
        refine B_start (fun _ => True) (fun w' => w'.cell? ⟨b, o + k * 4 + 2, none⟩ = some (.string d.text) ∧ w'.cell? ⟨b, o + k * 4 + 3, none⟩ = some (.slice Ak d.kids.length ck)) 14 (by kernel_rfl) trivial (by go_keep) 15 rfl #[false, false, false, false, false, false, false, false, false, false, false, false, false, false, false] rfl ?_
        refine B_take2 0 [14] (v := ?v1) (a' := ?a1) (l' := #[true, false, false, false, false, false, false, false, false, false, false, false, false, false, false]) rfl (by kernel_rfl) (by kernel_rfl) (by kernel_rfl) (by kernel_rfl) rfl (fun _ _ _ h => h) (by decide) (Or.inl ⟨by rfl, ?y1⟩) rfl ?e1 ?r1
        case y1 => (intro w' hS; (try dsimp only at hS); go_simp; try (with_reducible rfl))
        case e1 => ((try simp only [Act.put, List.setIfInBounds_toArray, List.set_cons_zero, List.set_cons_succ, List.getElem_toArray, List.getElem_cons_succ, List.getElem_cons_zero]); rfl)
        refine B_take2 1 [14] (v := ?v2) (a' := ?a2) (l' := #[true, true, false, false, false, false, false, false, false, false, false, false, false, false, false]) rfl (by kernel_rfl) (by kernel_rfl) (by kernel_rfl) (by kernel_rfl) rfl (fun _ _ _ h => h) (by decide) (Or.inl ⟨by rfl, ?y2⟩) rfl ?e2 ?r2
        case y2 => (intro w' hS; (try dsimp only at hS); go_simp; try (with_reducible rfl))
        case e2 => ((try simp only [Act.put, List.setIfInBounds_toArray, List.set_cons_zero, List.set_cons_succ, List.getElem_toArray, List.getElem_cons_succ, List.getElem_cons_zero]); rfl)
        refine B_take2 2 [14] (v := ?v3) (a' := ?a3) (l' := #[true, true, true, false, false, false, false, false, false, false, false, false, false, false, false]) rfl (by kernel_rfl) (by kernel_rfl) (by kernel_rfl) (by kernel_rfl) rfl (fun _ _ _ h => h) (by decide) (Or.inl ⟨by rfl, ?y3⟩) rfl ?e3 ?r3
        case y3 => (intro w' hS; (try dsimp only at hS); go_simp; try (with_reducible rfl))
        case e3 => ((try simp only [Act.put, List.setIfInBounds_toArray, List.set_cons_zero, List.set_cons_succ, List.getElem_toArray, List.getElem_cons_succ, List.getElem_cons_zero]); rfl)
        refine B_take2 3 [14] (v := ?v4) (a' := ?a4) (l' := #[true, true, true, true, false, false, false, false, false, false, false, false, false, false, false]) rfl (by kernel_rfl) (by kernel_rfl) (by kernel_rfl) (by kernel_rfl) rfl (fun _ _ _ h => h) (by decide) (Or.inl ⟨by rfl, ?y4⟩) rfl ?e4 ?r4
        case y4 => (intro w' hS; (try dsimp only at hS); go_simp; try (with_reducible rfl))
        case e4 => ((try simp only [Act.put, List.setIfInBounds_toArray, List.set_cons_zero, List.set_cons_succ, List.getElem_toArray, List.getElem_cons_succ, List.getElem_cons_zero]); rfl)
        refine B_take2 4 [14] (v := ?v5) (a' := ?a5) (l' := #[true, true, true, true, true, false, false, false, false, false, false, false, false, false, false]) rfl (by kernel_rfl) (by kernel_rfl) (by kernel_rfl) (by kernel_rfl) rfl (fun _ _ _ h => h) (by decide) (Or.inl ⟨by rfl, ?y5⟩) rfl ?e5 ?r5
        case y5 => (intro w' hS; (try dsimp only at hS); go_simp; try (with_reducible rfl))
        case e5 => ((try simp only [Act.put, List.setIfInBounds_toArray, List.set_cons_zero, List.set_cons_succ, List.getElem_toArray, List.getElem_cons_succ, List.getElem_cons_zero]); rfl)
        refine B_take2 5 [14] (v := ?v6) (a' := ?a6) (l' := #[true, true, true, true, true, true, false, false, false, false, false, false, false, false, false]) rfl (by kernel_rfl) (by kernel_rfl) (by kernel_rfl) (by kernel_rfl) rfl (fun _ _ _ h => h) (by decide) (Or.inl ⟨by rfl, ?y6⟩) rfl ?e6 ?r6
        case y6 => (intro w' hS; (try dsimp only at hS); go_simp; try (with_reducible rfl))
        case e6 => ((try simp only [Act.put, List.setIfInBounds_toArray, List.set_cons_zero, List.set_cons_succ, List.getElem_toArray, List.getElem_cons_succ, List.getElem_cons_zero]); rfl)
        refine B_take1 6 (v := ?v7) (a' := ?a7) (l' := #[true, true, true, true, true, true, true, false, false, false, false, false, false, false, false]) rfl (by kernel_rfl) (by kernel_rfl) (by kernel_rfl) (fun _ _ _ h => h) (by decide) (Or.inl ⟨by rfl, ?y7⟩) rfl ?e7 ?r7
        case y7 => (intro w' hS; go_simp; rw [if_neg (by omega)])
        case e7 => ((try simp only [Act.put, List.setIfInBounds_toArray, List.set_cons_zero, List.set_cons_succ, List.getElem_toArray, List.getElem_cons_succ, List.getElem_cons_zero]); rfl)
        refine B_take2 7 [14] (v := ?v8) (a' := ?a8) (l' := #[true, true, true, true, true, true, true, true, false, false, false, false, false, false, false]) rfl (by kernel_rfl) (by kernel_rfl) (by kernel_rfl) (by kernel_rfl) rfl (fun _ _ _ h => h) (by decide) (Or.inl ⟨by rfl, ?y8⟩) rfl ?e8 ?r8
        case y8 => (intro w' hS; (try dsimp only at hS); go_simp; try (with_reducible rfl))
        case e8 => ((try simp only [Act.put, List.setIfInBounds_toArray, List.set_cons_zero, List.set_cons_succ, List.getElem_toArray, List.getElem_cons_succ, List.getElem_cons_zero]); rfl)
        refine B_take2 8 [14] (v := ?v9) (a' := ?a9) (l' := #[true, true, true, true, true, true, true, true, true, false, false, false, false, false, false]) rfl (by kernel_rfl) (by kernel_rfl) (by kernel_rfl) (by kernel_rfl) rfl (fun _ _ _ h => h) (by decide) (Or.inl ⟨by rfl, ?y9⟩) rfl ?e9 ?r9
        case y9 => (intro w' hS; (try dsimp only at hS); go_simp; try (with_reducible rfl))
        case e9 => ((try simp only [Act.put, List.setIfInBounds_toArray, List.set_cons_zero, List.set_cons_succ, List.getElem_toArray, List.getElem_cons_succ, List.getElem_cons_zero]); rfl)
        refine B_take2 9 [14] (v := ?v10) (a' := ?a10) (l' := #[true, true, true, true, true, true, true, true, true, true, false, false, false, false, false]) rfl (by kernel_rfl) (by kernel_rfl) (by kernel_rfl) (by kernel_rfl) rfl (fun _ _ _ h => h) (by decide) (Or.inl ⟨by rfl, ?y10⟩) rfl ?e10 ?r10
        case y10 => (intro w' hS; (try dsimp only at hS); go_simp; try (with_reducible rfl))
        case e10 => ((try simp only [Act.put, List.setIfInBounds_toArray, List.set_cons_zero, List.set_cons_succ, List.getElem_toArray, List.getElem_cons_succ, List.getElem_cons_zero]); rfl)
        refine B_take2 10 [14] (v := ?v11) (a' := ?a11) (l' := #[true, true, true, true, true, true, true, true, true, true, true, false, false, false, false]) rfl (by kernel_rfl) (by kernel_rfl) (by kernel_rfl) (by kernel_rfl) rfl (fun _ _ _ h => h) (by decide) (Or.inl ⟨by rfl, ?y11⟩) rfl ?e11 ?r11
        case y11 => (intro w' hS; (try dsimp only at hS); go_simp; try (with_reducible rfl))
        case e11 => ((try simp only [Act.put, List.setIfInBounds_toArray, List.set_cons_zero, List.set_cons_succ, List.getElem_toArray, List.getElem_cons_succ, List.getElem_cons_zero]); rfl)
        refine B_take2 11 [14] (v := ?v12) (a' := ?a12) (l' := #[true, true, true, true, true, true, true, true, true, true, true, true, false, false, false]) rfl (by kernel_rfl) (by kernel_rfl) (by kernel_rfl) (by kernel_rfl) rfl (fun _ _ _ h => h) (by decide) (Or.inl ⟨by rfl, ?y12⟩) rfl ?e12 ?r12
        case y12 => (intro w' hS; (try dsimp only at hS); go_simp; try (with_reducible rfl))
        case e12 => ((try simp only [Act.put, List.setIfInBounds_toArray, List.set_cons_zero, List.set_cons_succ, List.getElem_toArray, List.getElem_cons_succ, List.getElem_cons_zero]); rfl)
        refine B_all (rs := [12]) (by kernel_rfl) (by simp) (fun hs1 hs2 => ⟨fun K hK => ?_, trivial⟩)
        refine op_goes rfl (by rfl) ?_
        have HK := Lib.hid hK; clear hK
        go_simp; refine (IH.out d.kids (by have := hkl.out; omega) _ _ _ (HVK.out.keep (by repeat (first | with_reducible exact Upd.refl _ _ | (with_reducible refine Upd.drewN ?_ _) | (with_reducible refine Upd.drew ?_) | (with_reducible refine Upd.alloc ?_ _)))) (by omega)).mono ?_; rintro e w2 ⟨rfl, hu2⟩; have Y2 := hu2.cell y2 id; have Y3 := hu2.cell y3 id
        refine HK.out _ _ trivial ((fun _ => ⟨Y2, Y3⟩)) ?_
        clear HK K hs1 hs2
        refine B_norm (l' := #[true, true, true, true, true, true, true, true, true, true, true, true, true, false, false]) (a' := ?a13) rfl ?e13 ?r13
        case e13 => ((try simp only [Act.put, List.setIfInBounds_toArray, List.set_cons_zero, List.set_cons_succ, List.getElem_toArray, List.getElem_cons_succ, List.getElem_cons_zero]); rfl)
        refine B_take1 13 (v := ?v14) (a' := ?a14) (l' := #[true, true, true, true, true, true, true, true, true, true, true, true, true, true, false]) rfl (by kernel_rfl) (by kernel_rfl) (by kernel_rfl) (fun _ _ _ h => h) (by decide) (Or.inl ⟨by rfl, ?y14⟩) rfl ?e14 ?r14
        case y14 => (intro w' hS; go_simp; rw [if_neg (by omega)])
        case e14 => ((try simp only [Act.put, List.setIfInBounds_toArray, List.set_cons_zero, List.set_cons_succ, List.getElem_toArray, List.getElem_cons_succ, List.getElem_cons_zero]); rfl)
        refine B_all (rs := [14]) (by kernel_rfl) (by simp) (fun hs1 hs2 => ⟨fun K hK => ?_, trivial⟩)
        refine op_goes rfl (by rfl) ?_
        have HK := Lib.hid hK; clear hK
        go_simp
        refine HK.out _ _ trivial (fun h => absurd h (by decide)) ?_
        clear HK K hs1 hs2
        refine B_norm (l' := #[true, true, true, true, true, true, true, true, true, true, true, true, true, true, true]) (a' := ?a15) rfl ?e15 ?r15
        case e15 => ((try simp only [Act.put, List.setIfInBounds_toArray, List.set_cons_zero, List.set_cons_succ, List.getElem_toArray, List.getElem_cons_succ, List.getElem_cons_zero]); rfl)
        refine B_done (by kernel_rfl) ?_
        have HU2 := Lib.hid hu2
        clear hu2 Y2 Y3 y2 y3
        go_wp2_with fail
        go_roundg k1
        case measure => omega
        case rel => exact ⟨k + 1, by go_num, by rw [htk.out, ByteArray.append_assoc], by have := HK.out; omega, HU.out.drew.trans HU2.out (fun _ _ h => h)⟩
theorem refText_any (w : World) (P : FP) (v : Value) (l : List Node) (hv : SliceIs w P v l) (hs : (nText l).size ≤ 1000000000) :
    Calls Try.prog 25 #[v] w fun e w' => StrIs (nText l) e ∧ Upd None w w' := refText_any' _ l (Nat.le_refl _) w P v hv hs
set_option maxRecDepth 100000 in
set_option maxHeartbeats 2000000 in
theorem refSize_any' (n : Nat) : ∀ (l : List Node), SizeOf.sizeOf l ≤ n → ∀ (w : World) (P : FP) (v : Value), SliceIs w P v l → nCount l ≤ 1000000000 →
    Calls Try.prog 24 #[v] w fun e w' => SizeIs (nCount l) (nDeep l) e ∧ w = w' := by
  induction n with
  | zero => intro l h; cases l <;> simp at h
  | succ n ih =>
    intro l hn w P v hv hsz
    obtain ⟨A, c, rfl, hlc, hcm⟩ := hv.shape
    unfold maxLen at hcm
    have HV := Lib.hid hv
    have IH := Lib.hid ih
    clear hv ih
    go_enter Try.func24, Try.ntmps24
    go_wp2
    go_loop [4, 5, 6] (fun v4 v5 v6 => ∃ k : Nat, k ≤ l.length ∧ v6 = .int .i64 k ∧ v4 = .int .i64 (nCount (l.take k) : Nat) ∧ v5 = .int .i64 (nDeep (l.take k) : Nat)) (fun v4 v5 v6 => l.length - (intOf v6).toNat)
    case atStart => exact ⟨0, by omega, rfl, by rw [List.take_zero, nCount_nil]; rfl, by rw [List.take_zero, nDeep_nil]; rfl⟩
    case round =>
      obtain ⟨k, hk, rfl, rfl, rfl⟩ := hrel
      by_cases hlt : k < l.length
      · have hle := nCount_le l k hlt
        have hd1 := nDeep_le (l.take k)
        have hd2 := nDeep_le l[k].kids
        have htk := Lib.hid (nCount_take l k hlt)
        have htd := Lib.hid (nDeep_take l k hlt)
        have hkl := Lib.hid (kids_lt l k hlt)
        obtain ⟨b, o, c', Av, cv, Ak, ck, e, y0, x1, x2, y3, -, hvk⟩ := node_at HV.out hlt
        cases e
        have hi1 : (0 : Int) ≤ (k : Int) := by omega
        have hi2 : (k : Int) < (l.length : Int) := by omega
        have HVK := Lib.hid hvk
        clear hvk x1 x2
        go_wp2_with fail
        refine (IH.out l[k].kids (by have := hkl.out; omega) _ _ _ HVK.out (by omega)).mono ?_
        rintro e w2 ⟨rfl, rfl⟩
        clear y3 HVK
        generalize hN : nCount (l.take k) = N at *
        generalize hD : nDeep (l.take k) = D at *
        generalize hN2 : nCount l[k].kids = N2 at *
        generalize hD2 : nDeep l[k].kids = D2 at *
        have HE := Lib.hid (And.intro hN (And.intro hD (And.intro hN2 hD2)))
        clear hN hD hN2 hD2
        by_cases hnm : l[k].name = ByteArray.empty
        · have hb := str_nil hnm
          have HNM := Lib.hid hnm
          rw [hnm] at y0
          clear hnm
          go_wp2_with fail
          go_round
          case rel => exact ⟨k + 1, by omega, by go_num, by rw [htk.out]; go_num, by rw [htd.out, if_pos HNM.out]; go_num⟩
          case measure => simp [intOf]; omega
        · have hb := str_some hnm
          have HNM := Lib.hid hnm
          clear hnm
          by_cases hd : (D : Int) < (D2 : Int) + 1
          · go_wp2_with fail
            go_round
            case rel => exact ⟨k + 1, by omega, by go_num, by rw [htk.out]; go_num, by rw [htd.out, if_neg HNM.out]; go_num⟩
            case measure => simp [intOf]; omega
          · go_wp2_with fail
            go_round
            case rel => exact ⟨k + 1, by omega, by go_num, by rw [htk.out]; go_num, by rw [htd.out, if_neg HNM.out]; go_num⟩
            case measure => simp [intOf]; omega
      · go_wp2
        go_ret2
        exact ⟨by show SizeIs _ _ _; rw [List.take_of_length_le (by omega)]; rfl, rfl⟩
theorem refSize_any (w : World) (P : FP) (v : Value) (l : List Node) (hv : SliceIs w P v l) (hs : nCount l ≤ 1000000000) :
    Calls Try.prog 24 #[v] w fun e w' => SizeIs (nCount l) (nDeep l) e ∧ w = w' := refSize_any' _ l (Nat.le_refl _) w P v hv hs
end Go.Proofs.Ytidicfdcjoggpaa
