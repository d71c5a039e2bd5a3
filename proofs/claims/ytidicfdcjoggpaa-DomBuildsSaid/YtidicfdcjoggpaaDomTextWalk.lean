/-
  The law DomText walked: whatever the tokens, a built tree's text is all texts of the tokens.
-/
import Derived.Test.YtidicfdcjoggpaaDomTextLaw
import Derived.Test.YtidicfdcjoggpaaDomLight
import Derived.Test.YtidicfdcjoggpaaDomAwake
import Derived.Test.YtidicfdcjoggpaaRead
namespace Go.Proofs.Ytidicfdcjoggpaa
open Go.RowKit
set_option linter.unusedVariables false
set_option linter.unusedSimpArgs false
theorem light_sum : ∀ l : List Token, toksW l < 6000 → textsSize l + l.length ≤ toksW l
  | [], _ => by simp [textsSize, toksW]
  | t :: ts, h => by
    simp only [toksW, textsSize, List.map_cons, List.sum_cons, List.length_cons] at h ⊢
    have := light_sum ts (by simp only [toksW]; omega)
    simp only [toksW, textsSize] at this
    simp only [tokW] at h ⊢
    omega
theorem light_mem {l : List Token} {t : Token} (ht : t ∈ l) : tokW t ≤ toksW l := by
  induction l with
  | nil => cases ht
  | cons a l ih =>
    simp only [toksW, List.map_cons, List.sum_cons] at ih ⊢
    rcases List.mem_cons.1 ht with rfl | h
    · omega
    · have := ih h; omega
theorem light_attrs {l : List Token} (h : toksW l < 6000) : ∀ t ∈ l, t.attrs.length ≤ 1000000 := fun t ht => by
  have := light_mem ht
  simp only [tokW] at this
  omega
theorem toksText_append (a b : List Token) : toksText (a ++ b) = toksText a ++ toksText b := by
  induction a with
  | nil => rw [List.nil_append, toksText, ByteArray.empty_append]
  | cons t a ih => rw [List.cons_append, toksText, toksText, ih, ByteArray.append_assoc]
theorem toksText_take (l : List Token) (k : Nat) (h : k < l.length) : toksText (l.take (k + 1)) = toksText (l.take k) ++ tokText l[k] := by
  rw [List.take_succ_eq_append_getElem h, toksText_append, toksText, toksText, ByteArray.append_empty]
theorem toksText_size : ∀ l : List Token, (toksText l).size ≤ textsSize l
  | [] => by simp [toksText, textsSize]
  | t :: ts => by
    have := toksText_size ts
    simp only [toksText, textsSize, List.map_cons, List.sum_cons, ByteArray.size_append] at this ⊢
    have : (tokText t).size ≤ t.text.size := by unfold tokText; split <;> simp
    omega
/-- Behind LightTokens, named and Build: what all the laws on tokens know. -/
theorem below_step {w w1 w2 : World} (h : Upd None w w1) (hb : Below w1.heap.size w1 w2) : Upd None w w2 := h.trans (Upd.of_below hb) (fun _ _ h => h)
set_option maxHeartbeats 4000000 in
theorem domText_walk (v : Value) (l : List Token) (w : World) (hv : SliceIs w All v l) : Calls Try.prog 5 #[v] w fun e w' => e = .returned (.bool true) ∧ Below w.heap.size w w' := by
  obtain ⟨A, c, rfl, hlc, hcm⟩ := hv.shape
  unfold maxLen at hcm
  have HV := Lib.hid hv
  clear hv
  go_enter Try.func5, Try.ntmps5
  go_wp2_with fail
  refine (awake_any _).mono ?_
  rintro e w1 ⟨rfl, hu⟩
  have HU := Lib.hid hu
  clear hu
  go_wp2_with fail
  refine (light_any _ _ _ l (HV.out.keep HU.out)).mono ?_
  rintro e w2 ⟨⟨b1, rfl, h1⟩, hu⟩
  have H1 := Lib.hid h1
  have HU2 := Lib.hid (HU.out.trans hu (fun _ _ h => h))
  clear hu HU h1
  go_wp2_with fail
  refine (named_any _ _ _ l (HV.out.keep HU2.out)).mono ?_
  rintro e w' ⟨⟨b2, rfl, h2⟩, rfl⟩
  have H2 := Lib.hid h2
  clear h2
  cases b1
  · go_wp2
    go_ret
    exact ⟨rfl, HU2.out.below⟩
  cases b2
  · go_wp2
    go_ret
    exact ⟨rfl, HU2.out.below⟩
  have hlt := H1.out rfl
  have hnm := Lib.hid (H2.out rfl)
  have hsum := light_sum l hlt
  have hat := Lib.hid (light_attrs hlt)
  clear H1 H2
  go_wp2_with fail
  refine (build_any _ _ l ((HV.out.keep HU2.out).bound.frame (Same.refl _ _) (fun _ h => h.2)) (by omega) hat.out (by omega)).mono ?_
  rintro e w3 ⟨hp, hB⟩
  have HU3 := Lib.hid (below_step HU2.out hB)
  clear hB HU2
  cases hb : build l with
  | none =>
    rw [hb] at hp
    cases hp
    clear hb
    go_wp2
    go_ret
    exact ⟨rfl, HU3.out.below⟩
  | some ns =>
    rw [hb] at hp
    obtain ⟨vt, rfl, hns⟩ := hp
    have HT := Lib.hid (build_text l ns hnm.out hb)
    have HNS := Lib.hid hns
    clear hb hns
    go_wp2_with fail
    go_loop [8, 9] (fun s i => ∃ k : Nat, k ≤ l.length ∧ i = .int .i64 k ∧ s = .string (toksText (l.take k))) (fun s i => l.length - (intOf i).toNat)
    case atStart => exact ⟨0, by omega, rfl, rfl⟩
    case round =>
      obtain ⟨k, hk, rfl, rfl⟩ := hrel
      by_cases hkl : k < l.length
      · obtain ⟨b, o, c', A', ca, e, y0, y1, y2, y3, y4, -⟩ := tok_at (HV.out.keep HU3.out) hkl
        cases e
        have hi : (k : Int) < (l.length : Int) := by omega
        have htk := Lib.hid (toksText_take l k hkl)
        have hsz : (toksText (l.take k)).size + l[k].text.size ≤ 6000 := by
          have h1 := toksText_size (l.take k)
          have h2 := texts_take l k hkl
          have h3 := texts_le l (k + 1)
          omega
        clear y1 y2 y3
        by_cases hk1 : l[k].kind = 1
        · have htt := Lib.hid (show tokText l[k] = l[k].text by unfold tokText; rw [if_pos hk1])
          rw [hk1] at y0
          clear hk1
          go_wp2
          go_round
          case rel => exact ⟨k + 1, by omega, by go_num, by rw [htk.out, htt.out]⟩
          case measure => simp [intOf]; omega
        · have htt := Lib.hid (show tokText l[k] = ByteArray.empty by unfold tokText; rw [if_neg hk1])
          have hb1 : (l[k].kind == 1) = false := by simpa using hk1
          clear hk1 y4 hsz
          go_wp2
          go_round
          case rel => exact ⟨k + 1, by omega, by go_num, by rw [htk.out, htt.out, ByteArray.append_empty]⟩
          case measure => simp [intOf]; omega
      · have hk' : k = l.length := by omega
        subst hk'
        have hsz : (nText ns).size ≤ 1000000000 := by rw [HT.out]; have := toksText_size l; omega
        rw [List.take_length]
        rw [← HT.out]
        go_wp2_with fail
        refine (nodesText_any _ _ _ ns HNS.out hsz).mono ?_
        rintro e w4 ⟨rfl, hu⟩
        have HU4 := Lib.hid (HU3.out.trans hu (fun _ _ h => h))
        clear hu
        go_wp2
        go_ret
        exact ⟨by simp, HU4.out.below⟩
end Go.Proofs.Ytidicfdcjoggpaa
