/-
  versolaw04.awake: a paragraph that is ended.
-/
import Derived.Test.YtidicfdcjoggpaaDomBuild
import Derived.Test.YtidicfdcjoggpaaDomTextOf
namespace Go.Proofs.Ytidicfdcjoggpaa
open Go.RowKit
set_option linter.unusedVariables false
set_option linter.unusedSimpArgs false
def awakeToks : List Token := [⟨2, (⟨#[112]⟩ : ByteArray), [], false, ByteArray.empty⟩, ⟨1, ByteArray.empty, [], false, (⟨#[97]⟩ : ByteArray)⟩, ⟨2, (⟨#[100, 105, 118]⟩ : ByteArray), [], false, ByteArray.empty⟩, ⟨1, ByteArray.empty, [], false, (⟨#[98]⟩ : ByteArray)⟩]
def awakeTree : List Node := [⟨(⟨#[112]⟩ : ByteArray), [], ByteArray.empty, [⟨ByteArray.empty, [], (⟨#[97]⟩ : ByteArray), []⟩]⟩, ⟨(⟨#[100, 105, 118]⟩ : ByteArray), [], ByteArray.empty, [⟨ByteArray.empty, [], (⟨#[98]⟩ : ByteArray), []⟩]⟩]
theorem awake_build : build awakeToks = some awakeTree := by kernel_rfl
theorem awake_text : nText awakeTree = (⟨#[97, 98]⟩ : ByteArray) := by
  simp only [awakeTree, nText_cons, nText_nil]
  kernel_rfl
def Tok.cells (t : Token) : List Value := [.int .i64 t.kind, .string t.name, .slice none 0 0, .bool t.closed, .string t.text]
/-- Tokens without attributes that were just made. -/
theorem made_toks {w1 : World} {b T n : Nat} {xs : List Token} {cs : Array Value} (hn : n = xs.length) (hb : w1.heap[b]? = some (.cells cs T (0, 0))) (hc : cs.toList = xs.flatMap Tok.cells) (ha : ∀ t ∈ xs, t.attrs = []) (hm : n ≤ 1000000) : SliceIs w1 (fun k => k = b) (.slice (some ⟨b, 0, none⟩) n n) xs := by
  subst hn
  have key : ∀ (xs : List Token), (∀ t ∈ xs, t.attrs = []) → Cells w1 (fun k => k = b) xs (xs.flatMap Tok.cells) := by
    intro xs
    induction xs with
    | nil => intro _; rfl
    | cons t xs ih =>
      intro h
      refine ⟨Tok.cells t, xs.flatMap Tok.cells, by simp, ⟨.slice none 0 0, rfl, ?_⟩, ih (fun t ht => h t (by simp [ht]))⟩
      rw [h t (by simp)]
      exact SliceIs.nil _ _
  have hK := key xs ha
  refine ⟨_, _, rfl, Nat.le_refl _, by unfold maxLen; omega, fun _ => ⟨b, 0, rfl, rfl, fun i hi => ?_⟩⟩
  obtain ⟨c, h1, h2⟩ := hK.get hi
  refine ⟨c, ⟨hi, h1⟩, Rep.len h1, fun j u hu => ?_⟩
  rw [cell_of_row w1 b _ _ _ _ hb, ← Array.getElem?_toList, hc, Nat.zero_add]
  exact h2 j u hu
set_option maxHeartbeats 2000000 in
theorem awake_any (w : World) : Calls Try.prog 11 #[] w fun e w' => BoolIs true e ∧ Upd None w w' := by
  go_enter Try.func11, Try.ntmps11
  go_wp2_with fail
  refine (build_any _ _ awakeToks ((made_toks (n := 4) (xs := awakeToks) rfl (heap_alloc_at rfl) (by rfl) (by simp [awakeToks]) (by omega)).frame (Same.refl _ _) (fun b hb => by subst hb; simp)) (by simp [awakeToks]) (by simp [awakeToks]) (by simp [textsSize, awakeToks]; decide)).mono ?_
  rw [awake_build]
  rintro e w1 ⟨⟨v, rfl, hv⟩, hB⟩
  have HV := Lib.hid hv
  obtain ⟨b, o, c, cs, rfl, -, -, -, h0, hc0⟩ := hv.at_ (i := 0) (by simp [awakeTree])
  obtain ⟨b', o', c', cs1, e, -, -, -, h1, hc1⟩ := hv.at_ (i := 1) (by simp [awakeTree])
  simp only [Value.slice.injEq, Option.some.injEq, Addr.mk.injEq, and_true, true_and] at e
  obtain ⟨⟨rfl, rfl⟩, -⟩ := e
  obtain ⟨va, vk, rfl, -, hk⟩ := Node.open_ h0
  obtain ⟨va1, vk1, rfl, -, -⟩ := Node.open_ h1
  obtain ⟨Ak, ck, rfl, -⟩ := hk.shape
  have x3 : w1.cell? ⟨b, o + 3, none⟩ = some (.slice Ak 1 ck) := by have := hc0 3 _ rfl; simp only [Nat.zero_mul, Nat.add_zero] at this; exact this
  have x4 : w1.cell? ⟨b, o + 4, none⟩ = some (.string (⟨#[100, 105, 118]⟩ : ByteArray)) := by have := hc1 0 _ rfl; simp only [Nat.one_mul, Nat.add_zero] at this; exact this
  have hlen : awakeTree.length = 2 := rfl
  rw [hlen] at HV ⊢
  have HB := Lib.hid hB
  clear hv h0 h1 hc0 hc1 hk hB hlen
  go_wp2_with fail
  refine (nodesText_any _ _ _ awakeTree HV.out (by rw [awake_text]; decide)).mono ?_
  rw [awake_text]
  rintro e w2 ⟨rfl, hu⟩
  have HU := Lib.hid hu
  clear hu
  go_wp2
  go_ret
  exact ⟨rfl, ((Upd.refl None w).alloc _).trans ((Upd.of_below HB.out).trans HU.out (fun _ _ h => h)) (fun _ _ h => h)⟩
end Go.Proofs.Ytidicfdcjoggpaa
