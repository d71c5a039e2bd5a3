/-
 The arguments of a law, read; what a law's walk hands to its row.
-/
import Derived.Test.YtfaodacmdlnabaaGreatDoorMT
import Derived.ProofKit
namespace Go.Proofs.YtfaodacmdlnabaaGreatDoor.M
open Go.RowKit Go.ChangeShapes Go.WideShapes
set_option linter.unusedVariables false
set_option linter.unusedSimpArgs false
theorem choose_list {α : Type} {Q : Nat → α → Prop} : ∀ n, (∀ i, i < n → ∃ x, Q i x) → ∃ xs : List α, xs.length = n ∧ ∀ i (h : i < xs.length), Q i xs[i]
 | 0, _ => ⟨[], rfl, fun i h => absurd h (Nat.not_lt_zero i)⟩
 | n + 1, h => by
  obtain ⟨xs, hl, hx⟩ := choose_list n (fun i hi => h i (Nat.lt_succ_of_lt hi))
  obtain ⟨y, hy⟩ := h n (Nat.lt_succ_self n)
  refine ⟨xs ++ [y], by simp [hl], fun i hi => ?_⟩
  by_cases hin : i < xs.length
  ·rw [List.getElem_append_left hin]; exact hx i hin
  ·have : i = n := by simp at hi; omega
   subst this
   rw [List.getElem_append_right (by omega)]
   simpa [hl] using hy
/-- What stood when the law was called. -/
def Old (w : World) : Nat → Prop := fun b => b < w.heap.size
def LR (w : World) (row : List AVal) (cs : List Value) : Prop := row.length = cs.length ∧ ∀ i (hi : i < row.length) (hi' : i < cs.length), row[i].one = true ∧ VR (Old w) w row[i] cs[i]
section
variable {P : Program} {H : Type} {enc : TypeId × Value → H} {w : World} {spare : Nat → Bool} {held : Bool}
def AReads (P : Program) (enc : TypeId × Value → H) (w : World) (spare : Nat → Bool) (held : Bool) {α : Type} (row : α → List AVal) (t : TypeId) (fuel : Nat) : Prop :=
 ∀ cs r, DataW.trod enc P w 0 spare held fuel t cs = some r → ∃ x : α, LR w (row x) cs
theorem LR.single {x : AVal} {u : Value} (h1 : x.one = true) (h2 : VR (Old w) w x u) : LR w [x] [u] := ⟨rfl, fun i hi hi' => by
 obtain rfl : i = 0 := by simp at hi; omega
 exact ⟨h1, h2⟩⟩
theorem areads_str {t : TypeId} {fuel : Nat} (ht : P.underlying t = some .string) : AReads P enc w spare held strRow t fuel := fun cs r h => by
 obtain ⟨s, rfl, _⟩ := DataW.trod_string ht h
 exact ⟨s, LR.single rfl (.v _)⟩
theorem areads_int {t : TypeId} {fuel : Nat} (ht : P.underlying t = some (.int .i64)) : AReads P enc w spare held intRow t fuel := fun cs r h => by
 obtain ⟨s, rfl, _⟩ := DataW.trod_int ht h
 exact ⟨s, LR.single rfl (.v _)⟩
theorem cells_at {a : Addr} {n : Nat} {cs : List Value} (h : w.cells? 0 a n = some cs) : cs.length = n ∧ ∀ j u, cs[j]? = some u → w.cell? (a.add j) = some u := by
 obtain ⟨_, hl, hx⟩ := World.cells?_some h
 refine ⟨hl, fun j u hu => ?_⟩
 have hj : j < cs.length := by rw [List.getElem?_eq_some_iff] at hu; exact hu.1
 rw [hx j (hl ▸ hj)]
 exact hu
theorem cell_lt {b o : Nat} {u : Value} (h : w.cell? ⟨b, o, none⟩ = some u) : b < w.heap.size := by
 rcases Nat.lt_or_ge b w.heap.size with hlt | hge
 ·exact hlt
 ·simp [World.cell?, Array.getElem?_eq_none hge] at h
theorem addr_add (b o k : Nat) : (⟨b, o, none⟩ : Addr).add k = ⟨b, o + k, none⟩ := by simp [Addr.add]
def sliceRow {α : Type} (sz : Nat) (row : α → List AVal) (xs : List α) : List AVal := [.sl false sz (xs.map row)]
theorem areads_slice {α : Type} {row : α → List AVal} {t e : TypeId} {fuel sz : Nat} (ht : P.underlying t = some (.slice e)) (hc : P.cellsOf e = sz) (hsz : 0 < sz) (he : ∀ n, n < fuel → AReads P enc w spare held row e n) : AReads P enc w spare held (sliceRow sz row) t fuel := fun cs r h => by
 rcases DataW.trod_slice ht h with ⟨rfl, _⟩ | ⟨a, len, cap, elems, rest, n, rfl, rfl, _, _, hl, hm, hlen, hel, _⟩
 ·exact ⟨[], LR.single rfl (.sl (rows := []) (fun _ _ => undef) (Nat.le_refl _) (Nat.zero_le _) (fun e => by cases e) (.inl rfl) (fun i hi => by simp at hi) (fun i hi => by simp at hi) (fun i hi => by simp at hi))⟩
 ·have hx : ∀ i, i < len → ∃ xc : α × List Value, LR w (row xc.1) xc.2 ∧ xc.2.length = sz ∧ ∀ j u, xc.2[j]? = some u → w.cell? ((a.add (i * sz)).add j) = some u := fun i hi => by
   have := hel i hi
   rw [hc, List.getElem?_eq_getElem (by omega), Option.bind_eq_some_iff] at this
   obtain ⟨c, h1, h2⟩ := this
   obtain ⟨x, hx⟩ := he n (Nat.lt_succ_self n) _ _ h2
   exact ⟨(x, c), hx, cells_at h1⟩
  obtain ⟨xs, hxl, hxs⟩ := choose_list len hx
  subst hxl
  refine ⟨xs.map (·.1), LR.single rfl ?_⟩
  have hrl : ((xs.map (·.1)).map row).length = xs.length := by simp
  rw [show Value.slice (some a) xs.length cap = Value.slice (some a) ((xs.map (·.1)).map row).length cap by rw [hrl]]
  have hlen : ∀ i (hi : i < xs.length), (row xs[i].1).length = sz := fun i hi => by rw [(hxs i hi).1.1, (hxs i hi).2.1]
  obtain ⟨b, o, s⟩ := a
  refine .sl (fun i j => match xs[i]? with | some xc => xc.2.getD j undef | none => undef) (by rw [hrl]; exact hl) hm (fun e => by cases e) ?_ (fun i hi => by simp at hi ⊢; exact hlen i hi) (fun i hi j hj => ?_) (fun i hi j hj => ?_)
  ·by_cases h0 : xs.length = 0
   ·left; have : xs = [] := List.length_eq_zero_iff.1 h0
    rw [this]; rfl
   ·right
    have hs : s = none := by
     obtain ⟨h1, h2, h3⟩ := hxs 0 (by omega)
     have h4 := World.cell?_spot (h3 0 _ (List.getElem?_eq_getElem (by rw [h2]; exact hsz)))
     cases s with
     | none => rfl
     | some s => simp [Addr.add] at h4
    subst hs
    have hcell : ∀ i j (hi : i < xs.length) (hj : j < sz), w.cell? ⟨b, o + i * sz + j, none⟩ = some (xs[i].2.getD j undef) := fun i j hi hj => by
     obtain ⟨h1, h2, h3⟩ := hxs i hi
     have := h3 j _ (List.getElem?_eq_getElem (by rw [h2]; exact hj))
     rw [addr_add, addr_add] at this
     rw [this]; simp [h2, hj]
    refine ⟨b, o, rfl, cell_lt (hcell 0 0 (by omega) hsz), fun i j hi hj => ?_⟩
    rw [hrl] at hi
    rw [hcell i j hi hj]
    simp [hi]
  ·simp at hi hj ⊢
   exact ((hxs i hi).1.2 j hj (by rw [(hxs i hi).2.1, ← hlen i hi]; exact hj)).1
  ·simp at hi hj ⊢
   have := ((hxs i hi).1.2 j hj (by rw [(hxs i hi).2.1, ← hlen i hi]; exact hj)).2
   simpa [hi, (hxs i hi).2.1, show j < sz by rw [← hlen i hi]; exact hj] using this
/-- An argument that is a slice. -/
theorem arg_rows {α : Type} {row : α → List AVal} {t e : TypeId} {v : Value} {d : DataW H} {p : List MemPlace} {sz : Nat} (ht : P.underlying t = some (.slice e)) (hr : ∀ fuel, AReads P enc w spare held (sliceRow sz row) t fuel) {r : Reach} {b0 : Nat} (hv : Value.okWide P w r b0 t v) (h : DataW.Trod enc P w 0 spare held t v d p) : ∃ xs : List α, VR (Old w) w (.sl false sz (xs.map row)) v := by
 obtain ⟨a, l, c, rfl⟩ := okWide_slice ht hv
 obtain ⟨fuel, hf⟩ := h
 obtain ⟨xs, hx⟩ := hr fuel _ _ hf
 exact ⟨xs, (hx.2 0 (by simp [sliceRow]) (by simp [Value.cells])).2⟩
end
theorem VR.sl_len {S : Nat → Prop} {w : World} {f : Bool} {sz : Nat} {rows : List (List AVal)} {u : Value} (h : VR S w (.sl f sz rows) u) : rows.length ≤ maxLen := by
 cases h with
 | sl us hc hm hf hb hl ho hh => exact Nat.le_trans hc hm
theorem WR.start (W : World) : WR W (Old W) AHeap.none W := ⟨Below.refl _ _, fun _ _ h => (by cases h), fun _ h => h, fun _ _ h => (by cases h), fun _ _ h => (by cases h)⟩
theorem law_done {P : Program} {W : World} {f : FuncId} {args : List AVal} {us : Array Value} (h : ACalls P W f args AHeap.none fun r _ => r = .v (.bool true)) (hv : VRs (Old W) W args us) : Calls P f us W fun e w' => e = .returned (.bool true) ∧ Below W.heap.size W w' := by
 refine (h (Old W) W us (WR.start W) hv).mono ?_
 rintro e w' ⟨r, H', S', v, rfl, rfl, hx, hw, hvr⟩
 cases hvr
 exact ⟨rfl, hw.old⟩
theorem VRs.one {S : Nat → Prop} {w : World} {x : AVal} {u : Value} (h : VR S w x u) : VRs S w [x] #[u] := ⟨rfl, fun i hi hi' => by
 obtain rfl : i = 0 := by simp at hi; omega
 exact h⟩
theorem VRs.two {S : Nat → Prop} {w : World} {x y : AVal} {u v : Value} (h : VR S w x u) (k : VR S w y v) : VRs S w [x, y] #[u, v] := ⟨rfl, fun i hi hi' => by
 rcases i with _ | _ | i
 ·exact h
 ·exact k
 ·simp at hi; omega⟩
theorem VRs.three {S : Nat → Prop} {w : World} {x y z : AVal} {u v t : Value} (h : VR S w x u) (k : VR S w y v) (l : VR S w z t) : VRs S w [x, y, z] #[u, v, t] := ⟨rfl, fun i hi hi' => by
 rcases i with _ | _ | _ | i
 ·exact h
 ·exact k
 ·exact l
 ·simp at hi; omega⟩
theorem VRs.zero {S : Nat → Prop} {w : World} : VRs S w [] #[] := ⟨rfl, fun i hi => by simp at hi⟩
def oq (d : Nat) (m : AO) : AOper := ⟨some d, none, .q m⟩
def og (d t : Nat) (b : Bool) (m : AO) : AOper := ⟨some d, some (t, b), .q m⟩
def oe (d : Nat) (m : AE) : AOper := ⟨some d, none, .e m⟩
def oh (d t : Nat) (b : Bool) (m : AE) : AOper := ⟨some d, some (t, b), .e m⟩
def on (m : AE) : AOper := ⟨none, none, .e m⟩
attribute [go_sem] stk_nil stk_skip stk_ops stk_seq stk_block stk_scope stk_ends stk_ends_exit stk_ends_ret stk_label stk_exit stk_ret stk_code_exit stk_code_ret stk_ops_exit stk_ops_ret stk_endb stk_endb_exit stk_endb_ret stk_endl stk_endl_exit stk_endl_ret stk_ops_nil stk_q stk_niq niqA flip srcOf stk_bsl side val bside bval uside uval cside cval bndS bndV intA isInt lside lval fside fval faside faval iside ival sxside sxval xaside xaval aixside tasval sizeA slside slval llside llval lenside lenval lenA tupA mmside mmval nkside boolA isBool ev_t ev_c tget put_s put_n lkside lkval menval stk_mk Option.isSome_some isMapA mapA keyA FZ_rfl FZ_any retOf true_and and_true if_true if_false decide_true decide_false Bool.not_true Bool.not_false Nat.zero_add List.map_cons List.map_nil Int.toNat_natCast strRows_len intRows_len List.getD_cons_zero List.getD_cons_succ List.length_cons List.length_nil List.forall_mem_cons List.not_mem_nil false_implies implies_true Int.ofNat_zero Int.natCast_add Int.natCast_one Int.ofNat_one Int.natCast_zero isB isU Bool.false_eq_true beq_self_eq_true Bool.false_beq Bool.true_beq Int.natCast_nonneg undef strRows_take strRows_drop Int.toNat_zero List.drop_zero Bool.and_true oneOr List.all_cons List.all_nil AVal.one Value.oneCell' Bool.true_and List.take_length stk_st' stside stH hp_self hp_hp isnside isnval
attribute [go_sem ↓] stk_g stk_c reduceIte
end Go.Proofs.YtfaodacmdlnabaaGreatDoor.M
