/-
 strconv.Atoi in the abstract machine's words: its number, whatever the text.
-/
import Derived.Test.YtfaodacmdlnabaaGreatDoorPsplit
namespace Go.Proofs.YtfaodacmdlnabaaGreatDoor.M
open Go.RowKit
set_option linter.unusedVariables false
set_option linter.unusedSimpArgs false
/-- What the library's two errors read as: something. -/
structure Errs (W : World) : Prop where
 syn : ∃ ev, W.cell? ⟨1, 0, none⟩ = some ev ∧ (ev = .nilIface ∨ ∃ te pe, ev = .iface te pe)
 rng : ∃ ev, W.cell? ⟨2, 0, none⟩ = some ev ∧ (ev = .nilIface ∨ ∃ te pe, ev = .iface te pe)
theorem cell_keep {W : World} {S : Nat → Prop} {H : AHeap} {w : World} (hw : WR W S H w) {b : Nat} {u : Value} (h : W.cell? ⟨b, 0, none⟩ = some u) : w.cell? ⟨b, 0, none⟩ = some u := by
 have hlt : b < W.heap.size := by
  rcases Nat.lt_or_ge b W.heap.size with h2 | h2
  ·exact h2
  ·unfold World.cell? at h
   rw [Array.getElem?_eq_none h2] at h; cases h
 rw [World.cell?_of_block (hw.old.block b hlt)]; exact h
/-- The number that Atoi hands back. -/
def numP (s : Str) : Int := match Lib.atoiAll s.data.toList with
 | .ok v => v
 | .range => Lib.atoiSat s.data.toList
 | _ => 0
/-- Is it a number that fits? -/
def okNum (s : Str) : Bool := match Lib.atoiAll s.data.toList with
 | .ok _ => true
 | _ => false
theorem atoi_ok {W : World} (E : Errs W) (s : Str) (hs : s.size ≤ 1000000000) : ACalls Tryz.prog W 35 [.v (.string s)] AHeap.none fun v _ => ∃ e, v = .tup [.v (.int .i64 (numP s)), e] ∧ ((okNum s = true ∧ e = .v .nilIface) ∨ (okNum s = false ∧ ∃ t x, e = .ifc t x)) := by
 intro S w us hw hv
 obtain ⟨u, rfl, hu⟩ := hv.of1
 obtain rfl := hu.v_eq
 have key : ∀ (n : Int) (x : Value) (y : AVal) (w' : World), (∀ S' w', VR S' w' y x) → ((okNum s = true ∧ y = .v .nilIface) ∨ (okNum s = false ∧ ∃ t x, y = .ifc t x)) → numP s = n → Below w.heap.size w w' → ∃ r H' S' v, (∃ e, r = AVal.tup [.v (.int .i64 (numP s)), e] ∧ ((okNum s = true ∧ e = .v .nilIface) ∨ (okNum s = false ∧ ∃ t x, e = .ifc t x))) ∧ (Ending.returned (.tuple #[.int .i64 n, x])) = .returned v ∧ Ext S AHeap.none w S' H' w' ∧ WR W S' H' w' ∧ VR S' w' r v := by
  intro n x y w' hy hk hn hb
  obtain ⟨g1, g2⟩ := below_facts hw hb
  refine ⟨.tup [.v (.int .i64 (numP s)), y], AHeap.none, S, _, ⟨_, rfl, hk⟩, rfl, g1, g2, .tup (fun j => #[Value.int .i64 n, x].getD j undef) rfl (fun j hj => ?_) (fun j hj => ?_)⟩
  ·rcases j with _ | _ | j
   ·rfl
   ·rfl
   ·simp at hj; omega
  ·rcases j with _ | _ | j
   ·rw [hn]; exact .v _
   ·exact hy _ _
   ·simp at hj; omega
 cases h : Lib.atoiAll s.data.toList with
 | ok v =>
  refine (Lay.strconv_Atoi_ok s (by omega) v h w).mono ?_
  rintro e w' ⟨rfl, hw'⟩
  refine key v _ (.v .nilIface) w' (fun _ _ => .v _) (.inl ⟨by unfold okNum; rw [h], rfl⟩) (by unfold numP; rw [h]) ?_
  rcases hw' with rfl | ⟨t, rfl⟩
  ·exact Below.refl _ _
  ·exact Lib.bytesWorld_below w _ t
 | range =>
  obtain ⟨ev, h1, h2⟩ := E.rng
  refine (Lay.strconv_Atoi_range s (by omega) h ev w (cell_keep hw h1) h2).mono ?_
  rintro e w' ⟨N, rfl, -, -, hb⟩
  exact key _ _ (.ifc _ .any) w' (fun _ _ => .ifc (.any _)) (.inr ⟨by unfold okNum; rw [h], _, _, rfl⟩) (by unfold numP; rw [h]) hb
 | _ =>
  obtain ⟨ev, h1, h2⟩ := E.syn
  refine (Lay.strconv_Atoi_syntax s (by omega) (fun v e => by rw [h] at e; cases e) (fun e => by rw [h] at e; cases e) ev w (cell_keep hw h1) h2).mono ?_
  rintro e w' ⟨N, rfl, -, -, hb⟩
  exact key _ _ (.ifc _ .any) w' (fun _ _ => .ifc (.any _)) (.inr ⟨by unfold okNum; rw [h], _, _, rfl⟩) (by unfold numP; rw [h]) hb
end Go.Proofs.YtfaodacmdlnabaaGreatDoor.M
