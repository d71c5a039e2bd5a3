/-
  What the rows of a seat are closed by that list seven variables of which nothing is asked; posts and texts as arguments.
-/
import Derived.Test.YtcbagpippmbmfaaGreatDoorRows
import Derived.Test.YtcbagpippmbmfaaGreatDoorMV
import Derived.Test.YtcbagpippmbmfaaGreatDoorNg
import Derived.ProofKit
import Derived.LaidMore
import Derived.OpenShut
import Derived.Stop.Joined
import Derived.HandedShaped
import Derived.Shelf.Vars
import Derived.Lib.LaidTab
import Derived.ShutString
import Derived.ChangeOld
import Derived.Below
import Derived.Lay
namespace Go.Proofs.YtcbagpippmbmfaaGreatDoor
open Go.ChangeShapes Go.WideShapes Go.ChangeAt Go.RowKit
open Go.ChangeMaps (open_string shut_string)
set_option linter.unusedVariables false
set_option linter.unusedSimpArgs false
section
variable {H : Type} {enc : TypeId × Value → H} {w : World} {spare : Nat → Bool} {held : Bool}
theorem field_at {fs : Array Field} {cs : List Value} {xs : List (DataW H × List MemPlace)} {n : Nat} (hf : ∀ (i : Nat) (f : Field), fs[i]? = some f → DataW.trod enc Tryz.prog w 0 spare held n f.type ((cs.drop f.offset).take (Tryz.prog.cellsOf f.type)) = xs[i]?) (hxl : xs.length = fs.size) (i : Nat) {f : Field} {u : Value} {t : TypeId} (hi : fs[i]? = some f) (ht : f.type = t) (hc : Tryz.prog.cellsOf t = 1) (hu : cs[f.offset]? = some u) : ∃ y, DataW.trod enc Tryz.prog w 0 spare held n t [u] = some y := by
  subst ht
  have h := hf i f hi
  have hlt : i < xs.length := by rw [hxl]; exact (Array.getElem?_eq_some_iff.1 hi).1
  rw [hc, List.getElem?_eq_getElem hlt] at h
  refine ⟨xs[i], ?_⟩
  have hl := (List.getElem?_eq_some_iff.1 hu).1
  rw [List.drop_eq_getElem_cons hl, List.take_succ_cons, List.take_zero, (List.getElem?_eq_some_iff.1 hu).2] at h
  exact h
abbrev PostS := {p : M.Str × M.Str // p.1.size ≤ maxLen}
def postRowS (p : PostS) : List M.AVal := M.postRow p.1
set_option maxRecDepth 100000 in
theorem areads_postS {fuel : Nat} : M.AReads Tryz.prog enc w spare held postRowS 32 fuel := fun cs r h => by
  obtain ⟨xs, n, rfl, _, hl, hxl, hf⟩ := DataW.trod_struct Tryz.underlying32 h
  rw [show Tryz.prog.cellsOf 32 = 2 by kernel_rfl] at hl
  match cs, hl, hf with
  | [c0, c1], _, hf =>
    obtain ⟨y0, h0⟩ : ∃ y, DataW.trod enc Tryz.prog w 0 spare held n 9 [c0] = some y := field_at hf hxl 0 rfl rfl (by kernel_rfl) rfl
    obtain ⟨y1, h1⟩ : ∃ y, DataW.trod enc Tryz.prog w 0 spare held n 9 [c1] = some y := field_at hf hxl 1 rfl rfl (by kernel_rfl) rfl
    obtain ⟨s0, q0, _, z0⟩ := DataW.trod_string Tryz.underlying9 h0
    obtain ⟨s1, q1, _⟩ := DataW.trod_string Tryz.underlying9 h1
    cases q0
    cases q1
    refine ⟨⟨(s0, s1), z0⟩, rfl, fun i hi hi' => ?_⟩
    rcases i with _ | _ | i
    · exact ⟨rfl, .v _⟩
    · exact ⟨rfl, .v _⟩
    · simp [postRowS, M.postRow] at hi; omega
set_option maxRecDepth 100000 in
theorem arg_posts {r : Reach} {b0 : Nat} {v : Value} {d : DataW H} {p : List MemPlace} (hv : Value.okWide Tryz.prog w r b0 22 v) (h : DataW.Trod enc Tryz.prog w 0 spare held 22 v d p) : ∃ xs : List PostS, M.VR (M.Old w) w (.sl false 2 (xs.map postRowS)) v :=
  M.arg_rows (sz := 2) Tryz.underlying22 (fun _ => M.areads_slice (sz := 2) Tryz.underlying22 (by kernel_rfl) (by decide) (fun _ _ => areads_postS)) hv h
set_option maxRecDepth 100000 in
theorem arg_texts {r : Reach} {b0 : Nat} {v : Value} {d : DataW H} {p : List MemPlace} (hv : Value.okWide Tryz.prog w r b0 23 v) (h : DataW.Trod enc Tryz.prog w 0 spare held 23 v d p) : ∃ xs : List M.Str, M.VR (M.Old w) w (.sl false 1 (xs.map M.strRow)) v :=
  M.arg_rows (sz := 1) Tryz.underlying23 (fun _ => M.areads_slice (sz := 1) Tryz.underlying23 (by kernel_rfl) (by decide) (fun _ _ => M.areads_str Tryz.underlying9)) hv h
end
theorem own : ownKnob Tryz.prog.godebug = none := by kernel_rfl
theorem laidOut : laidOutB Tryz.prog = true := by kernel_rfl
def laid7 : List (String × DataW Unit) := [("math/bits.deBruijn32tab", Rows.laid_math_bits_deBruijn32tab), ("math/bits.deBruijn64tab", Rows.laid_math_bits_deBruijn64tab), ("internal/strconv.uint64pow10", Rows.laid_internal_strconv_uint64pow10), ("unicode/utf8.acceptRanges", Rows.laid_unicode_utf8_acceptRanges), ("strconv.ErrRange", Rows.laid_strconv_ErrRange), ("strconv.ErrSyntax", Rows.laid_strconv_ErrSyntax), ("unicode/utf8.first", Rows.laid_unicode_utf8_first)]
theorem door_met7 (os : Os) (args : Array Value) : laidMetH Tryz.prog laid7 ((World.laidAll Tryz.prog os laid7).forCall (fun _ _ => 0) ⟨#[], args, []⟩).memory := by
  rw [MakeChecks.laidMetH_plain _ _ _ (by kernel_rfl)]
  exact laidMet_laidAll _ (by kernel_rfl) (by kernel_rfl)
theorem shaped7 (os : Os) : (World.laidAll Tryz.prog os laid7).Shaped Tryz.prog := World.shaped_of_ZipB (by kernel_rfl) (by kernel_rfl)
theorem laid_of7 {W : World} (h : laidMetH Tryz.prog laid7 W) (hs : W.ShapedOpen Tryz.prog) : True := trivial
/-- The wrap of a row that lists variables, the world's shape kept. -/
theorem shaped_and {H : Type} {enc : TypeId × Value → H} {a : Assume} {C : Checked} {os : Os} {f : FuncId} {fn : Func} {s : ChangeSpec} {conds : List PathCond} {apart fresh handsOn again : Bool} {X : World → Array Value → Prop}
    (hX : ∀ (w w' : World) (args : Array Value), w.heap = w'.heap → X w args → X w' args)
    (own : ownKnob C.prog.godebug = none) (started : os.Started) (noInit : C.prog.inits.idxOf? f = none) (hfn : C.prog.funcs[f]? = some fn)
    (witness : ∃ (w : World) (tape : Tape) (i : Input), w.os = os ∧ (w.forCall tape i).Shaped C.prog ∧ i.vars = [] ∧ Input.okWide C.prog (w.forCall tape i) .any w.heap.size f i ∧
      ((s.pre enc C.prog fn conds apart (w.forCall tape i).memory i.args ∧ X (w.forCall tape i).memory i.args) ∧ sizedMet enc C.prog fn (OpenSpec.ofChange s) apart (w.forCall tape i).memory i.args) ∧ a.holds C.prog (lone (Frame.enter C.prog f i.args .normal) [] (w.forCall tape i)))
    (contract : ∀ (W : World) (base : Nat) (args : Array Value) (ds gs : List (DataW H)) (before : List MemPlace),
      (∀ (j : Nat) t v, fn.params[j]? = some t → args[j]? = some v → Value.okWide C.prog W .any base t v) →
      DataW.Whole enc C.prog fn.params.toList s.vars apart W args.toList ds gs before →
      X W args → W.ShapedOpen C.prog →
      Calls C.prog f args W fun e W' => ∃ v, e = .returned v ∧ s.post enc C.prog fn apart fresh handsOn again W args v W') :
    ReturnsInHanded a C os f .any (fun w args => (s.pre enc C.prog fn conds apart w args ∧ X w args) ∧ sizedMet enc C.prog fn (OpenSpec.ofChange s) apart w args) (s.post enc C.prog fn apart fresh handsOn again) := by
  refine returnsInHanded_of_calls own started noInit witness ?_
  intro w tape i _ hsh _ hok hpre hholds
  obtain ⟨_, _, _, fn', hfn', _, _, _, _, hval⟩ := hok
  obtain rfl : fn' = fn := Option.some.inj (hfn'.symm.trans hfn)
  obtain ⟨⟨⟨ds, gs, before, hw, hc⟩, hx⟩, hz⟩ := hpre
  have hw' := DataW.Whole.of_heap (w' := w.forCall tape i) (by rfl) hw
  refine (contract (w.forCall tape i) w.heap.size i.args ds gs before hval hw' (hX _ _ _ (by rfl) hx) hsh).mono fun e W' ⟨v, he, hp⟩ => ?_
  subst he
  exact ChangeSpec.post_blind hp
end Go.Proofs.YtcbagpippmbmfaaGreatDoor
