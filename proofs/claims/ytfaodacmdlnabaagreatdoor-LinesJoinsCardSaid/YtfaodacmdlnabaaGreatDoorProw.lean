/-
 What the rows of this seat are closed by: policies as arguments, the listed variables.
-/
import Derived.Test.YtfaodacmdlnabaaGreatDoorPg
import Derived.Test.YtfaodacmdlnabaaGreatDoorRows
import Derived.ProofKit
import Derived.LaidMore
import Derived.OpenShut
import Derived.Stop.Joined
import Derived.HandedShaped
import Derived.Shelf.Vars
import Derived.Lib.LaidTab
import Derived.ShutString
import Derived.ChangeOld
import Derived.Below
namespace Go.Proofs.YtfaodacmdlnabaaGreatDoor
open Go.ChangeShapes Go.WideShapes Go.ChangeAt Go.RowKit
open Go.ChangeMaps (open_string shut_string)
set_option linter.unusedVariables false
set_option linter.unusedSimpArgs false
section
variable {H : Type} {enc : TypeId × Value → H} {w : World} {spare : Nat → Bool} {held : Bool}
theorem field_at {fs : Array Field} {cs : List Value} {xs : List (DataW H × List MemPlace)} {n : Nat} (hf : ∀ (i : Nat) (f : Field), fs[i]? = some f → DataW.trod enc Tryz.prog w 0 spare held n f.type ((cs.drop f.offset).take (Tryz.prog.cellsOf f.type)) = xs[i]?) (hxl : xs.length = fs.size) (i : Nat) {f : Field} {u : Value} {t : TypeId} (hi : fs[i]? = some f) (ht : f.type = t) (hc : Tryz.prog.cellsOf t = 1) (hu : cs[f.offset]? = some u) : ∃ y, DataW.trod enc Tryz.prog w 0 spare held n t [u] = some y := by
 subst ht
 have h := hf i f hi
 have hlt : i < xs.length := by rw [hxl]; exact (Array.getElem?_eq_some_iff.1 hi).1
 rw [hc, List.getElem?_eq_getElem hlt] at h
 refine ⟨xs[i], ?_⟩
 have hl := (List.getElem?_eq_some_iff.1 hu).1
 rw [List.drop_eq_getElem_cons hl, List.take_succ_cons, List.take_zero, (List.getElem?_eq_some_iff.1 hu).2] at h
 exact h
theorem strsIs {fuel : Nat} {u : Value} {y : DataW H × List MemPlace} (h : DataW.trod enc Tryz.prog w 0 spare held fuel 34 [u] = some y) : ∃ l : List M.Str, M.VR (M.Old w) w (.sl false 1 (M.strRows l)) u := by
 obtain ⟨l, hl⟩ := M.areads_slice (sz := 1) Tryz.underlying34 (by kernel_rfl) (by decide) (fun _ _ => M.areads_str Tryz.underlying9) [u] y h
 exact ⟨l, (hl.2 0 (by simp [M.sliceRow]) (by simp)).2⟩
theorem intIs {fuel : Nat} {u : Value} {y : DataW H × List MemPlace} (h : DataW.trod enc Tryz.prog w 0 spare held fuel 3 [u] = some y) : ∃ n : Int, u = .int .i64 n := by
 obtain ⟨n, hn, _⟩ := DataW.trod_int Tryz.underlying3 h
 cases hn
 exact ⟨n, rfl⟩
set_option maxRecDepth 100000 in
set_option maxHeartbeats 2000000 in
theorem arg_pol {r : Reach} {b0 : Nat} {v : Value} {d : DataW H} {p : List MemPlace} (hv : Value.okWide Tryz.prog w r b0 36 v) (h : DataW.Trod enc Tryz.prog w 0 spare held 36 v d p) : ∃ x : M.Pol, M.VR (M.Old w) w (.agg (M.polCells x)) v := by
 obtain ⟨vs, rfl, hsz⟩ := okWide_struct Tryz.underlying36 hv
 obtain ⟨fuel, hf0⟩ := h
 obtain ⟨xs, n, rfl, _, hl, hxl, hf⟩ := DataW.trod_struct Tryz.underlying36 hf0
 rw [show Tryz.prog.cellsOf 36 = 9 by kernel_rfl] at hl hsz
 obtain ⟨l⟩ := vs
 match l, hsz, hf with
 | [c0, c1, c2, c3, c4, c5, c6, c7, c8], _, hf =>
  obtain ⟨y0, h0⟩ : ∃ y, DataW.trod enc Tryz.prog w 0 spare held n 3 [c0] = some y := field_at hf hxl 0 rfl rfl (by kernel_rfl) rfl
  obtain ⟨y1, h1⟩ : ∃ y, DataW.trod enc Tryz.prog w 0 spare held n 34 [c1] = some y := field_at hf hxl 1 rfl rfl (by kernel_rfl) rfl
  obtain ⟨y2, h2⟩ : ∃ y, DataW.trod enc Tryz.prog w 0 spare held n 34 [c2] = some y := field_at hf hxl 2 rfl rfl (by kernel_rfl) rfl
  obtain ⟨y3, h3⟩ : ∃ y, DataW.trod enc Tryz.prog w 0 spare held n 34 [c3] = some y := field_at hf hxl 3 rfl rfl (by kernel_rfl) rfl
  obtain ⟨y4, h4⟩ : ∃ y, DataW.trod enc Tryz.prog w 0 spare held n 34 [c4] = some y := field_at hf hxl 4 rfl rfl (by kernel_rfl) rfl
  obtain ⟨y5, h5⟩ : ∃ y, DataW.trod enc Tryz.prog w 0 spare held n 34 [c5] = some y := field_at hf hxl 5 rfl rfl (by kernel_rfl) rfl
  obtain ⟨y6, h6⟩ : ∃ y, DataW.trod enc Tryz.prog w 0 spare held n 3 [c6] = some y := field_at hf hxl 6 rfl rfl (by kernel_rfl) rfl
  obtain ⟨y7, h7⟩ : ∃ y, DataW.trod enc Tryz.prog w 0 spare held n 3 [c7] = some y := field_at hf hxl 7 rfl rfl (by kernel_rfl) rfl
  obtain ⟨y8, h8⟩ : ∃ y, DataW.trod enc Tryz.prog w 0 spare held n 3 [c8] = some y := field_at hf hxl 8 rfl rfl (by kernel_rfl) rfl
  obtain ⟨n0, rfl⟩ := intIs h0
  obtain ⟨l1, e1⟩ := strsIs h1
  obtain ⟨l2, e2⟩ := strsIs h2
  obtain ⟨l3, e3⟩ := strsIs h3
  obtain ⟨l4, e4⟩ := strsIs h4
  obtain ⟨l5, e5⟩ := strsIs h5
  obtain ⟨n6, rfl⟩ := intIs h6
  obtain ⟨n7, rfl⟩ := intIs h7
  obtain ⟨n8, rfl⟩ := intIs h8
  refine ⟨⟨n0, l1, l2, l3, l4, l5, n6, n7, n8⟩, .agg (fun j => #[Value.int .i64 n0, c1, c2, c3, c4, c5, .int .i64 n6, .int .i64 n7, .int .i64 n8].getD j undef) rfl (fun j hj => ?_) (fun j hj => ?_) (fun j hj => ?_)⟩
  ·simp [hj] at hj ⊢
   simp [hj]
  ·rcases j with _ | _ | _ | _ | _ | _ | _ | _ | _ | j
   ·rfl
   ·rfl
   ·rfl
   ·rfl
   ·rfl
   ·rfl
   ·rfl
   ·rfl
   ·rfl
   ·simp [M.polCells] at hj; omega
  ·rcases j with _ | _ | _ | _ | _ | _ | _ | _ | _ | j
   ·exact .v _
   ·exact e1
   ·exact e2
   ·exact e3
   ·exact e4
   ·exact e5
   ·exact .v _
   ·exact .v _
   ·exact .v _
   ·simp [M.polCells] at hj; omega
end
theorem pol_lens {w : World} {x : M.Pol} {v : Value} (h : M.VR (M.Old w) w (.agg (M.polCells x)) v) : M.Lens x := by
 cases h with
 | agg us hl hv ho hh =>
 intro i
 have key : ∀ j (hj : j < (M.polCells x).length) (l : List M.Str), (M.polCells x)[j] = .sl false 1 (M.strRows l) → l.length ≤ 9223372036854775807 := fun j hj l e => by
  have h1 := hh j hj
  rw [e] at h1
  have h2 := h1.sl_len
  rw [M.strRows_len] at h2
  have : maxLen ≤ 9223372036854775807 := by decide
  omega
 rcases i with _ | _ | _ | _ | _ | i
 ·exact key 1 (by simp [M.polCells]) _ rfl
 ·exact key 2 (by simp [M.polCells]) _ rfl
 ·exact key 3 (by simp [M.polCells]) _ rfl
 ·exact key 4 (by simp [M.polCells]) _ rfl
 ·exact key 5 (by simp [M.polCells]) _ rfl
 ·simp [M.polLists]
def laid3 : List (String × DataW Unit) := [("math/bits.deBruijn32tab", Rows.laid_math_bits_deBruijn32tab), ("math/bits.deBruijn64tab", Rows.laid_math_bits_deBruijn64tab), ("internal/strconv.uint64pow10", Rows.laid_internal_strconv_uint64pow10)]
theorem own : ownKnob Tryz.prog.godebug = none := by kernel_rfl
theorem laidOut : laidOutB Tryz.prog = true := by kernel_rfl
theorem door_met (os : Os) (args : Array Value) : laidMetH Tryz.prog laid3 ((World.doorLaid Tryz.prog 400 os).forCall (fun _ _ => 0) ⟨#[], args, []⟩).memory :=
 laidMetH_of_parts3 (fuel := 8) (laidMet_of_run' 8 (by kernel_rfl) (by kernel_rfl)) (by kernel_rfl) (by kernel_rfl)
theorem laid_of {W : World} (h : laidMetH Tryz.prog laid3 W) (hs : W.ShapedOpen Tryz.prog) : M.Laid W := by
 constructor
 ·rw [MakeChecks.laidMetH_plain _ _ _ (by kernel_rfl)] at h
  obtain ⟨ps, ⟨g0, t0, cs0, f0, p0, q0, hg0, ht0, hv0, hd0, ⟨g1, t1, cs1, f1, p1, q1, hg1, ht1, hv1, hd1, ⟨g2, t2, cs2, f2, p2, q2, hg2, ht2, hv2, hd2, _, _⟩, _⟩, _⟩, _, _⟩ := h
  have hg : Tryz.prog.globalNamed "internal/strconv.uint64pow10" = some 3 := by kernel_rfl
  have hgt : (Tryz.prog.globals[3]?).map (·.type) = some 240 := by kernel_rfl
  obtain rfl := Option.some.inj (hg.symm.trans hg2)
  obtain rfl := Option.some.inj (hgt.symm.trans ht2)
  unfold Lib.TabIs
  rw [hv2, ← Lib.cells_of_tab (k := .u64) (zs := Lib.pow10Tab) Tryz.underlying240 Tryz.underlying189 (by kernel_rfl) (by kernel_rfl) hd2]
 ·exact cell_of_shapedOpen_int (g := 0) (zero := #[.int .i64 0]) hs (of_decide_eq_true (by kernel_rfl)) (by kernel_rfl) rfl (by kernel_rfl) (by kernel_rfl) Tryz.underlying3
/-- The wrap of a row that lists variables, the world's shape kept. -/
theorem shaped_and {H : Type} {enc : TypeId × Value → H} {a : Assume} {C : Checked} {os : Os} {f : FuncId} {fn : Func} {s : ChangeSpec} {conds : List PathCond} {apart fresh handsOn again : Bool} {X : World → Array Value → Prop}
  (hX : ∀ (w w' : World) (args : Array Value), w.heap = w'.heap → X w args → X w' args)
  (own : ownKnob C.prog.godebug = none) (started : os.Started) (noInit : C.prog.inits.idxOf? f = none) (hfn : C.prog.funcs[f]? = some fn)
  (witness : ∃ (w : World) (tape : Tape) (i : Input), w.os = os ∧ (w.forCall tape i).Shaped C.prog ∧ i.vars = [] ∧ Input.okWide C.prog (w.forCall tape i) .any w.heap.size f i ∧
   ((s.pre enc C.prog fn conds apart (w.forCall tape i).memory i.args ∧ X (w.forCall tape i).memory i.args) ∧ sizedMet enc C.prog fn (OpenSpec.ofChange s) apart (w.forCall tape i).memory i.args) ∧ a.holds C.prog (lone (Frame.enter C.prog f i.args .normal) [] (w.forCall tape i)))
  (contract : ∀ (W : World) (base : Nat) (args : Array Value) (ds gs : List (DataW H)) (before : List MemPlace),
   (∀ (j : Nat) t v, fn.params[j]? = some t → args[j]? = some v → Value.okWide C.prog W .any base t v) →
   DataW.Whole enc C.prog fn.params.toList s.vars apart W args.toList ds gs before →
   X W args → W.ShapedOpen C.prog →
   Calls C.prog f args W fun e W' => ∃ v, e = .returned v ∧ s.post enc C.prog fn apart fresh handsOn again W args v W') :
  ReturnsInHanded a C os f .any (fun w args => (s.pre enc C.prog fn conds apart w args ∧ X w args) ∧ sizedMet enc C.prog fn (OpenSpec.ofChange s) apart w args) (s.post enc C.prog fn apart fresh handsOn again) := by
 refine returnsInHanded_of_calls own started noInit witness ?_
 intro w tape i _ hsh _ hok hpre hholds
 obtain ⟨_, _, _, fn', hfn', _, _, _, _, hval⟩ := hok
 obtain rfl : fn' = fn := Option.some.inj (hfn'.symm.trans hfn)
 obtain ⟨⟨⟨ds, gs, before, hw, hc⟩, hx⟩, hz⟩ := hpre
 have hw' := DataW.Whole.of_heap (w' := w.forCall tape i) (by rfl) hw
 refine (contract (w.forCall tape i) w.heap.size i.args ds gs before hval hw' (hX _ _ _ (by rfl) hx) hsh).mono fun e W' ⟨v, he, hp⟩ => ?_
 subst he
 exact ChangeSpec.post_blind hp
end Go.Proofs.YtfaodacmdlnabaaGreatDoor
