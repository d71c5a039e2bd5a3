/-
  Messages as arguments.
-/
import Derived.Test.YtcplmaffccfbdaaGreatDoorProw7
import Derived.Test.YtcplmaffccfbdaaGreatDoorQf
namespace Go.Proofs.YtcplmaffccfbdaaGreatDoor
open Go.ChangeShapes Go.WideShapes Go.ChangeAt Go.RowKit
set_option linter.unusedVariables false
set_option linter.unusedSimpArgs false
section
variable {H : Type} {enc : TypeId × Value → H} {w : World} {spare : Nat → Bool} {held : Bool}
theorem field_seg {fs : Array Field} {cs : List Value} {xs : List (DataW H × List MemPlace)} {n c : Nat} (hf : ∀ (i : Nat) (f : Field), fs[i]? = some f → DataW.trod enc Tryz.prog w 0 spare held n f.type ((cs.drop f.offset).take (Tryz.prog.cellsOf f.type)) = xs[i]?) (hxl : xs.length = fs.size) (i : Nat) {f : Field} {us : List Value} {t : TypeId} (hi : fs[i]? = some f) (ht : f.type = t) (hc : Tryz.prog.cellsOf t = c) (hu : (cs.drop f.offset).take c = us) : ∃ y, DataW.trod enc Tryz.prog w 0 spare held n t us = some y := by
  subst ht
  have h := hf i f hi
  have hlt : i < xs.length := by rw [hxl]; exact (Array.getElem?_eq_some_iff.1 hi).1
  rw [hc, List.getElem?_eq_getElem hlt, hu] at h
  exact ⟨xs[i], h⟩
set_option maxRecDepth 100000 in
set_option maxHeartbeats 2000000 in
theorem pol_cellsIs {fuel : Nat} {c0 c1 c2 c3 c4 c5 c6 c7 c8 : Value} {y : DataW H × List MemPlace} (h : DataW.trod enc Tryz.prog w 0 spare held fuel 25 [c0, c1, c2, c3, c4, c5, c6, c7, c8] = some y) :
    ∃ x : M.Pol, c0 = .int .i64 x.epoch ∧ M.VR (M.Old w) w (.sl false 1 (M.strRows x.elems)) c1 ∧ M.VR (M.Old w) w (.sl false 1 (M.strRows x.attrs)) c2 ∧ M.VR (M.Old w) w (.sl false 1 (M.strRows x.schemes)) c3 ∧ M.VR (M.Old w) w (.sl false 1 (M.strRows x.classes)) c4 ∧ M.VR (M.Old w) w (.sl false 1 (M.strRows x.props)) c5 ∧ c6 = .int .i64 x.depth ∧ c7 = .int .i64 x.nodes ∧ c8 = .int .i64 x.bytes := by
  obtain ⟨xs, n, rfl, _, hl, hxl, hf⟩ := DataW.trod_struct Tryz.underlying25 h
  obtain ⟨y0, h0⟩ : ∃ y, DataW.trod enc Tryz.prog w 0 spare held n 3 [c0] = some y := field_at hf hxl 0 rfl rfl (by kernel_rfl) rfl
  obtain ⟨y1, h1⟩ : ∃ y, DataW.trod enc Tryz.prog w 0 spare held n 22 [c1] = some y := field_at hf hxl 1 rfl rfl (by kernel_rfl) rfl
  obtain ⟨y2, h2⟩ : ∃ y, DataW.trod enc Tryz.prog w 0 spare held n 22 [c2] = some y := field_at hf hxl 2 rfl rfl (by kernel_rfl) rfl
  obtain ⟨y3, h3⟩ : ∃ y, DataW.trod enc Tryz.prog w 0 spare held n 22 [c3] = some y := field_at hf hxl 3 rfl rfl (by kernel_rfl) rfl
  obtain ⟨y4, h4⟩ : ∃ y, DataW.trod enc Tryz.prog w 0 spare held n 22 [c4] = some y := field_at hf hxl 4 rfl rfl (by kernel_rfl) rfl
  obtain ⟨y5, h5⟩ : ∃ y, DataW.trod enc Tryz.prog w 0 spare held n 22 [c5] = some y := field_at hf hxl 5 rfl rfl (by kernel_rfl) rfl
  obtain ⟨y6, h6⟩ : ∃ y, DataW.trod enc Tryz.prog w 0 spare held n 3 [c6] = some y := field_at hf hxl 6 rfl rfl (by kernel_rfl) rfl
  obtain ⟨y7, h7⟩ : ∃ y, DataW.trod enc Tryz.prog w 0 spare held n 3 [c7] = some y := field_at hf hxl 7 rfl rfl (by kernel_rfl) rfl
  obtain ⟨y8, h8⟩ : ∃ y, DataW.trod enc Tryz.prog w 0 spare held n 3 [c8] = some y := field_at hf hxl 8 rfl rfl (by kernel_rfl) rfl
  obtain ⟨n0, rfl⟩ := intIs h0
  obtain ⟨l1, e1⟩ := strsIs h1
  obtain ⟨l2, e2⟩ := strsIs h2
  obtain ⟨l3, e3⟩ := strsIs h3
  obtain ⟨l4, e4⟩ := strsIs h4
  obtain ⟨l5, e5⟩ := strsIs h5
  obtain ⟨n6, rfl⟩ := intIs h6
  obtain ⟨n7, rfl⟩ := intIs h7
  obtain ⟨n8, rfl⟩ := intIs h8
  exact ⟨⟨n0, l1, l2, l3, l4, l5, n6, n7, n8⟩, rfl, e1, e2, e3, e4, e5, rfl, rfl, rfl⟩
set_option maxRecDepth 100000 in
theorem areads_post {fuel : Nat} : M.AReads Tryz.prog enc w spare held M.postRow 38 fuel := fun cs r h => by
  obtain ⟨xs, n, rfl, _, hl, hxl, hf⟩ := DataW.trod_struct Tryz.underlying38 h
  rw [show Tryz.prog.cellsOf 38 = 2 by kernel_rfl] at hl
  match cs, hl, hf with
  | [c0, c1], _, hf =>
    obtain ⟨y0, h0⟩ : ∃ y, DataW.trod enc Tryz.prog w 0 spare held n 9 [c0] = some y := field_at hf hxl 0 rfl rfl (by kernel_rfl) rfl
    obtain ⟨y1, h1⟩ : ∃ y, DataW.trod enc Tryz.prog w 0 spare held n 9 [c1] = some y := field_at hf hxl 1 rfl rfl (by kernel_rfl) rfl
    obtain ⟨s0, q0, _⟩ := DataW.trod_string Tryz.underlying9 h0
    obtain ⟨s1, q1, _⟩ := DataW.trod_string Tryz.underlying9 h1
    cases q0
    cases q1
    refine ⟨(s0, s1), rfl, fun i hi hi' => ?_⟩
    rcases i with _ | _ | i
    · exact ⟨rfl, .v _⟩
    · exact ⟨rfl, .v _⟩
    · simp [M.postRow] at hi; omega
set_option maxRecDepth 100000 in
theorem postsIs {fuel : Nat} {u : Value} {y : DataW H × List MemPlace} (h : DataW.trod enc Tryz.prog w 0 spare held fuel 23 [u] = some y) : ∃ l : List (M.Str × M.Str), M.VR (M.Old w) w (.sl false 2 (M.postRows l)) u := by
  obtain ⟨l, hl⟩ := M.areads_slice (sz := 2) Tryz.underlying23 (by kernel_rfl) (by decide) (fun _ _ => areads_post) [u] y h
  exact ⟨l, (hl.2 0 (by simp [M.sliceRow]) (by simp)).2⟩
set_option maxRecDepth 100000 in
set_option maxHeartbeats 4000000 in
theorem arg_msg {r : Reach} {b0 : Nat} {v : Value} {d : DataW H} {p : List MemPlace} (hv : Value.okWide Tryz.prog w r b0 27 v) (h : DataW.Trod enc Tryz.prog w 0 spare held 27 v d p) : ∃ x : M.Msg, M.VR (M.Old w) w (.agg (M.msgCells x)) v := by
  obtain ⟨vs, rfl, hsz⟩ := okWide_struct Tryz.underlying27 hv
  obtain ⟨fuel, hf0⟩ := h
  obtain ⟨xs, n, rfl, _, hl, hxl, hf⟩ := DataW.trod_struct Tryz.underlying27 hf0
  rw [show Tryz.prog.cellsOf 27 = 15 by kernel_rfl] at hl hsz
  obtain ⟨l⟩ := vs
  match l, hsz, hf with
  | [c0, c1, c2, c3, c4, c5, c6, c7, c8, c9, c10, c11, c12, c13, c14], _, hf =>
    obtain ⟨y0, h0⟩ : ∃ y, DataW.trod enc Tryz.prog w 0 spare held n 3 [c0] = some y := field_at hf hxl 0 rfl rfl (by kernel_rfl) rfl
    obtain ⟨y1, h1⟩ : ∃ y, DataW.trod enc Tryz.prog w 0 spare held n 3 [c1] = some y := field_at hf hxl 1 rfl rfl (by kernel_rfl) rfl
    obtain ⟨y2, h2⟩ : ∃ y, DataW.trod enc Tryz.prog w 0 spare held n 3 [c2] = some y := field_at hf hxl 2 rfl rfl (by kernel_rfl) rfl
    obtain ⟨y3, h3⟩ : ∃ y, DataW.trod enc Tryz.prog w 0 spare held n 3 [c3] = some y := field_at hf hxl 3 rfl rfl (by kernel_rfl) rfl
    obtain ⟨y4, h4⟩ : ∃ y, DataW.trod enc Tryz.prog w 0 spare held n 22 [c4] = some y := field_at hf hxl 4 rfl rfl (by kernel_rfl) rfl
    obtain ⟨y5, h5⟩ : ∃ y, DataW.trod enc Tryz.prog w 0 spare held n 23 [c5] = some y := field_at hf hxl 5 rfl rfl (by kernel_rfl) rfl
    obtain ⟨y6, h6⟩ : ∃ y, DataW.trod enc Tryz.prog w 0 spare held n 25 [c6, c7, c8, c9, c10, c11, c12, c13, c14] = some y := field_seg (c := 9) hf hxl 6 rfl rfl (by kernel_rfl) rfl
    obtain ⟨n0, rfl⟩ := intIs h0
    obtain ⟨n1, rfl⟩ := intIs h1
    obtain ⟨n2, rfl⟩ := intIs h2
    obtain ⟨n3, rfl⟩ := intIs h3
    obtain ⟨l4, e4⟩ := strsIs h4
    obtain ⟨l5, e5⟩ := postsIs h5
    obtain ⟨x, rfl, p1, p2, p3, p4, p5, rfl, rfl, rfl⟩ := pol_cellsIs h6
    refine ⟨⟨n0, n1, n2, n3, l4, l5, x⟩, .agg (fun j => #[Value.int .i64 n0, .int .i64 n1, .int .i64 n2, .int .i64 n3, c4, c5, .int .i64 x.epoch, c7, c8, c9, c10, c11, .int .i64 x.depth, .int .i64 x.nodes, .int .i64 x.bytes].getD j undef) rfl (fun j hj => ?_) (fun j hj => ?_) (fun j hj => ?_)⟩
    · simp [hj] at hj ⊢
      simp [hj]
    · exact M.msgCells_one _ j hj
    · rcases j with _ | _ | _ | _ | _ | _ | _ | _ | _ | _ | _ | _ | _ | _ | _ | j
      · exact .v _
      · exact .v _
      · exact .v _
      · exact .v _
      · exact e4
      · exact e5
      · exact .v _
      · exact p1
      · exact p2
      · exact p3
      · exact p4
      · exact p5
      · exact .v _
      · exact .v _
      · exact .v _
      · simp [M.msgCells] at hj; omega
end
theorem msg_lens {w : World} {x : M.Msg} {v : Value} (h : M.VR (M.Old w) w (.agg (M.msgCells x)) v) : M.MLens x := by
  cases h with
  | agg us hl hv ho hh =>
  have hmx : maxLen ≤ 9223372036854775807 := by decide
  have key : ∀ j (hj : j < (M.msgCells x).length) (sz : Nat) (rows : List (List M.AVal)), (M.msgCells x)[j] = .sl false sz rows → rows.length ≤ 9223372036854775807 := fun j hj sz rows e => by
    have h1 := hh j hj
    rw [e] at h1
    have h2 := h1.sl_len
    omega
  have keyS : ∀ j (hj : j < (M.msgCells x).length) (l : List M.Str), (M.msgCells x)[j] = .sl false 1 (M.strRows l) → l.length ≤ 9223372036854775807 := fun j hj l e => by
    have := key j hj _ _ e
    rwa [M.strRows_len] at this
  refine ⟨keyS 4 (by simp [M.msgCells]) _ rfl, ?_, fun i => ?_⟩
  · have := key 5 (by simp [M.msgCells]) 2 (M.postRows x.posts) rfl
    rwa [M.postRows_len] at this
  · rcases i with _ | _ | _ | _ | _ | i
    · exact keyS 7 (by simp [M.msgCells]) _ rfl
    · exact keyS 8 (by simp [M.msgCells]) _ rfl
    · exact keyS 9 (by simp [M.msgCells]) _ rfl
    · exact keyS 10 (by simp [M.msgCells]) _ rfl
    · exact keyS 11 (by simp [M.msgCells]) _ rfl
    · simp [M.polLists]
end Go.Proofs.YtcplmaffccfbdaaGreatDoor
