/-
  The tree builder of package dom: its state in memory as plain data, and putting a node on it.
-/
import Derived.Test.YtidicfdcjoggpaaDomPut
namespace Go.Proofs.Ytidicfdcjoggpaa
open Go.RowKit
set_option linter.unusedVariables false
set_option linter.unusedSimpArgs false
/-- An open element. -/
structure El where
  name : Str
  attrs : List Attr
  kids : List Node
structure Gh where
  el : El
  va : Value
  kv : Value
def Gh.cells (g : Gh) : List Value := [.string g.el.name, g.va, .string ByteArray.empty, g.kv, .string g.el.name]
theorem flat_len (gs : List Gh) : (gs.flatMap Gh.cells).length = gs.length * 5 := by
  induction gs with
  | nil => rfl
  | cons g gs ih => rw [List.flatMap_cons, List.length_append, ih]; simp [Gh.cells]; omega
def Mut (bb ob : Nat) (gs : List Gh) : FP := fun b => b = bb ∨ b = ob ∨ ∃ g ∈ gs, g.kv.ownBlock = some b
def Free (B H : Nat) (M : FP) : FP := fun b => B ≤ b ∧ b < H ∧ ¬ M b
structure BldG (w : World) (B bb ob cap : Nat) (gs : List Gh) (many : Int) (over : Bool) : Prop where
  blk : w.heap[bb]? = some (.cells #[.slice (some ⟨ob, 0, none⟩) gs.length cap, .int .i64 many, .bool over] 52 (0, 0))
  hb : B ≤ bb
  row : w.ownsRow B 49 5 (.slice (some ⟨ob, 0, none⟩) gs.length cap) gs.length (gs.flatMap Gh.cells)
  ne : bb ≠ ob
  dat : ∀ g ∈ gs, SliceIs w (Free B w.heap.size (Mut bb ob gs)) g.va g.el.attrs ∧ Mine w B 37 (Free B w.heap.size (Mut bb ob gs)) g.kv g.el.kids ∧ g.kv.ownBlock ≠ some bb ∧ g.kv.ownBlock ≠ some ob
  apart : gs.Pairwise (fun a b => ∀ k, a.kv.ownBlock = some k → b.kv.ownBlock ≠ some k)
/-- The builder's elements (the innermost last), its count and its mark, wherever it lies. -/
def Bld (w : World) (B bb : Nat) (els : List El) (many : Int) (over : Bool) : Prop := ∃ ob cap gs, BldG w B bb ob cap gs many over ∧ gs.map (·.el) = els
theorem BldG.cur {w : World} {B bb ob cap : Nat} {gs : List Gh} {many : Int} {over : Bool} (h : BldG w B bb ob cap gs many over) :
    ∃ cur, w.heap[ob]? = some (.cells cur 49 (0, 0)) ∧ B ≤ ob ∧ gs.length ≤ cap ∧ cap ≤ maxLen ∧ cur.size = cap * 5 ∧ cur.toList.take (gs.length * 5) = gs.flatMap Gh.cells := by
  rcases h.row.2 with ⟨h', _⟩ | ⟨g', cap', cur, h', hb, hg, hnc, hcm, hcs, htake⟩
  · simp at h'
  · simp only [Value.slice.injEq, Option.some.injEq, Addr.mk.injEq, and_true, true_and] at h'
    obtain ⟨rfl, rfl⟩ := h'
    exact ⟨cur, hg, hb, hnc, hcm, hcs, htake⟩
/-- Cell j of element i. -/
theorem BldG.get {w : World} {B bb ob cap : Nat} {gs : List Gh} {many : Int} {over : Bool} (h : BldG w B bb ob cap gs many over) {cur : Array Value} (hc : cur.toList.take (gs.length * 5) = gs.flatMap Gh.cells) {i : Nat} (hi : i < gs.length) {j : Nat} {u : Value} (hu : (gs[i]).cells[j]? = some u) : cur[i * 5 + j]? = some u := by
  have hj : j < 5 := by have := (List.getElem?_eq_some_iff.1 hu).1; simpa [Gh.cells] using this
  have key : ∀ (gs : List Gh) (i : Nat) (hi : i < gs.length), (gs[i]).cells[j]? = some u → (gs.flatMap Gh.cells)[i * 5 + j]? = some u := by
    intro gs
    induction gs with
    | nil => intro i hi; simp at hi
    | cons g gs ih =>
      intro i hi hu
      rw [List.flatMap_cons]
      cases i with
      | zero => simp only [Nat.zero_mul, Nat.zero_add]; rw [List.getElem?_append_left (by simp [Gh.cells]; omega)]; exact hu
      | succ i => rw [List.getElem?_append_right (by simp [Gh.cells]; omega), show (i + 1) * 5 + j - g.cells.length = i * 5 + j by simp [Gh.cells]; omega]; exact ih i (by simpa using hi) hu
  have := key gs i hi hu
  rw [← hc, List.getElem?_take] at this
  split at this
  · rw [← Array.getElem?_toList]; exact this
  · cases this
theorem Free.new {B H H' bb ob : Nat} {gs gs' : List Gh} (hH : H ≤ H') (hn : ∀ b, b < H → Mut bb ob gs' b → Mut bb ob gs b) : ∀ b, Free B H (Mut bb ob gs) b → Free B H' (Mut bb ob gs') b :=
  fun b ⟨h1, h2, h3⟩ => ⟨h1, Nat.lt_of_lt_of_le h2 hH, fun h => h3 (hn b h2 h)⟩
/-- Behind a step that turns nothing that was there. -/
theorem BldG.keep {w w' : World} {B bb ob cap : Nat} {gs : List Gh} {many : Int} {over : Bool} (h : BldG w B bb ob cap gs many over) (hu : Upd None w w') : BldG w' B bb ob cap gs many over := by
  have hsame : Same (Free B w.heap.size (Mut bb ob gs)) w w' := fun b hb => hu.block b hb.2.1 id
  have hmono := Free.new (B := B) (bb := bb) (ob := ob) (gs := gs) (gs' := gs) hu.size (fun b _ hb => hb)
  refine ⟨(hu.block bb (lt_of_block h.blk) id).trans h.blk, h.hb, own_none h.row hu, h.ne, fun x hx => ?_, h.apart⟩
  have hd := h.dat x hx
  refine ⟨hd.1.frame hsame hmono, ?_, hd.2.2⟩
  obtain ⟨cs, h1, h2⟩ := hd.2.1.step (w' := w') (fun b hb => hsame b hb.1) (fun k hk => hu.block k (own_lt hd.2.1.choose_spec.1 hk).2.1 id) hu.size
  exact ⟨cs, h1, h2.frame (Same.refl _ _) (fun b hb => ⟨hmono b hb.1, hb.2⟩)⟩
set_option maxHeartbeats 1000000 in
theorem put_bld {w : World} {B bb ob cap : Nat} {gs : List Gh} {t : Gh} {many : Int} {over : Bool} (h : BldG w B bb ob cap (gs ++ [t]) many over) (hn : gs.length < 100000) (hm : t.el.kids.length ≤ 100000)
    (n : Node) (cs : List Value) (hx : Rep.Is w (Free B w.heap.size (Mut bb ob (gs ++ [t]))) n cs) :
    Calls Try.prog 37 #[.pointer (some ⟨bb, 0, none⟩), .agg cs.toArray] w fun e w' => e = .returned (.tuple #[]) ∧ ∃ t' : Gh, t'.el = ⟨t.el.name, t.el.attrs, t.el.kids ++ [n]⟩ ∧ BldG w' B bb ob cap (gs ++ [t']) many over ∧ Below B w w' := by
  obtain ⟨va, vk, rfl, hva, hvk⟩ := Node.open_ hx
  have hva' := hva; have hvk' := hvk
  obtain ⟨a1, k1, rfl, _⟩ := hva'
  obtain ⟨a3, k3, rfl, _⟩ := hvk'
  obtain ⟨cur, hcur, hBo, hnc, hcm, hcs, htake⟩ := h.cur
  have ht := h.dat t (by simp)
  obtain ⟨cs0, hown, hcells⟩ := ht.2.1
  have hBw : B ≤ w.heap.size := Nat.le_trans h.hb (Nat.le_of_lt (lt_of_block h.blk))
  have hkv : cur[((gs ++ [t]).length - 1) * 5 + 3]? = some t.kv := h.get htake (i := (gs ++ [t]).length - 1) (by simp) (by simp [Gh.cells])
  refine (put_any B bb ob (gs ++ [t]).length cap t.el.kids.length n.name n.text a1 a3 _ k1 _ k3 t.kv cur cs0 w (by rw [cell_of_row w bb _ _ _ _ h.blk]; rfl) (by simp) (by simp; omega) hcur hkv hown hm hBw (fun e => ht.2.2.2 e.symm)).mono ?_
  rintro e w' ⟨rfl, g, cap', hown', hob', hat, hu⟩
  refine ⟨rfl, ⟨⟨t.el.name, t.el.attrs, t.el.kids ++ [n]⟩, t.va, .slice (some ⟨g, 0, none⟩) (t.el.kids.length + 1) cap'⟩, rfl, ?_, ?_⟩
  · have hsz := hu.size
    have hsame : Same (Free B w.heap.size (Mut bb ob (gs ++ [t]))) w w' := fun b hb => hu.block b hb.2.1 (fun hm => hb.2.2 (by rcases hm with rfl | hm; exact .inr (.inl rfl); exact .inr (.inr ⟨t, by simp, hm⟩)))
    have hobl := lt_of_block hcur
    have hbbl := lt_of_block h.blk
    have hgb : g ≠ bb := by rintro rfl; rcases hat with h1 | h1; exact ht.2.2.1 h1; omega
    have hgo : g ≠ ob := by rintro rfl; rcases hat with h1 | h1; exact ht.2.2.2 h1; omega
    have hnew : ∀ b, b < w.heap.size → Mut bb ob (gs ++ [⟨⟨t.el.name, t.el.attrs, t.el.kids ++ [n]⟩, t.va, .slice (some ⟨g, 0, none⟩) (t.el.kids.length + 1) cap'⟩]) b → Mut bb ob (gs ++ [t]) b := by
      rintro b hb (rfl | rfl | ⟨x, hx, hk⟩)
      · exact .inl rfl
      · exact .inr (.inl rfl)
      · rcases List.mem_append.1 hx with hx | hx
        · exact .inr (.inr ⟨x, by simp [hx], hk⟩)
        · simp at hx; subst hx
          simp [Value.ownBlock] at hk
          subst hk
          rcases hat with h1 | h1
          · exact .inr (.inr ⟨t, by simp, h1⟩)
          · omega
    have hmono := Free.new (B := B) hsz hnew
    constructor
    · rw [hu.block bb hbbl (by rintro (h1 | h1); exact h.ne h1; exact ht.2.2.1 h1), h.blk]; simp
    · exact h.hb
    · refine ⟨by rw [flat_len], .inr ⟨ob, cap, _, rfl, hBo, hob', ?_, hcm, by simpa using hcs, ?_⟩⟩
      · simpa using hnc
      · rw [Array.toList_setIfInBounds, show (gs ++ [(⟨⟨t.el.name, t.el.attrs, t.el.kids ++ [n]⟩, t.va, .slice (some ⟨g, 0, none⟩) (t.el.kids.length + 1) cap'⟩ : Gh)]).length = (gs ++ [t]).length by simp, List.take_set, htake, List.flatMap_append, List.flatMap_append]
        rw [show ((gs ++ [t]).length - 1) * 5 + 3 = (gs.flatMap Gh.cells).length + 3 by rw [flat_len]; simp, set_app _ _ _ _ _ rfl]
        simp [Gh.cells]
    · exact h.ne
    · intro x hx
      rcases List.mem_append.1 hx with hx | hx
      · have hd := h.dat x (by simp [hx])
        refine ⟨hd.1.frame hsame hmono, ?_, hd.2.2⟩
        have := hd.2.1.step (w' := w') (fun b hb => hsame b hb.1) (fun k hk => hu.block k (own_lt hd.2.1.choose_spec.1 hk).2.1 ?_) hsz
        · obtain ⟨cs, h1, h2⟩ := this
          exact ⟨cs, h1, h2.frame (Same.refl _ _) (fun b hb => ⟨hmono b hb.1, hb.2⟩)⟩
        · rintro (rfl | h1)
          · exact hd.2.2.2 hk
          · exact (List.pairwise_append.1 h.apart).2.2 x hx t (by simp) k hk h1
      · simp at hx; subst hx
        refine ⟨ht.1.frame hsame hmono, ⟨_, by simp only [List.length_append, List.length_cons, List.length_nil, Nat.zero_add]; exact hown', ?_⟩, by simpa [Value.ownBlock] using hgb, by simpa [Value.ownBlock] using hgo⟩
        have hq : ∀ b, Free B w.heap.size (Mut bb ob (gs ++ [t])) b → Free B w'.heap.size (Mut bb ob (gs ++ [⟨⟨t.el.name, t.el.attrs, t.el.kids ++ [n]⟩, t.va, .slice (some ⟨g, 0, none⟩) (t.el.kids.length + 1) cap'⟩])) b ∧ some b ≠ (Value.slice (some ⟨g, 0, none⟩) (t.el.kids.length + 1) cap').ownBlock ∧ b < w'.heap.size := fun b hb =>
          ⟨hmono b hb, fun e => by
            simp [Value.ownBlock] at e; subst e
            rcases hat with h1 | h1
            · exact hb.2.2 (.inr (.inr ⟨t, by simp, h1⟩))
            · have := hb.2.1; omega, Nat.lt_of_lt_of_le hb.2.1 hsz⟩
        exact (hcells.frame (fun b hb => hsame b hb.1) (fun b hb => hq b hb.1)).snoc (Rep.frame hsame hq (Node.mk_ hva hvk))
    · rw [List.pairwise_append]
      have hp := List.pairwise_append.1 h.apart
      refine ⟨hp.1, by simp, fun x hx y hy k hk => ?_⟩
      simp at hy; subst hy
      intro e
      simp [Value.ownBlock] at e; subst e
      rcases hat with h1 | h1
      · exact hp.2.2 x hx t (by simp) _ hk h1
      · have := (own_lt (h.dat x (by simp [hx])).2.1.choose_spec.1 hk).2.1; omega
  · exact ⟨hu.os, hu.tape, hu.output, hu.size, fun k hk => hu.block k (Nat.lt_of_lt_of_le hk hBw) (by
      rintro (rfl | h1)
      · omega
      · have := (own_lt hown h1).1; omega)⟩
end Go.Proofs.Ytidicfdcjoggpaa
