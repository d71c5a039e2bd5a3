/-
  The tree builder of package dom: text, and a tag that ends an element.
-/
import Derived.Test.YtidicfdcjoggpaaDomStart
namespace Go.Proofs.Ytidicfdcjoggpaa
open Go.RowKit
set_option linter.unusedVariables false
set_option linter.unusedSimpArgs false
attribute [local go_sem ↓] Go.wp_at_zero Go.wp_at_succ
attribute [local go_sem] World.cell?_alloc_some
def textNode (s : Str) : Node := ⟨ByteArray.empty, [], s, []⟩
def Node.more (n : Node) (s : Str) : Node := ⟨n.name, n.attrs, n.text ++ s, n.kids⟩
/-- Does what stands last in an element be a text? -/
def lastText (e : El) : Bool := match e.kids.getLast? with | some n => decide (n.name = ByteArray.empty) | none => false
/-- A text, put behind what the innermost element has. -/
def textP (s : Str) : List El → List El
  | t :: r => (if lastText t = true then ⟨t.name, t.attrs, t.kids.dropLast ++ (t.kids.getLast?.map (·.more s)).toList⟩ else t.add (textNode s)) :: r
  | [] => []
theorem text_state {w : World} {B bb ob cap g cp : Nat} {gs : List Gh} {t : Gh} {ks : List Node} {n : Node} {many : Int} {over : Bool} {s : Str} (h : BldG w B bb ob cap (gs ++ [t]) many over) (hk : t.el.kids = ks ++ [n]) (hkv : t.kv = .slice (some ⟨g, 0, none⟩) (ks.length + 1) cp) :
    BldG (w.setCell ⟨g, ks.length * 4 + 2, none⟩ (.string (n.text ++ s))) B bb ob cap (gs ++ [⟨⟨t.el.name, t.el.attrs, ks ++ [n.more s]⟩, t.va, t.kv⟩]) many over := by
  have ht := h.dat t (by simp)
  obtain ⟨cs, hown, hcells⟩ := ht.2.1
  rw [hk] at hown hcells
  rw [hkv, List.length_append, show [n].length = 1 from rfl] at hown
  have hgo : g ≠ ob := fun e => ht.2.2.2 (by rw [hkv, e]; rfl)
  have hgb : g ≠ bb := fun e => ht.2.2.1 (by rw [hkv, e]; rfl)
  have hmut : Mut bb ob (gs ++ [t]) g := .inr (.inr ⟨t, by simp, by rw [hkv]; rfl⟩)
  have hu : Upd (fun b => b = g) w (w.setCell ⟨g, ks.length * 4 + 2, none⟩ (.string (n.text ++ s))) := Upd.setCell (Upd.refl _ w) (by exact .inl rfl) _
  obtain ⟨c0, cn, rfl, hc0, hcn⟩ := hcells.last_
  have hl0 : c0.length = ks.length * 4 := hc0.len
  obtain ⟨va, vk, rfl, h1, h2⟩ := Node.open_ hcn
  have hown2 := own_store hown hl0 2 (.string (n.text ++ s))
  generalize w.setCell ⟨g, ks.length * 4 + 2, none⟩ (.string (n.text ++ s)) = w2 at *
  have hsame : Same (Free B w.heap.size (Mut bb ob (gs ++ [t]))) w w2 := fun b hb => hu.block b hb.2.1 (by rintro rfl; exact hb.2.2 hmut)
  have hMut : Mut bb ob (gs ++ [⟨⟨t.el.name, t.el.attrs, ks ++ [n.more s]⟩, t.va, t.kv⟩]) = Mut bb ob (gs ++ [t]) := by
    funext b; simp [Mut]
  have hmono : ∀ b, Free B w.heap.size (Mut bb ob (gs ++ [t])) b → Free B w2.heap.size (Mut bb ob (gs ++ [t])) b := fun b hb => ⟨hb.1, Nat.lt_of_lt_of_le hb.2.1 hu.size, hb.2.2⟩
  have hp := List.pairwise_append.1 h.apart
  constructor
  · rw [hu.block bb (lt_of_block h.blk) (Ne.symm hgb), h.blk]; simp
  · exact h.hb
  · have hr := own_upd h.row hu (by intro k hk e; simp [Value.ownBlock] at hk; exact hgo (e.symm.trans hk.symm))
    simpa [List.flatMap_append, Gh.cells] using hr
  · exact h.ne
  · intro x hx
    rw [hMut]
    rcases List.mem_append.1 hx with hx | hx
    · have hd := h.dat x (by simp [hx])
      refine ⟨hd.1.frame hsame hmono, ?_, hd.2.2⟩
      obtain ⟨cs, h1, h2⟩ := hd.2.1.step (w' := w2) (fun b hb => hsame b hb.1) (fun k hk => hu.block k (own_lt hd.2.1.choose_spec.1 hk).2.1 (by rintro rfl; exact hp.2.2 x hx t (by simp) _ hk (by rw [hkv]; rfl))) hu.size
      exact ⟨cs, h1, h2.frame (Same.refl _ _) (fun b hb => ⟨hmono b hb.1, hb.2⟩)⟩
    · simp at hx; subst hx
      refine ⟨ht.1.frame hsame hmono, ⟨_, by rw [hkv]; simpa using hown2, ?_⟩, ht.2.2⟩
      have hq : ∀ b, (Free B w.heap.size (Mut bb ob (gs ++ [t])) b ∧ some b ≠ t.kv.ownBlock ∧ b < w.heap.size) → (Free B w2.heap.size (Mut bb ob (gs ++ [t])) b ∧ some b ≠ t.kv.ownBlock ∧ b < w2.heap.size) := fun b hb => ⟨hmono b hb.1, hb.2.1, Nat.lt_of_lt_of_le hb.2.2 hu.size⟩
      have hs2 : Same (fun b => Free B w.heap.size (Mut bb ob (gs ++ [t])) b ∧ some b ≠ t.kv.ownBlock ∧ b < w.heap.size) w w2 := fun b hb => hsame b hb.1
      exact (hc0.frame hs2 hq).snoc (Node.mk_ (n := n.more s) (h1.frame hs2 hq) (h2.frame hs2 hq))
  · rw [List.pairwise_append]
    exact ⟨hp.1, by simp, fun x hx y hy k hk => by simp at hy; subst hy; exact hp.2.2 x hx t (by simp) k hk⟩
/-- The builder's state. -/
structure St where
  st : List El
  many : Int
  over : Bool
def lastSize (e : El) : Nat := match e.kids.getLast? with | some n => n.text.size | none => 0
def textS (s : Str) (st : List El) (many : Int) : St :=
  if s = ByteArray.empty then ⟨st, many, false⟩ else
  match st with
  | t :: r => if lastText t = true then ⟨textP s (t :: r), many, false⟩ else ⟨textP s (t :: r), many + 1, overP (textP s (t :: r)) (many + 1)⟩
  | [] => ⟨[], many, false⟩
def Now (w : World) (B bb : Nat) (x : St) : Prop := BldS w B bb x.st x.many x.over
theorem text_len (s : Str) (t : El) (r : List El) : (textP s (t :: r)).length = r.length + 1 := by simp [textP]
set_option maxHeartbeats 4000000 in
theorem text_any {w : World} {B bb : Nat} {t : El} {r : List El} {many : Int} (s : Str) (h : BldS w B bb (t :: r) many false) (hz : szs (t :: r) ≤ 9000) (hm : 0 ≤ many) (hm2 : many ≤ 9000) (hts : lastSize t + s.size ≤ 1000000) :
    Calls Try.prog 27 #[.pointer (some ⟨bb, 0, none⟩), .string s] w fun e w' => TupIs e ∧ Now w' B bb (textS s (t :: r) many) ∧ Below B w w' := by
  by_cases hs : s = ByteArray.empty
  · have hfin : textS s (t :: r) many = ⟨t :: r, many, false⟩ := by unfold textS; rw [if_pos hs]
    have H := Lib.hid h; have HF := Lib.hid hfin
    have e1 := str_nil hs
    clear h hfin hs
    go_enter Try.func27, Try.ntmps27
    go_wp2
    ((try simp only [Exit.inBlock, Exit.then]); refine bodyPost_ret (results_none rfl _ _ _) rfl ?_)
    exact ⟨rfl, by rw [HF.out]; exact H.out, Below.refl _ _⟩
  · have hs1 := str_some2 hs
    have hs2 := str_some hs
    obtain ⟨ob, cap, gs, hg, hgs⟩ := h
    obtain ⟨g0, gt, rfl⟩ : ∃ g0 gt, gs = g0 ++ [gt] := by
      have : gs.length ≥ 1 := by have := congrArg List.length hgs; simp at this; omega
      exact ⟨gs.dropLast, gs.getLast (by intro e; simp [e] at this), (List.dropLast_concat_getLast _).symm⟩
    simp only [List.map_append, List.map_cons, List.map_nil, List.reverse_append, List.reverse_cons, List.reverse_nil, List.nil_append, List.singleton_append, List.cons.injEq] at hgs
    obtain ⟨rfl, rfl⟩ := hgs
    have hl := len_szs (gt.el :: (List.map (fun x => x.el) g0).reverse)
    have hkl : gt.el.kids.length ≤ szs (gt.el :: (List.map (fun x => x.el) g0).reverse) := by simp [szs]; omega
    have hn1 : (g0 ++ [gt]).length ≤ 10000 := by simp at hl ⊢; omega
    obtain ⟨N, hN⟩ : ∃ N, N = g0.length := ⟨_, rfl⟩
    obtain ⟨cur, hcur, hBo, hnc, hcm, hcs, htake⟩ := hg.cur
    have hN1 : (g0 ++ [gt]).length = N + 1 := by rw [hN]; simp
    have hN2 : N ≤ 10000 := by omega
    have hblk := hg.blk
    rw [hN1] at hblk
    have b0 : w.cell? ⟨bb, 0, none⟩ = some (.slice (some ⟨ob, 0, none⟩) (N + 1) cap) := by rw [cell_of_row w bb _ _ _ _ hblk]; rfl
    have o3 : w.cell? ⟨ob, N * 5 + 3, none⟩ = some gt.kv := by rw [cell_of_row w ob _ _ _ _ hcur, hN]; exact hg.get htake (i := g0.length) (by simp) (by simp [Gh.cells])
    have ht := hg.dat gt (by simp)
    have HG := Lib.hid hg
    have HT := Lib.hid ht
    have HNE := Lib.hid hN
    have hput : ∀ W, Upd None w W → lastText gt.el = false → Calls Try.prog 37 #[.pointer (some ⟨bb, 0, none⟩), .agg #[.string ByteArray.empty, .slice none 0 0, .string s, .slice none 0 0]] W fun e w' => TupIs e ∧ BldS w' B bb (textP s (gt.el :: (List.map (fun x => x.el) g0).reverse)) many false ∧ Below B W w' := fun W hW hlt => by
      have := put_st (w0 := W) (w := W) (B := B) (bb := bb) ((show BldS w B bb (gt.el :: (List.map (fun x => x.el) g0).reverse) many false from ⟨ob, cap, _, HG.out, by simp⟩).keep hW) (Upd.refl _ _) (by omega) (textNode s) _ (Node.mk_ (n := textNode s) (va := .slice none 0 0) (vk := .slice none 0 0) (SliceIs.nil _ _) (SliceIs.nil _ _))
      have e : textP s (gt.el :: (List.map (fun x => x.el) g0).reverse) = gt.el.add (textNode s) :: (List.map (fun x => x.el) g0).reverse := by simp [textP, hlt]
      rw [e]; exact this
    have HP := Lib.hid hput
    clear hg ht htake hcs hcm hnc hblk hput hN1 hN hn1 hcur hs
    have hq1 : 0 < (textP s (gt.el :: (List.map (fun x => x.el) g0).reverse)).length := by rw [text_len]; omega
    have hq2 : (textP s (gt.el :: (List.map (fun x => x.el) g0).reverse)).length ≤ 10000 := by rw [text_len]; simp at hl ⊢; omega
    have hlast : gt.el.kids = [] ∨ ∃ ks n, gt.el.kids = ks ++ [n] := by
      rcases List.eq_nil_or_concat gt.el.kids with h | ⟨l, x, h⟩
      · exact .inl h
      · exact .inr ⟨l, x, by simpa using h⟩
    have hb1 : Hid (B ≤ w.heap.size) := Nat.le_trans HG.out.hb (Nat.le_of_lt (lt_of_block HG.out.blk))
    rcases hlast with hk0 | ⟨ks, n, hk⟩
    · -- nothing stands there yet
      have hlt : lastText gt.el = false := by simp [lastText, hk0]
      have hfin : textS s (gt.el :: (List.map (fun x => x.el) g0).reverse) many = ⟨textP s (gt.el :: (List.map (fun x => x.el) g0).reverse), many + 1, overP (textP s (gt.el :: (List.map (fun x => x.el) g0).reverse)) (many + 1)⟩ := by unfold textS; rw [if_neg (by intro e; rw [str_nil e] at hs2; cases hs2)]; simp [hlt]
      obtain ⟨A, cp, hkv⟩ := own_slice HT.out.2.1.choose_spec.1
      rw [hk0] at hkv
      rw [hkv] at o3
      have HF := Lib.hid hfin
      have HL := Lib.hid hlt
      clear hfin hlt hk0 hkv
      go_enter Try.func27, Try.ntmps27
      go_wp2_with (go_at_call 36; refine (last_any bb ob (N + 1) cap _ b0 (by omega) (by omega)).mono ?_; rintro e w' ⟨k, rfl, rfl⟩)
      refine (HP.out _ (by repeat (first | with_reducible exact Upd.refl _ _ | (with_reducible refine Upd.drewN ?_ _) | (with_reducible refine Upd.drew ?_) | (with_reducible refine Upd.alloc ?_ _))) HL.out).mono ?_
      rintro e w1 ⟨rfl, h1, hB1⟩
      have H1 := Lib.hid h1; have HB1 := Lib.hid hB1
      clear h1 hB1
      go_wp2_with (go_at_call 38; refine (count_st H1.out hq1 hq2 hm (by omega)).mono ?_; rintro e w2 ⟨rfl, h2, hB2⟩; have H2 := Lib.hid h2; have HB2 := Lib.hid hB2; clear h2 hB2)
      go_end0
      exact ⟨rfl, by rw [HF.out]; exact H2.out, ((Below.refl B w).trans (((Upd.refl None w).mono (N := fun b => B ≤ b) (fun _ _ h => h.elim)).drewN _ |>.belowB hb1)).trans (HB1.out.trans HB2.out)⟩
    · obtain ⟨g, cp, hkv⟩ : ∃ g cp, gt.kv = .slice (some ⟨g, 0, none⟩) (ks.length + 1) cp := by
        obtain ⟨g, cp, e, _⟩ := HT.out.2.1.choose_spec.1.form (by rw [hk]; simp)
        exact ⟨g, cp, by rw [e, hk]; simp⟩
      have hsl := HT.out.2.1.slice
      rw [hk, hkv] at hsl
      obtain ⟨b', o', c', cn, e, -, -, -, hn, hcell⟩ := hsl.at_ (i := ks.length) (by simp)
      simp only [Value.slice.injEq, Option.some.injEq, Addr.mk.injEq, and_true] at e
      obtain ⟨⟨rfl, rfl⟩, -, rfl⟩ := e
      rw [List.getElem_concat_length rfl] at hn
      obtain ⟨va, vk, rfl, -, -⟩ := Node.open_ hn
      have x0 : w.cell? ⟨g, ks.length * 4, none⟩ = some (.string n.name) := by have := hcell 0 _ rfl; simpa [Rep.sz] using this
      have x2 : w.cell? ⟨g, ks.length * 4 + 2, none⟩ = some (.string n.text) := by have := hcell 2 _ rfl; simpa [Rep.sz] using this
      have hgl : g < w.heap.size := lt_of_cell x0
      have hf : w.frozen? ⟨g, ks.length * 4 + 2, none⟩ = false := by
        obtain ⟨_, _, cu, hcu⟩ := own_lt HT.out.2.1.choose_spec.1 (k := g) (by rw [hkv]; rfl)
        exact frozen_of_row _ _ _ _ _ hcu
      have hK1 : (0 : Int) ≤ (ks.length : Int) := by omega
      have hK2 : (ks.length : Int) < (ks.length : Int) + 1 := by omega
      have hK3 : ks.length ≤ 9000 := by rw [hk] at hkl; simp at hkl; omega
      rw [hkv] at o3
      by_cases hnm : n.name = ByteArray.empty
      · have hlt : lastText gt.el = true := by simp [lastText, hk, hnm]
        have hfin : textS s (gt.el :: (List.map (fun x => x.el) g0).reverse) many = ⟨textP s (gt.el :: (List.map (fun x => x.el) g0).reverse), many, false⟩ := by unfold textS; rw [if_neg (by intro e; rw [str_nil e] at hs2; cases hs2)]; simp [hlt]
        have hp : textP s (gt.el :: (List.map (fun x => x.el) g0).reverse) = ⟨gt.el.name, gt.el.attrs, ks ++ [n.more s]⟩ :: (List.map (fun x => x.el) g0).reverse := by simp [textP, hlt, hk]
        have hn1 := str_nil hnm
        have hts1 : n.text.size + s.size ≤ 1000000 := by simpa [lastSize, hk] using hts
        clear hts
        have HF := Lib.hid hfin; have HPP := Lib.hid hp; have HK := Lib.hid hk; have HKV := Lib.hid hkv
        clear hfin hlt hk hkv hnm hp hn hcell hsl hkl
        go_enter Try.func27, Try.ntmps27
        go_wp2_with (go_at_call 36; refine (last_any bb ob (N + 1) cap _ b0 (by omega) (by omega)).mono ?_; rintro e w' ⟨k, rfl, rfl⟩)
        ((try simp only [Exit.inBlock, Exit.then]); refine bodyPost_ret (results_none rfl _ _ _) rfl ?_)
        have hx := text_state (s := s) HG.out HK.out HKV.out
        have hbl : Below B w (w.setCell ⟨g, ks.length * 4 + 2, none⟩ (.string (n.text ++ s))) := Below.setCell (Below.refl _ _) (p := ⟨g, _, none⟩) (own_lt HT.out.2.1.choose_spec.1 (k := g) (by rw [HKV.out]; rfl)).1 _
        refine ⟨rfl, ?_, hbl.trans (((Upd.refl None _).mono (N := fun b => B ≤ b) (fun _ _ h => h.elim)).drewN _ |>.belowB (Nat.le_trans hb1.out (by simp)))⟩
        rw [HF.out]
        unfold Now
        simp only
        rw [HPP.out]
        exact BldS.keep ⟨ob, cap, _, hx, by simp⟩ (by repeat (first | with_reducible exact Upd.refl _ _ | (with_reducible refine Upd.drewN ?_ _) | (with_reducible refine Upd.drew ?_) | (with_reducible refine Upd.alloc ?_ _)))
      · have hlt : lastText gt.el = false := by simp [lastText, hk, hnm]
        have hfin : textS s (gt.el :: (List.map (fun x => x.el) g0).reverse) many = ⟨textP s (gt.el :: (List.map (fun x => x.el) g0).reverse), many + 1, overP (textP s (gt.el :: (List.map (fun x => x.el) g0).reverse)) (many + 1)⟩ := by unfold textS; rw [if_neg (by intro e; rw [str_nil e] at hs2; cases hs2)]; simp [hlt]
        have hn1 := str_some2 hnm
        have hn2 := str_some hnm
        have HF := Lib.hid hfin
        have HL := Lib.hid hlt
        clear hfin hlt hk hkv hnm hn hcell hsl hkl hts
        go_enter Try.func27, Try.ntmps27
        go_wp2_with (go_at_call 36; refine (last_any bb ob (N + 1) cap _ b0 (by omega) (by omega)).mono ?_; rintro e w' ⟨k, rfl, rfl⟩)
        refine (HP.out _ (by repeat (first | with_reducible exact Upd.refl _ _ | (with_reducible refine Upd.drewN ?_ _) | (with_reducible refine Upd.drew ?_) | (with_reducible refine Upd.alloc ?_ _))) HL.out).mono ?_
        rintro e w1 ⟨rfl, h1, hB1⟩
        have H1 := Lib.hid h1; have HB1 := Lib.hid hB1
        clear h1 hB1
        go_wp2_with (go_at_call 38; refine (count_st H1.out hq1 hq2 hm (by omega)).mono ?_; rintro e w2 ⟨rfl, h2, hB2⟩; have H2 := Lib.hid h2; have HB2 := Lib.hid hB2; clear h2 hB2)
        go_end0
        exact ⟨rfl, by rw [HF.out]; exact H2.out, ((Below.refl B w).trans (((Upd.refl None w).mono (N := fun b => B ≤ b) (fun _ _ h => h.elim)).drewN _ |>.belowB hb1)).trans (HB1.out.trans HB2.out)⟩
end Go.Proofs.Ytidicfdcjoggpaa
