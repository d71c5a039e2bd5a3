/-
 The library's contracts in the abstract machine's words.
-/
import Derived.Test.YtfaodacmdlnabaaGreatDoorPbuild
import Derived.Test.YtfaodacmdlnabaaGreatDoorPa
import Derived.Lib.AppendIntMem
namespace Go.Proofs.YtfaodacmdlnabaaGreatDoor.M
open Go.RowKit
set_option linter.unusedVariables false
set_option linter.unusedSimpArgs false
variable {W : World} {S : Nat → Prop} {w : World}
/-- A call that leaves what stood as it was. -/
theorem below_facts {w' : World} (hw : WR W S AHeap.none w) (hbel : Below w.heap.size w w') : Ext S AHeap.none w S AHeap.none w' ∧ WR W S AHeap.none w' :=
 ⟨⟨hbel.size, fun b hb _ => hbel.block b hb, fun b m ⟨cur, E, fz, h1, h2⟩ => ⟨cur, E, fz, (hbel.block b (lt_of_some h1)).trans h1, h2⟩, fun _ h => h, fun _ h => .inl h, fun b h => absurd rfl h⟩,
  ⟨⟨hbel.os.trans hw.old.os, hbel.tape.trans hw.old.tape, hbel.output.trans hw.old.output, Nat.le_trans hw.old.size hbel.size, fun b hb => (hbel.block b (Nat.lt_of_lt_of_le hb hw.old.size)).trans (hw.old.block b hb)⟩, fun _ _ h => (by cases h), fun b h => Nat.lt_of_lt_of_le (hw.lt b h) hbel.size, fun _ _ h => (by cases h), fun _ _ h => (by cases h)⟩⟩
theorem lift {f : FuncId} {args : List AVal} {r : AVal} (h : ∀ (S : Nat → Prop) w us, WR W S AHeap.none w → VRs S w args us → ∃ rv, (Calls Tryz.prog f us w fun e w' => e = .returned rv ∧ Below w.heap.size w w') ∧ ∀ (S : Nat → Prop) w', VR S w' r rv) : ACalls Tryz.prog W f args AHeap.none fun v _ => v = r := by
 intro S w us hw hv
 obtain ⟨rv, hc, hr⟩ := h S w us hw hv
 refine hc.mono ?_
 rintro e w' ⟨rfl, hb⟩
 obtain ⟨h1, h2⟩ := below_facts hw hb
 exact ⟨_, AHeap.none, S, _, rfl, rfl, h1, h2, hr S w'⟩
theorem VR.v_eq {S : Nat → Prop} {w : World} {x u : Value} (h : VR S w (.v x) u) : u = x := by cases h; rfl
theorem VRs.of1 {S : Nat → Prop} {w : World} {x : AVal} {us : Array Value} (h : VRs S w [x] us) : ∃ u, us = #[u] ∧ VR S w x u := by
 obtain ⟨hsz, hv⟩ := h
 refine ⟨us[0]'(by rw [hsz]; simp), ?_, hv 0 (by simp) (by rw [hsz]; simp)⟩
 apply Array.ext
 ·simpa using hsz
 ·intro i h1 h2; simp at h2; subst h2; rfl
theorem VRs.of2 {S : Nat → Prop} {w : World} {x y : AVal} {us : Array Value} (h : VRs S w [x, y] us) : ∃ u v, us = #[u, v] ∧ VR S w x u ∧ VR S w y v := by
 obtain ⟨hsz, hv⟩ := h
 refine ⟨us[0]'(by rw [hsz]; simp), us[1]'(by rw [hsz]; simp), ?_, hv 0 (by simp) (by rw [hsz]; simp), hv 1 (by simp) (by rw [hsz]; simp)⟩
 apply Array.ext
 ·simpa using hsz
 ·intro i h1 h2; simp at h2; obtain rfl | rfl : i = 0 ∨ i = 1 := by omega
  ·rfl
  ·rfl
/-- What is asked of memory at the law's start. -/
structure Laid (W : World) : Prop where
 tab : Lib.TabIs Tryz.prog W "internal/strconv.uint64pow10" .u64 Lib.pow10Tab
 most : ∃ m : Int, W.cell? ⟨0, 0, none⟩ = some (.int .i64 m)
theorem Laid.tabAt (L : Laid W) {H : AHeap} (hw : WR W S H w) : Lib.TabIs Tryz.prog w "internal/strconv.uint64pow10" .u64 Lib.pow10Tab := by
 have h := L.tab
 unfold Lib.TabIs World.var? at h ⊢
 cases hg : Tryz.prog.globalNamed "internal/strconv.uint64pow10" with
 | none => rw [hg] at h; cases h
 | some g =>
  rw [hg] at h
  simp only [Option.bind_some] at h ⊢
  by_cases hlt : g < W.heap.size
  ·rw [hw.old.block g hlt]; exact h
  ·rw [Array.getElem?_eq_none (by omega)] at h; cases h
theorem Laid.mostAt (L : Laid W) {H : AHeap} (hw : WR W S H w) : ∃ m : Int, w.cell? ⟨0, 0, none⟩ = some (.int .i64 m) := by
 obtain ⟨m, hm⟩ := L.most
 have h0 : (0 : Nat) < W.heap.size := by
  rcases Nat.lt_or_ge 0 W.heap.size with h | h
  ·exact h
  ·unfold World.cell? at hm
   rw [Array.getElem?_eq_none h] at hm; cases hm
 exact ⟨m, by rw [World.cell?_of_block (hw.old.block _ h0)]; exact hm⟩
def itoaS (n : Int) : Str := ⟨(Lib.itoa n).toArray⟩
theorem itoa_ok (L : Laid W) (n : Int) (h0 : -9223372036854775808 ≤ n) (h1 : n ≤ 9223372036854775807) : ACalls Tryz.prog W 57 [.v (.int .i64 n)] AHeap.none fun v _ => v = .v (.string (itoaS n)) := by
 refine lift fun S w us hw hv => ?_
 obtain ⟨u, rfl, hu⟩ := hv.of1
 cases hu
 exact ⟨_, (Lay.strconv_Itoa n h0 h1 w (L.tabAt hw)).mono fun e w' ⟨h, k, os, hw'⟩ => ⟨h, by rw [hw']; exact Lib.below_grow _ w (Nat.le_refl _) k os⟩, fun S w' => .v _⟩
theorem below_drewN (n : Nat) (w : World) : Below w.heap.size w (w.drewN n) := ⟨rfl, rfl, rfl, Nat.le_refl _, fun _ _ => rfl⟩
def cutT (s sep : Str) : Str × Str × Bool := (⟨(Lib.cut s.data.toList sep.data.toList).1.toArray⟩, ⟨(Lib.cut s.data.toList sep.data.toList).2.1.toArray⟩, (Lib.cut s.data.toList sep.data.toList).2.2)
set_option maxRecDepth 100000 in
theorem cut_ok (L : Laid W) (s sep : Str) (hs : s.size < 4294967281) : ACalls Tryz.prog W 20 [.v (.string s), .v (.string sep)] AHeap.none fun v _ => v = .tup [.v (.string (cutT s sep).1), .v (.string (cutT s sep).2.1), .v (.bool (cutT s sep).2.2)] := by
 refine lift fun S w us hw hv => ?_
 obtain ⟨u, v, rfl, h1, h2⟩ := hv.of2
 clear hv
 obtain rfl := h1.v_eq
 obtain rfl := h2.v_eq
 obtain ⟨m, hm⟩ := L.mostAt hw
 refine ⟨.tuple #[.string (cutT s sep).1, .string (cutT s sep).2.1, .bool (cutT s sep).2.2], (Lay.strings_Cut s sep m w hs hm).mono fun e w' ⟨h, n, hw'⟩ => ⟨h, by rw [hw']; exact below_drewN n w⟩, fun S w' => ?_⟩
 clear h1 h2 hw hm
 generalize cutT s sep = q
 refine .tup (fun j => #[Value.string q.1, .string q.2.1, .bool q.2.2].getD j undef) rfl (fun j hj => ?_) (fun j hj => ?_)
 ·rcases j with _ | _ | _ | j
  ·rfl
  ·rfl
  ·rfl
  ·simp at hj; omega
 ·rcases j with _ | _ | _ | j
  ·exact .v _
  ·exact .v _
  ·exact .v _
  ·simp at hj; omega
set_option maxRecDepth 100000 in
theorem indexByte_ok (s : Str) (c : Int) : ACalls Tryz.prog W 205 [.v (.string s), .v (.int .u8 c)] AHeap.none fun v _ => v = .v (.int .i64 (Lib.indexByte s.data.toList c.toNat.toUInt8)) := by
 refine lift fun S w us hw hv => ?_
 obtain ⟨u, v, rfl, h1, h2⟩ := hv.of2
 clear hv
 obtain rfl := h1.v_eq
 obtain rfl := h2.v_eq
 exact ⟨_, (Lay.strings_IndexByte s c w).mono fun e w' ⟨h, hw'⟩ => ⟨h, by rw [hw']; exact Below.refl _ _⟩, fun S w' => .v _⟩
def joinS (ws : List Str) (sep : Str) : Str := ⟨(Lib.join (ws.map (·.data.toList)) sep.data.toList).toArray⟩
theorem join_ok {f : Bool} (ws : List Str) (sep : Str) (hn : ws.length ≤ 1000000) (hl : (joinS ws sep).size ≤ 140737488355328) : ACalls Tryz.prog W 60 [.sl f 1 (strRows ws), .v (.string sep)] AHeap.none fun v _ => v = .v (.string (joinS ws sep)) := by
 refine lift fun S w us hw hv => ?_
 obtain ⟨u, v, rfl, hu, hv⟩ := hv.of2
 cases hv
 cases hu with
 | @sl _ _ _ A c us hc hm hf hb hl1 ho hh =>
 rw [strRows_len] at hc ⊢
 rcases hb with hb | ⟨b, o, rfl, hS, hcell⟩
 ·obtain rfl : ws = [] := by simpa [strRows] using hb
  exact ⟨_, (Lay.strings_Join_none A c sep w).mono fun e w' ⟨h, hw'⟩ => ⟨h, by rw [hw']; exact Below.refl _ _⟩, fun S w' => .v _⟩
 ·refine ⟨_, Lay.strings_Join b o c ws sep w (fun j x hj => ?_) (hw.lt b hS) (by omega) hc (by simpa [joinS, ByteArray.size] using hl), fun S w' => .v _⟩
  obtain ⟨hj', rfl⟩ := List.getElem?_eq_some_iff.1 hj
  replace hj := hj'
  have h1 := hcell j 0 (by rw [strRows_len]; exact hj) (by omega)
  have h2 := hh j (by rw [strRows_len]; exact hj) 0 (by rw [hl1]; omega)
  have h3 : (strRows ws)[j]'(by rw [strRows_len]; exact hj) = [.v (.string ws[j])] := by simp [strRows, strRow]
  simp only [h3, List.getElem_cons_zero] at h2
  generalize us j 0 = u0 at h1 h2
  cases h2
  simpa using h1
/-! ### The builder -/
/-- A builder that holds so many bytes. -/
def BuildT (T : TypeId) (H : AHeap) (b : Nat) (t : Str) : Prop := ∃ p x, H b = some (.cells T [.v (.pointer p), x]) ∧ (p = none ∨ p = some ⟨b, 0, none⟩) ∧ RowO H 5 1 x (bytesOf t)
abbrev BuildH := BuildT 45
/-- A block of this type begins with a builder. -/
abbrev Bears (T : TypeId) : Prop := liesAt Tryz.prog Tryz.prog.depth T (2 / Tryz.prog.cellsOf T) 0 45 1 = true
theorem set_step {H : AHeap} (hw : WR W S H w) {b E : Nat} {cs : List AVal} (hb : H b = some (.cells E cs)) {i : Nat} (hi : i < cs.length) {x : AVal} {v : Value} (hx : VR S w x v) (ho : x.one = true) :
  Ext S H w S (H.put b (.cells E (cs.set i x))) (w.setCell ⟨b, i, none⟩ v) ∧ WR W S (H.put b (.cells E (cs.set i x))) (w.setCell ⟨b, i, none⟩ v) := by
 obtain ⟨cur, fz, h1, h2, h3, h4, h5⟩ := hw.objs _ _ hb
 obtain ⟨f1, f2, f3, f4, f5, f6⟩ := setCell_facts w b i v
 have f7 := f6 cur E fz h1
 have hwd : ∀ m, Wide w b m → Wide (w.setCell ⟨b, i, none⟩ v) b m := fun m ⟨cur2, E2, fz2, h7, h8⟩ => by
  rw [h1] at h7; cases h7
  exact ⟨_, E, fz, f7, by simpa using h8⟩
 have hq : ∀ x u, VR S w x u → VR S (w.setCell ⟨b, i, none⟩ v) x u := fun x u hv =>
  hv.keep (fun c hS => ⟨hS, f5 c (fun e => by subst e; exact hw.apart _ _ hb hS)⟩) (wide_of (fun c _ hc => f5 c hc) hwd)
 refine own_step hw f1 f2 f3 (by omega) (.inl (by simp [hb])) (fun c _ hc => f5 c hc) hwd (Sub.refl _) ⟨_, fz, f7, by simpa using h2, fun o ho => ?_, fun j hj => ?_, fun j hj hj' => ?_⟩
 ·have := h3 o (by simpa using ho)
  unfold World.frozen? at this ⊢
  rw [h1] at this
  rw [f7]; exact this
 ·by_cases e : j = i
  ·subst e; simpa using ho
  ·rw [List.getElem_set_ne (fun h => e h.symm)]; exact h4 j (by simpa using hj)
 ·by_cases e : j = i
  ·subst e
   simpa using hq _ _ hx
  ·have := hq _ _ (h5 j (by simpa using hj) (by simpa using hj'))
   have e2 : (cur.setIfInBounds i v)[j]'hj' = cur[j]'(by simpa using hj') := Array.getElem_setIfInBounds_ne (by simpa using hj') (fun h => e h.symm)
   rw [e2, List.getElem_set_ne (fun h => e h.symm)]
   exact this
theorem Ext.self {H : AHeap} (hw : WR W S H w) : Ext S H w S H w ∧ WR W S H w := ⟨Ext.refl _ _ _, hw⟩
theorem cc_ok {T : TypeId} (hT : Bears T) {H : AHeap} {b : Nat} {p : Option Addr} {x : AVal} (hb : H b = some (.cells T [.v (.pointer p), x])) (hp : p = none ∨ p = some ⟨b, 0, none⟩) :
  ACalls Tryz.prog W 31 [.v (.pointer (some ⟨b, 0, none⟩))] H fun r H' => r = .any ∧ H' = H.put b (.cells T [.v (.pointer (some ⟨b, 0, none⟩)), x]) := by
 intro S w us hw hv
 obtain ⟨u, rfl, hu⟩ := hv.of1
 cases hu
 obtain ⟨cur, fz, h1, h2, h3, h4, h5⟩ := hw.objs _ _ hb
 have hc0 : w.cell? ⟨b, 0, none⟩ = some (.pointer p) := by
  have := h5 0 (by simp) (by rw [h2]; simp)
  rw [cell_at h1]
  simp only [List.getElem_cons_zero] at this
  have h0 : 0 < cur.size := by rw [h2]; simp
  rw [Array.getElem?_eq_getElem h0]
  generalize cur[0] = c0 at this
  cases this; rfl
 rcases hp with rfl | rfl
 ·refine (cc_fresh hT b w hc0 (by simp [World.shape?, h1, h2]) (h3 0 (by rw [h2]; simp))).mono ?_
  rintro e w' ⟨rfl, rfl⟩
  obtain ⟨g1, g2⟩ := set_step hw hb (i := 0) (by simp) (.v (.pointer (some ⟨b, 0, none⟩))) rfl
  exact ⟨.any, _, S, _, ⟨rfl, rfl⟩, rfl, g1, g2, .any _⟩
 ·refine (cc_used b w hc0).mono ?_
  rintro e w' ⟨rfl, rfl⟩
  have e : H.put b (.cells T [.v (.pointer (some ⟨b, 0, none⟩)), x]) = H := by
   funext c; simp only [AHeap.put]; split
   ·rename_i h; rw [h, hb]
   ·rfl
  exact ⟨.any, _, S, _, ⟨rfl, rfl⟩, rfl, by rw [e]; exact Ext.refl _ _ _, by rw [e]; exact hw, .any _⟩
end Go.Proofs.YtfaodacmdlnabaaGreatDoor.M
