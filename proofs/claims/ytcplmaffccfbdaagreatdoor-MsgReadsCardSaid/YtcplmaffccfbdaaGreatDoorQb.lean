/-
  A message's text: the writer, the layer's message, Encode: walked.
-/
import Derived.Test.YtcplmaffccfbdaaGreatDoorQa
namespace Go.Proofs.YtcplmaffccfbdaaGreatDoor.M
open Go.RowKit
attribute [local go_sem] stk_nil stk_skip stk_ops stk_seq stk_block stk_scope stk_exit stk_ret stk_code_exit stk_code_ret stk_ops_exit stk_ops_ret stk_endb stk_endb_exit stk_endb_ret stk_endl stk_endl_exit stk_endl_ret stk_ops_nil stk_q stk_niq niqA flip srcOf stk_bsl side val bside bval uside uval cside cval bndS bndV intA isInt lside lval fside fval faside faval iside ival sxside sxval sizeA slside slval llside llval lenside lenval lenA tupA mmside mmval nkside boolA isBool ev_t ev_c tget put_s put_n lkside lkval menval stk_mk Option.isSome_some isMapA mapA keyA FZ_rfl FZ_any retOf true_and and_true if_true if_false decide_true decide_false Bool.not_true Bool.not_false Nat.zero_add List.map_cons List.map_nil Int.toNat_natCast strRows_len intRows_len List.getD_cons_zero List.getD_cons_succ List.length_cons List.length_nil List.forall_mem_cons List.not_mem_nil false_implies implies_true Int.ofNat_zero Int.natCast_add Int.natCast_one Int.ofNat_one Int.natCast_zero isB isU Bool.false_eq_true beq_self_eq_true Bool.false_beq Bool.true_beq Int.natCast_nonneg undef strRows_take strRows_drop Int.toNat_zero List.drop_zero Bool.and_true oneOr List.all_cons List.all_nil AVal.one Value.oneCell' Bool.true_and List.take_length stk_st' stside stH hp_self hp_hp isnside isnval
set_option linter.unusedVariables false
set_option linter.unusedSimpArgs false
/-! ### Fields -/
def colonS : Str := ⟨#[58]⟩
def commaS : Str := ⟨#[44]⟩
def fieldS (s : Str) : Str := ((itoaS (s.size : Int) ++ colonS : Str) ++ s : Str) ++ commaS
def catF (l : List Str) : Str := l.foldl (fun t s => t ++ fieldS s) ByteArray.empty
theorem catF_snoc (l : List Str) (x : Str) : catF (l ++ [x]) = catF l ++ fieldS x := by simp [catF]
def catR : List Str → Str
  | [] => ByteArray.empty
  | x :: l => fieldS x ++ catR l
theorem catF_eq (l : List Str) : catF l = catR l := by
  have key : ∀ (l : List Str) (t : Str), l.foldl (fun t s => t ++ fieldS s) t = t ++ catR l := by
    intro l
    induction l with
    | nil => intro t; show t = t ++ ByteArray.empty; rw [ByteArray.append_empty]
    | cons x l ih => intro t; rw [List.foldl_cons, ih, ByteArray.append_assoc]; rfl
  unfold catF
  rw [key, ByteArray.empty_append]
theorem fieldS_size {s : Str} (h : s.size ≤ 1000000) : (fieldS s).size ≤ s.size + 1000003 := by
  have h1 := itoaS_size (n := (s.size : Int)) (by omega) (by omega)
  unfold fieldS
  rw [ByteArray.size_append, ByteArray.size_append, ByteArray.size_append, show colonS.size = 1 from rfl, show commaS.size = 1 from rfl]
  omega
theorem fieldS_pos (s : Str) : 1 ≤ (fieldS s).size := by
  unfold fieldS
  rw [ByteArray.size_append, show commaS.size = 1 from rfl]; omega
theorem catF_size : ∀ (l : List Str), (∀ s ∈ l, s.size ≤ 1000000) → (catF l).size ≤ l.length * 2000003 := by
  intro l
  rw [catF_eq]
  induction l with
  | nil => intro _; show ByteArray.empty.size ≤ _; simp
  | cons x l ih =>
    intro h
    have h1 := ih (fun s hs => h s (by simp [hs]))
    have h2 := fieldS_size (h x (by simp))
    have h3 := h x (by simp)
    show (fieldS x ++ catR l : Str).size ≤ _
    rw [ByteArray.size_append, List.length_cons, Nat.succ_mul]
    omega
def flatP : List (Str × Str) → List Str
  | [] => []
  | p :: l => p.1 :: p.2 :: flatP l
theorem flatP_snoc : ∀ (l : List (Str × Str)) (p : Str × Str), flatP (l ++ [p]) = flatP l ++ [p.1, p.2]
  | [], p => rfl
  | q :: l, p => by
    show q.1 :: q.2 :: flatP (l ++ [p]) = _
    rw [flatP_snoc l p]; rfl
theorem flatP_len : ∀ (l : List (Str × Str)), (flatP l).length = 2 * l.length
  | [] => rfl
  | q :: l => by
    show (flatP l).length + 1 + 1 = 2 * (l.length + 1)
    rw [flatP_len l]; omega
theorem flatP_mem : ∀ (l : List (Str × Str)) (s : Str), s ∈ flatP l → ∃ p ∈ l, s = p.1 ∨ s = p.2
  | [], s, h => by cases h
  | q :: l, s, h => by
    rcases List.mem_cons.1 h with rfl | h
    · exact ⟨q, by simp, .inl rfl⟩
    rcases List.mem_cons.1 h with rfl | h
    · exact ⟨q, by simp, .inr rfl⟩
    · obtain ⟨p, hp, e⟩ := flatP_mem l s h
      exact ⟨p, by simp [hp], e⟩
def nums4 (m : Msg) : List Int := [m.kind, m.frm, m.dst, m.epoch]
def numsM (m : Msg) : List Str := (nums4 m).map itoaS
def restM (m : Msg) : List Str :=
  if m.kind = 1 then itoaS (m.ids.length : Int) :: m.ids
  else if m.kind = 2 then itoaS (m.posts.length : Int) :: flatP m.posts
  else if m.kind = 3 then [textP m.pol]
  else []
def msgT (m : Msg) : Str := catF (numsM m ++ restM m)
theorem msgT_ne (m : Msg) : msgT m ≠ ByteArray.empty := fun h => by
  have h1 : msgT m = fieldS (itoaS m.kind) ++ catR ((numsM m).drop 1 ++ restM m) := by unfold msgT; rw [catF_eq]; rfl
  rw [h1] at h
  have h2 := congrArg ByteArray.size h
  have h3 := fieldS_pos (itoaS m.kind)
  rw [ByteArray.size_append] at h2
  have h4 : ByteArray.empty.size = 0 := rfl
  omega
/-! ### What a message that may be is -/
structure RightF (m : Msg) : Prop where
  frm : 0 ≤ m.frm ∧ m.frm ≤ 5
  dst : 0 ≤ m.dst ∧ m.dst ≤ 5
  ne : m.frm ≠ m.dst
  epoch : 0 ≤ m.epoch ∧ m.epoch ≤ 1000000
  kind : m.kind = 1 ∨ m.kind = 2 ∨ m.kind = 3 ∨ m.kind = 4
  ids : m.ids.length ≤ 64 ∧ ∀ s ∈ m.ids, s.size ≤ 16
  posts : m.posts.length ≤ 64 ∧ ∀ p ∈ m.posts, p.1.size ≤ 16 ∧ p.2.size ≤ 2000
  ids0 : m.kind ≠ 1 → m.ids = []
  posts0 : m.kind ≠ 2 → m.posts = []
  pol0 : m.kind ≠ 3 → m.pol = pol0
  pol : m.kind = 3 → rightP m.pol = true
theorem riseIds_size : ∀ (l : List Str) (a : Str), riseIds a l = true → ∀ s ∈ l, s.size ≤ 16
  | [], a, _, s, hs => by cases hs
  | x :: l, a, h, s, hs => by
    unfold riseIds stepS at h
    simp only [Bool.and_eq_true, decide_eq_true_eq] at h
    rcases List.mem_cons.1 hs with rfl | hs
    · have := h.1.2; omega
    · exact riseIds_size l x h.2 s hs
theorem risePosts_size : ∀ (l : List (Str × Str)) (a : Str), risePosts a l = true → ∀ p ∈ l, p.1.size ≤ 16 ∧ p.2.size ≤ 2000
  | [], a, _, s, hs => by cases hs
  | x :: l, a, h, s, hs => by
    unfold risePosts stepS at h
    simp only [Bool.and_eq_true, decide_eq_true_eq] at h
    rcases List.mem_cons.1 hs with rfl | hs
    · have h1 := h.1.1.2; have h2 := h.1.2; omega
    · exact risePosts_size l x.1 h.2 s hs
theorem rightM_facts {m : Msg} (h : rightM m = true) : RightF m := by
  unfold rightM at h
  split at h
  · cases h
  rename_i h1
  split at h
  · cases h
  rename_i h2
  simp only [not_or, not_and, Decidable.not_not] at h1 h2
  obtain ⟨a1, a2, a3, a4, a5⟩ := h1
  obtain ⟨b1, b2, b3⟩ := h2
  have i0 : m.kind ≠ 1 → m.ids = [] := fun hk => List.length_eq_zero_iff.1 (by have := b1 hk; omega)
  have p0 : m.kind ≠ 2 → m.posts = [] := fun hk => List.length_eq_zero_iff.1 (by have := b2 hk; omega)
  have hk : m.kind = 1 ∨ m.kind = 2 ∨ m.kind = 3 ∨ m.kind = 4 := by
    split at h
    · rename_i e; exact .inl e
    split at h
    · rename_i e; exact .inr (.inl e)
    split at h
    · rename_i e; exact .inr (.inr (.inl e))
    · exact .inr (.inr (.inr (of_decide_eq_true h)))
  refine ⟨by omega, by omega, a3, by omega, hk, ?_, ?_, i0, p0, b3, ?_⟩
  · by_cases e : m.kind = 1
    · rw [if_pos e] at h
      simp only [Bool.and_eq_true, decide_eq_true_eq] at h
      exact ⟨h.2, riseIds_size _ _ h.1⟩
    · rw [i0 e]; exact ⟨by simp, fun s hs => by cases hs⟩
  · by_cases e : m.kind = 2
    · rw [if_neg (by omega), if_pos e] at h
      simp only [Bool.and_eq_true, decide_eq_true_eq] at h
      exact ⟨h.2.1, risePosts_size _ _ h.1⟩
    · rw [p0 e]; exact ⟨by simp, fun s hs => by cases hs⟩
  · intro e
    rw [if_neg (by omega), if_neg (by omega), if_pos e] at h
    simp only [Bool.and_eq_true] at h
    exact h.1
/-! ### The writer -/
abbrev TL : TypeId := 48
theorem layer_bears : Bears TL := by unfold Bears; kernel_rfl
def c_wtext : AFn := ⟨2, 15, [],
  .ops [⟨(some 4), none, .q (.mv (.tmp 0))⟩,
      ⟨(some 5), none, .q (.nck (.tmp 4))⟩,
      ⟨(some 6), none, .q (.fad 0 2 (.tmp 5))⟩,
      ⟨(some 7), none, .q (.mv (.tmp 1))⟩,
      ⟨(some 8), none, .q (.len true (.tmp 7))⟩,
      ⟨(some 11), none, .q (.mv (.tmp 1))⟩,
      ⟨(some 9), none, .e (.call 60 [(.tmp 8)])⟩,
      ⟨(some 10), none, .q (.bin .add .num (.tmp 9) (.const (.string ⟨#[58]⟩)))⟩,
      ⟨(some 12), none, .q (.bin .add .num (.tmp 10) (.tmp 11))⟩,
      ⟨(some 13), none, .q (.bin .add .num (.tmp 12) (.const (.string ⟨#[44]⟩)))⟩,
      ⟨(some 14), none, .e (.call 61 [(.tmp 6), (.tmp 13)])⟩], []⟩
theorem k_wtext : compF Tryz.prog 35 = some c_wtext := by kernel_rfl
set_option maxHeartbeats 2000000 in
theorem wtext_ok {W : World} (L : Laid W) {H : AHeap} {b : Nat} {t : Str} (s : Str) (hB : BuildT TL H b t) (hs : s.size ≤ 1000000) (ht : t.size ≤ 1000000000) :
    ACalls Tryz.prog W 35 [.v (.pointer (some ⟨b, 0, none⟩)), .v (.string s)] H fun _ H' => BuildT TL H' b (t ++ fieldS s) := by
  refine fn_run follows k_wtext rfl ?_
  simp only [c_wtext, aretC_nil, List.zipIdx_cons, List.zipIdx_nil, List.map_cons, List.map_nil, Nat.zero_add]
  (try simp +decide (implicitDefEqProofs := false) only [go_sem, ↓stk_g, ↓stk_c, ↓reduceIte])
  refine stk_pure (itoa_ok L (s.size : Int) (by omega) (by omega)) fun v hv => ?_
  subst hv
  have h1 := itoaS_size (n := (s.size : Int)) (by omega) (by omega)
  have h2 : (⟨#[58]⟩ : ByteArray).size = 1 := rfl
  have h3 : (⟨#[44]⟩ : ByteArray).size = 1 := rfl
  have s1 : (itoaS (s.size : Int)).size + 1 ≤ 9223372036854775807 := by omega
  have s2 : (itoaS (s.size : Int)).size + 1 + s.size ≤ 9223372036854775807 := by omega
  have s3 : (itoaS (s.size : Int)).size + 1 + s.size + 1 ≤ 9223372036854775807 := by omega
  (try simp +decide (implicitDefEqProofs := false) only [go_sem, ↓stk_g, ↓stk_c, ↓reduceIte, ByteArray.size_append, h2, h3, s1, s2, s3])
  have hf := fieldS_size hs
  refine stk_call (writeT_ok (s := fieldS s) layer_bears hB (by omega)) fun v H' hB' => ?_
  (try simp +decide (implicitDefEqProofs := false) only [go_sem, ↓stk_g, ↓stk_c, ↓reduceIte])
  exact ⟨.inl rfl, _, .any, Sub.refl _, .any _, hB'⟩
def c_wnumber : AFn := ⟨2, 8, [],
  .ops [⟨(some 4), none, .q (.mv (.tmp 0))⟩,
      ⟨(some 5), none, .q (.mv (.tmp 1))⟩,
      ⟨(some 6), none, .e (.call 60 [(.tmp 5)])⟩,
      ⟨(some 7), none, .e (.call 35 [(.tmp 4), (.tmp 6)])⟩], []⟩
theorem k_wnumber : compF Tryz.prog 34 = some c_wnumber := by kernel_rfl
set_option maxHeartbeats 2000000 in
theorem wnumber_ok {W : World} (L : Laid W) {H : AHeap} {b : Nat} {t : Str} (n : Int) (h0 : 0 ≤ n) (h1 : n ≤ 1000000) (hB : BuildT TL H b t) (ht : t.size ≤ 1000000000) :
    ACalls Tryz.prog W 34 [.v (.pointer (some ⟨b, 0, none⟩)), .v (.int .i64 n)] H fun _ H' => BuildT TL H' b (t ++ fieldS (itoaS n)) := by
  refine fn_run follows k_wnumber rfl ?_
  simp only [c_wnumber, aretC_nil, List.zipIdx_cons, List.zipIdx_nil, List.map_cons, List.map_nil, Nat.zero_add]
  (try simp +decide (implicitDefEqProofs := false) only [go_sem, ↓stk_g, ↓stk_c, ↓reduceIte])
  refine stk_pure (itoa_ok L n (by omega) (by omega)) fun v hv => ?_
  subst hv
  have hn := itoaS_size h0 h1
  have hn2 := itoa_len n h0 h1
  (try simp +decide (implicitDefEqProofs := false) only [go_sem, ↓stk_g, ↓stk_c, ↓reduceIte])
  refine stk_call (wtext_ok L (itoaS n) hB (by omega) ht) fun v H' hB' => ?_
  (try simp +decide (implicitDefEqProofs := false) only [go_sem, ↓stk_g, ↓stk_c, ↓reduceIte])
  exact ⟨.inl rfl, _, .any, Sub.refl _, .any _, hB'⟩
theorem sub_fresh {H : AHeap} {b : Nat} {o : AObj} (h : H b = none) : Sub H (H.put b o) := fun c x hc => by
  rw [hp_ne]; exact hc
  intro e; rw [e, h] at hc; cases hc
theorem take_map_succ {l : List Int} {i : Nat} (h : i < l.length) : (l.map itoaS).take (i + 1) = (l.map itoaS).take i ++ [itoaS (l.getD i 0)] := by
  rw [List.take_succ_eq_append_getElem (by simpa using h)]
  simp [h]
theorem num_size {m : Msg} (R : RightF m) : ∀ n ∈ nums4 m, 0 ≤ n ∧ n ≤ 1000000 := by
  intro n hn
  have := R.frm; have := R.dst; have := R.epoch; have := R.kind
  simp only [nums4, List.mem_cons, List.not_mem_nil, or_false] at hn
  rcases hn with rfl | rfl | rfl | rfl <;> omega
theorem numsM_size {m : Msg} (R : RightF m) : ∀ s ∈ numsM m, s.size ≤ 7 := by
  intro s hs
  obtain ⟨n, hn, rfl⟩ := List.mem_map.1 hs
  obtain ⟨h0, h1⟩ := num_size R n hn
  exact itoa_len n h0 h1
theorem part_size {m : Msg} (R : RightF m) {l : List Str} (hl : l.length ≤ 200) (h : ∀ s ∈ l, s.size ≤ 1000000) : (catF (numsM m ++ l)).size ≤ 1000000000 := by
  have h1 := catF_size (numsM m ++ l) (fun s hs => by
    rcases List.mem_append.1 hs with hs | hs
    · have := numsM_size R s hs; omega
    · exact h s hs)
  rw [List.length_append, show (numsM m).length = 4 from rfl] at h1
  omega
def c_message : AFn := ⟨2, 98, [],
  .seq (.ops [⟨(some 3), none, .e (.box 27 (.tmp 1))⟩])
  (.seq (.seq (.ops [⟨(some 12), none, .q (.fad 0 1 (.tmp 3))⟩,
      ⟨(some 13), none, .q (.ld false 1 (.tmp 12))⟩,
      ⟨(some 14), none, .q (.fad 1 1 (.tmp 3))⟩,
      ⟨(some 15), none, .q (.ld false 1 (.tmp 14))⟩,
      ⟨(some 16), none, .q (.fad 2 1 (.tmp 3))⟩,
      ⟨(some 17), none, .q (.ld false 1 (.tmp 16))⟩,
      ⟨(some 18), none, .q (.fad 3 1 (.tmp 3))⟩,
      ⟨(some 19), none, .q (.ld false 1 (.tmp 18))⟩,
      ⟨(some 20), none, .e (.bsl 3 1 [(.tmp 13), (.tmp 15), (.tmp 17), (.tmp 19)])⟩,
      ⟨(some 21), none, .q (.len false (.tmp 20))⟩,
      ⟨(some 22), none, .q (.mv (.const (.int .i64 0)))⟩])
  (.block 0 (.loop (.seq (.ops [⟨(some 23), none, .q (.bin .lss .num (.tmp 22) (.tmp 21))⟩])
      (.seq (.cond (.tmp 23)
        (.skip)
        (.exit 0))
      (.seq (.block 1 (.seq (.ops [⟨(some 24), none, .q (.ixa 1 (.tmp 20) (.tmp 22))⟩,
            ⟨(some 25), none, .q (.ld false 1 (.tmp 24))⟩,
            ⟨(some 5), none, .q (.mv (.tmp 25))⟩])
        (.ops [⟨(some 26), none, .q (.mv (.tmp 0))⟩,
            ⟨(some 27), none, .q (.nck (.tmp 26))⟩,
            ⟨(some 28), none, .q (.fad 0 2 (.tmp 27))⟩,
            ⟨(some 29), none, .q (.mv (.tmp 5))⟩,
            ⟨(some 30), none, .e (.call 34 [(.tmp 28), (.tmp 29)])⟩])))
      (.ops [⟨(some 31), none, .q (.bin .add .num (.tmp 22) (.const (.int .i64 1)))⟩,
          ⟨(some 22), none, .q (.mv (.tmp 31))⟩])))))))
  (.seq (.ops [⟨(some 32), none, .q (.fad 0 1 (.tmp 3))⟩,
      ⟨(some 33), none, .q (.ld false 1 (.tmp 32))⟩])
  (.block 2 (.seq (.ops [⟨(some 35), none, .q (.bin .eql .num (.tmp 33) (.const (.int .i64 1)))⟩,
        ⟨(some 34), none, .q (.mv (.tmp 35))⟩])
    (.cond (.tmp 34)
      (.seq (.ops [⟨(some 36), none, .q (.mv (.tmp 0))⟩,
          ⟨(some 37), none, .q (.nck (.tmp 36))⟩,
          ⟨(some 38), none, .q (.fad 0 2 (.tmp 37))⟩,
          ⟨(some 39), none, .q (.fad 4 1 (.tmp 3))⟩,
          ⟨(some 40), none, .q (.ld false 1 (.tmp 39))⟩,
          ⟨(some 41), none, .q (.len false (.tmp 40))⟩,
          ⟨(some 42), none, .e (.call 34 [(.tmp 38), (.tmp 41)])⟩])
      (.seq (.ops [⟨(some 43), none, .q (.fad 4 1 (.tmp 3))⟩,
          ⟨(some 44), none, .q (.ld false 1 (.tmp 43))⟩,
          ⟨(some 45), none, .q (.len false (.tmp 44))⟩,
          ⟨(some 46), none, .q (.mv (.const (.int .i64 0)))⟩])
      (.block 3 (.loop (.seq (.ops [⟨(some 47), none, .q (.bin .lss .num (.tmp 46) (.tmp 45))⟩])
          (.seq (.cond (.tmp 47)
            (.skip)
            (.exit 3))
          (.seq (.block 4 (.seq (.ops [⟨(some 48), none, .q (.ixa 1 (.tmp 44) (.tmp 46))⟩,
                ⟨(some 49), none, .q (.ld false 1 (.tmp 48))⟩,
                ⟨(some 7), none, .q (.mv (.tmp 49))⟩])
            (.ops [⟨(some 50), none, .q (.mv (.tmp 0))⟩,
                ⟨(some 51), none, .q (.nck (.tmp 50))⟩,
                ⟨(some 52), none, .q (.fad 0 2 (.tmp 51))⟩,
                ⟨(some 53), none, .q (.mv (.tmp 7))⟩,
                ⟨(some 54), none, .e (.call 35 [(.tmp 52), (.tmp 53)])⟩])))
          (.ops [⟨(some 55), none, .q (.bin .add .num (.tmp 46) (.const (.int .i64 1)))⟩,
              ⟨(some 46), none, .q (.mv (.tmp 55))⟩]))))))))
      (.seq (.ops [⟨(some 57), none, .q (.bin .eql .num (.tmp 33) (.const (.int .i64 2)))⟩,
          ⟨(some 56), none, .q (.mv (.tmp 57))⟩])
      (.cond (.tmp 56)
        (.seq (.ops [⟨(some 58), none, .q (.mv (.tmp 0))⟩,
            ⟨(some 59), none, .q (.nck (.tmp 58))⟩,
            ⟨(some 60), none, .q (.fad 0 2 (.tmp 59))⟩,
            ⟨(some 61), none, .q (.fad 5 1 (.tmp 3))⟩,
            ⟨(some 62), none, .q (.ld false 1 (.tmp 61))⟩,
            ⟨(some 63), none, .q (.len false (.tmp 62))⟩,
            ⟨(some 64), none, .e (.call 34 [(.tmp 60), (.tmp 63)])⟩])
        (.seq (.ops [⟨(some 65), none, .q (.fad 5 1 (.tmp 3))⟩,
            ⟨(some 66), none, .q (.ld false 1 (.tmp 65))⟩,
            ⟨(some 67), none, .q (.len false (.tmp 66))⟩,
            ⟨(some 68), none, .q (.mv (.const (.int .i64 0)))⟩])
        (.block 5 (.loop (.seq (.ops [⟨(some 69), none, .q (.bin .lss .num (.tmp 68) (.tmp 67))⟩])
            (.seq (.cond (.tmp 69)
              (.skip)
              (.exit 5))
            (.seq (.block 6 (.seq (.ops [⟨(some 70), none, .q (.ixa 2 (.tmp 66) (.tmp 68))⟩,
                  ⟨(some 71), none, .q (.ld true 2 (.tmp 70))⟩,
                  ⟨(some 9), none, .e (.alloc 38 [(.string ByteArray.empty), (.string ByteArray.empty)])⟩,
                  ⟨none, none, .e (.st 2 (.tmp 9) (.tmp 71))⟩])
              (.seq (.ops [⟨(some 72), none, .q (.mv (.tmp 0))⟩,
                  ⟨(some 73), none, .q (.nck (.tmp 72))⟩,
                  ⟨(some 74), none, .q (.fad 0 2 (.tmp 73))⟩,
                  ⟨(some 75), none, .q (.fad 0 1 (.tmp 9))⟩,
                  ⟨(some 76), none, .q (.ld false 1 (.tmp 75))⟩,
                  ⟨(some 77), none, .e (.call 35 [(.tmp 74), (.tmp 76)])⟩])
              (.ops [⟨(some 78), none, .q (.mv (.tmp 0))⟩,
                  ⟨(some 79), none, .q (.nck (.tmp 78))⟩,
                  ⟨(some 80), none, .q (.fad 0 2 (.tmp 79))⟩,
                  ⟨(some 81), none, .q (.fad 1 1 (.tmp 9))⟩,
                  ⟨(some 82), none, .q (.ld false 1 (.tmp 81))⟩,
                  ⟨(some 83), none, .e (.call 35 [(.tmp 80), (.tmp 82)])⟩]))))
            (.ops [⟨(some 84), none, .q (.bin .add .num (.tmp 68) (.const (.int .i64 1)))⟩,
                ⟨(some 68), none, .q (.mv (.tmp 84))⟩]))))))))
        (.seq (.ops [⟨(some 86), none, .q (.bin .eql .num (.tmp 33) (.const (.int .i64 3)))⟩,
            ⟨(some 85), none, .q (.mv (.tmp 86))⟩])
        (.cond (.tmp 85)
          (.seq (.ops [⟨(some 88), none, .q (.fad 6 9 (.tmp 3))⟩,
              ⟨(some 89), none, .q (.ld true 9 (.tmp 88))⟩,
              ⟨(some 90), none, .e (.call 36 [(.tmp 89)])⟩,
              ⟨(some 87), none, .q (.mv (.tmp 90))⟩,
              ⟨(some 91), none, .q (.ext (.tmp 87) 0)⟩,
              ⟨(some 92), none, .q (.ext (.tmp 87) 1)⟩,
              ⟨(some 10), none, .q (.mv (.tmp 91))⟩,
              ⟨(some 11), none, .q (.mv (.tmp 92))⟩])
          (.ops [⟨(some 93), none, .q (.mv (.tmp 0))⟩,
              ⟨(some 94), none, .q (.nck (.tmp 93))⟩,
              ⟨(some 95), none, .q (.fad 0 2 (.tmp 94))⟩,
              ⟨(some 96), none, .q (.mv (.tmp 10))⟩,
              ⟨(some 97), none, .e (.call 35 [(.tmp 95), (.tmp 96)])⟩]))
          (.skip)))))))))), []⟩
theorem k_message : compF Tryz.prog 15 = some c_message := by kernel_rfl
set_option maxHeartbeats 16000000 in
theorem message_ok {W : World} (L : Laid W) {H : AHeap} {b : Nat} (m : Msg) (F : MFits m) (hB : BuildT TL H b ByteArray.empty) (hm : rightM m = true) :
    ACalls Tryz.prog W 15 [.v (.pointer (some ⟨b, 0, none⟩)), .agg (msgCells m)] H fun _ H' => BuildT TL H' b (msgT m) := by
  have R := rightM_facts hm
  refine fn_run follows k_message rfl ?_
  simp only [c_message, aretC_nil, List.zipIdx_cons, List.zipIdx_nil, List.map_cons, List.map_nil, Nat.zero_add]
  (try simp +decide (implicitDefEqProofs := false) only [go_sem, ↓stk_g, ↓stk_c, ↓reduceIte])
  rw [stk_box]
  refine ⟨by rfl, fun b1 h1 => ?_⟩
  have h1' : H b1 = none := h1
  (try simp +decide (implicitDefEqProofs := false) only [go_sem, ↓stk_g, ↓stk_c, ↓reduceIte, msgCells, lay, oneOr, List.take_succ_cons, List.take_zero, List.drop_succ_cons, List.drop_zero, List.nil_append, List.cons_append, Option.getD_some, Nat.reduceAdd, Nat.reduceLeDiff, List.append_nil, and_self, List.all_cons, List.all_nil])
  refine stk_up (α := AHeap) 4 (fun i H' => ⟨[(22, .v (.int .i64 i)), (21, .v (.int .i64 ((4 : Nat) : Int))), (20, .sl true 1 (intRows (nums4 m))), (3, .pl (msgCells m)), (0, .v (.pointer (some ⟨b, 0, none⟩)))], H'⟩) (fun i H' => BuildT TL H' b (catF ((numsM m).take i))) H (Weak.list _ (sub_fresh h1') ?_) hB ?_
  · (try simp +decide (implicitDefEqProofs := false) only [go_sem, ↓stk_g, ↓stk_c, ↓reduceIte])
    first | done | exact ⟨FZ.refl _, FZ.cellsR (hp_self _ _ _) h1'⟩ | exact FZ.cellsR (hp_self _ _ _) h1' | exact ⟨FZ.cellsR (hp_self _ _ _) h1', FZ.refl _⟩
  clear hB h1 h1'
  rintro i H hi hB
  by_cases hlt : i < 4
  · have g1 : (i : Int) < ((4 : Nat) : Int) := by omega
    have hw := wrap_in (n := (i : Int) + 1) (by omega) (by omega)
    have hlt2 : i < (nums4 m).length := hlt
    have hg := intRows_get hlt2
    have hlen : (nums4 m).length = 4 := rfl
    have hst : (numsM m).take (i + 1) = (numsM m).take i ++ [itoaS ((nums4 m).getD i 0)] := take_map_succ hlt2
    obtain ⟨n0, n1⟩ := num_size R ((nums4 m).getD i 0) (by
      have e : (nums4 m).getD i 0 = (nums4 m)[i] := by simp [hlt2]
      rw [e]; exact List.getElem_mem _)
    have hsz := catF_size ((numsM m).take i) (fun s hs => by have := numsM_size R s (List.mem_of_mem_take hs); omega)
    rw [List.length_take] at hsz
    generalize (nums4 m).getD i 0 = n at hg hst n0 n1
    (try simp +decide (implicitDefEqProofs := false) only [go_sem, ↓stk_g, ↓stk_c, ↓reduceIte, g1, hlt, hg, hlen])
    refine stk_call (wnumber_ok L n n0 n1 hB (by omega)) fun v H' hB' => ?_
    (try simp +decide (implicitDefEqProofs := false) only [go_sem, ↓stk_g, ↓stk_c, ↓reduceIte, hw])
    first | exact ⟨by omega, H', Weak.list _ (Sub.refl _) (by (try simp +decide (implicitDefEqProofs := false) only [go_sem, ↓stk_g, ↓stk_c, ↓reduceIte])), by rw [hst, catF_snoc]; exact hB'⟩ | exact ⟨H', Weak.list _ (Sub.refl _) (by (try simp +decide (implicitDefEqProofs := false) only [go_sem, ↓stk_g, ↓stk_c, ↓reduceIte])), by rw [hst, catF_snoc]; exact hB'⟩
  have g1 : ¬ (i : Int) < ((4 : Nat) : Int) := by omega
  obtain rfl : i = 4 := by omega
  rw [show (numsM m).take 4 = numsM m from rfl] at hB
  have hz0 := part_size R (l := []) (by simp) (fun s hs => by cases hs)
  rw [List.append_nil] at hz0
  unfold msgT restM
  by_cases hk1 : m.kind = 1
  · have k1 : decide (m.kind = 1) = true := decide_eq_true hk1
    rw [if_pos hk1]
    have hil := R.ids.1
    have his := R.ids.2
    (try simp +decide (implicitDefEqProofs := false) only [go_sem, ↓stk_g, ↓stk_c, ↓reduceIte, g1, msgCells, k1, lay, oneOr, List.take_succ_cons, List.take_zero, List.drop_succ_cons, List.drop_zero, List.nil_append, List.cons_append, Option.getD_some, Nat.reduceAdd, Nat.reduceLeDiff, List.append_nil, and_self, List.all_cons, List.all_nil])
    refine stk_call (wnumber_ok L (m.ids.length : Int) (by omega) (by omega) hB hz0) fun v H1 hB1 => ?_
    rw [← catF_snoc] at hB1
    (try simp +decide (implicitDefEqProofs := false) only [go_sem, ↓stk_g, ↓stk_c, ↓reduceIte, msgCells, lay, oneOr, List.take_succ_cons, List.take_zero, List.drop_succ_cons, List.drop_zero, List.nil_append, List.cons_append, Option.getD_some, Nat.reduceAdd, Nat.reduceLeDiff, List.append_nil, and_self, List.all_cons, List.all_nil])
    refine stk_up (α := AHeap) m.ids.length (fun i H' => ⟨[(46, .v (.int .i64 i)), (45, .v (.int .i64 m.ids.length)), (44, .sl false 1 (strRows m.ids)), (3, .pl (msgCells m)), (0, .v (.pointer (some ⟨b, 0, none⟩)))], H'⟩) (fun i H' => BuildT TL H' b (catF (numsM m ++ itoaS (m.ids.length : Int) :: m.ids.take i))) H1 (Weak.list _ (Sub.refl _) ?_) hB1 ?_
    · (try simp +decide (implicitDefEqProofs := false) only [go_sem, ↓stk_g, ↓stk_c, ↓reduceIte])
      first | done | exact FZ.refl _ | exact ⟨FZ.refl _, FZ.refl _⟩
    clear hB1 hB
    rintro i H hi hB
    by_cases hlt : i < m.ids.length
    · have g1 : (i : Int) < (m.ids.length : Int) := by omega
      have hw := wrap_in (n := (i : Int) + 1) (by omega) (by omega)
      have hg := strRows_get hlt
      have hget : m.ids.getD i ByteArray.empty = m.ids[i] := by simp [hlt]
      have hs16 := his (m.ids.getD i ByteArray.empty) (by rw [hget]; exact List.getElem_mem _)
      have hst : m.ids.take (i + 1) = m.ids.take i ++ [m.ids.getD i ByteArray.empty] := by rw [List.take_succ_eq_append_getElem hlt, hget]
      have hz := part_size R (l := itoaS (m.ids.length : Int) :: m.ids.take i) (by rw [List.length_cons, List.length_take]; omega) (fun s hs => by
        rcases List.mem_cons.1 hs with rfl | hs
        · have := itoa_len (m.ids.length : Int) (by omega) (by omega); omega
        · have := his s (List.mem_of_mem_take hs); omega)
      (try simp +decide (implicitDefEqProofs := false) only [go_sem, ↓stk_g, ↓stk_c, ↓reduceIte, g1, hlt, hg])
      refine stk_call (wtext_ok L (m.ids.getD i ByteArray.empty) hB (by omega) hz) fun v H' hB' => ?_
      rw [← catF_snoc, List.append_assoc, List.cons_append, ← hst] at hB'
      (try simp +decide (implicitDefEqProofs := false) only [go_sem, ↓stk_g, ↓stk_c, ↓reduceIte, hw])
      first | exact ⟨by omega, H', Weak.list _ (Sub.refl _) (by (try simp +decide (implicitDefEqProofs := false) only [go_sem, ↓stk_g, ↓stk_c, ↓reduceIte])), hB'⟩ | exact ⟨H', Weak.list _ (Sub.refl _) (by (try simp +decide (implicitDefEqProofs := false) only [go_sem, ↓stk_g, ↓stk_c, ↓reduceIte])), hB'⟩
    · have g1 : ¬ (i : Int) < (m.ids.length : Int) := by omega
      rw [List.take_of_length_le (by omega)] at hB
      (try simp +decide (implicitDefEqProofs := false) only [go_sem, ↓stk_g, ↓stk_c, ↓reduceIte, g1])
      first | exact ⟨.inl rfl, _, .any, Sub.refl _, .any _, hB⟩ | exact ⟨.inr rfl, _, .any, Sub.refl _, .any _, hB⟩
  have k1 : decide (m.kind = 1) = false := decide_eq_false hk1
  rw [if_neg hk1]
  by_cases hk2 : m.kind = 2
  · have k2 : decide (m.kind = 2) = true := decide_eq_true hk2
    rw [if_pos hk2]
    have hil := R.posts.1
    have his := R.posts.2
    (try simp +decide (implicitDefEqProofs := false) only [go_sem, ↓stk_g, ↓stk_c, ↓reduceIte, g1, msgCells, k1, k2, postRows_len, lay, oneOr, List.take_succ_cons, List.take_zero, List.drop_succ_cons, List.drop_zero, List.nil_append, List.cons_append, Option.getD_some, Nat.reduceAdd, Nat.reduceLeDiff, List.append_nil, and_self, List.all_cons, List.all_nil])
    refine stk_call (wnumber_ok L (m.posts.length : Int) (by omega) (by omega) hB hz0) fun v H1 hB1 => ?_
    rw [← catF_snoc] at hB1
    (try simp +decide (implicitDefEqProofs := false) only [go_sem, ↓stk_g, ↓stk_c, ↓reduceIte, msgCells, postRows_len, lay, oneOr, List.take_succ_cons, List.take_zero, List.drop_succ_cons, List.drop_zero, List.nil_append, List.cons_append, Option.getD_some, Nat.reduceAdd, Nat.reduceLeDiff, List.append_nil, and_self, List.all_cons, List.all_nil])
    refine stk_up (α := AHeap) m.posts.length (fun i H' => ⟨[(68, .v (.int .i64 i)), (67, .v (.int .i64 m.posts.length)), (66, .sl false 2 (postRows m.posts)), (3, .pl (msgCells m)), (0, .v (.pointer (some ⟨b, 0, none⟩)))], H'⟩) (fun i H' => BuildT TL H' b (catF (numsM m ++ itoaS (m.posts.length : Int) :: flatP (m.posts.take i)))) H1 (Weak.list _ (Sub.refl _) ?_) hB1 ?_
    · (try simp +decide (implicitDefEqProofs := false) only [go_sem, ↓stk_g, ↓stk_c, ↓reduceIte])
      first | done | exact FZ.refl _ | exact ⟨FZ.refl _, FZ.refl _⟩
    clear hB1 hB
    rintro i H hi hB
    by_cases hlt : i < m.posts.length
    · have g1 : (i : Int) < (m.posts.length : Int) := by omega
      have hw := wrap_in (n := (i : Int) + 1) (by omega) (by omega)
      have hg := postRows_get hlt
      have hget : m.posts.getD i noPost = m.posts[i] := by simp [hlt]
      have hs16 := his (m.posts.getD i noPost) (by rw [hget]; exact List.getElem_mem _)
      have hst : m.posts.take (i + 1) = m.posts.take i ++ [m.posts.getD i noPost] := by rw [List.take_succ_eq_append_getElem hlt, hget]
      have hfl : flatP (m.posts.take (i + 1)) = flatP (m.posts.take i) ++ [(m.posts.getD i noPost).1, (m.posts.getD i noPost).2] := by rw [hst, flatP_snoc]
      have hfm : ∀ s ∈ flatP (m.posts.take i), s.size ≤ 1000000 := fun s hs => by
        obtain ⟨p, hp, e⟩ := flatP_mem _ s hs
        have := his p (List.mem_of_mem_take hp)
        rcases e with rfl | rfl <;> omega
      have hnm : (itoaS (m.posts.length : Int)).size ≤ 1000000 := by have := itoa_len (m.posts.length : Int) (by omega) (by omega); omega
      have hz := part_size R (l := itoaS (m.posts.length : Int) :: flatP (m.posts.take i)) (by rw [List.length_cons, flatP_len, List.length_take]; omega) (fun s hs => by
        rcases List.mem_cons.1 hs with rfl | hs
        · exact hnm
        · exact hfm s hs)
      generalize m.posts.getD i noPost = q at hg hs16 hfl
      have hz2 := part_size R (l := (itoaS (m.posts.length : Int) :: flatP (m.posts.take i)) ++ [q.1]) (by rw [List.length_append, List.length_cons, flatP_len, List.length_take]; simp; omega) (fun s hs => by
        rcases List.mem_append.1 hs with hs | hs
        · rcases List.mem_cons.1 hs with rfl | hs
          · exact hnm
          · exact hfm s hs
        · rw [List.mem_singleton.1 hs]; omega)
      rw [hfl]
      clear hst hfl
      (try simp +decide (implicitDefEqProofs := false) only [go_sem, ↓stk_g, ↓stk_c, ↓reduceIte, g1, hlt, hg, postRows_len, lay, oneOr, List.take_succ_cons, List.take_zero, List.drop_succ_cons, List.drop_zero, List.nil_append, List.cons_append, Option.getD_some, Nat.reduceAdd, Nat.reduceLeDiff, List.append_nil, and_self, List.all_cons, List.all_nil])
      rw [stk_alloc]
      intro b2 h2
      have h2' : H b2 = none := h2
      (try simp +decide (implicitDefEqProofs := false) only [go_sem, ↓stk_g, ↓stk_c, ↓reduceIte, lay, oneOr, List.take_succ_cons, List.take_zero, List.drop_succ_cons, List.drop_zero, List.nil_append, List.cons_append, Option.getD_some, Nat.reduceAdd, Nat.reduceLeDiff, List.append_nil, and_self, List.all_cons, List.all_nil])
      refine stk_callW ⟨[(76, .v (.string q.1)), (74, .v (.pointer (some ⟨b, 0, none⟩))), (9, .pl [.v (.string q.1), .v (.string q.2)]), (68, .v (.int .i64 i)), (67, .v (.int .i64 m.posts.length)), (66, .sl false 2 (postRows m.posts)), (3, .pl (msgCells m)), (0, .v (.pointer (some ⟨b, 0, none⟩)))], H⟩ (Weak.list _ (sub_fresh h2') ?_) (wtext_ok L q.1 hB (by omega) hz) fun v H2 hB2 => ?_
      · (try simp +decide (implicitDefEqProofs := false) only [go_sem, ↓stk_g, ↓stk_c, ↓reduceIte])
        first | done | exact FZ.cellsR (hp_self _ _ _) h2' | exact ⟨FZ.cellsR (hp_self _ _ _) h2', FZ.refl _⟩ | exact ⟨FZ.cellsR (hp_self _ _ _) h2', FZ.refl _, FZ.refl _⟩
      rw [← catF_snoc, List.append_assoc] at hB2
      (try simp +decide (implicitDefEqProofs := false) only [go_sem, ↓stk_g, ↓stk_c, ↓reduceIte, lay, oneOr, List.take_succ_cons, List.take_zero, List.drop_succ_cons, List.drop_zero, List.nil_append, List.cons_append, Option.getD_some, Nat.reduceAdd, Nat.reduceLeDiff, List.append_nil, and_self, List.all_cons, List.all_nil])
      refine stk_call (wtext_ok L q.2 hB2 (by omega) hz2) fun v H3 hB3 => ?_
      rw [← catF_snoc] at hB3
      (try simp +decide (implicitDefEqProofs := false) only [go_sem, ↓stk_g, ↓stk_c, ↓reduceIte, hw])
      have e : numsM m ++ ((itoaS (m.posts.length : Int) :: flatP (m.posts.take i)) ++ [q.1]) ++ [q.2] = numsM m ++ itoaS (m.posts.length : Int) :: (flatP (m.posts.take i) ++ [q.1, q.2]) := by simp
      rw [e] at hB3
      first | exact ⟨by omega, H3, Weak.list _ (Sub.refl _) (by (try simp +decide (implicitDefEqProofs := false) only [go_sem, ↓stk_g, ↓stk_c, ↓reduceIte])), hB3⟩ | exact ⟨H3, Weak.list _ (Sub.refl _) (by (try simp +decide (implicitDefEqProofs := false) only [go_sem, ↓stk_g, ↓stk_c, ↓reduceIte])), hB3⟩
    · have g1 : ¬ (i : Int) < (m.posts.length : Int) := by omega
      rw [List.take_of_length_le (by omega)] at hB
      (try simp +decide (implicitDefEqProofs := false) only [go_sem, ↓stk_g, ↓stk_c, ↓reduceIte, g1])
      first | exact ⟨.inl rfl, _, .any, Sub.refl _, .any _, hB⟩ | exact ⟨.inr rfl, _, .any, Sub.refl _, .any _, hB⟩
  have k2 : decide (m.kind = 2) = false := decide_eq_false hk2
  rw [if_neg hk2]
  by_cases hk3 : m.kind = 3
  · have k3 : decide (m.kind = 3) = true := decide_eq_true hk3
    rw [if_pos hk3]
    have hp := R.pol hk3
    have hpz := textP_len hp
    (try simp +decide (implicitDefEqProofs := false) only [go_sem, ↓stk_g, ↓stk_c, ↓reduceIte, g1, msgCells, k1, k2, k3, lay, oneOr, List.take_succ_cons, List.take_zero, List.drop_succ_cons, List.drop_zero, List.nil_append, List.cons_append, Option.getD_some, Nat.reduceAdd, Nat.reduceLeDiff, List.append_nil, and_self, List.all_cons, List.all_nil])
    refine stk_pure (text_ok L m.pol F.pol) fun v hv => ?_
    unfold textR at hv
    rw [hp, if_pos rfl] at hv
    subst hv
    (try simp +decide (implicitDefEqProofs := false) only [go_sem, ↓stk_g, ↓stk_c, ↓reduceIte, lay, oneOr, List.take_succ_cons, List.take_zero, List.drop_succ_cons, List.drop_zero, List.nil_append, List.cons_append, Option.getD_some, Nat.reduceAdd, Nat.reduceLeDiff, List.append_nil, and_self, List.all_cons, List.all_nil])
    refine stk_call (wtext_ok L (textP m.pol) hB (by omega) hz0) fun v H1 hB1 => ?_
    rw [← catF_snoc] at hB1
    (try simp +decide (implicitDefEqProofs := false) only [go_sem, ↓stk_g, ↓stk_c, ↓reduceIte])
    first | exact ⟨.inl rfl, _, .any, Sub.refl _, .any _, hB1⟩ | exact ⟨.inr rfl, _, .any, Sub.refl _, .any _, hB1⟩
  have k3 : decide (m.kind = 3) = false := decide_eq_false hk3
  rw [if_neg hk3, List.append_nil]
  (try simp +decide (implicitDefEqProofs := false) only [go_sem, ↓stk_g, ↓stk_c, ↓reduceIte, g1, msgCells, k1, k2, k3, lay, oneOr, List.take_succ_cons, List.take_zero, List.drop_succ_cons, List.drop_zero, List.nil_append, List.cons_append, Option.getD_some, Nat.reduceAdd, Nat.reduceLeDiff, List.append_nil, and_self, List.all_cons, List.all_nil])
  first | exact ⟨.inl rfl, _, .any, Sub.refl _, .any _, hB⟩ | exact ⟨.inr rfl, _, .any, Sub.refl _, .any _, hB⟩
def encR (m : Msg) : AVal := if rightM m then .tup [.v (.string (msgT m)), .v (.int .i64 0)] else .tup [.v (.string ByteArray.empty), .v (.int .i64 2)]
def c_Encode : AFn := ⟨1, 18, [2, 3],
  .seq (.ops [⟨(some 1), none, .e (.box 27 (.tmp 0))⟩,
      ⟨(some 2), none, .q (.mv (.const (.string ByteArray.empty)))⟩,
      ⟨(some 3), none, .q (.mv (.const (.int .i64 0)))⟩])
  (.seq (.seq (.ops [⟨(some 5), none, .q (.ld true 15 (.tmp 1))⟩,
      ⟨(some 6), none, .e (.call 9 [(.tmp 5)])⟩,
      ⟨(some 7), none, .q (.un .not (.tmp 6))⟩])
  (.cond (.tmp 7)
    (.seq (.ops [⟨(some 2), none, .q (.mv (.const (.string ByteArray.empty)))⟩,
        ⟨(some 3), none, .q (.mv (.const (.int .i64 2)))⟩])
    (.ret))
    (.skip)))
  (.seq (.ops [⟨(some 8), none, .q (.bld [(.pointer none), (.slice none 0 0)] [])⟩,
      ⟨(some 9), none, .e (.box 48 (.tmp 8))⟩,
      ⟨(some 4), none, .q (.mv (.tmp 9))⟩])
  (.seq (.ops [⟨(some 10), none, .q (.mv (.tmp 4))⟩,
      ⟨(some 11), none, .q (.ld true 15 (.tmp 1))⟩,
      ⟨(some 12), none, .e (.call 15 [(.tmp 10), (.tmp 11)])⟩])
  (.seq (.ops [⟨(some 13), none, .q (.mv (.tmp 4))⟩,
      ⟨(some 14), none, .q (.nck (.tmp 13))⟩,
      ⟨(some 15), none, .q (.fad 0 2 (.tmp 14))⟩,
      ⟨(some 16), none, .q (.fad 0 2 (.tmp 15))⟩,
      ⟨(some 17), none, .e (.call 16 [(.tmp 16)])⟩,
      ⟨(some 2), none, .q (.mv (.tmp 17))⟩,
      ⟨(some 3), none, .q (.mv (.const (.int .i64 0)))⟩])
  (.ret))))), []⟩
theorem k_Encode : compF Tryz.prog 7 = some c_Encode := by kernel_rfl
set_option maxHeartbeats 8000000 in
theorem encode_ok {W : World} (L : Laid W) (m : Msg) (F : MFits m) : ACalls Tryz.prog W 7 [.agg (msgCells m)] AHeap.none fun v _ => v = encR m := by
  refine fn_run follows k_Encode rfl ?_
  simp only [c_Encode, aretC_nil, List.zipIdx_cons, List.zipIdx_nil, List.map_cons, List.map_nil, Nat.zero_add]
  (try simp +decide (implicitDefEqProofs := false) only [go_sem, ↓stk_g, ↓stk_c, ↓reduceIte])
  rw [stk_box]
  refine ⟨by rfl, fun b1 h1 => ?_⟩
  (try simp +decide (implicitDefEqProofs := false) only [go_sem, ↓stk_g, ↓stk_c, ↓reduceIte, msgCells, lay, oneOr, List.take_succ_cons, List.take_zero, List.drop_succ_cons, List.drop_zero, List.nil_append, List.cons_append, Option.getD_some, Nat.reduceAdd, Nat.reduceLeDiff, List.append_nil, and_self, List.all_cons, List.all_nil])
  refine stk_pureW ⟨[(1, .pl (msgCells m)), (5, .agg (msgCells m))], AHeap.none⟩ (Weak.list _ (Sub.none _) ?_) (mright_ok L m F) fun v hv => ?_
  · (try simp +decide (implicitDefEqProofs := false) only [go_sem, ↓stk_g, ↓stk_c, ↓reduceIte])
    first | done | exact FZ.cellsR (hp_self _ _ _) rfl | exact ⟨FZ.cellsR (hp_self _ _ _) rfl, FZ.refl _⟩
  subst hv
  unfold encR
  cases hm : rightM m
  · (try simp +decide (implicitDefEqProofs := false) only [go_sem, ↓stk_g, ↓stk_c, ↓reduceIte])
    refine aret_pure (.inr rfl) ?_; simp +decide only [retOf, tget, if_true, if_false, ↓reduceIte, List.map_cons, List.map_nil]
    try rfl
  (try simp +decide (implicitDefEqProofs := false) only [go_sem, ↓stk_g, ↓stk_c, ↓reduceIte, lay, oneOr, List.take_succ_cons, List.take_zero, List.drop_succ_cons, List.drop_zero, List.nil_append, List.cons_append, Option.getD_some, Nat.reduceAdd, Nat.reduceLeDiff, List.append_nil, and_self, List.all_cons, List.all_nil])
  rw [stk_box]
  refine ⟨by rfl, fun b2 h2 => ?_⟩
  have hB : BuildT TL (AHeap.none.put b2 (.cells TL [.v (.pointer none), .v (.slice none 0 0)])) b2 ByteArray.empty := ⟨none, _, hp_self _ _ _, .inl rfl, .nil⟩
  (try simp +decide (implicitDefEqProofs := false) only [go_sem, ↓stk_g, ↓stk_c, ↓reduceIte, msgCells, lay, oneOr, List.take_succ_cons, List.take_zero, List.drop_succ_cons, List.drop_zero, List.nil_append, List.cons_append, Option.getD_some, Nat.reduceAdd, Nat.reduceLeDiff, List.append_nil, and_self, List.all_cons, List.all_nil])
  refine stk_call (message_ok L m F hB hm) fun v H1 hB1 => ?_
  (try simp +decide (implicitDefEqProofs := false) only [go_sem, ↓stk_g, ↓stk_c, ↓reduceIte, lay, oneOr, List.take_succ_cons, List.take_zero, List.drop_succ_cons, List.drop_zero, List.nil_append, List.cons_append, Option.getD_some, Nat.reduceAdd, Nat.reduceLeDiff, List.append_nil, and_self, List.all_cons, List.all_nil])
  refine stk_call (bstring_ok hB1 (msgT_ne m)) fun v H2 hv => ?_
  subst hv
  (try simp +decide (implicitDefEqProofs := false) only [go_sem, ↓stk_g, ↓stk_c, ↓reduceIte])
  refine aret_pure (.inr rfl) ?_; simp +decide only [retOf, tget, if_true, if_false, ↓reduceIte, List.map_cons, List.map_nil]
  try rfl
end Go.Proofs.YtcplmaffccfbdaaGreatDoor.M
