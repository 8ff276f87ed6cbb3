/- The document's Near and Nearest. -/
import Derived.Test.YtggmfmlfkhcbdaaGS
import Derived.Test.YtggmfmlfkhcbdaaGE
namespace Go.Proofs.Ytggmfmlfkhcbdaa.Gr
open Go Go.RowKit Go.Maps Go.Proofs.YtggmfmlfkhcbdaaW.PrintWords Go.Proofs.YtggmfmlfkhcbdaaW.PrintLast Go.Proofs.YtggmfmlfkhcbdaaW.PrintMore
set_option linter.unusedVariables false
set_option linter.unusedSimpArgs false

theorem rwithin_calls (x y a b r : Int) (hx : I64 x) (hy : I64 y) (ha : I64 a) (hb : I64 b) (w : World) : Calls Try.prog 33 #[.agg #[.int .i64 x, .int .i64 y], .agg #[.int .i64 a, .int .i64 b], .int .i64 r] w fun e w' => e = .returned (.bool (wi x y a b r)) ∧ Below w.heap.size w w' :=
  QQA.joustref13_Within.calls 1 x y a b r _ w (rwithin_f x y a b r hx hy ha hb)
theorem rdist_calls (x y a b : Int) (hx : I64 x) (hy : I64 y) (ha : I64 a) (hb : I64 b) (w : World) : Calls Try.prog 37 #[.agg #[.int .i64 x, .int .i64 y], .agg #[.int .i64 a, .int .i64 b]] w fun e w' => e = .returned (.int .i64 (dd x y a b)) ∧ Below w.heap.size w w' := by
  rw [dd_comm]
  exact QQA.joustref13_Dist2.calls 1 x y a b _ w (rdist2_f x y a b hx hy ha hb)

/-! plain -/
theorem inL_take {L : List Th} {ax ay r : Int} {a : Nat} {x : Th} (h : L[a]? = some x) : inL (L.take (a + 1)) ax ay r = if wi x.x x.y ax ay r then inL (L.take a) ax ay r ++ [x.id] else inL (L.take a) ax ay r := by
  rw [take_at h]
  unfold inL inT
  rw [List.filter_append, List.map_append]
  by_cases hw : wi x.x x.y ax ay r = true
  · simp [hw]
  · simp [hw]
theorem inT_take {L : List Th} {ax ay r : Int} {a : Nat} {x : Th} (h : L[a]? = some x) : inT (L.take (a + 1)) ax ay r = if wi x.x x.y ax ay r then inT (L.take a) ax ay r ++ [x] else inT (L.take a) ax ay r := by
  rw [take_at h]
  unfold inT
  rw [List.filter_append]
  by_cases hw : wi x.x x.y ax ay r = true
  · simp [hw]
  · simp [hw]
theorem inT_len (L : List Th) (ax ay r : Int) : (inT L ax ay r).length ≤ L.length := List.length_filter_le _ _
theorem R_other {α β : Type} {d : Kd α} {d' : Kd β} (hE : d.E = []) {e e' : Nat} {w w' : World} {base base' : Nat} {v u : Value} {xs : List α} {ys : List β} (h : d.R e w base (fun _ => True) v xs) (hu : d'.R e' w base' (fun _ => True) u ys) (hne : e ≠ e') (hg : w.grownBy w' u.ownBlock) : d.R e w' base (fun _ => True) v xs := by
  refine Kd.R_mono (Kd.R_move (Kd.R_tight2 hE h) (fun k hk => hg.block k (Kd.R_lt h k hk.1.symm) (fun e2 => ?_))) (fun k hk => hk.2)
  obtain ⟨i1, o1⟩ := Kd.R_own h
  obtain ⟨i2, o2⟩ := Kd.R_own hu
  obtain ⟨c1, h1⟩ := own_typed o1 k hk.1.symm
  obtain ⟨c2, h2⟩ := own_typed o2 k e2.symm
  rw [h1] at h2
  injection h2 with h2
  injection h2 with _ h2
  exact hne h2
/-- The nearest that is left. -/
def BestI (left : List Th) (ax ay : Int) (i b : Nat) : Prop := b < i ∧ ∀ j t tb, j < i → j ≠ b → left[j]? = some t → left[b]? = some tb → dd tb.x tb.y ax ay < dd t.x t.y ax ay ∨ (dd tb.x tb.y ax ay = dd t.x t.y ax ay ∧ b < j)
theorem best_start (left : List Th) (ax ay : Int) : BestI left ax ay 1 0 := ⟨by omega, fun j t tb h1 h2 => by omega⟩
theorem best_new {left : List Th} {ax ay : Int} {i b : Nat} {t tb : Th} (h : BestI left ax ay i b) (ht : left[i]? = some t) (htb : left[b]? = some tb) (hd : dd t.x t.y ax ay < dd tb.x tb.y ax ay) : BestI left ax ay (i + 1) i := by
  refine ⟨by omega, fun j u tu hj hne hu htu => ?_⟩
  rw [ht] at htu
  obtain rfl := Option.some.inj htu
  by_cases e : j = b
  · subst e
    rw [htb] at hu
    obtain rfl := Option.some.inj hu
    exact Or.inl hd
  · have := h.2 j u tb (by omega) e hu htb
    left
    omega
theorem best_keep {left : List Th} {ax ay : Int} {i b : Nat} {t tb : Th} (h : BestI left ax ay i b) (ht : left[i]? = some t) (htb : left[b]? = some tb) (hd : ¬ dd t.x t.y ax ay < dd tb.x tb.y ax ay) : BestI left ax ay (i + 1) b := by
  refine ⟨by have := h.1; omega, fun j u tu hj hne hu htu => ?_⟩
  by_cases e : j = i
  · subst e
    rw [ht] at hu
    obtain rfl := Option.some.inj hu
    rw [htb] at htu
    obtain rfl := Option.some.inj htu
    have := h.1
    omega
  · exact h.2 j u tu (by omega) hne hu htu
theorem sub_srt {L left : List Th} (hs : Srt L) (h : left.Sublist L) : Srt left := List.Pairwise.sublist h hs
theorem dq_mem {L : List Th} {ax ay : Int} (hs : Srt L) {t : Th} (ht : t ∈ L) : dq L ax ay t.id = dd t.x t.y ax ay := by
  unfold dq
  rw [atL_mem hs ht]
theorem cons_erase_perm {t : Th} : ∀ {l : List Th} {b : Nat}, l[b]? = some t → (t :: l.eraseIdx b).Perm l
  | [], b, h => by cases h
  | x :: r, 0, h => by
    simp at h
    subst h
    exact List.Perm.refl _
  | x :: r, b + 1, h => by
    rw [List.eraseIdx_cons_succ]
    exact (List.Perm.swap x t _).trans ((cons_erase_perm (l := r) (b := b) (by simpa using h)).cons x)
/-- The nearest of the rest stands first in the order. -/
theorem sel_step {L left : List Th} {ax ay : Int} (hs : Srt L) (hsub : left.Sublist L) {b : Nat} {tb : Th} (hb : left[b]? = some tb) (hmin : BestI left ax ay left.length b) :
    srtN L ax ay (left.map Th.id) = tb.id :: srtN L ax ay ((left.eraseIdx b).map Th.id) := by
  obtain ⟨hlt, htb⟩ := List.getElem?_eq_some_iff.1 hb
  have hp : (tb.id :: (left.eraseIdx b).map Th.id).Perm (left.map Th.id) := (cons_erase_perm hb).map Th.id
  refine List.Perm.eq_of_pairwise (le := fun x y => ¬ near3 L ax ay y x < 0) ?_ (srtN_sorted _) ?_ ((srtN_perm L ax ay _).trans (hp.symm.trans ((srtN_perm L ax ay _).symm.cons _)))
  · intro a b _ _ h1 h2
    rw [near3_neg] at h1 h2
    omega
  · rw [List.pairwise_cons]
    refine ⟨fun z hz => ?_, srtN_sorted _⟩
    have hz := (srtN_perm L ax ay _).mem_iff.1 hz
    obtain ⟨t, ht, rfl⟩ := List.mem_map.1 hz
    obtain ⟨j, hj, hne, hjt⟩ := List.mem_eraseIdx_iff_getElem.1 ht
    have hjt2 : left[j]? = some t := by rw [← hjt]; exact List.getElem?_eq_getElem hj
    have hm := hmin.2 j t tb hj hne hjt2 hb
    have ht1 : t ∈ left := List.mem_of_getElem? hjt2
    have ht2 : tb ∈ left := List.mem_of_getElem? hb
    rw [near3_neg, dq_mem hs (hsub.subset ht1), dq_mem hs (hsub.subset ht2)]
    have hord : b < j → tb.id < t.id := by
      intro hbj
      have := List.pairwise_iff_getElem.1 (sub_srt hs hsub) b j hlt hj hbj
      rwa [htb, hjt] at this
    omega
/-- What is left but the one taken. -/
def restI (left : List Th) (b i : Nat) : List Th := (left.take i).take b ++ (left.take i).drop (b + 1)
theorem rest_same {left : List Th} {b : Nat} {t : Th} (h : left[b]? = some t) : restI left b (b + 1) = restI left b b := by
  unfold restI
  have hb : b < left.length := (List.getElem?_eq_some_iff.1 h).1
  rw [List.take_take, List.take_take, Nat.min_eq_left (by omega), Nat.min_self, List.drop_of_length_le (by rw [List.length_take]; omega), List.drop_of_length_le (by rw [List.length_take]; omega)]
theorem rest_other {left : List Th} {b i : Nat} {t : Th} (h : left[i]? = some t) (hne : i ≠ b) : restI left b (i + 1) = restI left b i ++ [t] := by
  unfold restI
  have hb : i < left.length := (List.getElem?_eq_some_iff.1 h).1
  rw [take_at h]
  by_cases hi : i < b
  · have l1 : (left.take i).length ≤ b := by rw [List.length_take]; omega
    have l2 : (left.take i ++ [t]).length ≤ b := by rw [List.length_append, List.length_take, List.length_singleton]; omega
    rw [List.take_of_length_le l1, List.take_of_length_le l2, List.drop_of_length_le (Nat.le_succ_of_le l1), List.drop_of_length_le (Nat.le_succ_of_le l2)]
    simp
  · have l1 : b + 1 ≤ (left.take i).length := by rw [List.length_take]; omega
    rw [List.take_append_of_le_length (by omega), List.drop_append_of_le_length l1, List.append_assoc]
theorem rest_end {left : List Th} {b i : Nat} (h : left.length ≤ i) : restI left b i = left.eraseIdx b := by
  unfold restI
  rw [List.take_of_length_le h, List.eraseIdx_eq_take_drop_succ]
theorem rest_len (left : List Th) (b i : Nat) : (restI left b i).length ≤ left.length := by
  unfold restI
  simp
  omega
/-- Where the choosing stands. -/
def SelI (L : List Th) (ax ay r N : Int) (out : List Int) (left : List Th) : Prop :=
  left.Sublist L ∧ out.length ≤ N.toNat ∧ out ++ srtN L ax ay (left.map Th.id) = nearS L ax ay r
theorem sel_start (L : List Th) (ax ay r N : Int) : SelI L ax ay r N [] (inT L ax ay r) := ⟨List.filter_sublist, Nat.zero_le _, rfl⟩
theorem sel_next {L left : List Th} {ax ay r N : Int} {out : List Int} (hs : Srt L) (h : SelI L ax ay r N out left) (hn : (out.length : Int) < N) {b : Nat} {tb : Th} (hb : left[b]? = some tb) (hmin : BestI left ax ay left.length b) : SelI L ax ay r N (out ++ [tb.id]) (left.eraseIdx b) := by
  obtain ⟨h1, h2, h3⟩ := h
  refine ⟨(List.eraseIdx_sublist left b).trans h1, by rw [List.length_append, List.length_singleton]; omega, ?_⟩
  rw [sel_step hs h1 hb hmin] at h3
  rw [← h3]
  simp
theorem sel_len {L left : List Th} {ax ay r N : Int} {out : List Int} (h : SelI L ax ay r N out left) : out.length ≤ L.length := by
  have := congrArg List.length h.2.2
  rw [List.length_append] at this
  have h2 := (nearS_perm L ax ay r).length_eq
  have h3 := inL_len L ax ay r
  omega
theorem sel_end {L left : List Th} {ax ay r N : Int} {out : List Int} (h : SelI L ax ay r N out left) (he : left = [] ∨ ¬ (out.length : Int) < N) : out = (nearS L ax ay r).take N.toNat := by
  obtain ⟨h1, h2, h3⟩ := h
  rcases he with rfl | he
  · rw [List.map_nil, srtN, List.append_nil] at h3
    rw [← h3, List.take_of_length_le h2]
  · have : N.toNat = out.length := by omega
    rw [this, ← h3, List.take_left]

def T_18_5 : Bool × List (List Nat × List Nat) := (true, [([], []), ([0], [0]), ([1], [1]), ([2], [2]), ([], []), ([3, 4], [3, 4]), ([5], [5]), ([6], [6]), ([], []), ([], []), ([7, 8, 9], [7, 8, 9])])
def B_18_5 : List Nat := [0, 1, 3, 7, 0, 31, 63, 127, 0, 0, 1023]
theorem tab_f18_5 : rtab .any (opsOf Try.f18 5) = T_18_5 := by kernel_rfl
theorem bits_f18_5 : waitsOk T_18_5.2 B_18_5 = true := by kernel_rfl
set_option maxHeartbeats 2000000 in
theorem r_near {w : World} {rb B : Nat} {L : List Th} {v : Value} (h : RefAt w rb B L v) (hwf : ∀ t ∈ L, I64 t.id ∧ I64 t.x ∧ I64 t.y) (hL : L.length ≤ 3600000000000) {ax ay r : Int} (hax : I64 ax) (hay : I64 ay) :
    Calls Try.prog 18 #[.pointer (some ⟨rb, 0, none⟩), .agg #[.int .i64 ax, .int .i64 ay], .int .i64 r] w fun e w' => ∃ v', e = .returned v' ∧ ki.R 3 w' w.heap.size (fun _ => True) v' (inL L ax ay r) ∧ Below w.heap.size w w' := by
  obtain ⟨A, c, rfl, hc, hC⟩ := ref_read h
  have HR := Aside0.mk h
  have HC := Aside0.mk hC
  have HL := Aside0.mk hL
  have HWF := Aside0.mk hwf
  clear h hC hL hwf
  go_enter Try.func18, Try.ntmps18
  go_wp2
  have BX0 := Aside0.mk (heap_alloc_new w (.cells #[.int .i64 ax, .int .i64 ay] 32))
  go_loopw [7, 8] (fun ov iv wq => ∃ (a : Int), iv = .int .i64 a ∧ 0 ≤ a ∧ a ≤ L.length ∧ ki.R 3 wq (w.heap.size + 1) (fun _ => True) ov (inL (L.take a.toNat) ax ay r) ∧ wq.heap[w.heap.size]? = some (.cells #[.int .i64 ax, .int .i64 ay] 32 (0, 0)) ∧ Below w.heap.size w wq) (fun _ iv _ => L.length - (intOf iv).toNat)
  case atStart => exact ⟨0, rfl, Int.le_refl _, by omega, Kd.R_nil _ _ _ _ _, BX0.out, (by repeat (first | (with_reducible first | exact Below.refl _ _ | apply below_alloc | apply pw_below_drewN | apply below_drew1) | exact Below.refl _ _))⟩
  case round =>
    clear BX0
    obtain ⟨a, rfl, h0, h1, ho, hbx, hbw⟩ := hrel
    have HB := Aside0.mk hbw
    have HO := Aside0.mk ho
    have BX := Aside0.mk hbx
    have hr := (HR.out.below hbw).cell
    obtain ⟨q0, q1⟩ := bx_cells2 hbx
    have hCw := Kd.C_below HC.out hbw
    clear hbw ho hbx
    by_cases hk : a < L.length
    · have kb : decide (a < (L.length : Int)) = true := decide_eq_true hk
      obtain ⟨ad, s, hs, e1, d0, d1, d2⟩ := at_Th hCw a h0 hk
      subst e1
      have KA := Aside0.mk (And.intro h0 (And.intro h1 hk))
      have HS := Aside0.mk hs
      have p0 : (0 ≤ a) = True := eq_true h0
      have p1 : (a < (L.length : Int)) = True := eq_true hk
      obtain ⟨_, hsx, hsy⟩ := HWF.out s (List.mem_of_getElem? hs)
      have HN : Aside0 ((inL (L.take a.toNat) ax ay r).length ≤ 3900000000000) := by
        have e := inL_len (L.take a.toNat) ax ay r
        have eL := HL.out
        rw [List.length_take] at e
        exact ⟨by omega⟩
      clear hk hs h0 h1 hCw
      go_wp2
      refine start_ (n := 11) (S := fun w' => w'.cell? ⟨rb, 0, none⟩ = some (.slice (some ad) L.length c) ∧ w'.cell? ⟨(ad.add (a.toNat * 3)).block, (ad.add (a.toNat * 3)).off + 1, none⟩ = some (.int .i64 s.x) ∧ w'.cell? ⟨(ad.add (a.toNat * 3)).block, (ad.add (a.toNat * 3)).off + 2, none⟩ = some (.int .i64 s.y) ∧ w'.cell? ⟨w.heap.size, 0, none⟩ = some (.int .i64 ax) ∧ w'.cell? ⟨w.heap.size, 1, none⟩ = some (.int .i64 ay)) (ds := [10]) #[false, false, false, false, false, false, false, false, false, false, false] (by kernel_rfl) rfl rfl ⟨hr, d1, d2, q0, q1⟩ (fun hHeld => ?_)
      refine with_tabW tab_f18_5 bits_f18_5 (fun HT_ HW_ => ?_)
      refine pure_ (i := 0) (N := some 18) (v := ?_) (a' := ?_) #[true, false, false, false, false, false, false, false, false, false, false] rfl rfl (any_of HT_.out (by kernel_rfl)) (fun _ _ _ h => h) (Or.inl ⟨by rfl, ?_⟩) ?_ ?_
      rotate_left
      · intro w'
        go_simp
        with_reducible rfl
      rotate_left
      · simp only [Act.put, List.setIfInBounds_toArray, List.set_cons_zero, List.set_cons_succ, i64_w, i32_w]
        rfl
      refine pure_ (i := 1) (N := some 19) (v := ?_) (a' := ?_) #[true, true, false, false, false, false, false, false, false, false, false] rfl rfl (any_of HT_.out (by kernel_rfl)) (fun _ _ _ h => h) (Or.inl ⟨by rfl, ?_⟩) ?_ ?_
      rotate_left
      · intro w'
        go_simp
        with_reducible rfl
      rotate_left
      · simp only [Act.put, List.setIfInBounds_toArray, List.set_cons_zero, List.set_cons_succ, i64_w, i32_w]
        rfl
      refine pure_ (i := 2) (N := some 20) (v := ?_) (a' := ?_) #[true, true, true, false, false, false, false, false, false, false, false] rfl rfl (any_of HT_.out (by kernel_rfl)) (fun _ _ _ h => h) (Or.inl ⟨by rfl, ?_⟩) ?_ ?_
      rotate_left
      · intro w'
        go_simp
        with_reducible rfl
      rotate_left
      · simp only [Act.put, List.setIfInBounds_toArray, List.set_cons_zero, List.set_cons_succ, i64_w, i32_w]
        rfl
      refine take_ (i := 3) (N := some 21) (v := ?_) (a' := ?_) #[true, true, true, true, false, false, false, false, false, false, false] rfl rfl (take_ofW HT_.out HW_.out (by kernel_rfl)) (fun _ _ _ h => h) (Or.inl ⟨by rfl, ?_⟩) hHeld ?_ ?_
      rotate_left
      · rintro w' ⟨s1, s2, s3, s4, s5⟩
        go_simp
        with_reducible rfl
      rotate_left
      · simp only [Act.put, List.setIfInBounds_toArray, List.set_cons_zero, List.set_cons_succ, i64_w, i32_w]
        rfl
      refine pure_ (i := 4) (N := some 22) (v := ?_) (a' := ?_) #[true, true, true, true, true, false, false, false, false, false, false] rfl rfl (any_of HT_.out (by kernel_rfl)) (fun _ _ _ h => h) (Or.inl ⟨by rfl, ?_⟩) ?_ ?_
      rotate_left
      · intro w'
        go_simp
        with_reducible rfl
      rotate_left
      · simp only [Act.put, List.setIfInBounds_toArray, List.set_cons_zero, List.set_cons_succ, i64_w, i32_w]
        rfl
      refine pure_ (i := 5) (N := some 23) (v := ?_) (a' := ?_) #[true, true, true, true, true, true, false, false, false, false, false] rfl rfl (any_of HT_.out (by kernel_rfl)) (fun _ _ _ h => h) (Or.inl ⟨by rfl, ?_⟩) ?_ ?_
      rotate_left
      · intro w'
        go_simp
        with_reducible rfl
      rotate_left
      · simp only [Act.put, List.setIfInBounds_toArray, List.set_cons_zero, List.set_cons_succ, i64_w, i32_w]
        rfl
      refine pure_ (i := 6) (N := some 24) (v := ?_) (a' := ?_) #[true, true, true, true, true, true, true, false, false, false, false] rfl rfl (any_of HT_.out (by kernel_rfl)) (fun _ _ _ h => h) (Or.inl ⟨by rfl, ?_⟩) ?_ ?_
      rotate_left
      · intro w'
        go_simp
        with_reducible rfl
      rotate_left
      · simp only [Act.put, List.setIfInBounds_toArray, List.set_cons_zero, List.set_cons_succ, i64_w, i32_w]
        rfl
      refine take_ (i := 7) (N := some 25) (v := ?_) (a' := ?_) #[true, true, true, true, true, true, true, true, false, false, false] rfl rfl (take_ofW HT_.out HW_.out (by kernel_rfl)) (fun _ _ _ h => h) (Or.inl ⟨by rfl, ?_⟩) hHeld ?_ ?_
      rotate_left
      · rintro w' ⟨s1, s2, s3, s4, s5⟩
        go_simp
        with_reducible rfl
      rotate_left
      · simp only [Act.put, List.setIfInBounds_toArray, List.set_cons_zero, List.set_cons_succ, i64_w, i32_w]
        rfl
      refine take_ (i := 8) (N := some 26) (v := ?_) (a' := ?_) #[true, true, true, true, true, true, true, true, true, false, false] rfl rfl (take_ofW HT_.out HW_.out (by kernel_rfl)) (fun _ _ _ h => h) (Or.inl ⟨by rfl, ?_⟩) hHeld ?_ ?_
      rotate_left
      · rintro w' ⟨s1, s2, s3, s4, s5⟩
        go_simp
        with_reducible rfl
      rotate_left
      · simp only [Act.put, List.setIfInBounds_toArray, List.set_cons_zero, List.set_cons_succ, i64_w, i32_w]
        rfl
      refine pure_ (i := 9) (N := some 27) (v := ?_) (a' := ?_) #[true, true, true, true, true, true, true, true, true, true, false] rfl rfl (any_of HT_.out (by kernel_rfl)) (fun _ _ _ h => h) (Or.inl ⟨by rfl, ?_⟩) ?_ ?_
      rotate_left
      · intro w'
        go_simp
        with_reducible rfl
      rotate_left
      · simp only [Act.put, List.setIfInBounds_toArray, List.set_cons_zero, List.set_cons_succ, i64_w, i32_w]
        rfl
      refine last_ (i := 10) (N := some 28) #[true, true, true, true, true, true, true, true, true, true, true] rfl rfl (one_of HT_.out (by kernel_rfl)) (by decide) (fun K hK => ?_)
      refine goes_ Try.func33 (by kernel_rfl) rfl #[.agg #[.int .i64 s.x, .int .i64 s.y], .agg #[.int .i64 ax, .int .i64 ay], .int .i64 r] (by rfl) rfl rfl (by (try simp only [List.map_toArray, List.map_cons, List.map_nil]); first | done | rfl) ?_
      with_reducible refine (rwithin_calls s.x s.y ax ay r hsx hsy hax hay _).mono ?_
      rintro e w5 ⟨rfl, hb5⟩
      refine ⟨_, rfl, ?_⟩
      refine hK.out _ _ ?_
      clear hK K
      refine norm_ (a' := ?_) ?_ ?_
      rotate_left
      · show Act.put _ (some 28) _ = _
        simp only [Act.put, List.setIfInBounds_toArray, List.set_cons_zero, List.set_cons_succ, i64_w, i32_w]
        rfl
      refine done_ (done_of HT_.out (by kernel_rfl)) ?_
      clear hHeld HT_ HW_ hr d0 d1 d2 q0 q1
      have hb5' : Below wr.heap.size wr w5 := below_step (by repeat (first | (with_reducible first | exact Below.refl _ _ | apply below_alloc | apply pw_below_drewN | apply below_drew1) | exact Below.refl _ _)) hb5
      have n1_ := Aside0.mk (Kd.R_below HO.out hb5')
      have n2_ := Aside0.mk ((hb5'.block _ (blk_lt BX.out)).trans BX.out)
      have n3_ := Aside0.mk (below_step HB.out hb5')
      clear HO BX HB hb5 hb5'
      have HO := n1_
      have BX := n2_
      have HB := n3_
      clear n1_ n2_ n3_
      obtain ⟨bw, hbw⟩ : ∃ bw, wi s.x s.y ax ay r = bw := ⟨_, rfl⟩
      rw [hbw]
      have HW := Aside0.mk hbw
      clear hbw
      cases bw
      · go_wp2
        have e := KA.out; have eL := HL.out; rw [wrap_id (x := a + 1) (by unfold I64; omega)]; have en : (a + 1).toNat = a.toNat + 1 := by omega
        refine ⟨⟨a + 1, rfl, by omega, by omega, ?_, BX.out, (by repeat (first | (with_reducible first | exact HB.out | apply below_alloc | apply pw_below_drewN | apply below_drew1) | exact HB.out))⟩, by simp only [intOf]; omega⟩
        rw [en, inL_take HS.out, HW.out, if_neg Bool.false_ne_true]
        exact HO.out
      · have hr := (HR.out.below HB.out).cell
        obtain ⟨ad9, s9, hs9, e9, f0, f1, f2⟩ := at_Th (Kd.C_below HC.out HB.out) a KA.out.1 KA.out.2.2
        cases e9
        cases (Option.some.inj (HS.out.symm.trans hs9))
        clear hs9
        go_wp2_with (first | (at_builtin; refine wpList_app (w.heap.size + 1) rfl _ _ rfl u7 (inL (L.take a.toNat) ax ay r) [s.id] (some ⟨w5.heap.size, 0, none⟩) 1 1 (fun _ => True) rfl rfl (Kd.R_alloc HO.out _) (one_C (new_cell w5 #[.int .i64 s.id] 3 rfl)) (fun _ _ => trivial) (by have := blk_lt BX.out; have := HB.out.size; simp; omega) (by have := HN.out; simp; omega) ?_; intro v1 w6 hR6 hg6 hat6; have HR6 := Aside0.mk hR6; have HG6 := Aside0.mk hg6; clear hR6 hg6 hat6))
        have e := KA.out; have eL := HL.out; rw [wrap_id (x := a + 1) (by unfold I64; omega)]; have en : (a + 1).toNat = a.toNat + 1 := by omega
        have hob := fun k hk => Kd.R_base HO.out k hk
        refine ⟨⟨a + 1, rfl, by omega, by omega, ?_, ?_, ?_⟩, by simp only [intOf]; omega⟩
        · rw [en, inL_take HS.out, HW.out, if_pos rfl]
          exact HR6.out
        · exact (HG6.out.block _ (by have := blk_lt BX.out; simp; omega) (fun e => by have := hob _ e.symm; omega)).trans ((heap_alloc_old _ _ (blk_lt BX.out)).trans BX.out)
        · exact Below.grown (B := w.heap.size) (a := w) (below_step HB.out (by repeat (first | (with_reducible first | exact Below.refl _ _ | apply below_alloc | apply pw_below_drewN | apply below_drew1) | exact Below.refl _ _))) HG6.out (by have := blk_lt BX.out; simp; omega) (fun k hk => by have := hob k hk; omega)
    · have kb : decide (a < (L.length : Int)) = false := decide_eq_false hk
      have ee : L.take a.toNat = L := List.take_of_length_le (by omega)
      rw [ee] at HO
      obtain ⟨A6, c6, e6⟩ := Kd.R_slice HO.out
      subst e6
      clear hk h0 h1 hCw ee
      go_wp2
      go_ret
      exact ⟨_, rfl, Kd.R_lower HO.out (Nat.le_succ _), (by repeat (first | (with_reducible first | exact HB.out | apply below_alloc | apply pw_below_drewN | apply below_drew1) | exact HB.out))⟩
end Go.Proofs.Ytggmfmlfkhcbdaa.Gr
