/- Calls that only lay new blocks: what the comparisons read. -/
import Derived.Test.YtggmfmlfkhcbdaaG9
import Derived.Shelf.SlSortCmp.NoneTotal
import Derived.Deep.Draws
namespace Go.Proofs.Ytggmfmlfkhcbdaa.Gr
open Go Go.RowKit Go.Maps Go.Sort Go.Proofs.YtggmfmlfkhcbdaaW.PrintWords Go.Proofs.YtggmfmlfkhcbdaaW.PrintLast Go.Proofs.YtggmfmlfkhcbdaaW.PrintMore
set_option linter.unusedVariables false
set_option linter.unusedSimpArgs false
attribute [local go_sem] max2_int min2_int max_two min_two max_three min_three max_four min_four

def T_38_1 : Bool × List (List Nat × List Nat) := (true, [([], []), ([0], [0]), ([], []), ([2], [2]), ([1, 3], [1, 3]), ([4, 4], [4]), ([], []), ([6], [6]), ([], []), ([8], [8]), ([7, 9, 5], [7, 9]), ([10, 10], [10]), ([5, 11, 0, 1, 2, 3, 4, 5], [5]), ([11, 12, 0, 1, 2, 3, 4, 5, 6, 7, 8, 9, 10, 11, 12], [11])])
def B_38_1 : List Nat := [0, 1, 0, 4, 15, 31, 0, 64, 0, 256, 1023, 2047, 4095, 8191]
theorem tab_f38_1 : rtab .any (opsOf Try.f38 1) = T_38_1 := by kernel_rfl
theorem bits_f38_1 : waitsOk T_38_1.2 B_38_1 = true := by kernel_rfl

/-- From w to w': draws, and new blocks behind. -/
def Lay (w w' : World) : Prop := ∃ q os, w' = grow (w.drewN q) os
theorem Lay.refl (w : World) : Lay w w := ⟨0, #[], by rw [grow_empty]; rfl⟩
theorem Lay.trans {w w1 w2 : World} (h : Lay w w1) (k : Lay w1 w2) : Lay w w2 := by
  obtain ⟨q, os, rfl⟩ := h
  obtain ⟨q', os', rfl⟩ := k
  refine ⟨q + q', os ++ os', ?_⟩
  unfold grow World.drewN
  simp [Array.append_assoc, Nat.add_assoc]
theorem Lay.alloc {w w' : World} (h : Lay w w') (o : Obj) : Lay w (w'.alloc o) := h.trans ⟨0, #[o], by rw [alloc_eq_grow]; rfl⟩
theorem Lay.drew {w w' : World} (h : Lay w w') : Lay w w'.drew := h.trans ⟨1, #[], by rw [grow_empty]; rfl⟩
theorem Lay.drewN {w w' : World} (h : Lay w w') (n : Nat) : Lay w (w'.drewN n) := h.trans ⟨n, #[], by rw [grow_empty]⟩
theorem Lay.drawn {w w' w2 : World} (h : Lay w w') (k : Drawn0 w' w2) : Lay w w2 := by
  obtain ⟨n, rfl⟩ := k
  exact h.drewN n
theorem Lay.below {w w' : World} (h : Lay w w') : Below w.heap.size w w' := by
  obtain ⟨q, os, rfl⟩ := h
  refine ⟨rfl, rfl, rfl, by simp [grow, World.drewN], fun k hk => ?_⟩
  unfold grow World.drewN
  simp only [Array.getElem?_append, hk, if_true]

theorem within47 (d : Int) (w : World) : Calls Try.prog 47 #[.int .i64 d, .int .i64 (-2147483647), .int .i64 2147483647] w fun e w' => e = .returned (.int .i64 (mn (mx d (-2147483647)) 2147483647)) ∧ w' = w := by
  go_enter Try.func47, Try.ntmps47
  unfold mn mx
  go_wp2
  all_goals (go_ret; refine ⟨?_, rfl⟩; first | rfl | (congr 2; done) | (congr 2; omega))
theorem less48 (a b : Int) (d : Int) (h : QQA.vec_less.f 1 a b = some d) (w : World) : Calls Try.prog 48 #[.int .i64 a, .int .i64 b] w fun e w' => e = .returned (.int .i64 d) ∧ Drawn0 w w' := QQA.vec_less.calls 1 a b d w h

theorem way_calls (x y a b : Int) (hx : I64 x) (hy : I64 y) (ha : I64 a) (hb : I64 b) (w : World) :
    Calls Try.prog 38 #[.agg #[.int .i64 x, .int .i64 y], .agg #[.int .i64 a, .int .i64 b]] w fun e w' => e = .returned (.tuple #[.int .i64 (c31 (a - x)), .int .i64 (c31 (b - y))]) ∧ Lay w w' := by
  obtain ⟨d1, l1, m1⟩ := less_f a x ha hx
  obtain ⟨d2, l2, m2⟩ := less_f b y hb hy
  rw [← m1, ← m2]
  clear m1 m2
  have L1 := Aside0.mk l1
  have L2 := Aside0.mk l2
  go_enter Try.func38, Try.ntmps38
  go_wp2
  have s1 : ((w.alloc (.cells #[.int .i64 x, .int .i64 y] 32)).alloc (.cells #[.int .i64 a, .int .i64 b] 32)).cell? ⟨w.heap.size, 0, none⟩ = some (.int .i64 x) := new_cell2 _ _ rfl
  have s2 : ((w.alloc (.cells #[.int .i64 x, .int .i64 y] 32)).alloc (.cells #[.int .i64 a, .int .i64 b] 32)).cell? ⟨w.heap.size, 1, none⟩ = some (.int .i64 y) := new_cell2 _ _ rfl
  have hs : (w.alloc (.cells #[.int .i64 x, .int .i64 y] 32)).heap.size = w.heap.size + 1 := by simp
  have s3 := new_cell (w.alloc (.cells #[.int .i64 x, .int .i64 y] 32)) #[.int .i64 a, .int .i64 b] 32 (i := 0) rfl
  have s4 := new_cell (w.alloc (.cells #[.int .i64 x, .int .i64 y] 32)) #[.int .i64 a, .int .i64 b] 32 (i := 1) rfl
  rw [hs] at s3 s4
  refine start_ (n := 14) (S := fun w' => w'.cell? ⟨w.heap.size, 0, none⟩ = some (.int .i64 x) ∧ w'.cell? ⟨w.heap.size, 1, none⟩ = some (.int .i64 y) ∧ w'.cell? ⟨w.heap.size + 1, 0, none⟩ = some (.int .i64 a) ∧ w'.cell? ⟨w.heap.size + 1, 1, none⟩ = some (.int .i64 b)) (ds := []) #[false, false, false, false, false, false, false, false, false, false, false, false, false, false] (by kernel_rfl) rfl rfl ⟨s1, s2, s3, s4⟩ (fun hHeld => ?_)
  refine with_tabW tab_f38_1 bits_f38_1 (fun HT_ HW_ => ?_)
  refine pure_ (i := 0) (N := some 6) (v := ?_) (a' := ?_) #[true, false, false, false, false, false, false, false, false, false, false, false, false, false] rfl rfl (any_of HT_.out (by kernel_rfl)) (fun _ _ _ h => h) (Or.inl ⟨by rfl, ?_⟩) ?_ ?_
  rotate_left
  · intro w'
    go_simp
    with_reducible rfl
  rotate_left
  · simp only [Act.put, List.setIfInBounds_toArray, List.set_cons_zero, List.set_cons_succ, i64_w, i32_w]
    rfl
  refine take_ (i := 1) (N := some 7) (v := ?_) (a' := ?_) #[true, true, false, false, false, false, false, false, false, false, false, false, false, false] rfl rfl (take_ofW HT_.out HW_.out (by kernel_rfl)) (fun _ _ _ h => h) (Or.inl ⟨by rfl, ?_⟩) hHeld ?_ ?_
  rotate_left
  · rintro w' ⟨s1, s2, s3, s4⟩
    go_simp
    with_reducible rfl
  rotate_left
  · simp only [Act.put, List.setIfInBounds_toArray, List.set_cons_zero, List.set_cons_succ, i64_w, i32_w]
    rfl
  refine pure_ (i := 2) (N := some 8) (v := ?_) (a' := ?_) #[true, true, true, false, false, false, false, false, false, false, false, false, false, false] rfl rfl (any_of HT_.out (by kernel_rfl)) (fun _ _ _ h => h) (Or.inl ⟨by rfl, ?_⟩) ?_ ?_
  rotate_left
  · intro w'
    go_simp
    with_reducible rfl
  rotate_left
  · simp only [Act.put, List.setIfInBounds_toArray, List.set_cons_zero, List.set_cons_succ, i64_w, i32_w]
    rfl
  refine take_ (i := 3) (N := some 9) (v := ?_) (a' := ?_) #[true, true, true, true, false, false, false, false, false, false, false, false, false, false] rfl rfl (take_ofW HT_.out HW_.out (by kernel_rfl)) (fun _ _ _ h => h) (Or.inl ⟨by rfl, ?_⟩) hHeld ?_ ?_
  rotate_left
  · rintro w' ⟨s1, s2, s3, s4⟩
    go_simp
    with_reducible rfl
  rotate_left
  · simp only [Act.put, List.setIfInBounds_toArray, List.set_cons_zero, List.set_cons_succ, i64_w, i32_w]
    rfl
  refine pure_ (i := 6) (N := some 12) (v := ?_) (a' := ?_) #[true, true, true, true, false, false, true, false, false, false, false, false, false, false] rfl rfl (any_of HT_.out (by kernel_rfl)) (fun _ _ _ h => h) (Or.inl ⟨by rfl, ?_⟩) ?_ ?_
  rotate_left
  · intro w'
    go_simp
    with_reducible rfl
  rotate_left
  · simp only [Act.put, List.setIfInBounds_toArray, List.set_cons_zero, List.set_cons_succ, i64_w, i32_w]
    rfl
  refine take_ (i := 7) (N := some 13) (v := ?_) (a' := ?_) #[true, true, true, true, false, false, true, true, false, false, false, false, false, false] rfl rfl (take_ofW HT_.out HW_.out (by kernel_rfl)) (fun _ _ _ h => h) (Or.inl ⟨by rfl, ?_⟩) hHeld ?_ ?_
  rotate_left
  · rintro w' ⟨s1, s2, s3, s4⟩
    go_simp
    with_reducible rfl
  rotate_left
  · simp only [Act.put, List.setIfInBounds_toArray, List.set_cons_zero, List.set_cons_succ, i64_w, i32_w]
    rfl
  refine pure_ (i := 8) (N := some 14) (v := ?_) (a' := ?_) #[true, true, true, true, false, false, true, true, true, false, false, false, false, false] rfl rfl (any_of HT_.out (by kernel_rfl)) (fun _ _ _ h => h) (Or.inl ⟨by rfl, ?_⟩) ?_ ?_
  rotate_left
  · intro w'
    go_simp
    with_reducible rfl
  rotate_left
  · simp only [Act.put, List.setIfInBounds_toArray, List.set_cons_zero, List.set_cons_succ, i64_w, i32_w]
    rfl
  refine take_ (i := 9) (N := some 15) (v := ?_) (a' := ?_) #[true, true, true, true, false, false, true, true, true, true, false, false, false, false] rfl rfl (take_ofW HT_.out HW_.out (by kernel_rfl)) (fun _ _ _ h => h) (Or.inl ⟨by rfl, ?_⟩) hHeld ?_ ?_
  rotate_left
  · rintro w' ⟨s1, s2, s3, s4⟩
    go_simp
    with_reducible rfl
  rotate_left
  · simp only [Act.put, List.setIfInBounds_toArray, List.set_cons_zero, List.set_cons_succ, i64_w, i32_w]
    rfl
  refine one_ (i := 4) (N := some 10) #[true, true, true, true, true, false, true, true, true, true, false, false, false, false] rfl rfl (one_of HT_.out (by kernel_rfl)) (by decide) (fun K hK => ?_)
  refine goes_ Try.func48 (by kernel_rfl) rfl #[.int .i64 a, .int .i64 x] (by rfl) rfl rfl (by (try simp only [List.map_toArray, List.map_cons, List.map_nil]); first | done | rfl) ?_
  with_reducible refine (less48 a x d1 l1 _).mono ?_
  rintro e w5 ⟨rfl, ⟨n1, rfl⟩⟩
  refine ⟨_, rfl, ?_⟩
  refine hK.out _ _ hHeld (fun hHeld => ?_)
  clear hK K
  refine norm_ (a' := ?_) ?_ ?_
  rotate_left
  · show Act.put _ (some 10) _ = _
    simp only [Act.put, List.setIfInBounds_toArray, List.set_cons_zero, List.set_cons_succ, i64_w, i32_w]
    rfl
  refine one_ (i := 5) (N := some 11) #[true, true, true, true, true, true, true, true, true, true, false, false, false, false] rfl rfl (one_of HT_.out (by kernel_rfl)) (by decide) (fun K hK => ?_)
  refine goes_ Try.func47 (by kernel_rfl) rfl #[.int .i64 d1, .int .i64 (-2147483647), .int .i64 2147483647] (by rfl) rfl rfl (by (try simp only [List.map_toArray, List.map_cons, List.map_nil]); first | done | rfl) ?_
  with_reducible refine (within47 d1 _).mono ?_
  rintro e w6 ⟨rfl, rfl⟩
  refine ⟨_, rfl, ?_⟩
  refine hK.out _ _ hHeld (fun hHeld => ?_)
  clear hK K
  refine norm_ (a' := ?_) ?_ ?_
  rotate_left
  · show Act.put _ (some 11) _ = _
    simp only [Act.put, List.setIfInBounds_toArray, List.set_cons_zero, List.set_cons_succ, i64_w, i32_w]
    rfl
  refine one_ (i := 10) (N := some 16) #[true, true, true, true, true, true, true, true, true, true, true, false, false, false] rfl rfl (one_of HT_.out (by kernel_rfl)) (by decide) (fun K hK => ?_)
  refine goes_ Try.func48 (by kernel_rfl) rfl #[.int .i64 b, .int .i64 y] (by rfl) rfl rfl (by (try simp only [List.map_toArray, List.map_cons, List.map_nil]); first | done | rfl) ?_
  with_reducible refine (less48 b y d2 l2 _).mono ?_
  rintro e w7 ⟨rfl, ⟨n2, rfl⟩⟩
  refine ⟨_, rfl, ?_⟩
  refine hK.out _ _ hHeld (fun hHeld => ?_)
  clear hK K
  refine norm_ (a' := ?_) ?_ ?_
  rotate_left
  · show Act.put _ (some 16) _ = _
    simp only [Act.put, List.setIfInBounds_toArray, List.set_cons_zero, List.set_cons_succ, i64_w, i32_w]
    rfl
  refine one_ (i := 11) (N := some 17) #[true, true, true, true, true, true, true, true, true, true, true, true, false, false] rfl rfl (one_of HT_.out (by kernel_rfl)) (by decide) (fun K hK => ?_)
  refine goes_ Try.func47 (by kernel_rfl) rfl #[.int .i64 d2, .int .i64 (-2147483647), .int .i64 2147483647] (by rfl) rfl rfl (by (try simp only [List.map_toArray, List.map_cons, List.map_nil]); first | done | rfl) ?_
  with_reducible refine (within47 d2 _).mono ?_
  rintro e w8 ⟨rfl, rfl⟩
  refine ⟨_, rfl, ?_⟩
  refine hK.out _ _ hHeld (fun hHeld => ?_)
  clear hK K
  refine norm_ (a' := ?_) ?_ ?_
  rotate_left
  · show Act.put _ (some 17) _ = _
    simp only [Act.put, List.setIfInBounds_toArray, List.set_cons_zero, List.set_cons_succ, i64_w, i32_w]
    rfl
  refine pure_ (i := 12) (N := some 4) (v := ?_) (a' := ?_) #[true, true, true, true, true, true, true, true, true, true, true, true, true, false] rfl rfl (any_of HT_.out (by kernel_rfl)) (fun _ _ _ h => h) (Or.inl ⟨by rfl, ?_⟩) ?_ ?_
  rotate_left
  · intro w'
    go_simp
    with_reducible rfl
  rotate_left
  · simp only [Act.put, List.setIfInBounds_toArray, List.set_cons_zero, List.set_cons_succ, i64_w, i32_w]
    rfl
  refine pure_ (i := 13) (N := some 5) (v := ?_) (a' := ?_) #[true, true, true, true, true, true, true, true, true, true, true, true, true, true] rfl rfl (any_of HT_.out (by kernel_rfl)) (fun _ _ _ h => h) (Or.inl ⟨by rfl, ?_⟩) ?_ ?_
  rotate_left
  · intro w'
    go_simp
    with_reducible rfl
  rotate_left
  · simp only [Act.put, List.setIfInBounds_toArray, List.set_cons_zero, List.set_cons_succ, i64_w, i32_w]
    rfl
  refine done_ (done_of HT_.out (by kernel_rfl)) ?_
  go_wp2
  go_ret2
  exact ⟨rfl, (by repeat (first | exact Lay.refl _ | apply Lay.alloc | apply Lay.drewN | apply Lay.drew))⟩
theorem dist_calls (x y a b : Int) (hx : I64 x) (hy : I64 y) (ha : I64 a) (hb : I64 b) (w : World) :
    Calls Try.prog 26 #[.agg #[.int .i64 x, .int .i64 y], .agg #[.int .i64 a, .int .i64 b]] w fun e w' => e = .returned (.int .i64 (dd x y a b)) ∧ Lay w w' := by
  have hw := fun W => way_calls x y a b hx hy ha hb W
  have h1 := sq_le (c31_le (a - x)).1 (c31_le (a - x)).2
  have h2 := sq_le (c31_le (b - y)).1 (c31_le (b - y)).2
  have e1 : wrap64 (c31 (a - x) * c31 (a - x)) = c31 (a - x) * c31 (a - x) := wrap_id (by unfold I64; omega)
  have e2 : wrap64 (c31 (b - y) * c31 (b - y)) = c31 (b - y) * c31 (b - y) := wrap_id (by unfold I64; omega)
  have e3 : wrap64 (c31 (a - x) * c31 (a - x) + c31 (b - y) * c31 (b - y)) = c31 (a - x) * c31 (a - x) + c31 (b - y) * c31 (b - y) := wrap_id (by unfold I64; omega)
  clear h1 h2
  unfold dd
  go_enter Try.func26, Try.ntmps26
  go_wp2_with (go_at_call 38; (with_reducible refine (hw _).mono ?_); rintro e w1 ⟨rfl, hl1⟩)
  go_ret
  exact ⟨by simp only [e1, e2, e3]; rfl, Lay.trans (by repeat (first | exact Lay.refl _ | apply Lay.alloc | apply Lay.drewN | apply Lay.drew)) hl1⟩
end Go.Proofs.Ytggmfmlfkhcbdaa.Gr
