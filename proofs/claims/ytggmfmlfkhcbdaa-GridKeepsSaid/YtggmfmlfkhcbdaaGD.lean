/- The comparison of Nearest. -/
import Derived.Test.YtggmfmlfkhcbdaaGC
namespace Go.Proofs.Ytggmfmlfkhcbdaa.Gr
open Go Go.RowKit Go.Maps Go.Proofs.YtggmfmlfkhcbdaaW.PrintWords Go.Proofs.YtggmfmlfkhcbdaaW.PrintLast Go.Proofs.YtggmfmlfkhcbdaaW.PrintMore
set_option linter.unusedVariables false
set_option linter.unusedSimpArgs false

/-- -1, 0 or 1. -/
def cmp3 (a b : Int) : Int := if a < b then -1 else if a > b then 1 else 0
theorem cmp_f (a b : Int) : QQA.cmp_Compare_int.f a b = some (cmp3 a b) := by
  unfold QQA.cmp_Compare_int.f QQA.cmp_isNaN_int.f cmp3
  simp only [bne_self_eq_false, Option.bind_some, Bool.false_eq_true, if_false]
  repeat' split
  all_goals rfl
theorem cmp64_f (a b : Int) : QQA.cmp_Compare_int64.f a b = some (cmp3 a b) := by
  unfold QQA.cmp_Compare_int64.f QQA.cmp_isNaN_int64.f cmp3
  simp only [bne_self_eq_false, Option.bind_some, Bool.false_eq_true, if_false]
  repeat' split
  all_goals rfl
theorem cmp_calls (a b : Int) (w : World) : Calls Try.prog 32 #[.int .i64 a, .int .i64 b] w fun e w' => e = .returned (.int .i64 (cmp3 a b)) ∧ Drawn0 w w' := QQA.cmp_Compare_int.calls a b _ w (cmp_f a b)
theorem cmp64_calls (a b : Int) (w : World) : Calls Try.prog 36 #[.int .i64 a, .int .i64 b] w fun e w' => e = .returned (.int .i64 (cmp3 a b)) ∧ Drawn0 w w' := QQA.cmp_Compare_int64.calls a b _ w (cmp64_f a b)
theorem or_calls (x y z : Int) (hz : z = if x = 0 then y else x) (b0 : Nat) (w : World) (c0 : w.cell? ⟨b0, 0, none⟩ = some (.int .i64 x)) (c1 : w.cell? ⟨b0, 1, none⟩ = some (.int .i64 y)) :
    Calls Try.prog 35 #[.slice (some ⟨b0, 0, none⟩) 2 2] w fun e w' => e = .returned (.int .i64 z) ∧ w' = w := by
  have HZ := Aside0.mk hz
  clear hz
  go_enter Try.func35, Try.ntmps35
  go_wp2
  go_loopw [8] (fun kv wr => wr = w ∧ ((kv = .int .i64 0) ∨ (kv = .int .i64 1 ∧ x = 0) ∨ (kv = .int .i64 2 ∧ x = 0 ∧ y = 0))) (fun kv _ => (3 - intOf kv).toNat)
  case atStart => exact ⟨rfl, Or.inl rfl⟩
  case round =>
    obtain ⟨rfl, hk⟩ := hrel
    rcases hk with rfl | ⟨rfl, hx⟩ | ⟨rfl, hx, hy⟩
    · by_cases hx : x = 0
      · have q : (x == 0) = true := beq_iff_eq.2 hx
        have HX := Aside0.mk hx
        clear hx
        go_wp2
        exact ⟨⟨trivial, Or.inr (Or.inl ⟨rfl, HX.out⟩)⟩, by decide⟩
      · have q : (x == 0) = false := beq_eq_false_iff_ne.2 hx
        have HX := Aside0.mk hx
        clear hx
        go_wp2
        go_ret
        rw [HZ.out, if_neg HX.out]
        exact ⟨rfl, rfl⟩
    · by_cases hy : y = 0
      · have q : (y == 0) = true := beq_iff_eq.2 hy
        have HX := Aside0.mk hx
        have HY := Aside0.mk hy
        clear hx hy
        go_wp2
        exact ⟨⟨trivial, Or.inr (Or.inr ⟨rfl, HX.out, HY.out⟩)⟩, by decide⟩
      · have q : (y == 0) = false := beq_eq_false_iff_ne.2 hy
        have HX := Aside0.mk hx
        clear hx hy
        go_wp2
        go_ret
        rw [HZ.out, if_pos HX.out]
        exact ⟨rfl, rfl⟩
    · have HX := Aside0.mk hx
      have HY := Aside0.mk hy
      clear hx hy
      go_wp2
      go_ret
      rw [HZ.out, if_pos HX.out, HY.out]
      exact ⟨rfl, rfl⟩

/-- By distance, then by id. -/
def dq (L : List Th) (ax ay i : Int) : Int := dd (atL L i).1 (atL L i).2 ax ay
def near3 (L : List Th) (ax ay i j : Int) : Int := if cmp3 (dq L ax ay i) (dq L ax ay j) = 0 then cmp3 i j else cmp3 (dq L ax ay i) (dq L ax ay j)

set_option maxHeartbeats 4000000 in
set_option maxRecDepth 10000 in
theorem nearer_calls {w : World} {gb pb cb : Nat} {F : Nat → Prop} {side : Int} {n : Nat} {L : List Th} {hd : Int → Int → Hd} {rows : Int → Int → List Int} (h : GridIn w gb pb cb F side n L hd rows) {b : Nat} {ax ay : Int} (hax : I64 ax) (hay : I64 ay)
    (k0 : w.heap[b]? = some (.cells #[.pointer (some ⟨gb, 0, none⟩)] 24)) (k1 : w.heap[b + 1]? = some (.cells #[.int .i64 ax, .int .i64 ay] 32)) {i j : Int} (hi : I64 i) (hj : I64 j) :
    Calls Try.prog 34 #[.int .i64 i, .int .i64 j, .pointer (some ⟨b, 0, none⟩), .pointer (some ⟨b + 1, 0, none⟩)] w fun e w' => e = .returned (.int .i64 (near3 L ax ay i j)) ∧ Lay w w' := by
  obtain ⟨hi1, hi2⟩ := atL_wf h.wf i
  obtain ⟨hj1, hj2⟩ := atL_wf h.wf j
  have hS : ∀ w', Below w.heap.size w w' → w'.cell? ⟨b, 0, none⟩ = some (.pointer (some ⟨gb, 0, none⟩)) ∧ w'.cell? ⟨gb, 1, none⟩ = some (.map (some pb)) ∧ w'.cell? ⟨b + 1, 0, none⟩ = some (.int .i64 ax) ∧ w'.cell? ⟨b + 1, 1, none⟩ = some (.int .i64 ay) ∧ (Instr.lookup 52 (.map (some pb)) (.int .i64 i) false).run Try.prog w' = .ok (.agg #[.int .i64 (atL L i).1, .int .i64 (atL L i).2]) w' ∧ (Instr.lookup 52 (.map (some pb)) (.int .i64 j) false).run Try.prog w' = .ok (.agg #[.int .i64 (atL L j).1, .int .i64 (atL L j).2]) w' := by
    intro w' hb
    have h' := h.below hb
    exact ⟨below_cell hb ((blk_cell k0 0).trans rfl), h'.c1, below_cell hb ((blk_cell k1 0).trans rfl), below_cell hb ((blk_cell k1 1).trans rfl), (h'.look hi).2, (h'.look hj).2⟩
  have HS := Aside0.mk hS
  have HL := Aside0.mk (Lay.refl w)
  clear h hS k0 k1
  go_enter Try.func34, Try.ntmps34
  go_wp2
  refine start_ (n := 23) (S := fun w' => w'.cell? ⟨b, 0, none⟩ = some (.pointer (some ⟨gb, 0, none⟩)) ∧ w'.cell? ⟨gb, 1, none⟩ = some (.map (some pb)) ∧ w'.cell? ⟨b + 1, 0, none⟩ = some (.int .i64 ax) ∧ w'.cell? ⟨b + 1, 1, none⟩ = some (.int .i64 ay) ∧ (Instr.lookup 52 (.map (some pb)) (.int .i64 i) false).run Try.prog w' = .ok (.agg #[.int .i64 (atL L i).1, .int .i64 (atL L i).2]) w' ∧ (Instr.lookup 52 (.map (some pb)) (.int .i64 j) false).run Try.prog w' = .ok (.agg #[.int .i64 (atL L j).1, .int .i64 (atL L j).2]) w') (ds := []) #[false, false, false, false, false, false, false, false, false, false, false, false, false, false, false, false, false, false, false, false, false, false, false] (by kernel_rfl) rfl rfl (HS.out _ (Lay.below (by repeat (first | exact HL.out | apply Lay.alloc | apply Lay.drewN | apply Lay.drew)))) (fun hHeld => ?_)
  refine with_tabW tab_f34_1 bits_f34_1 (fun HT_ HW_ => ?_)
  refine take_ (i := 0) (N := some 7) (v := ?_) (a' := ?_) #[true, false, false, false, false, false, false, false, false, false, false, false, false, false, false, false, false, false, false, false, false, false, false] rfl rfl (take_ofW HT_.out HW_.out (by kernel_rfl)) (fun _ _ _ h => h) (Or.inl ⟨by rfl, ?_⟩) hHeld ?_ ?_
  rotate_left
  · rintro w' ⟨s1, s2, s3, s4, s5, s6⟩
    go_simp
    with_reducible rfl
  rotate_left
  · simp only [Act.put, List.setIfInBounds_toArray, List.set_cons_zero, List.set_cons_succ, i64_w, i32_w]
    rfl
  refine pure_ (i := 1) (N := some 8) (v := ?_) (a' := ?_) #[true, true, false, false, false, false, false, false, false, false, false, false, false, false, false, false, false, false, false, false, false, false, false] rfl rfl (any_of HT_.out (by kernel_rfl)) (fun _ _ _ h => h) (Or.inl ⟨by rfl, ?_⟩) ?_ ?_
  rotate_left
  · intro w'
    go_simp
    with_reducible rfl
  rotate_left
  · simp only [Act.put, List.setIfInBounds_toArray, List.set_cons_zero, List.set_cons_succ, i64_w, i32_w]
    rfl
  refine pure_ (i := 2) (N := some 9) (v := ?_) (a' := ?_) #[true, true, true, false, false, false, false, false, false, false, false, false, false, false, false, false, false, false, false, false, false, false, false] rfl rfl (any_of HT_.out (by kernel_rfl)) (fun _ _ _ h => h) (Or.inl ⟨by rfl, ?_⟩) ?_ ?_
  rotate_left
  · intro w'
    go_simp
    with_reducible rfl
  rotate_left
  · simp only [Act.put, List.setIfInBounds_toArray, List.set_cons_zero, List.set_cons_succ, i64_w, i32_w]
    rfl
  refine take_ (i := 3) (N := some 10) (v := ?_) (a' := ?_) #[true, true, true, true, false, false, false, false, false, false, false, false, false, false, false, false, false, false, false, false, false, false, false] rfl rfl (take_ofW HT_.out HW_.out (by kernel_rfl)) (fun _ _ _ h => h) (Or.inl ⟨by rfl, ?_⟩) hHeld ?_ ?_
  rotate_left
  · rintro w' ⟨s1, s2, s3, s4, s5, s6⟩
    go_simp
    with_reducible rfl
  rotate_left
  · simp only [Act.put, List.setIfInBounds_toArray, List.set_cons_zero, List.set_cons_succ, i64_w, i32_w]
    rfl
  refine pure_ (i := 4) (N := some 11) (v := ?_) (a' := ?_) #[true, true, true, true, true, false, false, false, false, false, false, false, false, false, false, false, false, false, false, false, false, false, false] rfl rfl (any_of HT_.out (by kernel_rfl)) (fun _ _ _ h => h) (Or.inl ⟨by rfl, ?_⟩) ?_ ?_
  rotate_left
  · intro w'
    go_simp
    with_reducible rfl
  rotate_left
  · simp only [Act.put, List.setIfInBounds_toArray, List.set_cons_zero, List.set_cons_succ, i64_w, i32_w]
    rfl
  refine take_ (i := 5) (N := some 12) (v := ?_) (a' := ?_) #[true, true, true, true, true, true, false, false, false, false, false, false, false, false, false, false, false, false, false, false, false, false, false] rfl rfl (take_ofW HT_.out HW_.out (by kernel_rfl)) (fun _ _ _ h => h) (Or.inl ⟨by rfl, ?_⟩) hHeld ?_ ?_
  rotate_left
  · rintro w' ⟨s1, s2, s3, s4, s5, s6⟩
    go_simp
    with_reducible rfl
  rotate_left
  · simp only [Act.put, List.setIfInBounds_toArray, List.set_cons_zero, List.set_cons_succ, i64_w, i32_w]
    rfl
  refine take_ (i := 6) (N := some 13) (v := ?_) (a' := ?_) #[true, true, true, true, true, true, true, false, false, false, false, false, false, false, false, false, false, false, false, false, false, false, false] rfl rfl (take_ofW HT_.out HW_.out (by kernel_rfl)) (fun _ _ _ h => h) (Or.inl ⟨by rfl, ?_⟩) hHeld ?_ ?_
  rotate_left
  · rintro w' ⟨s1, s2, s3, s4, s5, s6⟩
    go_simp
    with_reducible rfl
  rotate_left
  · simp only [Act.put, List.setIfInBounds_toArray, List.set_cons_zero, List.set_cons_succ, i64_w, i32_w]
    rfl
  refine take_ (i := 8) (N := some 15) (v := ?_) (a' := ?_) #[true, true, true, true, true, true, true, false, true, false, false, false, false, false, false, false, false, false, false, false, false, false, false] rfl rfl (take_ofW HT_.out HW_.out (by kernel_rfl)) (fun _ _ _ h => h) (Or.inl ⟨by rfl, ?_⟩) hHeld ?_ ?_
  rotate_left
  · rintro w' ⟨s1, s2, s3, s4, s5, s6⟩
    go_simp
    with_reducible rfl
  rotate_left
  · simp only [Act.put, List.setIfInBounds_toArray, List.set_cons_zero, List.set_cons_succ, i64_w, i32_w]
    rfl
  refine pure_ (i := 9) (N := some 16) (v := ?_) (a' := ?_) #[true, true, true, true, true, true, true, false, true, true, false, false, false, false, false, false, false, false, false, false, false, false, false] rfl rfl (any_of HT_.out (by kernel_rfl)) (fun _ _ _ h => h) (Or.inl ⟨by rfl, ?_⟩) ?_ ?_
  rotate_left
  · intro w'
    go_simp
    with_reducible rfl
  rotate_left
  · simp only [Act.put, List.setIfInBounds_toArray, List.set_cons_zero, List.set_cons_succ, i64_w, i32_w]
    rfl
  refine pure_ (i := 10) (N := some 17) (v := ?_) (a' := ?_) #[true, true, true, true, true, true, true, false, true, true, true, false, false, false, false, false, false, false, false, false, false, false, false] rfl rfl (any_of HT_.out (by kernel_rfl)) (fun _ _ _ h => h) (Or.inl ⟨by rfl, ?_⟩) ?_ ?_
  rotate_left
  · intro w'
    go_simp
    with_reducible rfl
  rotate_left
  · simp only [Act.put, List.setIfInBounds_toArray, List.set_cons_zero, List.set_cons_succ, i64_w, i32_w]
    rfl
  refine take_ (i := 11) (N := some 18) (v := ?_) (a' := ?_) #[true, true, true, true, true, true, true, false, true, true, true, true, false, false, false, false, false, false, false, false, false, false, false] rfl rfl (take_ofW HT_.out HW_.out (by kernel_rfl)) (fun _ _ _ h => h) (Or.inl ⟨by rfl, ?_⟩) hHeld ?_ ?_
  rotate_left
  · rintro w' ⟨s1, s2, s3, s4, s5, s6⟩
    go_simp
    with_reducible rfl
  rotate_left
  · simp only [Act.put, List.setIfInBounds_toArray, List.set_cons_zero, List.set_cons_succ, i64_w, i32_w]
    rfl
  refine pure_ (i := 12) (N := some 19) (v := ?_) (a' := ?_) #[true, true, true, true, true, true, true, false, true, true, true, true, true, false, false, false, false, false, false, false, false, false, false] rfl rfl (any_of HT_.out (by kernel_rfl)) (fun _ _ _ h => h) (Or.inl ⟨by rfl, ?_⟩) ?_ ?_
  rotate_left
  · intro w'
    go_simp
    with_reducible rfl
  rotate_left
  · simp only [Act.put, List.setIfInBounds_toArray, List.set_cons_zero, List.set_cons_succ, i64_w, i32_w]
    rfl
  refine take_ (i := 13) (N := some 20) (v := ?_) (a' := ?_) #[true, true, true, true, true, true, true, false, true, true, true, true, true, true, false, false, false, false, false, false, false, false, false] rfl rfl (take_ofW HT_.out HW_.out (by kernel_rfl)) (fun _ _ _ h => h) (Or.inl ⟨by rfl, ?_⟩) hHeld ?_ ?_
  rotate_left
  · rintro w' ⟨s1, s2, s3, s4, s5, s6⟩
    go_simp
    with_reducible rfl
  rotate_left
  · simp only [Act.put, List.setIfInBounds_toArray, List.set_cons_zero, List.set_cons_succ, i64_w, i32_w]
    rfl
  refine take_ (i := 14) (N := some 21) (v := ?_) (a' := ?_) #[true, true, true, true, true, true, true, false, true, true, true, true, true, true, true, false, false, false, false, false, false, false, false] rfl rfl (take_ofW HT_.out HW_.out (by kernel_rfl)) (fun _ _ _ h => h) (Or.inl ⟨by rfl, ?_⟩) hHeld ?_ ?_
  rotate_left
  · rintro w' ⟨s1, s2, s3, s4, s5, s6⟩
    go_simp
    with_reducible rfl
  rotate_left
  · simp only [Act.put, List.setIfInBounds_toArray, List.set_cons_zero, List.set_cons_succ, i64_w, i32_w]
    rfl
  refine pure_ (i := 17) (N := some 24) (v := ?_) (a' := ?_) #[true, true, true, true, true, true, true, false, true, true, true, true, true, true, true, false, false, true, false, false, false, false, false] rfl rfl (any_of HT_.out (by kernel_rfl)) (fun _ _ _ h => h) (Or.inl ⟨by rfl, ?_⟩) ?_ ?_
  rotate_left
  · intro w'
    go_simp
    with_reducible rfl
  rotate_left
  · simp only [Act.put, List.setIfInBounds_toArray, List.set_cons_zero, List.set_cons_succ, i64_w, i32_w]
    rfl
  refine pure_ (i := 18) (N := some 25) (v := ?_) (a' := ?_) #[true, true, true, true, true, true, true, false, true, true, true, true, true, true, true, false, false, true, true, false, false, false, false] rfl rfl (any_of HT_.out (by kernel_rfl)) (fun _ _ _ h => h) (Or.inl ⟨by rfl, ?_⟩) ?_ ?_
  rotate_left
  · intro w'
    go_simp
    with_reducible rfl
  rotate_left
  · simp only [Act.put, List.setIfInBounds_toArray, List.set_cons_zero, List.set_cons_succ, i64_w, i32_w]
    rfl
  refine one_ (i := 7) (N := some 14) #[true, true, true, true, true, true, true, true, true, true, true, true, true, true, true, false, false, true, true, false, false, false, false] rfl rfl (one_of HT_.out (by kernel_rfl)) (by decide) (fun K hK => ?_)
  refine goes_ Try.func26 (by kernel_rfl) rfl #[.agg #[.int .i64 (atL L i).1, .int .i64 (atL L i).2], .agg #[.int .i64 ax, .int .i64 ay]] (by rfl) rfl rfl (by (try simp only [List.map_toArray, List.map_cons, List.map_nil]); first | done | rfl) ?_
  with_reducible refine (dist_calls _ _ ax ay hi1 hi2 hax hay _).mono ?_
  rintro e w2 ⟨rfl, hl2⟩
  refine ⟨_, rfl, ?_⟩
  have n_ := Aside0.mk (Lay.trans (by repeat (first | exact HL.out | apply Lay.alloc | apply Lay.drewN | apply Lay.drew)) hl2); clear HL hl2; have HL := n_; clear n_
  refine hK.out _ _ (HS.out _ (Lay.below (by repeat (first | exact HL.out | apply Lay.alloc | apply Lay.drewN | apply Lay.drew)))) (fun hHeld => ?_)
  clear hK K
  refine norm_ (a' := ?_) ?_ ?_
  rotate_left
  · show Act.put _ (some 14) _ = _
    simp only [Act.put, List.setIfInBounds_toArray, List.set_cons_zero, List.set_cons_succ, i64_w, i32_w]
    rfl
  refine one_ (i := 15) (N := some 22) #[true, true, true, true, true, true, true, true, true, true, true, true, true, true, true, true, false, true, true, false, false, false, false] rfl rfl (one_of HT_.out (by kernel_rfl)) (by decide) (fun K hK => ?_)
  refine goes_ Try.func26 (by kernel_rfl) rfl #[.agg #[.int .i64 (atL L j).1, .int .i64 (atL L j).2], .agg #[.int .i64 ax, .int .i64 ay]] (by rfl) rfl rfl (by (try simp only [List.map_toArray, List.map_cons, List.map_nil]); first | done | rfl) ?_
  with_reducible refine (dist_calls _ _ ax ay hj1 hj2 hax hay _).mono ?_
  rintro e w3 ⟨rfl, hl2⟩
  refine ⟨_, rfl, ?_⟩
  have n_ := Aside0.mk (Lay.trans (by repeat (first | exact HL.out | apply Lay.alloc | apply Lay.drewN | apply Lay.drew)) hl2); clear HL hl2; have HL := n_; clear n_
  refine hK.out _ _ (HS.out _ (Lay.below (by repeat (first | exact HL.out | apply Lay.alloc | apply Lay.drewN | apply Lay.drew)))) (fun hHeld => ?_)
  clear hK K
  refine norm_ (a' := ?_) ?_ ?_
  rotate_left
  · show Act.put _ (some 22) _ = _
    simp only [Act.put, List.setIfInBounds_toArray, List.set_cons_zero, List.set_cons_succ, i64_w, i32_w]
    rfl
  refine one_ (i := 16) (N := some 23) #[true, true, true, true, true, true, true, true, true, true, true, true, true, true, true, true, true, true, true, false, false, false, false] rfl rfl (one_of HT_.out (by kernel_rfl)) (by decide) (fun K hK => ?_)
  refine goes_ Try.func36 (by kernel_rfl) rfl #[.int .i64 (dd (atL L i).1 (atL L i).2 ax ay), .int .i64 (dd (atL L j).1 (atL L j).2 ax ay)] (by rfl) rfl rfl (by (try simp only [List.map_toArray, List.map_cons, List.map_nil]); first | done | rfl) ?_
  with_reducible refine (cmp64_calls _ _ _).mono ?_
  rintro e w4 ⟨rfl, hd2⟩
  refine ⟨_, rfl, ?_⟩
  have hl2 := Lay.drawn (Lay.refl _) hd2
  clear hd2
  have n_ := Aside0.mk (Lay.trans (by repeat (first | exact HL.out | apply Lay.alloc | apply Lay.drewN | apply Lay.drew)) hl2); clear HL hl2; have HL := n_; clear n_
  refine hK.out _ _ (HS.out _ (Lay.below (by repeat (first | exact HL.out | apply Lay.alloc | apply Lay.drewN | apply Lay.drew)))) (fun hHeld => ?_)
  clear hK K
  refine norm_ (a' := ?_) ?_ ?_
  rotate_left
  · show Act.put _ (some 23) _ = _
    simp only [Act.put, List.setIfInBounds_toArray, List.set_cons_zero, List.set_cons_succ, i64_w, i32_w]
    rfl
  refine one_ (i := 19) (N := some 26) #[true, true, true, true, true, true, true, true, true, true, true, true, true, true, true, true, true, true, true, true, false, false, false] rfl rfl (one_of HT_.out (by kernel_rfl)) (by decide) (fun K hK => ?_)
  refine goes_ Try.func32 (by kernel_rfl) rfl #[.int .i64 i, .int .i64 j] (by rfl) rfl rfl (by (try simp only [List.map_toArray, List.map_cons, List.map_nil]); first | done | rfl) ?_
  with_reducible refine (cmp_calls _ _ _).mono ?_
  rintro e w5 ⟨rfl, hd2⟩
  refine ⟨_, rfl, ?_⟩
  have hl2 := Lay.drawn (Lay.refl _) hd2
  clear hd2
  have n_ := Aside0.mk (Lay.trans (by repeat (first | exact HL.out | apply Lay.alloc | apply Lay.drewN | apply Lay.drew)) hl2); clear HL hl2; have HL := n_; clear n_
  refine hK.out _ _ (HS.out _ (Lay.below (by repeat (first | exact HL.out | apply Lay.alloc | apply Lay.drewN | apply Lay.drew)))) (fun hHeld => ?_)
  clear hK K
  refine norm_ (a' := ?_) ?_ ?_
  rotate_left
  · show Act.put _ (some 26) _ = _
    simp only [Act.put, List.setIfInBounds_toArray, List.set_cons_zero, List.set_cons_succ, i64_w, i32_w]
    rfl
  refine one_ (i := 20) (N := some 27) #[true, true, true, true, true, true, true, true, true, true, true, true, true, true, true, true, true, true, true, true, true, false, false] rfl rfl (one_of HT_.out (by kernel_rfl)) (by decide) (fun K hK => ?_)
  refine val_ (v := ?_) (w' := ?_) (by rfl) rfl ?hrun ?_
  case hrun => go_simp; refine ⟨?_, ?_⟩ <;> rfl
  refine hK.out _ _ (HS.out _ (Lay.below (by repeat (first | exact HL.out | apply Lay.alloc | apply Lay.drewN | apply Lay.drew)))) (fun hHeld => ?_)
  clear hK K
  refine norm_ (a' := ?_) ?_ ?_
  rotate_left
  · show Act.put _ (some 27) _ = _
    simp only [Act.put, List.setIfInBounds_toArray, List.set_cons_zero, List.set_cons_succ, i64_w, i32_w]
    rfl
  refine one_ (i := 21) (N := some 28) #[true, true, true, true, true, true, true, true, true, true, true, true, true, true, true, true, true, true, true, true, true, true, false] rfl rfl (one_of HT_.out (by kernel_rfl)) (by decide) (fun K hK => ?_)
  refine goes_ Try.func35 (by kernel_rfl) rfl #[.slice (some ⟨w5.heap.size, 0, none⟩) 2 2] (by rfl) rfl rfl (by (try simp only [List.map_toArray, List.map_cons, List.map_nil]); first | done | rfl) ?_
  with_reducible refine (or_calls (cmp3 (dd (atL L i).1 (atL L i).2 ax ay) (dd (atL L j).1 (atL L j).2 ax ay)) (cmp3 i j) (near3 L ax ay i j) rfl w5.heap.size _ ?c0 ?c1).mono ?_
  case c0 => exact new_cell w5 #[.int .i64 (cmp3 (dd (atL L i).1 (atL L i).2 ax ay) (dd (atL L j).1 (atL L j).2 ax ay)), .int .i64 (cmp3 i j)] 3 rfl
  case c1 => exact new_cell w5 #[.int .i64 (cmp3 (dd (atL L i).1 (atL L i).2 ax ay) (dd (atL L j).1 (atL L j).2 ax ay)), .int .i64 (cmp3 i j)] 3 rfl
  rintro e w6 ⟨rfl, rfl⟩
  refine ⟨_, rfl, ?_⟩
  refine hK.out _ _ (HS.out _ (Lay.below (by repeat (first | exact HL.out | apply Lay.alloc | apply Lay.drewN | apply Lay.drew)))) (fun hHeld => ?_)
  clear hK K
  refine norm_ (a' := ?_) ?_ ?_
  rotate_left
  · show Act.put _ (some 28) _ = _
    simp only [Act.put, List.setIfInBounds_toArray, List.set_cons_zero, List.set_cons_succ, i64_w, i32_w]
    rfl
  refine pure_ (i := 22) (N := some 6) (v := ?_) (a' := ?_) #[true, true, true, true, true, true, true, true, true, true, true, true, true, true, true, true, true, true, true, true, true, true, true] rfl rfl (any_of HT_.out (by kernel_rfl)) (fun _ _ _ h => h) (Or.inl ⟨by rfl, ?_⟩) ?_ ?_
  rotate_left
  · intro w'
    go_simp
    with_reducible rfl
  rotate_left
  · simp only [Act.put, List.setIfInBounds_toArray, List.set_cons_zero, List.set_cons_succ, i64_w, i32_w]
    rfl
  refine done_ (done_of HT_.out (by kernel_rfl)) ?_
  go_wp2
  go_ret
  exact ⟨rfl, (by repeat (first | exact HL.out | apply Lay.alloc | apply Lay.drewN | apply Lay.drew))⟩
end Go.Proofs.Ytggmfmlfkhcbdaa.Gr
