/- The walk of GridSides. -/
import Derived.Test.YtggmfmlfkhcbdaaGW
namespace Go.Proofs.Ytggmfmlfkhcbdaa.Gr
open Go Go.RowKit Go.Maps Go.Proofs.YtggmfmlfkhcbdaaW.PrintWords Go.Proofs.YtggmfmlfkhcbdaaW.PrintLast Go.Proofs.YtggmfmlfkhcbdaaW.PrintMore
set_option linter.unusedVariables false
set_option linter.unusedSimpArgs false

def T_4_10 : Bool × List (List Nat × List Nat) := (true, [([], []), ([], []), ([], []), ([1, 2], [1, 2]), ([3], [3]), ([0, 4], [0, 4]), ([], []), ([], []), ([], []), ([7, 8], [7, 8]), ([9], [9]), ([6, 10, 5], [6, 10]), ([5, 11, 11], [5, 11]), ([12], [12])])
def B_4_10 : List Nat := [0, 0, 0, 6, 14, 31, 0, 0, 0, 384, 896, 2047, 4095, 8191]
theorem tab_f4_10 : rtab .any (opsOf Try.f4 10) = T_4_10 := by kernel_rfl
theorem bits_f4_10 : waitsOk T_4_10.2 B_4_10 = true := by kernel_rfl
theorem side_calls (a : Int) (ha : I64 a) (w : World) : ∃ s : Int, (1 ≤ s ∧ s ≤ 1099511627776) ∧ ∀ w, Calls Try.prog 23 #[.int .i64 a] w fun e w' => e = .returned (.int .i64 s) ∧ Drawn0 w w' := by
  obtain ⟨s, hs, h⟩ := side_f a ha
  exact ⟨s, h, fun w => QQA.joustlaw20_side.calls a s w hs⟩
/-- Two grids with the same things. -/
def Two (w wr : World) (g1 g2 : Nat) (sa sb : Int) (n : Nat) : Prop := ∃ F1 F2 L, GS wr g1 F1 sa n L ∧ GS wr g2 F2 sb n L ∧ (∀ k, F1 k → ¬ F2 k) ∧ (∀ k, F1 k → w.heap.size ≤ k) ∧ ∀ k, F2 k → w.heap.size ≤ k
theorem cells_S {w W : World} {A : Option Addr} {l : List St} (hC : Kd.C k34 w A l.length l) {k : Int} (h0 : 0 ≤ k) (hk : k < l.length) : ∃ ad s, l[k.toNat]? = some s ∧ A = some ad ∧ ∀ w', Below w.heap.size w w' → w'.cell? (ad.add (k.toNat * 6)) = some (.int .i64 s.op) ∧ w'.cell? ⟨(ad.add (k.toNat * 6)).block, (ad.add (k.toNat * 6)).off + 1, none⟩ = some (.int .i64 s.id) ∧ w'.cell? ⟨(ad.add (k.toNat * 6)).block, (ad.add (k.toNat * 6)).off + 2, none⟩ = some (.int .i64 s.x) ∧ w'.cell? ⟨(ad.add (k.toNat * 6)).block, (ad.add (k.toNat * 6)).off + 3, none⟩ = some (.int .i64 s.y) ∧ w'.cell? ⟨(ad.add (k.toNat * 6)).block, (ad.add (k.toNat * 6)).off + 4, none⟩ = some (.int .i64 s.r) ∧ w'.cell? ⟨(ad.add (k.toNat * 6)).block, (ad.add (k.toNat * 6)).off + 5, none⟩ = some (.int .i64 s.n) := by
  obtain ⟨ad, s, hs, e, d0, d1, d2, d3, d4, d5⟩ := at_T34 hC k h0 hk
  exact ⟨ad, s, hs, e, fun w' hb => ⟨below_cell hb d0, below_cell hb d1, below_cell hb d2, below_cell hb d3, below_cell hb d4, below_cell hb d5⟩⟩

theorem ansL_len {L : List Th} (s : St) (h : L.length ≤ 600) : (ansL L s).length ≤ 2000 := by
  unfold ansL
  have := midL_len L s
  simp
  omega
set_option maxHeartbeats 4000000 in
set_option maxRecDepth 100000 in
theorem sides_walk (a b : Int) (A : Option Addr) (c : Nat) (l : List St) (w : World) (ha : I64 a) (hb : I64 b) (hC : Kd.C k34 w A l.length l) (hc : l.length ≤ c) (hlen : l.length * 48 ≤ 140737488351232) (hwf : ∀ s ∈ l, s.wf) :
    Calls Try.prog 4 #[.int .i64 a, .int .i64 b, .slice A l.length c] w fun e w' => e = .returned (.bool true) ∧ Below w.heap.size w w' := by
  obtain ⟨sa, ⟨a1, a2⟩, hsa⟩ := side_calls a ha w
  obtain ⟨sb, ⟨b1, b2⟩, hsb⟩ := side_calls b hb w
  have HC := Aside0.mk hC
  have HL := Aside0.mk hlen
  have HW := Aside0.mk hwf
  have HB := Aside0.mk (Below.refl w.heap.size w)
  clear hC hlen hwf
  go_enter Try.func4, Try.ntmps4
  go_wp2_with (first
    | (go_at_call 7; refine (fixed_calls _).mono ?_; rintro e w1 ⟨rfl, hb⟩; have n_ := Aside0.mk (below_step (by repeat (first | (with_reducible first | exact HB.out | apply below_alloc | apply pw_below_drewN | apply below_drew1) | exact HB.out)) hb); clear HB; have HB := n_; clear n_ hb)
    | (go_at_call 23; first
      | ((with_reducible refine (hsa _).mono ?_); rintro e w2 ⟨rfl, ⟨nd, rfl⟩⟩; clear hsa)
      | ((with_reducible refine (hsb _).mono ?_); rintro e w2 ⟨rfl, ⟨nd, rfl⟩⟩; clear hsb))
    | (go_at_call 8; first
      | ((with_reducible refine (gs_new sa a1 a2 _).mono ?_); rintro e w3 ⟨g1, F1, rfl, hG, hb, hF⟩; have HG := Aside0.mk hG; have HF1 := Aside0.mk (fun k hk => Nat.le_trans (below_size (w := w) (by repeat (first | (with_reducible first | exact HB.out | apply below_alloc | apply pw_below_drewN | apply below_drew1) | exact HB.out))) (hF k hk)); have n_ := Aside0.mk (below_step (w := w) (by repeat (first | (with_reducible first | exact HB.out | apply below_alloc | apply pw_below_drewN | apply below_drew1) | exact HB.out)) hb); clear HB; have HB := n_; clear n_ hG hb hF a1 a2)
      | ((with_reducible refine (gs_new sb b1 b2 _).mono ?_); rintro e w4 ⟨g2, F2, rfl, hG, hb, hF⟩; have HH := Aside0.mk hG; have HDJ := Aside0.mk (fun k (h1 : F1 k) (h2 : F2 k) => Nat.lt_irrefl _ (Nat.lt_of_lt_of_le (HG.out.lt k h1) (Nat.le_trans (below_size (w := w3) (by repeat (first | (with_reducible first | exact Below.refl _ _ | apply below_alloc | apply pw_below_drewN | apply below_drew1) | exact Below.refl _ _))) (hF k h2)))); have HF2 := Aside0.mk (fun k hk => Nat.le_trans (below_size (w := w) (by repeat (first | (with_reducible first | exact HB.out | apply below_alloc | apply pw_below_drewN | apply below_drew1) | exact HB.out))) (hF k hk)); have n2_ := Aside0.mk (HG.out.below (below_step (w := w3) (by repeat (first | (with_reducible first | exact Below.refl _ _ | apply below_alloc | apply pw_below_drewN | apply below_drew1) | exact Below.refl _ _)) hb)); have n_ := Aside0.mk (below_step (w := w) (by repeat (first | (with_reducible first | exact HB.out | apply below_alloc | apply pw_below_drewN | apply below_drew1) | exact HB.out)) hb); clear HB HG; have HB := n_; have HG := n2_; clear n_ n2_ hG hb hF b1 b2)))
  go_loopw [11] (fun iv wr => ∃ k : Int, iv = .int .i64 k ∧ 0 ≤ k ∧ k ≤ l.length ∧ k ≤ 300 ∧ Below w.heap.size w wr ∧ Two w wr g1 g2 sa sb (2 * k.toNat)) (fun iv _ => l.length - (intOf iv).toNat)
  case atStart => exact ⟨0, rfl, Int.le_refl _, by omega, by omega, HB.out, F1, F2, [], HG.out, HH.out, HDJ.out, HF1.out, HF2.out⟩
  case round =>
    clear HB HG HH HDJ HF1 HF2 F1 F2
    obtain ⟨k, rfl, h0, h1, h3, hbw, F1, F2, L, hG, hH, hdj, hf1, hf2⟩ := hrel
    have HG := Aside0.mk hG
    have HH := Aside0.mk hH
    have HB := Aside0.mk hbw
    have HDJ := Aside0.mk hdj
    have HF1 := Aside0.mk hf1
    have HF2 := Aside0.mk hf2
    have HLn := Aside0.mk hG.len
    clear hG hH hbw hdj hf1 hf2
    by_cases hk : k < l.length
    · have kb : decide (k < (l.length : Int)) = true := decide_eq_true hk
      by_cases hk3 : k < 300
      · have kb3 : decide (k < 300) = true := decide_eq_true hk3
        obtain ⟨ad, s, hs, e1, hS⟩ := cells_S (W := wr) HC.out h0 hk
        subst e1
        have HSW := Aside0.mk (HW.out s (List.mem_of_getElem? hs))
        have KA := Aside0.mk (And.intro h0 (And.intro hk hk3))
        have HS2 := Aside0.mk hS
        have HLB := HB
        have HN : Aside0 (2 * k.toNat ≤ 600) := ⟨by omega⟩
        have HAL : Aside0 ((ansL L s).length ≤ 2000) := ⟨ansL_len s (by have := HLn.out; omega)⟩
        have p0 : (0 ≤ k) = True := eq_true h0
        have p1 : (k < (l.length : Int)) = True := eq_true hk
        clear hk hk3 hs hS h0 h1 h3
        go_wp2
        refine start_ (n := 14) (S := fun w' => w'.cell? (ad.add (k.toNat * 6)) = some (.int .i64 s.op) ∧ w'.cell? ⟨(ad.add (k.toNat * 6)).block, (ad.add (k.toNat * 6)).off + 1, none⟩ = some (.int .i64 s.id) ∧ w'.cell? ⟨(ad.add (k.toNat * 6)).block, (ad.add (k.toNat * 6)).off + 2, none⟩ = some (.int .i64 s.x) ∧ w'.cell? ⟨(ad.add (k.toNat * 6)).block, (ad.add (k.toNat * 6)).off + 3, none⟩ = some (.int .i64 s.y) ∧ w'.cell? ⟨(ad.add (k.toNat * 6)).block, (ad.add (k.toNat * 6)).off + 4, none⟩ = some (.int .i64 s.r) ∧ w'.cell? ⟨(ad.add (k.toNat * 6)).block, (ad.add (k.toNat * 6)).off + 5, none⟩ = some (.int .i64 s.n)) (ds := []) #[false, false, false, false, false, false, false, false, false, false, false, false, false, false] (by kernel_rfl) rfl rfl (HS2.out _ (by repeat (first | (with_reducible first | exact HLB.out | apply below_alloc | apply pw_below_drewN | apply below_drew1) | exact HLB.out))) (fun hHeld => ?_)
        refine with_tabW tab_f4_10 bits_f4_10 (fun HT_ HW_ => ?_)
        refine pure_ (i := 0) (N := some 50) (v := ?_) (a' := ?_) #[true, false, false, false, false, false, false, false, false, false, false, false, false, false] rfl rfl (any_of HT_.out (by kernel_rfl)) (fun _ _ _ h => h) (Or.inl ⟨by rfl, ?_⟩) ?_ ?_
        rotate_left
        · intro w'
          go_simp
          with_reducible rfl
        rotate_left
        · simp only [Act.put, List.setIfInBounds_toArray, List.set_cons_zero, List.set_cons_succ, i64_w, i32_w]
          rfl
        refine pure_ (i := 1) (N := some 51) (v := ?_) (a' := ?_) #[true, true, false, false, false, false, false, false, false, false, false, false, false, false] rfl rfl (any_of HT_.out (by kernel_rfl)) (fun _ _ _ h => h) (Or.inl ⟨by rfl, ?_⟩) ?_ ?_
        rotate_left
        · intro w'
          go_simp
          with_reducible rfl
        rotate_left
        · simp only [Act.put, List.setIfInBounds_toArray, List.set_cons_zero, List.set_cons_succ, i64_w, i32_w]
          rfl
        refine pure_ (i := 2) (N := some 52) (v := ?_) (a' := ?_) #[true, true, true, false, false, false, false, false, false, false, false, false, false, false] rfl rfl (any_of HT_.out (by kernel_rfl)) (fun _ _ _ h => h) (Or.inl ⟨by rfl, ?_⟩) ?_ ?_
        rotate_left
        · intro w'
          go_simp
          with_reducible rfl
        rotate_left
        · simp only [Act.put, List.setIfInBounds_toArray, List.set_cons_zero, List.set_cons_succ, i64_w, i32_w]
          rfl
        refine pure_ (i := 3) (N := some 53) (v := ?_) (a' := ?_) #[true, true, true, true, false, false, false, false, false, false, false, false, false, false] rfl rfl (any_of HT_.out (by kernel_rfl)) (fun _ _ _ h => h) (Or.inl ⟨by rfl, ?_⟩) ?_ ?_
        rotate_left
        · intro w'
          go_simp
          with_reducible rfl
        rotate_left
        · simp only [Act.put, List.setIfInBounds_toArray, List.set_cons_zero, List.set_cons_succ, i64_w, i32_w]
          rfl
        refine take_ (i := 4) (N := some 54) (v := ?_) (a' := ?_) #[true, true, true, true, true, false, false, false, false, false, false, false, false, false] rfl rfl (take_ofW HT_.out HW_.out (by kernel_rfl)) (fun _ _ _ h => h) (Or.inl ⟨by rfl, ?_⟩) hHeld ?_ ?_
        rotate_left
        · rintro w' ⟨s1, s2, s3, s4, s5, s6⟩
          go_simp
          with_reducible rfl
        rotate_left
        · simp only [Act.put, List.setIfInBounds_toArray, List.set_cons_zero, List.set_cons_succ, i64_w, i32_w]
          rfl
        refine pure_ (i := 6) (N := some 56) (v := ?_) (a' := ?_) #[true, true, true, true, true, false, true, false, false, false, false, false, false, false] rfl rfl (any_of HT_.out (by kernel_rfl)) (fun _ _ _ h => h) (Or.inl ⟨by rfl, ?_⟩) ?_ ?_
        rotate_left
        · intro w'
          go_simp
          with_reducible rfl
        rotate_left
        · simp only [Act.put, List.setIfInBounds_toArray, List.set_cons_zero, List.set_cons_succ, i64_w, i32_w]
          rfl
        refine pure_ (i := 7) (N := some 57) (v := ?_) (a' := ?_) #[true, true, true, true, true, false, true, true, false, false, false, false, false, false] rfl rfl (any_of HT_.out (by kernel_rfl)) (fun _ _ _ h => h) (Or.inl ⟨by rfl, ?_⟩) ?_ ?_
        rotate_left
        · intro w'
          go_simp
          with_reducible rfl
        rotate_left
        · simp only [Act.put, List.setIfInBounds_toArray, List.set_cons_zero, List.set_cons_succ, i64_w, i32_w]
          rfl
        refine pure_ (i := 8) (N := some 58) (v := ?_) (a' := ?_) #[true, true, true, true, true, false, true, true, true, false, false, false, false, false] rfl rfl (any_of HT_.out (by kernel_rfl)) (fun _ _ _ h => h) (Or.inl ⟨by rfl, ?_⟩) ?_ ?_
        rotate_left
        · intro w'
          go_simp
          with_reducible rfl
        rotate_left
        · simp only [Act.put, List.setIfInBounds_toArray, List.set_cons_zero, List.set_cons_succ, i64_w, i32_w]
          rfl
        refine pure_ (i := 9) (N := some 59) (v := ?_) (a' := ?_) #[true, true, true, true, true, false, true, true, true, true, false, false, false, false] rfl rfl (any_of HT_.out (by kernel_rfl)) (fun _ _ _ h => h) (Or.inl ⟨by rfl, ?_⟩) ?_ ?_
        rotate_left
        · intro w'
          go_simp
          with_reducible rfl
        rotate_left
        · simp only [Act.put, List.setIfInBounds_toArray, List.set_cons_zero, List.set_cons_succ, i64_w, i32_w]
          rfl
        refine take_ (i := 10) (N := some 60) (v := ?_) (a' := ?_) #[true, true, true, true, true, false, true, true, true, true, true, false, false, false] rfl rfl (take_ofW HT_.out HW_.out (by kernel_rfl)) (fun _ _ _ h => h) (Or.inl ⟨by rfl, ?_⟩) hHeld ?_ ?_
        rotate_left
        · rintro w' ⟨s1, s2, s3, s4, s5, s6⟩
          go_simp
          with_reducible rfl
        rotate_left
        · simp only [Act.put, List.setIfInBounds_toArray, List.set_cons_zero, List.set_cons_succ, i64_w, i32_w]
          rfl
        refine one_ (i := 5) (N := some 55) #[true, true, true, true, true, true, true, true, true, true, true, false, false, false] rfl rfl (one_of HT_.out (by kernel_rfl)) (by decide) (fun K hK => ?_)
        refine goes_ Try.func24 (by kernel_rfl) rfl #[.pointer (some ⟨g1, 0, none⟩), .agg #[.int .i64 s.op, .int .i64 s.id, .int .i64 s.x, .int .i64 s.y, .int .i64 s.r, .int .i64 s.n]] (by rfl) rfl rfl (by (try simp only [List.map_toArray, List.map_cons, List.map_nil]); first | done | rfl) ?_
        with_reducible refine (answers_calls (HG.out.below (by repeat (first | (with_reducible first | exact Below.refl _ _ | apply below_alloc | apply pw_below_drewN | apply below_drew1) | exact Below.refl _ _))) (by have := HN.out; omega) s HSW.out).mono ?_
        rintro e w5 ⟨A1, c1, F1', rfl, hR1, hc1, hG1, hM1, hF1⟩
        refine ⟨_, rfl, ?_⟩
        have n1_ := Aside0.mk (Below.trans (B := w.heap.size) (by repeat (first | (with_reducible first | exact HLB.out | apply below_alloc | apply pw_below_drewN | apply below_drew1) | exact HLB.out)) (hM1.toB (below_size (w := w) (by repeat (first | (with_reducible first | exact HLB.out | apply below_alloc | apply pw_below_drewN | apply below_drew1) | exact HLB.out))) HF1.out))
        have n2_ := Aside0.mk ((HH.out.below (by repeat (first | (with_reducible first | exact Below.refl _ _ | apply below_alloc | apply pw_below_drewN | apply below_drew1) | exact Below.refl _ _))).mv hM1 (fun k h2 h1 => HDJ.out k h1 h2))
        have n3_ := Aside0.mk hG1
        have n4_ := Aside0.mk (newF HF1.out (below_size (w := w) (by repeat (first | (with_reducible first | exact HLB.out | apply below_alloc | apply pw_below_drewN | apply below_drew1) | exact HLB.out))) hF1)
        have n5_ := Aside0.mk (fun k (h1 : F1' k) (h2 : F2 k) => (hF1 k h1).elim (fun h => HDJ.out k h h2) (fun h => Nat.lt_irrefl _ (Nat.lt_of_lt_of_le (HH.out.lt k h2) (Nat.le_trans (below_size (w := wr) (by repeat (first | (with_reducible first | exact Below.refl _ _ | apply below_alloc | apply pw_below_drewN | apply below_drew1) | exact Below.refl _ _))) h))))
        have HR1 := Aside0.mk (Kd.R_lower hR1 (Nat.le_trans (below_size (w := wr) (by repeat (first | (with_reducible first | exact Below.refl _ _ | apply below_alloc | apply pw_below_drewN | apply below_drew1) | exact Below.refl _ _))) (Nat.le_succ _)))
        have HC1 := Aside0.mk hc1
        have HLT2 := Aside0.mk HH.out.lt
        clear HLB HH HG HF1 HDJ hR1 hc1 hG1 hM1 hF1
        have HLB := n1_
        have HH := n2_
        have HG := n3_
        have HF1 := n4_
        have HDJ := n5_
        clear n1_ n2_ n3_ n4_ n5_
        refine hK.out _ _ (HS2.out _ (by repeat (first | (with_reducible first | exact HLB.out | apply below_alloc | apply pw_below_drewN | apply below_drew1) | exact HLB.out))) (fun hHeld => ?_)
        clear hK K
        refine norm_ (a' := ?_) ?_ ?_
        rotate_left
        · show Act.put _ (some 55) _ = _
          simp only [Act.put, List.setIfInBounds_toArray, List.set_cons_zero, List.set_cons_succ, i64_w, i32_w]
          rfl
        refine one_ (i := 11) (N := some 61) #[true, true, true, true, true, true, true, true, true, true, true, true, false, false] rfl rfl (one_of HT_.out (by kernel_rfl)) (by decide) (fun K hK => ?_)
        refine goes_ Try.func24 (by kernel_rfl) rfl #[.pointer (some ⟨g2, 0, none⟩), .agg #[.int .i64 s.op, .int .i64 s.id, .int .i64 s.x, .int .i64 s.y, .int .i64 s.r, .int .i64 s.n]] (by rfl) rfl rfl (by (try simp only [List.map_toArray, List.map_cons, List.map_nil]); first | done | rfl) ?_
        with_reducible refine (answers_calls (HH.out.below (by repeat (first | (with_reducible first | exact Below.refl _ _ | apply below_alloc | apply pw_below_drewN | apply below_drew1) | exact Below.refl _ _))) (by have := HN.out; omega) s HSW.out).mono ?_
        rintro e w6 ⟨A2, c2, F2', rfl, hR2, hc2, hG2, hM2, hF2⟩
        refine ⟨_, rfl, ?_⟩
        have n1_ := Aside0.mk (Below.trans (B := w.heap.size) (by repeat (first | (with_reducible first | exact HLB.out | apply below_alloc | apply pw_below_drewN | apply below_drew1) | exact HLB.out)) (hM2.toB (below_size (w := w) (by repeat (first | (with_reducible first | exact HLB.out | apply below_alloc | apply pw_below_drewN | apply below_drew1) | exact HLB.out))) HF2.out))
        have n2_ := Aside0.mk ((HG.out.below (by repeat (first | (with_reducible first | exact Below.refl _ _ | apply below_alloc | apply pw_below_drewN | apply below_drew1) | exact Below.refl _ _))).mv hM2 (fun k h1 h2 => HDJ.out k h1 h2))
        have n3_ := Aside0.mk hG2
        have n4_ := Aside0.mk (newF HF2.out (below_size (w := w) (by repeat (first | (with_reducible first | exact HLB.out | apply below_alloc | apply pw_below_drewN | apply below_drew1) | exact HLB.out))) hF2)
        have n5_ := Aside0.mk (fun k (h1 : F1' k) (h2 : F2' k) => (hF2 k h2).elim (fun h => HDJ.out k h1 h) (fun h => Nat.lt_irrefl _ (Nat.lt_of_lt_of_le (HG.out.lt k h1) (Nat.le_trans (below_size (w := w5) (by repeat (first | (with_reducible first | exact Below.refl _ _ | apply below_alloc | apply pw_below_drewN | apply below_drew1) | exact Below.refl _ _))) h))))
        have n6_ := Aside0.mk (R_mv (R_to HR1.out (by repeat (first | (with_reducible first | exact Below.refl _ _ | apply below_alloc | apply pw_below_drewN | apply below_drew1) | exact Below.refl _ _))) hM2 (fun k hk => HLT2.out k hk))
        have HR2 := Aside0.mk hR2
        have HC2 := Aside0.mk hc2
        clear HLB HH HG HF2 HDJ HR1 hR2 hc2 hG2 hM2 hF2
        have HLB := n1_
        have HG := n2_
        have HH := n3_
        have HF2 := n4_
        have HDJ := n5_
        have HR1 := n6_
        clear n1_ n2_ n3_ n4_ n5_ n6_
        refine hK.out _ _ (HS2.out _ (by repeat (first | (with_reducible first | exact HLB.out | apply below_alloc | apply pw_below_drewN | apply below_drew1) | exact HLB.out))) (fun hHeld => ?_)
        clear hK K
        refine norm_ (a' := ?_) ?_ ?_
        rotate_left
        · show Act.put _ (some 61) _ = _
          simp only [Act.put, List.setIfInBounds_toArray, List.set_cons_zero, List.set_cons_succ, i64_w, i32_w]
          rfl
        refine one_ (i := 12) (N := some 62) #[true, true, true, true, true, true, true, true, true, true, true, true, true, false] rfl rfl (one_of HT_.out (by kernel_rfl)) (by decide) (fun K hK => ?_)
        refine goes_ Try.func16 (by kernel_rfl) rfl #[.slice A1 (ansL L s).length c1, .slice A2 (ansL L s).length c2] (by rfl) rfl rfl (by (try simp only [List.map_toArray, List.map_cons, List.map_nil]); first | done | rfl) ?_
        with_reducible refine (ints_calls (a := ansL L s) (b := ansL L s) ?ha ?hb HC1.out HC2.out ?hn true (by simp)).mono ?_
        case ha => exact (Kd.R_reads' (R_to HR1.out (by repeat (first | (with_reducible first | exact Below.refl _ _ | apply below_alloc | apply pw_below_drewN | apply below_drew1) | exact Below.refl _ _)))).2.2
        case hb => exact (Kd.R_reads' (R_to HR2.out (by repeat (first | (with_reducible first | exact Below.refl _ _ | apply below_alloc | apply pw_below_drewN | apply below_drew1) | exact Below.refl _ _)))).2.2
        case hn => have := HAL.out; omega
        rintro e w7 ⟨rfl, ⟨nd, rfl⟩⟩
        refine ⟨_, rfl, ?_⟩
        refine hK.out _ _ (HS2.out _ (by repeat (first | (with_reducible first | exact HLB.out | apply below_alloc | apply pw_below_drewN | apply below_drew1) | exact HLB.out))) (fun hHeld => ?_)
        clear hK K
        refine norm_ (a' := ?_) ?_ ?_
        rotate_left
        · show Act.put _ (some 62) _ = _
          simp only [Act.put, List.setIfInBounds_toArray, List.set_cons_zero, List.set_cons_succ, i64_w, i32_w]
          rfl
        refine pure_ (i := 13) (N := some 63) (v := ?_) (a' := ?_) #[true, true, true, true, true, true, true, true, true, true, true, true, true, true] rfl rfl (any_of HT_.out (by kernel_rfl)) (fun _ _ _ h => h) (Or.inl ⟨by rfl, ?_⟩) ?_ ?_
        rotate_left
        · intro w'
          go_simp
          with_reducible rfl
        rotate_left
        · simp only [Act.put, List.setIfInBounds_toArray, List.set_cons_zero, List.set_cons_succ, i64_w, i32_w]
          rfl
        refine done_ (done_of HT_.out (by kernel_rfl)) ?_
        clear hHeld HT_ HW_ HS2
        go_wp2
        obtain ⟨h0, hk, hk3⟩ := KA.out
        rw [wrap_id (x := k + 1) (by unfold I64; omega)]
        have en : 2 * (k + 1).toNat = 2 * k.toNat + 2 := by omega
        refine ⟨⟨k + 1, rfl, by omega, by omega, by omega, (by repeat (first | (with_reducible first | exact HLB.out | apply below_alloc | apply pw_below_drewN | apply below_drew1) | exact HLB.out)), F1', F2', nextL L s, ?_, ?_, HDJ.out, HF1.out, HF2.out⟩, by simp only [intOf]; omega⟩
        · rw [en]; exact HG.out.below (by repeat (first | (with_reducible first | exact Below.refl _ _ | apply below_alloc | apply pw_below_drewN | apply below_drew1) | exact Below.refl _ _))
        · rw [en]; exact HH.out.below (by repeat (first | (with_reducible first | exact Below.refl _ _ | apply below_alloc | apply pw_below_drewN | apply below_drew1) | exact Below.refl _ _))
      · have kb3 : decide (k < 300) = false := decide_eq_false hk3
        clear hk hk3 h0 h1 h3
        go_wp2
        go_ret
        exact ⟨rfl, (by repeat (first | (with_reducible first | exact HB.out | apply below_alloc | apply pw_below_drewN | apply below_drew1) | exact HB.out))⟩
    · have kb : decide (k < (l.length : Int)) = false := decide_eq_false hk
      clear hk h0 h1 h3
      go_wp2
      go_ret
      exact ⟨rfl, (by repeat (first | (with_reducible first | exact HB.out | apply below_alloc | apply pw_below_drewN | apply below_drew1) | exact HB.out))⟩
end Go.Proofs.Ytggmfmlfkhcbdaa.Gr
