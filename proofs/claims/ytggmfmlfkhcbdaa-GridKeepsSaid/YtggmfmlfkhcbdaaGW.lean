/- What a step answers. -/
import Derived.Test.YtggmfmlfkhcbdaaGV
namespace Go.Proofs.Ytggmfmlfkhcbdaa.Gr
open Go Go.RowKit Go.Maps Go.Proofs.YtggmfmlfkhcbdaaW.PrintWords Go.Proofs.YtggmfmlfkhcbdaaW.PrintLast Go.Proofs.YtggmfmlfkhcbdaaW.PrintMore
set_option linter.unusedVariables false
set_option linter.unusedSimpArgs false

def midL (L : List Th) (s : St) : List Int :=
  if s.op = 1 then [] else if s.op = 2 then (if hasP L s.id then [1] else []) else if s.op = 3 then (if hasP L s.id then [(atL L s.id).1, (atL L s.id).2] else [])
  else if s.op = 4 then inL L s.x s.y s.r else if s.op = 5 then (nearS L s.x s.y s.r).take s.n.toNat else []
def nextL (L : List Th) (s : St) : List Th := if s.op = 1 then putT ⟨s.id, s.x, s.y⟩ L else if s.op = 2 then dropP L s.id else L
def ansL (L : List Th) (s : St) : List Int := [(L.length : Int)] ++ midL L s ++ [((nextL L s).length : Int)]
theorem R_mv {W W2 : World} {base : Nat} {v : Value} {xs : List Int} {S : Nat → Prop} (h : ki.R 3 W base (fun _ => True) v xs) (hm : Mv W W2 S) (hS : ∀ k, S k → k < base) : ki.R 3 W2 base (fun _ => True) v xs :=
  ki_one h (fun k hk => hm.block k (Kd.R_lt h k hk) (fun hs => by have := hS k hs; have := Kd.R_base h k hk; omega))
theorem lit_R {w : World} {g base : Nat} {x : Int} (h : w.heap[g]? = some (.cells #[.int .i64 x] 3 (0, 0))) (hb : base ≤ g) : ki.R 3 w base (fun _ => True) (.slice (some ⟨g, 0, none⟩) 1 1) [x] := by
  refine Kd.R_of_own (enc := Value.int .i64) ?_ (fun _ _ => trivial)
  exact ⟨rfl, .inr ⟨g, 1, #[.int .i64 x], rfl, hb, h, Nat.le_refl _, by decide, rfl, rfl⟩⟩
theorem nearS_len (L : List Th) (ax ay r : Int) : (nearS L ax ay r).length ≤ L.length := by
  have := (nearS_perm L ax ay r).length_eq
  have := inL_len L ax ay r
  omega
theorem midL_len (L : List Th) (s : St) : (midL L s).length ≤ L.length + 2 := by
  unfold midL
  have h1 := inL_len L s.x s.y s.r
  have h2 := nearS_len L s.x s.y s.r
  repeat' split
  all_goals (try simp only [List.length_nil, List.length_cons, List.length_take])
  all_goals omega

set_option maxHeartbeats 4000000 in
set_option maxRecDepth 10000 in
theorem answers_calls {w : World} {gb : Nat} {F : Nat → Prop} {side : Int} {n : Nat} {L : List Th} (h : GS w gb F side n L) (hn : n ≤ 1000000) (s : St) (hs : s.wf) :
    Calls Try.prog 24 #[.pointer (some ⟨gb, 0, none⟩), .agg #[.int .i64 s.op, .int .i64 s.id, .int .i64 s.x, .int .i64 s.y, .int .i64 s.r, .int .i64 s.n]] w fun e w' =>
      ∃ A c F', e = .returned (.slice A (ansL L s).length c) ∧ ki.R 3 w' (w.heap.size + 1) (fun _ => True) (.slice A (ansL L s).length c) (ansL L s) ∧ (ansL L s).length ≤ c ∧ GS w' gb F' side (n + 2) (nextL L s) ∧ Mv w w' F ∧ ∀ k, F' k → F k ∨ w.heap.size ≤ k := by
  obtain ⟨z0, z1, z2, z3, z4, z5⟩ := hs
  have HG := Aside0.mk h
  have HLT := Aside0.mk h.lt
  have HLEN := Aside0.mk (Nat.le_trans h.len hn)
  have HN := Aside0.mk (show n ≤ 1000000 from hn)
  clear h
  go_enter Try.func24, Try.ntmps24
  go_upto_block 0 with (go_at_call 21; (with_reducible refine (gs_len HG.out ?side1 L.length rfl).mono ?_); (case side1 => exact (by repeat (first | (with_reducible first | exact Below.refl _ _ | apply below_alloc | apply pw_below_drewN | apply below_drew1) | exact Below.refl _ _))); rintro e w6 ⟨rfl, rfl⟩)
  refine absW (fun w1 => Below w.heap.size w w1 ∧ w1.heap[w.heap.size]? = some (.cells #[.int .i64 s.op, .int .i64 s.id, .int .i64 s.x, .int .i64 s.y, .int .i64 s.r, .int .i64 s.n] 34) ∧ w1.heap[w.heap.size + 1]? = some (.cells #[.int .i64 (L.length : Int)] 3)) ?_ ?_
  · exact ⟨(by repeat (first | (with_reducible first | exact Below.refl _ _ | apply below_alloc | apply pw_below_drewN | apply below_drew1) | exact Below.refl _ _)), (heap_alloc_old (w.alloc _) _ (by simp)).trans (heap_alloc_new w _), heap_alloc2_new w _ _⟩
  rintro w1 ⟨hb1, k0, k1⟩
  have HB1 := Aside0.mk hb1
  have HSZ := Aside0.mk (blk_lt k1)
  have HO := Aside0.mk (lit_R k1 (Nat.le_refl _))
  have HG1 := Aside0.mk (HG.out.below hb1)
  have x0 := (blk_cell k0 0).trans rfl
  have x1 := (blk_cell k0 1).trans rfl
  have x2 := (blk_cell k0 2).trans rfl
  have x3 := (blk_cell k0 3).trans rfl
  have x4 := (blk_cell k0 4).trans rfl
  have x5 := (blk_cell k0 5).trans rfl
  clear hb1 k0 k1 HG
  go_cut [5] (fun ov wc => ∃ F' A c, ov = .slice A ([(L.length : Int)] ++ midL L s).length c ∧ ki.R 3 wc (w.heap.size + 1) (fun _ => True) (.slice A ([(L.length : Int)] ++ midL L s).length c) ([(L.length : Int)] ++ midL L s) ∧ GS wc gb F' side (n + 2) (nextL L s) ∧ Mv w wc F ∧ (∀ k, F' k → F k ∨ w.heap.size ≤ k) ∧ w.heap.size + 2 ≤ wc.heap.size ∧ ∀ k, (Value.slice A ([(L.length : Int)] ++ midL L s).length c).ownBlock = some k → ¬ F' k)
  case first =>
    by_cases q1 : s.op = 1
    · have o1 : (s.op == 1) = true := beq_iff_eq.2 q1
      have em := Aside0.mk (show midL L s = [] by unfold midL; rw [if_pos q1])
      have en := Aside0.mk (show nextL L s = putT ⟨s.id, s.x, s.y⟩ L by unfold nextL; rw [if_pos q1])
      clear q1
      go_wp2_with (go_at_call 10; (with_reducible refine (gs_put HG1.out ?side1 (by have := HN.out; omega) s.id s.x s.y z1 z2 z3 _ rfl).mono ?_); (case side1 => exact (by repeat (first | (with_reducible first | exact Below.refl _ _ | apply below_alloc | apply pw_below_drewN | apply below_drew1) | exact Below.refl _ _))); rintro e w3 ⟨rfl, F2, hG2, hm2, hF2⟩; have HM2 := Aside0.mk hm2; have HG2 := Aside0.mk hG2; have HF2 := Aside0.mk hF2; clear hm2 hG2 hF2)
      go_meet
      case rel =>
        rw [em.out, en.out]
        exact ⟨F2, _, _, rfl, R_mv (R_to HO.out (by repeat (first | (with_reducible first | exact Below.refl _ _ | apply below_alloc | apply pw_below_drewN | apply below_drew1) | exact Below.refl _ _))) HM2.out (fun k hk => by have := HLT.out k hk; omega), HG2.out, (Mv.of_below (w := w) (below_step HB1.out (by repeat (first | (with_reducible first | exact Below.refl _ _ | apply below_alloc | apply pw_below_drewN | apply below_drew1) | exact Below.refl _ _))) F).then HM2.out (fun j hj => Or.inl hj), fun k hk => (HF2.out k hk).imp id (fun h => Nat.le_trans (Nat.le_trans HB1.out.size (below_size (w := w1) (by repeat (first | (with_reducible first | exact Below.refl _ _ | apply below_alloc | apply pw_below_drewN | apply below_drew1) | exact Below.refl _ _)))) h), Nat.le_trans HSZ.out (Nat.le_trans (below_size (w := w1) (by repeat (first | (with_reducible first | exact Below.refl _ _ | apply below_alloc | apply pw_below_drewN | apply below_drew1) | exact Below.refl _ _))) HM2.out.size), fun k hk hf => by have hk : w.heap.size + 1 = k := (by simpa [Value.ownBlock] using hk); have := HSZ.out; have := below_size (w := w1) (show Below w1.heap.size w1 _ from (by repeat (first | (with_reducible first | exact Below.refl _ _ | apply below_alloc | apply pw_below_drewN | apply below_drew1) | exact Below.refl _ _))); rcases HF2.out k hf with h | h; (have := HLT.out k h; omega); omega⟩
    · have o1 : (s.op == 1) = false := beq_eq_false_iff_ne.2 q1
      by_cases q2 : s.op = 2
      · have o2 : (s.op == 2) = true := beq_iff_eq.2 q2
        have en := Aside0.mk (show nextL L s = dropP L s.id by unfold nextL; rw [if_neg q1, if_pos q2])
        cases hh : hasP L s.id
        · have em := Aside0.mk (show midL L s = [] by unfold midL; rw [if_neg q1, if_pos q2, hh]; rfl)
          clear q1 q2
          go_wp2_with (go_at_call 13; (with_reducible refine (gs_del HG1.out ?side1 (by have := HN.out; omega) s.id z1 _ hh _ rfl).mono ?_); (case side1 => exact (by repeat (first | (with_reducible first | exact Below.refl _ _ | apply below_alloc | apply pw_below_drewN | apply below_drew1) | exact Below.refl _ _))); rintro e w3 ⟨rfl, hG2, hm2⟩; have HM2 := Aside0.mk hm2; have HG2 := Aside0.mk hG2; clear hm2 hG2)
          go_meet
          case rel =>
            rw [em.out, en.out]
            exact ⟨F, _, _, rfl, R_mv (R_to HO.out (by repeat (first | (with_reducible first | exact Below.refl _ _ | apply below_alloc | apply pw_below_drewN | apply below_drew1) | exact Below.refl _ _))) HM2.out (fun k hk => by have := HLT.out k hk; omega), HG2.out.mono (Nat.le_succ _), (Mv.of_below (w := w) (below_step HB1.out (by repeat (first | (with_reducible first | exact Below.refl _ _ | apply below_alloc | apply pw_below_drewN | apply below_drew1) | exact Below.refl _ _))) F).then HM2.out (fun j hj => Or.inl hj), fun k hk => Or.inl hk, Nat.le_trans HSZ.out (Nat.le_trans (below_size (w := w1) (by repeat (first | (with_reducible first | exact Below.refl _ _ | apply below_alloc | apply pw_below_drewN | apply below_drew1) | exact Below.refl _ _))) HM2.out.size), fun k hk hf => by have hk : w.heap.size + 1 = k := (by simpa [Value.ownBlock] using hk); have := HLT.out k hf; omega⟩
        · have em := Aside0.mk (show midL L s = [1] by unfold midL; rw [if_neg q1, if_pos q2, hh]; rfl)
          clear q1 q2
          go_wp2_with (first
            | (go_at_call 13; (with_reducible refine (gs_del HG1.out ?side1 (by have := HN.out; omega) s.id z1 _ hh _ rfl).mono ?_); (case side1 => exact (by repeat (first | (with_reducible first | exact Below.refl _ _ | apply below_alloc | apply pw_below_drewN | apply below_drew1) | exact Below.refl _ _))); rintro e w3 ⟨rfl, hG2, hm2⟩; have HM2 := Aside0.mk hm2; have HG2 := Aside0.mk hG2; have HO2 := Aside0.mk (R_mv (R_to HO.out (by repeat (first | (with_reducible first | exact Below.refl _ _ | apply below_alloc | apply pw_below_drewN | apply below_drew1) | exact Below.refl _ _))) hm2 (fun k hk => by have := HLT.out k hk; omega)); have HMM := Aside0.mk ((Mv.of_below (w := w) (below_step HB1.out (by repeat (first | (with_reducible first | exact Below.refl _ _ | apply below_alloc | apply pw_below_drewN | apply below_drew1) | exact Below.refl _ _))) F).then hm2 (fun j hj => Or.inl hj)); have HSZ2 := Aside0.mk (Nat.le_trans HSZ.out (Nat.le_trans (below_size (w := w1) (by repeat (first | (with_reducible first | exact Below.refl _ _ | apply below_alloc | apply pw_below_drewN | apply below_drew1) | exact Below.refl _ _))) hm2.size)); clear hm2 hG2)
            | (at_builtin; refine wpList_app (w.heap.size + 1) rfl _ _ rfl _ [(L.length : Int)] [1] (some ⟨w3.heap.size, 0, none⟩) 1 1 (fun _ => True) rfl rfl (Kd.R_alloc HO2.out _) (one_C (new_cell w3 #[.int .i64 1] 3 rfl)) (fun _ _ => trivial) (by have := HSZ2.out; simp; omega) (by simp) ?_; intro v1 w9 hR9 hg9 hat9; have HR9 := Aside0.mk hR9; have HG9 := Aside0.mk hg9; clear hR9 hg9 hat9))
          go_meet
          case rel =>
            rw [em.out, en.out]
            obtain ⟨A, c, e⟩ := Kd.R_slice HR9.out
            subst e
            have hG3 : GS (w3.alloc (.cells #[.int .i64 1] 3)) gb F side (n + 1) (dropP L s.id) := HG2.out.below (by repeat (first | (with_reducible first | exact Below.refl _ _ | apply below_alloc | apply pw_below_drewN | apply below_drew1) | exact Below.refl _ _))
            have hM3 : Mv (w3.alloc (.cells #[.int .i64 1] 3)) w9 (fun k => w.heap.size + 1 ≤ k) := Mv.of_grown HG9.out (fun k hk => Kd.R_base HO2.out k hk)
            have hM4 : Mv w (w3.alloc (.cells #[.int .i64 1] 3)) F := HMM.out.below (by repeat (first | (with_reducible first | exact Below.refl _ _ | apply below_alloc | apply pw_below_drewN | apply below_drew1) | exact Below.refl _ _))
            exact ⟨F, A, c, rfl, HR9.out, (hG3.mv hM3 (fun k hk => by have := HLT.out k hk; omega)).mono (Nat.le_succ _), hM4.then hM3 (fun j hj => Or.inr (by omega)), fun k hk => Or.inl hk, Nat.le_trans HSZ2.out (Nat.le_trans (below_size (w := w3) (by repeat (first | (with_reducible first | exact Below.refl _ _ | apply below_alloc | apply pw_below_drewN | apply below_drew1) | exact Below.refl _ _))) hM3.size), fun k hk hf => by have := Kd.R_base HR9.out k hk; have := HLT.out k hf; omega⟩
      · have o2 : (s.op == 2) = false := beq_eq_false_iff_ne.2 q2
        have en := Aside0.mk (show nextL L s = L by unfold nextL; rw [if_neg q1, if_neg q2])
        by_cases q3 : s.op = 3
        · have o3 : (s.op == 3) = true := beq_iff_eq.2 q3
          cases hh : hasP L s.id
          · have em := Aside0.mk (show midL L s = [] by unfold midL; rw [if_neg q1, if_neg q2, if_pos q3, hh]; rfl)
            clear q1 q2 q3
            go_wp2_with (go_at_call 14; (with_reducible refine (gs_at HG1.out ?side1 s.id z1 _ _ rfl _ hh).mono ?_); (case side1 => exact (by repeat (first | (with_reducible first | exact Below.refl _ _ | apply below_alloc | apply pw_below_drewN | apply below_drew1) | exact Below.refl _ _))); rintro e w3 ⟨rfl, hb3⟩; have HB3 := Aside0.mk (below_step (w := w1) (by repeat (first | (with_reducible first | exact Below.refl _ _ | apply below_alloc | apply pw_below_drewN | apply below_drew1) | exact Below.refl _ _)) hb3); clear hb3)
            go_meet
            case rel =>
              rw [em.out, en.out]
              exact ⟨F, _, _, rfl, R_to HO.out (below_step HB3.out (by repeat (first | (with_reducible first | exact Below.refl _ _ | apply below_alloc | apply pw_below_drewN | apply below_drew1) | exact Below.refl _ _))), (HG1.out.below (below_step HB3.out (by repeat (first | (with_reducible first | exact Below.refl _ _ | apply below_alloc | apply pw_below_drewN | apply below_drew1) | exact Below.refl _ _)))).mono (by omega), Mv.of_below (w := w) (below_step HB1.out (below_step HB3.out (by repeat (first | (with_reducible first | exact Below.refl _ _ | apply below_alloc | apply pw_below_drewN | apply below_drew1) | exact Below.refl _ _)))) F, fun k hk => Or.inl hk, Nat.le_trans HSZ.out (below_size (w := w1) (below_step HB3.out (by repeat (first | (with_reducible first | exact Below.refl _ _ | apply below_alloc | apply pw_below_drewN | apply below_drew1) | exact Below.refl _ _)))), fun k hk hf => by have hk : w.heap.size + 1 = k := (by simpa [Value.ownBlock] using hk); have := HLT.out k hf; omega⟩
          · obtain ⟨px, hpx⟩ : ∃ x, (atL L s.id).1 = x := ⟨_, rfl⟩
            obtain ⟨py, hpy⟩ : ∃ y, (atL L s.id).2 = y := ⟨_, rfl⟩
            have em := Aside0.mk (show midL L s = [px, py] by unfold midL; rw [if_neg q1, if_neg q2, if_pos q3, hh, hpx, hpy]; rfl)
            have hxy : atL L s.id = (px, py) := by rw [← hpx, ← hpy]
            clear q1 q2 q3 hpx hpy
            go_wp2_with (first
              | (go_at_call 14; (with_reducible refine (gs_at HG1.out ?side1 s.id z1 _ _ hxy _ hh).mono ?_); (case side1 => exact (by repeat (first | (with_reducible first | exact Below.refl _ _ | apply below_alloc | apply pw_below_drewN | apply below_drew1) | exact Below.refl _ _))); rintro e w3 ⟨rfl, hb3⟩; have HB3 := Aside0.mk (below_step (w := w1) (by repeat (first | (with_reducible first | exact Below.refl _ _ | apply below_alloc | apply pw_below_drewN | apply below_drew1) | exact Below.refl _ _)) hb3); clear hb3)
              | (at_builtin; refine wpList_app (w.heap.size + 1) rfl _ _ rfl _ [(L.length : Int)] [px, py] (some ⟨w3.heap.size + 1, 0, none⟩) 2 2 (fun _ => True) rfl rfl (R_to HO.out (below_step HB3.out (by repeat (first | (with_reducible first | exact Below.refl _ _ | apply below_alloc | apply pw_below_drewN | apply below_drew1) | exact Below.refl _ _)))) (lit_C (xs := [px, py]) (heap_alloc2_new w3 _ _) (by simp)) (fun _ _ => trivial) (by have := HSZ.out; have := HB3.out.size; simp; omega) (by simp) ?_; intro v1 w9 hR9 hg9 hat9; have HR9 := Aside0.mk hR9; have HG9 := Aside0.mk hg9; clear hR9 hg9 hat9))
            go_meet
            case rel =>
              rw [em.out, en.out]
              obtain ⟨A, c, e⟩ := Kd.R_slice HR9.out
              subst e
              have hB4 : Below w1.heap.size w1 ((w3.alloc (.cells #[.int .i64 px, .int .i64 py] 32)).alloc (.cells #[.int .i64 px, .int .i64 py] 3)) := below_step HB3.out (by repeat (first | (with_reducible first | exact Below.refl _ _ | apply below_alloc | apply pw_below_drewN | apply below_drew1) | exact Below.refl _ _))
              have hM3 : Mv ((w3.alloc (.cells #[.int .i64 px, .int .i64 py] 32)).alloc (.cells #[.int .i64 px, .int .i64 py] 3)) w9 (fun k => w.heap.size + 1 ≤ k) := Mv.of_grown HG9.out (fun k hk => Kd.R_base HO.out k hk)
              exact ⟨F, A, c, rfl, HR9.out, ((HG1.out.below hB4).mv hM3 (fun k hk => by have := HLT.out k hk; omega)).mono (by omega), (Mv.of_below (w := w) (below_step HB1.out hB4) F).then hM3 (fun j hj => Or.inr (by omega)), fun k hk => Or.inl hk, Nat.le_trans HSZ.out (Nat.le_trans hB4.size hM3.size), fun k hk hf => by have := Kd.R_base HR9.out k hk; have := HLT.out k hf; omega⟩
        · have o3 : (s.op == 3) = false := beq_eq_false_iff_ne.2 q3
          by_cases q4 : s.op = 4
          · have o4 : (s.op == 4) = true := beq_iff_eq.2 q4
            obtain ⟨xs, hxs⟩ : ∃ xs, inL L s.x s.y s.r = xs := ⟨_, rfl⟩
            have em := Aside0.mk (show midL L s = xs by unfold midL; rw [if_neg q1, if_neg q2, if_neg q3, if_pos q4, hxs])
            have hxl := Aside0.mk (show xs.length ≤ 1000000 by rw [← hxs]; exact Nat.le_trans (inL_len _ _ _ _) HLEN.out)
            clear q1 q2 q3 q4
            go_wp2_with (first
              | (go_at_call 17; (with_reducible refine (gs_near HG1.out ?side1 HN.out z2 z3 z4 xs hxs).mono ?_); (case side1 => exact (by repeat (first | (with_reducible first | exact Below.refl _ _ | apply below_alloc | apply pw_below_drewN | apply below_drew1) | exact Below.refl _ _))); rintro e w3 ⟨A3, c3, rfl, hR3, hc3, hb3⟩; have HB3 := Aside0.mk (below_step (w := w1) (by repeat (first | (with_reducible first | exact Below.refl _ _ | apply below_alloc | apply pw_below_drewN | apply below_drew1) | exact Below.refl _ _)) hb3); have HR3 := Aside0.mk hR3; clear hb3 hR3)
              | (at_builtin; refine wpList_app (w.heap.size + 1) rfl _ _ rfl _ [(L.length : Int)] xs A3 xs.length c3 (fun _ => True) rfl rfl (R_to HO.out (below_step HB3.out (by repeat (first | (with_reducible first | exact Below.refl _ _ | apply below_alloc | apply pw_below_drewN | apply below_drew1) | exact Below.refl _ _)))) ((Kd.R_reads' HR3.out).2.2) (fun _ _ => trivial) (by have := HSZ.out; have := HB3.out.size; (try simp); omega) (by have := hxl.out; simp; omega) ?_; intro v1 w9 hR9 hg9 hat9; have HR9 := Aside0.mk hR9; have HG9 := Aside0.mk hg9; clear hR9 hg9 hat9))
            go_meet
            case rel =>
              rw [em.out, en.out]
              obtain ⟨A, c, e⟩ := Kd.R_slice HR9.out
              subst e
              have hM3 : Mv w3 w9 (fun k => w.heap.size + 1 ≤ k) := Mv.of_grown HG9.out (fun k hk => Kd.R_base HO.out k hk)
              exact ⟨F, A, c, rfl, HR9.out, ((HG1.out.below HB3.out).mv hM3 (fun k hk => by have := HLT.out k hk; omega)).mono (by omega), (Mv.of_below (w := w) (below_step HB1.out HB3.out) F).then hM3 (fun j hj => Or.inr (by omega)), fun k hk => Or.inl hk, Nat.le_trans HSZ.out (Nat.le_trans HB3.out.size hM3.size), fun k hk hf => by have := Kd.R_base HR9.out k hk; have := HLT.out k hf; omega⟩
          · have o4 : (s.op == 4) = false := beq_eq_false_iff_ne.2 q4
            by_cases q5 : s.op = 5
            · have o5 : (s.op == 5) = true := beq_iff_eq.2 q5
              obtain ⟨xs, hxs⟩ : ∃ xs, (nearS L s.x s.y s.r).take s.n.toNat = xs := ⟨_, rfl⟩
              have em := Aside0.mk (show midL L s = xs by unfold midL; rw [if_neg q1, if_neg q2, if_neg q3, if_neg q4, if_pos q5, hxs])
              have hxl := Aside0.mk (show xs.length ≤ 1000000 by rw [← hxs, List.length_take]; exact Nat.le_trans (Nat.min_le_right _ _) (Nat.le_trans (nearS_len _ _ _ _) HLEN.out))
              clear q1 q2 q3 q4 q5
              go_wp2_with (first
                | (go_at_call 19; (with_reducible refine (gs_nearest HG1.out ?side1 HN.out z2 z3 z4 xs hxs).mono ?_); (case side1 => exact (by repeat (first | (with_reducible first | exact Below.refl _ _ | apply below_alloc | apply pw_below_drewN | apply below_drew1) | exact Below.refl _ _))); rintro e w3 ⟨A3, c3, ys3, rfl, _, hR3, hb3⟩; have HB3 := Aside0.mk (below_step (w := w1) (by repeat (first | (with_reducible first | exact Below.refl _ _ | apply below_alloc | apply pw_below_drewN | apply below_drew1) | exact Below.refl _ _)) hb3); have HR3 := Aside0.mk hR3; clear hb3 hR3)
                | (at_builtin; refine wpList_app (w.heap.size + 1) rfl _ _ rfl _ [(L.length : Int)] xs A3 xs.length xs.length (fun _ => True) rfl rfl (R_to HO.out (below_step HB3.out (by repeat (first | (with_reducible first | exact Below.refl _ _ | apply below_alloc | apply pw_below_drewN | apply below_drew1) | exact Below.refl _ _)))) HR3.out (fun _ _ => trivial) (by have := HSZ.out; have := HB3.out.size; (try simp); omega) (by have := hxl.out; simp; omega) ?_; intro v1 w9 hR9 hg9 hat9; have HR9 := Aside0.mk hR9; have HG9 := Aside0.mk hg9; clear hR9 hg9 hat9))
              go_meet
              case rel =>
                rw [em.out, en.out]
                obtain ⟨A, c, e⟩ := Kd.R_slice HR9.out
                subst e
                have hM3 : Mv w3 w9 (fun k => w.heap.size + 1 ≤ k) := Mv.of_grown HG9.out (fun k hk => Kd.R_base HO.out k hk)
                exact ⟨F, A, c, rfl, HR9.out, ((HG1.out.below HB3.out).mv hM3 (fun k hk => by have := HLT.out k hk; omega)).mono (by omega), (Mv.of_below (w := w) (below_step HB1.out HB3.out) F).then hM3 (fun j hj => Or.inr (by omega)), fun k hk => Or.inl hk, Nat.le_trans HSZ.out (Nat.le_trans HB3.out.size hM3.size), fun k hk hf => by have := Kd.R_base HR9.out k hk; have := HLT.out k hf; omega⟩
            · have o5 : (s.op == 5) = false := beq_eq_false_iff_ne.2 q5
              have em := Aside0.mk (show midL L s = [] by unfold midL; rw [if_neg q1, if_neg q2, if_neg q3, if_neg q4, if_neg q5])
              clear q1 q2 q3 q4 q5
              go_wp2
              go_meet
              case rel =>
                rw [em.out, en.out]
                exact ⟨F, _, _, rfl, R_to HO.out (by repeat (first | (with_reducible first | exact Below.refl _ _ | apply below_alloc | apply pw_below_drewN | apply below_drew1) | exact Below.refl _ _)), (HG1.out.below (by repeat (first | (with_reducible first | exact Below.refl _ _ | apply below_alloc | apply pw_below_drewN | apply below_drew1) | exact Below.refl _ _))).mono (by omega), Mv.of_below (w := w) (below_step HB1.out (by repeat (first | (with_reducible first | exact Below.refl _ _ | apply below_alloc | apply pw_below_drewN | apply below_drew1) | exact Below.refl _ _))) F, fun k hk => Or.inl hk, Nat.le_trans HSZ.out (below_size (w := w1) (by repeat (first | (with_reducible first | exact Below.refl _ _ | apply below_alloc | apply pw_below_drewN | apply below_drew1) | exact Below.refl _ _))), fun k hk hf => by have hk : w.heap.size + 1 = k := (by simpa [Value.ownBlock] using hk); have := HLT.out k hf; omega⟩
  case rest =>
    clear HO HG1 HB1 HSZ x0 x1 x2 x3 x4 x5
    obtain ⟨F', A, c, rfl, hO, hG, hM, hF', hsz, hown⟩ := hcut
    obtain ⟨ys, hys⟩ : ∃ ys, [(L.length : Int)] ++ midL L s = ys := ⟨_, rfl⟩
    have hyl := Aside0.mk (show ys.length ≤ 1000003 by rw [← hys]; have := midL_len L s; have := HLEN.out; simp; omega)
    have hya : ansL L s = ys ++ [((nextL L s).length : Int)] := by rw [← hys]; rfl
    rw [hys] at hO hown ⊢
    have HOWN := Aside0.mk hown
    have HYA := Aside0.mk hya
    obtain ⟨M, hM2⟩ : ∃ M, (nextL L s).length = M := ⟨_, rfl⟩
    have HM2 := Aside0.mk hM2
    have HO := Aside0.mk hO
    have HG := Aside0.mk hG
    have HM := Aside0.mk hM
    have HF' := Aside0.mk hF'
    have HSZ := Aside0.mk hsz
    clear hO hG hM hF' hsz hys hya hown
    go_wp2_with (first
      | (go_at_call 21; (with_reducible refine (gs_len HG.out ?side1 M hM2).mono ?_); (case side1 => exact (by repeat (first | (with_reducible first | exact Below.refl _ _ | apply below_alloc | apply pw_below_drewN | apply below_drew1) | exact Below.refl _ _))); rintro e w3 ⟨rfl, rfl⟩)
      | (at_builtin; refine wpList_app (w.heap.size + 1) rfl _ _ rfl _ ys [(M : Int)] (some ⟨w3.heap.size, 0, none⟩) 1 1 (fun _ => True) rfl rfl (Kd.R_alloc HO.out _) (one_C (new_cell w3 #[.int .i64 (M : Int)] 3 rfl)) (fun _ _ => trivial) (by have := HSZ.out; simp; omega) (by have := hyl.out; simp; omega) ?_; intro v1 w9 hR9 hg9 hat9; have HR9 := Aside0.mk hR9; have HG9 := Aside0.mk hg9; clear hR9 hg9 hat9))
    go_ret
    have e1 := HYA.out
    rw [HM2.out] at e1
    rw [e1]
    obtain ⟨A1, c1, e⟩ := Kd.R_slice HR9.out
    subst e
    have hM3 : Mv (w3.alloc (.cells #[.int .i64 (M : Int)] 3)) w9 (fun k => (Value.slice A ys.length c).ownBlock = some k) := Mv.of_grown HG9.out (fun k hk => hk)
    exact ⟨A1, c1, F', rfl, HR9.out, (Kd.R_reads' HR9.out).2.1, (HG.out.below (w' := w3.alloc (.cells #[.int .i64 (M : Int)] 3)) (by repeat (first | (with_reducible first | exact Below.refl _ _ | apply below_alloc | apply pw_below_drewN | apply below_drew1) | exact Below.refl _ _))).mv hM3 (fun k hk hs => HOWN.out k hs hk), (HM.out.below (w2 := w3.alloc (.cells #[.int .i64 (M : Int)] 3)) (by repeat (first | (with_reducible first | exact Below.refl _ _ | apply below_alloc | apply pw_below_drewN | apply below_drew1) | exact Below.refl _ _))).then hM3 (fun j hj => Or.inr (by have := Kd.R_base HO.out j hj; omega)), HF'.out⟩
end Go.Proofs.Ytggmfmlfkhcbdaa.Gr
