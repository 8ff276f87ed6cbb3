/- The walk of NameRunes: of every number that is a rune. -/
import Derived.Test.YtlmbkliieckakaaDoorQA1
import Derived.Test.YtlmbkliieckakaaDoorQA12
namespace Go.Proofs.YtlmbkliieckakaaDoor.Nm
open Go QA Go.RowKit Go.Proofs.YtlmbkliieckakaaDoorW.PrintWords Go.Proofs.YtlmbkliieckakaaDoorW.PrintLast Go.Proofs.YtlmbkliieckakaaDoorW.PrintMore
set_option linter.unusedVariables false
set_option linter.unusedSimpArgs false

def goodP (n : Int) : Bool := decide ((97 ≤ n ∧ n ≤ 122) ∨ (65 ≤ n ∧ n ≤ 90) ∨ (48 ≤ n ∧ n ≤ 57) ∨ n = 95 ∨ n = 45 ∨ (192 ≤ n ∧ n ≤ 255 ∧ n ≠ 215 ∧ n ≠ 247) ∨ (945 ≤ n ∧ n ≤ 969))
def bigP (n : Int) : Bool := decide ((65 ≤ n ∧ n ≤ 90) ∨ (192 ≤ n ∧ n ≤ 222 ∧ n ≠ 215))
def mOf (n : Int) : Int := if bigP n = true then n + 32 else n

theorem range_cases (n : Int) : n < 45 ∨ n = 45 ∨ (45 < n ∧ n < 48) ∨ (48 ≤ n ∧ n ≤ 57) ∨ (57 < n ∧ n < 65) ∨ (65 ≤ n ∧ n ≤ 90) ∨ (90 < n ∧ n < 95) ∨ n = 95 ∨ (95 < n ∧ n < 97) ∨ (97 ≤ n ∧ n ≤ 122) ∨ (122 < n ∧ n < 192) ∨ (192 ≤ n ∧ n < 215) ∨ n = 215 ∨ (215 < n ∧ n < 247) ∨ n = 247 ∨ (247 < n ∧ n ≤ 255) ∨ (255 < n ∧ n < 945) ∨ (945 ≤ n ∧ n ≤ 969) ∨ 969 < n := by omega


set_option maxHeartbeats 8000000 in
set_option maxRecDepth 100000 in
theorem runes_walk (n : Int) (s f u : ByteArray) (c : Int) (w : World) (hGL : GL w) (h0 : 0 ≤ n) (h1 : n ≤ 1114111)
    (A4 : joustlaw06_spell.f 2 n = some (s, true)) (A5 : joustlaw06_spell.f 2 (mOf n) = some (f, true))
    (A6 : name_Check.f s = some c) (hc : (goodP n = true ∧ c = 0) ∨ (goodP n = false ∧ c = 60)) (A7 : name_Fold.f s = some f) (A8 : name_Runes.f s = some 1) (A9 : name_Cut.f s 1 = some s) (hAl : joustlaw06_alive.f = some true)
    (hs1 : 1 ≤ s.size) (hs4 : s.size ≤ 4) (hu : s.extract 0 (s.size - 1) = u)
    (hrest : s.size ≠ 1 → name_Runes.f u = some (u.size : Int) ∧ name_Check.f u = some 60 ∧ name_Fold.f u = some u ∧ name_Runes.f (s ++ s) = some 2) :
    Calls Tryd.prog 8 #[.int .i64 n] w fun e w' => e = .returned (.bool true) ∧ Below w.heap.size w w' := by
  have HB := Aside0.mk (Below.refl w.heap.size w)
  have B4 := Aside0.mk A4
  have B5 := Aside0.mk A5
  have B6 := Aside0.mk A6
  have B7 := Aside0.mk A7
  have B8 := Aside0.mk A8
  have B9 := Aside0.mk A9
  have Bc := Aside0.mk hc
  have Bu := Aside0.mk hu
  have Br := Aside0.mk hrest
  clear A4 A5 A6 A7 A8 A9 hc hu hrest
  go_enter Tryd.func8, Tryd.ntmps8
  go_upto_region 6 with (first
    | (go_at_call 9; (with_reducible refine (joustlaw06_alive.calls true _ ?side1 hAl).mono ?_); (case side1 => first | exact hGL | exact GL.of_below hGL (by repeat (first | (with_reducible first | exact HB.out | apply below_alloc | apply pw_below_drewN | apply below_drew1) | exact HB.out))); rintro e w2 ⟨rfl, hb⟩; have n0_ := Aside0.mk (below_step (by repeat (first | (with_reducible first | exact HB.out | apply below_alloc | apply pw_below_drewN | apply below_drew1) | exact HB.out)) hb); clear HB; have HB := n0_; clear n0_; clear hb)
    | (go_at_call 23; (with_reducible refine (joustlaw06_spell.calls 2 n s true _ ?side1 B4.out).mono ?_); (case side1 => first | exact hGL | exact GL.of_below hGL (by repeat (first | (with_reducible first | exact HB.out | apply below_alloc | apply pw_below_drewN | apply below_drew1) | exact HB.out))); rintro e w2 ⟨rfl, hb⟩; have n0_ := Aside0.mk (below_step (by repeat (first | (with_reducible first | exact HB.out | apply below_alloc | apply pw_below_drewN | apply below_drew1) | exact HB.out)) hb); clear HB; have HB := n0_; clear n0_; clear hb))
  (try simp only [Act.put, List.setIfInBounds_toArray, List.set_cons_zero, List.set_cons_succ])
  go_cut [5] (fun v5 wc => v5 = .bool (goodP n) ∧ Aside0 (Below w.heap.size w wc))
  case first =>
    rcases range_cases n with r | r | r | r | r | r | r | r | r | r | r | r | r | r | r | r | r | r | r
    all_goals
      first | (have q1 : (n == 95) = true := beq_iff_eq.2 (by omega)) | (have q1 : (n == 95) = false := beq_eq_false_iff_ne.2 (by omega))
      first | (have q2 : (n == 45) = true := beq_iff_eq.2 (by omega)) | (have q2 : (n == 45) = false := beq_eq_false_iff_ne.2 (by omega))
      first | (have q3 : (n != 215) = true := bne_iff_ne.2 (by omega)) | (have q3 : (n != 215) = false := bne_eq_false_iff_eq.2 (by omega))
      first | (have q4 : (n != 247) = true := bne_iff_ne.2 (by omega)) | (have q4 : (n != 247) = false := bne_eq_false_iff_eq.2 (by omega))
      have hg : Aside0 ((goodP n = true ∧ ¬ n < 45) ∨ (goodP n = false)) := ⟨by unfold goodP; simp only [decide_eq_true_eq, decide_eq_false_iff_not]; omega⟩
      have HG : Aside0 (goodP n = decide ((97 ≤ n ∧ n ≤ 122) ∨ (65 ≤ n ∧ n ≤ 90) ∨ (48 ≤ n ∧ n ≤ 57) ∨ n = 95 ∨ n = 45 ∨ (192 ≤ n ∧ n ≤ 255 ∧ n ≠ 215 ∧ n ≠ 247) ∨ (945 ≤ n ∧ n ≤ 969))) := ⟨rfl⟩
      clear hg
      go_wp2
      go_meet
      case rel =>
        refine ⟨?_, HB⟩
        rw [HG.out]
        first
          | (rw [decide_eq_true (by omega)]; done)
          | (rw [decide_eq_false (by omega)]; done)
          | (congr 1; rw [Bool.eq_iff_iff]; simp only [Bool.or_eq_true, Bool.and_eq_true, decide_eq_true_eq]; omega)
  case rest =>
    obtain ⟨rfl, HB⟩ := hcut
    go_upto_region 8 with (fail)
    go_cut [91] (fun v91 wc => v91 = .bool (bigP n) ∧ Aside0 (Below w.heap.size w wc))
    case first =>
      have HG : Aside0 (bigP n = decide ((65 ≤ n ∧ n ≤ 90) ∨ (192 ≤ n ∧ n ≤ 222 ∧ n ≠ 215))) := ⟨rfl⟩
      rcases (show n < 65 ∨ (65 ≤ n ∧ n ≤ 90) ∨ (90 < n ∧ n < 192) ∨ (192 ≤ n ∧ n < 215) ∨ n = 215 ∨ (215 < n ∧ n ≤ 222) ∨ 222 < n by omega) with r | r | r | r | r | r | r
      all_goals
        first | (have q3 : (n != 215) = true := bne_iff_ne.2 (by omega)) | (have q3 : (n != 215) = false := bne_eq_false_iff_eq.2 (by omega))
        go_wp2
        go_meet
        case rel =>
          refine ⟨?_, HB⟩
          rw [HG.out]
          first
            | (rw [decide_eq_true (by omega)]; done)
            | (rw [decide_eq_false (by omega)]; done)
            | (congr 1; rw [Bool.eq_iff_iff]; simp only [Bool.or_eq_true, Bool.and_eq_true, decide_eq_true_eq]; omega)
    case rest =>
      obtain ⟨rfl, HB⟩ := hcut
      have HM : Aside0 (mOf n = if bigP n = true then n + 32 else n) := ⟨rfl⟩
      go_upto_if 91 with (fail)
      go_cut [6] (fun v6 wc => v6 = .int .i64 (mOf n) ∧ Aside0 (Below w.heap.size w wc))
      case first =>
        have HM2 := HM
        obtain ⟨b, hb⟩ : ∃ b, bigP n = b := ⟨_, rfl⟩
        rw [hb] at HM2 ⊢
        have HB2 := Aside0.mk hb
        clear hb HM
        cases b
        · go_wp2
          go_meet
          case rel => exact ⟨by rw [HM2.out]; rfl, HB⟩
        · go_wp2
          go_meet
          case rel => exact ⟨by rw [HM2.out]; rfl, HB⟩
      case rest =>
        obtain ⟨rfl, HB⟩ := hcut
        obtain ⟨m, hm⟩ : ∃ m, mOf n = m := ⟨_, rfl⟩
        have C5 : Aside0 (joustlaw06_spell.f 2 m = some (f, true)) := ⟨by rw [← hm]; exact B5.out⟩
        clear B5
        rw [hm]
        clear hm HM
        have hj : ∀ {r : Int}, True := trivial
        have hcc := Bc.out
        clear Bc
        obtain ⟨g, hg⟩ : ∃ g, goodP n = g := ⟨_, rfl⟩
        rw [hg] at hcc ⊢
        clear hg
        rcases hcc with ⟨rfl, rfl⟩ | ⟨rfl, rfl⟩ <;> by_cases hone : s.size = 1
        · go_wp2_with (first
            | (go_at_call 23; (with_reducible refine (joustlaw06_spell.calls 2 m f true _ ?side1 C5.out).mono ?_); (case side1 => first | exact hGL | exact GL.of_below hGL (by repeat (first | (with_reducible first | exact HB.out | apply below_alloc | apply pw_below_drewN | apply below_drew1) | exact HB.out))); rintro e w2 ⟨rfl, hb⟩; have n0_ := Aside0.mk (below_step (by repeat (first | (with_reducible first | exact HB.out | apply below_alloc | apply pw_below_drewN | apply below_drew1) | exact HB.out)) hb); clear HB; have HB := n0_; clear n0_; clear hb)
            | (go_at_call 18; (with_reducible refine (name_Check.calls s _ _ ?side1 B6.out).mono ?_); (case side1 => first | exact hGL | exact GL.of_below hGL (by repeat (first | (with_reducible first | exact HB.out | apply below_alloc | apply pw_below_drewN | apply below_drew1) | exact HB.out))); rintro e w2 ⟨rfl, hb⟩; have n0_ := Aside0.mk (below_step (by repeat (first | (with_reducible first | exact HB.out | apply below_alloc | apply pw_below_drewN | apply below_drew1) | exact HB.out)) hb); clear HB; have HB := n0_; clear n0_; clear hb)
            | (go_at_call 17; (with_reducible refine (joustlaw06_num.calls _ _ _ ?side1 rfl).mono ?_); (case side1 => first | exact hGL | exact GL.of_below hGL (by repeat (first | (with_reducible first | exact HB.out | apply below_alloc | apply pw_below_drewN | apply below_drew1) | exact HB.out))); rintro e w' ⟨rfl, ⟨nd, rfl⟩⟩)
            | (go_at_call 15; (with_reducible refine (name_Fold.calls s f _ ?side1 B7.out).mono ?_); (case side1 => first | exact hGL | exact GL.of_below hGL (by repeat (first | (with_reducible first | exact HB.out | apply below_alloc | apply pw_below_drewN | apply below_drew1) | exact HB.out))); rintro e w2 ⟨rfl, hb⟩; have n0_ := Aside0.mk (below_step (by repeat (first | (with_reducible first | exact HB.out | apply below_alloc | apply pw_below_drewN | apply below_drew1) | exact HB.out)) hb); clear HB; have HB := n0_; clear n0_; clear hb)
            | (go_at_call 16; (with_reducible refine (name_Runes.calls s 1 _ ?side1 B8.out).mono ?_); (case side1 => first | exact hGL | exact GL.of_below hGL (by repeat (first | (with_reducible first | exact HB.out | apply below_alloc | apply pw_below_drewN | apply below_drew1) | exact HB.out))); rintro e w2 ⟨rfl, hb⟩; have n0_ := Aside0.mk (below_step (by repeat (first | (with_reducible first | exact HB.out | apply below_alloc | apply pw_below_drewN | apply below_drew1) | exact HB.out)) hb); clear HB; have HB := n0_; clear n0_; clear hb)
            | (go_at_call 19; (with_reducible refine (name_Cut.calls s 1 s _ ?side1 B9.out).mono ?_); (case side1 => first | exact hGL | exact GL.of_below hGL (by repeat (first | (with_reducible first | exact HB.out | apply below_alloc | apply pw_below_drewN | apply below_drew1) | exact HB.out))); rintro e w2 ⟨rfl, hb⟩; have n0_ := Aside0.mk (below_step (by repeat (first | (with_reducible first | exact HB.out | apply below_alloc | apply pw_below_drewN | apply below_drew1) | exact HB.out)) hb); clear HB; have HB := n0_; clear n0_; clear hb))
          go_ret
          exact ⟨rfl, by repeat (first | (with_reducible first | exact HB.out | apply below_alloc | apply pw_below_drewN | apply below_drew1) | exact HB.out)⟩
        · obtain ⟨R1, R2, R3, R4⟩ := Br.out hone
          have D1 := Aside0.mk R1
          have D2 := Aside0.mk R2
          have D3 := Aside0.mk R3
          have D4 := Aside0.mk R4
          clear R1 R2 R3 R4
          have hsl : ∀ W : World, (Instr.slice 9 (.string s) none (some (.int .i64 ((s.size : Int) - 1))) none).run Tryd.prog W = .ok (.string u) W := by
            intro W
            rw [run_slice_string_h W 9 s Tryd.underlying9 .i64 _ (by omega) (by omega), ← Bu.out]
            congr 3
            omega
          have hadd : ∀ W : World, (Op.stringOp .add s s).run Tryd.prog W = .ok (.string (s ++ s)) W := fun W => run_string_add_sum W _ _ (by omega)
          go_wp2_with (first
            | (go_at_call 23; (with_reducible refine (joustlaw06_spell.calls 2 m f true _ ?side1 C5.out).mono ?_); (case side1 => first | exact hGL | exact GL.of_below hGL (by repeat (first | (with_reducible first | exact HB.out | apply below_alloc | apply pw_below_drewN | apply below_drew1) | exact HB.out))); rintro e w2 ⟨rfl, hb⟩; have n0_ := Aside0.mk (below_step (by repeat (first | (with_reducible first | exact HB.out | apply below_alloc | apply pw_below_drewN | apply below_drew1) | exact HB.out)) hb); clear HB; have HB := n0_; clear n0_; clear hb)
            | (go_at_call 18; (with_reducible refine (name_Check.calls s _ _ ?side1 B6.out).mono ?_); (case side1 => first | exact hGL | exact GL.of_below hGL (by repeat (first | (with_reducible first | exact HB.out | apply below_alloc | apply pw_below_drewN | apply below_drew1) | exact HB.out))); rintro e w2 ⟨rfl, hb⟩; have n0_ := Aside0.mk (below_step (by repeat (first | (with_reducible first | exact HB.out | apply below_alloc | apply pw_below_drewN | apply below_drew1) | exact HB.out)) hb); clear HB; have HB := n0_; clear n0_; clear hb)
            | (go_at_call 18; (with_reducible refine (name_Check.calls u 60 _ ?side1 D2.out).mono ?_); (case side1 => first | exact hGL | exact GL.of_below hGL (by repeat (first | (with_reducible first | exact HB.out | apply below_alloc | apply pw_below_drewN | apply below_drew1) | exact HB.out))); rintro e w2 ⟨rfl, hb⟩; have n0_ := Aside0.mk (below_step (by repeat (first | (with_reducible first | exact HB.out | apply below_alloc | apply pw_below_drewN | apply below_drew1) | exact HB.out)) hb); clear HB; have HB := n0_; clear n0_; clear hb)
            | (go_at_call 17; (with_reducible refine (joustlaw06_num.calls _ _ _ ?side1 rfl).mono ?_); (case side1 => first | exact hGL | exact GL.of_below hGL (by repeat (first | (with_reducible first | exact HB.out | apply below_alloc | apply pw_below_drewN | apply below_drew1) | exact HB.out))); rintro e w' ⟨rfl, ⟨nd, rfl⟩⟩)
            | (go_at_call 17; (with_reducible refine (joustlaw06_num.calls _ _ _ ?side1 rfl).mono ?_); (case side1 => first | exact hGL | exact GL.of_below hGL (by repeat (first | (with_reducible first | exact HB.out | apply below_alloc | apply pw_below_drewN | apply below_drew1) | exact HB.out))); rintro e w' ⟨rfl, ⟨nd, rfl⟩⟩)
            | (go_at_call 15; (with_reducible refine (name_Fold.calls s f _ ?side1 B7.out).mono ?_); (case side1 => first | exact hGL | exact GL.of_below hGL (by repeat (first | (with_reducible first | exact HB.out | apply below_alloc | apply pw_below_drewN | apply below_drew1) | exact HB.out))); rintro e w2 ⟨rfl, hb⟩; have n0_ := Aside0.mk (below_step (by repeat (first | (with_reducible first | exact HB.out | apply below_alloc | apply pw_below_drewN | apply below_drew1) | exact HB.out)) hb); clear HB; have HB := n0_; clear n0_; clear hb)
            | (go_at_call 15; (with_reducible refine (name_Fold.calls u u _ ?side1 D3.out).mono ?_); (case side1 => first | exact hGL | exact GL.of_below hGL (by repeat (first | (with_reducible first | exact HB.out | apply below_alloc | apply pw_below_drewN | apply below_drew1) | exact HB.out))); rintro e w2 ⟨rfl, hb⟩; have n0_ := Aside0.mk (below_step (by repeat (first | (with_reducible first | exact HB.out | apply below_alloc | apply pw_below_drewN | apply below_drew1) | exact HB.out)) hb); clear HB; have HB := n0_; clear n0_; clear hb)
            | (go_at_call 16; (with_reducible refine (name_Runes.calls s 1 _ ?side1 B8.out).mono ?_); (case side1 => first | exact hGL | exact GL.of_below hGL (by repeat (first | (with_reducible first | exact HB.out | apply below_alloc | apply pw_below_drewN | apply below_drew1) | exact HB.out))); rintro e w2 ⟨rfl, hb⟩; have n0_ := Aside0.mk (below_step (by repeat (first | (with_reducible first | exact HB.out | apply below_alloc | apply pw_below_drewN | apply below_drew1) | exact HB.out)) hb); clear HB; have HB := n0_; clear n0_; clear hb)
            | (go_at_call 16; (with_reducible refine (name_Runes.calls u _ _ ?side1 D1.out).mono ?_); (case side1 => first | exact hGL | exact GL.of_below hGL (by repeat (first | (with_reducible first | exact HB.out | apply below_alloc | apply pw_below_drewN | apply below_drew1) | exact HB.out))); rintro e w2 ⟨rfl, hb⟩; have n0_ := Aside0.mk (below_step (by repeat (first | (with_reducible first | exact HB.out | apply below_alloc | apply pw_below_drewN | apply below_drew1) | exact HB.out)) hb); clear HB; have HB := n0_; clear n0_; clear hb)
            | (go_at_call 16; (with_reducible refine (name_Runes.calls (s ++ s) _ _ ?side1 D4.out).mono ?_); (case side1 => first | exact hGL | exact GL.of_below hGL (by repeat (first | (with_reducible first | exact HB.out | apply below_alloc | apply pw_below_drewN | apply below_drew1) | exact HB.out))); rintro e w2 ⟨rfl, hb⟩; have n0_ := Aside0.mk (below_step (by repeat (first | (with_reducible first | exact HB.out | apply below_alloc | apply pw_below_drewN | apply below_drew1) | exact HB.out)) hb); clear HB; have HB := n0_; clear n0_; clear hb)
            | (go_at_call 19; (with_reducible refine (name_Cut.calls s 1 s _ ?side1 B9.out).mono ?_); (case side1 => first | exact hGL | exact GL.of_below hGL (by repeat (first | (with_reducible first | exact HB.out | apply below_alloc | apply pw_below_drewN | apply below_drew1) | exact HB.out))); rintro e w2 ⟨rfl, hb⟩; have n0_ := Aside0.mk (below_step (by repeat (first | (with_reducible first | exact HB.out | apply below_alloc | apply pw_below_drewN | apply below_drew1) | exact HB.out)) hb); clear HB; have HB := n0_; clear n0_; clear hb))
          go_ret
          exact ⟨rfl, by repeat (first | (with_reducible first | exact HB.out | apply below_alloc | apply pw_below_drewN | apply below_drew1) | exact HB.out)⟩
        · go_wp2_with (first
            | (go_at_call 23; (with_reducible refine (joustlaw06_spell.calls 2 m f true _ ?side1 C5.out).mono ?_); (case side1 => first | exact hGL | exact GL.of_below hGL (by repeat (first | (with_reducible first | exact HB.out | apply below_alloc | apply pw_below_drewN | apply below_drew1) | exact HB.out))); rintro e w2 ⟨rfl, hb⟩; have n0_ := Aside0.mk (below_step (by repeat (first | (with_reducible first | exact HB.out | apply below_alloc | apply pw_below_drewN | apply below_drew1) | exact HB.out)) hb); clear HB; have HB := n0_; clear n0_; clear hb)
            | (go_at_call 18; (with_reducible refine (name_Check.calls s _ _ ?side1 B6.out).mono ?_); (case side1 => first | exact hGL | exact GL.of_below hGL (by repeat (first | (with_reducible first | exact HB.out | apply below_alloc | apply pw_below_drewN | apply below_drew1) | exact HB.out))); rintro e w2 ⟨rfl, hb⟩; have n0_ := Aside0.mk (below_step (by repeat (first | (with_reducible first | exact HB.out | apply below_alloc | apply pw_below_drewN | apply below_drew1) | exact HB.out)) hb); clear HB; have HB := n0_; clear n0_; clear hb)
            | (go_at_call 17; (with_reducible refine (joustlaw06_num.calls _ _ _ ?side1 rfl).mono ?_); (case side1 => first | exact hGL | exact GL.of_below hGL (by repeat (first | (with_reducible first | exact HB.out | apply below_alloc | apply pw_below_drewN | apply below_drew1) | exact HB.out))); rintro e w' ⟨rfl, ⟨nd, rfl⟩⟩)
            | (go_at_call 15; (with_reducible refine (name_Fold.calls s f _ ?side1 B7.out).mono ?_); (case side1 => first | exact hGL | exact GL.of_below hGL (by repeat (first | (with_reducible first | exact HB.out | apply below_alloc | apply pw_below_drewN | apply below_drew1) | exact HB.out))); rintro e w2 ⟨rfl, hb⟩; have n0_ := Aside0.mk (below_step (by repeat (first | (with_reducible first | exact HB.out | apply below_alloc | apply pw_below_drewN | apply below_drew1) | exact HB.out)) hb); clear HB; have HB := n0_; clear n0_; clear hb)
            | (go_at_call 16; (with_reducible refine (name_Runes.calls s 1 _ ?side1 B8.out).mono ?_); (case side1 => first | exact hGL | exact GL.of_below hGL (by repeat (first | (with_reducible first | exact HB.out | apply below_alloc | apply pw_below_drewN | apply below_drew1) | exact HB.out))); rintro e w2 ⟨rfl, hb⟩; have n0_ := Aside0.mk (below_step (by repeat (first | (with_reducible first | exact HB.out | apply below_alloc | apply pw_below_drewN | apply below_drew1) | exact HB.out)) hb); clear HB; have HB := n0_; clear n0_; clear hb)
            | (go_at_call 19; (with_reducible refine (name_Cut.calls s 1 s _ ?side1 B9.out).mono ?_); (case side1 => first | exact hGL | exact GL.of_below hGL (by repeat (first | (with_reducible first | exact HB.out | apply below_alloc | apply pw_below_drewN | apply below_drew1) | exact HB.out))); rintro e w2 ⟨rfl, hb⟩; have n0_ := Aside0.mk (below_step (by repeat (first | (with_reducible first | exact HB.out | apply below_alloc | apply pw_below_drewN | apply below_drew1) | exact HB.out)) hb); clear HB; have HB := n0_; clear n0_; clear hb))
          go_ret
          exact ⟨rfl, by repeat (first | (with_reducible first | exact HB.out | apply below_alloc | apply pw_below_drewN | apply below_drew1) | exact HB.out)⟩
        · obtain ⟨R1, R2, R3, R4⟩ := Br.out hone
          have D1 := Aside0.mk R1
          have D2 := Aside0.mk R2
          have D3 := Aside0.mk R3
          have D4 := Aside0.mk R4
          clear R1 R2 R3 R4
          have hsl : ∀ W : World, (Instr.slice 9 (.string s) none (some (.int .i64 ((s.size : Int) - 1))) none).run Tryd.prog W = .ok (.string u) W := by
            intro W
            rw [run_slice_string_h W 9 s Tryd.underlying9 .i64 _ (by omega) (by omega), ← Bu.out]
            congr 3
            omega
          have hadd : ∀ W : World, (Op.stringOp .add s s).run Tryd.prog W = .ok (.string (s ++ s)) W := fun W => run_string_add_sum W _ _ (by omega)
          go_wp2_with (first
            | (go_at_call 23; (with_reducible refine (joustlaw06_spell.calls 2 m f true _ ?side1 C5.out).mono ?_); (case side1 => first | exact hGL | exact GL.of_below hGL (by repeat (first | (with_reducible first | exact HB.out | apply below_alloc | apply pw_below_drewN | apply below_drew1) | exact HB.out))); rintro e w2 ⟨rfl, hb⟩; have n0_ := Aside0.mk (below_step (by repeat (first | (with_reducible first | exact HB.out | apply below_alloc | apply pw_below_drewN | apply below_drew1) | exact HB.out)) hb); clear HB; have HB := n0_; clear n0_; clear hb)
            | (go_at_call 18; (with_reducible refine (name_Check.calls s _ _ ?side1 B6.out).mono ?_); (case side1 => first | exact hGL | exact GL.of_below hGL (by repeat (first | (with_reducible first | exact HB.out | apply below_alloc | apply pw_below_drewN | apply below_drew1) | exact HB.out))); rintro e w2 ⟨rfl, hb⟩; have n0_ := Aside0.mk (below_step (by repeat (first | (with_reducible first | exact HB.out | apply below_alloc | apply pw_below_drewN | apply below_drew1) | exact HB.out)) hb); clear HB; have HB := n0_; clear n0_; clear hb)
            | (go_at_call 18; (with_reducible refine (name_Check.calls u 60 _ ?side1 D2.out).mono ?_); (case side1 => first | exact hGL | exact GL.of_below hGL (by repeat (first | (with_reducible first | exact HB.out | apply below_alloc | apply pw_below_drewN | apply below_drew1) | exact HB.out))); rintro e w2 ⟨rfl, hb⟩; have n0_ := Aside0.mk (below_step (by repeat (first | (with_reducible first | exact HB.out | apply below_alloc | apply pw_below_drewN | apply below_drew1) | exact HB.out)) hb); clear HB; have HB := n0_; clear n0_; clear hb)
            | (go_at_call 17; (with_reducible refine (joustlaw06_num.calls _ _ _ ?side1 rfl).mono ?_); (case side1 => first | exact hGL | exact GL.of_below hGL (by repeat (first | (with_reducible first | exact HB.out | apply below_alloc | apply pw_below_drewN | apply below_drew1) | exact HB.out))); rintro e w' ⟨rfl, ⟨nd, rfl⟩⟩)
            | (go_at_call 17; (with_reducible refine (joustlaw06_num.calls _ _ _ ?side1 rfl).mono ?_); (case side1 => first | exact hGL | exact GL.of_below hGL (by repeat (first | (with_reducible first | exact HB.out | apply below_alloc | apply pw_below_drewN | apply below_drew1) | exact HB.out))); rintro e w' ⟨rfl, ⟨nd, rfl⟩⟩)
            | (go_at_call 15; (with_reducible refine (name_Fold.calls s f _ ?side1 B7.out).mono ?_); (case side1 => first | exact hGL | exact GL.of_below hGL (by repeat (first | (with_reducible first | exact HB.out | apply below_alloc | apply pw_below_drewN | apply below_drew1) | exact HB.out))); rintro e w2 ⟨rfl, hb⟩; have n0_ := Aside0.mk (below_step (by repeat (first | (with_reducible first | exact HB.out | apply below_alloc | apply pw_below_drewN | apply below_drew1) | exact HB.out)) hb); clear HB; have HB := n0_; clear n0_; clear hb)
            | (go_at_call 15; (with_reducible refine (name_Fold.calls u u _ ?side1 D3.out).mono ?_); (case side1 => first | exact hGL | exact GL.of_below hGL (by repeat (first | (with_reducible first | exact HB.out | apply below_alloc | apply pw_below_drewN | apply below_drew1) | exact HB.out))); rintro e w2 ⟨rfl, hb⟩; have n0_ := Aside0.mk (below_step (by repeat (first | (with_reducible first | exact HB.out | apply below_alloc | apply pw_below_drewN | apply below_drew1) | exact HB.out)) hb); clear HB; have HB := n0_; clear n0_; clear hb)
            | (go_at_call 16; (with_reducible refine (name_Runes.calls s 1 _ ?side1 B8.out).mono ?_); (case side1 => first | exact hGL | exact GL.of_below hGL (by repeat (first | (with_reducible first | exact HB.out | apply below_alloc | apply pw_below_drewN | apply below_drew1) | exact HB.out))); rintro e w2 ⟨rfl, hb⟩; have n0_ := Aside0.mk (below_step (by repeat (first | (with_reducible first | exact HB.out | apply below_alloc | apply pw_below_drewN | apply below_drew1) | exact HB.out)) hb); clear HB; have HB := n0_; clear n0_; clear hb)
            | (go_at_call 16; (with_reducible refine (name_Runes.calls u _ _ ?side1 D1.out).mono ?_); (case side1 => first | exact hGL | exact GL.of_below hGL (by repeat (first | (with_reducible first | exact HB.out | apply below_alloc | apply pw_below_drewN | apply below_drew1) | exact HB.out))); rintro e w2 ⟨rfl, hb⟩; have n0_ := Aside0.mk (below_step (by repeat (first | (with_reducible first | exact HB.out | apply below_alloc | apply pw_below_drewN | apply below_drew1) | exact HB.out)) hb); clear HB; have HB := n0_; clear n0_; clear hb)
            | (go_at_call 16; (with_reducible refine (name_Runes.calls (s ++ s) _ _ ?side1 D4.out).mono ?_); (case side1 => first | exact hGL | exact GL.of_below hGL (by repeat (first | (with_reducible first | exact HB.out | apply below_alloc | apply pw_below_drewN | apply below_drew1) | exact HB.out))); rintro e w2 ⟨rfl, hb⟩; have n0_ := Aside0.mk (below_step (by repeat (first | (with_reducible first | exact HB.out | apply below_alloc | apply pw_below_drewN | apply below_drew1) | exact HB.out)) hb); clear HB; have HB := n0_; clear n0_; clear hb)
            | (go_at_call 19; (with_reducible refine (name_Cut.calls s 1 s _ ?side1 B9.out).mono ?_); (case side1 => first | exact hGL | exact GL.of_below hGL (by repeat (first | (with_reducible first | exact HB.out | apply below_alloc | apply pw_below_drewN | apply below_drew1) | exact HB.out))); rintro e w2 ⟨rfl, hb⟩; have n0_ := Aside0.mk (below_step (by repeat (first | (with_reducible first | exact HB.out | apply below_alloc | apply pw_below_drewN | apply below_drew1) | exact HB.out)) hb); clear HB; have HB := n0_; clear n0_; clear hb))
          go_ret
          exact ⟨rfl, by repeat (first | (with_reducible first | exact HB.out | apply below_alloc | apply pw_below_drewN | apply below_drew1) | exact HB.out)⟩
end Go.Proofs.YtlmbkliieckakaaDoor.Nm
