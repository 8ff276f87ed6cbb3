-- Written by pp.py, a program of this session's, over the kit's printer.
import Derived.Test.YtlmbkliieckakaaDoorQA0
import Derived.Test.YtlmbkliieckakaaDoorQA1
import Derived.Test.YtlmbkliieckakaaDoorQA3
import Derived.Test.YtlmbkliieckakaaDoorQA6
import Derived.Test.YtlmbkliieckakaaDoorQA7
namespace Go.Proofs.YtlmbkliieckakaaDoor.QA
open Go.Proofs.YtlmbkliieckakaaDoor.Nm Go.RowKit Go.Proofs.YtlmbkliieckakaaDoorW.PrintWords Go.Proofs.YtlmbkliieckakaaDoorW.PrintLast Go.Proofs.YtlmbkliieckakaaDoorW.PrintMore
attribute [local go_sem] max2_int min2_int max_two min_two max_three min_three max_four min_four   -- for this text's walks alone
set_option linter.unusedVariables false
set_option linter.unusedSimpArgs false

/-! ### joustref06_Near: function 14 -/
def joustref06_Near.l0 : Nat → List (S60) → List (S60) → Int → Option (Int)
  | 0, _, _, _ => none
  | k + 1, x5, x6, x7 => if x7 < 8 then ((joustref06_within.f k x5 x6 x7).bind fun t200 => (if t200 = true then (some x7) else (joustref06_Near.l0 k x5 x6 (wrap64 (x7 + 1))))) else (some 8)
def joustref06_Near.f (k : Nat) (a0 : ByteArray) (a1 : ByteArray) : Option (Int) := (joustref06_All.f k a0).bind fun t194 => ((joustref06_All.f k a1).bind fun t197 => (joustref06_Near.l0 k t194 t197 0))
theorem joustref06_Near.mono_l : ∀ k, (∀ y0 y1 y2, LeO (joustref06_Near.l0 k y0 y1 y2) (joustref06_Near.l0 (k + 1) y0 y1 y2))
  | 0 => fun _ _ _ r h => by simp [joustref06_Near.l0] at h
  | k + 1 => by
    have ih0 := joustref06_Near.mono_l k
    · intro y0 y1 y2
      unfold joustref06_Near.l0
      repeat' first
      | (with_reducible exact ih0 _ _ _)
      | (with_reducible exact joustref06_All.mono _ _)
      | (with_reducible exact joustref06_within.mono _ _ _ _)
      | (with_reducible exact LeO.refl _)
      | (with_reducible exact LeO.none _)
      | (with_reducible refine LeO.ite ?_ ?_)
      | (with_reducible refine LeO.bind ?_ (fun _ => ?_))
      | exact ih0 _ _ _
      | exact joustref06_All.mono _ _
      | exact joustref06_within.mono _ _ _ _
      | exact LeO.none _
      | refine LeO.ite ?_ ?_
      | refine LeO.bind ?_ (fun _ => ?_)
theorem joustref06_Near.mono : ∀ a0 a1 k, LeO (joustref06_Near.f k a0 a1) (joustref06_Near.f (k + 1) a0 a1) := by
  intro a0 a1 k
  have ih0 := joustref06_Near.mono_l k
  unfold joustref06_Near.f
  repeat' first
      | (with_reducible exact ih0 _ _ _)
      | (with_reducible exact joustref06_All.mono _ _)
      | (with_reducible exact joustref06_within.mono _ _ _ _)
      | (with_reducible exact LeO.refl _)
      | (with_reducible exact LeO.none _)
      | (with_reducible refine LeO.ite ?_ ?_)
      | (with_reducible refine LeO.bind ?_ (fun _ => ?_))
      | exact ih0 _ _ _
      | exact joustref06_All.mono _ _
      | exact joustref06_within.mono _ _ _ _
      | exact LeO.none _
      | refine LeO.ite ?_ ?_
      | refine LeO.bind ?_ (fun _ => ?_)
set_option maxHeartbeats 8000000 in
set_option maxRecDepth 100000 in
theorem joustref06_Near.calls (k : Nat) (a0 : ByteArray) (a1 : ByteArray) (r : Int) (w : World) (hGL : GL w) (h : joustref06_Near.f k a0 a1 = some r) :
    Calls Tryd.prog 14 #[.string a0, .string a1] w fun e w' => e = .returned (.int .i64 r) ∧ Below w.heap.size w w' := by
  have HB := Aside0.mk (Below.refl w.heap.size w)
  have H : ((joustref06_All.f k a0).bind fun t194 => ((joustref06_All.f k a1).bind fun t197 => (joustref06_Near.l0 k t194 t197 0))) = some r := h
  clear h
  replace H := Option.bind_eq_some_iff.mp H
  obtain ⟨t194, A30, H⟩ := H
  replace H : ((joustref06_All.f k a1).bind fun t197 => (joustref06_Near.l0 k t194 t197 0)) = some r := H
  have A3 := Aside0.mk A30
  clear A30
  replace H := Option.bind_eq_some_iff.mp H
  obtain ⟨t197, A40, H⟩ := H
  replace H : (joustref06_Near.l0 k t194 t197 0) = some r := H
  have A4 := Aside0.mk A40
  clear A40
  have H' := Aside0.mk H
  clear H
  go_enter Tryd.func14, Tryd.ntmps14
  go_wp2_with (first | ((with_reducible refine gate_callee (f := 29) rfl ?_); refine goesL_ (some 9) rfl rfl Tryd.func29 (by kernel_rfl) rfl #[.string a0] rfl (by (try simp only [List.map_toArray, List.map_cons, List.map_nil]); first | done | rfl | (simp only [List.length_drop, List.length_take]; rfl)) ?_; (with_reducible refine (joustref06_All.calls k a0 t194 _ ?side1 A3.out).mono ?_); (case side1 => first | exact hGL | exact GL.of_below hGL (by repeat (first | (with_reducible first | exact HB.out | apply below_alloc | apply pw_below_drewN | apply below_drew1) | exact HB.out))); rintro e w5 ⟨v195, rfl, ho0, hb⟩; refine ⟨_, rfl, ?_⟩; have n0_ := Aside0.mk (Kd.R_lower ho0 (below_size (by repeat (first | (with_reducible first | exact HB.out | apply below_alloc | apply pw_below_drewN | apply below_drew1) | exact HB.out)))); have n1_ := Aside0.mk (below_step (by repeat (first | (with_reducible first | exact HB.out | apply below_alloc | apply pw_below_drewN | apply below_drew1) | exact HB.out)) hb); clear HB; have HO196 := n0_; have HB := n1_; clear n0_ n1_; (try clear hb); (try clear hb2); (try clear hk); (try clear hi); (try clear ho0)) | ((with_reducible refine gate_callee (f := 29) rfl ?_); refine goesL_ (some 11) rfl rfl Tryd.func29 (by kernel_rfl) rfl #[.string a1] rfl (by (try simp only [List.map_toArray, List.map_cons, List.map_nil]); first | done | rfl | (simp only [List.length_drop, List.length_take]; rfl)) ?_; (with_reducible refine (joustref06_All.calls k a1 t197 _ ?side1 A4.out).mono ?_); (case side1 => first | exact hGL | exact GL.of_below hGL (by repeat (first | (with_reducible first | exact HB.out | apply below_alloc | apply pw_below_drewN | apply below_drew1) | exact HB.out))); rintro e w6 ⟨v198, rfl, ho0, hb⟩; refine ⟨_, rfl, ?_⟩; have n0_ := Aside0.mk (Kd.R_elder' (by (with_reducible repeat (first | apply Kd.R_alloc | apply Kd.R_drewN | apply Kd.R_drew)); exact HO196.out) (Kd.R_base ho0) hb); have n1_ := Aside0.mk (Kd.R_lower (Kd.R_new' ho0 (Kd.R_lt (by (with_reducible repeat (first | apply Kd.R_alloc | apply Kd.R_drewN | apply Kd.R_drew)); exact HO196.out))) (below_size (by repeat (first | (with_reducible first | exact HB.out | apply below_alloc | apply pw_below_drewN | apply below_drew1) | exact HB.out)))); have n2_ := Aside0.mk (below_step (by repeat (first | (with_reducible first | exact HB.out | apply below_alloc | apply pw_below_drewN | apply below_drew1) | exact HB.out)) hb); clear HO196; clear HB; have HO196 := n0_; have HO199 := n1_; have HB := n2_; clear n0_ n1_ n2_; (try clear hb); (try clear hb2); (try clear hk); (try clear hi); (try clear ho0)))
  go_loopg [7] k (fun kq v7 w' => ∃ (x7_1 : Int), v7 = .int .i64 x7_1 ∧ Aside0 (joustref06_Near.l0 kq t194 t197 x7_1 = some r) ∧ Aside0 (kq ≤ k) ∧ Aside0 (Kd.R k60 60 w' w.heap.size (fun k_ => some k_ ≠ (v198 : Value).ownBlock) v195 t194) ∧ Aside0 (Kd.R k60 60 w' w.heap.size (fun k_ => some k_ ≠ (v195 : Value).ownBlock) v198 t197) ∧ Aside0 (Below w.heap.size w w'))
  case atStart => exact ⟨(0), (by first | rfl | (simp; done) | (simp [*]; done) | (simp [bne]; done) | (simp [*, bne]; done)), H', ⟨Nat.le_refl _⟩, ⟨by (with_reducible repeat (first | apply Kd.R_alloc | apply Kd.R_drewN | apply Kd.R_drew)); exact Kd.R_mono HO196.out (fun _ hk => hk.2)⟩, ⟨by (with_reducible repeat (first | apply Kd.R_alloc | apply Kd.R_drewN | apply Kd.R_drew)); exact Kd.R_mono HO199.out (fun _ hk => hk.2)⟩, ⟨by repeat (first | (with_reducible first | exact HB.out | apply below_alloc | apply pw_below_drewN | apply below_drew1) | exact HB.out)⟩⟩
  case round =>
    clear H'
    try clear c1
    try clear c2
    try clear p2
    obtain ⟨x7_1, rfl, HA, HK1, HO_5, HO_6, HB⟩ := hrel
    cases gk with
    | zero => exact absurd HA.out (by simp [joustref06_Near.l0])
    | succ k1 =>
      have H := HA.out
      clear HA
      simp only [joustref06_Near.l0] at H
      by_cases c7 : x7_1 < 8
      · rw [if_pos c7] at H
        have c7b0 : decide (x7_1 < 8) = true := decide_eq_true c7
        clear c7
        replace H := Option.bind_eq_some_iff.mp H
        obtain ⟨t200, A80, H⟩ := H
        replace H : (if t200 = true then (some x7_1) else (joustref06_Near.l0 k1 t194 t197 (wrap64 (x7_1 + 1)))) = some r := H
        have A8 := Aside0.mk A80
        clear A80
        by_cases c9 : t200 = true
        · subst c9
          have H1 : (some x7_1) = some r := by rw [if_pos rfl] at H; exact H
          clear H
          have H := H1
          clear H1
          obtain rfl := Option.some.inj H
          obtain ⟨Ao10, co10, eo10⟩ := Kd.R_slice HO_5.out
          subst eo10
          obtain ⟨Ao11, co11, eo11⟩ := Kd.R_slice HO_6.out
          subst eo11
          go_wp2_with (first | ((with_reducible refine gate_callee (f := 30) rfl ?_); refine goesL_ (some 19) rfl rfl Tryd.func30 (by kernel_rfl) rfl #[.slice Ao10 t194.length co10, .slice Ao11 t197.length co11, .int .i64 x7_1] rfl (by (try simp only [List.map_toArray, List.map_cons, List.map_nil]); first | done | rfl | (simp only [List.length_drop, List.length_take]; rfl)) ?_; (with_reducible refine (joustref06_within.calls k1 _ _ t194 _ _ t197 x7_1 true _ ?side1 ?side2 ?side3 ?side4 ?side5 A8.out).mono ?_); (case side1 => first | exact hGL | exact GL.of_below hGL (by repeat (first | (with_reducible first | exact HB.out | apply below_alloc | apply pw_below_drewN | apply below_drew1) | exact HB.out))); (case side2 => repeat (first | exact (Kd.R_reads' HO_5.out).2.2 | (with_reducible refine Kd.C_alloc ?_ _) | (with_reducible refine Kd.C_drewN ?_ _) | (with_reducible refine Kd.C_drew ?_))); (case side3 => exact (Kd.R_reads' HO_5.out).2.1); (case side4 => repeat (first | exact (Kd.R_reads' HO_6.out).2.2 | (with_reducible refine Kd.C_alloc ?_ _) | (with_reducible refine Kd.C_drewN ?_ _) | (with_reducible refine Kd.C_drew ?_))); (case side5 => exact (Kd.R_reads' HO_6.out).2.1); rintro e w12 ⟨rfl, hb⟩; refine ⟨_, rfl, ?_⟩; have n0_ := Aside0.mk (Kd.R_below (by (with_reducible repeat (first | apply Kd.R_alloc | apply Kd.R_drewN | apply Kd.R_drew)); exact HO_5.out) hb); have n1_ := Aside0.mk (Kd.R_below (by (with_reducible repeat (first | apply Kd.R_alloc | apply Kd.R_drewN | apply Kd.R_drew)); exact HO_6.out) hb); have n2_ := Aside0.mk (below_step (by repeat (first | (with_reducible first | exact HB.out | apply below_alloc | apply pw_below_drewN | apply below_drew1) | exact HB.out)) hb); clear HO_5; clear HO_6; clear HB; have HO_5 := n0_; have HO_6 := n1_; have HB := n2_; clear n0_ n1_ n2_; (try clear hb); (try clear hb2); (try clear hk); (try clear hi)))
          go_ret
          exact ⟨by first | rfl | (simp [errW_none, errW_some] <;> rfl) | (simp [*, errW_none, errW_some] <;> rfl), by repeat (first | (with_reducible first | exact HB.out | apply below_alloc | apply pw_below_drewN | apply below_drew1) | exact HB.out)⟩
        · replace c9 := Bool.eq_false_iff.mpr c9
          subst c9
          have H1 : (joustref06_Near.l0 k1 t194 t197 (wrap64 (x7_1 + 1))) = some r := by rw [if_neg (show ¬ (false = true) by decide)] at H; exact H
          clear H
          have H := H1
          clear H1
          have H' := Aside0.mk H
          clear H
          obtain ⟨Ao13, co13, eo13⟩ := Kd.R_slice HO_5.out
          subst eo13
          obtain ⟨Ao14, co14, eo14⟩ := Kd.R_slice HO_6.out
          subst eo14
          go_wp2_with (first | ((with_reducible refine gate_callee (f := 30) rfl ?_); refine goesL_ (some 19) rfl rfl Tryd.func30 (by kernel_rfl) rfl #[.slice Ao13 t194.length co13, .slice Ao14 t197.length co14, .int .i64 x7_1] rfl (by (try simp only [List.map_toArray, List.map_cons, List.map_nil]); first | done | rfl | (simp only [List.length_drop, List.length_take]; rfl)) ?_; (with_reducible refine (joustref06_within.calls k1 _ _ t194 _ _ t197 x7_1 false _ ?side1 ?side2 ?side3 ?side4 ?side5 A8.out).mono ?_); (case side1 => first | exact hGL | exact GL.of_below hGL (by repeat (first | (with_reducible first | exact HB.out | apply below_alloc | apply pw_below_drewN | apply below_drew1) | exact HB.out))); (case side2 => repeat (first | exact (Kd.R_reads' HO_5.out).2.2 | (with_reducible refine Kd.C_alloc ?_ _) | (with_reducible refine Kd.C_drewN ?_ _) | (with_reducible refine Kd.C_drew ?_))); (case side3 => exact (Kd.R_reads' HO_5.out).2.1); (case side4 => repeat (first | exact (Kd.R_reads' HO_6.out).2.2 | (with_reducible refine Kd.C_alloc ?_ _) | (with_reducible refine Kd.C_drewN ?_ _) | (with_reducible refine Kd.C_drew ?_))); (case side5 => exact (Kd.R_reads' HO_6.out).2.1); rintro e w15 ⟨rfl, hb⟩; refine ⟨_, rfl, ?_⟩; have n0_ := Aside0.mk (Kd.R_below (by (with_reducible repeat (first | apply Kd.R_alloc | apply Kd.R_drewN | apply Kd.R_drew)); exact HO_5.out) hb); have n1_ := Aside0.mk (Kd.R_below (by (with_reducible repeat (first | apply Kd.R_alloc | apply Kd.R_drewN | apply Kd.R_drew)); exact HO_6.out) hb); have n2_ := Aside0.mk (below_step (by repeat (first | (with_reducible first | exact HB.out | apply below_alloc | apply pw_below_drewN | apply below_drew1) | exact HB.out)) hb); clear HO_5; clear HO_6; clear HB; have HO_5 := n0_; have HO_6 := n1_; have HB := n2_; clear n0_ n1_ n2_; (try clear hb); (try clear hb2); (try clear hk); (try clear hi)))
          go_roundg k1
          case measure => have := HK1.out; omega
          case rel => exact ⟨(wrap64 (x7_1 + 1)), (by first | rfl | (simp; done) | (simp [*]; done) | (simp [bne]; done) | (simp [*, bne]; done)), H', ⟨by have := HK1.out; omega⟩, ⟨by (with_reducible repeat (first | apply Kd.R_alloc | apply Kd.R_drewN | apply Kd.R_drew)); exact HO_5.out⟩, ⟨by (with_reducible repeat (first | apply Kd.R_alloc | apply Kd.R_drewN | apply Kd.R_drew)); exact HO_6.out⟩, ⟨by repeat (first | (with_reducible first | exact HB.out | apply below_alloc | apply pw_below_drewN | apply below_drew1) | exact HB.out)⟩⟩
      · rw [if_neg c7] at H
        have c7b0 : decide (x7_1 < 8) = false := decide_eq_false c7
        clear c7
        obtain rfl := Option.some.inj H
        go_wp2
        go_ret
        exact ⟨by first | rfl | (simp [errW_none, errW_some] <;> rfl) | (simp [*, errW_none, errW_some] <;> rfl), by repeat (first | (with_reducible first | exact HB.out | apply below_alloc | apply pw_below_drewN | apply below_drew1) | exact HB.out)⟩

/-! ### joustlaw06_NameAsks: function 3 -/
def joustlaw06_NameAsks.f (k : Nat) (a0 : ByteArray) (a1 : ByteArray) (a2 : Int) : Option (Bool) := (joustlaw06_alive.f).bind fun t201 => (if t201 = true then ((joustlaw06_asks.f k a0 a2).bind fun t202 => (if t202 = true then ((joustlaw06_asks.f k a1 a2).bind fun t203 => (if t203 = true then ((name_Same.f a0 a1).bind fun t204 => ((joustref06_Same.f k a0 a1).bind fun t205 => (if (t204 == t205) = true then ((name_Near.f a0 a1).bind fun t206 => ((joustref06_Near.f k a0 a1).bind fun t207 => (some (t206 == t207)))) else (some false)))) else (some false))) else (some false))) else (some false))
theorem joustlaw06_NameAsks.mono : ∀ a0 a1 a2 k, LeO (joustlaw06_NameAsks.f k a0 a1 a2) (joustlaw06_NameAsks.f (k + 1) a0 a1 a2) := by
  intro a0 a1 a2 k
  unfold joustlaw06_NameAsks.f
  repeat' first
      | (with_reducible exact joustlaw06_asks.mono _ _ _)
      | (with_reducible exact joustref06_Near.mono _ _ _)
      | (with_reducible exact joustref06_Same.mono _ _ _)
      | (with_reducible exact LeO.refl _)
      | (with_reducible exact LeO.none _)
      | (with_reducible refine LeO.ite ?_ ?_)
      | (with_reducible refine LeO.bind ?_ (fun _ => ?_))
      | exact joustlaw06_asks.mono _ _ _
      | exact joustref06_Near.mono _ _ _
      | exact joustref06_Same.mono _ _ _
      | exact LeO.none _
      | refine LeO.ite ?_ ?_
      | refine LeO.bind ?_ (fun _ => ?_)
set_option maxHeartbeats 8000000 in
set_option maxRecDepth 100000 in
theorem joustlaw06_NameAsks.calls (k : Nat) (a0 : ByteArray) (a1 : ByteArray) (a2 : Int) (r : Bool) (w : World) (hGL : GL w) (h : joustlaw06_NameAsks.f k a0 a1 a2 = some r) :
    Calls Tryd.prog 3 #[.string a0, .string a1, .int .i64 a2] w fun e w' => e = .returned (.bool r) ∧ Below w.heap.size w w' := by
  have HB := Aside0.mk (Below.refl w.heap.size w)
  have H : ((joustlaw06_alive.f).bind fun t201 => (if t201 = true then ((joustlaw06_asks.f k a0 a2).bind fun t202 => (if t202 = true then ((joustlaw06_asks.f k a1 a2).bind fun t203 => (if t203 = true then ((name_Same.f a0 a1).bind fun t204 => ((joustref06_Same.f k a0 a1).bind fun t205 => (if (t204 == t205) = true then ((name_Near.f a0 a1).bind fun t206 => ((joustref06_Near.f k a0 a1).bind fun t207 => (some (t206 == t207)))) else (some false)))) else (some false))) else (some false))) else (some false))) = some r := h
  clear h
  replace H := Option.bind_eq_some_iff.mp H
  obtain ⟨t201, A40, H⟩ := H
  replace H : (if t201 = true then ((joustlaw06_asks.f k a0 a2).bind fun t202 => (if t202 = true then ((joustlaw06_asks.f k a1 a2).bind fun t203 => (if t203 = true then ((name_Same.f a0 a1).bind fun t204 => ((joustref06_Same.f k a0 a1).bind fun t205 => (if (t204 == t205) = true then ((name_Near.f a0 a1).bind fun t206 => ((joustref06_Near.f k a0 a1).bind fun t207 => (some (t206 == t207)))) else (some false)))) else (some false))) else (some false))) else (some false)) = some r := H
  have A4 := Aside0.mk A40
  clear A40
  by_cases c5 : t201 = true
  · subst c5
    have H1 : ((joustlaw06_asks.f k a0 a2).bind fun t202 => (if t202 = true then ((joustlaw06_asks.f k a1 a2).bind fun t203 => (if t203 = true then ((name_Same.f a0 a1).bind fun t204 => ((joustref06_Same.f k a0 a1).bind fun t205 => (if (t204 == t205) = true then ((name_Near.f a0 a1).bind fun t206 => ((joustref06_Near.f k a0 a1).bind fun t207 => (some (t206 == t207)))) else (some false)))) else (some false))) else (some false))) = some r := by rw [if_pos rfl] at H; exact H
    clear H
    have H := H1
    clear H1
    replace H := Option.bind_eq_some_iff.mp H
    obtain ⟨t202, A60, H⟩ := H
    replace H : (if t202 = true then ((joustlaw06_asks.f k a1 a2).bind fun t203 => (if t203 = true then ((name_Same.f a0 a1).bind fun t204 => ((joustref06_Same.f k a0 a1).bind fun t205 => (if (t204 == t205) = true then ((name_Near.f a0 a1).bind fun t206 => ((joustref06_Near.f k a0 a1).bind fun t207 => (some (t206 == t207)))) else (some false)))) else (some false))) else (some false)) = some r := H
    have A6 := Aside0.mk A60
    clear A60
    by_cases c7 : t202 = true
    · subst c7
      have H1 : ((joustlaw06_asks.f k a1 a2).bind fun t203 => (if t203 = true then ((name_Same.f a0 a1).bind fun t204 => ((joustref06_Same.f k a0 a1).bind fun t205 => (if (t204 == t205) = true then ((name_Near.f a0 a1).bind fun t206 => ((joustref06_Near.f k a0 a1).bind fun t207 => (some (t206 == t207)))) else (some false)))) else (some false))) = some r := by rw [if_pos rfl] at H; exact H
      clear H
      have H := H1
      clear H1
      replace H := Option.bind_eq_some_iff.mp H
      obtain ⟨t203, A80, H⟩ := H
      replace H : (if t203 = true then ((name_Same.f a0 a1).bind fun t204 => ((joustref06_Same.f k a0 a1).bind fun t205 => (if (t204 == t205) = true then ((name_Near.f a0 a1).bind fun t206 => ((joustref06_Near.f k a0 a1).bind fun t207 => (some (t206 == t207)))) else (some false)))) else (some false)) = some r := H
      have A8 := Aside0.mk A80
      clear A80
      by_cases c9 : t203 = true
      · subst c9
        have H1 : ((name_Same.f a0 a1).bind fun t204 => ((joustref06_Same.f k a0 a1).bind fun t205 => (if (t204 == t205) = true then ((name_Near.f a0 a1).bind fun t206 => ((joustref06_Near.f k a0 a1).bind fun t207 => (some (t206 == t207)))) else (some false)))) = some r := by rw [if_pos rfl] at H; exact H
        clear H
        have H := H1
        clear H1
        replace H := Option.bind_eq_some_iff.mp H
        obtain ⟨t204, A100, H⟩ := H
        replace H : ((joustref06_Same.f k a0 a1).bind fun t205 => (if (t204 == t205) = true then ((name_Near.f a0 a1).bind fun t206 => ((joustref06_Near.f k a0 a1).bind fun t207 => (some (t206 == t207)))) else (some false))) = some r := H
        have A10 := Aside0.mk A100
        clear A100
        replace H := Option.bind_eq_some_iff.mp H
        obtain ⟨t205, A110, H⟩ := H
        replace H : (if (t204 == t205) = true then ((name_Near.f a0 a1).bind fun t206 => ((joustref06_Near.f k a0 a1).bind fun t207 => (some (t206 == t207)))) else (some false)) = some r := H
        have A11 := Aside0.mk A110
        clear A110
        by_cases c12 : (t204 == t205) = true
        · rw [if_pos c12] at H
          have c12b0 : (t204 == t205) = true := c12
          (try (have c12b1 : decide (t204 = t205) = true := by simpa using c12))
          (try (have c12b2 : (t204 == t205) = true := by simpa using c12))
          clear c12
          replace H := Option.bind_eq_some_iff.mp H
          obtain ⟨t206, A130, H⟩ := H
          replace H : ((joustref06_Near.f k a0 a1).bind fun t207 => (some (t206 == t207))) = some r := H
          have A13 := Aside0.mk A130
          clear A130
          replace H := Option.bind_eq_some_iff.mp H
          obtain ⟨t207, A140, H⟩ := H
          replace H : (some (t206 == t207)) = some r := H
          have A14 := Aside0.mk A140
          clear A140
          obtain rfl := Option.some.inj H
          go_enter Tryd.func3, Tryd.ntmps3
          go_wp2_with (first | ((with_reducible refine gate_callee (f := 9) rfl ?_); refine goesL_ (some 7) rfl rfl Tryd.func9 (by kernel_rfl) rfl #[] rfl (by (try simp only [List.map_toArray, List.map_cons, List.map_nil]); first | done | rfl | (simp only [List.length_drop, List.length_take]; rfl)) ?_; (with_reducible refine (joustlaw06_alive.calls  true _ ?side1 A4.out).mono ?_); (case side1 => first | exact hGL | exact GL.of_below hGL (by repeat (first | (with_reducible first | exact HB.out | apply below_alloc | apply pw_below_drewN | apply below_drew1) | exact HB.out))); rintro e w15 ⟨rfl, hb⟩; refine ⟨_, rfl, ?_⟩; have n0_ := Aside0.mk (below_step (by repeat (first | (with_reducible first | exact HB.out | apply below_alloc | apply pw_below_drewN | apply below_drew1) | exact HB.out)) hb); clear HB; have HB := n0_; clear n0_; (try clear hb); (try clear hb2); (try clear hk); (try clear hi)) | ((with_reducible refine gate_callee (f := 10) rfl ?_); refine goesL_ (some 11) rfl rfl Tryd.func10 (by kernel_rfl) rfl #[.string a0, .int .i64 a2] rfl (by (try simp only [List.map_toArray, List.map_cons, List.map_nil]); first | done | rfl | (simp only [List.length_drop, List.length_take]; rfl)) ?_; (with_reducible refine (joustlaw06_asks.calls k a0 a2 true _ ?side1 A6.out).mono ?_); (case side1 => first | exact hGL | exact GL.of_below hGL (by repeat (first | (with_reducible first | exact HB.out | apply below_alloc | apply pw_below_drewN | apply below_drew1) | exact HB.out))); rintro e w16 ⟨rfl, hb⟩; refine ⟨_, rfl, ?_⟩; have n0_ := Aside0.mk (below_step (by repeat (first | (with_reducible first | exact HB.out | apply below_alloc | apply pw_below_drewN | apply below_drew1) | exact HB.out)) hb); clear HB; have HB := n0_; clear n0_; (try clear hb); (try clear hb2); (try clear hk); (try clear hi)) | (go_at_call 10; (with_reducible refine (joustlaw06_asks.calls k a1 a2 true _ ?side1 A8.out).mono ?_); (case side1 => first | exact hGL | exact GL.of_below hGL (by repeat (first | (with_reducible first | exact HB.out | apply below_alloc | apply pw_below_drewN | apply below_drew1) | exact HB.out))); rintro e w17 ⟨rfl, hb⟩; have n0_ := Aside0.mk (below_step (by repeat (first | (with_reducible first | exact HB.out | apply below_alloc | apply pw_below_drewN | apply below_drew1) | exact HB.out)) hb); clear HB; have HB := n0_; clear n0_; (try clear hb); (try clear hb2); (try clear hk); (try clear hi)) | (go_at_call 11; (with_reducible refine (name_Same.calls a0 a1 t204 _ ?side1 A10.out).mono ?_); (case side1 => first | exact hGL | exact GL.of_below hGL (by repeat (first | (with_reducible first | exact HB.out | apply below_alloc | apply pw_below_drewN | apply below_drew1) | exact HB.out))); rintro e w18 ⟨rfl, hb⟩; have n0_ := Aside0.mk (below_step (by repeat (first | (with_reducible first | exact HB.out | apply below_alloc | apply pw_below_drewN | apply below_drew1) | exact HB.out)) hb); clear HB; have HB := n0_; clear n0_; (try clear hb); (try clear hb2); (try clear hk); (try clear hi)) | (go_at_call 12; (with_reducible refine (joustref06_Same.calls k a0 a1 t205 _ ?side1 A11.out).mono ?_); (case side1 => first | exact hGL | exact GL.of_below hGL (by repeat (first | (with_reducible first | exact HB.out | apply below_alloc | apply pw_below_drewN | apply below_drew1) | exact HB.out))); rintro e w19 ⟨rfl, hb⟩; have n0_ := Aside0.mk (below_step (by repeat (first | (with_reducible first | exact HB.out | apply below_alloc | apply pw_below_drewN | apply below_drew1) | exact HB.out)) hb); clear HB; have HB := n0_; clear n0_; (try clear hb); (try clear hb2); (try clear hk); (try clear hi)) | (go_at_call 13; (with_reducible refine (name_Near.calls a0 a1 t206 _ ?side1 A13.out).mono ?_); (case side1 => first | exact hGL | exact GL.of_below hGL (by repeat (first | (with_reducible first | exact HB.out | apply below_alloc | apply pw_below_drewN | apply below_drew1) | exact HB.out))); rintro e w20 ⟨rfl, hb⟩; have n0_ := Aside0.mk (below_step (by repeat (first | (with_reducible first | exact HB.out | apply below_alloc | apply pw_below_drewN | apply below_drew1) | exact HB.out)) hb); clear HB; have HB := n0_; clear n0_; (try clear hb); (try clear hb2); (try clear hk); (try clear hi)) | (go_at_call 14; (with_reducible refine (joustref06_Near.calls k a0 a1 t207 _ ?side1 A14.out).mono ?_); (case side1 => first | exact hGL | exact GL.of_below hGL (by repeat (first | (with_reducible first | exact HB.out | apply below_alloc | apply pw_below_drewN | apply below_drew1) | exact HB.out))); rintro e w21 ⟨rfl, hb⟩; have n0_ := Aside0.mk (below_step (by repeat (first | (with_reducible first | exact HB.out | apply below_alloc | apply pw_below_drewN | apply below_drew1) | exact HB.out)) hb); clear HB; have HB := n0_; clear n0_; (try clear hb); (try clear hb2); (try clear hk); (try clear hi)))
          go_ret
          exact ⟨by first | rfl | (simp [errW_none, errW_some] <;> rfl) | (simp [*, errW_none, errW_some] <;> rfl), by repeat (first | (with_reducible first | exact HB.out | apply below_alloc | apply pw_below_drewN | apply below_drew1) | exact HB.out)⟩
        · rw [if_neg c12] at H
          have c12b0 : (t204 == t205) = false := by simpa using c12
          (try (have c12b1 : decide (t204 = t205) = false := by simpa using c12))
          (try (have c12b2 : (t204 == t205) = false := by simpa using c12))
          (try (have c12b3 : ¬ (t204 = t205) := by simpa using c12))
          clear c12
          obtain rfl := Option.some.inj H
          go_enter Tryd.func3, Tryd.ntmps3
          go_wp2_with (first | ((with_reducible refine gate_callee (f := 9) rfl ?_); refine goesL_ (some 7) rfl rfl Tryd.func9 (by kernel_rfl) rfl #[] rfl (by (try simp only [List.map_toArray, List.map_cons, List.map_nil]); first | done | rfl | (simp only [List.length_drop, List.length_take]; rfl)) ?_; (with_reducible refine (joustlaw06_alive.calls  true _ ?side1 A4.out).mono ?_); (case side1 => first | exact hGL | exact GL.of_below hGL (by repeat (first | (with_reducible first | exact HB.out | apply below_alloc | apply pw_below_drewN | apply below_drew1) | exact HB.out))); rintro e w22 ⟨rfl, hb⟩; refine ⟨_, rfl, ?_⟩; have n0_ := Aside0.mk (below_step (by repeat (first | (with_reducible first | exact HB.out | apply below_alloc | apply pw_below_drewN | apply below_drew1) | exact HB.out)) hb); clear HB; have HB := n0_; clear n0_; (try clear hb); (try clear hb2); (try clear hk); (try clear hi)) | ((with_reducible refine gate_callee (f := 10) rfl ?_); refine goesL_ (some 11) rfl rfl Tryd.func10 (by kernel_rfl) rfl #[.string a0, .int .i64 a2] rfl (by (try simp only [List.map_toArray, List.map_cons, List.map_nil]); first | done | rfl | (simp only [List.length_drop, List.length_take]; rfl)) ?_; (with_reducible refine (joustlaw06_asks.calls k a0 a2 true _ ?side1 A6.out).mono ?_); (case side1 => first | exact hGL | exact GL.of_below hGL (by repeat (first | (with_reducible first | exact HB.out | apply below_alloc | apply pw_below_drewN | apply below_drew1) | exact HB.out))); rintro e w23 ⟨rfl, hb⟩; refine ⟨_, rfl, ?_⟩; have n0_ := Aside0.mk (below_step (by repeat (first | (with_reducible first | exact HB.out | apply below_alloc | apply pw_below_drewN | apply below_drew1) | exact HB.out)) hb); clear HB; have HB := n0_; clear n0_; (try clear hb); (try clear hb2); (try clear hk); (try clear hi)) | (go_at_call 10; (with_reducible refine (joustlaw06_asks.calls k a1 a2 true _ ?side1 A8.out).mono ?_); (case side1 => first | exact hGL | exact GL.of_below hGL (by repeat (first | (with_reducible first | exact HB.out | apply below_alloc | apply pw_below_drewN | apply below_drew1) | exact HB.out))); rintro e w24 ⟨rfl, hb⟩; have n0_ := Aside0.mk (below_step (by repeat (first | (with_reducible first | exact HB.out | apply below_alloc | apply pw_below_drewN | apply below_drew1) | exact HB.out)) hb); clear HB; have HB := n0_; clear n0_; (try clear hb); (try clear hb2); (try clear hk); (try clear hi)) | (go_at_call 11; (with_reducible refine (name_Same.calls a0 a1 t204 _ ?side1 A10.out).mono ?_); (case side1 => first | exact hGL | exact GL.of_below hGL (by repeat (first | (with_reducible first | exact HB.out | apply below_alloc | apply pw_below_drewN | apply below_drew1) | exact HB.out))); rintro e w25 ⟨rfl, hb⟩; have n0_ := Aside0.mk (below_step (by repeat (first | (with_reducible first | exact HB.out | apply below_alloc | apply pw_below_drewN | apply below_drew1) | exact HB.out)) hb); clear HB; have HB := n0_; clear n0_; (try clear hb); (try clear hb2); (try clear hk); (try clear hi)) | (go_at_call 12; (with_reducible refine (joustref06_Same.calls k a0 a1 t205 _ ?side1 A11.out).mono ?_); (case side1 => first | exact hGL | exact GL.of_below hGL (by repeat (first | (with_reducible first | exact HB.out | apply below_alloc | apply pw_below_drewN | apply below_drew1) | exact HB.out))); rintro e w26 ⟨rfl, hb⟩; have n0_ := Aside0.mk (below_step (by repeat (first | (with_reducible first | exact HB.out | apply below_alloc | apply pw_below_drewN | apply below_drew1) | exact HB.out)) hb); clear HB; have HB := n0_; clear n0_; (try clear hb); (try clear hb2); (try clear hk); (try clear hi)))
          go_ret
          exact ⟨by first | rfl | (simp [errW_none, errW_some] <;> rfl) | (simp [*, errW_none, errW_some] <;> rfl), by repeat (first | (with_reducible first | exact HB.out | apply below_alloc | apply pw_below_drewN | apply below_drew1) | exact HB.out)⟩
      · replace c9 := Bool.eq_false_iff.mpr c9
        subst c9
        have H1 : (some false) = some r := by rw [if_neg (show ¬ (false = true) by decide)] at H; exact H
        clear H
        have H := H1
        clear H1
        obtain rfl := Option.some.inj H
        go_enter Tryd.func3, Tryd.ntmps3
        go_wp2_with (first | ((with_reducible refine gate_callee (f := 9) rfl ?_); refine goesL_ (some 7) rfl rfl Tryd.func9 (by kernel_rfl) rfl #[] rfl (by (try simp only [List.map_toArray, List.map_cons, List.map_nil]); first | done | rfl | (simp only [List.length_drop, List.length_take]; rfl)) ?_; (with_reducible refine (joustlaw06_alive.calls  true _ ?side1 A4.out).mono ?_); (case side1 => first | exact hGL | exact GL.of_below hGL (by repeat (first | (with_reducible first | exact HB.out | apply below_alloc | apply pw_below_drewN | apply below_drew1) | exact HB.out))); rintro e w27 ⟨rfl, hb⟩; refine ⟨_, rfl, ?_⟩; have n0_ := Aside0.mk (below_step (by repeat (first | (with_reducible first | exact HB.out | apply below_alloc | apply pw_below_drewN | apply below_drew1) | exact HB.out)) hb); clear HB; have HB := n0_; clear n0_; (try clear hb); (try clear hb2); (try clear hk); (try clear hi)) | ((with_reducible refine gate_callee (f := 10) rfl ?_); refine goesL_ (some 11) rfl rfl Tryd.func10 (by kernel_rfl) rfl #[.string a0, .int .i64 a2] rfl (by (try simp only [List.map_toArray, List.map_cons, List.map_nil]); first | done | rfl | (simp only [List.length_drop, List.length_take]; rfl)) ?_; (with_reducible refine (joustlaw06_asks.calls k a0 a2 true _ ?side1 A6.out).mono ?_); (case side1 => first | exact hGL | exact GL.of_below hGL (by repeat (first | (with_reducible first | exact HB.out | apply below_alloc | apply pw_below_drewN | apply below_drew1) | exact HB.out))); rintro e w28 ⟨rfl, hb⟩; refine ⟨_, rfl, ?_⟩; have n0_ := Aside0.mk (below_step (by repeat (first | (with_reducible first | exact HB.out | apply below_alloc | apply pw_below_drewN | apply below_drew1) | exact HB.out)) hb); clear HB; have HB := n0_; clear n0_; (try clear hb); (try clear hb2); (try clear hk); (try clear hi)) | (go_at_call 10; (with_reducible refine (joustlaw06_asks.calls k a1 a2 false _ ?side1 A8.out).mono ?_); (case side1 => first | exact hGL | exact GL.of_below hGL (by repeat (first | (with_reducible first | exact HB.out | apply below_alloc | apply pw_below_drewN | apply below_drew1) | exact HB.out))); rintro e w29 ⟨rfl, hb⟩; have n0_ := Aside0.mk (below_step (by repeat (first | (with_reducible first | exact HB.out | apply below_alloc | apply pw_below_drewN | apply below_drew1) | exact HB.out)) hb); clear HB; have HB := n0_; clear n0_; (try clear hb); (try clear hb2); (try clear hk); (try clear hi)))
        go_ret
        exact ⟨by first | rfl | (simp [errW_none, errW_some] <;> rfl) | (simp [*, errW_none, errW_some] <;> rfl), by repeat (first | (with_reducible first | exact HB.out | apply below_alloc | apply pw_below_drewN | apply below_drew1) | exact HB.out)⟩
    · replace c7 := Bool.eq_false_iff.mpr c7
      subst c7
      have H1 : (some false) = some r := by rw [if_neg (show ¬ (false = true) by decide)] at H; exact H
      clear H
      have H := H1
      clear H1
      obtain rfl := Option.some.inj H
      go_enter Tryd.func3, Tryd.ntmps3
      go_wp2_with (first | ((with_reducible refine gate_callee (f := 9) rfl ?_); refine goesL_ (some 7) rfl rfl Tryd.func9 (by kernel_rfl) rfl #[] rfl (by (try simp only [List.map_toArray, List.map_cons, List.map_nil]); first | done | rfl | (simp only [List.length_drop, List.length_take]; rfl)) ?_; (with_reducible refine (joustlaw06_alive.calls  true _ ?side1 A4.out).mono ?_); (case side1 => first | exact hGL | exact GL.of_below hGL (by repeat (first | (with_reducible first | exact HB.out | apply below_alloc | apply pw_below_drewN | apply below_drew1) | exact HB.out))); rintro e w30 ⟨rfl, hb⟩; refine ⟨_, rfl, ?_⟩; have n0_ := Aside0.mk (below_step (by repeat (first | (with_reducible first | exact HB.out | apply below_alloc | apply pw_below_drewN | apply below_drew1) | exact HB.out)) hb); clear HB; have HB := n0_; clear n0_; (try clear hb); (try clear hb2); (try clear hk); (try clear hi)) | ((with_reducible refine gate_callee (f := 10) rfl ?_); refine goesL_ (some 11) rfl rfl Tryd.func10 (by kernel_rfl) rfl #[.string a0, .int .i64 a2] rfl (by (try simp only [List.map_toArray, List.map_cons, List.map_nil]); first | done | rfl | (simp only [List.length_drop, List.length_take]; rfl)) ?_; (with_reducible refine (joustlaw06_asks.calls k a0 a2 false _ ?side1 A6.out).mono ?_); (case side1 => first | exact hGL | exact GL.of_below hGL (by repeat (first | (with_reducible first | exact HB.out | apply below_alloc | apply pw_below_drewN | apply below_drew1) | exact HB.out))); rintro e w31 ⟨rfl, hb⟩; refine ⟨_, rfl, ?_⟩; have n0_ := Aside0.mk (below_step (by repeat (first | (with_reducible first | exact HB.out | apply below_alloc | apply pw_below_drewN | apply below_drew1) | exact HB.out)) hb); clear HB; have HB := n0_; clear n0_; (try clear hb); (try clear hb2); (try clear hk); (try clear hi)))
      go_ret
      exact ⟨by first | rfl | (simp [errW_none, errW_some] <;> rfl) | (simp [*, errW_none, errW_some] <;> rfl), by repeat (first | (with_reducible first | exact HB.out | apply below_alloc | apply pw_below_drewN | apply below_drew1) | exact HB.out)⟩
  · replace c5 := Bool.eq_false_iff.mpr c5
    subst c5
    have H1 : (some false) = some r := by rw [if_neg (show ¬ (false = true) by decide)] at H; exact H
    clear H
    have H := H1
    clear H1
    obtain rfl := Option.some.inj H
    go_enter Tryd.func3, Tryd.ntmps3
    go_wp2_with (first | ((with_reducible refine gate_callee (f := 9) rfl ?_); refine goesL_ (some 7) rfl rfl Tryd.func9 (by kernel_rfl) rfl #[] rfl (by (try simp only [List.map_toArray, List.map_cons, List.map_nil]); first | done | rfl | (simp only [List.length_drop, List.length_take]; rfl)) ?_; (with_reducible refine (joustlaw06_alive.calls  false _ ?side1 A4.out).mono ?_); (case side1 => first | exact hGL | exact GL.of_below hGL (by repeat (first | (with_reducible first | exact HB.out | apply below_alloc | apply pw_below_drewN | apply below_drew1) | exact HB.out))); rintro e w32 ⟨rfl, hb⟩; refine ⟨_, rfl, ?_⟩; have n0_ := Aside0.mk (below_step (by repeat (first | (with_reducible first | exact HB.out | apply below_alloc | apply pw_below_drewN | apply below_drew1) | exact HB.out)) hb); clear HB; have HB := n0_; clear n0_; (try clear hb); (try clear hb2); (try clear hk); (try clear hi)))
    go_ret
    exact ⟨by first | rfl | (simp [errW_none, errW_some] <;> rfl) | (simp [*, errW_none, errW_some] <;> rfl), by repeat (first | (with_reducible first | exact HB.out | apply below_alloc | apply pw_below_drewN | apply below_drew1) | exact HB.out)⟩

/-! ### joustlaw06_NameFolds: function 4 -/
def joustlaw06_NameFolds.j0 : Nat → ByteArray → ByteArray → Bool → Option (Bool)
  | 0, _, _, _ => none
  | k + 1, x0, x5, x59 => if x59 = true then (some false) else ((name_Check.f x0).bind fun t219 => ((joustlaw06_num.f t219).bind fun t220 => ((name_Check.f x5).bind fun t221 => ((joustlaw06_num.f t221).bind fun t222 => (if t220 = t222 then ((name_Check.f x0).bind fun t223 => ((joustlaw06_num.f t223).bind fun t224 => (if t224 = 0 then ((name_Runes.f x0).bind fun t225 => (if t225 ≥ 1 then (if t225 ≤ 12 then (some (decide ((x0.size : Int) ≤ 24))) else (some false)) else (some false))) else ((name_Check.f x0).bind fun t226 => ((joustlaw06_num.f t226).bind fun t227 => (some (t227 == 60))))))) else (some false))))))
def joustlaw06_NameFolds.f (k : Nat) (a0 : ByteArray) (a1 : ByteArray) : Option (Bool) := (joustlaw06_alive.f).bind fun t208 => (if t208 = true then ((name_Fold.f a0).bind fun t209 => ((name_Fold.f t209).bind fun t210 => (if t210.toList = t209.toList then (if (t209.size : Int) = (a0.size : Int) then ((name_Runes.f t209).bind fun t211 => ((name_Runes.f a0).bind fun t212 => (if t211 = t212 then ((name_Same.f a0 t209).bind fun t213 => (if t213 = true then ((name_Same.f a0 a0).bind fun t214 => (if t214 = true then ((name_Same.f a0 a1).bind fun t215 => ((name_Same.f a1 a0).bind fun t216 => (if (t215 != t216) = true then (joustlaw06_NameFolds.j0 k a0 t209 true) else ((name_Same.f a0 a1).bind fun t217 => ((name_Fold.f a1).bind fun t218 => (joustlaw06_NameFolds.j0 k a0 t209 (t217 != (t209.toList == t218.toList)))))))) else (joustlaw06_NameFolds.j0 k a0 t209 true))) else (joustlaw06_NameFolds.j0 k a0 t209 true))) else (joustlaw06_NameFolds.j0 k a0 t209 true)))) else (joustlaw06_NameFolds.j0 k a0 t209 true)) else (joustlaw06_NameFolds.j0 k a0 t209 true)))) else (some false))
theorem joustlaw06_NameFolds.mono_l : ∀ k, (∀ y0 y1 y2, LeO (joustlaw06_NameFolds.j0 k y0 y1 y2) (joustlaw06_NameFolds.j0 (k + 1) y0 y1 y2))
  | 0 => fun _ _ _ r h => by simp [joustlaw06_NameFolds.j0] at h
  | k + 1 => by
    have ih0 := joustlaw06_NameFolds.mono_l k
    · intro y0 y1 y2
      unfold joustlaw06_NameFolds.j0
      repeat' first
      | (with_reducible exact ih0 _ _ _)
      | (with_reducible exact LeO.refl _)
      | (with_reducible exact LeO.none _)
      | (with_reducible refine LeO.ite ?_ ?_)
      | (with_reducible refine LeO.bind ?_ (fun _ => ?_))
      | exact ih0 _ _ _
      | exact LeO.none _
      | refine LeO.ite ?_ ?_
      | refine LeO.bind ?_ (fun _ => ?_)
theorem joustlaw06_NameFolds.mono : ∀ a0 a1 k, LeO (joustlaw06_NameFolds.f k a0 a1) (joustlaw06_NameFolds.f (k + 1) a0 a1) := by
  intro a0 a1 k
  have ih0 := joustlaw06_NameFolds.mono_l k
  unfold joustlaw06_NameFolds.f
  repeat' first
      | (with_reducible exact ih0 _ _ _)
      | (with_reducible exact LeO.refl _)
      | (with_reducible exact LeO.none _)
      | (with_reducible refine LeO.ite ?_ ?_)
      | (with_reducible refine LeO.bind ?_ (fun _ => ?_))
      | exact ih0 _ _ _
      | exact LeO.none _
      | refine LeO.ite ?_ ?_
      | refine LeO.bind ?_ (fun _ => ?_)
set_option maxHeartbeats 8000000 in
set_option maxRecDepth 100000 in
theorem joustlaw06_NameFolds.calls (k : Nat) (a0 : ByteArray) (a1 : ByteArray) (r : Bool) (w : World) (hGL : GL w) (h : joustlaw06_NameFolds.f k a0 a1 = some r) :
    Calls Tryd.prog 4 #[.string a0, .string a1] w fun e w' => e = .returned (.bool r) ∧ Below w.heap.size w w' := by
  have HB := Aside0.mk (Below.refl w.heap.size w)
  have H : ((joustlaw06_alive.f).bind fun t208 => (if t208 = true then ((name_Fold.f a0).bind fun t209 => ((name_Fold.f t209).bind fun t210 => (if t210.toList = t209.toList then (if (t209.size : Int) = (a0.size : Int) then ((name_Runes.f t209).bind fun t211 => ((name_Runes.f a0).bind fun t212 => (if t211 = t212 then ((name_Same.f a0 t209).bind fun t213 => (if t213 = true then ((name_Same.f a0 a0).bind fun t214 => (if t214 = true then ((name_Same.f a0 a1).bind fun t215 => ((name_Same.f a1 a0).bind fun t216 => (if (t215 != t216) = true then (joustlaw06_NameFolds.j0 k a0 t209 true) else ((name_Same.f a0 a1).bind fun t217 => ((name_Fold.f a1).bind fun t218 => (joustlaw06_NameFolds.j0 k a0 t209 (t217 != (t209.toList == t218.toList)))))))) else (joustlaw06_NameFolds.j0 k a0 t209 true))) else (joustlaw06_NameFolds.j0 k a0 t209 true))) else (joustlaw06_NameFolds.j0 k a0 t209 true)))) else (joustlaw06_NameFolds.j0 k a0 t209 true)) else (joustlaw06_NameFolds.j0 k a0 t209 true)))) else (some false))) = some r := h
  clear h
  replace H := Option.bind_eq_some_iff.mp H
  obtain ⟨t208, A30, H⟩ := H
  replace H : (if t208 = true then ((name_Fold.f a0).bind fun t209 => ((name_Fold.f t209).bind fun t210 => (if t210.toList = t209.toList then (if (t209.size : Int) = (a0.size : Int) then ((name_Runes.f t209).bind fun t211 => ((name_Runes.f a0).bind fun t212 => (if t211 = t212 then ((name_Same.f a0 t209).bind fun t213 => (if t213 = true then ((name_Same.f a0 a0).bind fun t214 => (if t214 = true then ((name_Same.f a0 a1).bind fun t215 => ((name_Same.f a1 a0).bind fun t216 => (if (t215 != t216) = true then (joustlaw06_NameFolds.j0 k a0 t209 true) else ((name_Same.f a0 a1).bind fun t217 => ((name_Fold.f a1).bind fun t218 => (joustlaw06_NameFolds.j0 k a0 t209 (t217 != (t209.toList == t218.toList)))))))) else (joustlaw06_NameFolds.j0 k a0 t209 true))) else (joustlaw06_NameFolds.j0 k a0 t209 true))) else (joustlaw06_NameFolds.j0 k a0 t209 true)))) else (joustlaw06_NameFolds.j0 k a0 t209 true)) else (joustlaw06_NameFolds.j0 k a0 t209 true)))) else (some false)) = some r := H
  have A3 := Aside0.mk A30
  clear A30
  by_cases c4 : t208 = true
  · subst c4
    have H1 : ((name_Fold.f a0).bind fun t209 => ((name_Fold.f t209).bind fun t210 => (if t210.toList = t209.toList then (if (t209.size : Int) = (a0.size : Int) then ((name_Runes.f t209).bind fun t211 => ((name_Runes.f a0).bind fun t212 => (if t211 = t212 then ((name_Same.f a0 t209).bind fun t213 => (if t213 = true then ((name_Same.f a0 a0).bind fun t214 => (if t214 = true then ((name_Same.f a0 a1).bind fun t215 => ((name_Same.f a1 a0).bind fun t216 => (if (t215 != t216) = true then (joustlaw06_NameFolds.j0 k a0 t209 true) else ((name_Same.f a0 a1).bind fun t217 => ((name_Fold.f a1).bind fun t218 => (joustlaw06_NameFolds.j0 k a0 t209 (t217 != (t209.toList == t218.toList)))))))) else (joustlaw06_NameFolds.j0 k a0 t209 true))) else (joustlaw06_NameFolds.j0 k a0 t209 true))) else (joustlaw06_NameFolds.j0 k a0 t209 true)))) else (joustlaw06_NameFolds.j0 k a0 t209 true)) else (joustlaw06_NameFolds.j0 k a0 t209 true)))) = some r := by rw [if_pos rfl] at H; exact H
    clear H
    have H := H1
    clear H1
    replace H := Option.bind_eq_some_iff.mp H
    obtain ⟨t209, A50, H⟩ := H
    replace H : ((name_Fold.f t209).bind fun t210 => (if t210.toList = t209.toList then (if (t209.size : Int) = (a0.size : Int) then ((name_Runes.f t209).bind fun t211 => ((name_Runes.f a0).bind fun t212 => (if t211 = t212 then ((name_Same.f a0 t209).bind fun t213 => (if t213 = true then ((name_Same.f a0 a0).bind fun t214 => (if t214 = true then ((name_Same.f a0 a1).bind fun t215 => ((name_Same.f a1 a0).bind fun t216 => (if (t215 != t216) = true then (joustlaw06_NameFolds.j0 k a0 t209 true) else ((name_Same.f a0 a1).bind fun t217 => ((name_Fold.f a1).bind fun t218 => (joustlaw06_NameFolds.j0 k a0 t209 (t217 != (t209.toList == t218.toList)))))))) else (joustlaw06_NameFolds.j0 k a0 t209 true))) else (joustlaw06_NameFolds.j0 k a0 t209 true))) else (joustlaw06_NameFolds.j0 k a0 t209 true)))) else (joustlaw06_NameFolds.j0 k a0 t209 true)) else (joustlaw06_NameFolds.j0 k a0 t209 true))) = some r := H
    have A5 := Aside0.mk A50
    clear A50
    have HC6 := Aside0.mk H
    clear H
    go_enter Tryd.func4, Tryd.ntmps4
    go_upto_region 4 with (first | ((with_reducible refine gate_callee (f := 9) rfl ?_); refine goesL_ (some 7) rfl rfl Tryd.func9 (by kernel_rfl) rfl #[] rfl (by (try simp only [List.map_toArray, List.map_cons, List.map_nil]); first | done | rfl | (simp only [List.length_drop, List.length_take]; rfl)) ?_; (with_reducible refine (joustlaw06_alive.calls  true _ ?side1 A3.out).mono ?_); (case side1 => first | exact hGL | exact GL.of_below hGL (by repeat (first | (with_reducible first | exact HB.out | apply below_alloc | apply pw_below_drewN | apply below_drew1) | exact HB.out))); rintro e w7 ⟨rfl, hb⟩; refine ⟨_, rfl, ?_⟩; have n0_ := Aside0.mk (below_step (by repeat (first | (with_reducible first | exact HB.out | apply below_alloc | apply pw_below_drewN | apply below_drew1) | exact HB.out)) hb); clear HB; have HB := n0_; clear n0_; (try clear hb); (try clear hb2); (try clear hk); (try clear hi)) | ((with_reducible refine gate_callee (f := 15) rfl ?_); refine goesL_ (some 10) rfl rfl Tryd.func15 (by kernel_rfl) rfl #[.string a0] rfl (by (try simp only [List.map_toArray, List.map_cons, List.map_nil]); first | done | rfl | (simp only [List.length_drop, List.length_take]; rfl)) ?_; (with_reducible refine (name_Fold.calls a0 t209 _ ?side1 A5.out).mono ?_); (case side1 => first | exact hGL | exact GL.of_below hGL (by repeat (first | (with_reducible first | exact HB.out | apply below_alloc | apply pw_below_drewN | apply below_drew1) | exact HB.out))); rintro e w8 ⟨rfl, hb⟩; refine ⟨_, rfl, ?_⟩; have n0_ := Aside0.mk (below_step (by repeat (first | (with_reducible first | exact HB.out | apply below_alloc | apply pw_below_drewN | apply below_drew1) | exact HB.out)) hb); clear HB; have HB := n0_; clear n0_; (try clear hb); (try clear hb2); (try clear hk); (try clear hi)))
    (try simp only [Act.put, List.setIfInBounds_toArray, List.set_cons_zero, List.set_cons_succ])
    go_cut [59] (fun v59 wc => ∃ (kq : Nat) (x59_5 : Bool), v59 = .bool x59_5 ∧ Aside0 (joustlaw06_NameFolds.j0 kq a0 t209 x59_5 = some r) ∧ Aside0 (kq ≤ k) ∧ Aside0 (Below w.heap.size w wc))
    case first =>
      have H := HC6.out
      clear HC6
      replace H := Option.bind_eq_some_iff.mp H
      obtain ⟨t210, A90, H⟩ := H
      replace H : (if t210.toList = t209.toList then (if (t209.size : Int) = (a0.size : Int) then ((name_Runes.f t209).bind fun t211 => ((name_Runes.f a0).bind fun t212 => (if t211 = t212 then ((name_Same.f a0 t209).bind fun t213 => (if t213 = true then ((name_Same.f a0 a0).bind fun t214 => (if t214 = true then ((name_Same.f a0 a1).bind fun t215 => ((name_Same.f a1 a0).bind fun t216 => (if (t215 != t216) = true then (joustlaw06_NameFolds.j0 k a0 t209 true) else ((name_Same.f a0 a1).bind fun t217 => ((name_Fold.f a1).bind fun t218 => (joustlaw06_NameFolds.j0 k a0 t209 (t217 != (t209.toList == t218.toList)))))))) else (joustlaw06_NameFolds.j0 k a0 t209 true))) else (joustlaw06_NameFolds.j0 k a0 t209 true))) else (joustlaw06_NameFolds.j0 k a0 t209 true)))) else (joustlaw06_NameFolds.j0 k a0 t209 true)) else (joustlaw06_NameFolds.j0 k a0 t209 true)) = some r := H
      have A9 := Aside0.mk A90
      clear A90
      by_cases c10 : t210.toList = t209.toList
      · rw [if_pos c10] at H
        have c10b0 : (t210.toList == t209.toList) = true := beq_iff_eq.mpr c10
        have c10b1 : (t210.toList != t209.toList) = false := bne_eq_false_iff_eq.mpr c10
        clear c10
        (first | rw [c10b0] | (simp only [i64_w, i32_w]; rw [c10b0]) | skip)
        by_cases c11 : (t209.size : Int) = (a0.size : Int)
        · rw [if_pos c11] at H
          have c11b0 : ((t209.size : Int) == (a0.size : Int)) = true := beq_iff_eq.mpr c11
          have c11b1 : ((t209.size : Int) != (a0.size : Int)) = false := bne_eq_false_iff_eq.mpr c11
          have c11b2 : (t209.size == a0.size) = true := by first | simpa using c11 | (simp at c11 ⊢; omega)
          clear c11
          replace H := Option.bind_eq_some_iff.mp H
          obtain ⟨t211, A120, H⟩ := H
          replace H : ((name_Runes.f a0).bind fun t212 => (if t211 = t212 then ((name_Same.f a0 t209).bind fun t213 => (if t213 = true then ((name_Same.f a0 a0).bind fun t214 => (if t214 = true then ((name_Same.f a0 a1).bind fun t215 => ((name_Same.f a1 a0).bind fun t216 => (if (t215 != t216) = true then (joustlaw06_NameFolds.j0 k a0 t209 true) else ((name_Same.f a0 a1).bind fun t217 => ((name_Fold.f a1).bind fun t218 => (joustlaw06_NameFolds.j0 k a0 t209 (t217 != (t209.toList == t218.toList)))))))) else (joustlaw06_NameFolds.j0 k a0 t209 true))) else (joustlaw06_NameFolds.j0 k a0 t209 true))) else (joustlaw06_NameFolds.j0 k a0 t209 true))) = some r := H
          have A12 := Aside0.mk A120
          clear A120
          replace H := Option.bind_eq_some_iff.mp H
          obtain ⟨t212, A130, H⟩ := H
          replace H : (if t211 = t212 then ((name_Same.f a0 t209).bind fun t213 => (if t213 = true then ((name_Same.f a0 a0).bind fun t214 => (if t214 = true then ((name_Same.f a0 a1).bind fun t215 => ((name_Same.f a1 a0).bind fun t216 => (if (t215 != t216) = true then (joustlaw06_NameFolds.j0 k a0 t209 true) else ((name_Same.f a0 a1).bind fun t217 => ((name_Fold.f a1).bind fun t218 => (joustlaw06_NameFolds.j0 k a0 t209 (t217 != (t209.toList == t218.toList)))))))) else (joustlaw06_NameFolds.j0 k a0 t209 true))) else (joustlaw06_NameFolds.j0 k a0 t209 true))) else (joustlaw06_NameFolds.j0 k a0 t209 true)) = some r := H
          have A13 := Aside0.mk A130
          clear A130
          by_cases c14 : t211 = t212
          · rw [if_pos c14] at H
            have c14b0 : (t211 == t212) = true := beq_iff_eq.mpr c14
            have c14b1 : (t211 != t212) = false := bne_eq_false_iff_eq.mpr c14
            clear c14
            replace H := Option.bind_eq_some_iff.mp H
            obtain ⟨t213, A150, H⟩ := H
            replace H : (if t213 = true then ((name_Same.f a0 a0).bind fun t214 => (if t214 = true then ((name_Same.f a0 a1).bind fun t215 => ((name_Same.f a1 a0).bind fun t216 => (if (t215 != t216) = true then (joustlaw06_NameFolds.j0 k a0 t209 true) else ((name_Same.f a0 a1).bind fun t217 => ((name_Fold.f a1).bind fun t218 => (joustlaw06_NameFolds.j0 k a0 t209 (t217 != (t209.toList == t218.toList)))))))) else (joustlaw06_NameFolds.j0 k a0 t209 true))) else (joustlaw06_NameFolds.j0 k a0 t209 true)) = some r := H
            have A15 := Aside0.mk A150
            clear A150
            by_cases c16 : t213 = true
            · subst c16
              have H1 : ((name_Same.f a0 a0).bind fun t214 => (if t214 = true then ((name_Same.f a0 a1).bind fun t215 => ((name_Same.f a1 a0).bind fun t216 => (if (t215 != t216) = true then (joustlaw06_NameFolds.j0 k a0 t209 true) else ((name_Same.f a0 a1).bind fun t217 => ((name_Fold.f a1).bind fun t218 => (joustlaw06_NameFolds.j0 k a0 t209 (t217 != (t209.toList == t218.toList)))))))) else (joustlaw06_NameFolds.j0 k a0 t209 true))) = some r := by rw [if_pos rfl] at H; exact H
              clear H
              have H := H1
              clear H1
              replace H := Option.bind_eq_some_iff.mp H
              obtain ⟨t214, A170, H⟩ := H
              replace H : (if t214 = true then ((name_Same.f a0 a1).bind fun t215 => ((name_Same.f a1 a0).bind fun t216 => (if (t215 != t216) = true then (joustlaw06_NameFolds.j0 k a0 t209 true) else ((name_Same.f a0 a1).bind fun t217 => ((name_Fold.f a1).bind fun t218 => (joustlaw06_NameFolds.j0 k a0 t209 (t217 != (t209.toList == t218.toList)))))))) else (joustlaw06_NameFolds.j0 k a0 t209 true)) = some r := H
              have A17 := Aside0.mk A170
              clear A170
              by_cases c18 : t214 = true
              · subst c18
                have H1 : ((name_Same.f a0 a1).bind fun t215 => ((name_Same.f a1 a0).bind fun t216 => (if (t215 != t216) = true then (joustlaw06_NameFolds.j0 k a0 t209 true) else ((name_Same.f a0 a1).bind fun t217 => ((name_Fold.f a1).bind fun t218 => (joustlaw06_NameFolds.j0 k a0 t209 (t217 != (t209.toList == t218.toList)))))))) = some r := by rw [if_pos rfl] at H; exact H
                clear H
                have H := H1
                clear H1
                replace H := Option.bind_eq_some_iff.mp H
                obtain ⟨t215, A190, H⟩ := H
                replace H : ((name_Same.f a1 a0).bind fun t216 => (if (t215 != t216) = true then (joustlaw06_NameFolds.j0 k a0 t209 true) else ((name_Same.f a0 a1).bind fun t217 => ((name_Fold.f a1).bind fun t218 => (joustlaw06_NameFolds.j0 k a0 t209 (t217 != (t209.toList == t218.toList))))))) = some r := H
                have A19 := Aside0.mk A190
                clear A190
                replace H := Option.bind_eq_some_iff.mp H
                obtain ⟨t216, A200, H⟩ := H
                replace H : (if (t215 != t216) = true then (joustlaw06_NameFolds.j0 k a0 t209 true) else ((name_Same.f a0 a1).bind fun t217 => ((name_Fold.f a1).bind fun t218 => (joustlaw06_NameFolds.j0 k a0 t209 (t217 != (t209.toList == t218.toList)))))) = some r := H
                have A20 := Aside0.mk A200
                clear A200
                by_cases c21 : (t215 != t216) = true
                · rw [if_pos c21] at H
                  have c21b0 : (t215 != t216) = true := c21
                  (try (have c21b1 : decide (t215 = t216) = false := by simpa using c21))
                  (try (have c21b2 : (t215 == t216) = false := by simpa using c21))
                  (try (have c21b3 : ¬ (t215 = t216) := by simpa using c21))
                  clear c21
                  have H' := Aside0.mk H
                  clear H
                  go_wp2_with (first | ((with_reducible refine gate_callee (f := 15) rfl ?_); refine goesL_ (some 12) rfl rfl Tryd.func15 (by kernel_rfl) rfl #[.string t209] rfl (by (try simp only [List.map_toArray, List.map_cons, List.map_nil]); first | done | rfl | (simp only [List.length_drop, List.length_take]; rfl)) ?_; (with_reducible refine (name_Fold.calls t209 t210 _ ?side1 A9.out).mono ?_); (case side1 => first | exact hGL | exact GL.of_below hGL (by repeat (first | (with_reducible first | exact HB.out | apply below_alloc | apply pw_below_drewN | apply below_drew1) | exact HB.out))); rintro e w22 ⟨rfl, hb⟩; refine ⟨_, rfl, ?_⟩; have n0_ := Aside0.mk (below_step (by repeat (first | (with_reducible first | exact HB.out | apply below_alloc | apply pw_below_drewN | apply below_drew1) | exact HB.out)) hb); clear HB; have HB := n0_; clear n0_; (try clear hb); (try clear hb2); (try clear hk); (try clear hi)) | (go_at_call 16; (with_reducible refine (name_Runes.calls t209 t211 _ ?side1 A12.out).mono ?_); (case side1 => first | exact hGL | exact GL.of_below hGL (by repeat (first | (with_reducible first | exact HB.out | apply below_alloc | apply pw_below_drewN | apply below_drew1) | exact HB.out))); rintro e w23 ⟨rfl, hb⟩; have n0_ := Aside0.mk (below_step (by repeat (first | (with_reducible first | exact HB.out | apply below_alloc | apply pw_below_drewN | apply below_drew1) | exact HB.out)) hb); clear HB; have HB := n0_; clear n0_; (try clear hb); (try clear hb2); (try clear hk); (try clear hi)) | (go_at_call 16; (with_reducible refine (name_Runes.calls a0 t212 _ ?side1 A13.out).mono ?_); (case side1 => first | exact hGL | exact GL.of_below hGL (by repeat (first | (with_reducible first | exact HB.out | apply below_alloc | apply pw_below_drewN | apply below_drew1) | exact HB.out))); rintro e w24 ⟨rfl, hb⟩; have n0_ := Aside0.mk (below_step (by repeat (first | (with_reducible first | exact HB.out | apply below_alloc | apply pw_below_drewN | apply below_drew1) | exact HB.out)) hb); clear HB; have HB := n0_; clear n0_; (try clear hb); (try clear hb2); (try clear hk); (try clear hi)) | (go_at_call 11; (with_reducible refine (name_Same.calls a0 t209 true _ ?side1 A15.out).mono ?_); (case side1 => first | exact hGL | exact GL.of_below hGL (by repeat (first | (with_reducible first | exact HB.out | apply below_alloc | apply pw_below_drewN | apply below_drew1) | exact HB.out))); rintro e w25 ⟨rfl, hb⟩; have n0_ := Aside0.mk (below_step (by repeat (first | (with_reducible first | exact HB.out | apply below_alloc | apply pw_below_drewN | apply below_drew1) | exact HB.out)) hb); clear HB; have HB := n0_; clear n0_; (try clear hb); (try clear hb2); (try clear hk); (try clear hi)) | (go_at_call 11; (with_reducible refine (name_Same.calls a0 a0 true _ ?side1 A17.out).mono ?_); (case side1 => first | exact hGL | exact GL.of_below hGL (by repeat (first | (with_reducible first | exact HB.out | apply below_alloc | apply pw_below_drewN | apply below_drew1) | exact HB.out))); rintro e w26 ⟨rfl, hb⟩; have n0_ := Aside0.mk (below_step (by repeat (first | (with_reducible first | exact HB.out | apply below_alloc | apply pw_below_drewN | apply below_drew1) | exact HB.out)) hb); clear HB; have HB := n0_; clear n0_; (try clear hb); (try clear hb2); (try clear hk); (try clear hi)) | (go_at_call 11; (with_reducible refine (name_Same.calls a0 a1 t215 _ ?side1 A19.out).mono ?_); (case side1 => first | exact hGL | exact GL.of_below hGL (by repeat (first | (with_reducible first | exact HB.out | apply below_alloc | apply pw_below_drewN | apply below_drew1) | exact HB.out))); rintro e w27 ⟨rfl, hb⟩; have n0_ := Aside0.mk (below_step (by repeat (first | (with_reducible first | exact HB.out | apply below_alloc | apply pw_below_drewN | apply below_drew1) | exact HB.out)) hb); clear HB; have HB := n0_; clear n0_; (try clear hb); (try clear hb2); (try clear hk); (try clear hi)) | (go_at_call 11; (with_reducible refine (name_Same.calls a1 a0 t216 _ ?side1 A20.out).mono ?_); (case side1 => first | exact hGL | exact GL.of_below hGL (by repeat (first | (with_reducible first | exact HB.out | apply below_alloc | apply pw_below_drewN | apply below_drew1) | exact HB.out))); rintro e w28 ⟨rfl, hb⟩; have n0_ := Aside0.mk (below_step (by repeat (first | (with_reducible first | exact HB.out | apply below_alloc | apply pw_below_drewN | apply below_drew1) | exact HB.out)) hb); clear HB; have HB := n0_; clear n0_; (try clear hb); (try clear hb2); (try clear hk); (try clear hi)))
                  go_meet
                  case rel => exact ⟨_, (true), (by first | rfl | (simp; done) | (simp [*]; done) | (simp [bne]; done) | (simp [*, bne]; done)), H', ⟨by first | omega | exact Nat.le_refl _⟩, ⟨by repeat (first | (with_reducible first | exact HB.out | apply below_alloc | apply pw_below_drewN | apply below_drew1) | exact HB.out)⟩⟩
                · rw [if_neg c21] at H
                  have c21b0 : (t215 != t216) = false := by simpa using c21
                  (try (have c21b1 : decide (t215 = t216) = true := by simpa using c21))
                  (try (have c21b2 : (t215 == t216) = true := by simpa using c21))
                  clear c21
                  replace H := Option.bind_eq_some_iff.mp H
                  obtain ⟨t217, A290, H⟩ := H
                  replace H : ((name_Fold.f a1).bind fun t218 => (joustlaw06_NameFolds.j0 k a0 t209 (t217 != (t209.toList == t218.toList)))) = some r := H
                  have A29 := Aside0.mk A290
                  clear A290
                  replace H := Option.bind_eq_some_iff.mp H
                  obtain ⟨t218, A300, H⟩ := H
                  replace H : (joustlaw06_NameFolds.j0 k a0 t209 (t217 != (t209.toList == t218.toList))) = some r := H
                  have A30 := Aside0.mk A300
                  clear A300
                  have H' := Aside0.mk H
                  clear H
                  go_wp2_with (first | ((with_reducible refine gate_callee (f := 15) rfl ?_); refine goesL_ (some 12) rfl rfl Tryd.func15 (by kernel_rfl) rfl #[.string t209] rfl (by (try simp only [List.map_toArray, List.map_cons, List.map_nil]); first | done | rfl | (simp only [List.length_drop, List.length_take]; rfl)) ?_; (with_reducible refine (name_Fold.calls t209 t210 _ ?side1 A9.out).mono ?_); (case side1 => first | exact hGL | exact GL.of_below hGL (by repeat (first | (with_reducible first | exact HB.out | apply below_alloc | apply pw_below_drewN | apply below_drew1) | exact HB.out))); rintro e w31 ⟨rfl, hb⟩; refine ⟨_, rfl, ?_⟩; have n0_ := Aside0.mk (below_step (by repeat (first | (with_reducible first | exact HB.out | apply below_alloc | apply pw_below_drewN | apply below_drew1) | exact HB.out)) hb); clear HB; have HB := n0_; clear n0_; (try clear hb); (try clear hb2); (try clear hk); (try clear hi)) | (go_at_call 16; (with_reducible refine (name_Runes.calls t209 t211 _ ?side1 A12.out).mono ?_); (case side1 => first | exact hGL | exact GL.of_below hGL (by repeat (first | (with_reducible first | exact HB.out | apply below_alloc | apply pw_below_drewN | apply below_drew1) | exact HB.out))); rintro e w32 ⟨rfl, hb⟩; have n0_ := Aside0.mk (below_step (by repeat (first | (with_reducible first | exact HB.out | apply below_alloc | apply pw_below_drewN | apply below_drew1) | exact HB.out)) hb); clear HB; have HB := n0_; clear n0_; (try clear hb); (try clear hb2); (try clear hk); (try clear hi)) | (go_at_call 16; (with_reducible refine (name_Runes.calls a0 t212 _ ?side1 A13.out).mono ?_); (case side1 => first | exact hGL | exact GL.of_below hGL (by repeat (first | (with_reducible first | exact HB.out | apply below_alloc | apply pw_below_drewN | apply below_drew1) | exact HB.out))); rintro e w33 ⟨rfl, hb⟩; have n0_ := Aside0.mk (below_step (by repeat (first | (with_reducible first | exact HB.out | apply below_alloc | apply pw_below_drewN | apply below_drew1) | exact HB.out)) hb); clear HB; have HB := n0_; clear n0_; (try clear hb); (try clear hb2); (try clear hk); (try clear hi)) | (go_at_call 11; (with_reducible refine (name_Same.calls a0 t209 true _ ?side1 A15.out).mono ?_); (case side1 => first | exact hGL | exact GL.of_below hGL (by repeat (first | (with_reducible first | exact HB.out | apply below_alloc | apply pw_below_drewN | apply below_drew1) | exact HB.out))); rintro e w34 ⟨rfl, hb⟩; have n0_ := Aside0.mk (below_step (by repeat (first | (with_reducible first | exact HB.out | apply below_alloc | apply pw_below_drewN | apply below_drew1) | exact HB.out)) hb); clear HB; have HB := n0_; clear n0_; (try clear hb); (try clear hb2); (try clear hk); (try clear hi)) | (go_at_call 11; (with_reducible refine (name_Same.calls a0 a0 true _ ?side1 A17.out).mono ?_); (case side1 => first | exact hGL | exact GL.of_below hGL (by repeat (first | (with_reducible first | exact HB.out | apply below_alloc | apply pw_below_drewN | apply below_drew1) | exact HB.out))); rintro e w35 ⟨rfl, hb⟩; have n0_ := Aside0.mk (below_step (by repeat (first | (with_reducible first | exact HB.out | apply below_alloc | apply pw_below_drewN | apply below_drew1) | exact HB.out)) hb); clear HB; have HB := n0_; clear n0_; (try clear hb); (try clear hb2); (try clear hk); (try clear hi)) | (go_at_call 11; (with_reducible refine (name_Same.calls a0 a1 t215 _ ?side1 A19.out).mono ?_); (case side1 => first | exact hGL | exact GL.of_below hGL (by repeat (first | (with_reducible first | exact HB.out | apply below_alloc | apply pw_below_drewN | apply below_drew1) | exact HB.out))); rintro e w36 ⟨rfl, hb⟩; have n0_ := Aside0.mk (below_step (by repeat (first | (with_reducible first | exact HB.out | apply below_alloc | apply pw_below_drewN | apply below_drew1) | exact HB.out)) hb); clear HB; have HB := n0_; clear n0_; (try clear hb); (try clear hb2); (try clear hk); (try clear hi)) | (go_at_call 11; (with_reducible refine (name_Same.calls a1 a0 t216 _ ?side1 A20.out).mono ?_); (case side1 => first | exact hGL | exact GL.of_below hGL (by repeat (first | (with_reducible first | exact HB.out | apply below_alloc | apply pw_below_drewN | apply below_drew1) | exact HB.out))); rintro e w37 ⟨rfl, hb⟩; have n0_ := Aside0.mk (below_step (by repeat (first | (with_reducible first | exact HB.out | apply below_alloc | apply pw_below_drewN | apply below_drew1) | exact HB.out)) hb); clear HB; have HB := n0_; clear n0_; (try clear hb); (try clear hb2); (try clear hk); (try clear hi)) | (go_at_call 11; (with_reducible refine (name_Same.calls a0 a1 t217 _ ?side1 A29.out).mono ?_); (case side1 => first | exact hGL | exact GL.of_below hGL (by repeat (first | (with_reducible first | exact HB.out | apply below_alloc | apply pw_below_drewN | apply below_drew1) | exact HB.out))); rintro e w38 ⟨rfl, hb⟩; have n0_ := Aside0.mk (below_step (by repeat (first | (with_reducible first | exact HB.out | apply below_alloc | apply pw_below_drewN | apply below_drew1) | exact HB.out)) hb); clear HB; have HB := n0_; clear n0_; (try clear hb); (try clear hb2); (try clear hk); (try clear hi)) | (go_at_call 15; (with_reducible refine (name_Fold.calls a1 t218 _ ?side1 A30.out).mono ?_); (case side1 => first | exact hGL | exact GL.of_below hGL (by repeat (first | (with_reducible first | exact HB.out | apply below_alloc | apply pw_below_drewN | apply below_drew1) | exact HB.out))); rintro e w39 ⟨rfl, hb⟩; have n0_ := Aside0.mk (below_step (by repeat (first | (with_reducible first | exact HB.out | apply below_alloc | apply pw_below_drewN | apply below_drew1) | exact HB.out)) hb); clear HB; have HB := n0_; clear n0_; (try clear hb); (try clear hb2); (try clear hk); (try clear hi)))
                  go_meet
                  case rel => exact ⟨_, ((t217 != (t209.toList == t218.toList))), (by first | rfl | (rw [← (Option.some.inj (A19.out.symm.trans A29.out) : t215 = t217)]; first | rfl | (simp [bne]; done)) | (simp; done) | (simp [*]; done) | (simp [bne]; done) | (simp [*, bne]; done)), H', ⟨by first | omega | exact Nat.le_refl _⟩, ⟨by repeat (first | (with_reducible first | exact HB.out | apply below_alloc | apply pw_below_drewN | apply below_drew1) | exact HB.out)⟩⟩
              · replace c18 := Bool.eq_false_iff.mpr c18
                subst c18
                have H1 : (joustlaw06_NameFolds.j0 k a0 t209 true) = some r := by rw [if_neg (show ¬ (false = true) by decide)] at H; exact H
                clear H
                have H := H1
                clear H1
                have H' := Aside0.mk H
                clear H
                go_wp2_with (first | ((with_reducible refine gate_callee (f := 15) rfl ?_); refine goesL_ (some 12) rfl rfl Tryd.func15 (by kernel_rfl) rfl #[.string t209] rfl (by (try simp only [List.map_toArray, List.map_cons, List.map_nil]); first | done | rfl | (simp only [List.length_drop, List.length_take]; rfl)) ?_; (with_reducible refine (name_Fold.calls t209 t210 _ ?side1 A9.out).mono ?_); (case side1 => first | exact hGL | exact GL.of_below hGL (by repeat (first | (with_reducible first | exact HB.out | apply below_alloc | apply pw_below_drewN | apply below_drew1) | exact HB.out))); rintro e w40 ⟨rfl, hb⟩; refine ⟨_, rfl, ?_⟩; have n0_ := Aside0.mk (below_step (by repeat (first | (with_reducible first | exact HB.out | apply below_alloc | apply pw_below_drewN | apply below_drew1) | exact HB.out)) hb); clear HB; have HB := n0_; clear n0_; (try clear hb); (try clear hb2); (try clear hk); (try clear hi)) | (go_at_call 16; (with_reducible refine (name_Runes.calls t209 t211 _ ?side1 A12.out).mono ?_); (case side1 => first | exact hGL | exact GL.of_below hGL (by repeat (first | (with_reducible first | exact HB.out | apply below_alloc | apply pw_below_drewN | apply below_drew1) | exact HB.out))); rintro e w41 ⟨rfl, hb⟩; have n0_ := Aside0.mk (below_step (by repeat (first | (with_reducible first | exact HB.out | apply below_alloc | apply pw_below_drewN | apply below_drew1) | exact HB.out)) hb); clear HB; have HB := n0_; clear n0_; (try clear hb); (try clear hb2); (try clear hk); (try clear hi)) | (go_at_call 16; (with_reducible refine (name_Runes.calls a0 t212 _ ?side1 A13.out).mono ?_); (case side1 => first | exact hGL | exact GL.of_below hGL (by repeat (first | (with_reducible first | exact HB.out | apply below_alloc | apply pw_below_drewN | apply below_drew1) | exact HB.out))); rintro e w42 ⟨rfl, hb⟩; have n0_ := Aside0.mk (below_step (by repeat (first | (with_reducible first | exact HB.out | apply below_alloc | apply pw_below_drewN | apply below_drew1) | exact HB.out)) hb); clear HB; have HB := n0_; clear n0_; (try clear hb); (try clear hb2); (try clear hk); (try clear hi)) | (go_at_call 11; (with_reducible refine (name_Same.calls a0 t209 true _ ?side1 A15.out).mono ?_); (case side1 => first | exact hGL | exact GL.of_below hGL (by repeat (first | (with_reducible first | exact HB.out | apply below_alloc | apply pw_below_drewN | apply below_drew1) | exact HB.out))); rintro e w43 ⟨rfl, hb⟩; have n0_ := Aside0.mk (below_step (by repeat (first | (with_reducible first | exact HB.out | apply below_alloc | apply pw_below_drewN | apply below_drew1) | exact HB.out)) hb); clear HB; have HB := n0_; clear n0_; (try clear hb); (try clear hb2); (try clear hk); (try clear hi)) | (go_at_call 11; (with_reducible refine (name_Same.calls a0 a0 false _ ?side1 A17.out).mono ?_); (case side1 => first | exact hGL | exact GL.of_below hGL (by repeat (first | (with_reducible first | exact HB.out | apply below_alloc | apply pw_below_drewN | apply below_drew1) | exact HB.out))); rintro e w44 ⟨rfl, hb⟩; have n0_ := Aside0.mk (below_step (by repeat (first | (with_reducible first | exact HB.out | apply below_alloc | apply pw_below_drewN | apply below_drew1) | exact HB.out)) hb); clear HB; have HB := n0_; clear n0_; (try clear hb); (try clear hb2); (try clear hk); (try clear hi)))
                go_meet
                case rel => exact ⟨_, (true), (by first | rfl | (simp; done) | (simp [*]; done) | (simp [bne]; done) | (simp [*, bne]; done)), H', ⟨by first | omega | exact Nat.le_refl _⟩, ⟨by repeat (first | (with_reducible first | exact HB.out | apply below_alloc | apply pw_below_drewN | apply below_drew1) | exact HB.out)⟩⟩
            · replace c16 := Bool.eq_false_iff.mpr c16
              subst c16
              have H1 : (joustlaw06_NameFolds.j0 k a0 t209 true) = some r := by rw [if_neg (show ¬ (false = true) by decide)] at H; exact H
              clear H
              have H := H1
              clear H1
              have H' := Aside0.mk H
              clear H
              go_wp2_with (first | ((with_reducible refine gate_callee (f := 15) rfl ?_); refine goesL_ (some 12) rfl rfl Tryd.func15 (by kernel_rfl) rfl #[.string t209] rfl (by (try simp only [List.map_toArray, List.map_cons, List.map_nil]); first | done | rfl | (simp only [List.length_drop, List.length_take]; rfl)) ?_; (with_reducible refine (name_Fold.calls t209 t210 _ ?side1 A9.out).mono ?_); (case side1 => first | exact hGL | exact GL.of_below hGL (by repeat (first | (with_reducible first | exact HB.out | apply below_alloc | apply pw_below_drewN | apply below_drew1) | exact HB.out))); rintro e w45 ⟨rfl, hb⟩; refine ⟨_, rfl, ?_⟩; have n0_ := Aside0.mk (below_step (by repeat (first | (with_reducible first | exact HB.out | apply below_alloc | apply pw_below_drewN | apply below_drew1) | exact HB.out)) hb); clear HB; have HB := n0_; clear n0_; (try clear hb); (try clear hb2); (try clear hk); (try clear hi)) | (go_at_call 16; (with_reducible refine (name_Runes.calls t209 t211 _ ?side1 A12.out).mono ?_); (case side1 => first | exact hGL | exact GL.of_below hGL (by repeat (first | (with_reducible first | exact HB.out | apply below_alloc | apply pw_below_drewN | apply below_drew1) | exact HB.out))); rintro e w46 ⟨rfl, hb⟩; have n0_ := Aside0.mk (below_step (by repeat (first | (with_reducible first | exact HB.out | apply below_alloc | apply pw_below_drewN | apply below_drew1) | exact HB.out)) hb); clear HB; have HB := n0_; clear n0_; (try clear hb); (try clear hb2); (try clear hk); (try clear hi)) | (go_at_call 16; (with_reducible refine (name_Runes.calls a0 t212 _ ?side1 A13.out).mono ?_); (case side1 => first | exact hGL | exact GL.of_below hGL (by repeat (first | (with_reducible first | exact HB.out | apply below_alloc | apply pw_below_drewN | apply below_drew1) | exact HB.out))); rintro e w47 ⟨rfl, hb⟩; have n0_ := Aside0.mk (below_step (by repeat (first | (with_reducible first | exact HB.out | apply below_alloc | apply pw_below_drewN | apply below_drew1) | exact HB.out)) hb); clear HB; have HB := n0_; clear n0_; (try clear hb); (try clear hb2); (try clear hk); (try clear hi)) | (go_at_call 11; (with_reducible refine (name_Same.calls a0 t209 false _ ?side1 A15.out).mono ?_); (case side1 => first | exact hGL | exact GL.of_below hGL (by repeat (first | (with_reducible first | exact HB.out | apply below_alloc | apply pw_below_drewN | apply below_drew1) | exact HB.out))); rintro e w48 ⟨rfl, hb⟩; have n0_ := Aside0.mk (below_step (by repeat (first | (with_reducible first | exact HB.out | apply below_alloc | apply pw_below_drewN | apply below_drew1) | exact HB.out)) hb); clear HB; have HB := n0_; clear n0_; (try clear hb); (try clear hb2); (try clear hk); (try clear hi)))
              go_meet
              case rel => exact ⟨_, (true), (by first | rfl | (simp; done) | (simp [*]; done) | (simp [bne]; done) | (simp [*, bne]; done)), H', ⟨by first | omega | exact Nat.le_refl _⟩, ⟨by repeat (first | (with_reducible first | exact HB.out | apply below_alloc | apply pw_below_drewN | apply below_drew1) | exact HB.out)⟩⟩
          · rw [if_neg c14] at H
            have c14b0 : (t211 == t212) = false := beq_eq_false_iff_ne.mpr c14
            have c14b1 : (t211 != t212) = true := bne_iff_ne.mpr c14
            have H' := Aside0.mk H
            clear H
            go_wp2_with (first | ((with_reducible refine gate_callee (f := 15) rfl ?_); refine goesL_ (some 12) rfl rfl Tryd.func15 (by kernel_rfl) rfl #[.string t209] rfl (by (try simp only [List.map_toArray, List.map_cons, List.map_nil]); first | done | rfl | (simp only [List.length_drop, List.length_take]; rfl)) ?_; (with_reducible refine (name_Fold.calls t209 t210 _ ?side1 A9.out).mono ?_); (case side1 => first | exact hGL | exact GL.of_below hGL (by repeat (first | (with_reducible first | exact HB.out | apply below_alloc | apply pw_below_drewN | apply below_drew1) | exact HB.out))); rintro e w49 ⟨rfl, hb⟩; refine ⟨_, rfl, ?_⟩; have n0_ := Aside0.mk (below_step (by repeat (first | (with_reducible first | exact HB.out | apply below_alloc | apply pw_below_drewN | apply below_drew1) | exact HB.out)) hb); clear HB; have HB := n0_; clear n0_; (try clear hb); (try clear hb2); (try clear hk); (try clear hi)) | (go_at_call 16; (with_reducible refine (name_Runes.calls t209 t211 _ ?side1 A12.out).mono ?_); (case side1 => first | exact hGL | exact GL.of_below hGL (by repeat (first | (with_reducible first | exact HB.out | apply below_alloc | apply pw_below_drewN | apply below_drew1) | exact HB.out))); rintro e w50 ⟨rfl, hb⟩; have n0_ := Aside0.mk (below_step (by repeat (first | (with_reducible first | exact HB.out | apply below_alloc | apply pw_below_drewN | apply below_drew1) | exact HB.out)) hb); clear HB; have HB := n0_; clear n0_; (try clear hb); (try clear hb2); (try clear hk); (try clear hi)) | (go_at_call 16; (with_reducible refine (name_Runes.calls a0 t212 _ ?side1 A13.out).mono ?_); (case side1 => first | exact hGL | exact GL.of_below hGL (by repeat (first | (with_reducible first | exact HB.out | apply below_alloc | apply pw_below_drewN | apply below_drew1) | exact HB.out))); rintro e w51 ⟨rfl, hb⟩; have n0_ := Aside0.mk (below_step (by repeat (first | (with_reducible first | exact HB.out | apply below_alloc | apply pw_below_drewN | apply below_drew1) | exact HB.out)) hb); clear HB; have HB := n0_; clear n0_; (try clear hb); (try clear hb2); (try clear hk); (try clear hi)))
            go_meet
            case rel => exact ⟨_, (true), (by first | rfl | (simp; done) | (simp [*]; done) | (simp [bne]; done) | (simp [*, bne]; done)), H', ⟨by first | omega | exact Nat.le_refl _⟩, ⟨by repeat (first | (with_reducible first | exact HB.out | apply below_alloc | apply pw_below_drewN | apply below_drew1) | exact HB.out)⟩⟩
        · rw [if_neg c11] at H
          have c11b0 : ((t209.size : Int) == (a0.size : Int)) = false := beq_eq_false_iff_ne.mpr c11
          have c11b1 : ((t209.size : Int) != (a0.size : Int)) = true := bne_iff_ne.mpr c11
          have c11b2 : (t209.size == a0.size) = false := by first | simpa using c11 | (simp at c11 ⊢; omega)
          have H' := Aside0.mk H
          clear H
          go_wp2_with (first | ((with_reducible refine gate_callee (f := 15) rfl ?_); refine goesL_ (some 12) rfl rfl Tryd.func15 (by kernel_rfl) rfl #[.string t209] rfl (by (try simp only [List.map_toArray, List.map_cons, List.map_nil]); first | done | rfl | (simp only [List.length_drop, List.length_take]; rfl)) ?_; (with_reducible refine (name_Fold.calls t209 t210 _ ?side1 A9.out).mono ?_); (case side1 => first | exact hGL | exact GL.of_below hGL (by repeat (first | (with_reducible first | exact HB.out | apply below_alloc | apply pw_below_drewN | apply below_drew1) | exact HB.out))); rintro e w52 ⟨rfl, hb⟩; refine ⟨_, rfl, ?_⟩; have n0_ := Aside0.mk (below_step (by repeat (first | (with_reducible first | exact HB.out | apply below_alloc | apply pw_below_drewN | apply below_drew1) | exact HB.out)) hb); clear HB; have HB := n0_; clear n0_; (try clear hb); (try clear hb2); (try clear hk); (try clear hi)))
          go_meet
          case rel => exact ⟨_, (true), (by first | rfl | (simp; done) | (simp [*]; done) | (simp [bne]; done) | (simp [*, bne]; done)), H', ⟨by first | omega | exact Nat.le_refl _⟩, ⟨by repeat (first | (with_reducible first | exact HB.out | apply below_alloc | apply pw_below_drewN | apply below_drew1) | exact HB.out)⟩⟩
      · rw [if_neg c10] at H
        have c10b0 : (t210.toList == t209.toList) = false := beq_eq_false_iff_ne.mpr c10
        have c10b1 : (t210.toList != t209.toList) = true := bne_iff_ne.mpr c10
        (first | rw [c10b0] | (simp only [i64_w, i32_w]; rw [c10b0]) | skip)
        have H' := Aside0.mk H
        clear H
        go_wp2_with (first | ((with_reducible refine gate_callee (f := 15) rfl ?_); refine goesL_ (some 12) rfl rfl Tryd.func15 (by kernel_rfl) rfl #[.string t209] rfl (by (try simp only [List.map_toArray, List.map_cons, List.map_nil]); first | done | rfl | (simp only [List.length_drop, List.length_take]; rfl)) ?_; (with_reducible refine (name_Fold.calls t209 t210 _ ?side1 A9.out).mono ?_); (case side1 => first | exact hGL | exact GL.of_below hGL (by repeat (first | (with_reducible first | exact HB.out | apply below_alloc | apply pw_below_drewN | apply below_drew1) | exact HB.out))); rintro e w53 ⟨rfl, hb⟩; refine ⟨_, rfl, ?_⟩; have n0_ := Aside0.mk (below_step (by repeat (first | (with_reducible first | exact HB.out | apply below_alloc | apply pw_below_drewN | apply below_drew1) | exact HB.out)) hb); clear HB; have HB := n0_; clear n0_; (try clear hb); (try clear hb2); (try clear hk); (try clear hi)))
        go_meet
        case rel => exact ⟨_, (true), (by first | rfl | (simp; done) | (simp [*]; done) | (simp [bne]; done) | (simp [*, bne]; done)), H', ⟨by first | omega | exact Nat.le_refl _⟩, ⟨by repeat (first | (with_reducible first | exact HB.out | apply below_alloc | apply pw_below_drewN | apply below_drew1) | exact HB.out)⟩⟩
    case rest =>
      clear HC6
      try clear c1
      try clear c2
      try clear p2
      try clear c4
      try clear c9
      try clear c10
      try clear c10b0
      try clear c10b1
      try clear c11
      try clear c11b0
      try clear c11b1
      try clear c11b2
      try clear c14
      try clear c14b0
      try clear c14b1
      try clear c15
      try clear c16
      try clear c18
      try clear c21
      try clear c21b0
      try clear c21b1
      try clear c21b2
      obtain ⟨kq, x59_5, rfl, HA, HJ5, HB⟩ := hcut
      cases kq with
      | zero => exact absurd HA.out (by simp [joustlaw06_NameFolds.j0])
      | succ kj5 =>
        have H := HA.out
        clear HA
        simp only [joustlaw06_NameFolds.j0] at H
        by_cases c54 : x59_5 = true
        · subst c54
          have H1 : (some false) = some r := by rw [if_pos rfl] at H; exact H
          clear H
          have H := H1
          clear H1
          obtain rfl := Option.some.inj H
          go_wp2
          go_ret
          exact ⟨by first | rfl | (simp [errW_none, errW_some] <;> rfl) | (simp [*, errW_none, errW_some] <;> rfl), by repeat (first | (with_reducible first | exact HB.out | apply below_alloc | apply pw_below_drewN | apply below_drew1) | exact HB.out)⟩
        · replace c54 := Bool.eq_false_iff.mpr c54
          subst c54
          have H1 : ((name_Check.f a0).bind fun t219 => ((joustlaw06_num.f t219).bind fun t220 => ((name_Check.f t209).bind fun t221 => ((joustlaw06_num.f t221).bind fun t222 => (if t220 = t222 then ((name_Check.f a0).bind fun t223 => ((joustlaw06_num.f t223).bind fun t224 => (if t224 = 0 then ((name_Runes.f a0).bind fun t225 => (if t225 ≥ 1 then (if t225 ≤ 12 then (some (decide ((a0.size : Int) ≤ 24))) else (some false)) else (some false))) else ((name_Check.f a0).bind fun t226 => ((joustlaw06_num.f t226).bind fun t227 => (some (t227 == 60))))))) else (some false)))))) = some r := by rw [if_neg (show ¬ (false = true) by decide)] at H; exact H
          clear H
          have H := H1
          clear H1
          replace H := Option.bind_eq_some_iff.mp H
          obtain ⟨t219, A550, H⟩ := H
          replace H : ((joustlaw06_num.f t219).bind fun t220 => ((name_Check.f t209).bind fun t221 => ((joustlaw06_num.f t221).bind fun t222 => (if t220 = t222 then ((name_Check.f a0).bind fun t223 => ((joustlaw06_num.f t223).bind fun t224 => (if t224 = 0 then ((name_Runes.f a0).bind fun t225 => (if t225 ≥ 1 then (if t225 ≤ 12 then (some (decide ((a0.size : Int) ≤ 24))) else (some false)) else (some false))) else ((name_Check.f a0).bind fun t226 => ((joustlaw06_num.f t226).bind fun t227 => (some (t227 == 60))))))) else (some false))))) = some r := H
          have A55 := Aside0.mk A550
          clear A550
          replace H := Option.bind_eq_some_iff.mp H
          obtain ⟨t220, A560, H⟩ := H
          replace H : ((name_Check.f t209).bind fun t221 => ((joustlaw06_num.f t221).bind fun t222 => (if t220 = t222 then ((name_Check.f a0).bind fun t223 => ((joustlaw06_num.f t223).bind fun t224 => (if t224 = 0 then ((name_Runes.f a0).bind fun t225 => (if t225 ≥ 1 then (if t225 ≤ 12 then (some (decide ((a0.size : Int) ≤ 24))) else (some false)) else (some false))) else ((name_Check.f a0).bind fun t226 => ((joustlaw06_num.f t226).bind fun t227 => (some (t227 == 60))))))) else (some false)))) = some r := H
          have A56 := Aside0.mk A560
          clear A560
          replace H := Option.bind_eq_some_iff.mp H
          obtain ⟨t221, A570, H⟩ := H
          replace H : ((joustlaw06_num.f t221).bind fun t222 => (if t220 = t222 then ((name_Check.f a0).bind fun t223 => ((joustlaw06_num.f t223).bind fun t224 => (if t224 = 0 then ((name_Runes.f a0).bind fun t225 => (if t225 ≥ 1 then (if t225 ≤ 12 then (some (decide ((a0.size : Int) ≤ 24))) else (some false)) else (some false))) else ((name_Check.f a0).bind fun t226 => ((joustlaw06_num.f t226).bind fun t227 => (some (t227 == 60))))))) else (some false))) = some r := H
          have A57 := Aside0.mk A570
          clear A570
          replace H := Option.bind_eq_some_iff.mp H
          obtain ⟨t222, A580, H⟩ := H
          replace H : (if t220 = t222 then ((name_Check.f a0).bind fun t223 => ((joustlaw06_num.f t223).bind fun t224 => (if t224 = 0 then ((name_Runes.f a0).bind fun t225 => (if t225 ≥ 1 then (if t225 ≤ 12 then (some (decide ((a0.size : Int) ≤ 24))) else (some false)) else (some false))) else ((name_Check.f a0).bind fun t226 => ((joustlaw06_num.f t226).bind fun t227 => (some (t227 == 60))))))) else (some false)) = some r := H
          have A58 := Aside0.mk A580
          clear A580
          by_cases c59 : t220 = t222
          · rw [if_pos c59] at H
            have c59b0 : (t220 == t222) = true := beq_iff_eq.mpr c59
            have c59b1 : (t220 != t222) = false := bne_eq_false_iff_eq.mpr c59
            clear c59
            replace H := Option.bind_eq_some_iff.mp H
            obtain ⟨t223, A600, H⟩ := H
            replace H : ((joustlaw06_num.f t223).bind fun t224 => (if t224 = 0 then ((name_Runes.f a0).bind fun t225 => (if t225 ≥ 1 then (if t225 ≤ 12 then (some (decide ((a0.size : Int) ≤ 24))) else (some false)) else (some false))) else ((name_Check.f a0).bind fun t226 => ((joustlaw06_num.f t226).bind fun t227 => (some (t227 == 60)))))) = some r := H
            have A60 := Aside0.mk A600
            clear A600
            replace H := Option.bind_eq_some_iff.mp H
            obtain ⟨t224, A610, H⟩ := H
            replace H : (if t224 = 0 then ((name_Runes.f a0).bind fun t225 => (if t225 ≥ 1 then (if t225 ≤ 12 then (some (decide ((a0.size : Int) ≤ 24))) else (some false)) else (some false))) else ((name_Check.f a0).bind fun t226 => ((joustlaw06_num.f t226).bind fun t227 => (some (t227 == 60))))) = some r := H
            have A61 := Aside0.mk A610
            clear A610
            by_cases c62 : t224 = 0
            · rw [if_pos c62] at H
              have c62b0 : (t224 == 0) = true := beq_iff_eq.mpr c62
              have c62b1 : (t224 != 0) = false := bne_eq_false_iff_eq.mpr c62
              clear c62
              replace H := Option.bind_eq_some_iff.mp H
              obtain ⟨t225, A630, H⟩ := H
              replace H : (if t225 ≥ 1 then (if t225 ≤ 12 then (some (decide ((a0.size : Int) ≤ 24))) else (some false)) else (some false)) = some r := H
              have A63 := Aside0.mk A630
              clear A630
              by_cases c64 : t225 ≥ 1
              · rw [if_pos c64] at H
                have c64b0 : decide (1 ≤ t225) = true := decide_eq_true c64
                clear c64
                by_cases c65 : t225 ≤ 12
                · rw [if_pos c65] at H
                  have c65b0 : decide (t225 ≤ 12) = true := decide_eq_true c65
                  clear c65
                  obtain rfl := Option.some.inj H
                  go_wp2_with (first | ((with_reducible refine gate_callee (f := 18) rfl ?_); refine goesL_ (some 61) rfl rfl Tryd.func18 (by kernel_rfl) rfl #[.string a0] rfl (by (try simp only [List.map_toArray, List.map_cons, List.map_nil]); first | done | rfl | (simp only [List.length_drop, List.length_take]; rfl)) ?_; (with_reducible refine (name_Check.calls a0 t219 _ ?side1 A55.out).mono ?_); (case side1 => first | exact hGL | exact GL.of_below hGL (by repeat (first | (with_reducible first | exact HB.out | apply below_alloc | apply pw_below_drewN | apply below_drew1) | exact HB.out))); rintro e w66 ⟨rfl, hb⟩; refine ⟨_, rfl, ?_⟩; have n0_ := Aside0.mk (below_step (by repeat (first | (with_reducible first | exact HB.out | apply below_alloc | apply pw_below_drewN | apply below_drew1) | exact HB.out)) hb); clear HB; have HB := n0_; clear n0_; (try clear hb); (try clear hb2); (try clear hk); (try clear hi)) | ((with_reducible refine gate_callee (f := 17) rfl ?_); refine goesL_ (some 62) rfl rfl Tryd.func17 (by kernel_rfl) rfl #[.int .i64 t219] rfl (by (try simp only [List.map_toArray, List.map_cons, List.map_nil]); first | done | rfl | (simp only [List.length_drop, List.length_take]; rfl)) ?_; (with_reducible refine (joustlaw06_num.calls t219 t220 _ ?side1 A56.out).mono ?_); (case side1 => first | exact hGL | exact GL.of_below hGL (by repeat (first | (with_reducible first | exact HB.out | apply below_alloc | apply pw_below_drewN | apply below_drew1) | exact HB.out))); rintro e w' ⟨rfl, ⟨nd, rfl⟩⟩; refine ⟨_, rfl, ?_⟩) | ((with_reducible refine gate_callee (f := 18) rfl ?_); refine goesL_ (some 64) rfl rfl Tryd.func18 (by kernel_rfl) rfl #[.string t209] rfl (by (try simp only [List.map_toArray, List.map_cons, List.map_nil]); first | done | rfl | (simp only [List.length_drop, List.length_take]; rfl)) ?_; (with_reducible refine (name_Check.calls t209 t221 _ ?side1 A57.out).mono ?_); (case side1 => first | exact hGL | exact GL.of_below hGL (by repeat (first | (with_reducible first | exact HB.out | apply below_alloc | apply pw_below_drewN | apply below_drew1) | exact HB.out))); rintro e w67 ⟨rfl, hb⟩; refine ⟨_, rfl, ?_⟩; have n0_ := Aside0.mk (below_step (by repeat (first | (with_reducible first | exact HB.out | apply below_alloc | apply pw_below_drewN | apply below_drew1) | exact HB.out)) hb); clear HB; have HB := n0_; clear n0_; (try clear hb); (try clear hb2); (try clear hk); (try clear hi)) | ((with_reducible refine gate_callee (f := 17) rfl ?_); refine goesL_ (some 65) rfl rfl Tryd.func17 (by kernel_rfl) rfl #[.int .i64 t221] rfl (by (try simp only [List.map_toArray, List.map_cons, List.map_nil]); first | done | rfl | (simp only [List.length_drop, List.length_take]; rfl)) ?_; (with_reducible refine (joustlaw06_num.calls t221 t222 _ ?side1 A58.out).mono ?_); (case side1 => first | exact hGL | exact GL.of_below hGL (by repeat (first | (with_reducible first | exact HB.out | apply below_alloc | apply pw_below_drewN | apply below_drew1) | exact HB.out))); rintro e w' ⟨rfl, ⟨nd, rfl⟩⟩; refine ⟨_, rfl, ?_⟩) | ((with_reducible refine gate_callee (f := 18) rfl ?_); refine goesL_ (some 68) rfl rfl Tryd.func18 (by kernel_rfl) rfl #[.string a0] rfl (by (try simp only [List.map_toArray, List.map_cons, List.map_nil]); first | done | rfl | (simp only [List.length_drop, List.length_take]; rfl)) ?_; (with_reducible refine (name_Check.calls a0 t223 _ ?side1 A60.out).mono ?_); (case side1 => first | exact hGL | exact GL.of_below hGL (by repeat (first | (with_reducible first | exact HB.out | apply below_alloc | apply pw_below_drewN | apply below_drew1) | exact HB.out))); rintro e w68 ⟨rfl, hb⟩; refine ⟨_, rfl, ?_⟩; have n0_ := Aside0.mk (below_step (by repeat (first | (with_reducible first | exact HB.out | apply below_alloc | apply pw_below_drewN | apply below_drew1) | exact HB.out)) hb); clear HB; have HB := n0_; clear n0_; (try clear hb); (try clear hb2); (try clear hk); (try clear hi)) | ((with_reducible refine gate_callee (f := 17) rfl ?_); refine goesL_ (some 69) rfl rfl Tryd.func17 (by kernel_rfl) rfl #[.int .i64 t223] rfl (by (try simp only [List.map_toArray, List.map_cons, List.map_nil]); first | done | rfl | (simp only [List.length_drop, List.length_take]; rfl)) ?_; (with_reducible refine (joustlaw06_num.calls t223 t224 _ ?side1 A61.out).mono ?_); (case side1 => first | exact hGL | exact GL.of_below hGL (by repeat (first | (with_reducible first | exact HB.out | apply below_alloc | apply pw_below_drewN | apply below_drew1) | exact HB.out))); rintro e w' ⟨rfl, ⟨nd, rfl⟩⟩; refine ⟨_, rfl, ?_⟩) | ((with_reducible refine gate_callee (f := 16) rfl ?_); refine goesL_ (some 76) rfl rfl Tryd.func16 (by kernel_rfl) rfl #[.string a0] rfl (by (try simp only [List.map_toArray, List.map_cons, List.map_nil]); first | done | rfl | (simp only [List.length_drop, List.length_take]; rfl)) ?_; (with_reducible refine (name_Runes.calls a0 t225 _ ?side1 A63.out).mono ?_); (case side1 => first | exact hGL | exact GL.of_below hGL (by repeat (first | (with_reducible first | exact HB.out | apply below_alloc | apply pw_below_drewN | apply below_drew1) | exact HB.out))); rintro e w69 ⟨rfl, hb⟩; refine ⟨_, rfl, ?_⟩; have n0_ := Aside0.mk (below_step (by repeat (first | (with_reducible first | exact HB.out | apply below_alloc | apply pw_below_drewN | apply below_drew1) | exact HB.out)) hb); clear HB; have HB := n0_; clear n0_; (try clear hb); (try clear hb2); (try clear hk); (try clear hi)))
                  go_ret
                  exact ⟨by first | rfl | (simp [errW_none, errW_some] <;> rfl) | (simp [*, errW_none, errW_some] <;> rfl), by repeat (first | (with_reducible first | exact HB.out | apply below_alloc | apply pw_below_drewN | apply below_drew1) | exact HB.out)⟩
                · rw [if_neg c65] at H
                  have c65b0 : decide (t225 ≤ 12) = false := decide_eq_false c65
                  clear c65
                  obtain rfl := Option.some.inj H
                  go_wp2_with (first | ((with_reducible refine gate_callee (f := 18) rfl ?_); refine goesL_ (some 61) rfl rfl Tryd.func18 (by kernel_rfl) rfl #[.string a0] rfl (by (try simp only [List.map_toArray, List.map_cons, List.map_nil]); first | done | rfl | (simp only [List.length_drop, List.length_take]; rfl)) ?_; (with_reducible refine (name_Check.calls a0 t219 _ ?side1 A55.out).mono ?_); (case side1 => first | exact hGL | exact GL.of_below hGL (by repeat (first | (with_reducible first | exact HB.out | apply below_alloc | apply pw_below_drewN | apply below_drew1) | exact HB.out))); rintro e w70 ⟨rfl, hb⟩; refine ⟨_, rfl, ?_⟩; have n0_ := Aside0.mk (below_step (by repeat (first | (with_reducible first | exact HB.out | apply below_alloc | apply pw_below_drewN | apply below_drew1) | exact HB.out)) hb); clear HB; have HB := n0_; clear n0_; (try clear hb); (try clear hb2); (try clear hk); (try clear hi)) | ((with_reducible refine gate_callee (f := 17) rfl ?_); refine goesL_ (some 62) rfl rfl Tryd.func17 (by kernel_rfl) rfl #[.int .i64 t219] rfl (by (try simp only [List.map_toArray, List.map_cons, List.map_nil]); first | done | rfl | (simp only [List.length_drop, List.length_take]; rfl)) ?_; (with_reducible refine (joustlaw06_num.calls t219 t220 _ ?side1 A56.out).mono ?_); (case side1 => first | exact hGL | exact GL.of_below hGL (by repeat (first | (with_reducible first | exact HB.out | apply below_alloc | apply pw_below_drewN | apply below_drew1) | exact HB.out))); rintro e w' ⟨rfl, ⟨nd, rfl⟩⟩; refine ⟨_, rfl, ?_⟩) | ((with_reducible refine gate_callee (f := 18) rfl ?_); refine goesL_ (some 64) rfl rfl Tryd.func18 (by kernel_rfl) rfl #[.string t209] rfl (by (try simp only [List.map_toArray, List.map_cons, List.map_nil]); first | done | rfl | (simp only [List.length_drop, List.length_take]; rfl)) ?_; (with_reducible refine (name_Check.calls t209 t221 _ ?side1 A57.out).mono ?_); (case side1 => first | exact hGL | exact GL.of_below hGL (by repeat (first | (with_reducible first | exact HB.out | apply below_alloc | apply pw_below_drewN | apply below_drew1) | exact HB.out))); rintro e w71 ⟨rfl, hb⟩; refine ⟨_, rfl, ?_⟩; have n0_ := Aside0.mk (below_step (by repeat (first | (with_reducible first | exact HB.out | apply below_alloc | apply pw_below_drewN | apply below_drew1) | exact HB.out)) hb); clear HB; have HB := n0_; clear n0_; (try clear hb); (try clear hb2); (try clear hk); (try clear hi)) | ((with_reducible refine gate_callee (f := 17) rfl ?_); refine goesL_ (some 65) rfl rfl Tryd.func17 (by kernel_rfl) rfl #[.int .i64 t221] rfl (by (try simp only [List.map_toArray, List.map_cons, List.map_nil]); first | done | rfl | (simp only [List.length_drop, List.length_take]; rfl)) ?_; (with_reducible refine (joustlaw06_num.calls t221 t222 _ ?side1 A58.out).mono ?_); (case side1 => first | exact hGL | exact GL.of_below hGL (by repeat (first | (with_reducible first | exact HB.out | apply below_alloc | apply pw_below_drewN | apply below_drew1) | exact HB.out))); rintro e w' ⟨rfl, ⟨nd, rfl⟩⟩; refine ⟨_, rfl, ?_⟩) | ((with_reducible refine gate_callee (f := 18) rfl ?_); refine goesL_ (some 68) rfl rfl Tryd.func18 (by kernel_rfl) rfl #[.string a0] rfl (by (try simp only [List.map_toArray, List.map_cons, List.map_nil]); first | done | rfl | (simp only [List.length_drop, List.length_take]; rfl)) ?_; (with_reducible refine (name_Check.calls a0 t223 _ ?side1 A60.out).mono ?_); (case side1 => first | exact hGL | exact GL.of_below hGL (by repeat (first | (with_reducible first | exact HB.out | apply below_alloc | apply pw_below_drewN | apply below_drew1) | exact HB.out))); rintro e w72 ⟨rfl, hb⟩; refine ⟨_, rfl, ?_⟩; have n0_ := Aside0.mk (below_step (by repeat (first | (with_reducible first | exact HB.out | apply below_alloc | apply pw_below_drewN | apply below_drew1) | exact HB.out)) hb); clear HB; have HB := n0_; clear n0_; (try clear hb); (try clear hb2); (try clear hk); (try clear hi)) | ((with_reducible refine gate_callee (f := 17) rfl ?_); refine goesL_ (some 69) rfl rfl Tryd.func17 (by kernel_rfl) rfl #[.int .i64 t223] rfl (by (try simp only [List.map_toArray, List.map_cons, List.map_nil]); first | done | rfl | (simp only [List.length_drop, List.length_take]; rfl)) ?_; (with_reducible refine (joustlaw06_num.calls t223 t224 _ ?side1 A61.out).mono ?_); (case side1 => first | exact hGL | exact GL.of_below hGL (by repeat (first | (with_reducible first | exact HB.out | apply below_alloc | apply pw_below_drewN | apply below_drew1) | exact HB.out))); rintro e w' ⟨rfl, ⟨nd, rfl⟩⟩; refine ⟨_, rfl, ?_⟩) | ((with_reducible refine gate_callee (f := 16) rfl ?_); refine goesL_ (some 76) rfl rfl Tryd.func16 (by kernel_rfl) rfl #[.string a0] rfl (by (try simp only [List.map_toArray, List.map_cons, List.map_nil]); first | done | rfl | (simp only [List.length_drop, List.length_take]; rfl)) ?_; (with_reducible refine (name_Runes.calls a0 t225 _ ?side1 A63.out).mono ?_); (case side1 => first | exact hGL | exact GL.of_below hGL (by repeat (first | (with_reducible first | exact HB.out | apply below_alloc | apply pw_below_drewN | apply below_drew1) | exact HB.out))); rintro e w73 ⟨rfl, hb⟩; refine ⟨_, rfl, ?_⟩; have n0_ := Aside0.mk (below_step (by repeat (first | (with_reducible first | exact HB.out | apply below_alloc | apply pw_below_drewN | apply below_drew1) | exact HB.out)) hb); clear HB; have HB := n0_; clear n0_; (try clear hb); (try clear hb2); (try clear hk); (try clear hi)))
                  go_ret
                  exact ⟨by first | rfl | (simp [errW_none, errW_some] <;> rfl) | (simp [*, errW_none, errW_some] <;> rfl), by repeat (first | (with_reducible first | exact HB.out | apply below_alloc | apply pw_below_drewN | apply below_drew1) | exact HB.out)⟩
              · rw [if_neg c64] at H
                have c64b0 : decide (1 ≤ t225) = false := decide_eq_false c64
                clear c64
                obtain rfl := Option.some.inj H
                go_wp2_with (first | ((with_reducible refine gate_callee (f := 18) rfl ?_); refine goesL_ (some 61) rfl rfl Tryd.func18 (by kernel_rfl) rfl #[.string a0] rfl (by (try simp only [List.map_toArray, List.map_cons, List.map_nil]); first | done | rfl | (simp only [List.length_drop, List.length_take]; rfl)) ?_; (with_reducible refine (name_Check.calls a0 t219 _ ?side1 A55.out).mono ?_); (case side1 => first | exact hGL | exact GL.of_below hGL (by repeat (first | (with_reducible first | exact HB.out | apply below_alloc | apply pw_below_drewN | apply below_drew1) | exact HB.out))); rintro e w74 ⟨rfl, hb⟩; refine ⟨_, rfl, ?_⟩; have n0_ := Aside0.mk (below_step (by repeat (first | (with_reducible first | exact HB.out | apply below_alloc | apply pw_below_drewN | apply below_drew1) | exact HB.out)) hb); clear HB; have HB := n0_; clear n0_; (try clear hb); (try clear hb2); (try clear hk); (try clear hi)) | ((with_reducible refine gate_callee (f := 17) rfl ?_); refine goesL_ (some 62) rfl rfl Tryd.func17 (by kernel_rfl) rfl #[.int .i64 t219] rfl (by (try simp only [List.map_toArray, List.map_cons, List.map_nil]); first | done | rfl | (simp only [List.length_drop, List.length_take]; rfl)) ?_; (with_reducible refine (joustlaw06_num.calls t219 t220 _ ?side1 A56.out).mono ?_); (case side1 => first | exact hGL | exact GL.of_below hGL (by repeat (first | (with_reducible first | exact HB.out | apply below_alloc | apply pw_below_drewN | apply below_drew1) | exact HB.out))); rintro e w' ⟨rfl, ⟨nd, rfl⟩⟩; refine ⟨_, rfl, ?_⟩) | ((with_reducible refine gate_callee (f := 18) rfl ?_); refine goesL_ (some 64) rfl rfl Tryd.func18 (by kernel_rfl) rfl #[.string t209] rfl (by (try simp only [List.map_toArray, List.map_cons, List.map_nil]); first | done | rfl | (simp only [List.length_drop, List.length_take]; rfl)) ?_; (with_reducible refine (name_Check.calls t209 t221 _ ?side1 A57.out).mono ?_); (case side1 => first | exact hGL | exact GL.of_below hGL (by repeat (first | (with_reducible first | exact HB.out | apply below_alloc | apply pw_below_drewN | apply below_drew1) | exact HB.out))); rintro e w75 ⟨rfl, hb⟩; refine ⟨_, rfl, ?_⟩; have n0_ := Aside0.mk (below_step (by repeat (first | (with_reducible first | exact HB.out | apply below_alloc | apply pw_below_drewN | apply below_drew1) | exact HB.out)) hb); clear HB; have HB := n0_; clear n0_; (try clear hb); (try clear hb2); (try clear hk); (try clear hi)) | ((with_reducible refine gate_callee (f := 17) rfl ?_); refine goesL_ (some 65) rfl rfl Tryd.func17 (by kernel_rfl) rfl #[.int .i64 t221] rfl (by (try simp only [List.map_toArray, List.map_cons, List.map_nil]); first | done | rfl | (simp only [List.length_drop, List.length_take]; rfl)) ?_; (with_reducible refine (joustlaw06_num.calls t221 t222 _ ?side1 A58.out).mono ?_); (case side1 => first | exact hGL | exact GL.of_below hGL (by repeat (first | (with_reducible first | exact HB.out | apply below_alloc | apply pw_below_drewN | apply below_drew1) | exact HB.out))); rintro e w' ⟨rfl, ⟨nd, rfl⟩⟩; refine ⟨_, rfl, ?_⟩) | ((with_reducible refine gate_callee (f := 18) rfl ?_); refine goesL_ (some 68) rfl rfl Tryd.func18 (by kernel_rfl) rfl #[.string a0] rfl (by (try simp only [List.map_toArray, List.map_cons, List.map_nil]); first | done | rfl | (simp only [List.length_drop, List.length_take]; rfl)) ?_; (with_reducible refine (name_Check.calls a0 t223 _ ?side1 A60.out).mono ?_); (case side1 => first | exact hGL | exact GL.of_below hGL (by repeat (first | (with_reducible first | exact HB.out | apply below_alloc | apply pw_below_drewN | apply below_drew1) | exact HB.out))); rintro e w76 ⟨rfl, hb⟩; refine ⟨_, rfl, ?_⟩; have n0_ := Aside0.mk (below_step (by repeat (first | (with_reducible first | exact HB.out | apply below_alloc | apply pw_below_drewN | apply below_drew1) | exact HB.out)) hb); clear HB; have HB := n0_; clear n0_; (try clear hb); (try clear hb2); (try clear hk); (try clear hi)) | ((with_reducible refine gate_callee (f := 17) rfl ?_); refine goesL_ (some 69) rfl rfl Tryd.func17 (by kernel_rfl) rfl #[.int .i64 t223] rfl (by (try simp only [List.map_toArray, List.map_cons, List.map_nil]); first | done | rfl | (simp only [List.length_drop, List.length_take]; rfl)) ?_; (with_reducible refine (joustlaw06_num.calls t223 t224 _ ?side1 A61.out).mono ?_); (case side1 => first | exact hGL | exact GL.of_below hGL (by repeat (first | (with_reducible first | exact HB.out | apply below_alloc | apply pw_below_drewN | apply below_drew1) | exact HB.out))); rintro e w' ⟨rfl, ⟨nd, rfl⟩⟩; refine ⟨_, rfl, ?_⟩) | ((with_reducible refine gate_callee (f := 16) rfl ?_); refine goesL_ (some 76) rfl rfl Tryd.func16 (by kernel_rfl) rfl #[.string a0] rfl (by (try simp only [List.map_toArray, List.map_cons, List.map_nil]); first | done | rfl | (simp only [List.length_drop, List.length_take]; rfl)) ?_; (with_reducible refine (name_Runes.calls a0 t225 _ ?side1 A63.out).mono ?_); (case side1 => first | exact hGL | exact GL.of_below hGL (by repeat (first | (with_reducible first | exact HB.out | apply below_alloc | apply pw_below_drewN | apply below_drew1) | exact HB.out))); rintro e w77 ⟨rfl, hb⟩; refine ⟨_, rfl, ?_⟩; have n0_ := Aside0.mk (below_step (by repeat (first | (with_reducible first | exact HB.out | apply below_alloc | apply pw_below_drewN | apply below_drew1) | exact HB.out)) hb); clear HB; have HB := n0_; clear n0_; (try clear hb); (try clear hb2); (try clear hk); (try clear hi)))
                go_ret
                exact ⟨by first | rfl | (simp [errW_none, errW_some] <;> rfl) | (simp [*, errW_none, errW_some] <;> rfl), by repeat (first | (with_reducible first | exact HB.out | apply below_alloc | apply pw_below_drewN | apply below_drew1) | exact HB.out)⟩
            · rw [if_neg c62] at H
              have c62b0 : (t224 == 0) = false := beq_eq_false_iff_ne.mpr c62
              have c62b1 : (t224 != 0) = true := bne_iff_ne.mpr c62
              replace H := Option.bind_eq_some_iff.mp H
              obtain ⟨t226, A780, H⟩ := H
              replace H : ((joustlaw06_num.f t226).bind fun t227 => (some (t227 == 60))) = some r := H
              have A78 := Aside0.mk A780
              clear A780
              replace H := Option.bind_eq_some_iff.mp H
              obtain ⟨t227, A790, H⟩ := H
              replace H : (some (t227 == 60)) = some r := H
              have A79 := Aside0.mk A790
              clear A790
              obtain rfl := Option.some.inj H
              go_wp2_with (first | ((with_reducible refine gate_callee (f := 18) rfl ?_); refine goesL_ (some 61) rfl rfl Tryd.func18 (by kernel_rfl) rfl #[.string a0] rfl (by (try simp only [List.map_toArray, List.map_cons, List.map_nil]); first | done | rfl | (simp only [List.length_drop, List.length_take]; rfl)) ?_; (with_reducible refine (name_Check.calls a0 t219 _ ?side1 A55.out).mono ?_); (case side1 => first | exact hGL | exact GL.of_below hGL (by repeat (first | (with_reducible first | exact HB.out | apply below_alloc | apply pw_below_drewN | apply below_drew1) | exact HB.out))); rintro e w80 ⟨rfl, hb⟩; refine ⟨_, rfl, ?_⟩; have n0_ := Aside0.mk (below_step (by repeat (first | (with_reducible first | exact HB.out | apply below_alloc | apply pw_below_drewN | apply below_drew1) | exact HB.out)) hb); clear HB; have HB := n0_; clear n0_; (try clear hb); (try clear hb2); (try clear hk); (try clear hi)) | ((with_reducible refine gate_callee (f := 17) rfl ?_); refine goesL_ (some 62) rfl rfl Tryd.func17 (by kernel_rfl) rfl #[.int .i64 t219] rfl (by (try simp only [List.map_toArray, List.map_cons, List.map_nil]); first | done | rfl | (simp only [List.length_drop, List.length_take]; rfl)) ?_; (with_reducible refine (joustlaw06_num.calls t219 t220 _ ?side1 A56.out).mono ?_); (case side1 => first | exact hGL | exact GL.of_below hGL (by repeat (first | (with_reducible first | exact HB.out | apply below_alloc | apply pw_below_drewN | apply below_drew1) | exact HB.out))); rintro e w' ⟨rfl, ⟨nd, rfl⟩⟩; refine ⟨_, rfl, ?_⟩) | ((with_reducible refine gate_callee (f := 18) rfl ?_); refine goesL_ (some 64) rfl rfl Tryd.func18 (by kernel_rfl) rfl #[.string t209] rfl (by (try simp only [List.map_toArray, List.map_cons, List.map_nil]); first | done | rfl | (simp only [List.length_drop, List.length_take]; rfl)) ?_; (with_reducible refine (name_Check.calls t209 t221 _ ?side1 A57.out).mono ?_); (case side1 => first | exact hGL | exact GL.of_below hGL (by repeat (first | (with_reducible first | exact HB.out | apply below_alloc | apply pw_below_drewN | apply below_drew1) | exact HB.out))); rintro e w81 ⟨rfl, hb⟩; refine ⟨_, rfl, ?_⟩; have n0_ := Aside0.mk (below_step (by repeat (first | (with_reducible first | exact HB.out | apply below_alloc | apply pw_below_drewN | apply below_drew1) | exact HB.out)) hb); clear HB; have HB := n0_; clear n0_; (try clear hb); (try clear hb2); (try clear hk); (try clear hi)) | ((with_reducible refine gate_callee (f := 17) rfl ?_); refine goesL_ (some 65) rfl rfl Tryd.func17 (by kernel_rfl) rfl #[.int .i64 t221] rfl (by (try simp only [List.map_toArray, List.map_cons, List.map_nil]); first | done | rfl | (simp only [List.length_drop, List.length_take]; rfl)) ?_; (with_reducible refine (joustlaw06_num.calls t221 t222 _ ?side1 A58.out).mono ?_); (case side1 => first | exact hGL | exact GL.of_below hGL (by repeat (first | (with_reducible first | exact HB.out | apply below_alloc | apply pw_below_drewN | apply below_drew1) | exact HB.out))); rintro e w' ⟨rfl, ⟨nd, rfl⟩⟩; refine ⟨_, rfl, ?_⟩) | ((with_reducible refine gate_callee (f := 18) rfl ?_); refine goesL_ (some 68) rfl rfl Tryd.func18 (by kernel_rfl) rfl #[.string a0] rfl (by (try simp only [List.map_toArray, List.map_cons, List.map_nil]); first | done | rfl | (simp only [List.length_drop, List.length_take]; rfl)) ?_; (with_reducible refine (name_Check.calls a0 t223 _ ?side1 A60.out).mono ?_); (case side1 => first | exact hGL | exact GL.of_below hGL (by repeat (first | (with_reducible first | exact HB.out | apply below_alloc | apply pw_below_drewN | apply below_drew1) | exact HB.out))); rintro e w82 ⟨rfl, hb⟩; refine ⟨_, rfl, ?_⟩; have n0_ := Aside0.mk (below_step (by repeat (first | (with_reducible first | exact HB.out | apply below_alloc | apply pw_below_drewN | apply below_drew1) | exact HB.out)) hb); clear HB; have HB := n0_; clear n0_; (try clear hb); (try clear hb2); (try clear hk); (try clear hi)) | ((with_reducible refine gate_callee (f := 17) rfl ?_); refine goesL_ (some 69) rfl rfl Tryd.func17 (by kernel_rfl) rfl #[.int .i64 t223] rfl (by (try simp only [List.map_toArray, List.map_cons, List.map_nil]); first | done | rfl | (simp only [List.length_drop, List.length_take]; rfl)) ?_; (with_reducible refine (joustlaw06_num.calls t223 t224 _ ?side1 A61.out).mono ?_); (case side1 => first | exact hGL | exact GL.of_below hGL (by repeat (first | (with_reducible first | exact HB.out | apply below_alloc | apply pw_below_drewN | apply below_drew1) | exact HB.out))); rintro e w' ⟨rfl, ⟨nd, rfl⟩⟩; refine ⟨_, rfl, ?_⟩) | ((with_reducible refine gate_callee (f := 18) rfl ?_); refine goesL_ (some 72) rfl rfl Tryd.func18 (by kernel_rfl) rfl #[.string a0] rfl (by (try simp only [List.map_toArray, List.map_cons, List.map_nil]); first | done | rfl | (simp only [List.length_drop, List.length_take]; rfl)) ?_; (with_reducible refine (name_Check.calls a0 t226 _ ?side1 A78.out).mono ?_); (case side1 => first | exact hGL | exact GL.of_below hGL (by repeat (first | (with_reducible first | exact HB.out | apply below_alloc | apply pw_below_drewN | apply below_drew1) | exact HB.out))); rintro e w83 ⟨rfl, hb⟩; refine ⟨_, rfl, ?_⟩; have n0_ := Aside0.mk (below_step (by repeat (first | (with_reducible first | exact HB.out | apply below_alloc | apply pw_below_drewN | apply below_drew1) | exact HB.out)) hb); clear HB; have HB := n0_; clear n0_; (try clear hb); (try clear hb2); (try clear hk); (try clear hi)) | ((with_reducible refine gate_callee (f := 17) rfl ?_); refine goesL_ (some 73) rfl rfl Tryd.func17 (by kernel_rfl) rfl #[.int .i64 t226] rfl (by (try simp only [List.map_toArray, List.map_cons, List.map_nil]); first | done | rfl | (simp only [List.length_drop, List.length_take]; rfl)) ?_; (with_reducible refine (joustlaw06_num.calls t226 t227 _ ?side1 A79.out).mono ?_); (case side1 => first | exact hGL | exact GL.of_below hGL (by repeat (first | (with_reducible first | exact HB.out | apply below_alloc | apply pw_below_drewN | apply below_drew1) | exact HB.out))); rintro e w' ⟨rfl, ⟨nd, rfl⟩⟩; refine ⟨_, rfl, ?_⟩))
              go_ret
              exact ⟨by first | rfl | (simp [errW_none, errW_some] <;> rfl) | (simp [*, errW_none, errW_some] <;> rfl), by repeat (first | (with_reducible first | exact HB.out | apply below_alloc | apply pw_below_drewN | apply below_drew1) | exact HB.out)⟩
          · rw [if_neg c59] at H
            have c59b0 : (t220 == t222) = false := beq_eq_false_iff_ne.mpr c59
            have c59b1 : (t220 != t222) = true := bne_iff_ne.mpr c59
            obtain rfl := Option.some.inj H
            go_wp2_with (first | ((with_reducible refine gate_callee (f := 18) rfl ?_); refine goesL_ (some 61) rfl rfl Tryd.func18 (by kernel_rfl) rfl #[.string a0] rfl (by (try simp only [List.map_toArray, List.map_cons, List.map_nil]); first | done | rfl | (simp only [List.length_drop, List.length_take]; rfl)) ?_; (with_reducible refine (name_Check.calls a0 t219 _ ?side1 A55.out).mono ?_); (case side1 => first | exact hGL | exact GL.of_below hGL (by repeat (first | (with_reducible first | exact HB.out | apply below_alloc | apply pw_below_drewN | apply below_drew1) | exact HB.out))); rintro e w84 ⟨rfl, hb⟩; refine ⟨_, rfl, ?_⟩; have n0_ := Aside0.mk (below_step (by repeat (first | (with_reducible first | exact HB.out | apply below_alloc | apply pw_below_drewN | apply below_drew1) | exact HB.out)) hb); clear HB; have HB := n0_; clear n0_; (try clear hb); (try clear hb2); (try clear hk); (try clear hi)) | ((with_reducible refine gate_callee (f := 17) rfl ?_); refine goesL_ (some 62) rfl rfl Tryd.func17 (by kernel_rfl) rfl #[.int .i64 t219] rfl (by (try simp only [List.map_toArray, List.map_cons, List.map_nil]); first | done | rfl | (simp only [List.length_drop, List.length_take]; rfl)) ?_; (with_reducible refine (joustlaw06_num.calls t219 t220 _ ?side1 A56.out).mono ?_); (case side1 => first | exact hGL | exact GL.of_below hGL (by repeat (first | (with_reducible first | exact HB.out | apply below_alloc | apply pw_below_drewN | apply below_drew1) | exact HB.out))); rintro e w' ⟨rfl, ⟨nd, rfl⟩⟩; refine ⟨_, rfl, ?_⟩) | ((with_reducible refine gate_callee (f := 18) rfl ?_); refine goesL_ (some 64) rfl rfl Tryd.func18 (by kernel_rfl) rfl #[.string t209] rfl (by (try simp only [List.map_toArray, List.map_cons, List.map_nil]); first | done | rfl | (simp only [List.length_drop, List.length_take]; rfl)) ?_; (with_reducible refine (name_Check.calls t209 t221 _ ?side1 A57.out).mono ?_); (case side1 => first | exact hGL | exact GL.of_below hGL (by repeat (first | (with_reducible first | exact HB.out | apply below_alloc | apply pw_below_drewN | apply below_drew1) | exact HB.out))); rintro e w85 ⟨rfl, hb⟩; refine ⟨_, rfl, ?_⟩; have n0_ := Aside0.mk (below_step (by repeat (first | (with_reducible first | exact HB.out | apply below_alloc | apply pw_below_drewN | apply below_drew1) | exact HB.out)) hb); clear HB; have HB := n0_; clear n0_; (try clear hb); (try clear hb2); (try clear hk); (try clear hi)) | ((with_reducible refine gate_callee (f := 17) rfl ?_); refine goesL_ (some 65) rfl rfl Tryd.func17 (by kernel_rfl) rfl #[.int .i64 t221] rfl (by (try simp only [List.map_toArray, List.map_cons, List.map_nil]); first | done | rfl | (simp only [List.length_drop, List.length_take]; rfl)) ?_; (with_reducible refine (joustlaw06_num.calls t221 t222 _ ?side1 A58.out).mono ?_); (case side1 => first | exact hGL | exact GL.of_below hGL (by repeat (first | (with_reducible first | exact HB.out | apply below_alloc | apply pw_below_drewN | apply below_drew1) | exact HB.out))); rintro e w' ⟨rfl, ⟨nd, rfl⟩⟩; refine ⟨_, rfl, ?_⟩))
            go_ret
            exact ⟨by first | rfl | (simp [errW_none, errW_some] <;> rfl) | (simp [*, errW_none, errW_some] <;> rfl), by repeat (first | (with_reducible first | exact HB.out | apply below_alloc | apply pw_below_drewN | apply below_drew1) | exact HB.out)⟩
  · replace c4 := Bool.eq_false_iff.mpr c4
    subst c4
    have H1 : (some false) = some r := by rw [if_neg (show ¬ (false = true) by decide)] at H; exact H
    clear H
    have H := H1
    clear H1
    obtain rfl := Option.some.inj H
    go_enter Tryd.func4, Tryd.ntmps4
    go_wp2_with (first | ((with_reducible refine gate_callee (f := 9) rfl ?_); refine goesL_ (some 7) rfl rfl Tryd.func9 (by kernel_rfl) rfl #[] rfl (by (try simp only [List.map_toArray, List.map_cons, List.map_nil]); first | done | rfl | (simp only [List.length_drop, List.length_take]; rfl)) ?_; (with_reducible refine (joustlaw06_alive.calls  false _ ?side1 A3.out).mono ?_); (case side1 => first | exact hGL | exact GL.of_below hGL (by repeat (first | (with_reducible first | exact HB.out | apply below_alloc | apply pw_below_drewN | apply below_drew1) | exact HB.out))); rintro e w86 ⟨rfl, hb⟩; refine ⟨_, rfl, ?_⟩; have n0_ := Aside0.mk (below_step (by repeat (first | (with_reducible first | exact HB.out | apply below_alloc | apply pw_below_drewN | apply below_drew1) | exact HB.out)) hb); clear HB; have HB := n0_; clear n0_; (try clear hb); (try clear hb2); (try clear hk); (try clear hi)))
    go_ret
    exact ⟨by first | rfl | (simp [errW_none, errW_some] <;> rfl) | (simp [*, errW_none, errW_some] <;> rfl), by repeat (first | (with_reducible first | exact HB.out | apply below_alloc | apply pw_below_drewN | apply below_drew1) | exact HB.out)⟩

end Go.Proofs.YtlmbkliieckakaaDoor.QA
