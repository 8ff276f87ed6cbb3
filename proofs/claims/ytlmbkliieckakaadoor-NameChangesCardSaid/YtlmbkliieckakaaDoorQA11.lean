-- Written by pp.py, a program of this session's, over the kit's printer.
import Derived.Test.YtlmbkliieckakaaDoorQA0
import Derived.Test.YtlmbkliieckakaaDoorQA1
import Derived.Test.YtlmbkliieckakaaDoorQA10
namespace Go.Proofs.YtlmbkliieckakaaDoor.QA
open Go.Proofs.YtlmbkliieckakaaDoor.Nm Go.RowKit Go.Proofs.YtlmbkliieckakaaDoorW.PrintWords Go.Proofs.YtlmbkliieckakaaDoorW.PrintLast Go.Proofs.YtlmbkliieckakaaDoorW.PrintMore
attribute [local go_sem] max2_int min2_int max_two min_two max_three min_three max_four min_four   -- for this text's walks alone
set_option linter.unusedVariables false
set_option linter.unusedSimpArgs false

/-! ### joustlaw06_NameChanges: function 7 -/
mutual
def joustlaw06_NameChanges.j0 : Nat → ByteArray → List Int → Int → Bool → Option (Bool)
  | 0, _, _, _, _ => none
  | k + 1, x0, x1, x2, x26 => if x26 = true then ((joustlaw06_alive.f).bind fun t258 => (some t258)) else (joustlaw06_NameChanges.l0 k x0 x1 x2 ([] : List Int) 0)
def joustlaw06_NameChanges.l0 : Nat → ByteArray → List Int → Int → List Int → Int → Option (Bool)
  | 0, _, _, _, _, _ => none
  | k + 1, x0, x1, x2, x7, x8 => if x8 < (x0.size : Int) then (if 0 ≤ x8 then (if x7.length < 140737488355328 then (joustlaw06_NameChanges.l0 k x0 x1 x2 (x7 ++ [Go.bits .and .u8 (bt x0 x8) 127]) (wrap64 (x8 + 1))) else (none)) else (none)) else (joustlaw06_NameChanges.l1 k x1 x7 (strOfNums x7) (Go.bits .and .u8 x2 127) 0)
def joustlaw06_NameChanges.l1 : Nat → List Int → List Int → ByteArray → Int → Int → Option (Bool)
  | 0, _, _, _, _, _ => none
  | k + 1, x1, x7, x9, x10, x11 => if x11 < (x1.length : Int) then (if 0 ≤ x11 then (if (wrap64 ((x7.length : Int) + 1)) = 0 then (none) else (if (Int.tmod (rd x1 x11) (wrap64 ((x7.length : Int) + 1))) < 0 then (joustlaw06_NameChanges.j3 k x1 x7 x9 x10 x11 (wrap64 (-(Int.tmod (rd x1 x11) (wrap64 ((x7.length : Int) + 1)))))) else (joustlaw06_NameChanges.j3 k x1 x7 x9 x10 x11 (Int.tmod (rd x1 x11) (wrap64 ((x7.length : Int) + 1)))))) else (none)) else ((name_Near.f x9 (strOfNums x7)).bind fun t262 => ((joustlaw06_less.f (x1.length : Int)).bind fun t263 => (if t262 ≤ t263 then (if (x1.length : Int) = 1 then (some (t262 == 1)) else (some true)) else (some false))))
def joustlaw06_NameChanges.j3 : Nat → List Int → List Int → ByteArray → Int → Int → Int → Option (Bool)
  | 0, _, _, _, _, _, _ => none
  | k + 1, x1, x7, x9, x10, x11, x12 => if 0 ≤ x12 then (if x12 ≤ (x7.length : Int) then ((some (x7.take (x12 : Int).toNat : List Int)).bind fun y265 => (if ([] : List Int).length + y265.length < 140737488355328 then ((some (([] : List Int) ++ y265 : List Int)).bind fun y269 => (if (Int.tmod x11 3) = 0 then (joustlaw06_NameChanges.j4 k x1 x7 x9 x10 x11 x12 y269 true) else (joustlaw06_NameChanges.j4 k x1 x7 x9 x10 x11 x12 y269 (x12 == (x7.length : Int))))) else (none))) else (none)) else (none)
def joustlaw06_NameChanges.j4 : Nat → List Int → List Int → ByteArray → Int → Int → Int → List Int → Bool → Option (Bool)
  | 0, _, _, _, _, _, _, _, _ => none
  | k + 1, x1, x7, x9, x10, x11, x12, x13, x78 => if x78 = true then (if x13.length < 140737488355328 then ((some (x13 ++ [x10] : List Int)).bind fun y272 => (if 0 ≤ x12 then (if x12 ≤ (x7.length : Int) then ((some (x7.drop (x12 : Int).toNat : List Int)).bind fun y275 => (if y272.length + y275.length < 140737488355328 then (joustlaw06_NameChanges.l1 k x1 (y272 ++ y275) x9 x10 (wrap64 (x11 + 1))) else (none))) else (none)) else (none))) else (none)) else (if (Int.tmod x11 3) = 1 then (if 0 ≤ (wrap64 (x12 + 1)) then (if (wrap64 (x12 + 1)) ≤ (x7.length : Int) then ((some (x7.drop ((wrap64 (x12 + 1)) : Int).toNat : List Int)).bind fun y282 => (if x13.length + y282.length < 140737488355328 then (joustlaw06_NameChanges.l1 k x1 (x13 ++ y282) x9 x10 (wrap64 (x11 + 1))) else (none))) else (none)) else (none)) else (if x13.length < 140737488355328 then ((some (x13 ++ [x10] : List Int)).bind fun y289 => (if 0 ≤ (wrap64 (x12 + 1)) then (if (wrap64 (x12 + 1)) ≤ (x7.length : Int) then ((some (x7.drop ((wrap64 (x12 + 1)) : Int).toNat : List Int)).bind fun y292 => (if y289.length + y292.length < 140737488355328 then (joustlaw06_NameChanges.l1 k x1 (y289 ++ y292) x9 x10 (wrap64 (x11 + 1))) else (none))) else (none)) else (none))) else (none)))
end
def joustlaw06_NameChanges.f (k : Nat) (a0 : ByteArray) (l1 : List Int) (a2 : Int) : Option (Bool) := (joustlaw06_alive.f).bind fun t257 => (if t257 = true then (if (a0.size : Int) > 3000 then (joustlaw06_NameChanges.j0 k a0 l1 a2 true) else (joustlaw06_NameChanges.j0 k a0 l1 a2 (decide ((l1.length : Int) > 100)))) else (joustlaw06_NameChanges.j0 k a0 l1 a2 true))
theorem joustlaw06_NameChanges.mono_l : ∀ k, (∀ y0 y1 y2 y3, LeO (joustlaw06_NameChanges.j0 k y0 y1 y2 y3) (joustlaw06_NameChanges.j0 (k + 1) y0 y1 y2 y3)) ∧ (∀ y0 y1 y2 y3 y4, LeO (joustlaw06_NameChanges.l0 k y0 y1 y2 y3 y4) (joustlaw06_NameChanges.l0 (k + 1) y0 y1 y2 y3 y4)) ∧ (∀ y0 y1 y2 y3 y4, LeO (joustlaw06_NameChanges.l1 k y0 y1 y2 y3 y4) (joustlaw06_NameChanges.l1 (k + 1) y0 y1 y2 y3 y4)) ∧ (∀ y0 y1 y2 y3 y4 y5, LeO (joustlaw06_NameChanges.j3 k y0 y1 y2 y3 y4 y5) (joustlaw06_NameChanges.j3 (k + 1) y0 y1 y2 y3 y4 y5)) ∧ (∀ y0 y1 y2 y3 y4 y5 y6 y7, LeO (joustlaw06_NameChanges.j4 k y0 y1 y2 y3 y4 y5 y6 y7) (joustlaw06_NameChanges.j4 (k + 1) y0 y1 y2 y3 y4 y5 y6 y7))
  | 0 => ⟨fun _ _ _ _ r h => by simp [joustlaw06_NameChanges.j0] at h, fun _ _ _ _ _ r h => by simp [joustlaw06_NameChanges.l0] at h, fun _ _ _ _ _ r h => by simp [joustlaw06_NameChanges.l1] at h, fun _ _ _ _ _ _ r h => by simp [joustlaw06_NameChanges.j3] at h, fun _ _ _ _ _ _ _ _ r h => by simp [joustlaw06_NameChanges.j4] at h⟩
  | k + 1 => by
    obtain ⟨ih0, ih1, ih2, ih3, ih4⟩ := joustlaw06_NameChanges.mono_l k
    refine ⟨?_, ?_, ?_, ?_, ?_⟩
    · intro y0 y1 y2 y3
      unfold joustlaw06_NameChanges.j0
      repeat' first
      | (with_reducible exact ih0 _ _ _ _)
      | (with_reducible exact ih1 _ _ _ _ _)
      | (with_reducible exact ih2 _ _ _ _ _)
      | (with_reducible exact ih3 _ _ _ _ _ _)
      | (with_reducible exact ih4 _ _ _ _ _ _ _ _)
      | (with_reducible exact LeO.refl _)
      | (with_reducible exact LeO.none _)
      | (with_reducible refine LeO.ite ?_ ?_)
      | (with_reducible refine LeO.bind ?_ (fun _ => ?_))
      | exact ih0 _ _ _ _
      | exact ih1 _ _ _ _ _
      | exact ih2 _ _ _ _ _
      | exact ih3 _ _ _ _ _ _
      | exact ih4 _ _ _ _ _ _ _ _
      | exact LeO.none _
      | refine LeO.ite ?_ ?_
      | refine LeO.bind ?_ (fun _ => ?_)
    · intro y0 y1 y2 y3 y4
      unfold joustlaw06_NameChanges.l0
      repeat' first
      | (with_reducible exact ih0 _ _ _ _)
      | (with_reducible exact ih1 _ _ _ _ _)
      | (with_reducible exact ih2 _ _ _ _ _)
      | (with_reducible exact ih3 _ _ _ _ _ _)
      | (with_reducible exact ih4 _ _ _ _ _ _ _ _)
      | (with_reducible exact LeO.refl _)
      | (with_reducible exact LeO.none _)
      | (with_reducible refine LeO.ite ?_ ?_)
      | (with_reducible refine LeO.bind ?_ (fun _ => ?_))
      | exact ih0 _ _ _ _
      | exact ih1 _ _ _ _ _
      | exact ih2 _ _ _ _ _
      | exact ih3 _ _ _ _ _ _
      | exact ih4 _ _ _ _ _ _ _ _
      | exact LeO.none _
      | refine LeO.ite ?_ ?_
      | refine LeO.bind ?_ (fun _ => ?_)
    · intro y0 y1 y2 y3 y4
      unfold joustlaw06_NameChanges.l1
      repeat' first
      | (with_reducible exact ih0 _ _ _ _)
      | (with_reducible exact ih1 _ _ _ _ _)
      | (with_reducible exact ih2 _ _ _ _ _)
      | (with_reducible exact ih3 _ _ _ _ _ _)
      | (with_reducible exact ih4 _ _ _ _ _ _ _ _)
      | (with_reducible exact LeO.refl _)
      | (with_reducible exact LeO.none _)
      | (with_reducible refine LeO.ite ?_ ?_)
      | (with_reducible refine LeO.bind ?_ (fun _ => ?_))
      | exact ih0 _ _ _ _
      | exact ih1 _ _ _ _ _
      | exact ih2 _ _ _ _ _
      | exact ih3 _ _ _ _ _ _
      | exact ih4 _ _ _ _ _ _ _ _
      | exact LeO.none _
      | refine LeO.ite ?_ ?_
      | refine LeO.bind ?_ (fun _ => ?_)
    · intro y0 y1 y2 y3 y4 y5
      unfold joustlaw06_NameChanges.j3
      repeat' first
      | (with_reducible exact ih0 _ _ _ _)
      | (with_reducible exact ih1 _ _ _ _ _)
      | (with_reducible exact ih2 _ _ _ _ _)
      | (with_reducible exact ih3 _ _ _ _ _ _)
      | (with_reducible exact ih4 _ _ _ _ _ _ _ _)
      | (with_reducible exact LeO.refl _)
      | (with_reducible exact LeO.none _)
      | (with_reducible refine LeO.ite ?_ ?_)
      | (with_reducible refine LeO.bind ?_ (fun _ => ?_))
      | exact ih0 _ _ _ _
      | exact ih1 _ _ _ _ _
      | exact ih2 _ _ _ _ _
      | exact ih3 _ _ _ _ _ _
      | exact ih4 _ _ _ _ _ _ _ _
      | exact LeO.none _
      | refine LeO.ite ?_ ?_
      | refine LeO.bind ?_ (fun _ => ?_)
    · intro y0 y1 y2 y3 y4 y5 y6 y7
      unfold joustlaw06_NameChanges.j4
      repeat' first
      | (with_reducible exact ih0 _ _ _ _)
      | (with_reducible exact ih1 _ _ _ _ _)
      | (with_reducible exact ih2 _ _ _ _ _)
      | (with_reducible exact ih3 _ _ _ _ _ _)
      | (with_reducible exact ih4 _ _ _ _ _ _ _ _)
      | (with_reducible exact LeO.refl _)
      | (with_reducible exact LeO.none _)
      | (with_reducible refine LeO.ite ?_ ?_)
      | (with_reducible refine LeO.bind ?_ (fun _ => ?_))
      | exact ih0 _ _ _ _
      | exact ih1 _ _ _ _ _
      | exact ih2 _ _ _ _ _
      | exact ih3 _ _ _ _ _ _
      | exact ih4 _ _ _ _ _ _ _ _
      | exact LeO.none _
      | refine LeO.ite ?_ ?_
      | refine LeO.bind ?_ (fun _ => ?_)
theorem joustlaw06_NameChanges.mono : ∀ a0 a1 a2 k, LeO (joustlaw06_NameChanges.f k a0 a1 a2) (joustlaw06_NameChanges.f (k + 1) a0 a1 a2) := by
  intro a0 a1 a2 k
  obtain ⟨ih0, ih1, ih2, ih3, ih4⟩ := joustlaw06_NameChanges.mono_l k
  unfold joustlaw06_NameChanges.f
  repeat' first
      | (with_reducible exact ih0 _ _ _ _)
      | (with_reducible exact ih1 _ _ _ _ _)
      | (with_reducible exact ih2 _ _ _ _ _)
      | (with_reducible exact ih3 _ _ _ _ _ _)
      | (with_reducible exact ih4 _ _ _ _ _ _ _ _)
      | (with_reducible exact LeO.refl _)
      | (with_reducible exact LeO.none _)
      | (with_reducible refine LeO.ite ?_ ?_)
      | (with_reducible refine LeO.bind ?_ (fun _ => ?_))
      | exact ih0 _ _ _ _
      | exact ih1 _ _ _ _ _
      | exact ih2 _ _ _ _ _
      | exact ih3 _ _ _ _ _ _
      | exact ih4 _ _ _ _ _ _ _ _
      | exact LeO.none _
      | refine LeO.ite ?_ ?_
      | refine LeO.bind ?_ (fun _ => ?_)
set_option maxHeartbeats 8000000 in
set_option maxRecDepth 100000 in
theorem joustlaw06_NameChanges.calls (k : Nat) (a0 : ByteArray) (A1 : Option Addr) (c1 : Nat) (l1 : List Int) (a2 : Int) (r : Bool) (w : World) (hGL : GL w) (hr1 : Kd.C (Kd.int .i64) w A1 l1.length l1) (hc1 : l1.length ≤ c1) (h : joustlaw06_NameChanges.f k a0 l1 a2 = some r) :
    Calls Tryd.prog 7 #[.string a0, .slice A1 l1.length c1, .int .u8 a2] w fun e w' => e = .returned (.bool r) ∧ Below w.heap.size w w' := by
  have HR1 := Aside0.mk hr1
  have HC1 := Aside0.mk hc1
  clear hr1 hc1
  have HB := Aside0.mk (Below.refl w.heap.size w)
  have H : ((joustlaw06_alive.f).bind fun t257 => (if t257 = true then (if (a0.size : Int) > 3000 then (joustlaw06_NameChanges.j0 k a0 l1 a2 true) else (joustlaw06_NameChanges.j0 k a0 l1 a2 (decide ((l1.length : Int) > 100)))) else (joustlaw06_NameChanges.j0 k a0 l1 a2 true))) = some r := h
  clear h
  have HC4 := Aside0.mk H
  clear H
  go_enter Tryd.func7, Tryd.ntmps7
  go_upto_region 1 with (fail)
  go_cut [26] (fun v26 wc => ∃ (kq : Nat) (x26_3 : Bool), v26 = .bool x26_3 ∧ Aside0 (joustlaw06_NameChanges.j0 kq a0 l1 a2 x26_3 = some r) ∧ Aside0 (kq ≤ k) ∧ Aside0 (Below w.heap.size w wc))
  case first =>
    have H := HC4.out
    clear HC4
    replace H := Option.bind_eq_some_iff.mp H
    obtain ⟨t257, A50, H⟩ := H
    replace H : (if t257 = true then (if (a0.size : Int) > 3000 then (joustlaw06_NameChanges.j0 k a0 l1 a2 true) else (joustlaw06_NameChanges.j0 k a0 l1 a2 (decide ((l1.length : Int) > 100)))) else (joustlaw06_NameChanges.j0 k a0 l1 a2 true)) = some r := H
    have A5 := Aside0.mk A50
    clear A50
    by_cases c6 : t257 = true
    · subst c6
      have H1 : (if (a0.size : Int) > 3000 then (joustlaw06_NameChanges.j0 k a0 l1 a2 true) else (joustlaw06_NameChanges.j0 k a0 l1 a2 (decide ((l1.length : Int) > 100)))) = some r := by rw [if_pos rfl] at H; exact H
      clear H
      have H := H1
      clear H1
      by_cases c7 : (a0.size : Int) > 3000
      · rw [if_pos c7] at H
        have c7b0 : decide (3000 < (a0.size : Int)) = true := decide_eq_true c7
        have c7b1 : decide (3000 < a0.size) = true := decide_eq_true (by omega)
        clear c7
        (first | rw [c7b0] | (simp only [i64_w, i32_w]; rw [c7b0]) | skip)
        have H' := Aside0.mk H
        clear H
        go_wp2_with (first | ((with_reducible refine gate_callee (f := 9) rfl ?_); refine goesL_ (some 15) rfl rfl Tryd.func9 (by kernel_rfl) rfl #[] rfl (by (try simp only [List.map_toArray, List.map_cons, List.map_nil]); first | done | rfl | (simp only [List.length_drop, List.length_take]; rfl)) ?_; (with_reducible refine (joustlaw06_alive.calls  true _ ?side1 A5.out).mono ?_); (case side1 => first | exact hGL | exact GL.of_below hGL (by repeat (first | (with_reducible first | exact HB.out | apply below_alloc | apply pw_below_drewN | apply below_drew1) | exact HB.out))); rintro e w8 ⟨rfl, hb⟩; refine ⟨_, rfl, ?_⟩; have n0_ := Aside0.mk (below_step (by repeat (first | (with_reducible first | exact HB.out | apply below_alloc | apply pw_below_drewN | apply below_drew1) | exact HB.out)) hb); clear HB; have HB := n0_; clear n0_; (try clear hb); (try clear hb2); (try clear hk); (try clear hi)))
        go_meet
        case rel => exact ⟨_, (true), (by first | rfl | (simp; done) | (simp [*]; done) | (simp [bne]; done) | (simp [*, bne]; done)), H', ⟨by first | omega | exact Nat.le_refl _⟩, ⟨by repeat (first | (with_reducible first | exact HB.out | apply below_alloc | apply pw_below_drewN | apply below_drew1) | exact HB.out)⟩⟩
      · rw [if_neg c7] at H
        have c7b0 : decide (3000 < (a0.size : Int)) = false := decide_eq_false c7
        have c7b1 : decide (3000 < a0.size) = false := decide_eq_false (by omega)
        clear c7
        (first | rw [c7b0] | (simp only [i64_w, i32_w]; rw [c7b0]) | skip)
        have H' := Aside0.mk H
        clear H
        go_wp2_with (first | ((with_reducible refine gate_callee (f := 9) rfl ?_); refine goesL_ (some 15) rfl rfl Tryd.func9 (by kernel_rfl) rfl #[] rfl (by (try simp only [List.map_toArray, List.map_cons, List.map_nil]); first | done | rfl | (simp only [List.length_drop, List.length_take]; rfl)) ?_; (with_reducible refine (joustlaw06_alive.calls  true _ ?side1 A5.out).mono ?_); (case side1 => first | exact hGL | exact GL.of_below hGL (by repeat (first | (with_reducible first | exact HB.out | apply below_alloc | apply pw_below_drewN | apply below_drew1) | exact HB.out))); rintro e w9 ⟨rfl, hb⟩; refine ⟨_, rfl, ?_⟩; have n0_ := Aside0.mk (below_step (by repeat (first | (with_reducible first | exact HB.out | apply below_alloc | apply pw_below_drewN | apply below_drew1) | exact HB.out)) hb); clear HB; have HB := n0_; clear n0_; (try clear hb); (try clear hb2); (try clear hk); (try clear hi)))
        go_meet
        case rel => exact ⟨_, (decide ((l1.length : Int) > 100)), (by first | rfl | (simp; done) | (simp [*]; done) | (simp [bne]; done) | (simp [*, bne]; done)), H', ⟨by first | omega | exact Nat.le_refl _⟩, ⟨by repeat (first | (with_reducible first | exact HB.out | apply below_alloc | apply pw_below_drewN | apply below_drew1) | exact HB.out)⟩⟩
    · replace c6 := Bool.eq_false_iff.mpr c6
      subst c6
      have H1 : (joustlaw06_NameChanges.j0 k a0 l1 a2 true) = some r := by rw [if_neg (show ¬ (false = true) by decide)] at H; exact H
      clear H
      have H := H1
      clear H1
      have H' := Aside0.mk H
      clear H
      go_wp2_with (first | ((with_reducible refine gate_callee (f := 9) rfl ?_); refine goesL_ (some 15) rfl rfl Tryd.func9 (by kernel_rfl) rfl #[] rfl (by (try simp only [List.map_toArray, List.map_cons, List.map_nil]); first | done | rfl | (simp only [List.length_drop, List.length_take]; rfl)) ?_; (with_reducible refine (joustlaw06_alive.calls  false _ ?side1 A5.out).mono ?_); (case side1 => first | exact hGL | exact GL.of_below hGL (by repeat (first | (with_reducible first | exact HB.out | apply below_alloc | apply pw_below_drewN | apply below_drew1) | exact HB.out))); rintro e w10 ⟨rfl, hb⟩; refine ⟨_, rfl, ?_⟩; have n0_ := Aside0.mk (below_step (by repeat (first | (with_reducible first | exact HB.out | apply below_alloc | apply pw_below_drewN | apply below_drew1) | exact HB.out)) hb); clear HB; have HB := n0_; clear n0_; (try clear hb); (try clear hb2); (try clear hk); (try clear hi)))
      go_meet
      case rel => exact ⟨_, (true), (by first | rfl | (simp; done) | (simp [*]; done) | (simp [bne]; done) | (simp [*, bne]; done)), H', ⟨by first | omega | exact Nat.le_refl _⟩, ⟨by repeat (first | (with_reducible first | exact HB.out | apply below_alloc | apply pw_below_drewN | apply below_drew1) | exact HB.out)⟩⟩
  case rest =>
    clear HC4
    try clear c1
    try clear p2
    try clear c6
    try clear c7
    try clear c7b0
    try clear c7b1
    try clear c9
    obtain ⟨kq, x26_3, rfl, HA, HJ3, HB⟩ := hcut
    cases kq with
    | zero => exact absurd HA.out (by simp [joustlaw06_NameChanges.j0])
    | succ kj3 =>
      have H := HA.out
      clear HA
      simp only [joustlaw06_NameChanges.j0] at H
      by_cases c11 : x26_3 = true
      · subst c11
        have H1 : ((joustlaw06_alive.f).bind fun t258 => (some t258)) = some r := by rw [if_pos rfl] at H; exact H
        clear H
        have H := H1
        clear H1
        replace H := Option.bind_eq_some_iff.mp H
        obtain ⟨t258, A120, H⟩ := H
        replace H : (some t258) = some r := H
        have A12 := Aside0.mk A120
        clear A120
        obtain rfl := Option.some.inj H
        go_wp2_with (first | ((with_reducible refine gate_callee (f := 9) rfl ?_); refine goesL_ (some 27) rfl rfl Tryd.func9 (by kernel_rfl) rfl #[] rfl (by (try simp only [List.map_toArray, List.map_cons, List.map_nil]); first | done | rfl | (simp only [List.length_drop, List.length_take]; rfl)) ?_; (with_reducible refine (joustlaw06_alive.calls  t258 _ ?side1 A12.out).mono ?_); (case side1 => first | exact hGL | exact GL.of_below hGL (by repeat (first | (with_reducible first | exact HB.out | apply below_alloc | apply pw_below_drewN | apply below_drew1) | exact HB.out))); rintro e w13 ⟨rfl, hb⟩; refine ⟨_, rfl, ?_⟩; have n0_ := Aside0.mk (below_step (by repeat (first | (with_reducible first | exact HB.out | apply below_alloc | apply pw_below_drewN | apply below_drew1) | exact HB.out)) hb); clear HB; have HB := n0_; clear n0_; (try clear hb); (try clear hb2); (try clear hk); (try clear hi)))
        go_ret
        exact ⟨by first | rfl | (simp [errW_none, errW_some] <;> rfl) | (simp [*, errW_none, errW_some] <;> rfl), by repeat (first | (with_reducible first | exact HB.out | apply below_alloc | apply pw_below_drewN | apply below_drew1) | exact HB.out)⟩
      · replace c11 := Bool.eq_false_iff.mpr c11
        subst c11
        have H1 : (joustlaw06_NameChanges.l0 kj3 a0 l1 a2 ([] : List Int) 0) = some r := by rw [if_neg (show ¬ (false = true) by decide)] at H; exact H
        clear H
        have H := H1
        clear H1
        have H' := Aside0.mk H
        clear H
        go_wp2
        go_loopg [7, 8] kj3 (fun kq v7 v8 w' => ∃ (x7_2 : List Int) (x8_2 : Int), v8 = .int .i64 x8_2 ∧ Aside0 (joustlaw06_NameChanges.l0 kq a0 l1 a2 x7_2 x8_2 = some r) ∧ Aside0 (kq ≤ kj3) ∧ Aside0 (Kd.R (Kd.int .u8) 5 w' w.heap.size (fun _ => True) v7 x7_2) ∧ Aside0 (Below w.heap.size w w'))
        case atStart => exact ⟨(([] : List Int)), (0), (by first | rfl | (simp; done) | (simp [*]; done) | (simp [bne]; done) | (simp [*, bne]; done)), H', ⟨Nat.le_refl _⟩, ⟨by first | exact Kd.R_nil _ _ _ _ _ | exact Kd.N_nil _ _ _ _ _ | exact Kd.V_nil _ _ _ _ _ | exact Kd.Q_nil _ _ _ _ _ | exact Kd.S_nil _ _ _ _ _⟩, ⟨by repeat (first | (with_reducible first | exact HB.out | apply below_alloc | apply pw_below_drewN | apply below_drew1) | exact HB.out)⟩⟩
        case round =>
          clear H'
          try clear c1
          try clear p2
          try clear c6
          try clear c7
          try clear c7b0
          try clear c7b1
          try clear c9
          try clear c11
          try clear p2
          obtain ⟨x7_2, x8_2, rfl, HA, HK2, HO_7, HB⟩ := hrel
          cases gk with
          | zero => exact absurd HA.out (by simp [joustlaw06_NameChanges.l0])
          | succ k2 =>
            have H := HA.out
            clear HA
            simp only [joustlaw06_NameChanges.l0] at H
            by_cases c14 : x8_2 < (a0.size : Int)
            · rw [if_pos c14] at H
              have c14b0 : decide (x8_2 < (a0.size : Int)) = true := decide_eq_true c14
              clear c14
              by_cases c15 : 0 ≤ x8_2
              · rw [if_pos c15] at H
                have c15b0 : decide (0 ≤ x8_2) = true := decide_eq_true c15
                clear c15
                by_cases c17 : x7_2.length < 140737488355328
                · rw [if_pos c17] at H
                  have LMc17 := Aside0.mk c17
                  clear c17
                  obtain ⟨y259, hy259⟩ : ∃ y_ : List Int, y_ = (x7_2 ++ [Go.bits .and .u8 (bt a0 x8_2) 127]) := ⟨_, rfl⟩
                  replace H : (joustlaw06_NameChanges.l0 k2 a0 l1 a2 y259 (wrap64 (x8_2 + 1))) = some r := by first | (rw [hy259]; with_reducible exact H) | (have H2_ := (Option.bind_some _ _).symm.trans H; rw [hy259]; with_reducible exact H2_) | (have H2_ := (Option.bind_some _ _).symm.trans H; with_reducible exact H2_) | with_reducible exact H | (rw [hy259]; exact H) | exact H
                  have Ny259 := Aside0.mk hy259
                  clear hy259
                  have H' := Aside0.mk H
                  clear H
                  have p16 : 0 ≤ (x8_2 : Int) := of_decide_eq_true (by first | (with_reducible assumption) | assumption)
                  have q16 : x8_2 < (a0.size : Int) := of_decide_eq_true (by first | (with_reducible assumption) | assumption)
                  have hx16 := bt_at a0 x8_2
                  replace p16 := eq_true p16
                  replace q16 := eq_true q16
                  go_wp2_with (first | ((with_reducible refine gate_builtin (b := .append) (xs := #[.tmp 34, .tmp 39]) rfl ?_); (try (refine gate_guard (by rfl) ?_; dsimp only)); at_builtin; refine Kd.R_append (Kd.int .u8) (w0 := w) w.heap.size rfl (.tmp 34) (.tmp 39) 37 5 (.int .u8 0) 1 rfl Tryd.underlying37 info5 rfl (by decide) (by omega) u7 x7_2 (Go.bits .and .u8 (bt a0 x8_2) 127) [.int .u8 (Go.bits .and .u8 (bt a0 x8_2) 127)] (fun _ => True) (fun _ => False) rfl rfl ?aP (fun _ hk => hk.elim) ?aF ?aO ?aB ?aS ?aL ?_; (case aP => exact rfl); (case aB => exact (by repeat (first | (with_reducible first | exact HB.out | apply below_alloc | apply pw_below_drewN | apply below_drew1) | exact HB.out))); (case aF => exact (fun _ _ => trivial)); (case aO => exact (by (with_reducible repeat (first | apply Kd.R_alloc | apply Kd.R_drewN | apply Kd.R_drew)); exact HO_7.out)); (case aS => exact (below_size (by repeat (first | (with_reducible first | exact HB.out | apply below_alloc | apply pw_below_drewN | apply below_drew1) | exact HB.out)))); (case aL => have := LMc17.out; omega); intro v260 w18 ho hb hg hat; rw [← Ny259.out] at ho; have n0_ := Aside0.mk (hb); have n1_ := Aside0.mk (ho); clear HB; clear HO_7; have HB := n0_; have HO261 := n1_; clear n0_ n1_; clear ho hb hg hat))
                  go_roundg k2
                  case measure => have := HJ3.out; have := HK2.out; omega
                  case rel => exact ⟨(y259), (wrap64 (x8_2 + 1)), (by first | rfl | (simp; done) | (simp [*]; done) | (simp [bne]; done) | (simp [*, bne]; done)), H', ⟨by have := HJ3.out; have := HK2.out; omega⟩, ⟨by (with_reducible repeat (first | apply Kd.R_alloc | apply Kd.R_drewN | apply Kd.R_drew)); exact HO261.out⟩, ⟨by repeat (first | (with_reducible first | exact HB.out | apply below_alloc | apply pw_below_drewN | apply below_drew1) | exact HB.out)⟩⟩
                · rw [if_neg c17] at H
                  exact absurd H (by simp)
              · rw [if_neg c15] at H
                exact absurd H (by simp)
            · rw [if_neg c14] at H
              have c14b0 : decide (x8_2 < (a0.size : Int)) = false := decide_eq_false c14
              clear c14
              have H' := Aside0.mk H
              clear H
              have hcv19 := own_string (P := Tryd.prog) Tryd.underlying37 Tryd.underlying5 Tryd.underlying9 (Kd.own_of_R HO_7.out)
              go_wp2
              go_loopg [7, 11] k2 (fun kq v7 v11 w' => ∃ (x7_3 : List Int) (x11_3 : Int), v11 = .int .i64 x11_3 ∧ Aside0 (joustlaw06_NameChanges.l1 kq l1 x7_3 (strOfNums x7_2) (Go.bits .and .u8 a2 127) x11_3 = some r) ∧ Aside0 (kq ≤ k2) ∧ Aside0 (Kd.R (Kd.int .u8) 5 w' w.heap.size (fun _ => True) v7 x7_3) ∧ Aside0 (Below w.heap.size w w'))
              case atStart => exact ⟨(x7_2), (0), (by first | rfl | (simp; done) | (simp [*]; done) | (simp [bne]; done) | (simp [*, bne]; done)), H', ⟨Nat.le_refl _⟩, ⟨by (with_reducible repeat (first | apply Kd.R_alloc | apply Kd.R_drewN | apply Kd.R_drew)); exact HO_7.out⟩, ⟨by repeat (first | (with_reducible first | exact HB.out | apply below_alloc | apply pw_below_drewN | apply below_drew1) | exact HB.out)⟩⟩
              case round =>
                clear H'
                try clear c1
                try clear p1
                try clear q1
                try clear hx1
                try clear hcv1
                try clear p2
                try clear c6
                try clear p6
                try clear c7
                try clear c7b0
                try clear c7b1
                try clear c9
                try clear c11
                try clear c14
                try clear c14b0
                try clear c15
                try clear c15b0
                try clear p16
                try clear q16
                try clear hx16
                try clear c17
                try clear hcv19
                try clear p16
                try clear p2
                try clear q16
                obtain ⟨x7_3, x11_3, rfl, HA, HK3, HO_7, HB⟩ := hrel
                cases gk with
                | zero => exact absurd HA.out (by simp [joustlaw06_NameChanges.l1])
                | succ k3 =>
                  have H := HA.out
                  clear HA
                  simp only [joustlaw06_NameChanges.l1] at H
                  by_cases c20 : x11_3 < (l1.length : Int)
                  · rw [if_pos c20] at H
                    have c20b0 : decide (x11_3 < (l1.length : Int)) = true := decide_eq_true c20
                    clear c20
                    by_cases c21 : 0 ≤ x11_3
                    · rw [if_pos c21] at H
                      have c21b0 : decide (0 ≤ x11_3) = true := decide_eq_true c21
                      clear c21
                      by_cases c22 : (wrap64 ((x7_3.length : Int) + 1)) = 0
                      · rw [if_pos c22] at H
                        exact absurd H (by simp)
                      · rw [if_neg c22] at H
                        have c22b0 : ((wrap64 ((x7_3.length : Int) + 1)) == 0) = false := beq_eq_false_iff_ne.mpr c22
                        have c22b1 : ((wrap64 ((x7_3.length : Int) + 1)) != 0) = true := bne_iff_ne.mpr c22
                        have HC23 := Aside0.mk H
                        clear H
                        have p264 : 0 ≤ (x11_3 : Int) := of_decide_eq_true (by first | (with_reducible assumption) | assumption)
                        have q264 : x11_3 < (l1.length : Int) := of_decide_eq_true (by first | (with_reducible assumption) | assumption)
                        obtain ⟨ad264, e264, hx264_0⟩ := Kd.at_int HR1.out x11_3 p264 q264
                        cases e264
                        replace hx264_0 := (HB.out.cell (World.block_lt_of_cell? w _ hx264_0)).trans hx264_0
                        replace p264 := eq_true p264
                        replace q264 := eq_true q264
                        obtain ⟨Ao24, co24, eo24⟩ := Kd.R_slice HO_7.out
                        subst eo24
                        go_upto_if 60 with (fail)
                        go_cut [12] (fun v12 wc => ∃ (kq : Nat) (x12_22 : Int), v12 = .int .i64 x12_22 ∧ Aside0 (joustlaw06_NameChanges.j3 kq l1 x7_3 (strOfNums x7_2) (Go.bits .and .u8 a2 127) x11_3 x12_22 = some r) ∧ Aside0 (kq ≤ k3) ∧ Aside0 (Kd.R (Kd.int .u8) 5 wc w.heap.size (fun _ => True) (.slice Ao24 x7_3.length co24) x7_3) ∧ Aside0 (Below w.heap.size w wc))
                        case first =>
                          have H := HC23.out
                          clear HC23
                          by_cases c25 : (Int.tmod (rd l1 x11_3) (wrap64 ((x7_3.length : Int) + 1))) < 0
                          · rw [if_pos c25] at H
                            have c25b0 : decide ((Int.tmod (rd l1 x11_3) (wrap64 ((x7_3.length : Int) + 1))) < 0) = true := decide_eq_true c25
                            clear c25
                            (first | rw [c25b0] | (simp only [i64_w, i32_w]; rw [c25b0]) | skip)
                            have H' := Aside0.mk H
                            clear H
                            go_wp2
                            go_meet
                            case rel => exact ⟨_, (wrap64 (-(Int.tmod (rd l1 x11_3) (wrap64 ((x7_3.length : Int) + 1))))), (by first | rfl | (simp; done) | (simp [*]; done) | (simp [bne]; done) | (simp [*, bne]; done)), H', ⟨by have := HJ3.out; have := HK2.out; have := HK3.out; first | omega | exact Nat.le_refl _⟩, ⟨by (with_reducible repeat (first | apply Kd.R_alloc | apply Kd.R_drewN | apply Kd.R_drew)); exact HO_7.out⟩, ⟨by repeat (first | (with_reducible first | exact HB.out | apply below_alloc | apply pw_below_drewN | apply below_drew1) | exact HB.out)⟩⟩
                          · rw [if_neg c25] at H
                            have c25b0 : decide ((Int.tmod (rd l1 x11_3) (wrap64 ((x7_3.length : Int) + 1))) < 0) = false := decide_eq_false c25
                            clear c25
                            (first | rw [c25b0] | (simp only [i64_w, i32_w]; rw [c25b0]) | skip)
                            have H' := Aside0.mk H
                            clear H
                            go_wp2
                            go_meet
                            case rel => exact ⟨_, (Int.tmod (rd l1 x11_3) (wrap64 ((x7_3.length : Int) + 1))), (by first | rfl | (simp; done) | (simp [*]; done) | (simp [bne]; done) | (simp [*, bne]; done)), H', ⟨by have := HJ3.out; have := HK2.out; have := HK3.out; first | omega | exact Nat.le_refl _⟩, ⟨by (with_reducible repeat (first | apply Kd.R_alloc | apply Kd.R_drewN | apply Kd.R_drew)); exact HO_7.out⟩, ⟨by repeat (first | (with_reducible first | exact HB.out | apply below_alloc | apply pw_below_drewN | apply below_drew1) | exact HB.out)⟩⟩
                        case rest =>
                          clear HC23
                          try clear c1
                          try clear p1
                          try clear q1
                          try clear hx1
                          try clear hcv1
                          try clear c2
                          try clear p2
                          try clear q2
                          try clear hx2
                          try clear c6
                          try clear p6
                          try clear c7
                          try clear c7b0
                          try clear c7b1
                          try clear c9
                          try clear c11
                          try clear c14
                          try clear c14b0
                          try clear c15
                          try clear c15b0
                          try clear p16
                          try clear q16
                          try clear hx16
                          try clear c17
                          try clear hcv19
                          try clear c20
                          try clear c20b0
                          try clear c21
                          try clear c21b0
                          try clear c22
                          try clear c22b0
                          try clear c22b1
                          try clear c25
                          try clear c25b0
                          try clear hx264_0
                          try clear p1
                          try clear p16
                          try clear p2
                          try clear p264
                          try clear p6
                          try clear q1
                          try clear q16
                          try clear q264
                          obtain ⟨kq, x12_22, rfl, HA, HJ22, HO_7, HB⟩ := hcut
                          cases kq with
                          | zero => exact absurd HA.out (by simp [joustlaw06_NameChanges.j3])
                          | succ kj22 =>
                            have H := HA.out
                            clear HA
                            simp only [joustlaw06_NameChanges.j3] at H
                            by_cases c26 : 0 ≤ x12_22
                            · rw [if_pos c26] at H
                              have c26b0 := eq_true c26
                              have c26b1 : decide (0 ≤ x12_22) = true := decide_eq_true c26
                              clear c26
                              by_cases c27 : x12_22 ≤ (x7_3.length : Int)
                              · rw [if_pos c27] at H
                                have c27b0 := eq_true c27
                                have c27b1 : decide (x12_22 ≤ (x7_3.length : Int)) = true := decide_eq_true c27
                                clear c27
                                obtain ⟨y265, hy265⟩ : ∃ y_ : List Int, y_ = (x7_3.take (x12_22 : Int).toNat) := ⟨_, rfl⟩
                                replace H : (if ([] : List Int).length + y265.length < 140737488355328 then ((some (([] : List Int) ++ y265 : List Int)).bind fun y269 => (if (Int.tmod x11_3 3) = 0 then (joustlaw06_NameChanges.j4 kj22 l1 x7_3 (strOfNums x7_2) (Go.bits .and .u8 a2 127) x11_3 x12_22 y269 true) else (joustlaw06_NameChanges.j4 kj22 l1 x7_3 (strOfNums x7_2) (Go.bits .and .u8 a2 127) x11_3 x12_22 y269 (x12_22 == (x7_3.length : Int))))) else (none)) = some r := by first | (rw [hy265]; with_reducible exact H) | (have H2_ := (Option.bind_some _ _).symm.trans H; rw [hy265]; with_reducible exact H2_) | (have H2_ := (Option.bind_some _ _).symm.trans H; with_reducible exact H2_) | with_reducible exact H | (rw [hy265]; exact H) | exact H
                                have Ny265 := Aside0.mk hy265
                                clear hy265
                                by_cases c28 : ([] : List Int).length + y265.length < 140737488355328
                                · rw [if_pos c28] at H
                                  have LMc28 := Aside0.mk c28
                                  clear c28
                                  obtain ⟨y269, hy269⟩ : ∃ y_ : List Int, y_ = (([] : List Int) ++ y265) := ⟨_, rfl⟩
                                  replace H : (if (Int.tmod x11_3 3) = 0 then (joustlaw06_NameChanges.j4 kj22 l1 x7_3 (strOfNums x7_2) (Go.bits .and .u8 a2 127) x11_3 x12_22 y269 true) else (joustlaw06_NameChanges.j4 kj22 l1 x7_3 (strOfNums x7_2) (Go.bits .and .u8 a2 127) x11_3 x12_22 y269 (x12_22 == (x7_3.length : Int)))) = some r := by first | (rw [hy269]; with_reducible exact H) | (have H2_ := (Option.bind_some _ _).symm.trans H; rw [hy269]; with_reducible exact H2_) | (have H2_ := (Option.bind_some _ _).symm.trans H; with_reducible exact H2_) | with_reducible exact H | (rw [hy269]; exact H) | exact H
                                  have Ny269 := Aside0.mk hy269
                                  clear hy269
                                  have HC29 := Aside0.mk H
                                  clear H
                                  have q30 : (x12_22 : Int) ≤ ((x7_3.length : Int) : Int) := of_decide_eq_true (by first | (with_reducible assumption) | assumption)
                                  obtain ⟨i030, hi030, _, hsz30, _⟩ := info_parts info5
                                  have hroom30 : x7_3.length ≤ co24 := (Kd.R_reads' HO_7.out).2.1
                                  have hC30 : Kd.C (Kd.int .u8) _ Ao24 x7_3.length x7_3 := (Kd.R_reads' HO_7.out).2.2
                                  have hcut30 := cut_to (P := Tryd.prog) 37 5 .i64 Tryd.underlying37 hi030 Ao24 x7_3.length co24 x12_22 (of_decide_eq_true (by first | (with_reducible assumption) | assumption)) q30 hroom30
                                  have hr30 := Kd.C_take (m := (x12_22 : Int).toNat) hC30 (by omega)
                                  have hy30 : y265.length = (x12_22 : Int).toNat := (by rw [Ny265.out, List.length_take]; omega)
                                  rw [← Ny265.out] at hr30
                                  rw [← hy30] at hcut30
                                  have HR268 := Aside0.mk hr30
                                  have HC268 := Aside0.mk (show y265.length ≤ co24 from by omega)
                                  clear hr30 hC30 hroom30 hi030 hsz30
                                  have KY30 := Aside0.mk hy30
                                  clear hy30
                                  have KL30 := Aside0.mk (show (x12_22 : Int).toNat ≤ x7_3.length from by omega)
                                  replace q30 := eq_true q30
                                  go_upto_region 20 with (first | ((with_reducible refine gate_builtin (b := .append) (xs := #[.tmp 63, .tmp 66]) rfl ?_); (try (refine gate_guard (by rfl) ?_; dsimp only)); at_builtin; refine Kd.R_append_rows (Kd.int .u8) (w0 := w) w.heap.size rfl (.tmp 63) (.tmp 66) 37 5 (.int .u8 0) 1 rfl Tryd.underlying37 info5 rfl (by decide) (by omega) (.slice none 0 0) ([] : List Int) y265 _ _ _ (fun k_ => some k_ ≠ (.slice Ao24 x7_3.length co24 : Value).ownBlock) (fun _ => False) rfl rfl ?aO ?aR (fun _ _ h => h) (fun _ h => h.elim) ?aF ?aB ?aS ?aL ?_; (case aR => repeat (first | exact (by repeat (first | (with_reducible exact HR268.out) | (with_reducible refine Kd.C_alloc ?_ _) | (with_reducible refine Kd.C_drewN ?_ _) | (with_reducible refine Kd.C_drew ?_) | exact HR268.out)) | (with_reducible refine Kd.C_alloc ?_ _) | (with_reducible refine Kd.C_drewN ?_ _) | (with_reducible refine Kd.C_drew ?_))); (case aB => exact (by repeat (first | (with_reducible first | exact HB.out | apply below_alloc | apply pw_below_drewN | apply below_drew1) | exact HB.out))); (case aF => exact (fun k_ hk => Kd.fresh' (Kd.R_lt (by (with_reducible repeat (first | apply Kd.R_alloc | apply Kd.R_drewN | apply Kd.R_drew)); exact HO_7.out)) k_ hk)); (case aO => exact ((Kd.R_nil _ _ _ _ (fun k_ => some k_ ≠ (.slice Ao24 x7_3.length co24 : Value).ownBlock)))); (case aS => exact (below_size (by repeat (first | (with_reducible first | exact HB.out | apply below_alloc | apply pw_below_drewN | apply below_drew1) | exact HB.out)))); (case aL => have := LMc28.out; omega); intro v270 w31 ho hb hg hat; rw [← Ny269.out] at ho; have n0_ := Aside0.mk (Kd.R_after (Kd.R_apart_nil (by (with_reducible repeat (first | apply Kd.R_alloc | apply Kd.R_drewN | apply Kd.R_drew)); exact HO_7.out)) hg hat); have n1_ := Aside0.mk (hb); have n2_ := Aside0.mk ((show Kd.C (Kd.int .u8) w31 Ao24 y265.length y265 from by rw [Ny265.out]; exact Kd.C_take (m := (x12_22 : Int).toNat) ((Kd.R_reads' (Kd.R_after (Kd.R_apart_nil (by (with_reducible repeat (first | apply Kd.R_alloc | apply Kd.R_drewN | apply Kd.R_drew)); exact HO_7.out)) hg hat)).2.2) KL30.out)); have n3_ := Aside0.mk (ho); clear HO_7; clear HB; clear HR268; have HO_7 := n0_; have HB := n1_; have HR268 := n2_; have HO271 := n3_; clear n0_ n1_ n2_ n3_; clear ho hb hg hat))
                                  (try simp only [Act.put, List.setIfInBounds_toArray, List.set_cons_zero, List.set_cons_succ])
                                  go_cut [78] (fun v78 wc => ∃ (kq : Nat) (x78_28 : Bool), v78 = .bool x78_28 ∧ Aside0 (joustlaw06_NameChanges.j4 kq l1 x7_3 (strOfNums x7_2) (Go.bits .and .u8 a2 127) x11_3 x12_22 y269 x78_28 = some r) ∧ Aside0 (kq ≤ kj22) ∧ Aside0 (Kd.R (Kd.int .u8) 5 wc w.heap.size (fun k_ => some k_ ≠ (v270 : Value).ownBlock) (.slice Ao24 x7_3.length co24) x7_3) ∧ Aside0 (Kd.R (Kd.int .u8) 5 wc w.heap.size (fun k_ => some k_ ≠ ((.slice Ao24 x7_3.length co24) : Value).ownBlock) v270 y269) ∧ Aside0 (Kd.C (Kd.int .u8) wc Ao24 y265.length y265) ∧ Aside0 (Below w.heap.size w wc))
                                  case first =>
                                    have H := HC29.out
                                    clear HC29
                                    by_cases c32 : (Int.tmod x11_3 3) = 0
                                    · rw [if_pos c32] at H
                                      have c32b0 : ((Int.tmod x11_3 3) == 0) = true := beq_iff_eq.mpr c32
                                      have c32b1 : ((Int.tmod x11_3 3) != 0) = false := bne_eq_false_iff_eq.mpr c32
                                      clear c32
                                      (first | rw [c32b0] | (simp only [i64_w, i32_w]; rw [c32b0]) | skip)
                                      have H' := Aside0.mk H
                                      clear H
                                      go_wp2
                                      go_meet
                                      case rel => exact ⟨_, (true), (by first | rfl | (simp; done) | (simp [*]; done) | (simp [bne]; done) | (simp [*, bne]; done)), H', ⟨by have := HJ3.out; have := HK2.out; have := HK3.out; have := HJ22.out; first | omega | exact Nat.le_refl _⟩, ⟨by (with_reducible repeat (first | apply Kd.R_alloc | apply Kd.R_drewN | apply Kd.R_drew)); exact Kd.R_mono HO_7.out (fun _ hk => hk.2)⟩, ⟨by (with_reducible repeat (first | apply Kd.R_alloc | apply Kd.R_drewN | apply Kd.R_drew)); exact HO271.out⟩, ⟨by repeat (first | (with_reducible exact HR268.out) | (with_reducible refine Kd.C_alloc ?_ _) | (with_reducible refine Kd.C_drewN ?_ _) | (with_reducible refine Kd.C_drew ?_) | exact HR268.out)⟩, ⟨by repeat (first | (with_reducible first | exact HB.out | apply below_alloc | apply pw_below_drewN | apply below_drew1) | exact HB.out)⟩⟩
                                    · rw [if_neg c32] at H
                                      have c32b0 : ((Int.tmod x11_3 3) == 0) = false := beq_eq_false_iff_ne.mpr c32
                                      have c32b1 : ((Int.tmod x11_3 3) != 0) = true := bne_iff_ne.mpr c32
                                      (first | rw [c32b0] | (simp only [i64_w, i32_w]; rw [c32b0]) | skip)
                                      have H' := Aside0.mk H
                                      clear H
                                      go_wp2
                                      go_meet
                                      case rel => exact ⟨_, ((x12_22 == (x7_3.length : Int))), (by first | rfl | (simp; done) | (simp [*]; done) | (simp [bne]; done) | (simp [*, bne]; done)), H', ⟨by have := HJ3.out; have := HK2.out; have := HK3.out; have := HJ22.out; first | omega | exact Nat.le_refl _⟩, ⟨by (with_reducible repeat (first | apply Kd.R_alloc | apply Kd.R_drewN | apply Kd.R_drew)); exact Kd.R_mono HO_7.out (fun _ hk => hk.2)⟩, ⟨by (with_reducible repeat (first | apply Kd.R_alloc | apply Kd.R_drewN | apply Kd.R_drew)); exact HO271.out⟩, ⟨by repeat (first | (with_reducible exact HR268.out) | (with_reducible refine Kd.C_alloc ?_ _) | (with_reducible refine Kd.C_drewN ?_ _) | (with_reducible refine Kd.C_drew ?_) | exact HR268.out)⟩, ⟨by repeat (first | (with_reducible first | exact HB.out | apply below_alloc | apply pw_below_drewN | apply below_drew1) | exact HB.out)⟩⟩
                                  case rest =>
                                    clear HC29
                                    try clear c1
                                    try clear p1
                                    try clear q1
                                    try clear hx1
                                    try clear hcv1
                                    try clear c2
                                    try clear p2
                                    try clear q2
                                    try clear hx2
                                    try clear c3
                                    try clear q3
                                    try clear c6
                                    try clear p6
                                    try clear c7
                                    try clear c7b0
                                    try clear c7b1
                                    try clear c9
                                    try clear c11
                                    try clear c14
                                    try clear c14b0
                                    try clear c15
                                    try clear c15b0
                                    try clear p16
                                    try clear q16
                                    try clear hx16
                                    try clear c17
                                    try clear hcv19
                                    try clear c20
                                    try clear c20b0
                                    try clear c21
                                    try clear c21b0
                                    try clear c22
                                    try clear c22b0
                                    try clear c22b1
                                    try clear c25
                                    try clear c25b0
                                    try clear c26
                                    try clear c26b0
                                    try clear c26b1
                                    try clear p26
                                    try clear q26
                                    try clear hx26
                                    try clear c27
                                    try clear c27b0
                                    try clear c27b1
                                    try clear c28
                                    try clear q30
                                    try clear c32
                                    try clear c32b0
                                    try clear c32b1
                                    try clear hx264_0
                                    try clear p1
                                    try clear p16
                                    try clear p2
                                    try clear p264
                                    try clear p6
                                    try clear q1
                                    try clear q16
                                    try clear q2
                                    try clear q264
                                    try clear q30
                                    obtain ⟨kq, x78_28, rfl, HA, HJ28, HO_7, HO_13, HR268, HB⟩ := hcut
                                    cases kq with
                                    | zero => exact absurd HA.out (by simp [joustlaw06_NameChanges.j4])
                                    | succ kj28 =>
                                      have H := HA.out
                                      clear HA
                                      simp only [joustlaw06_NameChanges.j4] at H
                                      by_cases c33 : x78_28 = true
                                      · subst c33
                                        have H1 : (if y269.length < 140737488355328 then ((some (y269 ++ [(Go.bits .and .u8 a2 127)] : List Int)).bind fun y272 => (if 0 ≤ x12_22 then (if x12_22 ≤ (x7_3.length : Int) then ((some (x7_3.drop (x12_22 : Int).toNat : List Int)).bind fun y275 => (if y272.length + y275.length < 140737488355328 then (joustlaw06_NameChanges.l1 kj28 l1 (y272 ++ y275) (strOfNums x7_2) (Go.bits .and .u8 a2 127) (wrap64 (x11_3 + 1))) else (none))) else (none)) else (none))) else (none)) = some r := by rw [if_pos rfl] at H; exact H
                                        clear H
                                        have H := H1
                                        clear H1
                                        by_cases c34 : y269.length < 140737488355328
                                        · rw [if_pos c34] at H
                                          have LMc34 := Aside0.mk c34
                                          clear c34
                                          obtain ⟨y272, hy272⟩ : ∃ y_ : List Int, y_ = (y269 ++ [(Go.bits .and .u8 a2 127)]) := ⟨_, rfl⟩
                                          replace H : (if 0 ≤ x12_22 then (if x12_22 ≤ (x7_3.length : Int) then ((some (x7_3.drop (x12_22 : Int).toNat : List Int)).bind fun y275 => (if y272.length + y275.length < 140737488355328 then (joustlaw06_NameChanges.l1 kj28 l1 (y272 ++ y275) (strOfNums x7_2) (Go.bits .and .u8 a2 127) (wrap64 (x11_3 + 1))) else (none))) else (none)) else (none)) = some r := by first | (rw [hy272]; with_reducible exact H) | (have H2_ := (Option.bind_some _ _).symm.trans H; rw [hy272]; with_reducible exact H2_) | (have H2_ := (Option.bind_some _ _).symm.trans H; with_reducible exact H2_) | with_reducible exact H | (rw [hy272]; exact H) | exact H
                                          have Ny272 := Aside0.mk hy272
                                          clear hy272
                                          by_cases c35 : 0 ≤ x12_22
                                          · rw [if_pos c35] at H
                                            have c35b0 := eq_true c35
                                            have c35b1 : decide (0 ≤ x12_22) = true := decide_eq_true c35
                                            clear c35
                                            by_cases c36 : x12_22 ≤ (x7_3.length : Int)
                                            · rw [if_pos c36] at H
                                              have c36b0 := eq_true c36
                                              have c36b1 : decide (x12_22 ≤ (x7_3.length : Int)) = true := decide_eq_true c36
                                              clear c36
                                              obtain ⟨y275, hy275⟩ : ∃ y_ : List Int, y_ = (x7_3.drop (x12_22 : Int).toNat) := ⟨_, rfl⟩
                                              replace H : (if y272.length + y275.length < 140737488355328 then (joustlaw06_NameChanges.l1 kj28 l1 (y272 ++ y275) (strOfNums x7_2) (Go.bits .and .u8 a2 127) (wrap64 (x11_3 + 1))) else (none)) = some r := by first | (rw [hy275]; with_reducible exact H) | (have H2_ := (Option.bind_some _ _).symm.trans H; rw [hy275]; with_reducible exact H2_) | (have H2_ := (Option.bind_some _ _).symm.trans H; with_reducible exact H2_) | with_reducible exact H | (rw [hy275]; exact H) | exact H
                                              have Ny275 := Aside0.mk hy275
                                              clear hy275
                                              by_cases c37 : y272.length + y275.length < 140737488355328
                                              · rw [if_pos c37] at H
                                                have LMc37 := Aside0.mk c37
                                                clear c37
                                                obtain ⟨y279, hy279⟩ : ∃ y_ : List Int, y_ = (y272 ++ y275) := ⟨_, rfl⟩
                                                replace H : (joustlaw06_NameChanges.l1 kj28 l1 y279 (strOfNums x7_2) (Go.bits .and .u8 a2 127) (wrap64 (x11_3 + 1))) = some r := by first | (rw [hy279]; with_reducible exact H) | (have H2_ := (Option.bind_some _ _).symm.trans H; rw [hy279]; with_reducible exact H2_) | (have H2_ := (Option.bind_some _ _).symm.trans H; with_reducible exact H2_) | with_reducible exact H | (rw [hy279]; exact H) | exact H
                                                have Ny279 := Aside0.mk hy279
                                                clear hy279
                                                have H' := Aside0.mk H
                                                clear H
                                                go_wp2_with (first | ((with_reducible refine gate_builtin (b := .append) (xs := #[.tmp 88, .tmp 90]) rfl ?_); (try (refine gate_guard (by rfl) ?_; dsimp only)); at_builtin; refine Kd.R_append (Kd.int .u8) (w0 := w) w.heap.size rfl (.tmp 88) (.tmp 90) 37 5 (.int .u8 0) 1 rfl Tryd.underlying37 info5 rfl (by decide) (by omega) v270 y269 (Go.bits .and .u8 a2 127) [.int .u8 (Go.bits .and .u8 a2 127)] (fun k_ => some k_ ≠ (.slice Ao24 x7_3.length co24 : Value).ownBlock) (fun _ => False) rfl rfl ?aP (fun _ hk => hk.elim) ?aF ?aO ?aB ?aS ?aL ?_; (case aP => exact rfl); (case aB => exact (by repeat (first | (with_reducible first | exact HB.out | apply below_alloc | apply pw_below_drewN | apply below_drew1) | exact HB.out))); (case aF => exact (fun k_ hk => Kd.fresh' (Kd.R_lt (by (with_reducible repeat (first | apply Kd.R_alloc | apply Kd.R_drewN | apply Kd.R_drew)); exact HO_7.out)) k_ hk)); (case aO => exact (by (with_reducible repeat (first | apply Kd.R_alloc | apply Kd.R_drewN | apply Kd.R_drew)); exact HO_13.out)); (case aS => exact (below_size (by repeat (first | (with_reducible first | exact HB.out | apply below_alloc | apply pw_below_drewN | apply below_drew1) | exact HB.out)))); (case aL => have := LMc34.out; omega); intro v273 w38 ho hb hg hat; rw [← Ny272.out] at ho; have n0_ := Aside0.mk (Kd.R_after (ok := (fun _ => True)) (by (with_reducible repeat (first | apply Kd.R_alloc | apply Kd.R_drewN | apply Kd.R_drew)); exact Kd.R_mono HO_7.out (fun _ hk => ⟨trivial, hk⟩)) hg hat); have n1_ := Aside0.mk (hb); have n2_ := Aside0.mk ((show Kd.C (Kd.int .u8) w38 Ao24 y265.length y265 from by rw [Ny265.out]; exact Kd.C_take (m := (x12_22 : Int).toNat) ((Kd.R_reads' (Kd.R_after (ok := (fun _ => True)) (by (with_reducible repeat (first | apply Kd.R_alloc | apply Kd.R_drewN | apply Kd.R_drew)); exact Kd.R_mono HO_7.out (fun _ hk => ⟨trivial, hk⟩)) hg hat)).2.2) KL30.out)); have n3_ := Aside0.mk (ho); clear HO_7; clear HB; clear HR268; clear HO_13; have HO_7 := n0_; have HB := n1_; have HR268 := n2_; have HO274 := n3_; clear n0_ n1_ n2_ n3_; clear ho hb hg hat; have q39 : (x12_22 : Int) ≤ ((x7_3.length : Int) : Int) := of_decide_eq_true (by first | (with_reducible assumption) | assumption); obtain ⟨i039, hi039, _, hsz39, _⟩ := info_parts info5; have hroom39 : x7_3.length ≤ co24 := (Kd.R_reads' HO_7.out).2.1; have hC39 : Kd.C (Kd.int .u8) _ Ao24 x7_3.length x7_3 := (Kd.R_reads' HO_7.out).2.2; have q039 : (0 : Int) ≤ (x12_22 : Int) := of_decide_eq_true (by first | (with_reducible assumption) | assumption); have hcut39 := cut_from (P := Tryd.prog) 37 5 .i64 Tryd.underlying37 hi039 1 hsz39 Ao24 x7_3.length co24 x12_22 q039 q39; have hr39 := Kd.C_drop (m := (x12_22 : Int).toNat) (c := co24) hC39 (by omega) hroom39; obtain ⟨A39, hA39⟩ : ∃ Az_, Az_ = (if co24 = (x12_22 : Int).toNat then Ao24 else (Ao24 : Option Addr).map (·.add ((x12_22 : Int).toNat * 1))) := ⟨_, rfl⟩; obtain ⟨c39, hc39⟩ : ∃ cz_, cz_ = co24 - (x12_22 : Int).toNat := ⟨_, rfl⟩; have hy39 : y275.length = x7_3.length - (x12_22 : Int).toNat := (by rw [Ny275.out, List.length_drop] <;> omega); rw [show (x7_3).drop (x12_22 : Int).toNat = y275 from Ny275.out.symm] at hr39; replace hr39 : Kd.C (Kd.int .u8) _ A39 y275.length y275 := (by rw [hA39]; exact hr39); rw [← hy39, ← hA39, ← hc39] at hcut39; have HR278 := Aside0.mk hr39; have HC278 := Aside0.mk (show y275.length ≤ c39 from by rw [hy39, hc39]; exact Nat.sub_le_sub_right hroom39 _); clear hr39 hC39 hroom39 hi039 hsz39 hc39; have KY39 := Aside0.mk hy39; have KA39 := Aside0.mk hA39; clear hy39 hA39; have KL39 := Aside0.mk (show (x12_22 : Int).toNat ≤ x7_3.length from by omega); replace q39 := eq_true q39) | ((with_reducible refine gate_builtin (b := .append) (xs := #[.tmp 92, .tmp 95]) rfl ?_); (try (refine gate_guard (by rfl) ?_; dsimp only)); at_builtin; refine Kd.R_append_rows (Kd.int .u8) (w0 := w) w.heap.size rfl (.tmp 92) (.tmp 95) 37 5 (.int .u8 0) 1 rfl Tryd.underlying37 info5 rfl (by decide) (by omega) v273 y272 y275 _ _ _ (fun k_ => some k_ ≠ (.slice Ao24 x7_3.length co24 : Value).ownBlock) (fun _ => False) rfl rfl ?aO ?aR (fun _ _ h => h) (fun _ h => h.elim) ?aF ?aB ?aS ?aL ?_; (case aR => repeat (first | exact (by repeat (first | (with_reducible exact HR278.out) | (with_reducible refine Kd.C_alloc ?_ _) | (with_reducible refine Kd.C_drewN ?_ _) | (with_reducible refine Kd.C_drew ?_) | exact HR278.out)) | (with_reducible refine Kd.C_alloc ?_ _) | (with_reducible refine Kd.C_drewN ?_ _) | (with_reducible refine Kd.C_drew ?_))); (case aB => exact (by repeat (first | (with_reducible first | exact HB.out | apply below_alloc | apply pw_below_drewN | apply below_drew1) | exact HB.out))); (case aF => exact (fun k_ hk => Kd.fresh' (Kd.R_lt (by (with_reducible repeat (first | apply Kd.R_alloc | apply Kd.R_drewN | apply Kd.R_drew)); exact HO_7.out)) k_ hk)); (case aO => exact (by (with_reducible repeat (first | apply Kd.R_alloc | apply Kd.R_drewN | apply Kd.R_drew)); exact HO274.out)); (case aS => exact (below_size (by repeat (first | (with_reducible first | exact HB.out | apply below_alloc | apply pw_below_drewN | apply below_drew1) | exact HB.out)))); (case aL => have := LMc37.out; omega); intro v280 w40 ho hb hg hat; rw [← Ny279.out] at ho; have n0_ := Aside0.mk (Kd.R_after (ok := (fun _ => True)) (by (with_reducible repeat (first | apply Kd.R_alloc | apply Kd.R_drewN | apply Kd.R_drew)); exact HO_7.out) hg hat); have n1_ := Aside0.mk (hb); have n2_ := Aside0.mk ((show Kd.C (Kd.int .u8) w40 Ao24 y265.length y265 from by rw [Ny265.out]; exact Kd.C_take (m := (x12_22 : Int).toNat) ((Kd.R_reads' (Kd.R_after (ok := (fun _ => True)) (by (with_reducible repeat (first | apply Kd.R_alloc | apply Kd.R_drewN | apply Kd.R_drew)); exact HO_7.out) hg hat)).2.2) KL30.out)); have n3_ := Aside0.mk ((show Kd.C (Kd.int .u8) w40 A39 y275.length y275 from by rw [Ny275.out, KA39.out]; exact Kd.C_drop (m := (x12_22 : Int).toNat) (c := co24) ((Kd.R_reads' (Kd.R_after (ok := (fun _ => True)) (by (with_reducible repeat (first | apply Kd.R_alloc | apply Kd.R_drewN | apply Kd.R_drew)); exact HO_7.out) hg hat)).2.2) KL39.out ((Kd.R_reads' (Kd.R_after (ok := (fun _ => True)) (by (with_reducible repeat (first | apply Kd.R_alloc | apply Kd.R_drewN | apply Kd.R_drew)); exact HO_7.out) hg hat)).2.1))); have n4_ := Aside0.mk (ho); clear HO_7; clear HB; clear HR268; clear HR278; clear HO274; have HO_7 := n0_; have HB := n1_; have HR268 := n2_; have HR278 := n3_; have HO281 := n4_; clear n0_ n1_ n2_ n3_ n4_; clear ho hb hg hat))
                                                go_roundg kj28
                                                case measure => have := HJ3.out; have := HK2.out; have := HK3.out; have := HJ22.out; have := HJ28.out; omega
                                                case rel => exact ⟨(y279), (wrap64 (x11_3 + 1)), (by first | rfl | (simp; done) | (simp [*]; done) | (simp [bne]; done) | (simp [*, bne]; done)), H', ⟨by have := HJ3.out; have := HK2.out; have := HK3.out; have := HJ22.out; have := HJ28.out; omega⟩, ⟨by (with_reducible repeat (first | apply Kd.R_alloc | apply Kd.R_drewN | apply Kd.R_drew)); exact Kd.R_mono HO281.out (fun _ hk => trivial)⟩, ⟨by repeat (first | (with_reducible first | exact HB.out | apply below_alloc | apply pw_below_drewN | apply below_drew1) | exact HB.out)⟩⟩
                                              · rw [if_neg c37] at H
                                                exact absurd H (by simp)
                                            · rw [if_neg c36] at H
                                              exact absurd H (by simp)
                                          · rw [if_neg c35] at H
                                            exact absurd H (by simp)
                                        · rw [if_neg c34] at H
                                          exact absurd H (by simp)
                                      · replace c33 := Bool.eq_false_iff.mpr c33
                                        subst c33
                                        have H1 : (if (Int.tmod x11_3 3) = 1 then (if 0 ≤ (wrap64 (x12_22 + 1)) then (if (wrap64 (x12_22 + 1)) ≤ (x7_3.length : Int) then ((some (x7_3.drop ((wrap64 (x12_22 + 1)) : Int).toNat : List Int)).bind fun y282 => (if y269.length + y282.length < 140737488355328 then (joustlaw06_NameChanges.l1 kj28 l1 (y269 ++ y282) (strOfNums x7_2) (Go.bits .and .u8 a2 127) (wrap64 (x11_3 + 1))) else (none))) else (none)) else (none)) else (if y269.length < 140737488355328 then ((some (y269 ++ [(Go.bits .and .u8 a2 127)] : List Int)).bind fun y289 => (if 0 ≤ (wrap64 (x12_22 + 1)) then (if (wrap64 (x12_22 + 1)) ≤ (x7_3.length : Int) then ((some (x7_3.drop ((wrap64 (x12_22 + 1)) : Int).toNat : List Int)).bind fun y292 => (if y289.length + y292.length < 140737488355328 then (joustlaw06_NameChanges.l1 kj28 l1 (y289 ++ y292) (strOfNums x7_2) (Go.bits .and .u8 a2 127) (wrap64 (x11_3 + 1))) else (none))) else (none)) else (none))) else (none))) = some r := by rw [if_neg (show ¬ (false = true) by decide)] at H; exact H
                                        clear H
                                        have H := H1
                                        clear H1
                                        by_cases c41 : (Int.tmod x11_3 3) = 1
                                        · rw [if_pos c41] at H
                                          have c41b0 : ((Int.tmod x11_3 3) == 1) = true := beq_iff_eq.mpr c41
                                          have c41b1 : ((Int.tmod x11_3 3) != 1) = false := bne_eq_false_iff_eq.mpr c41
                                          clear c41
                                          obtain ⟨ji42, hji42⟩ : ∃ j_ : Int, (wrap64 (x12_22 + 1)) = j_ := ⟨_, rfl⟩
                                          replace H : (if 0 ≤ (ji42) then (if (ji42) ≤ (x7_3.length : Int) then ((some (x7_3.drop ((ji42) : Int).toNat : List Int)).bind fun y282 => (if y269.length + y282.length < 140737488355328 then (joustlaw06_NameChanges.l1 kj28 l1 (y269 ++ y282) (strOfNums x7_2) (Go.bits .and .u8 a2 127) (wrap64 (x11_3 + 1))) else (none))) else (none)) else (none)) = some r := by first | (rw [hji42] at H; exact H) | (simp only [hji42] at H ⊢; exact H)
                                          have hji42w : (IntKind.i64.wrap (x12_22 + 1)) = ji42 := (i64_w _).trans hji42
                                          by_cases c43 : 0 ≤ (ji42)
                                          · rw [if_pos c43] at H
                                            have c43b0 := eq_true c43
                                            have c43b1 : decide (0 ≤ (ji42)) = true := decide_eq_true c43
                                            clear c43
                                            by_cases c44 : (ji42) ≤ (x7_3.length : Int)
                                            · rw [if_pos c44] at H
                                              have c44b0 := eq_true c44
                                              have c44b1 : decide ((ji42) ≤ (x7_3.length : Int)) = true := decide_eq_true c44
                                              clear c44
                                              obtain ⟨y282, hy282⟩ : ∃ y_ : List Int, y_ = (x7_3.drop ((ji42) : Int).toNat) := ⟨_, rfl⟩
                                              replace H : (if y269.length + y282.length < 140737488355328 then (joustlaw06_NameChanges.l1 kj28 l1 (y269 ++ y282) (strOfNums x7_2) (Go.bits .and .u8 a2 127) (wrap64 (x11_3 + 1))) else (none)) = some r := by first | (rw [hy282]; with_reducible exact H) | (have H2_ := (Option.bind_some _ _).symm.trans H; rw [hy282]; with_reducible exact H2_) | (have H2_ := (Option.bind_some _ _).symm.trans H; with_reducible exact H2_) | with_reducible exact H | (rw [hy282]; exact H) | exact H
                                              have Ny282 := Aside0.mk hy282
                                              clear hy282
                                              by_cases c45 : y269.length + y282.length < 140737488355328
                                              · rw [if_pos c45] at H
                                                have LMc45 := Aside0.mk c45
                                                clear c45
                                                obtain ⟨y286, hy286⟩ : ∃ y_ : List Int, y_ = (y269 ++ y282) := ⟨_, rfl⟩
                                                replace H : (joustlaw06_NameChanges.l1 kj28 l1 y286 (strOfNums x7_2) (Go.bits .and .u8 a2 127) (wrap64 (x11_3 + 1))) = some r := by first | (rw [hy286]; with_reducible exact H) | (have H2_ := (Option.bind_some _ _).symm.trans H; rw [hy286]; with_reducible exact H2_) | (have H2_ := (Option.bind_some _ _).symm.trans H; with_reducible exact H2_) | with_reducible exact H | (rw [hy286]; exact H) | exact H
                                                have Ny286 := Aside0.mk hy286
                                                clear hy286
                                                have H' := Aside0.mk H
                                                clear H
                                                have q46 : ((ji42) : Int) ≤ ((x7_3.length : Int) : Int) := of_decide_eq_true (by first | (with_reducible assumption) | assumption)
                                                obtain ⟨i046, hi046, _, hsz46, _⟩ := info_parts info5
                                                have hroom46 : x7_3.length ≤ co24 := (Kd.R_reads' HO_7.out).2.1
                                                have hC46 : Kd.C (Kd.int .u8) _ Ao24 x7_3.length x7_3 := (Kd.R_reads' HO_7.out).2.2
                                                have q046 : (0 : Int) ≤ ((ji42) : Int) := of_decide_eq_true (by first | (with_reducible assumption) | assumption)
                                                try clear hcut30
                                                have hcut46 := cut_from (P := Tryd.prog) 37 5 .i64 Tryd.underlying37 hi046 1 hsz46 Ao24 x7_3.length co24 (ji42) q046 q46
                                                have hr46 := Kd.C_drop (m := ((ji42) : Int).toNat) (c := co24) hC46 (by omega) hroom46
                                                obtain ⟨A46, hA46⟩ : ∃ Az_, Az_ = (if co24 = ((ji42) : Int).toNat then Ao24 else (Ao24 : Option Addr).map (·.add (((ji42) : Int).toNat * 1))) := ⟨_, rfl⟩
                                                obtain ⟨c46, hc46⟩ : ∃ cz_, cz_ = co24 - ((ji42) : Int).toNat := ⟨_, rfl⟩
                                                have hy46 : y282.length = x7_3.length - ((ji42) : Int).toNat := (by rw [Ny282.out, List.length_drop] <;> omega)
                                                rw [show (x7_3).drop ((ji42) : Int).toNat = y282 from Ny282.out.symm] at hr46
                                                replace hr46 : Kd.C (Kd.int .u8) _ A46 y282.length y282 := (by rw [hA46]; exact hr46)
                                                rw [← hy46, ← hA46, ← hc46] at hcut46
                                                have HR285 := Aside0.mk hr46
                                                have HC285 := Aside0.mk (show y282.length ≤ c46 from by rw [hy46, hc46]; exact Nat.sub_le_sub_right hroom46 _)
                                                clear hr46 hC46 hroom46 hi046 hsz46 hc46
                                                have KY46 := Aside0.mk hy46
                                                have KA46 := Aside0.mk hA46
                                                clear hy46 hA46
                                                have KL46 := Aside0.mk (show ((ji42) : Int).toNat ≤ x7_3.length from by omega)
                                                replace q46 := eq_true q46
                                                go_wp2_with (first | ((with_reducible refine gate_builtin (b := .append) (xs := #[.tmp 101, .tmp 105]) rfl ?_); (try (refine gate_guard (by rfl) ?_; dsimp only)); at_builtin; refine Kd.R_append_rows (Kd.int .u8) (w0 := w) w.heap.size rfl (.tmp 101) (.tmp 105) 37 5 (.int .u8 0) 1 rfl Tryd.underlying37 info5 rfl (by decide) (by omega) v270 y269 y282 _ _ _ (fun k_ => some k_ ≠ (.slice Ao24 x7_3.length co24 : Value).ownBlock) (fun _ => False) rfl rfl ?aO ?aR (fun _ _ h => h) (fun _ h => h.elim) ?aF ?aB ?aS ?aL ?_; (case aR => repeat (first | exact (by repeat (first | (with_reducible exact HR285.out) | (with_reducible refine Kd.C_alloc ?_ _) | (with_reducible refine Kd.C_drewN ?_ _) | (with_reducible refine Kd.C_drew ?_) | exact HR285.out)) | (with_reducible refine Kd.C_alloc ?_ _) | (with_reducible refine Kd.C_drewN ?_ _) | (with_reducible refine Kd.C_drew ?_))); (case aB => exact (by repeat (first | (with_reducible first | exact HB.out | apply below_alloc | apply pw_below_drewN | apply below_drew1) | exact HB.out))); (case aF => exact (fun k_ hk => Kd.fresh' (Kd.R_lt (by (with_reducible repeat (first | apply Kd.R_alloc | apply Kd.R_drewN | apply Kd.R_drew)); exact HO_7.out)) k_ hk)); (case aO => exact (by (with_reducible repeat (first | apply Kd.R_alloc | apply Kd.R_drewN | apply Kd.R_drew)); exact HO_13.out)); (case aS => exact (below_size (by repeat (first | (with_reducible first | exact HB.out | apply below_alloc | apply pw_below_drewN | apply below_drew1) | exact HB.out)))); (case aL => have := LMc45.out; omega); intro v287 w47 ho hb hg hat; rw [← Ny286.out] at ho; have n0_ := Aside0.mk (Kd.R_after (ok := (fun _ => True)) (by (with_reducible repeat (first | apply Kd.R_alloc | apply Kd.R_drewN | apply Kd.R_drew)); exact Kd.R_mono HO_7.out (fun _ hk => ⟨trivial, hk⟩)) hg hat); have n1_ := Aside0.mk (hb); have n2_ := Aside0.mk ((show Kd.C (Kd.int .u8) w47 Ao24 y265.length y265 from by rw [Ny265.out]; exact Kd.C_take (m := (x12_22 : Int).toNat) ((Kd.R_reads' (Kd.R_after (ok := (fun _ => True)) (by (with_reducible repeat (first | apply Kd.R_alloc | apply Kd.R_drewN | apply Kd.R_drew)); exact Kd.R_mono HO_7.out (fun _ hk => ⟨trivial, hk⟩)) hg hat)).2.2) KL30.out)); have n3_ := Aside0.mk ((show Kd.C (Kd.int .u8) w47 A46 y282.length y282 from by rw [Ny282.out, KA46.out]; exact Kd.C_drop (m := ((ji42) : Int).toNat) (c := co24) ((Kd.R_reads' (Kd.R_after (ok := (fun _ => True)) (by (with_reducible repeat (first | apply Kd.R_alloc | apply Kd.R_drewN | apply Kd.R_drew)); exact Kd.R_mono HO_7.out (fun _ hk => ⟨trivial, hk⟩)) hg hat)).2.2) KL46.out ((Kd.R_reads' (Kd.R_after (ok := (fun _ => True)) (by (with_reducible repeat (first | apply Kd.R_alloc | apply Kd.R_drewN | apply Kd.R_drew)); exact Kd.R_mono HO_7.out (fun _ hk => ⟨trivial, hk⟩)) hg hat)).2.1))); have n4_ := Aside0.mk (ho); clear HO_7; clear HB; clear HR268; clear HR285; clear HO_13; have HO_7 := n0_; have HB := n1_; have HR268 := n2_; have HR285 := n3_; have HO288 := n4_; clear n0_ n1_ n2_ n3_ n4_; clear ho hb hg hat))
                                                go_roundg kj28
                                                case measure => have := HJ3.out; have := HK2.out; have := HK3.out; have := HJ22.out; have := HJ28.out; omega
                                                case rel => exact ⟨(y286), (wrap64 (x11_3 + 1)), (by first | rfl | (simp; done) | (simp [*]; done) | (simp [bne]; done) | (simp [*, bne]; done)), H', ⟨by have := HJ3.out; have := HK2.out; have := HK3.out; have := HJ22.out; have := HJ28.out; omega⟩, ⟨by (with_reducible repeat (first | apply Kd.R_alloc | apply Kd.R_drewN | apply Kd.R_drew)); exact Kd.R_mono HO288.out (fun _ hk => trivial)⟩, ⟨by repeat (first | (with_reducible first | exact HB.out | apply below_alloc | apply pw_below_drewN | apply below_drew1) | exact HB.out)⟩⟩
                                              · rw [if_neg c45] at H
                                                exact absurd H (by simp)
                                            · rw [if_neg c44] at H
                                              exact absurd H (by simp)
                                          · rw [if_neg c43] at H
                                            exact absurd H (by simp)
                                        · rw [if_neg c41] at H
                                          have c41b0 : ((Int.tmod x11_3 3) == 1) = false := beq_eq_false_iff_ne.mpr c41
                                          have c41b1 : ((Int.tmod x11_3 3) != 1) = true := bne_iff_ne.mpr c41
                                          by_cases c48 : y269.length < 140737488355328
                                          · rw [if_pos c48] at H
                                            have LMc48 := Aside0.mk c48
                                            clear c48
                                            obtain ⟨y289, hy289⟩ : ∃ y_ : List Int, y_ = (y269 ++ [(Go.bits .and .u8 a2 127)]) := ⟨_, rfl⟩
                                            replace H : (if 0 ≤ (wrap64 (x12_22 + 1)) then (if (wrap64 (x12_22 + 1)) ≤ (x7_3.length : Int) then ((some (x7_3.drop ((wrap64 (x12_22 + 1)) : Int).toNat : List Int)).bind fun y292 => (if y289.length + y292.length < 140737488355328 then (joustlaw06_NameChanges.l1 kj28 l1 (y289 ++ y292) (strOfNums x7_2) (Go.bits .and .u8 a2 127) (wrap64 (x11_3 + 1))) else (none))) else (none)) else (none)) = some r := by first | (rw [hy289]; with_reducible exact H) | (have H2_ := (Option.bind_some _ _).symm.trans H; rw [hy289]; with_reducible exact H2_) | (have H2_ := (Option.bind_some _ _).symm.trans H; with_reducible exact H2_) | with_reducible exact H | (rw [hy289]; exact H) | exact H
                                            have Ny289 := Aside0.mk hy289
                                            clear hy289
                                            obtain ⟨ji49, hji49⟩ : ∃ j_ : Int, (wrap64 (x12_22 + 1)) = j_ := ⟨_, rfl⟩
                                            replace H : (if 0 ≤ (ji49) then (if (ji49) ≤ (x7_3.length : Int) then ((some (x7_3.drop ((ji49) : Int).toNat : List Int)).bind fun y292 => (if y289.length + y292.length < 140737488355328 then (joustlaw06_NameChanges.l1 kj28 l1 (y289 ++ y292) (strOfNums x7_2) (Go.bits .and .u8 a2 127) (wrap64 (x11_3 + 1))) else (none))) else (none)) else (none)) = some r := by first | (rw [hji49] at H; exact H) | (simp only [hji49] at H ⊢; exact H)
                                            have hji49w : (IntKind.i64.wrap (x12_22 + 1)) = ji49 := (i64_w _).trans hji49
                                            by_cases c50 : 0 ≤ (ji49)
                                            · rw [if_pos c50] at H
                                              have c50b0 := eq_true c50
                                              have c50b1 : decide (0 ≤ (ji49)) = true := decide_eq_true c50
                                              clear c50
                                              by_cases c51 : (ji49) ≤ (x7_3.length : Int)
                                              · rw [if_pos c51] at H
                                                have c51b0 := eq_true c51
                                                have c51b1 : decide ((ji49) ≤ (x7_3.length : Int)) = true := decide_eq_true c51
                                                clear c51
                                                obtain ⟨y292, hy292⟩ : ∃ y_ : List Int, y_ = (x7_3.drop ((ji49) : Int).toNat) := ⟨_, rfl⟩
                                                replace H : (if y289.length + y292.length < 140737488355328 then (joustlaw06_NameChanges.l1 kj28 l1 (y289 ++ y292) (strOfNums x7_2) (Go.bits .and .u8 a2 127) (wrap64 (x11_3 + 1))) else (none)) = some r := by first | (rw [hy292]; with_reducible exact H) | (have H2_ := (Option.bind_some _ _).symm.trans H; rw [hy292]; with_reducible exact H2_) | (have H2_ := (Option.bind_some _ _).symm.trans H; with_reducible exact H2_) | with_reducible exact H | (rw [hy292]; exact H) | exact H
                                                have Ny292 := Aside0.mk hy292
                                                clear hy292
                                                by_cases c52 : y289.length + y292.length < 140737488355328
                                                · rw [if_pos c52] at H
                                                  have LMc52 := Aside0.mk c52
                                                  clear c52
                                                  obtain ⟨y296, hy296⟩ : ∃ y_ : List Int, y_ = (y289 ++ y292) := ⟨_, rfl⟩
                                                  replace H : (joustlaw06_NameChanges.l1 kj28 l1 y296 (strOfNums x7_2) (Go.bits .and .u8 a2 127) (wrap64 (x11_3 + 1))) = some r := by first | (rw [hy296]; with_reducible exact H) | (have H2_ := (Option.bind_some _ _).symm.trans H; rw [hy296]; with_reducible exact H2_) | (have H2_ := (Option.bind_some _ _).symm.trans H; with_reducible exact H2_) | with_reducible exact H | (rw [hy296]; exact H) | exact H
                                                  have Ny296 := Aside0.mk hy296
                                                  clear hy296
                                                  have H' := Aside0.mk H
                                                  clear H
                                                  go_wp2_with (first | ((with_reducible refine gate_builtin (b := .append) (xs := #[.tmp 68, .tmp 70]) rfl ?_); (try (refine gate_guard (by rfl) ?_; dsimp only)); at_builtin; refine Kd.R_append (Kd.int .u8) (w0 := w) w.heap.size rfl (.tmp 68) (.tmp 70) 37 5 (.int .u8 0) 1 rfl Tryd.underlying37 info5 rfl (by decide) (by omega) v270 y269 (Go.bits .and .u8 a2 127) [.int .u8 (Go.bits .and .u8 a2 127)] (fun k_ => some k_ ≠ (.slice Ao24 x7_3.length co24 : Value).ownBlock) (fun _ => False) rfl rfl ?aP (fun _ hk => hk.elim) ?aF ?aO ?aB ?aS ?aL ?_; (case aP => exact rfl); (case aB => exact (by repeat (first | (with_reducible first | exact HB.out | apply below_alloc | apply pw_below_drewN | apply below_drew1) | exact HB.out))); (case aF => exact (fun k_ hk => Kd.fresh' (Kd.R_lt (by (with_reducible repeat (first | apply Kd.R_alloc | apply Kd.R_drewN | apply Kd.R_drew)); exact HO_7.out)) k_ hk)); (case aO => exact (by (with_reducible repeat (first | apply Kd.R_alloc | apply Kd.R_drewN | apply Kd.R_drew)); exact HO_13.out)); (case aS => exact (below_size (by repeat (first | (with_reducible first | exact HB.out | apply below_alloc | apply pw_below_drewN | apply below_drew1) | exact HB.out)))); (case aL => have := LMc48.out; omega); intro v290 w53 ho hb hg hat; rw [← Ny289.out] at ho; have n0_ := Aside0.mk (Kd.R_after (ok := (fun _ => True)) (by (with_reducible repeat (first | apply Kd.R_alloc | apply Kd.R_drewN | apply Kd.R_drew)); exact Kd.R_mono HO_7.out (fun _ hk => ⟨trivial, hk⟩)) hg hat); have n1_ := Aside0.mk (hb); have n2_ := Aside0.mk ((show Kd.C (Kd.int .u8) w53 Ao24 y265.length y265 from by rw [Ny265.out]; exact Kd.C_take (m := (x12_22 : Int).toNat) ((Kd.R_reads' (Kd.R_after (ok := (fun _ => True)) (by (with_reducible repeat (first | apply Kd.R_alloc | apply Kd.R_drewN | apply Kd.R_drew)); exact Kd.R_mono HO_7.out (fun _ hk => ⟨trivial, hk⟩)) hg hat)).2.2) KL30.out)); have n3_ := Aside0.mk (ho); clear HO_7; clear HB; clear HR268; clear HO_13; have HO_7 := n0_; have HB := n1_; have HR268 := n2_; have HO291 := n3_; clear n0_ n1_ n2_ n3_; clear ho hb hg hat; have q54 : ((ji49) : Int) ≤ ((x7_3.length : Int) : Int) := of_decide_eq_true (by first | (with_reducible assumption) | assumption); obtain ⟨i054, hi054, _, hsz54, _⟩ := info_parts info5; have hroom54 : x7_3.length ≤ co24 := (Kd.R_reads' HO_7.out).2.1; have hC54 : Kd.C (Kd.int .u8) _ Ao24 x7_3.length x7_3 := (Kd.R_reads' HO_7.out).2.2; have q054 : (0 : Int) ≤ ((ji49) : Int) := of_decide_eq_true (by first | (with_reducible assumption) | assumption); have hcut54 := cut_from (P := Tryd.prog) 37 5 .i64 Tryd.underlying37 hi054 1 hsz54 Ao24 x7_3.length co24 (ji49) q054 q54; have hr54 := Kd.C_drop (m := ((ji49) : Int).toNat) (c := co24) hC54 (by omega) hroom54; obtain ⟨A54, hA54⟩ : ∃ Az_, Az_ = (if co24 = ((ji49) : Int).toNat then Ao24 else (Ao24 : Option Addr).map (·.add (((ji49) : Int).toNat * 1))) := ⟨_, rfl⟩; obtain ⟨c54, hc54⟩ : ∃ cz_, cz_ = co24 - ((ji49) : Int).toNat := ⟨_, rfl⟩; have hy54 : y292.length = x7_3.length - ((ji49) : Int).toNat := (by rw [Ny292.out, List.length_drop] <;> omega); rw [show (x7_3).drop ((ji49) : Int).toNat = y292 from Ny292.out.symm] at hr54; replace hr54 : Kd.C (Kd.int .u8) _ A54 y292.length y292 := (by rw [hA54]; exact hr54); rw [← hy54, ← hA54, ← hc54] at hcut54; have HR295 := Aside0.mk hr54; have HC295 := Aside0.mk (show y292.length ≤ c54 from by rw [hy54, hc54]; exact Nat.sub_le_sub_right hroom54 _); clear hr54 hC54 hroom54 hi054 hsz54 hc54; have KY54 := Aside0.mk hy54; have KA54 := Aside0.mk hA54; clear hy54 hA54; have KL54 := Aside0.mk (show ((ji49) : Int).toNat ≤ x7_3.length from by omega); replace q54 := eq_true q54) | ((with_reducible refine gate_builtin (b := .append) (xs := #[.tmp 72, .tmp 76]) rfl ?_); (try (refine gate_guard (by rfl) ?_; dsimp only)); at_builtin; refine Kd.R_append_rows (Kd.int .u8) (w0 := w) w.heap.size rfl (.tmp 72) (.tmp 76) 37 5 (.int .u8 0) 1 rfl Tryd.underlying37 info5 rfl (by decide) (by omega) v290 y289 y292 _ _ _ (fun k_ => some k_ ≠ (.slice Ao24 x7_3.length co24 : Value).ownBlock) (fun _ => False) rfl rfl ?aO ?aR (fun _ _ h => h) (fun _ h => h.elim) ?aF ?aB ?aS ?aL ?_; (case aR => repeat (first | exact (by repeat (first | (with_reducible exact HR295.out) | (with_reducible refine Kd.C_alloc ?_ _) | (with_reducible refine Kd.C_drewN ?_ _) | (with_reducible refine Kd.C_drew ?_) | exact HR295.out)) | (with_reducible refine Kd.C_alloc ?_ _) | (with_reducible refine Kd.C_drewN ?_ _) | (with_reducible refine Kd.C_drew ?_))); (case aB => exact (by repeat (first | (with_reducible first | exact HB.out | apply below_alloc | apply pw_below_drewN | apply below_drew1) | exact HB.out))); (case aF => exact (fun k_ hk => Kd.fresh' (Kd.R_lt (by (with_reducible repeat (first | apply Kd.R_alloc | apply Kd.R_drewN | apply Kd.R_drew)); exact HO_7.out)) k_ hk)); (case aO => exact (by (with_reducible repeat (first | apply Kd.R_alloc | apply Kd.R_drewN | apply Kd.R_drew)); exact HO291.out)); (case aS => exact (below_size (by repeat (first | (with_reducible first | exact HB.out | apply below_alloc | apply pw_below_drewN | apply below_drew1) | exact HB.out)))); (case aL => have := LMc52.out; omega); intro v297 w55 ho hb hg hat; rw [← Ny296.out] at ho; have n0_ := Aside0.mk (Kd.R_after (ok := (fun _ => True)) (by (with_reducible repeat (first | apply Kd.R_alloc | apply Kd.R_drewN | apply Kd.R_drew)); exact HO_7.out) hg hat); have n1_ := Aside0.mk (hb); have n2_ := Aside0.mk ((show Kd.C (Kd.int .u8) w55 Ao24 y265.length y265 from by rw [Ny265.out]; exact Kd.C_take (m := (x12_22 : Int).toNat) ((Kd.R_reads' (Kd.R_after (ok := (fun _ => True)) (by (with_reducible repeat (first | apply Kd.R_alloc | apply Kd.R_drewN | apply Kd.R_drew)); exact HO_7.out) hg hat)).2.2) KL30.out)); have n3_ := Aside0.mk ((show Kd.C (Kd.int .u8) w55 A54 y292.length y292 from by rw [Ny292.out, KA54.out]; exact Kd.C_drop (m := ((ji49) : Int).toNat) (c := co24) ((Kd.R_reads' (Kd.R_after (ok := (fun _ => True)) (by (with_reducible repeat (first | apply Kd.R_alloc | apply Kd.R_drewN | apply Kd.R_drew)); exact HO_7.out) hg hat)).2.2) KL54.out ((Kd.R_reads' (Kd.R_after (ok := (fun _ => True)) (by (with_reducible repeat (first | apply Kd.R_alloc | apply Kd.R_drewN | apply Kd.R_drew)); exact HO_7.out) hg hat)).2.1))); have n4_ := Aside0.mk (ho); clear HO_7; clear HB; clear HR268; clear HR295; clear HO291; have HO_7 := n0_; have HB := n1_; have HR268 := n2_; have HR295 := n3_; have HO298 := n4_; clear n0_ n1_ n2_ n3_ n4_; clear ho hb hg hat))
                                                  go_roundg kj28
                                                  case measure => have := HJ3.out; have := HK2.out; have := HK3.out; have := HJ22.out; have := HJ28.out; omega
                                                  case rel => exact ⟨(y296), (wrap64 (x11_3 + 1)), (by first | rfl | (simp; done) | (simp [*]; done) | (simp [bne]; done) | (simp [*, bne]; done)), H', ⟨by have := HJ3.out; have := HK2.out; have := HK3.out; have := HJ22.out; have := HJ28.out; omega⟩, ⟨by (with_reducible repeat (first | apply Kd.R_alloc | apply Kd.R_drewN | apply Kd.R_drew)); exact Kd.R_mono HO298.out (fun _ hk => trivial)⟩, ⟨by repeat (first | (with_reducible first | exact HB.out | apply below_alloc | apply pw_below_drewN | apply below_drew1) | exact HB.out)⟩⟩
                                                · rw [if_neg c52] at H
                                                  exact absurd H (by simp)
                                              · rw [if_neg c51] at H
                                                exact absurd H (by simp)
                                            · rw [if_neg c50] at H
                                              exact absurd H (by simp)
                                          · rw [if_neg c48] at H
                                            exact absurd H (by simp)
                                · rw [if_neg c28] at H
                                  exact absurd H (by simp)
                              · rw [if_neg c27] at H
                                exact absurd H (by simp)
                            · rw [if_neg c26] at H
                              exact absurd H (by simp)
                    · rw [if_neg c21] at H
                      exact absurd H (by simp)
                  · rw [if_neg c20] at H
                    have c20b0 : decide (x11_3 < (l1.length : Int)) = false := decide_eq_false c20
                    clear c20
                    replace H := Option.bind_eq_some_iff.mp H
                    obtain ⟨t262, A560, H⟩ := H
                    replace H : ((joustlaw06_less.f (l1.length : Int)).bind fun t263 => (if t262 ≤ t263 then (if (l1.length : Int) = 1 then (some (t262 == 1)) else (some true)) else (some false))) = some r := H
                    have A56 := Aside0.mk A560
                    clear A560
                    replace H := Option.bind_eq_some_iff.mp H
                    obtain ⟨t263, A570, H⟩ := H
                    replace H : (if t262 ≤ t263 then (if (l1.length : Int) = 1 then (some (t262 == 1)) else (some true)) else (some false)) = some r := H
                    have A57 := Aside0.mk A570
                    clear A570
                    by_cases c58 : t262 ≤ t263
                    · rw [if_pos c58] at H
                      have c58b0 : decide (t262 ≤ t263) = true := decide_eq_true c58
                      clear c58
                      by_cases c59 : (l1.length : Int) = 1
                      · rw [if_pos c59] at H
                        have c59b0 : ((l1.length : Int) == 1) = true := beq_iff_eq.mpr c59
                        have c59b1 : ((l1.length : Int) != 1) = false := bne_eq_false_iff_eq.mpr c59
                        clear c59
                        obtain rfl := Option.some.inj H
                        have hcv60 := own_string (P := Tryd.prog) Tryd.underlying37 Tryd.underlying5 Tryd.underlying9 (Kd.own_of_R HO_7.out)
                        go_wp2_with (first | ((with_reducible refine gate_callee (f := 13) rfl ?_); refine goesL_ (some 111) rfl rfl Tryd.func13 (by kernel_rfl) rfl #[.string (strOfNums x7_2), .string (strOfNums x7_3)] rfl (by (try simp only [List.map_toArray, List.map_cons, List.map_nil]); first | done | rfl | (simp only [List.length_drop, List.length_take]; rfl)) ?_; (with_reducible refine (name_Near.calls (strOfNums x7_2) (strOfNums x7_3) t262 _ ?side1 A56.out).mono ?_); (case side1 => first | exact hGL | exact GL.of_below hGL (by repeat (first | (with_reducible first | exact HB.out | apply below_alloc | apply pw_below_drewN | apply below_drew1) | exact HB.out))); rintro e w61 ⟨rfl, hb⟩; refine ⟨_, rfl, ?_⟩; have n0_ := Aside0.mk (Kd.R_below (by (with_reducible repeat (first | apply Kd.R_alloc | apply Kd.R_drewN | apply Kd.R_drew)); exact HO_7.out) hb); have n1_ := Aside0.mk (below_step (by repeat (first | (with_reducible first | exact HB.out | apply below_alloc | apply pw_below_drewN | apply below_drew1) | exact HB.out)) hb); clear HO_7; clear HB; have HO_7 := n0_; have HB := n1_; clear n0_ n1_; (try clear hb); (try clear hb2); (try clear hk); (try clear hi)) | ((with_reducible refine gate_callee (f := 21) rfl ?_); refine goesL_ (some 115) rfl rfl Tryd.func21 (by kernel_rfl) rfl #[.int .i64 (l1.length : Int)] rfl (by (try simp only [List.map_toArray, List.map_cons, List.map_nil]); first | done | rfl | (simp only [List.length_drop, List.length_take]; rfl)) ?_; (with_reducible refine (joustlaw06_less.calls (l1.length : Int) t263 _ ?side1 A57.out).mono ?_); (case side1 => first | exact hGL | exact GL.of_below hGL (by repeat (first | (with_reducible first | exact HB.out | apply below_alloc | apply pw_below_drewN | apply below_drew1) | exact HB.out))); rintro e w' ⟨rfl, ⟨nd, rfl⟩⟩; refine ⟨_, rfl, ?_⟩))
                        go_ret
                        exact ⟨by first | rfl | (simp [errW_none, errW_some] <;> rfl) | (simp [*, errW_none, errW_some] <;> rfl), by repeat (first | (with_reducible first | exact HB.out | apply below_alloc | apply pw_below_drewN | apply below_drew1) | exact HB.out)⟩
                      · rw [if_neg c59] at H
                        have c59b0 : ((l1.length : Int) == 1) = false := beq_eq_false_iff_ne.mpr c59
                        have c59b1 : ((l1.length : Int) != 1) = true := bne_iff_ne.mpr c59
                        obtain rfl := Option.some.inj H
                        have hcv62 := own_string (P := Tryd.prog) Tryd.underlying37 Tryd.underlying5 Tryd.underlying9 (Kd.own_of_R HO_7.out)
                        go_wp2_with (first | ((with_reducible refine gate_callee (f := 13) rfl ?_); refine goesL_ (some 111) rfl rfl Tryd.func13 (by kernel_rfl) rfl #[.string (strOfNums x7_2), .string (strOfNums x7_3)] rfl (by (try simp only [List.map_toArray, List.map_cons, List.map_nil]); first | done | rfl | (simp only [List.length_drop, List.length_take]; rfl)) ?_; (with_reducible refine (name_Near.calls (strOfNums x7_2) (strOfNums x7_3) t262 _ ?side1 A56.out).mono ?_); (case side1 => first | exact hGL | exact GL.of_below hGL (by repeat (first | (with_reducible first | exact HB.out | apply below_alloc | apply pw_below_drewN | apply below_drew1) | exact HB.out))); rintro e w63 ⟨rfl, hb⟩; refine ⟨_, rfl, ?_⟩; have n0_ := Aside0.mk (Kd.R_below (by (with_reducible repeat (first | apply Kd.R_alloc | apply Kd.R_drewN | apply Kd.R_drew)); exact HO_7.out) hb); have n1_ := Aside0.mk (below_step (by repeat (first | (with_reducible first | exact HB.out | apply below_alloc | apply pw_below_drewN | apply below_drew1) | exact HB.out)) hb); clear HO_7; clear HB; have HO_7 := n0_; have HB := n1_; clear n0_ n1_; (try clear hb); (try clear hb2); (try clear hk); (try clear hi)) | ((with_reducible refine gate_callee (f := 21) rfl ?_); refine goesL_ (some 115) rfl rfl Tryd.func21 (by kernel_rfl) rfl #[.int .i64 (l1.length : Int)] rfl (by (try simp only [List.map_toArray, List.map_cons, List.map_nil]); first | done | rfl | (simp only [List.length_drop, List.length_take]; rfl)) ?_; (with_reducible refine (joustlaw06_less.calls (l1.length : Int) t263 _ ?side1 A57.out).mono ?_); (case side1 => first | exact hGL | exact GL.of_below hGL (by repeat (first | (with_reducible first | exact HB.out | apply below_alloc | apply pw_below_drewN | apply below_drew1) | exact HB.out))); rintro e w' ⟨rfl, ⟨nd, rfl⟩⟩; refine ⟨_, rfl, ?_⟩))
                        go_ret
                        exact ⟨by first | rfl | (simp [errW_none, errW_some] <;> rfl) | (simp [*, errW_none, errW_some] <;> rfl), by repeat (first | (with_reducible first | exact HB.out | apply below_alloc | apply pw_below_drewN | apply below_drew1) | exact HB.out)⟩
                    · rw [if_neg c58] at H
                      have c58b0 : decide (t262 ≤ t263) = false := decide_eq_false c58
                      clear c58
                      obtain rfl := Option.some.inj H
                      have hcv64 := own_string (P := Tryd.prog) Tryd.underlying37 Tryd.underlying5 Tryd.underlying9 (Kd.own_of_R HO_7.out)
                      go_wp2_with (first | ((with_reducible refine gate_callee (f := 13) rfl ?_); refine goesL_ (some 111) rfl rfl Tryd.func13 (by kernel_rfl) rfl #[.string (strOfNums x7_2), .string (strOfNums x7_3)] rfl (by (try simp only [List.map_toArray, List.map_cons, List.map_nil]); first | done | rfl | (simp only [List.length_drop, List.length_take]; rfl)) ?_; (with_reducible refine (name_Near.calls (strOfNums x7_2) (strOfNums x7_3) t262 _ ?side1 A56.out).mono ?_); (case side1 => first | exact hGL | exact GL.of_below hGL (by repeat (first | (with_reducible first | exact HB.out | apply below_alloc | apply pw_below_drewN | apply below_drew1) | exact HB.out))); rintro e w65 ⟨rfl, hb⟩; refine ⟨_, rfl, ?_⟩; have n0_ := Aside0.mk (Kd.R_below (by (with_reducible repeat (first | apply Kd.R_alloc | apply Kd.R_drewN | apply Kd.R_drew)); exact HO_7.out) hb); have n1_ := Aside0.mk (below_step (by repeat (first | (with_reducible first | exact HB.out | apply below_alloc | apply pw_below_drewN | apply below_drew1) | exact HB.out)) hb); clear HO_7; clear HB; have HO_7 := n0_; have HB := n1_; clear n0_ n1_; (try clear hb); (try clear hb2); (try clear hk); (try clear hi)) | ((with_reducible refine gate_callee (f := 21) rfl ?_); refine goesL_ (some 115) rfl rfl Tryd.func21 (by kernel_rfl) rfl #[.int .i64 (l1.length : Int)] rfl (by (try simp only [List.map_toArray, List.map_cons, List.map_nil]); first | done | rfl | (simp only [List.length_drop, List.length_take]; rfl)) ?_; (with_reducible refine (joustlaw06_less.calls (l1.length : Int) t263 _ ?side1 A57.out).mono ?_); (case side1 => first | exact hGL | exact GL.of_below hGL (by repeat (first | (with_reducible first | exact HB.out | apply below_alloc | apply pw_below_drewN | apply below_drew1) | exact HB.out))); rintro e w' ⟨rfl, ⟨nd, rfl⟩⟩; refine ⟨_, rfl, ?_⟩))
                      go_ret
                      exact ⟨by first | rfl | (simp [errW_none, errW_some] <;> rfl) | (simp [*, errW_none, errW_some] <;> rfl), by repeat (first | (with_reducible first | exact HB.out | apply below_alloc | apply pw_below_drewN | apply below_drew1) | exact HB.out)⟩

end Go.Proofs.YtlmbkliieckakaaDoor.QA
