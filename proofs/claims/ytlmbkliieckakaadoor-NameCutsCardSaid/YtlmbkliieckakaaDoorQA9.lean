-- Written by pp.py, a program of this session's, over the kit's printer.
import Derived.Test.YtlmbkliieckakaaDoorQA0
import Derived.Test.YtlmbkliieckakaaDoorQA1
namespace Go.Proofs.YtlmbkliieckakaaDoor.QA
open Go.Proofs.YtlmbkliieckakaaDoor.Nm Go.RowKit Go.Proofs.YtlmbkliieckakaaDoorW.PrintWords Go.Proofs.YtlmbkliieckakaaDoorW.PrintLast Go.Proofs.YtlmbkliieckakaaDoorW.PrintMore
attribute [local go_sem] max2_int min2_int max_two min_two max_three min_three max_four min_four   -- for this text's walks alone
set_option linter.unusedVariables false
set_option linter.unusedSimpArgs false

/-! ### joustlaw06_NameCuts: function 5 -/
mutual
def joustlaw06_NameCuts.j0 : Nat → ByteArray → Int → Int → ByteArray → Int → Int → Option (Bool)
  | 0, _, _, _, _, _, _ => none
  | k + 1, x0, x1, x2, x7, x8, x9 => if x9 > x8 then (joustlaw06_NameCuts.j1 k x0 x1 x2 x7 x8 x8) else (joustlaw06_NameCuts.j1 k x0 x1 x2 x7 x8 x9)
def joustlaw06_NameCuts.j1 : Nat → ByteArray → Int → Int → ByteArray → Int → Int → Option (Bool)
  | 0, _, _, _, _, _, _ => none
  | k + 1, x0, x1, x2, x7, x8, x9 => if (x7.size : Int) > (x0.size : Int) then (joustlaw06_NameCuts.j2 k x0 x1 x2 x7 true) else (if 0 ≤ (x7.size : Int) then (if (x7.size : Int) ≤ (x0.size : Int) then (if x7.toList = (x0.extract 0 ((x7.size : Int) : Int).toNat).toList then ((name_Runes.f x7).bind fun t231 => (if t231 = x9 then (if x1 ≥ x8 then (joustlaw06_NameCuts.j2 k x0 x1 x2 x7 (x7.toList != x0.toList)) else (joustlaw06_NameCuts.j2 k x0 x1 x2 x7 false)) else (joustlaw06_NameCuts.j2 k x0 x1 x2 x7 true))) else (joustlaw06_NameCuts.j2 k x0 x1 x2 x7 true)) else (none)) else (none))
def joustlaw06_NameCuts.j2 : Nat → ByteArray → Int → Int → ByteArray → Bool → Option (Bool)
  | 0, _, _, _, _, _ => none
  | k + 1, x0, x1, x2, x7, x56 => if x56 = true then (some false) else (if x2 < x1 then (joustlaw06_NameCuts.j3 k x0 x1 x2 x7 x2) else (joustlaw06_NameCuts.j3 k x0 x1 x2 x7 x1))
def joustlaw06_NameCuts.j3 : Nat → ByteArray → Int → Int → ByteArray → Int → Option (Bool)
  | 0, _, _, _, _, _ => none
  | k + 1, x0, x1, x2, x7, x10 => (name_Cut.f x7 x2).bind fun t232 => ((name_Cut.f x0 x10).bind fun t233 => (if t232.toList = t233.toList then ((name_Pad.f x0 x1).bind fun t234 => (if x1 < 0 then (joustlaw06_NameCuts.j4 k x0 t234 0) else (joustlaw06_NameCuts.j4 k x0 t234 x1))) else (some false)))
def joustlaw06_NameCuts.j4 : Nat → ByteArray → ByteArray → Int → Option (Bool)
  | 0, _, _, _ => none
  | k + 1, x0, x11, x12 => if x12 > 4096 then (joustlaw06_NameCuts.j5 k x0 x11 4096) else (joustlaw06_NameCuts.j5 k x0 x11 x12)
def joustlaw06_NameCuts.j5 : Nat → ByteArray → ByteArray → Int → Option (Bool)
  | 0, _, _, _ => none
  | k + 1, x0, x11, x12 => (name_Cut.f x0 x12).bind fun t235 => ((name_Runes.f x11).bind fun t236 => (if t236 = x12 then (if (x11.size : Int) < (t235.size : Int) then (joustlaw06_NameCuts.j6 k t235 x11 true) else (if 0 ≤ (t235.size : Int) then (if (t235.size : Int) ≤ (x11.size : Int) then (if (x11.extract 0 ((t235.size : Int) : Int).toNat).toList = t235.toList then ((name_Runes.f t235).bind fun t237 => (joustlaw06_NameCuts.j6 k t235 x11 ((wrap64 ((x11.size : Int) - (t235.size : Int))) != (wrap64 (x12 - t237))))) else (joustlaw06_NameCuts.j6 k t235 x11 true)) else (none)) else (none))) else (joustlaw06_NameCuts.j6 k t235 x11 true)))
def joustlaw06_NameCuts.j6 : Nat → ByteArray → ByteArray → Bool → Option (Bool)
  | 0, _, _, _ => none
  | k + 1, x7, x11, x110 => if x110 = true then (some false) else (joustlaw06_NameCuts.l0 k x11 (x7.size : Int))
def joustlaw06_NameCuts.l0 : Nat → ByteArray → Int → Option (Bool)
  | 0, _, _ => none
  | k + 1, x11, x13 => if x13 < (x11.size : Int) then (if 0 ≤ x13 then (if (bt x11 x13) = 32 then (joustlaw06_NameCuts.l0 k x11 (wrap64 (x13 + 1))) else (some false)) else (none)) else (some true)
end
def joustlaw06_NameCuts.f (k : Nat) (a0 : ByteArray) (a1 : Int) (a2 : Int) : Option (Bool) := (joustlaw06_alive.f).bind fun t228 => (if t228 = true then ((name_Cut.f a0 a1).bind fun t229 => ((name_Runes.f a0).bind fun t230 => (if a1 < 0 then (joustlaw06_NameCuts.j0 k a0 a1 a2 t229 t230 0) else (joustlaw06_NameCuts.j0 k a0 a1 a2 t229 t230 a1)))) else (some false))
theorem joustlaw06_NameCuts.mono_l : ∀ k, (∀ y0 y1 y2 y3 y4 y5, LeO (joustlaw06_NameCuts.j0 k y0 y1 y2 y3 y4 y5) (joustlaw06_NameCuts.j0 (k + 1) y0 y1 y2 y3 y4 y5)) ∧ (∀ y0 y1 y2 y3 y4 y5, LeO (joustlaw06_NameCuts.j1 k y0 y1 y2 y3 y4 y5) (joustlaw06_NameCuts.j1 (k + 1) y0 y1 y2 y3 y4 y5)) ∧ (∀ y0 y1 y2 y3 y4, LeO (joustlaw06_NameCuts.j2 k y0 y1 y2 y3 y4) (joustlaw06_NameCuts.j2 (k + 1) y0 y1 y2 y3 y4)) ∧ (∀ y0 y1 y2 y3 y4, LeO (joustlaw06_NameCuts.j3 k y0 y1 y2 y3 y4) (joustlaw06_NameCuts.j3 (k + 1) y0 y1 y2 y3 y4)) ∧ (∀ y0 y1 y2, LeO (joustlaw06_NameCuts.j4 k y0 y1 y2) (joustlaw06_NameCuts.j4 (k + 1) y0 y1 y2)) ∧ (∀ y0 y1 y2, LeO (joustlaw06_NameCuts.j5 k y0 y1 y2) (joustlaw06_NameCuts.j5 (k + 1) y0 y1 y2)) ∧ (∀ y0 y1 y2, LeO (joustlaw06_NameCuts.j6 k y0 y1 y2) (joustlaw06_NameCuts.j6 (k + 1) y0 y1 y2)) ∧ (∀ y0 y1, LeO (joustlaw06_NameCuts.l0 k y0 y1) (joustlaw06_NameCuts.l0 (k + 1) y0 y1))
  | 0 => ⟨fun _ _ _ _ _ _ r h => by simp [joustlaw06_NameCuts.j0] at h, fun _ _ _ _ _ _ r h => by simp [joustlaw06_NameCuts.j1] at h, fun _ _ _ _ _ r h => by simp [joustlaw06_NameCuts.j2] at h, fun _ _ _ _ _ r h => by simp [joustlaw06_NameCuts.j3] at h, fun _ _ _ r h => by simp [joustlaw06_NameCuts.j4] at h, fun _ _ _ r h => by simp [joustlaw06_NameCuts.j5] at h, fun _ _ _ r h => by simp [joustlaw06_NameCuts.j6] at h, fun _ _ r h => by simp [joustlaw06_NameCuts.l0] at h⟩
  | k + 1 => by
    obtain ⟨ih0, ih1, ih2, ih3, ih4, ih5, ih6, ih7⟩ := joustlaw06_NameCuts.mono_l k
    refine ⟨?_, ?_, ?_, ?_, ?_, ?_, ?_, ?_⟩
    · intro y0 y1 y2 y3 y4 y5
      unfold joustlaw06_NameCuts.j0
      repeat' first
      | (with_reducible exact ih0 _ _ _ _ _ _)
      | (with_reducible exact ih1 _ _ _ _ _ _)
      | (with_reducible exact ih2 _ _ _ _ _)
      | (with_reducible exact ih3 _ _ _ _ _)
      | (with_reducible exact ih4 _ _ _)
      | (with_reducible exact ih5 _ _ _)
      | (with_reducible exact ih6 _ _ _)
      | (with_reducible exact ih7 _ _)
      | (with_reducible exact LeO.refl _)
      | (with_reducible exact LeO.none _)
      | (with_reducible refine LeO.ite ?_ ?_)
      | (with_reducible refine LeO.bind ?_ (fun _ => ?_))
      | exact ih0 _ _ _ _ _ _
      | exact ih1 _ _ _ _ _ _
      | exact ih2 _ _ _ _ _
      | exact ih3 _ _ _ _ _
      | exact ih4 _ _ _
      | exact ih5 _ _ _
      | exact ih6 _ _ _
      | exact ih7 _ _
      | exact LeO.none _
      | refine LeO.ite ?_ ?_
      | refine LeO.bind ?_ (fun _ => ?_)
    · intro y0 y1 y2 y3 y4 y5
      unfold joustlaw06_NameCuts.j1
      repeat' first
      | (with_reducible exact ih0 _ _ _ _ _ _)
      | (with_reducible exact ih1 _ _ _ _ _ _)
      | (with_reducible exact ih2 _ _ _ _ _)
      | (with_reducible exact ih3 _ _ _ _ _)
      | (with_reducible exact ih4 _ _ _)
      | (with_reducible exact ih5 _ _ _)
      | (with_reducible exact ih6 _ _ _)
      | (with_reducible exact ih7 _ _)
      | (with_reducible exact LeO.refl _)
      | (with_reducible exact LeO.none _)
      | (with_reducible refine LeO.ite ?_ ?_)
      | (with_reducible refine LeO.bind ?_ (fun _ => ?_))
      | exact ih0 _ _ _ _ _ _
      | exact ih1 _ _ _ _ _ _
      | exact ih2 _ _ _ _ _
      | exact ih3 _ _ _ _ _
      | exact ih4 _ _ _
      | exact ih5 _ _ _
      | exact ih6 _ _ _
      | exact ih7 _ _
      | exact LeO.none _
      | refine LeO.ite ?_ ?_
      | refine LeO.bind ?_ (fun _ => ?_)
    · intro y0 y1 y2 y3 y4
      unfold joustlaw06_NameCuts.j2
      repeat' first
      | (with_reducible exact ih0 _ _ _ _ _ _)
      | (with_reducible exact ih1 _ _ _ _ _ _)
      | (with_reducible exact ih2 _ _ _ _ _)
      | (with_reducible exact ih3 _ _ _ _ _)
      | (with_reducible exact ih4 _ _ _)
      | (with_reducible exact ih5 _ _ _)
      | (with_reducible exact ih6 _ _ _)
      | (with_reducible exact ih7 _ _)
      | (with_reducible exact LeO.refl _)
      | (with_reducible exact LeO.none _)
      | (with_reducible refine LeO.ite ?_ ?_)
      | (with_reducible refine LeO.bind ?_ (fun _ => ?_))
      | exact ih0 _ _ _ _ _ _
      | exact ih1 _ _ _ _ _ _
      | exact ih2 _ _ _ _ _
      | exact ih3 _ _ _ _ _
      | exact ih4 _ _ _
      | exact ih5 _ _ _
      | exact ih6 _ _ _
      | exact ih7 _ _
      | exact LeO.none _
      | refine LeO.ite ?_ ?_
      | refine LeO.bind ?_ (fun _ => ?_)
    · intro y0 y1 y2 y3 y4
      unfold joustlaw06_NameCuts.j3
      repeat' first
      | (with_reducible exact ih0 _ _ _ _ _ _)
      | (with_reducible exact ih1 _ _ _ _ _ _)
      | (with_reducible exact ih2 _ _ _ _ _)
      | (with_reducible exact ih3 _ _ _ _ _)
      | (with_reducible exact ih4 _ _ _)
      | (with_reducible exact ih5 _ _ _)
      | (with_reducible exact ih6 _ _ _)
      | (with_reducible exact ih7 _ _)
      | (with_reducible exact LeO.refl _)
      | (with_reducible exact LeO.none _)
      | (with_reducible refine LeO.ite ?_ ?_)
      | (with_reducible refine LeO.bind ?_ (fun _ => ?_))
      | exact ih0 _ _ _ _ _ _
      | exact ih1 _ _ _ _ _ _
      | exact ih2 _ _ _ _ _
      | exact ih3 _ _ _ _ _
      | exact ih4 _ _ _
      | exact ih5 _ _ _
      | exact ih6 _ _ _
      | exact ih7 _ _
      | exact LeO.none _
      | refine LeO.ite ?_ ?_
      | refine LeO.bind ?_ (fun _ => ?_)
    · intro y0 y1 y2
      unfold joustlaw06_NameCuts.j4
      repeat' first
      | (with_reducible exact ih0 _ _ _ _ _ _)
      | (with_reducible exact ih1 _ _ _ _ _ _)
      | (with_reducible exact ih2 _ _ _ _ _)
      | (with_reducible exact ih3 _ _ _ _ _)
      | (with_reducible exact ih4 _ _ _)
      | (with_reducible exact ih5 _ _ _)
      | (with_reducible exact ih6 _ _ _)
      | (with_reducible exact ih7 _ _)
      | (with_reducible exact LeO.refl _)
      | (with_reducible exact LeO.none _)
      | (with_reducible refine LeO.ite ?_ ?_)
      | (with_reducible refine LeO.bind ?_ (fun _ => ?_))
      | exact ih0 _ _ _ _ _ _
      | exact ih1 _ _ _ _ _ _
      | exact ih2 _ _ _ _ _
      | exact ih3 _ _ _ _ _
      | exact ih4 _ _ _
      | exact ih5 _ _ _
      | exact ih6 _ _ _
      | exact ih7 _ _
      | exact LeO.none _
      | refine LeO.ite ?_ ?_
      | refine LeO.bind ?_ (fun _ => ?_)
    · intro y0 y1 y2
      unfold joustlaw06_NameCuts.j5
      repeat' first
      | (with_reducible exact ih0 _ _ _ _ _ _)
      | (with_reducible exact ih1 _ _ _ _ _ _)
      | (with_reducible exact ih2 _ _ _ _ _)
      | (with_reducible exact ih3 _ _ _ _ _)
      | (with_reducible exact ih4 _ _ _)
      | (with_reducible exact ih5 _ _ _)
      | (with_reducible exact ih6 _ _ _)
      | (with_reducible exact ih7 _ _)
      | (with_reducible exact LeO.refl _)
      | (with_reducible exact LeO.none _)
      | (with_reducible refine LeO.ite ?_ ?_)
      | (with_reducible refine LeO.bind ?_ (fun _ => ?_))
      | exact ih0 _ _ _ _ _ _
      | exact ih1 _ _ _ _ _ _
      | exact ih2 _ _ _ _ _
      | exact ih3 _ _ _ _ _
      | exact ih4 _ _ _
      | exact ih5 _ _ _
      | exact ih6 _ _ _
      | exact ih7 _ _
      | exact LeO.none _
      | refine LeO.ite ?_ ?_
      | refine LeO.bind ?_ (fun _ => ?_)
    · intro y0 y1 y2
      unfold joustlaw06_NameCuts.j6
      repeat' first
      | (with_reducible exact ih0 _ _ _ _ _ _)
      | (with_reducible exact ih1 _ _ _ _ _ _)
      | (with_reducible exact ih2 _ _ _ _ _)
      | (with_reducible exact ih3 _ _ _ _ _)
      | (with_reducible exact ih4 _ _ _)
      | (with_reducible exact ih5 _ _ _)
      | (with_reducible exact ih6 _ _ _)
      | (with_reducible exact ih7 _ _)
      | (with_reducible exact LeO.refl _)
      | (with_reducible exact LeO.none _)
      | (with_reducible refine LeO.ite ?_ ?_)
      | (with_reducible refine LeO.bind ?_ (fun _ => ?_))
      | exact ih0 _ _ _ _ _ _
      | exact ih1 _ _ _ _ _ _
      | exact ih2 _ _ _ _ _
      | exact ih3 _ _ _ _ _
      | exact ih4 _ _ _
      | exact ih5 _ _ _
      | exact ih6 _ _ _
      | exact ih7 _ _
      | exact LeO.none _
      | refine LeO.ite ?_ ?_
      | refine LeO.bind ?_ (fun _ => ?_)
    · intro y0 y1
      unfold joustlaw06_NameCuts.l0
      repeat' first
      | (with_reducible exact ih0 _ _ _ _ _ _)
      | (with_reducible exact ih1 _ _ _ _ _ _)
      | (with_reducible exact ih2 _ _ _ _ _)
      | (with_reducible exact ih3 _ _ _ _ _)
      | (with_reducible exact ih4 _ _ _)
      | (with_reducible exact ih5 _ _ _)
      | (with_reducible exact ih6 _ _ _)
      | (with_reducible exact ih7 _ _)
      | (with_reducible exact LeO.refl _)
      | (with_reducible exact LeO.none _)
      | (with_reducible refine LeO.ite ?_ ?_)
      | (with_reducible refine LeO.bind ?_ (fun _ => ?_))
      | exact ih0 _ _ _ _ _ _
      | exact ih1 _ _ _ _ _ _
      | exact ih2 _ _ _ _ _
      | exact ih3 _ _ _ _ _
      | exact ih4 _ _ _
      | exact ih5 _ _ _
      | exact ih6 _ _ _
      | exact ih7 _ _
      | exact LeO.none _
      | refine LeO.ite ?_ ?_
      | refine LeO.bind ?_ (fun _ => ?_)
theorem joustlaw06_NameCuts.mono : ∀ a0 a1 a2 k, LeO (joustlaw06_NameCuts.f k a0 a1 a2) (joustlaw06_NameCuts.f (k + 1) a0 a1 a2) := by
  intro a0 a1 a2 k
  obtain ⟨ih0, ih1, ih2, ih3, ih4, ih5, ih6, ih7⟩ := joustlaw06_NameCuts.mono_l k
  unfold joustlaw06_NameCuts.f
  repeat' first
      | (with_reducible exact ih0 _ _ _ _ _ _)
      | (with_reducible exact ih1 _ _ _ _ _ _)
      | (with_reducible exact ih2 _ _ _ _ _)
      | (with_reducible exact ih3 _ _ _ _ _)
      | (with_reducible exact ih4 _ _ _)
      | (with_reducible exact ih5 _ _ _)
      | (with_reducible exact ih6 _ _ _)
      | (with_reducible exact ih7 _ _)
      | (with_reducible exact LeO.refl _)
      | (with_reducible exact LeO.none _)
      | (with_reducible refine LeO.ite ?_ ?_)
      | (with_reducible refine LeO.bind ?_ (fun _ => ?_))
      | exact ih0 _ _ _ _ _ _
      | exact ih1 _ _ _ _ _ _
      | exact ih2 _ _ _ _ _
      | exact ih3 _ _ _ _ _
      | exact ih4 _ _ _
      | exact ih5 _ _ _
      | exact ih6 _ _ _
      | exact ih7 _ _
      | exact LeO.none _
      | refine LeO.ite ?_ ?_
      | refine LeO.bind ?_ (fun _ => ?_)
set_option maxHeartbeats 8000000 in
set_option maxRecDepth 100000 in
theorem joustlaw06_NameCuts.calls (k : Nat) (a0 : ByteArray) (a1 : Int) (a2 : Int) (r : Bool) (w : World) (hGL : GL w) (h : joustlaw06_NameCuts.f k a0 a1 a2 = some r) :
    Calls Tryd.prog 5 #[.string a0, .int .i64 a1, .int .i64 a2] w fun e w' => e = .returned (.bool r) ∧ Below w.heap.size w w' := by
  have HB := Aside0.mk (Below.refl w.heap.size w)
  have H : ((joustlaw06_alive.f).bind fun t228 => (if t228 = true then ((name_Cut.f a0 a1).bind fun t229 => ((name_Runes.f a0).bind fun t230 => (if a1 < 0 then (joustlaw06_NameCuts.j0 k a0 a1 a2 t229 t230 0) else (joustlaw06_NameCuts.j0 k a0 a1 a2 t229 t230 a1)))) else (some false))) = some r := h
  clear h
  replace H := Option.bind_eq_some_iff.mp H
  obtain ⟨t228, A40, H⟩ := H
  replace H : (if t228 = true then ((name_Cut.f a0 a1).bind fun t229 => ((name_Runes.f a0).bind fun t230 => (if a1 < 0 then (joustlaw06_NameCuts.j0 k a0 a1 a2 t229 t230 0) else (joustlaw06_NameCuts.j0 k a0 a1 a2 t229 t230 a1)))) else (some false)) = some r := H
  have A4 := Aside0.mk A40
  clear A40
  by_cases c5 : t228 = true
  · subst c5
    have H1 : ((name_Cut.f a0 a1).bind fun t229 => ((name_Runes.f a0).bind fun t230 => (if a1 < 0 then (joustlaw06_NameCuts.j0 k a0 a1 a2 t229 t230 0) else (joustlaw06_NameCuts.j0 k a0 a1 a2 t229 t230 a1)))) = some r := by rw [if_pos rfl] at H; exact H
    clear H
    have H := H1
    clear H1
    replace H := Option.bind_eq_some_iff.mp H
    obtain ⟨t229, A60, H⟩ := H
    replace H : ((name_Runes.f a0).bind fun t230 => (if a1 < 0 then (joustlaw06_NameCuts.j0 k a0 a1 a2 t229 t230 0) else (joustlaw06_NameCuts.j0 k a0 a1 a2 t229 t230 a1))) = some r := H
    have A6 := Aside0.mk A60
    clear A60
    replace H := Option.bind_eq_some_iff.mp H
    obtain ⟨t230, A70, H⟩ := H
    replace H : (if a1 < 0 then (joustlaw06_NameCuts.j0 k a0 a1 a2 t229 t230 0) else (joustlaw06_NameCuts.j0 k a0 a1 a2 t229 t230 a1)) = some r := H
    have A7 := Aside0.mk A70
    clear A70
    have HC8 := Aside0.mk H
    clear H
    go_enter Tryd.func5, Tryd.ntmps5
    go_upto_if 23 with (first | ((with_reducible refine gate_callee (f := 9) rfl ?_); refine goesL_ (some 14) rfl rfl Tryd.func9 (by kernel_rfl) rfl #[] rfl (by (try simp only [List.map_toArray, List.map_cons, List.map_nil]); first | done | rfl | (simp only [List.length_drop, List.length_take]; rfl)) ?_; (with_reducible refine (joustlaw06_alive.calls  true _ ?side1 A4.out).mono ?_); (case side1 => first | exact hGL | exact GL.of_below hGL (by repeat (first | (with_reducible first | exact HB.out | apply below_alloc | apply pw_below_drewN | apply below_drew1) | exact HB.out))); rintro e w9 ⟨rfl, hb⟩; refine ⟨_, rfl, ?_⟩; have n0_ := Aside0.mk (below_step (by repeat (first | (with_reducible first | exact HB.out | apply below_alloc | apply pw_below_drewN | apply below_drew1) | exact HB.out)) hb); clear HB; have HB := n0_; clear n0_; (try clear hb); (try clear hb2); (try clear hk); (try clear hi)) | ((with_reducible refine gate_callee (f := 19) rfl ?_); refine goesL_ (some 18) rfl rfl Tryd.func19 (by kernel_rfl) rfl #[.string a0, .int .i64 a1] rfl (by (try simp only [List.map_toArray, List.map_cons, List.map_nil]); first | done | rfl | (simp only [List.length_drop, List.length_take]; rfl)) ?_; (with_reducible refine (name_Cut.calls a0 a1 t229 _ ?side1 A6.out).mono ?_); (case side1 => first | exact hGL | exact GL.of_below hGL (by repeat (first | (with_reducible first | exact HB.out | apply below_alloc | apply pw_below_drewN | apply below_drew1) | exact HB.out))); rintro e w10 ⟨rfl, hb⟩; refine ⟨_, rfl, ?_⟩; have n0_ := Aside0.mk (below_step (by repeat (first | (with_reducible first | exact HB.out | apply below_alloc | apply pw_below_drewN | apply below_drew1) | exact HB.out)) hb); clear HB; have HB := n0_; clear n0_; (try clear hb); (try clear hb2); (try clear hk); (try clear hi)) | ((with_reducible refine gate_callee (f := 16) rfl ?_); refine goesL_ (some 20) rfl rfl Tryd.func16 (by kernel_rfl) rfl #[.string a0] rfl (by (try simp only [List.map_toArray, List.map_cons, List.map_nil]); first | done | rfl | (simp only [List.length_drop, List.length_take]; rfl)) ?_; (with_reducible refine (name_Runes.calls a0 t230 _ ?side1 A7.out).mono ?_); (case side1 => first | exact hGL | exact GL.of_below hGL (by repeat (first | (with_reducible first | exact HB.out | apply below_alloc | apply pw_below_drewN | apply below_drew1) | exact HB.out))); rintro e w11 ⟨rfl, hb⟩; refine ⟨_, rfl, ?_⟩; have n0_ := Aside0.mk (below_step (by repeat (first | (with_reducible first | exact HB.out | apply below_alloc | apply pw_below_drewN | apply below_drew1) | exact HB.out)) hb); clear HB; have HB := n0_; clear n0_; (try clear hb); (try clear hb2); (try clear hk); (try clear hi)))
    (try simp only [Act.put, List.setIfInBounds_toArray, List.set_cons_zero, List.set_cons_succ])
    go_cut [9] (fun v9 wc => ∃ (kq : Nat) (x9_7 : Int), v9 = .int .i64 x9_7 ∧ Aside0 (joustlaw06_NameCuts.j0 kq a0 a1 a2 t229 t230 x9_7 = some r) ∧ Aside0 (kq ≤ k) ∧ Aside0 (Below w.heap.size w wc))
    case first =>
      have H := HC8.out
      clear HC8
      by_cases c12 : a1 < 0
      · rw [if_pos c12] at H
        have c12b0 : decide (a1 < 0) = true := decide_eq_true c12
        clear c12
        (first | rw [c12b0] | (simp only [i64_w, i32_w]; rw [c12b0]) | skip)
        have H' := Aside0.mk H
        clear H
        go_wp2
        go_meet
        case rel => exact ⟨_, (0), (by first | rfl | (simp; done) | (simp [*]; done) | (simp [bne]; done) | (simp [*, bne]; done)), H', ⟨by first | omega | exact Nat.le_refl _⟩, ⟨by repeat (first | (with_reducible first | exact HB.out | apply below_alloc | apply pw_below_drewN | apply below_drew1) | exact HB.out)⟩⟩
      · rw [if_neg c12] at H
        have c12b0 : decide (a1 < 0) = false := decide_eq_false c12
        clear c12
        (first | rw [c12b0] | (simp only [i64_w, i32_w]; rw [c12b0]) | skip)
        have H' := Aside0.mk H
        clear H
        go_wp2
        go_meet
        case rel => exact ⟨_, (a1), (by first | rfl | (simp; done) | (simp [*]; done) | (simp [bne]; done) | (simp [*, bne]; done)), H', ⟨by first | omega | exact Nat.le_refl _⟩, ⟨by repeat (first | (with_reducible first | exact HB.out | apply below_alloc | apply pw_below_drewN | apply below_drew1) | exact HB.out)⟩⟩
    case rest =>
      clear HC8
      try clear c1
      try clear p2
      try clear c5
      try clear c9
      try clear c12
      try clear c12b0
      obtain ⟨kq, x9_7, rfl, HA, HJ7, HB⟩ := hcut
      cases kq with
      | zero => exact absurd HA.out (by simp [joustlaw06_NameCuts.j0])
      | succ kj7 =>
        have H := HA.out
        clear HA
        simp only [joustlaw06_NameCuts.j0] at H
        have HC13 := Aside0.mk H
        clear H
        go_upto_if 26 with (fail)
        go_cut [9] (fun v9 wc => ∃ (kq : Nat) (x9_12 : Int), v9 = .int .i64 x9_12 ∧ Aside0 (joustlaw06_NameCuts.j1 kq a0 a1 a2 t229 t230 x9_12 = some r) ∧ Aside0 (kq ≤ kj7) ∧ Aside0 (Below w.heap.size w wc))
        case first =>
          have H := HC13.out
          clear HC13
          by_cases c14 : x9_7 > t230
          · rw [if_pos c14] at H
            have c14b0 : decide (t230 < x9_7) = true := decide_eq_true c14
            clear c14
            (first | rw [c14b0] | (simp only [i64_w, i32_w]; rw [c14b0]) | skip)
            have H' := Aside0.mk H
            clear H
            go_wp2
            go_meet
            case rel => exact ⟨_, (t230), (by first | rfl | (simp; done) | (simp [*]; done) | (simp [bne]; done) | (simp [*, bne]; done)), H', ⟨by have := HJ7.out; first | omega | exact Nat.le_refl _⟩, ⟨by repeat (first | (with_reducible first | exact HB.out | apply below_alloc | apply pw_below_drewN | apply below_drew1) | exact HB.out)⟩⟩
          · rw [if_neg c14] at H
            have c14b0 : decide (t230 < x9_7) = false := decide_eq_false c14
            clear c14
            (first | rw [c14b0] | (simp only [i64_w, i32_w]; rw [c14b0]) | skip)
            have H' := Aside0.mk H
            clear H
            go_wp2
            go_meet
            case rel => exact ⟨_, (x9_7), (by first | rfl | (simp; done) | (simp [*]; done) | (simp [bne]; done) | (simp [*, bne]; done)), H', ⟨by have := HJ7.out; first | omega | exact Nat.le_refl _⟩, ⟨by repeat (first | (with_reducible first | exact HB.out | apply below_alloc | apply pw_below_drewN | apply below_drew1) | exact HB.out)⟩⟩
        case rest =>
          clear HC13
          try clear c1
          try clear p2
          try clear c5
          try clear c9
          try clear c12
          try clear c12b0
          try clear c14
          try clear c14b0
          try clear p2
          obtain ⟨kq, x9_12, rfl, HA, HJ12, HB⟩ := hcut
          cases kq with
          | zero => exact absurd HA.out (by simp [joustlaw06_NameCuts.j1])
          | succ kj12 =>
            have H := HA.out
            clear HA
            simp only [joustlaw06_NameCuts.j1] at H
            have HC15 := Aside0.mk H
            clear H
            go_upto_region 10 with (fail)
            go_cut [56] (fun v56 wc => ∃ (kq : Nat) (x56_14 : Bool), v56 = .bool x56_14 ∧ Aside0 (joustlaw06_NameCuts.j2 kq a0 a1 a2 t229 x56_14 = some r) ∧ Aside0 (kq ≤ kj12) ∧ Aside0 (Below w.heap.size w wc))
            case first =>
              have H := HC15.out
              clear HC15
              by_cases c16 : (t229.size : Int) > (a0.size : Int)
              · rw [if_pos c16] at H
                have c16b0 : decide ((a0.size : Int) < (t229.size : Int)) = true := decide_eq_true c16
                have c16b1 : decide (a0.size < t229.size) = true := decide_eq_true (Int.ofNat_lt.mp c16)
                clear c16
                (first | rw [c16b0] | (simp only [i64_w, i32_w]; rw [c16b0]) | skip)
                have H' := Aside0.mk H
                clear H
                go_wp2
                go_meet
                case rel => exact ⟨_, (true), (by first | rfl | (simp; done) | (simp [*]; done) | (simp [bne]; done) | (simp [*, bne]; done)), H', ⟨by have := HJ7.out; have := HJ12.out; first | omega | exact Nat.le_refl _⟩, ⟨by repeat (first | (with_reducible first | exact HB.out | apply below_alloc | apply pw_below_drewN | apply below_drew1) | exact HB.out)⟩⟩
              · rw [if_neg c16] at H
                have c16b0 : decide ((a0.size : Int) < (t229.size : Int)) = false := decide_eq_false c16
                have c16b1 : decide (a0.size < t229.size) = false := decide_eq_false (fun h => c16 (Int.ofNat_lt.mpr h))
                clear c16
                (first | rw [c16b0] | (simp only [i64_w, i32_w]; rw [c16b0]) | skip)
                by_cases c17 : 0 ≤ (t229.size : Int)
                · rw [if_pos c17] at H
                  have c17b0 := eq_true c17
                  have c17b1 : decide (0 ≤ (t229.size : Int)) = true := decide_eq_true c17
                  clear c17
                  by_cases c18 : (t229.size : Int) ≤ (a0.size : Int)
                  · rw [if_pos c18] at H
                    have c18b0 := eq_true c18
                    have c18b1 : decide ((t229.size : Int) ≤ (a0.size : Int)) = true := decide_eq_true c18
                    clear c18
                    by_cases c19 : t229.toList = (a0.extract 0 ((t229.size : Int) : Int).toNat).toList
                    · rw [if_pos c19] at H
                      have c19b0 : (t229.toList == (a0.extract 0 ((t229.size : Int) : Int).toNat).toList) = true := beq_iff_eq.mpr c19
                      (try simp only [Int.toNat_natCast] at c19b0)
                      have c19b1 : (t229.toList != (a0.extract 0 ((t229.size : Int) : Int).toNat).toList) = false := bne_eq_false_iff_eq.mpr c19
                      (try simp only [Int.toNat_natCast] at c19b1)
                      clear c19
                      replace H := Option.bind_eq_some_iff.mp H
                      obtain ⟨t231, A200, H⟩ := H
                      replace H : (if t231 = x9_12 then (if a1 ≥ t230 then (joustlaw06_NameCuts.j2 kj12 a0 a1 a2 t229 (t229.toList != a0.toList)) else (joustlaw06_NameCuts.j2 kj12 a0 a1 a2 t229 false)) else (joustlaw06_NameCuts.j2 kj12 a0 a1 a2 t229 true)) = some r := H
                      have A20 := Aside0.mk A200
                      clear A200
                      by_cases c21 : t231 = x9_12
                      · rw [if_pos c21] at H
                        have c21b0 : (t231 == x9_12) = true := beq_iff_eq.mpr c21
                        have c21b1 : (t231 != x9_12) = false := bne_eq_false_iff_eq.mpr c21
                        clear c21
                        by_cases c22 : a1 ≥ t230
                        · rw [if_pos c22] at H
                          have c22b0 : decide (t230 ≤ a1) = true := decide_eq_true c22
                          clear c22
                          have H' := Aside0.mk H
                          clear H
                          go_wp2_with (first | (go_at_call 16; (with_reducible refine (name_Runes.calls t229 t231 _ ?side1 A20.out).mono ?_); (case side1 => first | exact hGL | exact GL.of_below hGL (by repeat (first | (with_reducible first | exact HB.out | apply below_alloc | apply pw_below_drewN | apply below_drew1) | exact HB.out))); rintro e w23 ⟨rfl, hb⟩; have n0_ := Aside0.mk (below_step (by repeat (first | (with_reducible first | exact HB.out | apply below_alloc | apply pw_below_drewN | apply below_drew1) | exact HB.out)) hb); clear HB; have HB := n0_; clear n0_; (try clear hb); (try clear hb2); (try clear hk); (try clear hi)))
                          go_meet
                          case rel => exact ⟨_, ((t229.toList != a0.toList)), (by first | rfl | (simp; done) | (simp [*]; done) | (simp [bne]; done) | (simp [*, bne]; done)), H', ⟨by have := HJ7.out; have := HJ12.out; first | omega | exact Nat.le_refl _⟩, ⟨by repeat (first | (with_reducible first | exact HB.out | apply below_alloc | apply pw_below_drewN | apply below_drew1) | exact HB.out)⟩⟩
                        · rw [if_neg c22] at H
                          have c22b0 : decide (t230 ≤ a1) = false := decide_eq_false c22
                          clear c22
                          have H' := Aside0.mk H
                          clear H
                          go_wp2_with (first | (go_at_call 16; (with_reducible refine (name_Runes.calls t229 t231 _ ?side1 A20.out).mono ?_); (case side1 => first | exact hGL | exact GL.of_below hGL (by repeat (first | (with_reducible first | exact HB.out | apply below_alloc | apply pw_below_drewN | apply below_drew1) | exact HB.out))); rintro e w24 ⟨rfl, hb⟩; have n0_ := Aside0.mk (below_step (by repeat (first | (with_reducible first | exact HB.out | apply below_alloc | apply pw_below_drewN | apply below_drew1) | exact HB.out)) hb); clear HB; have HB := n0_; clear n0_; (try clear hb); (try clear hb2); (try clear hk); (try clear hi)))
                          go_meet
                          case rel => exact ⟨_, (false), (by first | rfl | (simp; done) | (simp [*]; done) | (simp [bne]; done) | (simp [*, bne]; done)), H', ⟨by have := HJ7.out; have := HJ12.out; first | omega | exact Nat.le_refl _⟩, ⟨by repeat (first | (with_reducible first | exact HB.out | apply below_alloc | apply pw_below_drewN | apply below_drew1) | exact HB.out)⟩⟩
                      · rw [if_neg c21] at H
                        have c21b0 : (t231 == x9_12) = false := beq_eq_false_iff_ne.mpr c21
                        have c21b1 : (t231 != x9_12) = true := bne_iff_ne.mpr c21
                        have H' := Aside0.mk H
                        clear H
                        go_wp2_with (first | (go_at_call 16; (with_reducible refine (name_Runes.calls t229 t231 _ ?side1 A20.out).mono ?_); (case side1 => first | exact hGL | exact GL.of_below hGL (by repeat (first | (with_reducible first | exact HB.out | apply below_alloc | apply pw_below_drewN | apply below_drew1) | exact HB.out))); rintro e w25 ⟨rfl, hb⟩; have n0_ := Aside0.mk (below_step (by repeat (first | (with_reducible first | exact HB.out | apply below_alloc | apply pw_below_drewN | apply below_drew1) | exact HB.out)) hb); clear HB; have HB := n0_; clear n0_; (try clear hb); (try clear hb2); (try clear hk); (try clear hi)))
                        go_meet
                        case rel => exact ⟨_, (true), (by first | rfl | (simp; done) | (simp [*]; done) | (simp [bne]; done) | (simp [*, bne]; done)), H', ⟨by have := HJ7.out; have := HJ12.out; first | omega | exact Nat.le_refl _⟩, ⟨by repeat (first | (with_reducible first | exact HB.out | apply below_alloc | apply pw_below_drewN | apply below_drew1) | exact HB.out)⟩⟩
                    · rw [if_neg c19] at H
                      have c19b0 : (t229.toList == (a0.extract 0 ((t229.size : Int) : Int).toNat).toList) = false := beq_eq_false_iff_ne.mpr c19
                      (try simp only [Int.toNat_natCast] at c19b0)
                      have c19b1 : (t229.toList != (a0.extract 0 ((t229.size : Int) : Int).toNat).toList) = true := bne_iff_ne.mpr c19
                      (try simp only [Int.toNat_natCast] at c19b1)
                      have H' := Aside0.mk H
                      clear H
                      go_wp2
                      go_meet
                      case rel => exact ⟨_, (true), (by first | rfl | (simp; done) | (simp [*]; done) | (simp [bne]; done) | (simp [*, bne]; done)), H', ⟨by have := HJ7.out; have := HJ12.out; first | omega | exact Nat.le_refl _⟩, ⟨by repeat (first | (with_reducible first | exact HB.out | apply below_alloc | apply pw_below_drewN | apply below_drew1) | exact HB.out)⟩⟩
                  · rw [if_neg c18] at H
                    exact absurd H (by simp)
                · rw [if_neg c17] at H
                  exact absurd H (by simp)
            case rest =>
              clear HC15
              try clear c1
              try clear c2
              try clear p2
              try clear c5
              try clear c9
              try clear c12
              try clear c12b0
              try clear c14
              try clear c14b0
              try clear c16
              try clear c16b0
              try clear c16b1
              try clear c17
              try clear c17b0
              try clear c17b1
              try clear c18
              try clear c18b0
              try clear c18b1
              try clear c19
              try clear c19b0
              try clear c19b1
              try clear c21
              try clear c21b0
              try clear c21b1
              try clear c22
              try clear c22b0
              try clear p2
              obtain ⟨kq, x56_14, rfl, HA, HJ14, HB⟩ := hcut
              cases kq with
              | zero => exact absurd HA.out (by simp [joustlaw06_NameCuts.j2])
              | succ kj14 =>
                have H := HA.out
                clear HA
                simp only [joustlaw06_NameCuts.j2] at H
                by_cases c26 : x56_14 = true
                · subst c26
                  have H1 : (some false) = some r := by rw [if_pos rfl] at H; exact H
                  clear H
                  have H := H1
                  clear H1
                  obtain rfl := Option.some.inj H
                  go_wp2
                  go_ret
                  exact ⟨by first | rfl | (simp [errW_none, errW_some] <;> rfl) | (simp [*, errW_none, errW_some] <;> rfl), by repeat (first | (with_reducible first | exact HB.out | apply below_alloc | apply pw_below_drewN | apply below_drew1) | exact HB.out)⟩
                · replace c26 := Bool.eq_false_iff.mpr c26
                  subst c26
                  have H1 : (if a2 < a1 then (joustlaw06_NameCuts.j3 kj14 a0 a1 a2 t229 a2) else (joustlaw06_NameCuts.j3 kj14 a0 a1 a2 t229 a1)) = some r := by rw [if_neg (show ¬ (false = true) by decide)] at H; exact H
                  clear H
                  have H := H1
                  clear H1
                  have HC27 := Aside0.mk H
                  clear H
                  go_upto_if 60 with (fail)
                  go_cut [10] (fun v10 wc => ∃ (kq : Nat) (x10_26 : Int), v10 = .int .i64 x10_26 ∧ Aside0 (joustlaw06_NameCuts.j3 kq a0 a1 a2 t229 x10_26 = some r) ∧ Aside0 (kq ≤ kj14) ∧ Aside0 (Below w.heap.size w wc))
                  case first =>
                    have H := HC27.out
                    clear HC27
                    by_cases c28 : a2 < a1
                    · rw [if_pos c28] at H
                      have c28b0 : decide (a2 < a1) = true := decide_eq_true c28
                      clear c28
                      (first | rw [c28b0] | (simp only [i64_w, i32_w]; rw [c28b0]) | skip)
                      have H' := Aside0.mk H
                      clear H
                      go_wp2
                      go_meet
                      case rel => exact ⟨_, (a2), (by first | rfl | (simp; done) | (simp [*]; done) | (simp [bne]; done) | (simp [*, bne]; done)), H', ⟨by have := HJ7.out; have := HJ12.out; have := HJ14.out; first | omega | exact Nat.le_refl _⟩, ⟨by repeat (first | (with_reducible first | exact HB.out | apply below_alloc | apply pw_below_drewN | apply below_drew1) | exact HB.out)⟩⟩
                    · rw [if_neg c28] at H
                      have c28b0 : decide (a2 < a1) = false := decide_eq_false c28
                      clear c28
                      (first | rw [c28b0] | (simp only [i64_w, i32_w]; rw [c28b0]) | skip)
                      have H' := Aside0.mk H
                      clear H
                      go_wp2
                      go_meet
                      case rel => exact ⟨_, (a1), (by first | rfl | (simp; done) | (simp [*]; done) | (simp [bne]; done) | (simp [*, bne]; done)), H', ⟨by have := HJ7.out; have := HJ12.out; have := HJ14.out; first | omega | exact Nat.le_refl _⟩, ⟨by repeat (first | (with_reducible first | exact HB.out | apply below_alloc | apply pw_below_drewN | apply below_drew1) | exact HB.out)⟩⟩
                  case rest =>
                    clear HC27
                    try clear c1
                    try clear c2
                    try clear p2
                    try clear c5
                    try clear c9
                    try clear c12
                    try clear c12b0
                    try clear c14
                    try clear c14b0
                    try clear c16
                    try clear c16b0
                    try clear c16b1
                    try clear c17
                    try clear c17b0
                    try clear c17b1
                    try clear c18
                    try clear c18b0
                    try clear c18b1
                    try clear c19
                    try clear c19b0
                    try clear c19b1
                    try clear c21
                    try clear c21b0
                    try clear c21b1
                    try clear c22
                    try clear c22b0
                    try clear c26
                    try clear c28
                    try clear c28b0
                    try clear p2
                    obtain ⟨kq, x10_26, rfl, HA, HJ26, HB⟩ := hcut
                    cases kq with
                    | zero => exact absurd HA.out (by simp [joustlaw06_NameCuts.j3])
                    | succ kj26 =>
                      have H := HA.out
                      clear HA
                      simp only [joustlaw06_NameCuts.j3] at H
                      replace H := Option.bind_eq_some_iff.mp H
                      obtain ⟨t232, A290, H⟩ := H
                      replace H : ((name_Cut.f a0 x10_26).bind fun t233 => (if t232.toList = t233.toList then ((name_Pad.f a0 a1).bind fun t234 => (if a1 < 0 then (joustlaw06_NameCuts.j4 kj26 a0 t234 0) else (joustlaw06_NameCuts.j4 kj26 a0 t234 a1))) else (some false))) = some r := H
                      have A29 := Aside0.mk A290
                      clear A290
                      replace H := Option.bind_eq_some_iff.mp H
                      obtain ⟨t233, A300, H⟩ := H
                      replace H : (if t232.toList = t233.toList then ((name_Pad.f a0 a1).bind fun t234 => (if a1 < 0 then (joustlaw06_NameCuts.j4 kj26 a0 t234 0) else (joustlaw06_NameCuts.j4 kj26 a0 t234 a1))) else (some false)) = some r := H
                      have A30 := Aside0.mk A300
                      clear A300
                      by_cases c31 : t232.toList = t233.toList
                      · rw [if_pos c31] at H
                        have c31b0 : (t232.toList == t233.toList) = true := beq_iff_eq.mpr c31
                        have c31b1 : (t232.toList != t233.toList) = false := bne_eq_false_iff_eq.mpr c31
                        clear c31
                        replace H := Option.bind_eq_some_iff.mp H
                        obtain ⟨t234, A320, H⟩ := H
                        replace H : (if a1 < 0 then (joustlaw06_NameCuts.j4 kj26 a0 t234 0) else (joustlaw06_NameCuts.j4 kj26 a0 t234 a1)) = some r := H
                        have A32 := Aside0.mk A320
                        clear A320
                        have HC33 := Aside0.mk H
                        clear H
                        go_upto_if 74 with (first | ((with_reducible refine gate_callee (f := 19) rfl ?_); refine goesL_ (some 64) rfl rfl Tryd.func19 (by kernel_rfl) rfl #[.string t229, .int .i64 a2] rfl (by (try simp only [List.map_toArray, List.map_cons, List.map_nil]); first | done | rfl | (simp only [List.length_drop, List.length_take]; rfl)) ?_; (with_reducible refine (name_Cut.calls t229 a2 t232 _ ?side1 A29.out).mono ?_); (case side1 => first | exact hGL | exact GL.of_below hGL (by repeat (first | (with_reducible first | exact HB.out | apply below_alloc | apply pw_below_drewN | apply below_drew1) | exact HB.out))); rintro e w34 ⟨rfl, hb⟩; refine ⟨_, rfl, ?_⟩; have n0_ := Aside0.mk (below_step (by repeat (first | (with_reducible first | exact HB.out | apply below_alloc | apply pw_below_drewN | apply below_drew1) | exact HB.out)) hb); clear HB; have HB := n0_; clear n0_; (try clear hb); (try clear hb2); (try clear hk); (try clear hi)) | ((with_reducible refine gate_callee (f := 19) rfl ?_); refine goesL_ (some 67) rfl rfl Tryd.func19 (by kernel_rfl) rfl #[.string a0, .int .i64 x10_26] rfl (by (try simp only [List.map_toArray, List.map_cons, List.map_nil]); first | done | rfl | (simp only [List.length_drop, List.length_take]; rfl)) ?_; (with_reducible refine (name_Cut.calls a0 x10_26 t233 _ ?side1 A30.out).mono ?_); (case side1 => first | exact hGL | exact GL.of_below hGL (by repeat (first | (with_reducible first | exact HB.out | apply below_alloc | apply pw_below_drewN | apply below_drew1) | exact HB.out))); rintro e w35 ⟨rfl, hb⟩; refine ⟨_, rfl, ?_⟩; have n0_ := Aside0.mk (below_step (by repeat (first | (with_reducible first | exact HB.out | apply below_alloc | apply pw_below_drewN | apply below_drew1) | exact HB.out)) hb); clear HB; have HB := n0_; clear n0_; (try clear hb); (try clear hb2); (try clear hk); (try clear hi)) | ((with_reducible refine gate_callee (f := 20) rfl ?_); refine goesL_ (some 71) rfl rfl Tryd.func20 (by kernel_rfl) rfl #[.string a0, .int .i64 a1] rfl (by (try simp only [List.map_toArray, List.map_cons, List.map_nil]); first | done | rfl | (simp only [List.length_drop, List.length_take]; rfl)) ?_; (with_reducible refine (name_Pad.calls a0 a1 t234 _ ?side1 A32.out).mono ?_); (case side1 => first | exact hGL | exact GL.of_below hGL (by repeat (first | (with_reducible first | exact HB.out | apply below_alloc | apply pw_below_drewN | apply below_drew1) | exact HB.out))); rintro e w36 ⟨rfl, hb⟩; refine ⟨_, rfl, ?_⟩; have n0_ := Aside0.mk (below_step (by repeat (first | (with_reducible first | exact HB.out | apply below_alloc | apply pw_below_drewN | apply below_drew1) | exact HB.out)) hb); clear HB; have HB := n0_; clear n0_; (try clear hb); (try clear hb2); (try clear hk); (try clear hi)))
                        (try simp only [Act.put, List.setIfInBounds_toArray, List.set_cons_zero, List.set_cons_succ])
                        go_cut [12] (fun v12 wc => ∃ (kq : Nat) (x12_32 : Int), v12 = .int .i64 x12_32 ∧ Aside0 (joustlaw06_NameCuts.j4 kq a0 t234 x12_32 = some r) ∧ Aside0 (kq ≤ kj26) ∧ Aside0 (Below w.heap.size w wc))
                        case first =>
                          have H := HC33.out
                          clear HC33
                          by_cases c37 : a1 < 0
                          · rw [if_pos c37] at H
                            have c37b0 : decide (a1 < 0) = true := decide_eq_true c37
                            clear c37
                            (first | rw [c37b0] | (simp only [i64_w, i32_w]; rw [c37b0]) | skip)
                            have H' := Aside0.mk H
                            clear H
                            go_wp2
                            go_meet
                            case rel => exact ⟨_, (0), (by first | rfl | (simp; done) | (simp [*]; done) | (simp [bne]; done) | (simp [*, bne]; done)), H', ⟨by have := HJ7.out; have := HJ12.out; have := HJ14.out; have := HJ26.out; first | omega | exact Nat.le_refl _⟩, ⟨by repeat (first | (with_reducible first | exact HB.out | apply below_alloc | apply pw_below_drewN | apply below_drew1) | exact HB.out)⟩⟩
                          · rw [if_neg c37] at H
                            have c37b0 : decide (a1 < 0) = false := decide_eq_false c37
                            clear c37
                            (first | rw [c37b0] | (simp only [i64_w, i32_w]; rw [c37b0]) | skip)
                            have H' := Aside0.mk H
                            clear H
                            go_wp2
                            go_meet
                            case rel => exact ⟨_, (a1), (by first | rfl | (simp; done) | (simp [*]; done) | (simp [bne]; done) | (simp [*, bne]; done)), H', ⟨by have := HJ7.out; have := HJ12.out; have := HJ14.out; have := HJ26.out; first | omega | exact Nat.le_refl _⟩, ⟨by repeat (first | (with_reducible first | exact HB.out | apply below_alloc | apply pw_below_drewN | apply below_drew1) | exact HB.out)⟩⟩
                        case rest =>
                          clear HC33
                          try clear c1
                          try clear c2
                          try clear p2
                          try clear c3
                          try clear c5
                          try clear c9
                          try clear c12
                          try clear c12b0
                          try clear c14
                          try clear c14b0
                          try clear c16
                          try clear c16b0
                          try clear c16b1
                          try clear c17
                          try clear c17b0
                          try clear c17b1
                          try clear c18
                          try clear c18b0
                          try clear c18b1
                          try clear c19
                          try clear c19b0
                          try clear c19b1
                          try clear c20
                          try clear c21
                          try clear c21b0
                          try clear c21b1
                          try clear c22
                          try clear c22b0
                          try clear c26
                          try clear c28
                          try clear c28b0
                          try clear c31
                          try clear c31b0
                          try clear c31b1
                          try clear c37
                          try clear c37b0
                          try clear p2
                          obtain ⟨kq, x12_32, rfl, HA, HJ32, HB⟩ := hcut
                          cases kq with
                          | zero => exact absurd HA.out (by simp [joustlaw06_NameCuts.j4])
                          | succ kj32 =>
                            have H := HA.out
                            clear HA
                            simp only [joustlaw06_NameCuts.j4] at H
                            have HC38 := Aside0.mk H
                            clear H
                            go_upto_if 76 with (fail)
                            go_cut [12] (fun v12 wc => ∃ (kq : Nat) (x12_37 : Int), v12 = .int .i64 x12_37 ∧ Aside0 (joustlaw06_NameCuts.j5 kq a0 t234 x12_37 = some r) ∧ Aside0 (kq ≤ kj32) ∧ Aside0 (Below w.heap.size w wc))
                            case first =>
                              have H := HC38.out
                              clear HC38
                              by_cases c39 : x12_32 > 4096
                              · rw [if_pos c39] at H
                                have c39b0 : decide (4096 < x12_32) = true := decide_eq_true c39
                                clear c39
                                (first | rw [c39b0] | (simp only [i64_w, i32_w]; rw [c39b0]) | skip)
                                have H' := Aside0.mk H
                                clear H
                                go_wp2
                                go_meet
                                case rel => exact ⟨_, (4096), (by first | rfl | (simp; done) | (simp [*]; done) | (simp [bne]; done) | (simp [*, bne]; done)), H', ⟨by have := HJ7.out; have := HJ12.out; have := HJ14.out; have := HJ26.out; have := HJ32.out; first | omega | exact Nat.le_refl _⟩, ⟨by repeat (first | (with_reducible first | exact HB.out | apply below_alloc | apply pw_below_drewN | apply below_drew1) | exact HB.out)⟩⟩
                              · rw [if_neg c39] at H
                                have c39b0 : decide (4096 < x12_32) = false := decide_eq_false c39
                                clear c39
                                (first | rw [c39b0] | (simp only [i64_w, i32_w]; rw [c39b0]) | skip)
                                have H' := Aside0.mk H
                                clear H
                                go_wp2
                                go_meet
                                case rel => exact ⟨_, (x12_32), (by first | rfl | (simp; done) | (simp [*]; done) | (simp [bne]; done) | (simp [*, bne]; done)), H', ⟨by have := HJ7.out; have := HJ12.out; have := HJ14.out; have := HJ26.out; have := HJ32.out; first | omega | exact Nat.le_refl _⟩, ⟨by repeat (first | (with_reducible first | exact HB.out | apply below_alloc | apply pw_below_drewN | apply below_drew1) | exact HB.out)⟩⟩
                            case rest =>
                              clear HC38
                              try clear c1
                              try clear c2
                              try clear p2
                              try clear c3
                              try clear c5
                              try clear c9
                              try clear c12
                              try clear c12b0
                              try clear c14
                              try clear c14b0
                              try clear c16
                              try clear c16b0
                              try clear c16b1
                              try clear c17
                              try clear c17b0
                              try clear c17b1
                              try clear c18
                              try clear c18b0
                              try clear c18b1
                              try clear c19
                              try clear c19b0
                              try clear c19b1
                              try clear c20
                              try clear c21
                              try clear c21b0
                              try clear c21b1
                              try clear c22
                              try clear c22b0
                              try clear c26
                              try clear c28
                              try clear c28b0
                              try clear c31
                              try clear c31b0
                              try clear c31b1
                              try clear c37
                              try clear c37b0
                              try clear c39
                              try clear c39b0
                              try clear p2
                              obtain ⟨kq, x12_37, rfl, HA, HJ37, HB⟩ := hcut
                              cases kq with
                              | zero => exact absurd HA.out (by simp [joustlaw06_NameCuts.j5])
                              | succ kj37 =>
                                have H := HA.out
                                clear HA
                                simp only [joustlaw06_NameCuts.j5] at H
                                replace H := Option.bind_eq_some_iff.mp H
                                obtain ⟨t235, A400, H⟩ := H
                                replace H : ((name_Runes.f t234).bind fun t236 => (if t236 = x12_37 then (if (t234.size : Int) < (t235.size : Int) then (joustlaw06_NameCuts.j6 kj37 t235 t234 true) else (if 0 ≤ (t235.size : Int) then (if (t235.size : Int) ≤ (t234.size : Int) then (if (t234.extract 0 ((t235.size : Int) : Int).toNat).toList = t235.toList then ((name_Runes.f t235).bind fun t237 => (joustlaw06_NameCuts.j6 kj37 t235 t234 ((wrap64 ((t234.size : Int) - (t235.size : Int))) != (wrap64 (x12_37 - t237))))) else (joustlaw06_NameCuts.j6 kj37 t235 t234 true)) else (none)) else (none))) else (joustlaw06_NameCuts.j6 kj37 t235 t234 true))) = some r := H
                                have A40 := Aside0.mk A400
                                clear A400
                                have HC41 := Aside0.mk H
                                clear H
                                go_upto_region 24 with (first | ((with_reducible refine gate_callee (f := 19) rfl ?_); refine goesL_ (some 79) rfl rfl Tryd.func19 (by kernel_rfl) rfl #[.string a0, .int .i64 x12_37] rfl (by (try simp only [List.map_toArray, List.map_cons, List.map_nil]); first | done | rfl | (simp only [List.length_drop, List.length_take]; rfl)) ?_; (with_reducible refine (name_Cut.calls a0 x12_37 t235 _ ?side1 A40.out).mono ?_); (case side1 => first | exact hGL | exact GL.of_below hGL (by repeat (first | (with_reducible first | exact HB.out | apply below_alloc | apply pw_below_drewN | apply below_drew1) | exact HB.out))); rintro e w42 ⟨rfl, hb⟩; refine ⟨_, rfl, ?_⟩; have n0_ := Aside0.mk (below_step (by repeat (first | (with_reducible first | exact HB.out | apply below_alloc | apply pw_below_drewN | apply below_drew1) | exact HB.out)) hb); clear HB; have HB := n0_; clear n0_; (try clear hb); (try clear hb2); (try clear hk); (try clear hi)))
                                (try simp only [Act.put, List.setIfInBounds_toArray, List.set_cons_zero, List.set_cons_succ])
                                go_cut [110] (fun v110 wc => ∃ (kq : Nat) (x110_40 : Bool), v110 = .bool x110_40 ∧ Aside0 (joustlaw06_NameCuts.j6 kq t235 t234 x110_40 = some r) ∧ Aside0 (kq ≤ kj37) ∧ Aside0 (Below w.heap.size w wc))
                                case first =>
                                  have H := HC41.out
                                  clear HC41
                                  replace H := Option.bind_eq_some_iff.mp H
                                  obtain ⟨t236, A430, H⟩ := H
                                  replace H : (if t236 = x12_37 then (if (t234.size : Int) < (t235.size : Int) then (joustlaw06_NameCuts.j6 kj37 t235 t234 true) else (if 0 ≤ (t235.size : Int) then (if (t235.size : Int) ≤ (t234.size : Int) then (if (t234.extract 0 ((t235.size : Int) : Int).toNat).toList = t235.toList then ((name_Runes.f t235).bind fun t237 => (joustlaw06_NameCuts.j6 kj37 t235 t234 ((wrap64 ((t234.size : Int) - (t235.size : Int))) != (wrap64 (x12_37 - t237))))) else (joustlaw06_NameCuts.j6 kj37 t235 t234 true)) else (none)) else (none))) else (joustlaw06_NameCuts.j6 kj37 t235 t234 true)) = some r := H
                                  have A43 := Aside0.mk A430
                                  clear A430
                                  by_cases c44 : t236 = x12_37
                                  · rw [if_pos c44] at H
                                    have c44b0 : (t236 == x12_37) = true := beq_iff_eq.mpr c44
                                    have c44b1 : (t236 != x12_37) = false := bne_eq_false_iff_eq.mpr c44
                                    clear c44
                                    (first | rw [c44b0] | (simp only [i64_w, i32_w]; rw [c44b0]) | skip)
                                    by_cases c45 : (t234.size : Int) < (t235.size : Int)
                                    · rw [if_pos c45] at H
                                      have c45b0 : decide ((t234.size : Int) < (t235.size : Int)) = true := decide_eq_true c45
                                      have c45b1 : decide (t234.size < t235.size) = true := decide_eq_true (Int.ofNat_lt.mp c45)
                                      clear c45
                                      have H' := Aside0.mk H
                                      clear H
                                      go_wp2_with (first | ((with_reducible refine gate_callee (f := 16) rfl ?_); refine goesL_ (some 81) rfl rfl Tryd.func16 (by kernel_rfl) rfl #[.string t234] rfl (by (try simp only [List.map_toArray, List.map_cons, List.map_nil]); first | done | rfl | (simp only [List.length_drop, List.length_take]; rfl)) ?_; (with_reducible refine (name_Runes.calls t234 t236 _ ?side1 A43.out).mono ?_); (case side1 => first | exact hGL | exact GL.of_below hGL (by repeat (first | (with_reducible first | exact HB.out | apply below_alloc | apply pw_below_drewN | apply below_drew1) | exact HB.out))); rintro e w46 ⟨rfl, hb⟩; refine ⟨_, rfl, ?_⟩; have n0_ := Aside0.mk (below_step (by repeat (first | (with_reducible first | exact HB.out | apply below_alloc | apply pw_below_drewN | apply below_drew1) | exact HB.out)) hb); clear HB; have HB := n0_; clear n0_; (try clear hb); (try clear hb2); (try clear hk); (try clear hi)))
                                      go_meet
                                      case rel => exact ⟨_, (true), (by first | rfl | (simp; done) | (simp [*]; done) | (simp [bne]; done) | (simp [*, bne]; done)), H', ⟨by have := HJ7.out; have := HJ12.out; have := HJ14.out; have := HJ26.out; have := HJ32.out; have := HJ37.out; first | omega | exact Nat.le_refl _⟩, ⟨by repeat (first | (with_reducible first | exact HB.out | apply below_alloc | apply pw_below_drewN | apply below_drew1) | exact HB.out)⟩⟩
                                    · rw [if_neg c45] at H
                                      have c45b0 : decide ((t234.size : Int) < (t235.size : Int)) = false := decide_eq_false c45
                                      have c45b1 : decide (t234.size < t235.size) = false := decide_eq_false (fun h => c45 (Int.ofNat_lt.mpr h))
                                      clear c45
                                      by_cases c47 : 0 ≤ (t235.size : Int)
                                      · rw [if_pos c47] at H
                                        have c47b0 := eq_true c47
                                        have c47b1 : decide (0 ≤ (t235.size : Int)) = true := decide_eq_true c47
                                        clear c47
                                        by_cases c48 : (t235.size : Int) ≤ (t234.size : Int)
                                        · rw [if_pos c48] at H
                                          have c48b0 := eq_true c48
                                          have c48b1 : decide ((t235.size : Int) ≤ (t234.size : Int)) = true := decide_eq_true c48
                                          clear c48
                                          by_cases c49 : (t234.extract 0 ((t235.size : Int) : Int).toNat).toList = t235.toList
                                          · rw [if_pos c49] at H
                                            have c49b0 : ((t234.extract 0 ((t235.size : Int) : Int).toNat).toList == t235.toList) = true := beq_iff_eq.mpr c49
                                            (try simp only [Int.toNat_natCast] at c49b0)
                                            have c49b1 : ((t234.extract 0 ((t235.size : Int) : Int).toNat).toList != t235.toList) = false := bne_eq_false_iff_eq.mpr c49
                                            (try simp only [Int.toNat_natCast] at c49b1)
                                            clear c49
                                            replace H := Option.bind_eq_some_iff.mp H
                                            obtain ⟨t237, A500, H⟩ := H
                                            replace H : (joustlaw06_NameCuts.j6 kj37 t235 t234 ((wrap64 ((t234.size : Int) - (t235.size : Int))) != (wrap64 (x12_37 - t237)))) = some r := H
                                            have A50 := Aside0.mk A500
                                            clear A500
                                            have H' := Aside0.mk H
                                            clear H
                                            go_wp2_with (first | ((with_reducible refine gate_callee (f := 16) rfl ?_); refine goesL_ (some 81) rfl rfl Tryd.func16 (by kernel_rfl) rfl #[.string t234] rfl (by (try simp only [List.map_toArray, List.map_cons, List.map_nil]); first | done | rfl | (simp only [List.length_drop, List.length_take]; rfl)) ?_; (with_reducible refine (name_Runes.calls t234 t236 _ ?side1 A43.out).mono ?_); (case side1 => first | exact hGL | exact GL.of_below hGL (by repeat (first | (with_reducible first | exact HB.out | apply below_alloc | apply pw_below_drewN | apply below_drew1) | exact HB.out))); rintro e w51 ⟨rfl, hb⟩; refine ⟨_, rfl, ?_⟩; have n0_ := Aside0.mk (below_step (by repeat (first | (with_reducible first | exact HB.out | apply below_alloc | apply pw_below_drewN | apply below_drew1) | exact HB.out)) hb); clear HB; have HB := n0_; clear n0_; (try clear hb); (try clear hb2); (try clear hk); (try clear hi)) | (go_at_call 16; (with_reducible refine (name_Runes.calls t235 t237 _ ?side1 A50.out).mono ?_); (case side1 => first | exact hGL | exact GL.of_below hGL (by repeat (first | (with_reducible first | exact HB.out | apply below_alloc | apply pw_below_drewN | apply below_drew1) | exact HB.out))); rintro e w52 ⟨rfl, hb⟩; have n0_ := Aside0.mk (below_step (by repeat (first | (with_reducible first | exact HB.out | apply below_alloc | apply pw_below_drewN | apply below_drew1) | exact HB.out)) hb); clear HB; have HB := n0_; clear n0_; (try clear hb); (try clear hb2); (try clear hk); (try clear hi)))
                                            go_meet
                                            case rel => exact ⟨_, (((wrap64 ((t234.size : Int) - (t235.size : Int))) != (wrap64 (x12_37 - t237)))), (by first | rfl | (simp; done) | (simp [*]; done) | (simp [bne]; done) | (simp [*, bne]; done)), H', ⟨by have := HJ7.out; have := HJ12.out; have := HJ14.out; have := HJ26.out; have := HJ32.out; have := HJ37.out; first | omega | exact Nat.le_refl _⟩, ⟨by repeat (first | (with_reducible first | exact HB.out | apply below_alloc | apply pw_below_drewN | apply below_drew1) | exact HB.out)⟩⟩
                                          · rw [if_neg c49] at H
                                            have c49b0 : ((t234.extract 0 ((t235.size : Int) : Int).toNat).toList == t235.toList) = false := beq_eq_false_iff_ne.mpr c49
                                            (try simp only [Int.toNat_natCast] at c49b0)
                                            have c49b1 : ((t234.extract 0 ((t235.size : Int) : Int).toNat).toList != t235.toList) = true := bne_iff_ne.mpr c49
                                            (try simp only [Int.toNat_natCast] at c49b1)
                                            have H' := Aside0.mk H
                                            clear H
                                            go_wp2_with (first | ((with_reducible refine gate_callee (f := 16) rfl ?_); refine goesL_ (some 81) rfl rfl Tryd.func16 (by kernel_rfl) rfl #[.string t234] rfl (by (try simp only [List.map_toArray, List.map_cons, List.map_nil]); first | done | rfl | (simp only [List.length_drop, List.length_take]; rfl)) ?_; (with_reducible refine (name_Runes.calls t234 t236 _ ?side1 A43.out).mono ?_); (case side1 => first | exact hGL | exact GL.of_below hGL (by repeat (first | (with_reducible first | exact HB.out | apply below_alloc | apply pw_below_drewN | apply below_drew1) | exact HB.out))); rintro e w53 ⟨rfl, hb⟩; refine ⟨_, rfl, ?_⟩; have n0_ := Aside0.mk (below_step (by repeat (first | (with_reducible first | exact HB.out | apply below_alloc | apply pw_below_drewN | apply below_drew1) | exact HB.out)) hb); clear HB; have HB := n0_; clear n0_; (try clear hb); (try clear hb2); (try clear hk); (try clear hi)))
                                            go_meet
                                            case rel => exact ⟨_, (true), (by first | rfl | (simp; done) | (simp [*]; done) | (simp [bne]; done) | (simp [*, bne]; done)), H', ⟨by have := HJ7.out; have := HJ12.out; have := HJ14.out; have := HJ26.out; have := HJ32.out; have := HJ37.out; first | omega | exact Nat.le_refl _⟩, ⟨by repeat (first | (with_reducible first | exact HB.out | apply below_alloc | apply pw_below_drewN | apply below_drew1) | exact HB.out)⟩⟩
                                        · rw [if_neg c48] at H
                                          exact absurd H (by simp)
                                      · rw [if_neg c47] at H
                                        exact absurd H (by simp)
                                  · rw [if_neg c44] at H
                                    have c44b0 : (t236 == x12_37) = false := beq_eq_false_iff_ne.mpr c44
                                    have c44b1 : (t236 != x12_37) = true := bne_iff_ne.mpr c44
                                    (first | rw [c44b0] | (simp only [i64_w, i32_w]; rw [c44b0]) | skip)
                                    have H' := Aside0.mk H
                                    clear H
                                    go_wp2_with (first | ((with_reducible refine gate_callee (f := 16) rfl ?_); refine goesL_ (some 81) rfl rfl Tryd.func16 (by kernel_rfl) rfl #[.string t234] rfl (by (try simp only [List.map_toArray, List.map_cons, List.map_nil]); first | done | rfl | (simp only [List.length_drop, List.length_take]; rfl)) ?_; (with_reducible refine (name_Runes.calls t234 t236 _ ?side1 A43.out).mono ?_); (case side1 => first | exact hGL | exact GL.of_below hGL (by repeat (first | (with_reducible first | exact HB.out | apply below_alloc | apply pw_below_drewN | apply below_drew1) | exact HB.out))); rintro e w54 ⟨rfl, hb⟩; refine ⟨_, rfl, ?_⟩; have n0_ := Aside0.mk (below_step (by repeat (first | (with_reducible first | exact HB.out | apply below_alloc | apply pw_below_drewN | apply below_drew1) | exact HB.out)) hb); clear HB; have HB := n0_; clear n0_; (try clear hb); (try clear hb2); (try clear hk); (try clear hi)))
                                    go_meet
                                    case rel => exact ⟨_, (true), (by first | rfl | (simp; done) | (simp [*]; done) | (simp [bne]; done) | (simp [*, bne]; done)), H', ⟨by have := HJ7.out; have := HJ12.out; have := HJ14.out; have := HJ26.out; have := HJ32.out; have := HJ37.out; first | omega | exact Nat.le_refl _⟩, ⟨by repeat (first | (with_reducible first | exact HB.out | apply below_alloc | apply pw_below_drewN | apply below_drew1) | exact HB.out)⟩⟩
                                case rest =>
                                  clear HC41
                                  try clear c1
                                  try clear c2
                                  try clear p2
                                  try clear c3
                                  try clear c4
                                  try clear c5
                                  try clear p6
                                  try clear c9
                                  try clear c12
                                  try clear c12b0
                                  try clear c14
                                  try clear c14b0
                                  try clear c16
                                  try clear c16b0
                                  try clear c16b1
                                  try clear c17
                                  try clear c17b0
                                  try clear c17b1
                                  try clear c18
                                  try clear c18b0
                                  try clear c18b1
                                  try clear c19
                                  try clear c19b0
                                  try clear c19b1
                                  try clear c20
                                  try clear c21
                                  try clear c21b0
                                  try clear c21b1
                                  try clear c22
                                  try clear c22b0
                                  try clear c26
                                  try clear c28
                                  try clear c28b0
                                  try clear c31
                                  try clear c31b0
                                  try clear c31b1
                                  try clear c37
                                  try clear c37b0
                                  try clear c39
                                  try clear c39b0
                                  try clear c44
                                  try clear c44b0
                                  try clear c44b1
                                  try clear c45
                                  try clear c45b0
                                  try clear c45b1
                                  try clear c47
                                  try clear c47b0
                                  try clear c47b1
                                  try clear c48
                                  try clear c48b0
                                  try clear c48b1
                                  try clear c49
                                  try clear c49b0
                                  try clear c49b1
                                  try clear p2
                                  obtain ⟨kq, x110_40, rfl, HA, HJ40, HB⟩ := hcut
                                  cases kq with
                                  | zero => exact absurd HA.out (by simp [joustlaw06_NameCuts.j6])
                                  | succ kj40 =>
                                    have H := HA.out
                                    clear HA
                                    simp only [joustlaw06_NameCuts.j6] at H
                                    by_cases c55 : x110_40 = true
                                    · subst c55
                                      have H1 : (some false) = some r := by rw [if_pos rfl] at H; exact H
                                      clear H
                                      have H := H1
                                      clear H1
                                      obtain rfl := Option.some.inj H
                                      go_wp2
                                      go_ret
                                      exact ⟨by first | rfl | (simp [errW_none, errW_some] <;> rfl) | (simp [*, errW_none, errW_some] <;> rfl), by repeat (first | (with_reducible first | exact HB.out | apply below_alloc | apply pw_below_drewN | apply below_drew1) | exact HB.out)⟩
                                    · replace c55 := Bool.eq_false_iff.mpr c55
                                      subst c55
                                      have H1 : (joustlaw06_NameCuts.l0 kj40 t234 (t235.size : Int)) = some r := by rw [if_neg (show ¬ (false = true) by decide)] at H; exact H
                                      clear H
                                      have H := H1
                                      clear H1
                                      have H' := Aside0.mk H
                                      clear H
                                      go_wp2
                                      go_loopg [13] kj40 (fun kq v13 w' => ∃ (x13_8 : Int), v13 = .int .i64 x13_8 ∧ Aside0 (joustlaw06_NameCuts.l0 kq t234 x13_8 = some r) ∧ Aside0 (kq ≤ kj40) ∧ Aside0 (Below w.heap.size w w'))
                                      case atStart => exact ⟨((t235.size : Int)), (by first | rfl | (simp; done) | (simp [*]; done) | (simp [bne]; done) | (simp [*, bne]; done)), H', ⟨Nat.le_refl _⟩, ⟨by repeat (first | (with_reducible first | exact HB.out | apply below_alloc | apply pw_below_drewN | apply below_drew1) | exact HB.out)⟩⟩
                                      case round =>
                                        clear H'
                                        try clear c1
                                        try clear c2
                                        try clear p2
                                        try clear c3
                                        try clear c4
                                        try clear c5
                                        try clear p6
                                        try clear c9
                                        try clear c12
                                        try clear c12b0
                                        try clear c14
                                        try clear c14b0
                                        try clear c16
                                        try clear c16b0
                                        try clear c16b1
                                        try clear c17
                                        try clear c17b0
                                        try clear c17b1
                                        try clear c18
                                        try clear c18b0
                                        try clear c18b1
                                        try clear c19
                                        try clear c19b0
                                        try clear c19b1
                                        try clear c20
                                        try clear c21
                                        try clear c21b0
                                        try clear c21b1
                                        try clear c22
                                        try clear c22b0
                                        try clear c26
                                        try clear c28
                                        try clear c28b0
                                        try clear c31
                                        try clear c31b0
                                        try clear c31b1
                                        try clear c37
                                        try clear c37b0
                                        try clear c39
                                        try clear c39b0
                                        try clear c44
                                        try clear c44b0
                                        try clear c44b1
                                        try clear c45
                                        try clear c45b0
                                        try clear c45b1
                                        try clear c47
                                        try clear c47b0
                                        try clear c47b1
                                        try clear c48
                                        try clear c48b0
                                        try clear c48b1
                                        try clear c49
                                        try clear c49b0
                                        try clear c49b1
                                        try clear c55
                                        try clear p2
                                        try clear p6
                                        obtain ⟨x13_8, rfl, HA, HK8, HB⟩ := hrel
                                        cases gk with
                                        | zero => exact absurd HA.out (by simp [joustlaw06_NameCuts.l0])
                                        | succ k8 =>
                                          have H := HA.out
                                          clear HA
                                          simp only [joustlaw06_NameCuts.l0] at H
                                          by_cases c56 : x13_8 < (t234.size : Int)
                                          · rw [if_pos c56] at H
                                            have c56b0 : decide (x13_8 < (t234.size : Int)) = true := decide_eq_true c56
                                            clear c56
                                            by_cases c57 : 0 ≤ x13_8
                                            · rw [if_pos c57] at H
                                              have c57b0 : decide (0 ≤ x13_8) = true := decide_eq_true c57
                                              clear c57
                                              by_cases c59 : (bt t234 x13_8) = 32
                                              · rw [if_pos c59] at H
                                                have c59b0 : ((bt t234 x13_8) == 32) = true := beq_iff_eq.mpr c59
                                                have c59b1 : ((bt t234 x13_8) != 32) = false := bne_eq_false_iff_eq.mpr c59
                                                clear c59
                                                have H' := Aside0.mk H
                                                clear H
                                                have p58 : 0 ≤ (x13_8 : Int) := of_decide_eq_true (by first | (with_reducible assumption) | assumption)
                                                have q58 : x13_8 < (t234.size : Int) := of_decide_eq_true (by first | (with_reducible assumption) | assumption)
                                                have hx58 := bt_at t234 x13_8
                                                replace p58 := eq_true p58
                                                replace q58 := eq_true q58
                                                go_wp2
                                                go_roundg k8
                                                case measure => have := HJ7.out; have := HJ12.out; have := HJ14.out; have := HJ26.out; have := HJ32.out; have := HJ37.out; have := HJ40.out; have := HK8.out; omega
                                                case rel => exact ⟨(wrap64 (x13_8 + 1)), (by first | rfl | (simp; done) | (simp [*]; done) | (simp [bne]; done) | (simp [*, bne]; done)), H', ⟨by have := HJ7.out; have := HJ12.out; have := HJ14.out; have := HJ26.out; have := HJ32.out; have := HJ37.out; have := HJ40.out; have := HK8.out; omega⟩, ⟨by repeat (first | (with_reducible first | exact HB.out | apply below_alloc | apply pw_below_drewN | apply below_drew1) | exact HB.out)⟩⟩
                                              · rw [if_neg c59] at H
                                                have c59b0 : ((bt t234 x13_8) == 32) = false := beq_eq_false_iff_ne.mpr c59
                                                have c59b1 : ((bt t234 x13_8) != 32) = true := bne_iff_ne.mpr c59
                                                obtain rfl := Option.some.inj H
                                                have p58 : 0 ≤ (x13_8 : Int) := of_decide_eq_true (by first | (with_reducible assumption) | assumption)
                                                have q58 : x13_8 < (t234.size : Int) := of_decide_eq_true (by first | (with_reducible assumption) | assumption)
                                                have hx58 := bt_at t234 x13_8
                                                replace p58 := eq_true p58
                                                replace q58 := eq_true q58
                                                go_wp2
                                                go_ret
                                                exact ⟨by first | rfl | (simp [errW_none, errW_some] <;> rfl) | (simp [*, errW_none, errW_some] <;> rfl), by repeat (first | (with_reducible first | exact HB.out | apply below_alloc | apply pw_below_drewN | apply below_drew1) | exact HB.out)⟩
                                            · rw [if_neg c57] at H
                                              exact absurd H (by simp)
                                          · rw [if_neg c56] at H
                                            have c56b0 : decide (x13_8 < (t234.size : Int)) = false := decide_eq_false c56
                                            clear c56
                                            obtain rfl := Option.some.inj H
                                            go_wp2
                                            go_ret
                                            exact ⟨by first | rfl | (simp [errW_none, errW_some] <;> rfl) | (simp [*, errW_none, errW_some] <;> rfl), by repeat (first | (with_reducible first | exact HB.out | apply below_alloc | apply pw_below_drewN | apply below_drew1) | exact HB.out)⟩
                      · rw [if_neg c31] at H
                        have c31b0 : (t232.toList == t233.toList) = false := beq_eq_false_iff_ne.mpr c31
                        have c31b1 : (t232.toList != t233.toList) = true := bne_iff_ne.mpr c31
                        obtain rfl := Option.some.inj H
                        go_wp2_with (first | ((with_reducible refine gate_callee (f := 19) rfl ?_); refine goesL_ (some 64) rfl rfl Tryd.func19 (by kernel_rfl) rfl #[.string t229, .int .i64 a2] rfl (by (try simp only [List.map_toArray, List.map_cons, List.map_nil]); first | done | rfl | (simp only [List.length_drop, List.length_take]; rfl)) ?_; (with_reducible refine (name_Cut.calls t229 a2 t232 _ ?side1 A29.out).mono ?_); (case side1 => first | exact hGL | exact GL.of_below hGL (by repeat (first | (with_reducible first | exact HB.out | apply below_alloc | apply pw_below_drewN | apply below_drew1) | exact HB.out))); rintro e w60 ⟨rfl, hb⟩; refine ⟨_, rfl, ?_⟩; have n0_ := Aside0.mk (below_step (by repeat (first | (with_reducible first | exact HB.out | apply below_alloc | apply pw_below_drewN | apply below_drew1) | exact HB.out)) hb); clear HB; have HB := n0_; clear n0_; (try clear hb); (try clear hb2); (try clear hk); (try clear hi)) | ((with_reducible refine gate_callee (f := 19) rfl ?_); refine goesL_ (some 67) rfl rfl Tryd.func19 (by kernel_rfl) rfl #[.string a0, .int .i64 x10_26] rfl (by (try simp only [List.map_toArray, List.map_cons, List.map_nil]); first | done | rfl | (simp only [List.length_drop, List.length_take]; rfl)) ?_; (with_reducible refine (name_Cut.calls a0 x10_26 t233 _ ?side1 A30.out).mono ?_); (case side1 => first | exact hGL | exact GL.of_below hGL (by repeat (first | (with_reducible first | exact HB.out | apply below_alloc | apply pw_below_drewN | apply below_drew1) | exact HB.out))); rintro e w61 ⟨rfl, hb⟩; refine ⟨_, rfl, ?_⟩; have n0_ := Aside0.mk (below_step (by repeat (first | (with_reducible first | exact HB.out | apply below_alloc | apply pw_below_drewN | apply below_drew1) | exact HB.out)) hb); clear HB; have HB := n0_; clear n0_; (try clear hb); (try clear hb2); (try clear hk); (try clear hi)))
                        go_ret
                        exact ⟨by first | rfl | (simp [errW_none, errW_some] <;> rfl) | (simp [*, errW_none, errW_some] <;> rfl), by repeat (first | (with_reducible first | exact HB.out | apply below_alloc | apply pw_below_drewN | apply below_drew1) | exact HB.out)⟩
  · replace c5 := Bool.eq_false_iff.mpr c5
    subst c5
    have H1 : (some false) = some r := by rw [if_neg (show ¬ (false = true) by decide)] at H; exact H
    clear H
    have H := H1
    clear H1
    obtain rfl := Option.some.inj H
    go_enter Tryd.func5, Tryd.ntmps5
    go_wp2_with (first | ((with_reducible refine gate_callee (f := 9) rfl ?_); refine goesL_ (some 14) rfl rfl Tryd.func9 (by kernel_rfl) rfl #[] rfl (by (try simp only [List.map_toArray, List.map_cons, List.map_nil]); first | done | rfl | (simp only [List.length_drop, List.length_take]; rfl)) ?_; (with_reducible refine (joustlaw06_alive.calls  false _ ?side1 A4.out).mono ?_); (case side1 => first | exact hGL | exact GL.of_below hGL (by repeat (first | (with_reducible first | exact HB.out | apply below_alloc | apply pw_below_drewN | apply below_drew1) | exact HB.out))); rintro e w62 ⟨rfl, hb⟩; refine ⟨_, rfl, ?_⟩; have n0_ := Aside0.mk (below_step (by repeat (first | (with_reducible first | exact HB.out | apply below_alloc | apply pw_below_drewN | apply below_drew1) | exact HB.out)) hb); clear HB; have HB := n0_; clear n0_; (try clear hb); (try clear hb2); (try clear hk); (try clear hi)))
    go_ret
    exact ⟨by first | rfl | (simp [errW_none, errW_some] <;> rfl) | (simp [*, errW_none, errW_some] <;> rfl), by repeat (first | (with_reducible first | exact HB.out | apply below_alloc | apply pw_below_drewN | apply below_drew1) | exact HB.out)⟩

end Go.Proofs.YtlmbkliieckakaaDoor.QA
