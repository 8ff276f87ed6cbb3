/- slices.IndexFunc and slices.DeleteFunc at the closure of Delete. -/
import Derived.Test.YtggmfmlfkhcbdaaG3
import Derived.Lib.SliceRun
import Derived.OwnWalk
namespace Go.Proofs.Ytggmfmlfkhcbdaa.Gr
open Go Go.RowKit Go.Maps Go.Proofs.YtggmfmlfkhcbdaaW.PrintWords Go.Proofs.YtggmfmlfkhcbdaaW.PrintLast Go.Proofs.YtggmfmlfkhcbdaaW.PrintMore
set_option linter.unusedVariables false
set_option linter.unusedSimpArgs false

abbrev ki : Kd Int := Kd.int .i64
theorem same_calls (x id : Int) (tb : Nat) (w : World) (c : w.cell? ⟨tb, 0, none⟩ = some (.int .i64 id)) :
    Calls Try.prog 29 #[.int .i64 x, .pointer (some ⟨tb, 0, none⟩)] w fun e w' => e = .returned (.bool (x == id)) ∧ w' = w := by
  go_enter Try.func29, Try.ntmps29
  go_wp2
  go_ret
  exact ⟨rfl, rfl⟩

/-- The index of the id in the list. -/
theorem index_calls (tb g cap i0 : Nat) (id : Int) (xs : List Int) (base : Nat) (ok : Nat → Prop) (w : World) (c : w.cell? ⟨tb, 0, none⟩ = some (.int .i64 id)) (hR : ki.R 3 w base ok (.slice (some ⟨g, 0, none⟩) xs.length cap) xs)
    (hl : xs.length ≤ 4000000000000) (hi : xs[i0]? = some id) (hb : ∀ j, j < i0 → xs[j]? ≠ some id) :
    Calls Try.prog 40 #[.slice (some ⟨g, 0, none⟩) xs.length cap, .func (.func 29) #[] #[.pointer (some ⟨tb, 0, none⟩)]] w fun e w' => e = .returned (.int .i64 (i0 : Nat)) ∧ w' = w := by
  have hlt : i0 < xs.length := (List.getElem?_eq_some_iff.1 hi).1
  have HR := Aside0.mk hR
  have HI := Aside0.mk hi
  have HBf := Aside0.mk hb
  have HL := Aside0.mk hl
  clear hR hi hb hl
  go_enter Try.func40, Try.ntmps40
  go_wp2
  go_loopw [8] (fun iv wr => ∃ k : Int, iv = .int .i64 k ∧ 0 ≤ k ∧ k ≤ i0 ∧ wr = w) (fun iv _ => i0 + 1 - (intOf iv).toNat)
  case atStart => exact ⟨0, rfl, Int.le_refl _, by omega, rfl⟩
  case round =>
    obtain ⟨k, rfl, h0, h1, rfl⟩ := hrel
    have kb : decide (k < (xs.length : Int)) = true := decide_eq_true (by omega)
    have hlt2 : k.toNat < xs.length := by omega
    have hc := (Kd.R_celln 0 HR.out k h0 (by omega)).1
    have p0 : (0 ≤ k) = True := eq_true h0
    have p1 : (k < (xs.length : Int)) = True := eq_true (by omega)
    have hS := fun x => same_calls x id tb wr c
    by_cases hk : k = i0
    · have e1 : (rdOf 0 xs k == id) = true := by
        have := HI.out
        rw [hk]
        simp [rdOf, List.getD_eq_getElem?_getD, this]
      have HK := Aside0.mk hk
      clear hk h1
      go_wp2_with (go_at_call 29; (with_reducible refine (hS _).mono ?_); rintro e w2 ⟨rfl, rfl⟩)
      go_ret
      have := HK.out
      subst this
      exact ⟨rfl, rfl⟩
    · have e1 : (rdOf 0 xs k == id) = false := by
        have := HBf.out k.toNat (by omega)
        rw [beq_eq_false_iff_ne]
        intro e
        apply this
        rw [← e]
        simp [rdOf, List.getD_eq_getElem?_getD, List.getElem?_eq_getElem hlt2]
      have en : wrap64 (k + 1) = k + 1 := wrap_id (by unfold I64; have := HL.out; omega)
      have HK := Aside0.mk hk
      clear hk
      go_wp2_with (go_at_call 29; (with_reducible refine (hS _).mono ?_); rintro e w2 ⟨rfl, rfl⟩)
      rw [en]
      exact ⟨⟨k + 1, rfl, by omega, by have := HK.out; omega, trivial⟩, by simp only [intOf]; omega⟩

/-- What the list holds while it moves together. -/
def Shifted (xs ys : List Int) (i0 j : Nat) : Prop := ys.length = xs.length ∧ (∀ k, k + 1 < j → ys[k]? = (xs.eraseIdx i0)[k]?) ∧ ∀ k, j ≤ k + 1 → ys[k]? = xs[k]?
theorem shifted_start (xs : List Int) (i0 : Nat) : Shifted xs xs i0 (i0 + 1) := by
  refine ⟨rfl, fun k hk => ?_, fun k _ => rfl⟩
  rw [List.getElem?_eraseIdx_of_lt (by omega)]
theorem shifted_step {xs ys : List Int} {i0 j : Nat} {x : Int} (h : Shifted xs ys i0 j) (hj : i0 < j) (hx : xs[j]? = some x) : Shifted xs (ys.set (j - 1) x) i0 (j + 1) := by
  obtain ⟨h1, h2, h3⟩ := h
  refine ⟨by simp [h1], fun k hk => ?_, fun k hk => ?_⟩
  · by_cases e : k = j - 1
    · subst e
      have hl : j < xs.length := (List.getElem?_eq_some_iff.1 hx).1
      rw [List.getElem?_set_self (by omega), List.getElem?_eraseIdx_of_ge (by omega), show j - 1 + 1 = j by omega, hx]
    · rw [List.getElem?_set_ne (by omega)]
      exact h2 k (by omega)
  · rw [List.getElem?_set_ne (by omega)]
    exact h3 k (by omega)
theorem shifted_end {xs ys : List Int} {i0 : Nat} (h : Shifted xs ys i0 xs.length) (hi : i0 < xs.length) : (ys.set (xs.length - 1) 0).take (xs.length - 1) = xs.eraseIdx i0 := by
  apply List.ext_getElem?
  intro k
  rw [List.getElem?_take]
  split
  · rename_i hk
    rw [List.getElem?_set_ne (by omega)]
    exact h.2.1 k (by omega)
  · rename_i hk
    rw [List.getElem?_eq_none]
    rw [List.length_eraseIdx_of_lt hi]
    omega

/-- The list without the id. -/
theorem delf_calls (tb g cap i0 : Nat) (id : Int) (xs : List Int) (base : Nat) (ok : Nat → Prop) (w : World) (c : w.cell? ⟨tb, 0, none⟩ = some (.int .i64 id)) (hne : tb ≠ g) (hR : ki.R 3 w base ok (.slice (some ⟨g, 0, none⟩) xs.length cap) xs)
    (hl : xs.length ≤ 4000000000000) (hi : xs[i0]? = some id) (hb : ∀ j, j ≠ i0 → xs[j]? ≠ some id) :
    Calls Try.prog 28 #[.slice (some ⟨g, 0, none⟩) xs.length cap, .func (.func 29) #[] #[.pointer (some ⟨tb, 0, none⟩)]] w fun e w' =>
      e = .returned (.slice (some ⟨g, 0, none⟩) (xs.length - 1) cap) ∧ ki.R 3 w' base ok (.slice (some ⟨g, 0, none⟩) (xs.length - 1) cap) (xs.eraseIdx i0) ∧ w.grownBy w' (some g) := by
  have hlt : i0 < xs.length := (List.getElem?_eq_some_iff.1 hi).1
  have hI := index_calls tb g cap i0 id xs base ok w c hR hl hi (fun j hj => hb j (by omega))
  have HR := Aside0.mk hR
  have HI := Aside0.mk hi
  have HBf := Aside0.mk hb
  have HL := Aside0.mk hl
  have HC := Aside0.mk c
  clear hR hi hb hl c
  obtain ⟨I, hII⟩ : ∃ I : Int, I = ((i0 : Nat) : Int) := ⟨_, rfl⟩
  rw [← hII] at hI
  have e0 : (I == -1) = false := by rw [beq_eq_false_iff_ne]; omega
  have e1 : wrap64 (I + 1) = I + 1 := wrap_id (by unfold I64; have := HL.out; omega)
  have HII := Aside0.mk hII
  clear hII
  go_enter Try.func28, Try.ntmps28
  go_wp2_with (go_at_call 40; (with_reducible refine hI.mono ?_); rintro e w2 ⟨rfl, rfl⟩)
  have E1 := Aside0.mk e1
  clear e1
  go_loopw [5, 6] (fun iv jv wr => ∃ (i j : Int) (ys : List Int), jv = .int .i64 j ∧ iv = .int .i64 i ∧ j = i + 1 ∧ (i0 : Int) + 1 ≤ j ∧ j ≤ xs.length ∧ Shifted xs ys i0 j.toNat ∧ ki.R 3 wr base ok (.slice (some ⟨g, 0, none⟩) xs.length cap) ys ∧ w2.grownBy wr (some g)) (fun _ jv _ => xs.length - (intOf jv).toNat)
  case atStart =>
    have hII := HII.out
    subst hII
    refine ⟨(i0 : Int), (i0 : Int) + 1, xs, by rw [E1.out], rfl, rfl, Int.le_refl _, by omega, ?_, HR.out, grown_of_below (Below.refl _ _) _⟩
    have : ((i0 : Int) + 1).toNat = i0 + 1 := by omega
    rw [this]
    exact shifted_start xs i0
  case round =>
    obtain ⟨i, j, ys, rfl, rfl, hj, h0, h1, hS, hR1, hg⟩ := hrel
    have hyl := hS.1
    have hcc := hg.cell HC.out (by simpa using hne)
    have HJ := Aside0.mk hj
    have HSh := Aside0.mk hS
    clear hI hS
    by_cases hk : j < xs.length
    · have kb : decide (j < (xs.length : Int)) = true := decide_eq_true hk
      have hlt2 : j.toNat < xs.length := by omega
      have hc := (Kd.R_celln 0 hR1 j (by omega) (by omega)).1
      have p0 : (0 ≤ j) = True := eq_true (by omega)
      have p1 : (j < (xs.length : Int)) = True := eq_true hk
      have p2 : (0 ≤ i) = True := eq_true (by omega)
      have p3 : (i < (xs.length : Int)) = True := eq_true (by omega)
      have hx : xs[j.toNat]? = some (rdOf 0 ys j) := by
        have := HSh.out.2.2 j.toNat (by omega)
        rw [← this]
        simp [rdOf, List.getD_eq_getElem?_getD, List.getElem?_eq_getElem (show j.toNat < ys.length by omega)]
      have q1 : (rdOf 0 ys j == id) = false := by
        have := HBf.out j.toNat (by omega)
        rw [beq_eq_false_iff_ne]
        intro e
        apply this
        rw [hx, e]
      have hs := fun x => same_calls x id tb wr hcc
      have HP := Aside0.mk (Kd.R_putg hR1 i (rdOf 0 ys j))
      have HG := Aside0.mk hg
      obtain ⟨hfr1, hfr2⟩ := (Kd.R_celln 0 hR1 i (by omega) (by omega))
      have en : wrap64 (j + 1) = j + 1 := wrap_id (by unfold I64; have := HL.out; omega)
      have en2 : wrap64 (i + 1) = j := by rw [wrap_id (by unfold I64; have := HL.out; omega)]; omega
      have HK := Aside0.mk (And.intro hk (And.intro h0 (And.intro en en2)))
      have HX := Aside0.mk hx
      clear hk hj hR1 hg hyl hlt2 h0 h1 hcc hx en en2
      go_wp2_with (go_at_call 29; (with_reducible refine (hs _).mono ?_); rintro e w3 ⟨rfl, rfl⟩)
      obtain ⟨hk, h0, en, en2⟩ := HK.out
      have hj := HJ.out
      rw [en, en2]
      refine ⟨⟨j, j + 1, _, rfl, rfl, rfl, by omega, by omega, ?_, HP.out.1, HG.out.andThen HP.out.2 (fun j hj => Or.inr hj)⟩, by simp only [intOf]; omega⟩
      have := shifted_step HSh.out (by omega) HX.out
      rw [show (j + 1).toNat = j.toNat + 1 by omega, show i.toNat = j.toNat - 1 by omega]
      exact this
    · have kb : decide (j < (xs.length : Int)) = false := decide_eq_false hk
      have HR1 := Aside0.mk hR1
      have HG := Aside0.mk hg
      have ej : j = xs.length := by omega
      obtain ⟨m, hm⟩ : ∃ m : Nat, xs.length = m + 1 := ⟨xs.length - 1, by omega⟩
      have ei : i = (m : Int) := by omega
      subst ei
      have hcap := (Kd.R_reads' hR1).2.1
      have hle : m ≤ xs.length := by omega
      have hlc : m ≤ cap := by omega
      have hlc2 : m < cap := by omega
      have hcell := Kd.R_celln 0 hR1 (m : Int) (by omega) (by omega)
      have hcl : ∀ ty, (Builtin.clear_ #[40] ty #[.slice (some ⟨g, m, none⟩) (xs.length - m) (cap - m)]).run Try.prog wr = .ok (.tuple #[]) (wr.setCells g m (List.replicate (xs.length - m) (.int .i64 0))) :=
        fun ty => Lib.run_clear_slice wr _ _ ty _ Try.underlying40 (fun w => by kernel_rfl) rfl rfl g m _ _ (by omega)
          (fun k hk => by obtain rfl : k = 0 := by omega
                          have := hcell.1
                          simp only [Int.toNat_natCast, Nat.add_zero] at this ⊢
                          rw [this]
                          rfl)
          (fun k hk => by obtain rfl : k = 0 := by omega
                          have := hcell.2
                          simpa using this)
      have HP := Aside0.mk (Kd.R_putg hR1 (m : Int) 0)
      have HM := Aside0.mk hm
      clear hm ej h0 h1 hyl hR1 hg hcc hcell
      go_wp2
      go_ret
      have hm := HM.out
      have e1 : xs.length - m = 1 := by omega
      have e2 : xs.length - 1 = m := by omega
      obtain ⟨P1, P2⟩ := HP.out
      simp only [Int.toNat_natCast] at P1 P2
      have hw : wr.setCells g m (List.replicate (xs.length - m) (Value.int .i64 0)) = wr.setCell ⟨g, m, none⟩ (.int .i64 0) := by
        rw [e1]
        rfl
      rw [hw, e2]
      refine ⟨rfl, ?_, HG.out.andThen P2 (fun j hj => Or.inr hj)⟩
      have hS := HSh.out
      rw [show j.toNat = xs.length by omega] at hS
      have he := shifted_end hS hlt
      rw [e2] at he
      rw [← he]
      exact Kd.R_take P1 (by have := hS.1; simp; omega)
end Go.Proofs.Ytggmfmlfkhcbdaa.Gr
