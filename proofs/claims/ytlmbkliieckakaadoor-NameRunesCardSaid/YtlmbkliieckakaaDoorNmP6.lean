/- NameRunes, joined: every number answers true. -/
import Derived.Test.YtlmbkliieckakaaDoorNmP5
set_option linter.unusedVariables false
namespace Go.Proofs.YtlmbkliieckakaaDoor.Nm
open Go QA Go.RowKit Go.Proofs.YtlmbkliieckakaaDoorW.PrintWords Go.Proofs.YtlmbkliieckakaaDoorW.PrintLast Go.Proofs.YtlmbkliieckakaaDoorW.PrintMore

set_option maxHeartbeats 4000000 in
set_option maxRecDepth 100000 in
theorem runes_bad (n : Int) (w : World) (hGL : GL w) (h : n < 0 ∨ 1114111 < n ∨ (55296 ≤ n ∧ n ≤ 57343)) (hAl : joustlaw06_alive.f = some true) :
    Calls Tryd.prog 8 #[.int .i64 n] w fun e w' => e = .returned (.bool true) ∧ Below w.heap.size w w' := by
  have HB := Aside0.mk (Below.refl w.heap.size w)
  have B4 := Aside0.mk (spell_bad n h)
  clear h
  go_enter Tryd.func8, Tryd.ntmps8
  go_wp2_with (first
    | (go_at_call 9; (with_reducible refine (joustlaw06_alive.calls true _ ?side1 hAl).mono ?_); (case side1 => first | exact hGL | exact GL.of_below hGL (by repeat (first | (with_reducible first | exact HB.out | apply below_alloc | apply pw_below_drewN | apply below_drew1) | exact HB.out))); rintro e w2 ⟨rfl, hb⟩; have n0_ := Aside0.mk (below_step (by repeat (first | (with_reducible first | exact HB.out | apply below_alloc | apply pw_below_drewN | apply below_drew1) | exact HB.out)) hb); clear HB; have HB := n0_; clear n0_; clear hb)
    | (go_at_call 23; (with_reducible refine (joustlaw06_spell.calls 2 n _ false _ ?side1 B4.out).mono ?_); (case side1 => first | exact hGL | exact GL.of_below hGL (by repeat (first | (with_reducible first | exact HB.out | apply below_alloc | apply pw_below_drewN | apply below_drew1) | exact HB.out))); rintro e w2 ⟨rfl, hb⟩; have n0_ := Aside0.mk (below_step (by repeat (first | (with_reducible first | exact HB.out | apply below_alloc | apply pw_below_drewN | apply below_drew1) | exact HB.out)) hb); clear HB; have HB := n0_; clear n0_; clear hb))
  go_ret
  exact ⟨rfl, by repeat (first | (with_reducible first | exact HB.out | apply below_alloc | apply pw_below_drewN | apply below_drew1) | exact HB.out)⟩

theorem runes_good (n : Nat) (w : World) (hGL : GL w) (hn : n ≤ 1114111) (hs : ¬ (55296 ≤ n ∧ n ≤ 57343)) (hAl : joustlaw06_alive.f = some true) :
    Calls Tryd.prog 8 #[.int .i64 (n : Int)] w fun e w' => e = .returned (.bool true) ∧ Below w.heap.size w w' := by
  have hl : low n = n + 32 ∧ n ≤ 222 ∨ low n = n := by
    by_cases h : (65 ≤ n ∧ n ≤ 90) ∨ (192 ≤ n ∧ n ≤ 214) ∨ (216 ≤ n ∧ n ≤ 222)
    · exact Or.inl ⟨low_big h, by omega⟩
    · exact Or.inr (low_not h)
  obtain ⟨s, v, A4, hE, hv⟩ := spell_f n hn hs
  obtain ⟨f, v', A5, hF, hv'⟩ := spell_f (low n) (by omega) (by omega)
  have hb := enc_w hE
  have hff : fold s = f := enc_eq (enc_fold hE) hF (by rw [fold_size]; exact hv) hv'
  have hr := one_runes hE hv
  have hsz : s.size ≤ 140737488351232 := by omega
  have hcu : cut s 1 = s := cut_all s 1 (by rw [hr]; simp)
  have hck := one_check hE hv
  refine runes_walk (n : Int) s f (s.extract 0 (v - 1)) (errOf (checkOf fitsB s)) w hGL (by omega) (by omega) A4 (by rw [low_m]; exact A5) (Check_f hsz) ?_ (by rw [Fold_f hsz, hff]) (by rw [Runes_f hsz, hr]; rfl) (by rw [Cut_f hsz (by omega) (by omega), hcu]) hAl (by omega) (by omega) (by rw [hv]) ?_
  · rw [hck]
    cases goodP (n : Int)
    · exact Or.inr ⟨rfl, rfl⟩
    · exact Or.inl ⟨rfl, rfl⟩
  · intro hne
    obtain ⟨l1, l2, l3⟩ := cut_laws hE hv (by omega)
    have hu : (s.extract 0 (v - 1)).size ≤ 140737488351232 := by rw [ByteArray.size_extract]; omega
    refine ⟨by rw [Runes_f hu, l1], by rw [Check_f hu, l2]; rfl, by rw [Fold_f hu, l3], ?_⟩
    rw [Runes_f (by rw [ByteArray.size_append]; omega), twice hE hv]
    rfl

theorem runes_all (n : Int) (w : World) (hGL : GL w) : Calls Tryd.prog 8 #[.int .i64 n] w fun e w' => e = .returned (.bool true) ∧ Below w.heap.size w w' := by
  by_cases h : n < 0 ∨ 1114111 < n ∨ (55296 ≤ n ∧ n ≤ 57343)
  · exact runes_bad n w hGL h alive_true
  · obtain ⟨m, rfl⟩ := Int.eq_ofNat_of_zero_le (by omega : 0 ≤ n)
    exact runes_good m w hGL (by omega) (by omega) alive_true

theorem runes_pure (n : Int) (h : (Lit.int .i64 n).wf = true) : true = true := rfl
end Go.Proofs.YtlmbkliieckakaaDoor.Nm
namespace Go.Proofs.YtlmbkliieckakaaDoor.QA
open Go Go.RowKit Go.Proofs.YtlmbkliieckakaaDoorW.PrintWords Go.Proofs.YtlmbkliieckakaaDoorW.PrintLast Go.Proofs.YtlmbkliieckakaaDoorW.PrintMore
theorem joustlaw06_NameRunes.calls (n : Int) (r : Bool) (w : World) (hGL : Nm.GL w) (h : true = r) : Calls Tryd.prog 8 #[.int .i64 n] w fun e w' => e = .returned (.bool r) ∧ Below w.heap.size w w' := by
  subst h
  exact Nm.runes_all n w hGL
end Go.Proofs.YtlmbkliieckakaaDoor.QA
