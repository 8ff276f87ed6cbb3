/- The law's fixed script. -/
import Derived.Test.YtokemjdfcifbbaaG9
namespace Go.Proofs.Ytokemjdfcifbbaa.Gt
open Go Go.RowKit Go.Maps Go.Proofs.YtokemjdfcifbbaaW.PrintWords Go.Proofs.YtokemjdfcifbbaaW.PrintMore
set_option linter.unusedVariables false
set_option linter.unusedSimpArgs false
attribute [local go_sem high] QQA.eqA40

theorem offer_at {w w0 : World} {gb mb n : Nat} {L : List It} (h : GateAt w0 gb mb n L) (hb : Below w0.heap.size w0 w) (hn : n < maxLen) (x t u : Int) (f b : Bool) (hwx : (Lit.int .i64 x).wf = true) (r : Int) (hr : (if hasP L x then 180 else 0) = r) (L' : List It) (hL : offerL L (legI x t u f b) = L') :
    Calls Try.prog 10 #[.pointer (some ⟨gb, 0, none⟩), .int .i64 x, .agg #[.int .i64 t, .int .i64 u, .bool f, .bool b]] w fun e w' =>
      e = .returned (.int .i64 r) ∧ GateAt w' gb mb (n + 1) L' ∧ w.grownBy w' (some mb) := by
  subst hr
  subst hL
  exact g_offer (h.below hb) hn x t u f b hwx
theorem waits_at {w w0 : World} {gb mb n : Nat} {L : List It} (h : GateAt w0 gb mb n L) (hb : Below w0.heap.size w0 w) (x : Int) (hwx : (Lit.int .i64 x).wf = true) (r : Bool) (hr : hasP L x = r) :
    Calls Try.prog 11 #[.pointer (some ⟨gb, 0, none⟩), .int .i64 x] w fun e w' => e = .returned (.bool r) ∧ GateAt w' gb mb n L ∧ w.grownBy w' (some mb) := by
  subst hr
  refine (g_waits (h.below hb) x hwx).mono ?_
  rintro e w' ⟨rfl, hb'⟩
  exact ⟨rfl, (h.below hb).below hb', grown_of_below hb' _⟩
theorem drop_at {w w0 : World} {gb mb n : Nat} {L : List It} (h : GateAt w0 gb mb n L) (hb : Below w0.heap.size w0 w) (x : Int) (hwx : (Lit.int .i64 x).wf = true) (r : Bool) (hr : hasP L x = r) (L' : List It) (hL : dropP L x = L') :
    Calls Try.prog 14 #[.pointer (some ⟨gb, 0, none⟩), .int .i64 x] w fun e w' => e = .returned (.bool r) ∧ GateAt w' gb mb n L' ∧ w.grownBy w' (some mb) := by
  subst hr
  subst hL
  exact g_drop (h.below hb) x hwx
theorem take_at {w w0 : World} {gb mb n : Nat} {L : List It} (h : GateAt w0 gb mb n L) (hb : Below w0.heap.size w0 w) (hn : n ≤ 4000000000000) :
    Calls Try.prog 17 #[.pointer (some ⟨gb, 0, none⟩)] w fun e w' => ∃ A c, e = .returned (.slice A L.length c) ∧ GateAt w' gb mb 0 [] ∧ w.grownBy w' (some mb) ∧ QQA.k40.R 40 w' w.heap.size (fun _ => True) (.slice A L.length c) L ∧ L.length ≤ c ∧ QQA.k40.C w' A L.length L := by
  refine (take_calls (h.below hb) hn).mono ?_
  rintro e w' ⟨v, rfl, hG, hg, hR⟩
  obtain ⟨A, c, rfl, hc, hC⟩ := Kd.R_reads hR
  exact ⟨A, c, rfl, hG, hg, hR, hc, hC⟩
theorem below_g {W w w' : World} {mb : Nat} (h : Below W.heap.size W w) (hg : w.grownBy w' (some mb)) (hm : W.heap.size ≤ mb) : Below W.heap.size W w' :=
  h.grown hg h.size (fun k hk => by cases hk; exact hm)
theorem legal_at (p t u : Int) (f b : Bool) (w : World) (r1 r2 : Int) (h1 : cl t 100 = r1) (h2 : cl u 8 = r2) : Calls Try.prog 18 #[.int .i64 p, .agg #[.int .i64 t, .int .i64 u, .bool f, .bool b]] w fun e w' => e = .returned (.agg #[.int .i64 p, .int .i64 r1, .int .i64 r2, .bool f, .bool b]) ∧ Below w.heap.size w w' := by
  subst h1
  subst h2
  exact g_legal p t u f b w
/-- The one intent of a row of one. -/
theorem one_cells {w : World} {base c : Nat} {A : Option Addr} {x : It} (h : QQA.k40.R 40 w base (fun _ => True) (.slice A 1 c) [x]) : ∃ g, A = some ⟨g, 0, none⟩ ∧ w.cell? ⟨g, 0, none⟩ = some (.int .i64 x.f0) ∧ w.cell? ⟨g, 1, none⟩ = some (.int .i64 x.f1) ∧ w.cell? ⟨g, 2, none⟩ = some (.int .i64 x.f2) ∧ w.cell? ⟨g, 3, none⟩ = some (.bool x.f3) ∧ w.cell? ⟨g, 4, none⟩ = some (.bool x.f4) := by
  obtain ⟨A', c', e, _, hC⟩ := Kd.R_reads h
  injection e with e1 e2 e3
  subst e1
  obtain ⟨ad, rfl, c0, c1, c2, c3, c4⟩ := QQA.at_T40 hC 0 (by omega) (by simp)
  obtain ⟨g, rfl⟩ := Kd.R_head h
  exact ⟨g, rfl, c0, c1, c2, c3, c4⟩

set_option maxHeartbeats 1000000 in
theorem fixed_calls (w : World) : Calls Try.prog 7 #[] w fun e w' => e = .returned (.bool true) ∧ Below w.heap.size w w' := by
  have hfield : ∀ (W : World), (Instr.field 40 (.agg #[.int .i64 3, .int .i64 0, .int .i64 8, .bool false, .bool false]) 2).run Try.prog W = .ok (.int .i64 8) W := fun W => by kernel_rfl
  go_enter Try.func7, Try.ntmps7
  go_wp2_with (first
    | (go_at_call 8; refine (g_new _).mono ?_; rintro e w1 ⟨gb, mb, rfl, hG0, HB0, hgb, hmb⟩; have hG := Aside0.mk hG0; have HB := Aside0.mk HB0; clear hG0 HB0)
    | (go_at_call 10; first
        | ((with_reducible refine (offer_at (L := []) hG.out ?side1 (by decide) 3 127 (-128) true false rfl 0 rfl [(⟨3, 100, -8, true, false⟩ : It)] rfl).mono ?_); (case side1 => exact (by repeat (first | (with_reducible first | exact Below.refl _ _ | apply below_alloc | apply pw_below_drewN | apply below_drew1) | exact Below.refl _ _))); rintro e w2 ⟨rfl, hG1, hg1⟩; have n_ := Aside0.mk (below_g (by repeat (first | (with_reducible first | exact HB.out | apply below_alloc | apply pw_below_drewN | apply below_drew1) | exact HB.out)) hg1 hmb); clear HB hG; have HB := n_; have hG := Aside0.mk hG1; clear n_ hG1 hg1)
        | ((with_reducible refine (offer_at (L := [(⟨3, 100, -8, true, false⟩ : It)]) hG.out ?side1 (by decide) 3 0 0 false false rfl 180 rfl [(⟨3, 100, -8, true, false⟩ : It)] rfl).mono ?_); (case side1 => exact (by repeat (first | (with_reducible first | exact Below.refl _ _ | apply below_alloc | apply pw_below_drewN | apply below_drew1) | exact Below.refl _ _))); rintro e w2 ⟨rfl, hG1, hg1⟩; have n_ := Aside0.mk (below_g (by repeat (first | (with_reducible first | exact HB.out | apply below_alloc | apply pw_below_drewN | apply below_drew1) | exact HB.out)) hg1 hmb); clear HB hG; have HB := n_; have hG := Aside0.mk hG1; clear n_ hG1 hg1))
    | (go_at_call 11; first
        | ((with_reducible refine (waits_at (L := [(⟨3, 100, -8, true, false⟩ : It)]) hG.out ?side1 3 rfl true rfl).mono ?_); (case side1 => exact (by repeat (first | (with_reducible first | exact Below.refl _ _ | apply below_alloc | apply pw_below_drewN | apply below_drew1) | exact Below.refl _ _))); rintro e w2 ⟨rfl, hG1, hg1⟩; have n_ := Aside0.mk (below_g (by repeat (first | (with_reducible first | exact HB.out | apply below_alloc | apply pw_below_drewN | apply below_drew1) | exact HB.out)) hg1 hmb); clear HB hG; have HB := n_; have hG := Aside0.mk hG1; clear n_ hG1 hg1)
        | ((with_reducible refine (waits_at (L := []) hG.out ?side1 3 rfl false rfl).mono ?_); (case side1 => exact (by repeat (first | (with_reducible first | exact Below.refl _ _ | apply below_alloc | apply pw_below_drewN | apply below_drew1) | exact Below.refl _ _))); rintro e w2 ⟨rfl, hG1, hg1⟩; have n_ := Aside0.mk (below_g (by repeat (first | (with_reducible first | exact HB.out | apply below_alloc | apply pw_below_drewN | apply below_drew1) | exact HB.out)) hg1 hmb); clear HB hG; have HB := n_; have hG := Aside0.mk hG1; clear n_ hG1 hg1))
    | (go_at_call 14; (with_reducible refine (drop_at (L := []) hG.out ?side1 3 rfl false rfl [] rfl).mono ?_); (case side1 => exact (by repeat (first | (with_reducible first | exact Below.refl _ _ | apply below_alloc | apply pw_below_drewN | apply below_drew1) | exact Below.refl _ _))); rintro e w2 ⟨rfl, hG1, hg1⟩; have n_ := Aside0.mk (below_g (by repeat (first | (with_reducible first | exact HB.out | apply below_alloc | apply pw_below_drewN | apply below_drew1) | exact HB.out)) hg1 hmb); clear HB hG; have HB := n_; have hG := Aside0.mk hG1; clear n_ hG1 hg1)
    | (go_at_call 17; (with_reducible refine (take_at (L := [(⟨3, 100, -8, true, false⟩ : It)]) hG.out ?side1 (by omega)).mono ?_); (case side1 => exact (by repeat (first | (with_reducible first | exact Below.refl _ _ | apply below_alloc | apply pw_below_drewN | apply below_drew1) | exact Below.refl _ _))); rintro e w2 ⟨A, c, rfl, hG1, hg1, hR1, hc1, hC1⟩; have n_ := Aside0.mk (below_g (by repeat (first | (with_reducible first | exact HB.out | apply below_alloc | apply pw_below_drewN | apply below_drew1) | exact HB.out)) hg1 hmb); clear HB hG; have HB := n_; have hG := Aside0.mk hG1; clear n_ hG1 hg1; obtain ⟨g, rfl, i0, i1, i2, i3, i4⟩ := one_cells hR1; clear hR1 hC1)
    | (go_at_call 18; (with_reducible refine (legal_at 3 0 9 false false _ 0 8 rfl rfl).mono ?_); rintro e w2 ⟨rfl, hb1⟩; have n_ := Aside0.mk (below_step (by repeat (first | (with_reducible first | exact HB.out | apply below_alloc | apply pw_below_drewN | apply below_drew1) | exact HB.out)) hb1); clear HB; have HB := n_; clear n_ hb1))
  go_ret
  exact ⟨rfl, HB.out⟩
end Go.Proofs.Ytokemjdfcifbbaa.Gt
