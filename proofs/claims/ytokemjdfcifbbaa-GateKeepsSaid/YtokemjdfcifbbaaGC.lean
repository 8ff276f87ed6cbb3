/- The walk of GateApart, up to its last loop. -/
import Derived.Test.YtokemjdfcifbbaaGB
namespace Go.Proofs.Ytokemjdfcifbbaa.Gt
open Go Go.RowKit Go.Maps Go.Proofs.YtokemjdfcifbbaaW.PrintWords Go.Proofs.YtokemjdfcifbbaaW.PrintMore
set_option linter.unusedVariables false
set_option linter.unusedSimpArgs false
attribute [local go_sem high] QQA.eqA40

theorem other_gate {w w0 w' : World} {g m n row : Nat} {L : List It} (h : GateAt w0 g m n L) (hb : Below w0.heap.size w0 w) (hg : w.grownBy w' (some row)) (h1 : g ≠ row) (h2 : m ≠ row) : GateAt w' g m n L :=
  (h.below hb).grown hg (by simpa using h1) (by simpa using h2)

theorem box_kept {wr w4 : World} {v0 v1 v2 v3 v4 v5 : Value} {m : Nat} (hg : (wr.alloc (.cells #[v0, v1, v2, v3, v4, v5] 33)).grownBy w4 (some m)) (hm : m < wr.heap.size) :
    w4.cell? ⟨wr.heap.size, 0, none⟩ = some v0 ∧ w4.cell? ⟨wr.heap.size, 1, none⟩ = some v1 ∧ w4.cell? ⟨wr.heap.size, 2, none⟩ = some v2 ∧ w4.cell? ⟨wr.heap.size, 3, none⟩ = some v3 ∧ w4.cell? ⟨wr.heap.size, 4, none⟩ = some v4 ∧ w4.cell? ⟨wr.heap.size, 5, none⟩ = some v5 := by
  have hn : some wr.heap.size ≠ some m := by
    intro e
    injection e with e
    omega
  have hb : w4.heap[wr.heap.size]? = some (.cells #[v0, v1, v2, v3, v4, v5] 33) := (hg.block wr.heap.size (by simp) hn).trans (heap_alloc_new wr _)
  simp [World.cell?, hb]
theorem apart_step {W w5 : World} {g1 m1 g2 m2 len : Nat} {pl k : Int} (KA : 0 ≤ k ∧ k ≤ (len : Int) ∧ k < (len : Int)) (hl : len * 40 ≤ 140737488351232) (HB : Below W.heap.size W w5) (G : List It) (HD : GateAt w5 g1 m1 (k.toNat + 1) G) (HE : GateAt w5 g2 m2 (k.toNat + 1) (dropP G pl)) :
    (∃ k1 : Int, Value.int IntKind.i64 (wrap64 (k + 1)) = Value.int IntKind.i64 k1 ∧ 0 ≤ k1 ∧ k1 ≤ (len : Int) ∧ Below W.heap.size W w5 ∧ ∃ G, GateAt w5 g1 m1 k1.toNat G ∧ GateAt w5 g2 m2 k1.toNat (dropP G pl)) ∧
      len - (intOf (Value.int IntKind.i64 (wrap64 (k + 1)))).toNat < len - (intOf (Value.int IntKind.i64 k)).toNat := by
  obtain ⟨h0, h1, h2⟩ := KA
  rw [wrap_id (by omega) (by omega)]
  have e : (k + 1).toNat = k.toNat + 1 := by omega
  refine ⟨⟨k + 1, rfl, by omega, by omega, HB, G, ?_, ?_⟩, ?_⟩
  · rw [e]; exact HD
  · rw [e]; exact HE
  · simp only [intOf]; omega
theorem R_other {w w' : World} {base m : Nat} {v : Value} {xs : List It} (h : QQA.k40.R 40 w base (fun _ => True) v xs) (hg : w.grownBy w' (some m)) (hm : m < base) : QQA.k40.R 40 w' base (fun _ => True) v xs :=
  Kd.R_mono (ok' := fun _ => True) (Kd.R_grown (Kd.R_bound h) hg (fun k hk e => by have := hk.2.1; injection e; omega)) (fun _ _ => trivial)
theorem R_row {w : World} {base n c : Nat} {A : Option Addr} {xs : List It} (h : QQA.k40.R 40 w base (fun _ => True) (.slice A n c) xs) : QQA.k40.C w A xs.length xs := by
  obtain ⟨A', c', e, _, hC⟩ := Kd.R_reads h
  injection e with e1 e2 e3
  subst e1
  exact hC
set_option maxHeartbeats 2000000 in
theorem apart_walk (A : Option Addr) (c : Nat) (l : List St) (pl : Int) (w : World) (hC : Kd.C k33 w A l.length l) (hc : l.length ≤ c) (hlen : l.length * 40 ≤ 140737488351232) (hwf : ∀ s ∈ l, (Lit.int .i64 s.p).wf = true) :
    Calls Try.prog 5 #[.slice A l.length c, .int .i64 pl] w fun e w' => e = .returned (.bool true) ∧ Below w.heap.size w w' := by
  have HC := Aside0.mk hC
  have HL := Aside0.mk hlen
  have HW := Aside0.mk hwf
  have HB := Aside0.mk (Below.refl w.heap.size w)
  clear hC hlen hwf
  go_enter Try.func5, Try.ntmps5
  go_wp2_with (first
    | (go_at_call 7; refine (fixed_calls _).mono ?_; rintro e w1 ⟨rfl, hb⟩; have n_ := Aside0.mk (below_step (by repeat (first | (with_reducible first | exact HB.out | apply below_alloc | apply pw_below_drewN | apply below_drew1) | exact HB.out)) hb); clear HB; have HB := n_; clear n_ hb)
    | (go_at_call 8; first
        | (have hG := HG.out; refine (g_new _).mono ?_; rintro e w3 ⟨g2, m2, rfl, hH, hb, hg2', hm2'⟩; have hg2 := Nat.le_trans (below_size (by repeat (first | (with_reducible first | exact HB.out | apply below_alloc | apply pw_below_drewN | apply below_drew1) | exact HB.out))) hg2'; have hm2 := Nat.le_trans (below_size (by repeat (first | (with_reducible first | exact HB.out | apply below_alloc | apply pw_below_drewN | apply below_drew1) | exact HB.out))) hm2'; have n_ := Aside0.mk (below_step (by repeat (first | (with_reducible first | exact HB.out | apply below_alloc | apply pw_below_drewN | apply below_drew1) | exact HB.out)) hb); clear HB; have HB := n_; clear n_)
        | (refine (g_new _).mono ?_; rintro e w2 ⟨g1, m1, rfl, hG, hb, hg1', hm1'⟩; have hg1 := Nat.le_trans (below_size (by repeat (first | (with_reducible first | exact HB.out | apply below_alloc | apply pw_below_drewN | apply below_drew1) | exact HB.out))) hg1'; have hm1 := Nat.le_trans (below_size (by repeat (first | (with_reducible first | exact HB.out | apply below_alloc | apply pw_below_drewN | apply below_drew1) | exact HB.out))) hm1'; have n_ := Aside0.mk (below_step (by repeat (first | (with_reducible first | exact HB.out | apply below_alloc | apply pw_below_drewN | apply below_drew1) | exact HB.out)) hb); have HG := Aside0.mk hG; clear HB; have HB := n_; clear n_ hb hG hg1' hm1')))
  have hgl := hG.ltg
  have hml := hG.ltm
  have hG3 := hG.below hb
  have hgm21 : g2 ≠ m1 := by omega
  have hmm21 : m2 ≠ m1 := by omega
  have hgm12 : g1 ≠ m2 := by omega
  have hmm12 : m1 ≠ m2 := by omega
  clear hG HG hgl hml hg2' hm2' hb
  go_loopw [7] (fun iv wr => ∃ k : Int, iv = .int .i64 k ∧ 0 ≤ k ∧ k ≤ l.length ∧ Below w.heap.size w wr ∧ ∃ G, GateAt wr g1 m1 k.toNat G ∧ GateAt wr g2 m2 k.toNat (dropP G pl)) (fun iv _ => l.length - (intOf iv).toNat)
  case atStart => exact ⟨0, rfl, Int.le_refl _, by omega, HB.out, [], hG3, hH⟩
  case round =>
    clear HB hG3 hH
    obtain ⟨k, rfl, h0, h1, hbw, G, hG, hH⟩ := hrel
    have HG := Aside0.mk hG
    have HH := Aside0.mk hH
    have HB := Aside0.mk hbw
    have hCw := Kd.C_below HC.out hbw
    have hm1w := hG.ltm
    have hm2w := hH.ltm
    clear hG hH hbw
    by_cases hk : k < l.length
    · have kb : decide (k < (l.length : Int)) = true := decide_eq_true hk
      obtain ⟨ad, s, hs, e1, d0, d1, d2, d3, d4, d5⟩ := at_T33 hCw k h0 hk
      subst e1
      have hwp := HW.out s (List.mem_of_getElem? hs)
      have hnk : k.toNat < maxLen := by
        have := HL.out
        simp only [maxLen]
        omega
      have hsG := HG.out.srt
      have KA := Aside0.mk (And.intro h0 (And.intro h1 hk))
      have SG := Aside0.mk hsG
      have p0 : (0 ≤ k) = True := eq_true h0
      have p1 : (k < (l.length : Int)) = True := eq_true hk
      clear hk hs hsG h0 h1 hCw
      by_cases ho : s.p = pl
      · have o1 : (s.p != pl) = false := bne_eq_false_iff_eq.2 ho
        have OO := Aside0.mk ho
        clear ho
        obtain ⟨b1, hb1⟩ : ∃ b, hasP G s.p = b := ⟨_, rfl⟩
        by_cases q : s.op = 1
        · have q1 : (s.op == 1) = true := beq_iff_eq.2 q
          clear q
          cases b1
          · have RG : (if hasP G s.p then 180 else 0) = (0 : Int) := by rw [hb1]; rfl
            go_wp2_with (go_at_call 10; ((with_reducible refine (offer_at HG.out ?side1 ?side2 s.p s.t s.u s.f s.b hwp _ RG _ rfl).mono ?_); (case side1 => exact (by repeat (first | (with_reducible first | exact Below.refl _ _ | apply below_alloc | apply pw_below_drewN | apply below_drew1) | exact Below.refl _ _))); (case side2 => exact hnk); rintro e w4 ⟨rfl, hG1, hg1⟩; obtain ⟨x0, x1, x2, x3, x4, x5⟩ := box_kept hg1 hm1w; have hmm := hm1; have n_ := Aside0.mk (below_g (by repeat (first | (with_reducible first | exact HB.out | apply below_alloc | apply pw_below_drewN | apply below_drew1) | exact HB.out)) hg1 hmm); clear HB; have HB := n_; clear n_; have HH1 := Aside0.mk (other_gate HH.out (by repeat (first | (with_reducible first | exact Below.refl _ _ | apply below_alloc | apply pw_below_drewN | apply below_drew1) | exact Below.refl _ _)) hg1 hgm21 hmm21); have HD := Aside0.mk hG1; clear HG HH; have HH := HH1; clear HH1 hG1 hg1 hmm))
            exact apart_step KA.out HL.out HB.out _ HD.out (by rw [← OO.out, show dropP (offerL G (legI s.p s.t s.u s.f s.b)) s.p = dropP G s.p from drop_offer_same, OO.out]; exact HH.out.mono (Nat.le_succ _))
          · have RG : (if hasP G s.p then 180 else 0) = (180 : Int) := by rw [hb1]; rfl
            go_wp2_with (go_at_call 10; ((with_reducible refine (offer_at HG.out ?side1 ?side2 s.p s.t s.u s.f s.b hwp _ RG _ rfl).mono ?_); (case side1 => exact (by repeat (first | (with_reducible first | exact Below.refl _ _ | apply below_alloc | apply pw_below_drewN | apply below_drew1) | exact Below.refl _ _))); (case side2 => exact hnk); rintro e w4 ⟨rfl, hG1, hg1⟩; obtain ⟨x0, x1, x2, x3, x4, x5⟩ := box_kept hg1 hm1w; have hmm := hm1; have n_ := Aside0.mk (below_g (by repeat (first | (with_reducible first | exact HB.out | apply below_alloc | apply pw_below_drewN | apply below_drew1) | exact HB.out)) hg1 hmm); clear HB; have HB := n_; clear n_; have HH1 := Aside0.mk (other_gate HH.out (by repeat (first | (with_reducible first | exact Below.refl _ _ | apply below_alloc | apply pw_below_drewN | apply below_drew1) | exact Below.refl _ _)) hg1 hgm21 hmm21); have HD := Aside0.mk hG1; clear HG HH; have HH := HH1; clear HH1 hG1 hg1 hmm))
            exact apart_step KA.out HL.out HB.out _ HD.out (by rw [← OO.out, show dropP (offerL G (legI s.p s.t s.u s.f s.b)) s.p = dropP G s.p from drop_offer_same, OO.out]; exact HH.out.mono (Nat.le_succ _))
        · have q1 : (s.op == 1) = false := beq_eq_false_iff_ne.2 q
          clear q
          by_cases q : s.op = 3
          · have q3 : (s.op == 3) = true := beq_iff_eq.2 q
            clear q
            have RG := hb1
            go_wp2_with (go_at_call 14; ((with_reducible refine (drop_at HG.out ?side1 s.p hwp _ RG _ rfl).mono ?_); (case side1 => exact (by repeat (first | (with_reducible first | exact Below.refl _ _ | apply below_alloc | apply pw_below_drewN | apply below_drew1) | exact Below.refl _ _))); rintro e w4 ⟨rfl, hG1, hg1⟩; obtain ⟨x0, x1, x2, x3, x4, x5⟩ := box_kept hg1 hm1w; have hmm := hm1; have n_ := Aside0.mk (below_g (by repeat (first | (with_reducible first | exact HB.out | apply below_alloc | apply pw_below_drewN | apply below_drew1) | exact HB.out)) hg1 hmm); clear HB; have HB := n_; clear n_; have HH1 := Aside0.mk (other_gate HH.out (by repeat (first | (with_reducible first | exact Below.refl _ _ | apply below_alloc | apply pw_below_drewN | apply below_drew1) | exact Below.refl _ _)) hg1 hgm21 hmm21); have HD := Aside0.mk (hG1.mono (Nat.le_succ _)); clear HG HH; have HH := HH1; clear HH1 hG1 hg1 hmm))
            exact apart_step KA.out HL.out HB.out _ HD.out (by rw [← OO.out, drop_drop, OO.out]; exact HH.out.mono (Nat.le_succ _))
          · have q3 : (s.op == 3) = false := beq_eq_false_iff_ne.2 q
            clear q
            go_wp2
            exact apart_step KA.out HL.out (by repeat (first | (with_reducible first | exact HB.out | apply below_alloc | apply pw_below_drewN | apply below_drew1) | exact HB.out)) G ((HG.out.below (by repeat (first | (with_reducible first | exact Below.refl _ _ | apply below_alloc | apply pw_below_drewN | apply below_drew1) | exact Below.refl _ _))).mono (Nat.le_succ _)) ((HH.out.below (by repeat (first | (with_reducible first | exact Below.refl _ _ | apply below_alloc | apply pw_below_drewN | apply below_drew1) | exact Below.refl _ _))).mono (Nat.le_succ _))
      · have o1 : (s.p != pl) = true := bne_iff_ne.2 ho
        have OO := Aside0.mk ho
        clear ho
        obtain ⟨b1, hb1⟩ : ∃ b, hasP G s.p = b := ⟨_, rfl⟩
        by_cases q : s.op = 1
        · have q1 : (s.op == 1) = true := beq_iff_eq.2 q
          clear q
          cases b1
          · have RG : (if hasP G s.p then 180 else 0) = (0 : Int) := by rw [hb1]; rfl
            have RH : (if hasP (dropP G pl) s.p then 180 else 0) = (0 : Int) := by rw [has_drop_other OO.out, hb1]; rfl
            go_wp2_with (go_at_call 10; first | ((with_reducible refine (offer_at HG.out ?side1 ?side2 s.p s.t s.u s.f s.b hwp _ RG _ rfl).mono ?_); (case side1 => exact (by repeat (first | (with_reducible first | exact Below.refl _ _ | apply below_alloc | apply pw_below_drewN | apply below_drew1) | exact Below.refl _ _))); (case side2 => exact hnk); rintro e w4 ⟨rfl, hG1, hg1⟩; obtain ⟨x0, x1, x2, x3, x4, x5⟩ := box_kept hg1 hm1w; have hmm := hm1; have n_ := Aside0.mk (below_g (by repeat (first | (with_reducible first | exact HB.out | apply below_alloc | apply pw_below_drewN | apply below_drew1) | exact HB.out)) hg1 hmm); clear HB; have HB := n_; clear n_; have HH1 := Aside0.mk (other_gate HH.out (by repeat (first | (with_reducible first | exact Below.refl _ _ | apply below_alloc | apply pw_below_drewN | apply below_drew1) | exact Below.refl _ _)) hg1 hgm21 hmm21); have HD := Aside0.mk hG1; clear HG HH; have HH := HH1; clear HH1 hG1 hg1 hmm) | ((with_reducible refine (offer_at HH.out ?side1 ?side2 s.p s.t s.u s.f s.b hwp _ RH _ rfl).mono ?_); (case side1 => exact (by repeat (first | (with_reducible first | exact Below.refl _ _ | apply below_alloc | apply pw_below_drewN | apply below_drew1) | exact Below.refl _ _))); (case side2 => exact hnk); rintro e w5 ⟨rfl, hH1, hg1⟩; have hmm := hm2; have n_ := Aside0.mk (below_g (by repeat (first | (with_reducible first | exact HB.out | apply below_alloc | apply pw_below_drewN | apply below_drew1) | exact HB.out)) hg1 hmm); clear HB; have HB := n_; clear n_; have HD1 := Aside0.mk (other_gate HD.out (by repeat (first | (with_reducible first | exact Below.refl _ _ | apply below_alloc | apply pw_below_drewN | apply below_drew1) | exact Below.refl _ _)) hg1 hgm12 hmm12); have HE := Aside0.mk hH1; clear HD HH; have HD := HD1; clear HD1 hH1 hg1 hmm))
            exact apart_step KA.out HL.out HB.out _ HD.out (by rw [drop_offer_other (y := legI s.p s.t s.u s.f s.b) OO.out SG.out]; exact HE.out)
          · have RG : (if hasP G s.p then 180 else 0) = (180 : Int) := by rw [hb1]; rfl
            have RH : (if hasP (dropP G pl) s.p then 180 else 0) = (180 : Int) := by rw [has_drop_other OO.out, hb1]; rfl
            go_wp2_with (go_at_call 10; first | ((with_reducible refine (offer_at HG.out ?side1 ?side2 s.p s.t s.u s.f s.b hwp _ RG _ rfl).mono ?_); (case side1 => exact (by repeat (first | (with_reducible first | exact Below.refl _ _ | apply below_alloc | apply pw_below_drewN | apply below_drew1) | exact Below.refl _ _))); (case side2 => exact hnk); rintro e w4 ⟨rfl, hG1, hg1⟩; obtain ⟨x0, x1, x2, x3, x4, x5⟩ := box_kept hg1 hm1w; have hmm := hm1; have n_ := Aside0.mk (below_g (by repeat (first | (with_reducible first | exact HB.out | apply below_alloc | apply pw_below_drewN | apply below_drew1) | exact HB.out)) hg1 hmm); clear HB; have HB := n_; clear n_; have HH1 := Aside0.mk (other_gate HH.out (by repeat (first | (with_reducible first | exact Below.refl _ _ | apply below_alloc | apply pw_below_drewN | apply below_drew1) | exact Below.refl _ _)) hg1 hgm21 hmm21); have HD := Aside0.mk hG1; clear HG HH; have HH := HH1; clear HH1 hG1 hg1 hmm) | ((with_reducible refine (offer_at HH.out ?side1 ?side2 s.p s.t s.u s.f s.b hwp _ RH _ rfl).mono ?_); (case side1 => exact (by repeat (first | (with_reducible first | exact Below.refl _ _ | apply below_alloc | apply pw_below_drewN | apply below_drew1) | exact Below.refl _ _))); (case side2 => exact hnk); rintro e w5 ⟨rfl, hH1, hg1⟩; have hmm := hm2; have n_ := Aside0.mk (below_g (by repeat (first | (with_reducible first | exact HB.out | apply below_alloc | apply pw_below_drewN | apply below_drew1) | exact HB.out)) hg1 hmm); clear HB; have HB := n_; clear n_; have HD1 := Aside0.mk (other_gate HD.out (by repeat (first | (with_reducible first | exact Below.refl _ _ | apply below_alloc | apply pw_below_drewN | apply below_drew1) | exact Below.refl _ _)) hg1 hgm12 hmm12); have HE := Aside0.mk hH1; clear HD HH; have HD := HD1; clear HD1 hH1 hg1 hmm))
            exact apart_step KA.out HL.out HB.out _ HD.out (by rw [drop_offer_other (y := legI s.p s.t s.u s.f s.b) OO.out SG.out]; exact HE.out)
        · have q1 : (s.op == 1) = false := beq_eq_false_iff_ne.2 q
          clear q
          by_cases q : s.op = 3
          · have q3 : (s.op == 3) = true := beq_iff_eq.2 q
            clear q
            cases b1
            · have RG := hb1
              have RH : hasP (dropP G pl) s.p = false := by rw [has_drop_other OO.out, hb1]
              go_wp2_with (go_at_call 14; first | ((with_reducible refine (drop_at HG.out ?side1 s.p hwp _ RG _ rfl).mono ?_); (case side1 => exact (by repeat (first | (with_reducible first | exact Below.refl _ _ | apply below_alloc | apply pw_below_drewN | apply below_drew1) | exact Below.refl _ _))); rintro e w4 ⟨rfl, hG1, hg1⟩; obtain ⟨x0, x1, x2, x3, x4, x5⟩ := box_kept hg1 hm1w; have hmm := hm1; have n_ := Aside0.mk (below_g (by repeat (first | (with_reducible first | exact HB.out | apply below_alloc | apply pw_below_drewN | apply below_drew1) | exact HB.out)) hg1 hmm); clear HB; have HB := n_; clear n_; have HH1 := Aside0.mk (other_gate HH.out (by repeat (first | (with_reducible first | exact Below.refl _ _ | apply below_alloc | apply pw_below_drewN | apply below_drew1) | exact Below.refl _ _)) hg1 hgm21 hmm21); have HD := Aside0.mk (hG1.mono (Nat.le_succ _)); clear HG HH; have HH := HH1; clear HH1 hG1 hg1 hmm) | ((with_reducible refine (drop_at HH.out ?side1 s.p hwp _ RH _ rfl).mono ?_); (case side1 => exact (by repeat (first | (with_reducible first | exact Below.refl _ _ | apply below_alloc | apply pw_below_drewN | apply below_drew1) | exact Below.refl _ _))); rintro e w5 ⟨rfl, hH1, hg1⟩; have hmm := hm2; have n_ := Aside0.mk (below_g (by repeat (first | (with_reducible first | exact HB.out | apply below_alloc | apply pw_below_drewN | apply below_drew1) | exact HB.out)) hg1 hmm); clear HB; have HB := n_; clear n_; have HD1 := Aside0.mk (other_gate HD.out (by repeat (first | (with_reducible first | exact Below.refl _ _ | apply below_alloc | apply pw_below_drewN | apply below_drew1) | exact Below.refl _ _)) hg1 hgm12 hmm12); have HE := Aside0.mk (hH1.mono (Nat.le_succ _)); clear HD HH; have HD := HD1; clear HD1 hH1 hg1 hmm))
              exact apart_step KA.out HL.out HB.out _ HD.out (by rw [drop_comm]; exact HE.out)
            · have RG := hb1
              have RH : hasP (dropP G pl) s.p = true := by rw [has_drop_other OO.out, hb1]
              go_wp2_with (go_at_call 14; first | ((with_reducible refine (drop_at HG.out ?side1 s.p hwp _ RG _ rfl).mono ?_); (case side1 => exact (by repeat (first | (with_reducible first | exact Below.refl _ _ | apply below_alloc | apply pw_below_drewN | apply below_drew1) | exact Below.refl _ _))); rintro e w4 ⟨rfl, hG1, hg1⟩; obtain ⟨x0, x1, x2, x3, x4, x5⟩ := box_kept hg1 hm1w; have hmm := hm1; have n_ := Aside0.mk (below_g (by repeat (first | (with_reducible first | exact HB.out | apply below_alloc | apply pw_below_drewN | apply below_drew1) | exact HB.out)) hg1 hmm); clear HB; have HB := n_; clear n_; have HH1 := Aside0.mk (other_gate HH.out (by repeat (first | (with_reducible first | exact Below.refl _ _ | apply below_alloc | apply pw_below_drewN | apply below_drew1) | exact Below.refl _ _)) hg1 hgm21 hmm21); have HD := Aside0.mk (hG1.mono (Nat.le_succ _)); clear HG HH; have HH := HH1; clear HH1 hG1 hg1 hmm) | ((with_reducible refine (drop_at HH.out ?side1 s.p hwp _ RH _ rfl).mono ?_); (case side1 => exact (by repeat (first | (with_reducible first | exact Below.refl _ _ | apply below_alloc | apply pw_below_drewN | apply below_drew1) | exact Below.refl _ _))); rintro e w5 ⟨rfl, hH1, hg1⟩; have hmm := hm2; have n_ := Aside0.mk (below_g (by repeat (first | (with_reducible first | exact HB.out | apply below_alloc | apply pw_below_drewN | apply below_drew1) | exact HB.out)) hg1 hmm); clear HB; have HB := n_; clear n_; have HD1 := Aside0.mk (other_gate HD.out (by repeat (first | (with_reducible first | exact Below.refl _ _ | apply below_alloc | apply pw_below_drewN | apply below_drew1) | exact Below.refl _ _)) hg1 hgm12 hmm12); have HE := Aside0.mk (hH1.mono (Nat.le_succ _)); clear HD HH; have HD := HD1; clear HD1 hH1 hg1 hmm))
              exact apart_step KA.out HL.out HB.out _ HD.out (by rw [drop_comm]; exact HE.out)
          · have q3 : (s.op == 3) = false := beq_eq_false_iff_ne.2 q
            clear q
            go_wp2
            exact apart_step KA.out HL.out (by repeat (first | (with_reducible first | exact HB.out | apply below_alloc | apply pw_below_drewN | apply below_drew1) | exact HB.out)) G ((HG.out.below (by repeat (first | (with_reducible first | exact Below.refl _ _ | apply below_alloc | apply pw_below_drewN | apply below_drew1) | exact Below.refl _ _))).mono (Nat.le_succ _)) ((HH.out.below (by repeat (first | (with_reducible first | exact Below.refl _ _ | apply below_alloc | apply pw_below_drewN | apply below_drew1) | exact Below.refl _ _))).mono (Nat.le_succ _))
    · have kb : decide (k < (l.length : Int)) = false := decide_eq_false hk
      have hnk : k.toNat ≤ 4000000000000 := by
        have := HL.out
        omega
      have GLn := Aside0.mk (Nat.le_trans HG.out.len hnk)
      clear hk h0 h1 hCw
      go_wp2_with (go_at_call 17; first
        | ((with_reducible refine (take_at HG.out ?side1 hnk).mono ?_); (case side1 => exact (by repeat (first | (with_reducible first | exact Below.refl _ _ | apply below_alloc | apply pw_below_drewN | apply below_drew1) | exact Below.refl _ _))); rintro e w4 ⟨A1, c1, rfl, hG1, hg1, hR1, hc1, hX1⟩; have hmm := hm1; have n_ := Aside0.mk (below_g (by repeat (first | (with_reducible first | exact HB.out | apply below_alloc | apply pw_below_drewN | apply below_drew1) | exact HB.out)) hg1 hmm); clear HB; have HB := n_; clear n_; have HH1 := Aside0.mk (other_gate HH.out (by repeat (first | (with_reducible first | exact Below.refl _ _ | apply below_alloc | apply pw_below_drewN | apply below_drew1) | exact Below.refl _ _)) hg1 hgm21 hmm21); have HX := Aside0.mk hR1; clear HG HH; have HH := HH1; clear HH1 hG1 hg1 hmm hR1 hX1)
        | ((with_reducible refine (take_at HH.out ?side1 hnk).mono ?_); (case side1 => exact (by repeat (first | (with_reducible first | exact Below.refl _ _ | apply below_alloc | apply pw_below_drewN | apply below_drew1) | exact Below.refl _ _))); rintro e w5 ⟨A2, c2, rfl, hG1, hg1, hR2, hc2, hY1⟩; have hmm := hm2; have n_ := Aside0.mk (below_g (by repeat (first | (with_reducible first | exact HB.out | apply below_alloc | apply pw_below_drewN | apply below_drew1) | exact HB.out)) hg1 hmm); clear HB; have HB := n_; clear n_; have HY := Aside0.mk hY1; have HX1 := Aside0.mk (R_row (R_other HX.out hg1 hm2w)); clear HX hmm hR2 hY1 hg1 hG1 HH))
      clear hnk hm1w hm2w kb hgm21 hmm21 hgm12 hmm12 hg2 hm2 hm1
      obtain ⟨H, hH⟩ : ∃ H, dropP G pl = H := ⟨_, rfl⟩
      rw [hH] at HY hc2 ⊢
      have HH := Aside0.mk hH
      clear hH
      go_loopw [14, 15] (fun kv iv wq => ∃ a kk : Int, iv = .int .i64 a ∧ 0 ≤ a ∧ a ≤ G.length ∧ kv = .int .i64 kk ∧ kk = ((dropP (G.take a.toNat) pl).length : Int) ∧ Below w.heap.size w wq ∧ Kd.C QQA.k40 wq A1 G.length G ∧ Kd.C QQA.k40 wq A2 H.length H) (fun _ iv _ => G.length - (intOf iv).toNat)
      case atStart => exact ⟨0, 0, rfl, Int.le_refl _, by omega, rfl, by simp [dropP], HB.out, HX1.out, HY.out⟩
      case round =>
        clear HB HX1 HY
        obtain ⟨a, kk, rfl, h0, h1, rfl, hkk, hbw, hX, hY⟩ := hrel
        have HB := Aside0.mk hbw
        have HX := Aside0.mk hX
        have HY := Aside0.mk hY
        have HK := Aside0.mk hkk
        clear hbw
        by_cases hk : a < G.length
        · have kb : decide (a < (G.length : Int)) = true := decide_eq_true hk
          obtain ⟨ad, s, hs, e1, d0, d1, d2, d3, d4⟩ := at_I hX a h0 hk
          subst e1
          have KA := Aside0.mk (And.intro h0 (And.intro h1 hk))
          have HS := Aside0.mk hs
          by_cases ho : s.f0 = pl
          · have o1 : (s.f0 == pl) = true := beq_iff_eq.2 ho
            have OO := Aside0.mk ho
            have p0 : (0 ≤ a) = True := eq_true h0
            have p1 : (a < (G.length : Int)) = True := eq_true hk
            clear ho hk hs h0 h1 hX hY hkk
            go_wp2
            have e := KA.out
            have eG := GLn.out
            rw [wrap_id (by omega) (by omega)]
            have en : (a + 1).toNat = a.toNat + 1 := by omega
            refine ⟨⟨a + 1, kk, rfl, by omega, by omega, rfl, ?_, (by repeat (first | (with_reducible first | exact HB.out | apply below_alloc | apply pw_below_drewN | apply below_drew1) | exact HB.out)), HX.out, HY.out⟩, by simp only [intOf]; omega⟩
            rw [en, drop_take_same HS.out OO.out]
            exact HK.out
          · have o1 : (s.f0 == pl) = false := beq_eq_false_iff_ne.2 ho
            have OO := Aside0.mk ho
            have hat := drop_at_other hs ho
            rw [HH.out] at hat
            have hkl : kk < (H.length : Int) := by
              have := (List.getElem?_eq_some_iff.1 hat).1
              omega
            have hk0 : 0 ≤ kk := by omega
            obtain ⟨ad2, s2, hs2, e2, b0, b1, b2, b3, b4⟩ := at_I hY kk hk0 hkl
            subst e2
            have hss : s2 = s := by
              have e : kk.toNat = (dropP (G.take a.toNat) pl).length := by omega
              rw [e, hat] at hs2
              exact (Option.some.inj hs2).symm
            subst hss
            have kb2 : decide (kk ≥ (H.length : Int)) = false := decide_eq_false (by omega)
            have kb3 : decide ((H.length : Int) ≤ kk) = false := decide_eq_false (by omega)
            have p0 : (0 ≤ a) = True := eq_true h0
            have p1 : (a < (G.length : Int)) = True := eq_true hk
            have p2 : (0 ≤ kk) = True := eq_true hk0
            have p3 : (kk < (H.length : Int)) = True := eq_true hkl
            clear ho hk hs h0 h1 hX hY hkk hat hkl hk0 hs2
            go_wp2
            repeat (go_quiet (fail); try go_wp2)
            have e := KA.out
            have eG := GLn.out
            have ek := HK.out
            have eh := congrArg List.length HH.out
            have ed := List.length_filter_le (fun x : It => !(x.f0 == pl)) G
            have et := List.length_filter_le (fun x : It => !(x.f0 == pl)) (G.take a.toNat)
            have et2 : (dropP (G.take a.toNat) pl).length ≤ G.length := Nat.le_trans et (by rw [List.length_take]; omega)
            rw [wrap_id (x := a + 1) (by omega) (by omega), wrap_id (x := kk + 1) (by omega) (by omega)]
            have en : (a + 1).toNat = a.toNat + 1 := by omega
            refine ⟨⟨a + 1, kk + 1, rfl, by omega, by omega, rfl, ?_, (by repeat (first | (with_reducible first | exact HB.out | apply below_alloc | apply pw_below_drewN | apply below_drew1) | exact HB.out)), Kd.C_below HX.out (by repeat (first | (with_reducible first | exact Below.refl _ _ | apply below_alloc | apply pw_below_drewN | apply below_drew1) | exact Below.refl _ _)), Kd.C_below HY.out (by repeat (first | (with_reducible first | exact Below.refl _ _ | apply below_alloc | apply pw_below_drewN | apply below_drew1) | exact Below.refl _ _))⟩, by simp only [intOf]; omega⟩
            rw [en, drop_take_other HS.out OO.out, List.length_append, ek]
            rfl
        · have kb : decide (a < (G.length : Int)) = false := decide_eq_false hk
          have ee : (kk == (H.length : Int)) = true := by
            rw [beq_iff_eq, hkk, ← HH.out, List.take_of_length_le (by omega)]
          clear hk h0 h1 hX hY hkk
          go_wp2
          go_ret
          exact ⟨rfl, (by repeat (first | (with_reducible first | exact HB.out | apply below_alloc | apply pw_below_drewN | apply below_drew1) | exact HB.out))⟩
end Go.Proofs.Ytokemjdfcifbbaa.Gt
