/- The document's Put, At, Near. -/
import Derived.Test.YtggmfmlfkhcbdaaGR
namespace Go.Proofs.Ytggmfmlfkhcbdaa.Gr
open Go Go.RowKit Go.Maps Go.Proofs.YtggmfmlfkhcbdaaW.PrintWords Go.Proofs.YtggmfmlfkhcbdaaW.PrintLast Go.Proofs.YtggmfmlfkhcbdaaW.PrintMore
set_option linter.unusedVariables false
set_option linter.unusedSimpArgs false

theorem bx_grown {W W' w9 : World} {b : Nat} {obj : Obj} {ov : Value} (hb : W.heap[b]? = some obj) (hB : Below W.heap.size W W') (hg : W'.grownBy w9 ov.ownBlock) (ho : ∀ k, ov.ownBlock = some k → b + 1 ≤ k) : w9.heap[b]? = some obj := by
  have hlt := (Array.getElem?_eq_some_iff.1 hb).1
  exact (hg.block b (Nat.lt_of_lt_of_le hlt hB.size) (fun e => by have := ho b e.symm; omega)).trans ((hB.block b hlt).trans hb)
theorem bx_cells2 {W : World} {b t : Nat} {v0 v1 : Value} (hb : W.heap[b]? = some (.cells #[v0, v1] t (0, 0))) : W.cell? ⟨b, 0, none⟩ = some v0 ∧ W.cell? ⟨b, 1, none⟩ = some v1 := by
  simp [World.cell?, hb]
theorem bx_lt {W : World} {b : Nat} {obj : Obj} (hb : W.heap[b]? = some obj) : b + 1 ≤ W.heap.size := (Array.getElem?_eq_some_iff.1 hb).1

set_option maxHeartbeats 2000000 in
theorem r_put {w : World} {rb B : Nat} {L : List Th} {v : Value} (h : RefAt w rb B L v) (hs : Srt L) (hL : L.length ≤ 3600000000000) (x px py : Int) :
    Calls Try.prog 11 #[.pointer (some ⟨rb, 0, none⟩), .int .i64 x, .agg #[.int .i64 px, .int .i64 py]] w fun e w' =>
      e = .returned (.tuple #[]) ∧ (∃ v', RefAt w' rb w.heap.size (putT (⟨x, px, py⟩ : Th) L) v') ∧ Mv w w' (fun k => k = rb) := by
  obtain ⟨A, c, rfl, hc, hC⟩ := ref_read h
  have HR := Aside0.mk h
  have HC := Aside0.mk hC
  have HL := Aside0.mk hL
  have HSR := Aside0.mk hs
  clear h hC hL hs
  go_enter Try.func11, Try.ntmps11
  go_wp2
  have BX0 := Aside0.mk (heap_alloc_new w (.cells #[.int .i64 px, .int .i64 py] 32))
  go_loopw [6, 7, 8] (fun ov dv iv wq => ∃ (a : Int) (d : Bool) (xs : List Th), iv = .int .i64 a ∧ dv = .bool d ∧ 0 ≤ a ∧ a ≤ L.length ∧ kT.R 63 wq (w.heap.size + 1) (fun _ => True) ov xs ∧ wq.heap[w.heap.size]? = some (.cells #[.int .i64 px, .int .i64 py] 32 (0, 0)) ∧ Below w.heap.size w wq ∧ PutI (⟨x, px, py⟩ : Th) L a.toNat d xs) (fun _ _ iv _ => L.length - (intOf iv).toNat)
  case atStart => exact ⟨0, false, [], rfl, rfl, Int.le_refl _, by omega, Kd.R_nil _ _ _ _ _, BX0.out, (by repeat (first | (with_reducible first | exact Below.refl _ _ | apply below_alloc | apply pw_below_drewN | apply below_drew1) | exact Below.refl _ _)), putI_start _ _⟩
  case round =>
    clear BX0
    obtain ⟨a, d, xs, rfl, rfl, h0, h1, ho, hbx, hbw, hinv⟩ := hrel
    have HB := Aside0.mk hbw
    have HO := Aside0.mk ho
    have HOB := Aside0.mk (Kd.R_base ho)
    have BX := Aside0.mk hbx
    have HI := Aside0.mk hinv
    have hr := (HR.out.below hbw).cell
    have hfr := (HR.out.below hbw).thaw
    obtain ⟨q0, q1⟩ := bx_cells2 hbx
    have hCw := Kd.C_below HC.out hbw
    have HN : Aside0 (xs.length + 1 ≤ 3900000000000) := by
      have e := putI_len hinv
      have eL := HL.out
      exact ⟨by omega⟩
    clear hbw ho hinv hbx
    by_cases hk : a < L.length
    · have kb : decide (a < (L.length : Int)) = true := decide_eq_true hk
      obtain ⟨ad, s, hs, e1, d0, d1, d2⟩ := at_Th hCw a h0 hk
      subst e1
      have KA := Aside0.mk (And.intro h0 (And.intro h1 hk))
      have HS := Aside0.mk hs
      have p0 : (0 ≤ a) = True := eq_true h0
      have p1 : (a < (L.length : Int)) = True := eq_true hk
      clear hk hs h0 h1 hCw
      cases d
      · by_cases hx : s.id < x
        · have o1 : decide (s.id ≥ x) = false := decide_eq_false (by omega)
          have o2 : decide (x ≤ s.id) = false := decide_eq_false (by omega)
          have o3 : (s.id != x) = true := bne_iff_ne.2 (by omega)
          have OO := Aside0.mk hx
          clear hx
          go_wp2_with (at_builtin; refine Kd.R_append kT (w0 := _) (w.heap.size + 1) rfl (.tmp 48) (.tmp 56) 56 63 (.agg #[(.int .i64 0), (.int .i64 0), (.int .i64 0)]) 24 rfl Try.underlying56 info63 rfl (by decide) (by omega) u6 (xs) (s) [.int .i64 s.id, .int .i64 s.x, .int .i64 s.y] (fun _ => True) (fun _ => False) rfl (by simp [Act.eval]) ?aP (fun _ hk => hk.elim) (fun _ _ => trivial) ?aO (Below.refl _ _) ?aS ?aL ?_; (case aP => exact kT_mkM _ _ _ (s)); (case aO => exact (by (with_reducible repeat (first | apply Kd.R_alloc | apply Kd.R_drewN | apply Kd.R_drew)); exact HO.out)); (case aS => exact Nat.le_trans (bx_lt BX.out) (below_size (by repeat (first | (with_reducible first | exact Below.refl _ _ | apply below_alloc | apply pw_below_drewN | apply below_drew1) | exact Below.refl _ _)))); (case aL => have e := HN.out; (try simp only [List.length_append, List.length_singleton]); omega); intro v9 w9 ho9 hb9 hg9 hat9; have n_ := Aside0.mk (Below.grown (B := w.heap.size) (a := w) (by repeat (first | (with_reducible first | exact HB.out | apply below_alloc | apply pw_below_drewN | apply below_drew1) | exact HB.out)) hg9 (below_size (by repeat (first | (with_reducible first | exact HB.out | apply below_alloc | apply pw_below_drewN | apply below_drew1) | exact HB.out))) (fun k hk => by have := HOB.out k hk; omega)); have n2_ := Aside0.mk ho9; have n3_ := Aside0.mk (bx_grown BX.out (by repeat (first | (with_reducible first | exact Below.refl _ _ | apply below_alloc | apply pw_below_drewN | apply below_drew1) | exact Below.refl _ _)) hg9 HOB.out); clear BX; have BX := n3_; clear n3_; clear HB HO ho9 hb9 hg9 hat9 HOB; have HB := n_; have HO := n2_; have HOB := Aside0.mk (Kd.R_base HO.out); clear n_ n2_; skip)
          have e := KA.out; have eL := HL.out; rw [wrap_id (x := a + 1) (by unfold I64; omega)]; have en : (a + 1).toNat = a.toNat + 1 := by omega
          refine ⟨⟨a + 1, false, xs ++ [s], rfl, rfl, by omega, by omega, HO.out, BX.out, (by repeat (first | (with_reducible first | exact HB.out | apply below_alloc | apply pw_below_drewN | apply below_drew1) | exact HB.out)), ?_⟩, by simp only [intOf]; omega⟩
          rw [en]
          exact putI_ahead HSR.out HS.out HI.out OO.out
        · have o1 : decide (s.id ≥ x) = true := decide_eq_true (by omega)
          have o2 : decide (x ≤ s.id) = true := decide_eq_true (by omega)
          by_cases hx2 : s.id = x
          · have o3 : (s.id != x) = false := bne_eq_false_iff_eq.2 hx2
            have OO := Aside0.mk hx2
            clear hx hx2
            go_wp2_with (at_builtin; refine Kd.R_append kT (w0 := _) (w.heap.size + 1) rfl (.tmp 32) (.tmp 36) 56 63 (.agg #[(.int .i64 0), (.int .i64 0), (.int .i64 0)]) 24 rfl Try.underlying56 info63 rfl (by decide) (by omega) u6 (xs) ((⟨x, px, py⟩ : Th)) [.int .i64 x, .int .i64 px, .int .i64 py] (fun _ => True) (fun _ => False) rfl (by simp [Act.eval]) ?aP (fun _ hk => hk.elim) (fun _ _ => trivial) ?aO (Below.refl _ _) ?aS ?aL ?_; (case aP => exact kT_mkM _ _ _ ((⟨x, px, py⟩ : Th))); (case aO => exact (by (with_reducible repeat (first | apply Kd.R_alloc | apply Kd.R_drewN | apply Kd.R_drew)); exact HO.out)); (case aS => exact Nat.le_trans (bx_lt BX.out) (below_size (by repeat (first | (with_reducible first | exact Below.refl _ _ | apply below_alloc | apply pw_below_drewN | apply below_drew1) | exact Below.refl _ _)))); (case aL => have e := HN.out; (try simp only [List.length_append, List.length_singleton]); omega); intro v9 w9 ho9 hb9 hg9 hat9; have n_ := Aside0.mk (Below.grown (B := w.heap.size) (a := w) (by repeat (first | (with_reducible first | exact HB.out | apply below_alloc | apply pw_below_drewN | apply below_drew1) | exact HB.out)) hg9 (below_size (by repeat (first | (with_reducible first | exact HB.out | apply below_alloc | apply pw_below_drewN | apply below_drew1) | exact HB.out))) (fun k hk => by have := HOB.out k hk; omega)); have n2_ := Aside0.mk ho9; have n3_ := Aside0.mk (bx_grown BX.out (by repeat (first | (with_reducible first | exact Below.refl _ _ | apply below_alloc | apply pw_below_drewN | apply below_drew1) | exact Below.refl _ _)) hg9 HOB.out); clear BX; have BX := n3_; clear n3_; clear HB HO ho9 hb9 hg9 hat9 HOB; have HB := n_; have HO := n2_; have HOB := Aside0.mk (Kd.R_base HO.out); clear n_ n2_; have hr9 := (HR.out.below HB.out).cell; have hfr9 := (HR.out.below HB.out).thaw; obtain ⟨ad9, s9, hs9, e9, f0, f1, f2⟩ := at_Th (Kd.C_below HC.out HB.out) a KA.out.1 KA.out.2.2; cases e9; cases (Option.some.inj (HS.out.symm.trans hs9)); clear hs9)
            have e := KA.out; have eL := HL.out; rw [wrap_id (x := a + 1) (by unfold I64; omega)]; have en : (a + 1).toNat = a.toNat + 1 := by omega
            refine ⟨⟨a + 1, true, xs ++ [(⟨x, px, py⟩ : Th)], rfl, rfl, by omega, by omega, HO.out, BX.out, (by repeat (first | (with_reducible first | exact HB.out | apply below_alloc | apply pw_below_drewN | apply below_drew1) | exact HB.out)), ?_⟩, by simp only [intOf]; omega⟩
            rw [en]
            exact putI_same HSR.out HS.out HI.out OO.out
          · have o3 : (s.id != x) = true := bne_iff_ne.2 hx2
            have OO := Aside0.mk (show x < s.id by omega)
            clear hx hx2
            go_wp2_with (first
              | (at_builtin; refine Kd.R_append kT (w0 := _) (w.heap.size + 1) rfl (.tmp 32) (.tmp 36) 56 63 (.agg #[(.int .i64 0), (.int .i64 0), (.int .i64 0)]) 24 rfl Try.underlying56 info63 rfl (by decide) (by omega) u6 (xs) ((⟨x, px, py⟩ : Th)) [.int .i64 x, .int .i64 px, .int .i64 py] (fun _ => True) (fun _ => False) rfl (by simp [Act.eval]) ?aP (fun _ hk => hk.elim) (fun _ _ => trivial) ?aO (Below.refl _ _) ?aS ?aL ?_; (case aP => exact kT_mkM _ _ _ ((⟨x, px, py⟩ : Th))); (case aO => exact (by (with_reducible repeat (first | apply Kd.R_alloc | apply Kd.R_drewN | apply Kd.R_drew)); exact HO.out)); (case aS => exact Nat.le_trans (bx_lt BX.out) (below_size (by repeat (first | (with_reducible first | exact Below.refl _ _ | apply below_alloc | apply pw_below_drewN | apply below_drew1) | exact Below.refl _ _)))); (case aL => have e := HN.out; (try simp only [List.length_append, List.length_singleton]); omega); intro v9 w9 ho9 hb9 hg9 hat9; have n_ := Aside0.mk (Below.grown (B := w.heap.size) (a := w) (by repeat (first | (with_reducible first | exact HB.out | apply below_alloc | apply pw_below_drewN | apply below_drew1) | exact HB.out)) hg9 (below_size (by repeat (first | (with_reducible first | exact HB.out | apply below_alloc | apply pw_below_drewN | apply below_drew1) | exact HB.out))) (fun k hk => by have := HOB.out k hk; omega)); have n2_ := Aside0.mk ho9; have n3_ := Aside0.mk (bx_grown BX.out (by repeat (first | (with_reducible first | exact Below.refl _ _ | apply below_alloc | apply pw_below_drewN | apply below_drew1) | exact Below.refl _ _)) hg9 HOB.out); clear BX; have BX := n3_; clear n3_; clear HB HO ho9 hb9 hg9 hat9 HOB; have HB := n_; have HO := n2_; have HOB := Aside0.mk (Kd.R_base HO.out); clear n_ n2_; have hr9 := (HR.out.below HB.out).cell; have hfr9 := (HR.out.below HB.out).thaw; obtain ⟨ad9, s9, hs9, e9, f0, f1, f2⟩ := at_Th (Kd.C_below HC.out HB.out) a KA.out.1 KA.out.2.2; cases e9; cases (Option.some.inj (HS.out.symm.trans hs9)); clear hs9)
              | (at_builtin; refine Kd.R_append kT (w0 := _) (w.heap.size + 1) rfl (.tmp 48) (.tmp 56) 56 63 (.agg #[(.int .i64 0), (.int .i64 0), (.int .i64 0)]) 24 rfl Try.underlying56 info63 rfl (by decide) (by omega) v9 (xs ++ [(⟨x, px, py⟩ : Th)]) (s) [.int .i64 s.id, .int .i64 s.x, .int .i64 s.y] (fun _ => True) (fun _ => False) rfl (by simp [Act.eval]) ?aP (fun _ hk => hk.elim) (fun _ _ => trivial) ?aO (Below.refl _ _) ?aS ?aL ?_; (case aP => exact kT_mkM _ _ _ (s)); (case aO => exact (by (with_reducible repeat (first | apply Kd.R_alloc | apply Kd.R_drewN | apply Kd.R_drew)); exact HO.out)); (case aS => exact Nat.le_trans (bx_lt BX.out) (below_size (by repeat (first | (with_reducible first | exact Below.refl _ _ | apply below_alloc | apply pw_below_drewN | apply below_drew1) | exact Below.refl _ _)))); (case aL => have e := HN.out; (try simp only [List.length_append, List.length_singleton]); omega); intro v9 w9 ho9 hb9 hg9 hat9; have n_ := Aside0.mk (Below.grown (B := w.heap.size) (a := w) (by repeat (first | (with_reducible first | exact HB.out | apply below_alloc | apply pw_below_drewN | apply below_drew1) | exact HB.out)) hg9 (below_size (by repeat (first | (with_reducible first | exact HB.out | apply below_alloc | apply pw_below_drewN | apply below_drew1) | exact HB.out))) (fun k hk => by have := HOB.out k hk; omega)); have n2_ := Aside0.mk ho9; have n3_ := Aside0.mk (bx_grown BX.out (by repeat (first | (with_reducible first | exact Below.refl _ _ | apply below_alloc | apply pw_below_drewN | apply below_drew1) | exact Below.refl _ _)) hg9 HOB.out); clear BX; have BX := n3_; clear n3_; clear HB HO ho9 hb9 hg9 hat9 HOB; have HB := n_; have HO := n2_; have HOB := Aside0.mk (Kd.R_base HO.out); clear n_ n2_; skip))
            have e := KA.out; have eL := HL.out; rw [wrap_id (x := a + 1) (by unfold I64; omega)]; have en : (a + 1).toNat = a.toNat + 1 := by omega
            refine ⟨⟨a + 1, true, xs ++ [(⟨x, px, py⟩ : Th)] ++ [s], rfl, rfl, by omega, by omega, HO.out, BX.out, (by repeat (first | (with_reducible first | exact HB.out | apply below_alloc | apply pw_below_drewN | apply below_drew1) | exact HB.out)), ?_⟩, by simp only [intOf]; omega⟩
            rw [en]
            exact putI_new HSR.out HS.out HI.out OO.out
      · have hm := putI_more HSR.out HS.out HI.out
        have hx : x < s.id := hm.2
        have o1 : decide (s.id ≥ x) = true := decide_eq_true (by omega)
        have o2 : decide (x ≤ s.id) = true := decide_eq_true (by omega)
        have o3 : (s.id != x) = true := bne_iff_ne.2 (by omega)
        have OO := Aside0.mk hm.1
        clear hx hm
        go_wp2_with (at_builtin; refine Kd.R_append kT (w0 := _) (w.heap.size + 1) rfl (.tmp 48) (.tmp 56) 56 63 (.agg #[(.int .i64 0), (.int .i64 0), (.int .i64 0)]) 24 rfl Try.underlying56 info63 rfl (by decide) (by omega) u6 (xs) (s) [.int .i64 s.id, .int .i64 s.x, .int .i64 s.y] (fun _ => True) (fun _ => False) rfl (by simp [Act.eval]) ?aP (fun _ hk => hk.elim) (fun _ _ => trivial) ?aO (Below.refl _ _) ?aS ?aL ?_; (case aP => exact kT_mkM _ _ _ (s)); (case aO => exact (by (with_reducible repeat (first | apply Kd.R_alloc | apply Kd.R_drewN | apply Kd.R_drew)); exact HO.out)); (case aS => exact Nat.le_trans (bx_lt BX.out) (below_size (by repeat (first | (with_reducible first | exact Below.refl _ _ | apply below_alloc | apply pw_below_drewN | apply below_drew1) | exact Below.refl _ _)))); (case aL => have e := HN.out; (try simp only [List.length_append, List.length_singleton]); omega); intro v9 w9 ho9 hb9 hg9 hat9; have n_ := Aside0.mk (Below.grown (B := w.heap.size) (a := w) (by repeat (first | (with_reducible first | exact HB.out | apply below_alloc | apply pw_below_drewN | apply below_drew1) | exact HB.out)) hg9 (below_size (by repeat (first | (with_reducible first | exact HB.out | apply below_alloc | apply pw_below_drewN | apply below_drew1) | exact HB.out))) (fun k hk => by have := HOB.out k hk; omega)); have n2_ := Aside0.mk ho9; have n3_ := Aside0.mk (bx_grown BX.out (by repeat (first | (with_reducible first | exact Below.refl _ _ | apply below_alloc | apply pw_below_drewN | apply below_drew1) | exact Below.refl _ _)) hg9 HOB.out); clear BX; have BX := n3_; clear n3_; clear HB HO ho9 hb9 hg9 hat9 HOB; have HB := n_; have HO := n2_; have HOB := Aside0.mk (Kd.R_base HO.out); clear n_ n2_; skip)
        have e := KA.out; have eL := HL.out; rw [wrap_id (x := a + 1) (by unfold I64; omega)]; have en : (a + 1).toNat = a.toNat + 1 := by omega
        refine ⟨⟨a + 1, true, xs ++ [s], rfl, rfl, by omega, by omega, HO.out, BX.out, (by repeat (first | (with_reducible first | exact HB.out | apply below_alloc | apply pw_below_drewN | apply below_drew1) | exact HB.out)), ?_⟩, by simp only [intOf]; omega⟩
        rw [en]
        exact OO.out
    · have kb : decide (a < (L.length : Int)) = false := decide_eq_false hk
      have ha : L.length ≤ a.toNat := by omega
      have HA := Aside0.mk ha
      clear hk h0 h1 hCw ha
      cases d
      · go_wp2_with (at_builtin; refine Kd.R_append kT (w0 := _) (w.heap.size + 1) rfl (.tmp 60) (.tmp 64) 56 63 (.agg #[(.int .i64 0), (.int .i64 0), (.int .i64 0)]) 24 rfl Try.underlying56 info63 rfl (by decide) (by omega) u6 (xs) ((⟨x, px, py⟩ : Th)) [.int .i64 x, .int .i64 px, .int .i64 py] (fun _ => True) (fun _ => False) rfl (by simp [Act.eval]) ?aP (fun _ hk => hk.elim) (fun _ _ => trivial) ?aO (Below.refl _ _) ?aS ?aL ?_; (case aP => exact kT_mkM _ _ _ ((⟨x, px, py⟩ : Th))); (case aO => exact (by (with_reducible repeat (first | apply Kd.R_alloc | apply Kd.R_drewN | apply Kd.R_drew)); exact HO.out)); (case aS => exact Nat.le_trans (bx_lt BX.out) (below_size (by repeat (first | (with_reducible first | exact Below.refl _ _ | apply below_alloc | apply pw_below_drewN | apply below_drew1) | exact Below.refl _ _)))); (case aL => have e := HN.out; (try simp only [List.length_append, List.length_singleton]); omega); intro v9 w9 ho9 hb9 hg9 hat9; have n_ := Aside0.mk (Below.grown (B := w.heap.size) (a := w) (by repeat (first | (with_reducible first | exact HB.out | apply below_alloc | apply pw_below_drewN | apply below_drew1) | exact HB.out)) hg9 (below_size (by repeat (first | (with_reducible first | exact HB.out | apply below_alloc | apply pw_below_drewN | apply below_drew1) | exact HB.out))) (fun k hk => by have := HOB.out k hk; omega)); have n2_ := Aside0.mk ho9; have n3_ := Aside0.mk (bx_grown BX.out (by repeat (first | (with_reducible first | exact Below.refl _ _ | apply below_alloc | apply pw_below_drewN | apply below_drew1) | exact Below.refl _ _)) hg9 HOB.out); clear BX; have BX := n3_; clear n3_; clear HB HO ho9 hb9 hg9 hat9 HOB; have HB := n_; have HO := n2_; have HOB := Aside0.mk (Kd.R_base HO.out); clear n_ n2_; (have hr9 := (HR.out.below HB.out).cell; have hfr9 := (HR.out.below HB.out).thaw; obtain ⟨A6, c6, e6⟩ := Kd.R_slice HO.out; subst e6))
        go_end0
        obtain ⟨r3, r4⟩ := ref_done HR.out (by repeat (first | (with_reducible first | exact HB.out | apply below_alloc | apply pw_below_drewN | apply below_drew1) | exact HB.out)) (Kd.R_lower HO.out (Nat.le_succ _))
        have e := putI_last HA.out HI.out
        rw [e] at r3 r4
        simp only [List.length_append, List.length_singleton]
        have e2 : xs.length + 1 = (putT (⟨x, px, py⟩ : Th) L).length := by rw [← e]; simp
        rw [e2]
        exact ⟨by first | rfl | trivial, ⟨_, r3⟩, r4⟩
      · obtain ⟨A6, c6, e6⟩ := Kd.R_slice HO.out
        subst e6
        go_wp2
        go_end0
        obtain ⟨r3, r4⟩ := ref_done HR.out (by repeat (first | (with_reducible first | exact HB.out | apply below_alloc | apply pw_below_drewN | apply below_drew1) | exact HB.out)) (Kd.R_lower HO.out (Nat.le_succ _))
        have e := putI_end HA.out HI.out
        refine ⟨rfl, ⟨.slice A6 xs.length c6, ?_⟩, r4⟩
        exact e ▸ r3
theorem find_take {L : List Th} {p : Int} {a : Nat} {x : Th} (h : L[a]? = some x) (hn : hasP (L.take a) p = false) (e : x.id ≠ p) : hasP (L.take (a + 1)) p = false := by
  rw [take_at h]
  unfold hasP at hn ⊢
  rw [List.any_append, hn]
  simp [e]
theorem atL_of {L : List Th} {p : Int} {a : Nat} {x : Th} (hs : Srt L) (h : L[a]? = some x) (e : x.id = p) : atL L p = (x.x, x.y) ∧ hasP L p = true := by
  subst e
  exact ⟨atL_mem hs (List.mem_of_getElem? h), hasP_iff.2 ⟨x, List.mem_of_getElem? h, rfl⟩⟩
set_option maxHeartbeats 1000000 in
theorem r_at {w : World} {rb B : Nat} {L : List Th} {v : Value} (h : RefAt w rb B L v) (hs : Srt L) (hL : L.length ≤ 3600000000000) (x : Int) :
    Calls Try.prog 15 #[.pointer (some ⟨rb, 0, none⟩), .int .i64 x] w fun e w' => e = .returned (.tuple #[.agg #[.int .i64 (atL L x).1, .int .i64 (atL L x).2], .bool (hasP L x)]) ∧ Below w.heap.size w w' := by
  obtain ⟨A, c, rfl, hc, hC⟩ := ref_read h
  have HR := Aside0.mk h
  have HC := Aside0.mk hC
  have HL := Aside0.mk hL
  have HSR := Aside0.mk hs
  clear h hC hL hs
  go_enter Try.func15, Try.ntmps15
  go_wp2
  have BX0 := Aside0.mk (heap_alloc_new w (.cells #[.int .i64 0, .int .i64 0] 32))
  go_loopw [6] (fun iv wq => ∃ (a : Int), iv = .int .i64 a ∧ 0 ≤ a ∧ a ≤ L.length ∧ hasP (L.take a.toNat) x = false ∧ wq.heap[w.heap.size]? = some (.cells #[.int .i64 0, .int .i64 0] 32 (0, 0)) ∧ Below w.heap.size w wq) (fun iv _ => L.length - (intOf iv).toNat)
  case atStart => exact ⟨0, rfl, Int.le_refl _, by omega, rfl, BX0.out, (by repeat (first | (with_reducible first | exact Below.refl _ _ | apply below_alloc | apply pw_below_drewN | apply below_drew1) | exact Below.refl _ _))⟩
  case round =>
    clear BX0
    obtain ⟨a, rfl, h0, h1, hno, hbx, hbw⟩ := hrel
    have HB := Aside0.mk hbw
    have BX := Aside0.mk hbx
    have HN := Aside0.mk hno
    have hr := (HR.out.below hbw).cell
    obtain ⟨q0, q1⟩ := bx_cells2 hbx
    have fz := blk_frozen hbx 0
    have fz1 := blk_frozen hbx 1
    have hCw := Kd.C_below HC.out hbw
    clear hbw hno hbx
    by_cases hk : a < L.length
    · have kb : decide (a < (L.length : Int)) = true := decide_eq_true hk
      obtain ⟨ad, s, hs, e1, d0, d1, d2⟩ := at_Th hCw a h0 hk
      subst e1
      have KA := Aside0.mk (And.intro h0 (And.intro h1 hk))
      have HS := Aside0.mk hs
      have p0 : (0 ≤ a) = True := eq_true h0
      have p1 : (a < (L.length : Int)) = True := eq_true hk
      clear hk hs h0 h1 hCw
      by_cases hx : s.id = x
      · have o1 : (s.id == x) = true := beq_iff_eq.2 hx
        have OO := Aside0.mk hx
        clear hx
        go_wp2
        (try simp only [Exit.inBlock, Exit.then])
        refine bodyPost_ret (results_row_tmp rfl _ _ w.heap.size 32 #[.int .i64 s.x, .int .i64 s.y] (0, 0) _ rfl ?hb Try.underlying32 rfl ?hi) rfl ?_
        case hb => exact put2 BX.out
        case hi => kernel_rfl
        obtain ⟨e1, e2⟩ := atL_of HSR.out HS.out OO.out
        rw [e1, e2]
        refine ⟨rfl, ?_⟩
        refine below_set2 ?_ (Nat.le_refl _) _ _
        exact (by repeat (first | (with_reducible first | exact HB.out | apply below_alloc | apply pw_below_drewN | apply below_drew1) | exact HB.out))
      · have o1 : (s.id == x) = false := beq_eq_false_iff_ne.2 hx
        have OO := Aside0.mk hx
        clear hx
        go_wp2
        have e := KA.out; have eL := HL.out; rw [wrap_id (x := a + 1) (by unfold I64; omega)]; have en : (a + 1).toNat = a.toNat + 1 := by omega
        refine ⟨⟨a + 1, rfl, by omega, by omega, ?_, BX.out, (by repeat (first | (with_reducible first | exact HB.out | apply below_alloc | apply pw_below_drewN | apply below_drew1) | exact HB.out))⟩, by simp only [intOf]; omega⟩
        rw [en]
        exact find_take HS.out HN.out OO.out
    · have kb : decide (a < (L.length : Int)) = false := decide_eq_false hk
      have hh : hasP L x = false := by
        have := HN.out
        rwa [List.take_of_length_le (by omega)] at this
      have HH := Aside0.mk hh
      clear hk h0 h1 hCw hh
      go_wp2
      (try simp only [Exit.inBlock, Exit.then])
      refine bodyPost_ret (results_row_tmp rfl _ _ w.heap.size 32 #[.int .i64 0, .int .i64 0] (0, 0) _ rfl ?hb Try.underlying32 rfl ?hi) rfl ?_
      case hb => exact put2 BX.out
      case hi => kernel_rfl
      rw [atL_none HH.out, HH.out]
      refine ⟨rfl, ?_⟩
      refine below_set2 ?_ (Nat.le_refl _) _ _
      exact (by repeat (first | (with_reducible first | exact HB.out | apply below_alloc | apply pw_below_drewN | apply below_drew1) | exact HB.out))
end Go.Proofs.Ytggmfmlfkhcbdaa.Gr
