/- The document's Offer. -/
import Derived.Test.YtokemjdfcifbbaaGE
namespace Go.Proofs.Ytokemjdfcifbbaa.Gt
open Go Go.RowKit Go.Maps Go.Proofs.YtokemjdfcifbbaaW.PrintWords Go.Proofs.YtokemjdfcifbbaaW.PrintMore
set_option linter.unusedVariables false
set_option linter.unusedSimpArgs false
theorem cl_eq (n m : Int) (hm : 0 ≤ m) : cl n m = if n < -m then -m else if n > m then m else n := by
  unfold cl mn mx
  repeat' split
  all_goals omega
theorem ref_legal_f (p t u : Int) (f b : Bool) : QQA.joustref18_Legal.f p t u f b = some (p, cl t 100, cl u 8, f, b) := by
  have h : ∀ n m : Int, 0 ≤ m → QQA.joustref18_within.f n (-m) m = some (cl n m) := by
    intro n m hm
    rw [cl_eq n m hm]
    unfold QQA.joustref18_within.f
    split
    · rfl
    · split <;> rfl
  simp only [QQA.joustref18_Legal.f]
  rw [h t 100 (by omega)]
  simp only [Option.bind_some]
  rw [h u 8 (by omega)]
  rfl
theorem bx_grown {W W' w9 : World} {b : Nat} {obj : Obj} {ov : Value} (hb : W.heap[b]? = some obj) (hB : Below W.heap.size W W') (hg : W'.grownBy w9 ov.ownBlock) (ho : ∀ k, ov.ownBlock = some k → b + 1 ≤ k) : w9.heap[b]? = some obj := by
  have hlt := (Array.getElem?_eq_some_iff.1 hb).1
  exact (hg.block b (Nat.lt_of_lt_of_le hlt hB.size) (fun e => by have := ho b e.symm; omega)).trans ((hB.block b hlt).trans hb)
theorem bx_cells {W : World} {b : Nat} {v0 v1 v2 v3 : Value} (hb : W.heap[b]? = some (.cells #[v0, v1, v2, v3] 31 (0, 0))) : W.cell? ⟨b, 0, none⟩ = some v0 ∧ W.cell? ⟨b, 1, none⟩ = some v1 ∧ W.cell? ⟨b, 2, none⟩ = some v2 ∧ W.cell? ⟨b, 3, none⟩ = some v3 := by
  simp [World.cell?, hb]
theorem bx_lt {W : World} {b : Nat} {obj : Obj} (hb : W.heap[b]? = some obj) : b + 1 ≤ W.heap.size := (Array.getElem?_eq_some_iff.1 hb).1
theorem drop_cons {L : List It} {a : Nat} {x : It} (h : L[a]? = some x) : L.drop a = x :: L.drop (a + 1) := by
  obtain ⟨hl, rfl⟩ := List.getElem?_eq_some_iff.1 h
  exact List.drop_eq_getElem_cons hl

set_option maxHeartbeats 2000000 in
theorem r_offer_new {w : World} {rb B : Nat} {L : List It} {v : Value} (h : RefAt w rb B L v) (hB : B ≤ w.heap.size) (hL : L.length ≤ 3600000000000) (x t u : Int) (f b : Bool) (hh : hasP L x = false) :
    Calls Try.prog 9 #[.pointer (some ⟨rb, 0, none⟩), .int .i64 x, .agg #[.int .i64 t, .int .i64 u, .bool f, .bool b]] w fun e w' =>
      e = .returned (.int .i64 0) ∧ (∃ v', RefAt w' rb B (ins (legI x t u f b) L) v') ∧ w.grownBy w' (some rb) := by
  obtain ⟨A, c, rfl, hc, hC⟩ := ref_read h
  have hW := fun w1 (hb : Below w.heap.size w w1) => r_waits (h.below hb) (by omega) x
  rw [hh] at hW
  have hLeg := fun W => QQA.joustref18_Legal.calls x t u f b x (cl t 100) (cl u 8) f b W (ref_legal_f x t u f b)
  obtain ⟨y, hy⟩ : ∃ y, legI x t u f b = y := ⟨_, rfl⟩
  rw [hy]
  obtain ⟨r1, hr1⟩ : ∃ y, cl t 100 = y := ⟨_, rfl⟩
  obtain ⟨r2, hr2⟩ : ∃ y, cl u 8 = y := ⟨_, rfl⟩
  have hyy : y = ⟨x, r1, r2, f, b⟩ := by rw [← hy, ← hr1, ← hr2]; rfl
  rw [hr1, hr2] at hLeg
  clear hy hr1 hr2
  subst hyy
  have HR := Aside0.mk h
  have HC := Aside0.mk hC
  have HL := Aside0.mk hL
  have HB := Aside0.mk (Below.refl w.heap.size w)
  have HBB := Aside0.mk hB
  clear h hC hL hB hh
  go_enter Try.func9, Try.ntmps9
  go_wp2_with (go_at_call 12; refine (hW _ (by repeat (first | (with_reducible first | exact HB.out | apply below_alloc | apply pw_below_drewN | apply below_drew1) | exact HB.out))).mono ?_; rintro e w1 ⟨rfl, hb⟩; have BX := Aside0.mk ((hb.block w.heap.size (by simp)).trans (heap_alloc_new w _)); have n_ := Aside0.mk (below_step (by repeat (first | (with_reducible first | exact HB.out | apply below_alloc | apply pw_below_drewN | apply below_drew1) | exact HB.out)) hb); clear HB; have HB := n_; clear n_ hb)
  clear hW
  have hw1 : w.heap.size + 1 ≤ w1.heap.size := by
    have := (Array.getElem?_eq_some_iff.1 BX.out).1
    omega
  go_loopw [7, 8, 9] (fun ov dv iv wq => ∃ (a : Int) (d : Bool) (xs : List It), iv = .int .i64 a ∧ dv = .bool d ∧ 0 ≤ a ∧ a ≤ L.length ∧ QQA.k40.R 40 wq (w.heap.size + 1) (fun _ => True) ov xs ∧ wq.heap[w.heap.size]? = some (.cells #[.int .i64 t, .int .i64 u, .bool f, .bool b] 31 (0, 0)) ∧ Below w.heap.size w wq ∧ (if d then xs ++ L.drop a.toNat else xs ++ ins ⟨x, r1, r2, f, b⟩ (L.drop a.toNat)) = ins ⟨x, r1, r2, f, b⟩ L) (fun _ _ iv _ => L.length - (intOf iv).toNat)
  case atStart => exact ⟨0, false, [], rfl, rfl, Int.le_refl _, by omega, Kd.R_nil _ _ _ _ _, BX.out, HB.out, rfl⟩
  case round =>
    clear HB BX
    obtain ⟨a, d, xs, rfl, rfl, h0, h1, ho, hbx, hbw, hinv⟩ := hrel
    have HB := Aside0.mk hbw
    have HO := Aside0.mk ho
    have HOB := Aside0.mk (R_base ho)
    have BX := Aside0.mk hbx
    have HI := Aside0.mk hinv
    have hr := (HR.out.below hbw).cell
    have hfr := (HR.out.below hbw).thaw
    obtain ⟨q0, q1, q2, q3⟩ := bx_cells hbx
    have hCw := Kd.C_below HC.out hbw
    have HN : Aside0 (xs.length + (L.drop a.toNat).length ≤ L.length + 1 ∧ xs.length + 1 ≤ 4000000000000) := by
      have e := congrArg List.length hinv
      have eL := HL.out
      rw [length_ins] at e
      split at e
      · rw [List.length_append] at e
        exact ⟨by omega, by omega⟩
      · rw [List.length_append, length_ins] at e
        exact ⟨by omega, by omega⟩
    clear hbw ho hinv hbx
    by_cases hk : a < L.length
    · have kb : decide (a < (L.length : Int)) = true := decide_eq_true hk
      obtain ⟨ad, s, hs, e1, d0, d1, d2, d3, d4⟩ := at_I hCw a h0 hk
      subst e1
      have KA := Aside0.mk (And.intro h0 (And.intro h1 hk))
      have HS := Aside0.mk hs
      have p0 : (0 ≤ a) = True := eq_true h0
      have p1 : (a < (L.length : Int)) = True := eq_true hk
      have hdc := drop_cons hs
      have HD := Aside0.mk hdc
      clear hk hs h0 h1 hCw hdc
      cases d
      · by_cases hx : s.f0 > x
        · have o1 : decide (s.f0 > x) = true := decide_eq_true hx
          have o2 : decide (x < s.f0) = true := decide_eq_true hx
          have OO := Aside0.mk hx
          clear hx
          go_wp2_with (first
            | (go_at_call 19; refine (hLeg _).mono ?_; rintro e w5 ⟨rfl, hb5⟩; have n1_ := Aside0.mk (Kd.R_below HO.out hb5); have n_ := Aside0.mk (below_step (by repeat (first | (with_reducible first | exact HB.out | apply below_alloc | apply pw_below_drewN | apply below_drew1) | exact HB.out)) hb5); have n3_ := Aside0.mk ((hb5.block _ (Array.getElem?_eq_some_iff.1 BX.out).1).trans BX.out); clear HO HB BX; have HO := n1_; have HB := n_; have BX := n3_; clear n_ n1_ n3_ hb5)
            | (at_builtin; refine Kd.R_append QQA.k40 (w0 := _) (w.heap.size + 1) rfl (.tmp 36) (.tmp 40) 27 40 (.agg #[(.int .i64 0), (.int .i64 0), (.int .i64 0), (.bool false), (.bool false)]) 32 rfl Try.underlying27 info40 rfl (by decide) (by omega) u7 (xs) ((⟨x, r1, r2, f, b⟩ : It)) [.int .i64 x, .int .i64 r1, .int .i64 r2, .bool f, .bool b] (fun _ => True) (fun _ => False) rfl (by simp [Act.eval]) ?aP (fun _ hk => hk.elim) (fun _ _ => trivial) ?aO (Below.refl _ _) ?aS ?aL ?_; (case aP => exact QQA.k40_mkM _ _ _ ((⟨x, r1, r2, f, b⟩ : It))); (case aO => exact (by (with_reducible repeat (first | apply Kd.R_alloc | apply Kd.R_drewN | apply Kd.R_drew)); exact HO.out)); (case aS => exact Nat.le_trans (bx_lt BX.out) (below_size (by repeat (first | (with_reducible first | exact Below.refl _ _ | apply below_alloc | apply pw_below_drewN | apply below_drew1) | exact Below.refl _ _)))); (case aL => have e := HN.out; (try simp only [List.length_append, List.length_singleton]); omega); intro v9 w9 ho9 hb9 hg9 hat9; have n_ := Aside0.mk (Below.grown (B := w.heap.size) (a := w) (by repeat (first | (with_reducible first | exact HB.out | apply below_alloc | apply pw_below_drewN | apply below_drew1) | exact HB.out)) hg9 (below_size (by repeat (first | (with_reducible first | exact HB.out | apply below_alloc | apply pw_below_drewN | apply below_drew1) | exact HB.out))) (fun k hk => by have := HOB.out k hk; omega)); have n2_ := Aside0.mk ho9; have n3_ := Aside0.mk (bx_grown BX.out (by repeat (first | (with_reducible first | exact Below.refl _ _ | apply below_alloc | apply pw_below_drewN | apply below_drew1) | exact Below.refl _ _)) hg9 HOB.out); clear BX; have BX := n3_; clear n3_; clear HB HO ho9 hb9 hg9 hat9 HOB; have HB := n_; have HO := n2_; have HOB := Aside0.mk (R_base HO.out); clear n_ n2_; have hr9 := (HR.out.below HB.out).cell; have hfr9 := (HR.out.below HB.out).thaw; obtain ⟨ad9, s9, hs9, e9, f0, f1, f2, f3, f4⟩ := at_I (Kd.C_below HC.out HB.out) a KA.out.1 KA.out.2.2; cases e9; cases (Option.some.inj (HS.out.symm.trans hs9)); clear hs9)
            | (at_builtin; refine Kd.R_append QQA.k40 (w0 := _) (w.heap.size + 1) rfl (.tmp 42) (.tmp 50) 27 40 (.agg #[(.int .i64 0), (.int .i64 0), (.int .i64 0), (.bool false), (.bool false)]) 32 rfl Try.underlying27 info40 rfl (by decide) (by omega) v9 (xs ++ [(⟨x, r1, r2, f, b⟩ : It)]) (s) [.int .i64 s.f0, .int .i64 s.f1, .int .i64 s.f2, .bool s.f3, .bool s.f4] (fun _ => True) (fun _ => False) rfl (by simp [Act.eval]) ?aP (fun _ hk => hk.elim) (fun _ _ => trivial) ?aO (Below.refl _ _) ?aS ?aL ?_; (case aP => exact QQA.k40_mkM _ _ _ (s)); (case aO => exact (by (with_reducible repeat (first | apply Kd.R_alloc | apply Kd.R_drewN | apply Kd.R_drew)); exact HO.out)); (case aS => exact Nat.le_trans (bx_lt BX.out) (below_size (by repeat (first | (with_reducible first | exact Below.refl _ _ | apply below_alloc | apply pw_below_drewN | apply below_drew1) | exact Below.refl _ _)))); (case aL => have e := HN.out; (try simp only [List.length_append, List.length_singleton]); omega); intro v9 w9 ho9 hb9 hg9 hat9; have n_ := Aside0.mk (Below.grown (B := w.heap.size) (a := w) (by repeat (first | (with_reducible first | exact HB.out | apply below_alloc | apply pw_below_drewN | apply below_drew1) | exact HB.out)) hg9 (below_size (by repeat (first | (with_reducible first | exact HB.out | apply below_alloc | apply pw_below_drewN | apply below_drew1) | exact HB.out))) (fun k hk => by have := HOB.out k hk; omega)); have n2_ := Aside0.mk ho9; have n3_ := Aside0.mk (bx_grown BX.out (by repeat (first | (with_reducible first | exact Below.refl _ _ | apply below_alloc | apply pw_below_drewN | apply below_drew1) | exact Below.refl _ _)) hg9 HOB.out); clear BX; have BX := n3_; clear n3_; clear HB HO ho9 hb9 hg9 hat9 HOB; have HB := n_; have HO := n2_; have HOB := Aside0.mk (R_base HO.out); clear n_ n2_; skip))
          have e := KA.out; have eL := HL.out; rw [wrap_id (by omega) (by omega)]; have en : (a + 1).toNat = a.toNat + 1 := by omega
          refine ⟨⟨a + 1, true, xs ++ [(⟨x, r1, r2, f, b⟩ : It)] ++ [s], rfl, rfl, by omega, by omega, HO.out, BX.out, (by repeat (first | (with_reducible first | exact HB.out | apply below_alloc | apply pw_below_drewN | apply below_drew1) | exact HB.out)), ?_⟩, by simp only [intOf]; omega⟩
          have hi := HI.out
          rw [HD.out] at hi
          simp only [Bool.false_eq_true, if_false] at hi
          rw [if_pos rfl, en, ← hi, ins, if_pos (show x < s.f0 from OO.out)]
          simp
        · have o1 : decide (s.f0 > x) = false := decide_eq_false hx
          have o2 : decide (x < s.f0) = false := decide_eq_false hx
          have OO := Aside0.mk hx
          clear hx
          go_wp2_with (at_builtin; refine Kd.R_append QQA.k40 (w0 := _) (w.heap.size + 1) rfl (.tmp 42) (.tmp 50) 27 40 (.agg #[(.int .i64 0), (.int .i64 0), (.int .i64 0), (.bool false), (.bool false)]) 32 rfl Try.underlying27 info40 rfl (by decide) (by omega) u7 (xs) (s) [.int .i64 s.f0, .int .i64 s.f1, .int .i64 s.f2, .bool s.f3, .bool s.f4] (fun _ => True) (fun _ => False) rfl (by simp [Act.eval]) ?aP (fun _ hk => hk.elim) (fun _ _ => trivial) ?aO (Below.refl _ _) ?aS ?aL ?_; (case aP => exact QQA.k40_mkM _ _ _ (s)); (case aO => exact (by (with_reducible repeat (first | apply Kd.R_alloc | apply Kd.R_drewN | apply Kd.R_drew)); exact HO.out)); (case aS => exact Nat.le_trans (bx_lt BX.out) (below_size (by repeat (first | (with_reducible first | exact Below.refl _ _ | apply below_alloc | apply pw_below_drewN | apply below_drew1) | exact Below.refl _ _)))); (case aL => have e := HN.out; (try simp only [List.length_append, List.length_singleton]); omega); intro v9 w9 ho9 hb9 hg9 hat9; have n_ := Aside0.mk (Below.grown (B := w.heap.size) (a := w) (by repeat (first | (with_reducible first | exact HB.out | apply below_alloc | apply pw_below_drewN | apply below_drew1) | exact HB.out)) hg9 (below_size (by repeat (first | (with_reducible first | exact HB.out | apply below_alloc | apply pw_below_drewN | apply below_drew1) | exact HB.out))) (fun k hk => by have := HOB.out k hk; omega)); have n2_ := Aside0.mk ho9; have n3_ := Aside0.mk (bx_grown BX.out (by repeat (first | (with_reducible first | exact Below.refl _ _ | apply below_alloc | apply pw_below_drewN | apply below_drew1) | exact Below.refl _ _)) hg9 HOB.out); clear BX; have BX := n3_; clear n3_; clear HB HO ho9 hb9 hg9 hat9 HOB; have HB := n_; have HO := n2_; have HOB := Aside0.mk (R_base HO.out); clear n_ n2_; skip)
          have e := KA.out; have eL := HL.out; rw [wrap_id (by omega) (by omega)]; have en : (a + 1).toNat = a.toNat + 1 := by omega
          refine ⟨⟨a + 1, false, xs ++ [s], rfl, rfl, by omega, by omega, HO.out, BX.out, (by repeat (first | (with_reducible first | exact HB.out | apply below_alloc | apply pw_below_drewN | apply below_drew1) | exact HB.out)), ?_⟩, by simp only [intOf]; omega⟩
          have hi := HI.out
          rw [HD.out] at hi
          simp only [Bool.false_eq_true, if_false] at hi
          rw [if_neg Bool.false_ne_true, en, ← hi, ins, if_neg (show ¬ x < s.f0 from OO.out)]
          simp
      · go_wp2_with (at_builtin; refine Kd.R_append QQA.k40 (w0 := _) (w.heap.size + 1) rfl (.tmp 42) (.tmp 50) 27 40 (.agg #[(.int .i64 0), (.int .i64 0), (.int .i64 0), (.bool false), (.bool false)]) 32 rfl Try.underlying27 info40 rfl (by decide) (by omega) u7 (xs) (s) [.int .i64 s.f0, .int .i64 s.f1, .int .i64 s.f2, .bool s.f3, .bool s.f4] (fun _ => True) (fun _ => False) rfl (by simp [Act.eval]) ?aP (fun _ hk => hk.elim) (fun _ _ => trivial) ?aO (Below.refl _ _) ?aS ?aL ?_; (case aP => exact QQA.k40_mkM _ _ _ (s)); (case aO => exact (by (with_reducible repeat (first | apply Kd.R_alloc | apply Kd.R_drewN | apply Kd.R_drew)); exact HO.out)); (case aS => exact Nat.le_trans (bx_lt BX.out) (below_size (by repeat (first | (with_reducible first | exact Below.refl _ _ | apply below_alloc | apply pw_below_drewN | apply below_drew1) | exact Below.refl _ _)))); (case aL => have e := HN.out; (try simp only [List.length_append, List.length_singleton]); omega); intro v9 w9 ho9 hb9 hg9 hat9; have n_ := Aside0.mk (Below.grown (B := w.heap.size) (a := w) (by repeat (first | (with_reducible first | exact HB.out | apply below_alloc | apply pw_below_drewN | apply below_drew1) | exact HB.out)) hg9 (below_size (by repeat (first | (with_reducible first | exact HB.out | apply below_alloc | apply pw_below_drewN | apply below_drew1) | exact HB.out))) (fun k hk => by have := HOB.out k hk; omega)); have n2_ := Aside0.mk ho9; have n3_ := Aside0.mk (bx_grown BX.out (by repeat (first | (with_reducible first | exact Below.refl _ _ | apply below_alloc | apply pw_below_drewN | apply below_drew1) | exact Below.refl _ _)) hg9 HOB.out); clear BX; have BX := n3_; clear n3_; clear HB HO ho9 hb9 hg9 hat9 HOB; have HB := n_; have HO := n2_; have HOB := Aside0.mk (R_base HO.out); clear n_ n2_; skip)
        have e := KA.out; have eL := HL.out; rw [wrap_id (by omega) (by omega)]; have en : (a + 1).toNat = a.toNat + 1 := by omega
        refine ⟨⟨a + 1, true, xs ++ [s], rfl, rfl, by omega, by omega, HO.out, BX.out, (by repeat (first | (with_reducible first | exact HB.out | apply below_alloc | apply pw_below_drewN | apply below_drew1) | exact HB.out)), ?_⟩, by simp only [intOf]; omega⟩
        have hi := HI.out
        rw [HD.out, if_pos rfl] at hi
        rw [if_pos rfl, en, ← hi]
        simp
    · have kb : decide (a < (L.length : Int)) = false := decide_eq_false hk
      have ee : L.drop a.toNat = [] := List.drop_of_length_le (by omega)
      have hi := HI.out
      rw [ee] at hi
      clear hk h0 h1 hCw ee HI
      cases d
      · simp only [Bool.false_eq_true, if_false, ins] at hi
        have HI := Aside0.mk hi
        clear hi
        go_wp2_with (first
          | (go_at_call 19; refine (hLeg _).mono ?_; rintro e w5 ⟨rfl, hb5⟩; have n1_ := Aside0.mk (Kd.R_below HO.out hb5); have n_ := Aside0.mk (below_step (by repeat (first | (with_reducible first | exact HB.out | apply below_alloc | apply pw_below_drewN | apply below_drew1) | exact HB.out)) hb5); have n3_ := Aside0.mk ((hb5.block _ (Array.getElem?_eq_some_iff.1 BX.out).1).trans BX.out); clear HO HB BX; have HO := n1_; have HB := n_; have BX := n3_; clear n_ n1_ n3_ hb5)
          | (at_builtin; refine Kd.R_append QQA.k40 (w0 := _) (w.heap.size + 1) rfl (.tmp 54) (.tmp 58) 27 40 (.agg #[(.int .i64 0), (.int .i64 0), (.int .i64 0), (.bool false), (.bool false)]) 32 rfl Try.underlying27 info40 rfl (by decide) (by omega) u7 (xs) ((⟨x, r1, r2, f, b⟩ : It)) [.int .i64 x, .int .i64 r1, .int .i64 r2, .bool f, .bool b] (fun _ => True) (fun _ => False) rfl (by simp [Act.eval]) ?aP (fun _ hk => hk.elim) (fun _ _ => trivial) ?aO (Below.refl _ _) ?aS ?aL ?_; (case aP => exact QQA.k40_mkM _ _ _ ((⟨x, r1, r2, f, b⟩ : It))); (case aO => exact (by (with_reducible repeat (first | apply Kd.R_alloc | apply Kd.R_drewN | apply Kd.R_drew)); exact HO.out)); (case aS => exact Nat.le_trans (bx_lt BX.out) (below_size (by repeat (first | (with_reducible first | exact Below.refl _ _ | apply below_alloc | apply pw_below_drewN | apply below_drew1) | exact Below.refl _ _)))); (case aL => have e := HN.out; (try simp only [List.length_append, List.length_singleton]); omega); intro v9 w9 ho9 hb9 hg9 hat9; have n_ := Aside0.mk (Below.grown (B := w.heap.size) (a := w) (by repeat (first | (with_reducible first | exact HB.out | apply below_alloc | apply pw_below_drewN | apply below_drew1) | exact HB.out)) hg9 (below_size (by repeat (first | (with_reducible first | exact HB.out | apply below_alloc | apply pw_below_drewN | apply below_drew1) | exact HB.out))) (fun k hk => by have := HOB.out k hk; omega)); have n2_ := Aside0.mk ho9; have n3_ := Aside0.mk (bx_grown BX.out (by repeat (first | (with_reducible first | exact Below.refl _ _ | apply below_alloc | apply pw_below_drewN | apply below_drew1) | exact Below.refl _ _)) hg9 HOB.out); clear BX; have BX := n3_; clear n3_; clear HB HO ho9 hb9 hg9 hat9 HOB; have HB := n_; have HO := n2_; have HOB := Aside0.mk (R_base HO.out); clear n_ n2_; (have hr9 := (HR.out.below HB.out).cell; have hfr9 := (HR.out.below HB.out).thaw; obtain ⟨A6, c6, e6⟩ := Kd.R_slice HO.out; subst e6)))
        go_ret
        obtain ⟨r3, r4⟩ := ref_done HR.out (by repeat (first | (with_reducible first | exact HB.out | apply below_alloc | apply pw_below_drewN | apply below_drew1) | exact HB.out)) HBB.out (Kd.R_lower HO.out (Nat.le_succ _))
        simp only [List.length_append, List.length_singleton] at r3 r4
        rw [HI.out] at r3
        exact ⟨rfl, ⟨_, r3⟩, r4⟩
      · rw [if_pos rfl, List.append_nil] at hi
        have HI := Aside0.mk hi
        clear hi
        obtain ⟨A6, c6, e6⟩ := Kd.R_slice HO.out
        subst e6
        go_wp2
        go_ret
        obtain ⟨r3, r4⟩ := ref_done HR.out (by repeat (first | (with_reducible first | exact HB.out | apply below_alloc | apply pw_below_drewN | apply below_drew1) | exact HB.out)) HBB.out (Kd.R_lower HO.out (Nat.le_succ _))
        refine ⟨rfl, ⟨.slice A6 xs.length c6, ?_⟩, r4⟩
        have e := HI.out
        exact e ▸ r3
theorem r_offer_there {w : World} {rb B : Nat} {L : List It} {v : Value} (h : RefAt w rb B L v) (hB : B ≤ w.heap.size) (hL : L.length ≤ 3600000000000) (x t u : Int) (f b : Bool) (hh : hasP L x = true) :
    Calls Try.prog 9 #[.pointer (some ⟨rb, 0, none⟩), .int .i64 x, .agg #[.int .i64 t, .int .i64 u, .bool f, .bool b]] w fun e w' =>
      e = .returned (.int .i64 180) ∧ (∃ v', RefAt w' rb B L v') ∧ w.grownBy w' (some rb) := by
  have hW := fun w1 (hb : Below w.heap.size w w1) => r_waits (h.below hb) (by omega) x
  rw [hh] at hW
  have HR := Aside0.mk h
  have HB := Aside0.mk (Below.refl w.heap.size w)
  clear h hL hB hh
  go_enter Try.func9, Try.ntmps9
  go_wp2_with (go_at_call 12; refine (hW _ (by repeat (first | (with_reducible first | exact HB.out | apply below_alloc | apply pw_below_drewN | apply below_drew1) | exact HB.out))).mono ?_; rintro e w1 ⟨rfl, hb⟩; have n_ := Aside0.mk (below_step (by repeat (first | (with_reducible first | exact HB.out | apply below_alloc | apply pw_below_drewN | apply below_drew1) | exact HB.out)) hb); clear HB; have HB := n_; clear n_ hb)
  go_ret
  exact ⟨rfl, ⟨_, HR.out.below HB.out⟩, grown_of_below HB.out _⟩
/-- Offer. -/
theorem r_offer {w : World} {rb B : Nat} {L : List It} {v : Value} (h : RefAt w rb B L v) (hB : B ≤ w.heap.size) (hL : L.length ≤ 3600000000000) (x t u : Int) (f b : Bool) (r : Int) (hr : (if hasP L x then 180 else 0) = r) :
    Calls Try.prog 9 #[.pointer (some ⟨rb, 0, none⟩), .int .i64 x, .agg #[.int .i64 t, .int .i64 u, .bool f, .bool b]] w fun e w' =>
      e = .returned (.int .i64 r) ∧ (∃ v', RefAt w' rb B (offerL L (legI x t u f b)) v') ∧ w.grownBy w' (some rb) := by
  subst hr
  unfold offerL
  rw [show (legI x t u f b).f0 = x from rfl]
  cases hh : hasP L x
  · exact r_offer_new h hB hL x t u f b hh
  · exact r_offer_there h hB hL x t u f b hh
end Go.Proofs.Ytokemjdfcifbbaa.Gt
