/- The document's gate: a list of intents behind a pointer. -/
import Derived.Test.YtokemjdfcifbbaaGB
namespace Go.Proofs.Ytokemjdfcifbbaa.Gt
open Go Go.RowKit Go.Maps Go.Proofs.YtokemjdfcifbbaaW.PrintWords Go.Proofs.YtokemjdfcifbbaaW.PrintMore
set_option linter.unusedVariables false
set_option linter.unusedSimpArgs false
attribute [local go_sem high] QQA.eqA40

theorem set_block {w : World} {g t : Nat} {v : Value} (hb : w.heap[g]? = some (.cells #[v] t (0, 0))) (u : Value) : (w.setCell ⟨g, 0, none⟩ u).heap[g]? = some (.cells #[u] t (0, 0)) := by
  simp only [World.setCell, Array.getElem?_modify, if_true, hb, Option.map_some]
  rfl
theorem grown_set (w : World) (g : Nat) (u : Value) : w.grownBy (w.setCell ⟨g, 0, none⟩ u) (some g) :=
  ⟨rfl, rfl, rfl, by simp [World.setCell], fun k _ hne => Below.heap_setCell w ⟨g, 0, none⟩ u k (fun e => hne (by rw [e]))⟩
structure RefAt (w : World) (rb B : Nat) (L : List It) (v : Value) : Prop where
  block : w.heap[rb]? = some (.cells #[v] 29 (0, 0))
  row : QQA.k40.R 40 w B (fun _ => True) v L

theorem RefAt.cell {w : World} {rb B : Nat} {L : List It} {v : Value} (h : RefAt w rb B L v) : w.cell? ⟨rb, 0, none⟩ = some v := by
  simp [World.cell?, h.block]
theorem RefAt.thaw {w : World} {rb B : Nat} {L : List It} {v : Value} (h : RefAt w rb B L v) : w.frozen? ⟨rb, 0, none⟩ = false := by
  simp [World.frozen?, h.block]
theorem RefAt.lt {w : World} {rb B : Nat} {L : List It} {v : Value} (h : RefAt w rb B L v) : rb < w.heap.size := (Array.getElem?_eq_some_iff.1 h.block).1
theorem RefAt.below {w w' : World} {rb B : Nat} {L : List It} {v : Value} (h : RefAt w rb B L v) (hb : Below w.heap.size w w') : RefAt w' rb B L v :=
  ⟨(hb.block rb h.lt).trans h.block, Kd.R_below h.row hb⟩
/-- A map elsewhere has turned. -/
theorem R_map {w w' : World} {base m : Nat} {v : Value} {xs : List It} {es : Array MapEntry} {clock : Nat} (h : QQA.k40.R 40 w base (fun _ => True) v xs) (hm : w.heap[m]? = some (.map es clock)) (hg : w.grownBy w' (some m)) : QQA.k40.R 40 w' base (fun _ => True) v xs :=
  Kd.R_mono (ok' := fun _ => True) (Kd.R_grown (Kd.R_bound h) hg (fun k hk e => by
    obtain ⟨_, _, _, q, _, cells, hc⟩ := hk
    injection e with e
    subst e
    rw [hm] at hc
    cases hc)) (fun _ _ => trivial)
theorem GateAt.mapped {w : World} {gb mb n : Nat} {L : List It} (h : GateAt w gb mb n L) : ∃ es clock, w.heap[mb]? = some (.map es clock) := by
  obtain ⟨es, clock, e, _⟩ := h.own
  exact ⟨es, clock, e⟩
theorem RefAt.gate {w w' : World} {rb B gb mb n : Nat} {L G : List It} {v : Value} (h : RefAt w rb B L v) (hG : GateAt w gb mb n G) (hg : w.grownBy w' (some mb)) : RefAt w' rb B L v := by
  obtain ⟨es, clock, hm⟩ := hG.mapped
  refine ⟨(hg.block rb h.lt (fun e => ?_)).trans h.block, R_map h.row hm hg⟩
  injection e with e
  subst e
  rw [h.block] at hm
  cases hm
theorem ref_read {w : World} {rb B : Nat} {L : List It} {v : Value} (h : RefAt w rb B L v) : ∃ A c, v = .slice A L.length c ∧ L.length ≤ c ∧ Kd.C QQA.k40 w A L.length L := Kd.R_reads h.row
theorem take_any {L : List It} {p : Int} {a : Nat} {x : It} (h : L[a]? = some x) (hn : hasP (L.take a) p = false) (e : x.f0 ≠ p) : hasP (L.take (a + 1)) p = false := by
  rw [List.take_add_one, h]
  unfold hasP at hn ⊢
  rw [List.any_append, hn]
  simp [e]
theorem has_at {L : List It} {p : Int} {a : Nat} {x : It} (h : L[a]? = some x) (e : x.f0 = p) : hasP L p = true := hasP_iff.2 ⟨x, List.mem_of_getElem? h, e⟩

set_option maxHeartbeats 1000000 in
theorem r_waits {w : World} {rb B : Nat} {L : List It} {v : Value} (h : RefAt w rb B L v) (hL : L.length ≤ 4000000000000) (x : Int) :
    Calls Try.prog 12 #[.pointer (some ⟨rb, 0, none⟩), .int .i64 x] w fun e w' => e = .returned (.bool (hasP L x)) ∧ Below w.heap.size w w' := by
  obtain ⟨A, c, rfl, hc, hC⟩ := ref_read h
  have HR := Aside0.mk h
  have HC := Aside0.mk hC
  have HL := Aside0.mk hL
  clear h hC hL
  go_enter Try.func12, Try.ntmps12
  go_wp2
  go_loopw [5] (fun iv wq => ∃ a : Int, iv = .int .i64 a ∧ 0 ≤ a ∧ a ≤ L.length ∧ hasP (L.take a.toNat) x = false ∧ Below w.heap.size w wq) (fun iv _ => L.length - (intOf iv).toNat)
  case atStart => exact ⟨0, rfl, Int.le_refl _, by omega, rfl, Below.refl _ _⟩
  case round =>
    obtain ⟨a, rfl, h0, h1, hno, hbw⟩ := hrel
    have HB := Aside0.mk hbw
    have HN := Aside0.mk hno
    have hr := (HR.out.below hbw).cell
    have hCw := Kd.C_below HC.out hbw
    clear hbw hno
    by_cases hk : a < L.length
    · have kb : decide (a < (L.length : Int)) = true := decide_eq_true hk
      obtain ⟨ad, s, hs, e1, d0, d1, d2, d3, d4⟩ := at_I hCw a h0 hk
      subst e1
      have KA := Aside0.mk (And.intro h0 (And.intro h1 hk))
      have HS := Aside0.mk hs
      have p0 : (0 ≤ a) = True := eq_true h0
      have p1 : (a < (L.length : Int)) = True := eq_true hk
      clear hk hs h0 h1 hCw
      by_cases ho : s.f0 = x
      · have o1 : (s.f0 == x) = true := beq_iff_eq.2 ho
        have OO := Aside0.mk ho
        clear ho
        go_wp2
        go_ret
        exact ⟨by rw [has_at HS.out OO.out]; rfl, (by repeat (first | (with_reducible first | exact HB.out | apply below_alloc | apply pw_below_drewN | apply below_drew1) | exact HB.out))⟩
      · have o1 : (s.f0 == x) = false := beq_eq_false_iff_ne.2 ho
        have OO := Aside0.mk ho
        clear ho
        go_wp2
        have e := KA.out
        have eL := HL.out
        rw [wrap_id (by omega) (by omega)]
        have en : (a + 1).toNat = a.toNat + 1 := by omega
        refine ⟨⟨a + 1, rfl, by omega, by omega, ?_, (by repeat (first | (with_reducible first | exact HB.out | apply below_alloc | apply pw_below_drewN | apply below_drew1) | exact HB.out))⟩, by simp only [intOf]; omega⟩
        rw [en]
        exact take_any HS.out HN.out OO.out
    · have kb : decide (a < (L.length : Int)) = false := decide_eq_false hk
      have hh : hasP L x = false := by
        have := HN.out
        rwa [List.take_of_length_le (by omega)] at this
      have HH := Aside0.mk hh
      clear hk h0 h1 hCw hh
      go_wp2
      go_ret
      exact ⟨by rw [HH.out]; rfl, (by repeat (first | (with_reducible first | exact HB.out | apply below_alloc | apply pw_below_drewN | apply below_drew1) | exact HB.out))⟩

/-- Take: what it holds is handed out. -/
theorem r_take {w : World} {rb B : Nat} {L : List It} {v : Value} (h : RefAt w rb B L v) :
    Calls Try.prog 15 #[.pointer (some ⟨rb, 0, none⟩)] w fun e w' => e = .returned v ∧ RefAt w' rb B [] (.slice none 0 0) ∧ QQA.k40.R 40 w' B (fun _ => True) v L ∧ w.grownBy w' (some rb) := by
  have hr := h.cell
  have HR := Aside0.mk h
  obtain ⟨A, c, rfl, _, _⟩ := ref_read h
  have h0 := h
  clear h
  have hfr := h0.thaw
  clear h0
  go_enter Try.func15, Try.ntmps15
  go_wp2
  go_ret
  have hb := HR.out.block
  refine ⟨rfl, ⟨?_, Kd.R_nil _ _ _ _ _⟩, Kd.R_set HR.out.row hb (by simp [QQA.k40, Kd.iso, Kd.pair, Kd.int, Kd.bool, Kd.scalar]) 0 _, ?_⟩
  · exact set_block hb _
  · exact grown_set w rb _
theorem R_base {w : World} {base : Nat} {v : Value} {xs : List It} (h : QQA.k40.R 40 w base (fun _ => True) v xs) : ∀ k, v.ownBlock = some k → base ≤ k := by
  obtain ⟨inner, ho⟩ := Kd.R_own h
  exact fun k hk => own_base ho k hk
theorem ref_done {w wq : World} {rb B : Nat} {L M : List It} {v ov : Value} (h : RefAt w rb B L v) (hbw : Below w.heap.size w wq) (hB : B ≤ w.heap.size) (ho : QQA.k40.R 40 wq w.heap.size (fun _ => True) ov M) :
    RefAt (wq.setCell ⟨rb, 0, none⟩ ov) rb B M ov ∧ w.grownBy (wq.setCell ⟨rb, 0, none⟩ ov) (some rb) := by
  have hb := (h.below hbw).block
  exact ⟨⟨set_block hb _, Kd.R_lower (Kd.R_set ho hb (by simp [QQA.k40, Kd.iso, Kd.pair, Kd.int, Kd.bool, Kd.scalar]) 0 _) hB⟩, (grown_of_below hbw (some rb)).andThen (grown_set wq rb ov) (fun j hj => .inr hj)⟩

set_option maxHeartbeats 1000000 in
theorem r_drop {w : World} {rb B : Nat} {L : List It} {v : Value} (h : RefAt w rb B L v) (hB : B ≤ w.heap.size) (hL : L.length ≤ 4000000000000) (x : Int) :
    Calls Try.prog 13 #[.pointer (some ⟨rb, 0, none⟩), .int .i64 x] w fun e w' => e = .returned (.bool (hasP L x)) ∧ (∃ v', RefAt w' rb B (dropP L x) v') ∧ w.grownBy w' (some rb) := by
  obtain ⟨A, c, rfl, hc, hC⟩ := ref_read h
  have hW := fun w1 (hb : Below w.heap.size w w1) => r_waits (h.below hb) hL x
  have HR := Aside0.mk h
  have HC := Aside0.mk hC
  have HL := Aside0.mk hL
  have HB := Aside0.mk (Below.refl w.heap.size w)
  have HBB := Aside0.mk hB
  clear h hC hL hB
  go_enter Try.func13, Try.ntmps13
  go_wp2_with (go_at_call 12; refine (hW _ (by repeat (first | (with_reducible first | exact HB.out | apply below_alloc | apply pw_below_drewN | apply below_drew1) | exact HB.out))).mono ?_; rintro e w1 ⟨rfl, hb⟩; have n_ := Aside0.mk (below_step (by repeat (first | (with_reducible first | exact HB.out | apply below_alloc | apply pw_below_drewN | apply below_drew1) | exact HB.out)) hb); clear HB; have HB := n_; clear n_ hb)
  go_loopw [6, 7] (fun ov iv wq => ∃ a : Int, iv = .int .i64 a ∧ 0 ≤ a ∧ a ≤ L.length ∧ QQA.k40.R 40 wq w.heap.size (fun _ => True) ov (dropP (L.take a.toNat) x) ∧ Below w.heap.size w wq) (fun _ iv _ => L.length - (intOf iv).toNat)
  case atStart => exact ⟨0, rfl, Int.le_refl _, by omega, by simpa [dropP] using Kd.R_nil _ _ _ _ _, HB.out⟩
  case round =>
    clear HB
    obtain ⟨a, rfl, h0, h1, ho, hbw⟩ := hrel
    have HB := Aside0.mk hbw
    have HO := Aside0.mk ho
    have HOB := Aside0.mk (R_base ho)
    have hr := (HR.out.below hbw).cell
    have hfr := (HR.out.below hbw).thaw
    have hCw := Kd.C_below HC.out hbw
    clear hbw ho hW
    by_cases hk : a < L.length
    · have kb : decide (a < (L.length : Int)) = true := decide_eq_true hk
      obtain ⟨ad, s, hs, e1, d0, d1, d2, d3, d4⟩ := at_I hCw a h0 hk
      subst e1
      have KA := Aside0.mk (And.intro h0 (And.intro h1 hk))
      have HS := Aside0.mk hs
      have p0 : (0 ≤ a) = True := eq_true h0
      have p1 : (a < (L.length : Int)) = True := eq_true hk
      have HN : Aside0 ((dropP (L.take a.toNat) x).length ≤ 4000000000000) := by
        have e1 := List.length_filter_le (fun y : It => !(y.f0 == x)) (L.take a.toNat)
        have e2 := HL.out
        have e3 : (dropP (L.take a.toNat) x).length ≤ (L.take a.toNat).length := e1
        rw [List.length_take] at e3
        exact ⟨by omega⟩
      clear hk hs h0 h1 hCw
      by_cases hx : s.f0 = x
      · have o1 : (s.f0 != x) = false := bne_eq_false_iff_eq.2 hx
        have OO := Aside0.mk hx
        clear hx
        go_wp2
        have e := KA.out
        have eL := HL.out
        rw [wrap_id (by omega) (by omega)]
        have en : (a + 1).toNat = a.toNat + 1 := by omega
        refine ⟨⟨a + 1, rfl, by omega, by omega, ?_, (by repeat (first | (with_reducible first | exact HB.out | apply below_alloc | apply pw_below_drewN | apply below_drew1) | exact HB.out))⟩, by simp only [intOf]; omega⟩
        rw [en, drop_take_same HS.out OO.out]
        exact HO.out
      · have o1 : (s.f0 != x) = true := bne_iff_ne.2 hx
        have OO := Aside0.mk hx
        clear hx
        go_wp2_with (at_builtin; refine Kd.R_append QQA.k40 (w0 := _) (w.heap.size) rfl (.tmp 30) (.tmp 38) 27 40 (.agg #[(.int .i64 0), (.int .i64 0), (.int .i64 0), (.bool false), (.bool false)]) 32 rfl Try.underlying27 info40 rfl (by decide) (by omega) u6 (dropP (L.take a.toNat) x) (s) [.int .i64 s.f0, .int .i64 s.f1, .int .i64 s.f2, .bool s.f3, .bool s.f4] (fun _ => True) (fun _ => False) rfl (by simp [Act.eval]) ?aP (fun _ hk => hk.elim) (fun _ _ => trivial) ?aO (Below.refl _ _) ?aS ?aL ?_; (case aP => exact QQA.k40_mkM _ _ _ (s)); (case aO => exact (by (with_reducible repeat (first | apply Kd.R_alloc | apply Kd.R_drewN | apply Kd.R_drew)); exact HO.out)); (case aS => exact below_size (by repeat (first | (with_reducible first | exact HB.out | apply below_alloc | apply pw_below_drewN | apply below_drew1) | exact HB.out))); (case aL => have e := HN.out; (try simp only [List.length_append, List.length_singleton]); omega); intro v9 w9 ho9 hb9 hg9 hat9; have n_ := Aside0.mk (Below.grown (B := w.heap.size) (a := w) (by repeat (first | (with_reducible first | exact HB.out | apply below_alloc | apply pw_below_drewN | apply below_drew1) | exact HB.out)) hg9 (below_size (by repeat (first | (with_reducible first | exact HB.out | apply below_alloc | apply pw_below_drewN | apply below_drew1) | exact HB.out))) (fun k hk => by have := HOB.out k hk; omega)); have n2_ := Aside0.mk ho9; skip; clear HB HO ho9 hb9 hg9 hat9 HOB; have HB := n_; have HO := n2_; have HOB := Aside0.mk (R_base HO.out); clear n_ n2_; skip)
        have e := KA.out
        have eL := HL.out
        rw [wrap_id (by omega) (by omega)]
        have en : (a + 1).toNat = a.toNat + 1 := by omega
        refine ⟨⟨a + 1, rfl, by omega, by omega, ?_, (by repeat (first | (with_reducible first | exact HB.out | apply below_alloc | apply pw_below_drewN | apply below_drew1) | exact HB.out))⟩, by simp only [intOf]; omega⟩
        rw [en, drop_take_other HS.out OO.out]
        exact HO.out
    · have kb : decide (a < (L.length : Int)) = false := decide_eq_false hk
      have ee : L.take a.toNat = L := List.take_of_length_le (by omega)
      have HE := Aside0.mk ee
      obtain ⟨A6, c6, e6⟩ := Kd.R_slice HO.out
      rw [ee] at e6
      subst e6
      clear hk h0 h1 hCw ee
      go_wp2
      go_ret
      have ho := HO.out
      rw [HE.out] at ho
      obtain ⟨r1, r2⟩ := ref_done HR.out (by repeat (first | (with_reducible first | exact HB.out | apply below_alloc | apply pw_below_drewN | apply below_drew1) | exact HB.out)) HBB.out ho
      exact ⟨rfl, ⟨_, r1⟩, r2⟩
end Go.Proofs.Ytokemjdfcifbbaa.Gt
