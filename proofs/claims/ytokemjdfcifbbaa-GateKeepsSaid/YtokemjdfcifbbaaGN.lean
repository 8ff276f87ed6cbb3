/- The walk of GateKeeps. -/
import Derived.Test.YtokemjdfcifbbaaGM
namespace Go.Proofs.Ytokemjdfcifbbaa.Gt
open Go Go.RowKit Go.Maps Go.Proofs.YtokemjdfcifbbaaW.PrintWords Go.Proofs.YtokemjdfcifbbaaW.PrintMore Go.Proofs.YtokemjdfcifbbaaW.PrintLast
set_option linter.unusedVariables false
set_option linter.unusedSimpArgs false
attribute [local go_sem high] QQA.eqA40

def T_6_13 : Bool × List (List Nat × List Nat) := (true, [([], []), ([], []), ([1], [1]), ([0, 2], [0, 2]), ([], []), ([], []), ([5], [5]), ([4, 6, 3], [4, 6]), ([3, 7], [3, 7])])
def B_6_13 : List Nat := [0, 0, 2, 7, 0, 0, 32, 127, 255]
theorem tab_f6_13 : rtab .any (opsOf Try.f6 13) = T_6_13 := by kernel_rfl
theorem bits_f6_13 : waitsOk T_6_13.2 B_6_13 = true := by kernel_rfl
def T_6_15 : Bool × List (List Nat × List Nat) := (true, [([], []), ([], []), ([1], [1]), ([], []), ([3], [3]), ([0, 2, 4], [0, 2, 4]), ([], []), ([], []), ([7], [7]), ([], []), ([9], [9]), ([6, 8, 10, 5], [6, 8, 10]), ([5, 11], [5, 11])])
def B_6_15 : List Nat := [0, 0, 2, 0, 8, 31, 0, 0, 128, 0, 512, 2047, 4095]
theorem tab_f6_15 : rtab .any (opsOf Try.f6 15) = T_6_15 := by kernel_rfl
theorem bits_f6_15 : waitsOk T_6_15.2 B_6_15 = true := by kernel_rfl
theorem R40_base {w : World} {base : Nat} {v : Value} {xs : List It} (h : QQA.k40.R 40 w base (fun _ => True) v xs) : ∀ k, v.ownBlock = some k → base ≤ k := by
  obtain ⟨inner, ho⟩ := Kd.R_own h
  exact fun k hk => own_base ho k hk
theorem R40_lt {w : World} {base : Nat} {v : Value} {xs : List It} (h : QQA.k40.R 40 w base (fun _ => True) v xs) : ∀ k, v.ownBlock = some k → k < w.heap.size := by
  obtain ⟨inner, ho⟩ := Kd.R_own h
  exact fun k hk => own_lt ho k hk
theorem GateAt.belowN {w w' : World} {gb mb n N : Nat} {L : List It} (h : GateAt w gb mb n L) (hb : Below N w w') (h1 : gb < N) (h2 : mb < N) : GateAt w' gb mb n L := h.move (hb.block gb h1) (hb.block mb h2)
theorem RS_row {w : World} {base n c : Nat} {A : Option Addr} {xs : List Sl} (h : kS.R 27 w base (fun _ => True) (.slice A n c) xs) : kS.C w A xs.length xs := by
  obtain ⟨A', c', e, _, hC⟩ := Kd.R_reads h
  injection e with e1 e2 e3
  subst e1
  exact hC
theorem keep_step {W w5 : World} {g1 m1 g2 m2 Bs len : Nat} {k : Int} {av mv : Value} (KA : 0 ≤ k ∧ k ≤ (len : Int) ∧ k < (len : Int)) (hl : len * 40 ≤ 140737488351232) (HB : Below W.heap.size W w5) (G : List It) (AS MS : List Sl) (HG : GateAt w5 g1 m1 (k.toNat + 1) G) (HH : GateAt w5 g2 m2 (k.toNat + 1) G) (HK : Keep w5 Bs av mv AS MS) (h1 : AS.length = MS.length) (h2 : AS.length ≤ k.toNat + 1) (h3 : Bs ≤ w5.heap.size) :
    (∃ (k1 : Int) (G : List It) (AS MS : List Sl), Value.int IntKind.i64 (wrap64 (k + 1)) = Value.int IntKind.i64 k1 ∧ 0 ≤ k1 ∧ k1 ≤ (len : Int) ∧ Below W.heap.size W w5 ∧ GateAt w5 g1 m1 k1.toNat G ∧ GateAt w5 g2 m2 k1.toNat G ∧ Keep w5 Bs av mv AS MS ∧ AS.length = MS.length ∧ AS.length ≤ k1.toNat ∧ Bs ≤ w5.heap.size) ∧
      len - (intOf (Value.int IntKind.i64 (wrap64 (k + 1)))).toNat < len - (intOf (Value.int IntKind.i64 k)).toNat := by
  obtain ⟨k0, k1, k2⟩ := KA
  rw [wrap_id (by omega) (by omega)]
  have e : (k + 1).toNat = k.toNat + 1 := by omega
  refine ⟨⟨k + 1, G, AS, MS, rfl, by omega, by omega, HB, ?_, ?_, HK, h1, by omega, h3⟩, ?_⟩
  · rw [e]; exact HG
  · rw [e]; exact HH
  · simp only [intOf]; omega
set_option maxHeartbeats 40000000 in
set_option maxRecDepth 100000 in
theorem keeps_walk (A : Option Addr) (c : Nat) (l : List St) (w : World) (hC : Kd.C k33 w A l.length l) (hc : l.length ≤ c) (hlen : l.length * 40 ≤ 140737488351232) (hwf : ∀ s ∈ l, (Lit.int .i64 s.p).wf = true) :
    Calls Try.prog 6 #[.slice A l.length c] w fun e w' => e = .returned (.bool true) ∧ Below w.heap.size w w' := by
  have HC := Aside0.mk hC
  have HL := Aside0.mk hlen
  have HW := Aside0.mk hwf
  have HB := Aside0.mk (Below.refl w.heap.size w)
  clear hC hlen hwf
  go_enter Try.func6, Try.ntmps6
  go_wp2_with (first
    | (go_at_call 7; refine (fixed_calls _).mono ?_; rintro e w1 ⟨rfl, hb⟩; have n_ := Aside0.mk (below_step (by repeat (first | (with_reducible first | exact HB.out | apply below_alloc | apply pw_below_drewN | apply below_drew1) | exact HB.out)) hb); clear HB; have HB := n_; clear n_ hb)
    | (go_at_call 8; first
        | (have hG := HG.out; refine (g_new _).mono ?_; rintro e w3 ⟨g2, m2, rfl, hH, hb, hg2', hm2'⟩; have hg2 := Nat.le_trans (below_size (by repeat (first | (with_reducible first | exact HB.out | apply below_alloc | apply pw_below_drewN | apply below_drew1) | exact HB.out))) hg2'; have hm2 := Nat.le_trans (below_size (by repeat (first | (with_reducible first | exact HB.out | apply below_alloc | apply pw_below_drewN | apply below_drew1) | exact HB.out))) hm2'; have n_ := Aside0.mk (below_step (by repeat (first | (with_reducible first | exact HB.out | apply below_alloc | apply pw_below_drewN | apply below_drew1) | exact HB.out)) hb); clear HB; have HB := n_; clear n_)
        | (refine (g_new _).mono ?_; rintro e w2 ⟨g1, m1, rfl, hG, hb, hg1', hm1'⟩; have hg1 := Nat.le_trans (below_size (by repeat (first | (with_reducible first | exact HB.out | apply below_alloc | apply pw_below_drewN | apply below_drew1) | exact HB.out))) hg1'; have hm1 := Nat.le_trans (below_size (by repeat (first | (with_reducible first | exact HB.out | apply below_alloc | apply pw_below_drewN | apply below_drew1) | exact HB.out))) hm1'; have n_ := Aside0.mk (below_step (by repeat (first | (with_reducible first | exact HB.out | apply below_alloc | apply pw_below_drewN | apply below_drew1) | exact HB.out)) hb); have HG := Aside0.mk hG; clear HB; have HB := n_; clear n_ hb hG hg1' hm1')))
  have hgl := hG.ltg
  have hml := hG.ltm
  have hG3 := hG.below hb
  have hgm21 : g2 ≠ m1 := by omega
  have hmm21 : m2 ≠ m1 := by omega
  have hgm12 : g1 ≠ m2 := by omega
  have hmm12 : m1 ≠ m2 := by omega
  have hb3 := hb.size
  have hl2 := hH.ltg
  have hl3 := hH.ltm
  have hBs : w.heap.size ≤ w3.heap.size := below_size HB.out
  have HB0 := HB
  obtain ⟨Bs, hBse⟩ : ∃ r, w3.heap.size = r := ⟨_, rfl⟩
  rw [hBse] at hBs hb3 hl2 hl3
  have hL1 : g1 < Bs := by omega
  have hL2 : m1 < Bs := by omega
  have HZ := Aside0.mk hBse
  clear hBse hG HG HB hgl hml hg2' hm2' hb hb3
  go_loopw [5, 6, 7] (fun av mv iv wr => ∃ (k : Int) (G : List It) (AS MS : List Sl), iv = .int .i64 k ∧ 0 ≤ k ∧ k ≤ l.length ∧ Below w.heap.size w wr ∧ GateAt wr g1 m1 k.toNat G ∧ GateAt wr g2 m2 k.toNat G ∧ Keep wr Bs av mv AS MS ∧ AS.length = MS.length ∧ AS.length ≤ k.toNat ∧ Bs ≤ wr.heap.size) (fun _ _ iv _ => l.length - (intOf iv).toNat)
  case atStart => exact ⟨0, [], [], [], rfl, Int.le_refl _, by omega, HB0.out, hG3, hH, ⟨Kd.R_nil _ _ _ _ _, Kd.R_nil _ _ _ _ _, fun j e => by simp [Value.ownBlock] at e, fun i s h => by simp at h, fun i s t h => by simp at h⟩, rfl, Nat.le_refl _, by rw [HZ.out]; exact Nat.le_refl _⟩
  case round =>
    clear hG3 hH HB0 HZ
    obtain ⟨k, G, AS, MS, rfl, h0, h1, hbw, hG, hH, hK, hAM, hAk, hsz⟩ := hrel
    have HG := Aside0.mk hG
    have HH := Aside0.mk hH
    have HK := Aside0.mk hK
    have HB := Aside0.mk hbw
    have hCw := Kd.C_below HC.out hbw
    have hm1w : m1 ≠ wr.heap.size := Nat.ne_of_lt hG.ltm
    have hm2w : m2 ≠ wr.heap.size := Nat.ne_of_lt hH.ltm
    have hgl := hG.len
    obtain ⟨Aa, ca, ea, hca, _⟩ := Kd.R_reads hK.ra
    subst ea
    obtain ⟨Am, cm, em, hcm, _⟩ := Kd.R_reads hK.rm
    subst em
    clear hG hH hbw hK
    by_cases hk : k < l.length
    · have kb : decide (k < (l.length : Int)) = true := decide_eq_true hk
      obtain ⟨ad, s, hs, e1, d0, d1, d2, d3, d4, d5⟩ := at_T33 hCw k h0 hk
      subst e1
      have hwp := HW.out s (List.mem_of_getElem? hs)
      have hnk : k.toNat < maxLen := by
        have := HL.out
        simp only [maxLen]
        omega
      have HLG : Aside0 (G.length ≤ 3600000000000 ∧ AS.length ≤ 3600000000000 ∧ AS.length = MS.length ∧ AS.length ≤ k.toNat ∧ Bs ≤ wr.heap.size) := ⟨by have := HL.out; omega⟩
      have hnk4 : k.toNat + 1 ≤ 4000000000000 := by have := HL.out; omega
      have KA := Aside0.mk (And.intro h0 (And.intro h1 hk))
      have p0 : (0 ≤ k) = True := eq_true h0
      have p1 : (k < (l.length : Int)) = True := eq_true hk
      have BX := Aside0.mk (heap_alloc_new wr (.cells #[.int .i64 s.op, .int .i64 s.p, .int .i64 s.t, .int .i64 s.u, .bool s.f, .bool s.b] 33))
      obtain ⟨x0, x1, x2, x3, x4, x5⟩ := bx_c BX.out
      clear hk hs h0 h1 hCw hgl hAM hAk hsz
      by_cases q : s.op = 3
      · have q3 : (s.op == 3) = true := beq_iff_eq.2 q
        clear q
        obtain ⟨b1, RW⟩ : ∃ b, hasP G s.p = b := ⟨_, rfl⟩
        go_wp2
        refine start_ (n := 9) (S := fun w' => w'.cell? ⟨wr.heap.size, 1, none⟩ = some (.int .i64 s.p)) (ds := []) #[false, false, false, false, false, false, false, false, false] (by kernel_rfl) rfl rfl x1 (fun hHeld => ?_)
        refine with_tabW tab_f6_13 bits_f6_13 (fun HT_ HW_ => ?_)
        refine pure_ (i := 0) (N := some 40) (v := ?_) (a' := ?_) #[true, false, false, false, false, false, false, false, false] rfl rfl (any_of HT_.out (by kernel_rfl)) (fun _ _ _ h => h) (Or.inl ⟨by rfl, ?_⟩) ?_ ?_
        rotate_left
        · intro w'
          go_simp
          with_reducible rfl
        rotate_left
        · simp only [Act.put, List.setIfInBounds_toArray, List.set_cons_zero, List.set_cons_succ, i64_w, i32_w]
          rfl
        refine pure_ (i := 1) (N := some 41) (v := ?_) (a' := ?_) #[true, true, false, false, false, false, false, false, false] rfl rfl (any_of HT_.out (by kernel_rfl)) (fun _ _ _ h => h) (Or.inl ⟨by rfl, ?_⟩) ?_ ?_
        rotate_left
        · intro w'
          go_simp
          with_reducible rfl
        rotate_left
        · simp only [Act.put, List.setIfInBounds_toArray, List.set_cons_zero, List.set_cons_succ, i64_w, i32_w]
          rfl
        refine pure_ (i := 4) (N := some 44) (v := ?_) (a' := ?_) #[true, true, false, false, true, false, false, false, false] rfl rfl (any_of HT_.out (by kernel_rfl)) (fun _ _ _ h => h) (Or.inl ⟨by rfl, ?_⟩) ?_ ?_
        rotate_left
        · intro w'
          go_simp
          with_reducible rfl
        rotate_left
        · simp only [Act.put, List.setIfInBounds_toArray, List.set_cons_zero, List.set_cons_succ, i64_w, i32_w]
          rfl
        refine pure_ (i := 5) (N := some 45) (v := ?_) (a' := ?_) #[true, true, false, false, true, true, false, false, false] rfl rfl (any_of HT_.out (by kernel_rfl)) (fun _ _ _ h => h) (Or.inl ⟨by rfl, ?_⟩) ?_ ?_
        rotate_left
        · intro w'
          go_simp
          with_reducible rfl
        rotate_left
        · simp only [Act.put, List.setIfInBounds_toArray, List.set_cons_zero, List.set_cons_succ, i64_w, i32_w]
          rfl
        refine take_ (i := 2) (N := some 42) (v := ?_) (a' := ?_) #[true, true, true, false, true, true, false, false, false] rfl rfl (take_ofW HT_.out HW_.out (by kernel_rfl)) (fun _ _ _ h => h) (Or.inl ⟨by rfl, ?_⟩) hHeld ?_ ?_
        rotate_left
        · rintro w' s1
          go_simp
          with_reducible rfl
        rotate_left
        · simp only [Act.put, List.setIfInBounds_toArray, List.set_cons_zero, List.set_cons_succ, i64_w, i32_w]
          rfl
        refine take_ (i := 6) (N := some 46) (v := ?_) (a' := ?_) #[true, true, true, false, true, true, true, false, false] rfl rfl (take_ofW HT_.out HW_.out (by kernel_rfl)) (fun _ _ _ h => h) (Or.inl ⟨by rfl, ?_⟩) hHeld ?_ ?_
        rotate_left
        · rintro w' s1
          go_simp
          with_reducible rfl
        rotate_left
        · simp only [Act.put, List.setIfInBounds_toArray, List.set_cons_zero, List.set_cons_succ, i64_w, i32_w]
          rfl
        refine one_ (i := 3) (N := some 43) #[true, true, true, true, true, true, true, false, false] rfl rfl (one_of HT_.out (by kernel_rfl)) (by decide) (fun K hK => ?_)
        refine goes_ Try.func14 (by kernel_rfl) rfl #[.pointer (some ⟨g1, 0, none⟩), .int .i64 s.p] (by rfl) rfl rfl (by (try simp only [List.map_toArray, List.map_cons, List.map_nil]); first | done | rfl) ?_
        with_reducible refine (drop_at HG.out (by repeat (first | (with_reducible first | exact Below.refl _ _ | apply below_alloc | apply pw_below_drewN | apply below_drew1) | exact Below.refl _ _)) s.p hwp _ RW _ rfl).mono ?_
        rintro e w5 ⟨rfl, hG1, hg1⟩
        refine ⟨_, rfl, ?_⟩
        have hmm := hm1; have hmb := hm1w; have bx := bx_g BX.out (by repeat (first | (with_reducible first | exact Below.refl _ _ | apply below_alloc | apply pw_below_drewN | apply below_drew1) | exact Below.refl _ _)) hg1 hmb; clear BX; have BX := Aside0.mk bx; clear bx; obtain ⟨x0, x1, x2, x3, x4, x5⟩ := bx_c BX.out; have HH1 := Aside0.mk (other_gate HH.out (by repeat (first | (with_reducible first | exact Below.refl _ _ | apply below_alloc | apply pw_below_drewN | apply below_drew1) | exact Below.refl _ _)) hg1 hgm21 hmm21); have GAT := HG; have k_ := Aside0.mk ((HK.out.below (by repeat (first | (with_reducible first | exact Below.refl _ _ | apply below_alloc | apply pw_below_drewN | apply below_drew1) | exact Below.refl _ _))).gate (GAT.out.below (by repeat (first | (with_reducible first | exact Below.refl _ _ | apply below_alloc | apply pw_below_drewN | apply below_drew1) | exact Below.refl _ _))) hg1); clear HK; have HK := k_; clear k_; have n_ := Aside0.mk (below_g (by repeat (first | (with_reducible first | exact HB.out | apply below_alloc | apply pw_below_drewN | apply below_drew1) | exact HB.out)) hg1 hmm); clear HB; have HB := n_; clear n_; clear HG HH GAT; have HH := HH1; have HG := Aside0.mk hG1; clear HH1 hG1 hg1 hmm hmb
        refine hK.out _ _ x1 (fun hHeld => ?_)
        clear hK K
        refine norm_ (a' := ?_) ?_ ?_
        rotate_left
        · show Act.put _ (some 43) _ = _
          simp only [Act.put, List.setIfInBounds_toArray, List.set_cons_zero, List.set_cons_succ, i64_w, i32_w]
          rfl
        refine one_ (i := 7) (N := some 47) #[true, true, true, true, true, true, true, true, false] rfl rfl (one_of HT_.out (by kernel_rfl)) (by decide) (fun K hK => ?_)
        refine goes_ Try.func14 (by kernel_rfl) rfl #[.pointer (some ⟨g2, 0, none⟩), .int .i64 s.p] (by rfl) rfl rfl (by (try simp only [List.map_toArray, List.map_cons, List.map_nil]); first | done | rfl) ?_
        with_reducible refine (drop_at HH.out (by repeat (first | (with_reducible first | exact Below.refl _ _ | apply below_alloc | apply pw_below_drewN | apply below_drew1) | exact Below.refl _ _)) s.p hwp _ RW _ rfl).mono ?_
        rintro e w6 ⟨rfl, hG1, hg1⟩
        refine ⟨_, rfl, ?_⟩
        have hmm := hm2; have hmb := hm2w; have bx := bx_g BX.out (by repeat (first | (with_reducible first | exact Below.refl _ _ | apply below_alloc | apply pw_below_drewN | apply below_drew1) | exact Below.refl _ _)) hg1 hmb; clear BX; have BX := Aside0.mk bx; clear bx; obtain ⟨x0, x1, x2, x3, x4, x5⟩ := bx_c BX.out; have HG1 := Aside0.mk (other_gate HG.out (by repeat (first | (with_reducible first | exact Below.refl _ _ | apply below_alloc | apply pw_below_drewN | apply below_drew1) | exact Below.refl _ _)) hg1 hgm12 hmm12); have GAT := HH; have k_ := Aside0.mk ((HK.out.below (by repeat (first | (with_reducible first | exact Below.refl _ _ | apply below_alloc | apply pw_below_drewN | apply below_drew1) | exact Below.refl _ _))).gate (GAT.out.below (by repeat (first | (with_reducible first | exact Below.refl _ _ | apply below_alloc | apply pw_below_drewN | apply below_drew1) | exact Below.refl _ _))) hg1); clear HK; have HK := k_; clear k_; have n_ := Aside0.mk (below_g (by repeat (first | (with_reducible first | exact HB.out | apply below_alloc | apply pw_below_drewN | apply below_drew1) | exact HB.out)) hg1 hmm); clear HB; have HB := n_; clear n_; clear HG HH GAT; have HG := HG1; have HH := Aside0.mk hG1; clear HG1 hG1 hg1 hmm hmb
        refine hK.out _ _ x1 (fun hHeld => ?_)
        clear hK K
        refine norm_ (a' := ?_) ?_ ?_
        rotate_left
        · show Act.put _ (some 47) _ = _
          simp only [Act.put, List.setIfInBounds_toArray, List.set_cons_zero, List.set_cons_succ, i64_w, i32_w]
          rfl
        refine pure_ (i := 8) (N := some 48) (v := ?_) (a' := ?_) #[true, true, true, true, true, true, true, true, true] rfl rfl (any_of HT_.out (by kernel_rfl)) (fun _ _ _ h => h) (Or.inl ⟨by rfl, ?_⟩) ?_ ?_
        rotate_left
        · intro w'
          go_simp
          with_reducible rfl
        rotate_left
        · simp only [Act.put, List.setIfInBounds_toArray, List.set_cons_zero, List.set_cons_succ, i64_w, i32_w]
          rfl
        refine done_ (done_of HT_.out (by kernel_rfl)) ?_
        go_wp2
        have e := HLG.out
        exact keep_step KA.out HL.out HB.out _ AS MS (HG.out.mono (Nat.le_succ _)) (HH.out.mono (Nat.le_succ _)) HK.out (by omega) (by omega) (Nat.le_trans e.2.2.2.2 (Nat.le_of_succ_le (bx_lt BX.out)))
      · have q3 : (s.op == 3) = false := beq_eq_false_iff_ne.2 q
        clear q
        obtain ⟨r, RG⟩ : ∃ r : Int, (if hasP G s.p then 180 else 0) = r := ⟨_, rfl⟩
        go_wp2
        refine start_ (n := 13) (S := fun w' => w'.cell? ⟨wr.heap.size, 1, none⟩ = some (.int .i64 s.p) ∧ w'.cell? ⟨wr.heap.size, 2, none⟩ = some (.int .i64 s.t) ∧ w'.cell? ⟨wr.heap.size, 3, none⟩ = some (.int .i64 s.u) ∧ w'.cell? ⟨wr.heap.size, 4, none⟩ = some (.bool s.f) ∧ w'.cell? ⟨wr.heap.size, 5, none⟩ = some (.bool s.b)) (ds := []) #[false, false, false, false, false, false, false, false, false, false, false, false, false] (by kernel_rfl) rfl rfl ⟨x1, x2, x3, x4, x5⟩ (fun hHeld => ?_)
        refine with_tabW tab_f6_15 bits_f6_15 (fun HT_ HW_ => ?_)
        refine pure_ (i := 0) (N := some 49) (v := ?_) (a' := ?_) #[true, false, false, false, false, false, false, false, false, false, false, false, false] rfl rfl (any_of HT_.out (by kernel_rfl)) (fun _ _ _ h => h) (Or.inl ⟨by rfl, ?_⟩) ?_ ?_
        rotate_left
        · intro w'
          go_simp
          with_reducible rfl
        rotate_left
        · simp only [Act.put, List.setIfInBounds_toArray, List.set_cons_zero, List.set_cons_succ, i64_w, i32_w]
          rfl
        refine pure_ (i := 1) (N := some 50) (v := ?_) (a' := ?_) #[true, true, false, false, false, false, false, false, false, false, false, false, false] rfl rfl (any_of HT_.out (by kernel_rfl)) (fun _ _ _ h => h) (Or.inl ⟨by rfl, ?_⟩) ?_ ?_
        rotate_left
        · intro w'
          go_simp
          with_reducible rfl
        rotate_left
        · simp only [Act.put, List.setIfInBounds_toArray, List.set_cons_zero, List.set_cons_succ, i64_w, i32_w]
          rfl
        refine pure_ (i := 3) (N := some 52) (v := ?_) (a' := ?_) #[true, true, false, true, false, false, false, false, false, false, false, false, false] rfl rfl (any_of HT_.out (by kernel_rfl)) (fun _ _ _ h => h) (Or.inl ⟨by rfl, ?_⟩) ?_ ?_
        rotate_left
        · intro w'
          go_simp
          with_reducible rfl
        rotate_left
        · simp only [Act.put, List.setIfInBounds_toArray, List.set_cons_zero, List.set_cons_succ, i64_w, i32_w]
          rfl
        refine pure_ (i := 6) (N := some 55) (v := ?_) (a' := ?_) #[true, true, false, true, false, false, true, false, false, false, false, false, false] rfl rfl (any_of HT_.out (by kernel_rfl)) (fun _ _ _ h => h) (Or.inl ⟨by rfl, ?_⟩) ?_ ?_
        rotate_left
        · intro w'
          go_simp
          with_reducible rfl
        rotate_left
        · simp only [Act.put, List.setIfInBounds_toArray, List.set_cons_zero, List.set_cons_succ, i64_w, i32_w]
          rfl
        refine pure_ (i := 7) (N := some 56) (v := ?_) (a' := ?_) #[true, true, false, true, false, false, true, true, false, false, false, false, false] rfl rfl (any_of HT_.out (by kernel_rfl)) (fun _ _ _ h => h) (Or.inl ⟨by rfl, ?_⟩) ?_ ?_
        rotate_left
        · intro w'
          go_simp
          with_reducible rfl
        rotate_left
        · simp only [Act.put, List.setIfInBounds_toArray, List.set_cons_zero, List.set_cons_succ, i64_w, i32_w]
          rfl
        refine pure_ (i := 9) (N := some 58) (v := ?_) (a' := ?_) #[true, true, false, true, false, false, true, true, false, true, false, false, false] rfl rfl (any_of HT_.out (by kernel_rfl)) (fun _ _ _ h => h) (Or.inl ⟨by rfl, ?_⟩) ?_ ?_
        rotate_left
        · intro w'
          go_simp
          with_reducible rfl
        rotate_left
        · simp only [Act.put, List.setIfInBounds_toArray, List.set_cons_zero, List.set_cons_succ, i64_w, i32_w]
          rfl
        refine take_ (i := 2) (N := some 51) (v := ?_) (a' := ?_) #[true, true, true, true, false, false, true, true, false, true, false, false, false] rfl rfl (take_ofW HT_.out HW_.out (by kernel_rfl)) (fun _ _ _ h => h) (Or.inl ⟨by rfl, ?_⟩) hHeld ?_ ?_
        rotate_left
        · rintro w' ⟨s1, s2, s3, s4, s5⟩
          go_simp
          with_reducible rfl
        rotate_left
        · simp only [Act.put, List.setIfInBounds_toArray, List.set_cons_zero, List.set_cons_succ, i64_w, i32_w]
          rfl
        refine take_ (i := 4) (N := some 53) (v := ?_) (a' := ?_) #[true, true, true, true, true, false, true, true, false, true, false, false, false] rfl rfl (take_ofW HT_.out HW_.out (by kernel_rfl)) (fun _ _ _ h => h) (Or.inl ⟨by rfl, ?_⟩) hHeld ?_ ?_
        rotate_left
        · rintro w' ⟨s1, s2, s3, s4, s5⟩
          go_simp
          with_reducible rfl
        rotate_left
        · simp only [Act.put, List.setIfInBounds_toArray, List.set_cons_zero, List.set_cons_succ, i64_w, i32_w]
          rfl
        refine take_ (i := 8) (N := some 57) (v := ?_) (a' := ?_) #[true, true, true, true, true, false, true, true, true, true, false, false, false] rfl rfl (take_ofW HT_.out HW_.out (by kernel_rfl)) (fun _ _ _ h => h) (Or.inl ⟨by rfl, ?_⟩) hHeld ?_ ?_
        rotate_left
        · rintro w' ⟨s1, s2, s3, s4, s5⟩
          go_simp
          with_reducible rfl
        rotate_left
        · simp only [Act.put, List.setIfInBounds_toArray, List.set_cons_zero, List.set_cons_succ, i64_w, i32_w]
          rfl
        refine take_ (i := 10) (N := some 59) (v := ?_) (a' := ?_) #[true, true, true, true, true, false, true, true, true, true, true, false, false] rfl rfl (take_ofW HT_.out HW_.out (by kernel_rfl)) (fun _ _ _ h => h) (Or.inl ⟨by rfl, ?_⟩) hHeld ?_ ?_
        rotate_left
        · rintro w' ⟨s1, s2, s3, s4, s5⟩
          go_simp
          with_reducible rfl
        rotate_left
        · simp only [Act.put, List.setIfInBounds_toArray, List.set_cons_zero, List.set_cons_succ, i64_w, i32_w]
          rfl
        refine one_ (i := 5) (N := some 54) #[true, true, true, true, true, true, true, true, true, true, true, false, false] rfl rfl (one_of HT_.out (by kernel_rfl)) (by decide) (fun K hK => ?_)
        refine goes_ Try.func10 (by kernel_rfl) rfl #[.pointer (some ⟨g1, 0, none⟩), .int .i64 s.p, .agg #[.int .i64 s.t, .int .i64 s.u, .bool s.f, .bool s.b]] (by rfl) rfl rfl (by (try simp only [List.map_toArray, List.map_cons, List.map_nil]); first | done | rfl) ?_
        with_reducible refine (offer_at HG.out (by repeat (first | (with_reducible first | exact Below.refl _ _ | apply below_alloc | apply pw_below_drewN | apply below_drew1) | exact Below.refl _ _)) hnk s.p s.t s.u s.f s.b hwp _ RG _ rfl).mono ?_
        rintro e w5 ⟨rfl, hG1, hg1⟩
        refine ⟨_, rfl, ?_⟩
        have hmm := hm1; have hmb := hm1w; have bx := bx_g BX.out (by repeat (first | (with_reducible first | exact Below.refl _ _ | apply below_alloc | apply pw_below_drewN | apply below_drew1) | exact Below.refl _ _)) hg1 hmb; clear BX; have BX := Aside0.mk bx; clear bx; obtain ⟨x0, x1, x2, x3, x4, x5⟩ := bx_c BX.out; have HH1 := Aside0.mk (other_gate HH.out (by repeat (first | (with_reducible first | exact Below.refl _ _ | apply below_alloc | apply pw_below_drewN | apply below_drew1) | exact Below.refl _ _)) hg1 hgm21 hmm21); have GAT := HG; have k_ := Aside0.mk ((HK.out.below (by repeat (first | (with_reducible first | exact Below.refl _ _ | apply below_alloc | apply pw_below_drewN | apply below_drew1) | exact Below.refl _ _))).gate (GAT.out.below (by repeat (first | (with_reducible first | exact Below.refl _ _ | apply below_alloc | apply pw_below_drewN | apply below_drew1) | exact Below.refl _ _))) hg1); clear HK; have HK := k_; clear k_; have n_ := Aside0.mk (below_g (by repeat (first | (with_reducible first | exact HB.out | apply below_alloc | apply pw_below_drewN | apply below_drew1) | exact HB.out)) hg1 hmm); clear HB; have HB := n_; clear n_; clear HG HH GAT; have HH := HH1; have HG := Aside0.mk hG1; clear HH1 hG1 hg1 hmm hmb
        refine hK.out _ _ ⟨x1, x2, x3, x4, x5⟩ (fun hHeld => ?_)
        clear hK K
        refine norm_ (a' := ?_) ?_ ?_
        rotate_left
        · show Act.put _ (some 54) _ = _
          simp only [Act.put, List.setIfInBounds_toArray, List.set_cons_zero, List.set_cons_succ, i64_w, i32_w]
          rfl
        refine one_ (i := 11) (N := some 60) #[true, true, true, true, true, true, true, true, true, true, true, true, false] rfl rfl (one_of HT_.out (by kernel_rfl)) (by decide) (fun K hK => ?_)
        refine goes_ Try.func10 (by kernel_rfl) rfl #[.pointer (some ⟨g2, 0, none⟩), .int .i64 s.p, .agg #[.int .i64 s.t, .int .i64 s.u, .bool s.f, .bool s.b]] (by rfl) rfl rfl (by (try simp only [List.map_toArray, List.map_cons, List.map_nil]); first | done | rfl) ?_
        with_reducible refine (offer_at HH.out (by repeat (first | (with_reducible first | exact Below.refl _ _ | apply below_alloc | apply pw_below_drewN | apply below_drew1) | exact Below.refl _ _)) hnk s.p s.t s.u s.f s.b hwp _ RG _ rfl).mono ?_
        rintro e w6 ⟨rfl, hG1, hg1⟩
        refine ⟨_, rfl, ?_⟩
        have hmm := hm2; have hmb := hm2w; have bx := bx_g BX.out (by repeat (first | (with_reducible first | exact Below.refl _ _ | apply below_alloc | apply pw_below_drewN | apply below_drew1) | exact Below.refl _ _)) hg1 hmb; clear BX; have BX := Aside0.mk bx; clear bx; obtain ⟨x0, x1, x2, x3, x4, x5⟩ := bx_c BX.out; have HG1 := Aside0.mk (other_gate HG.out (by repeat (first | (with_reducible first | exact Below.refl _ _ | apply below_alloc | apply pw_below_drewN | apply below_drew1) | exact Below.refl _ _)) hg1 hgm12 hmm12); have GAT := HH; have k_ := Aside0.mk ((HK.out.below (by repeat (first | (with_reducible first | exact Below.refl _ _ | apply below_alloc | apply pw_below_drewN | apply below_drew1) | exact Below.refl _ _))).gate (GAT.out.below (by repeat (first | (with_reducible first | exact Below.refl _ _ | apply below_alloc | apply pw_below_drewN | apply below_drew1) | exact Below.refl _ _))) hg1); clear HK; have HK := k_; clear k_; have n_ := Aside0.mk (below_g (by repeat (first | (with_reducible first | exact HB.out | apply below_alloc | apply pw_below_drewN | apply below_drew1) | exact HB.out)) hg1 hmm); clear HB; have HB := n_; clear n_; clear HG HH GAT; have HG := HG1; have HH := Aside0.mk hG1; clear HG1 hG1 hg1 hmm hmb
        refine hK.out _ _ ⟨x1, x2, x3, x4, x5⟩ (fun hHeld => ?_)
        clear hK K
        refine norm_ (a' := ?_) ?_ ?_
        rotate_left
        · show Act.put _ (some 60) _ = _
          simp only [Act.put, List.setIfInBounds_toArray, List.set_cons_zero, List.set_cons_succ, i64_w, i32_w]
          rfl
        refine pure_ (i := 12) (N := some 61) (v := ?_) (a' := ?_) #[true, true, true, true, true, true, true, true, true, true, true, true, true] rfl rfl (any_of HT_.out (by kernel_rfl)) (fun _ _ _ h => h) (Or.inl ⟨by rfl, ?_⟩) ?_ ?_
        rotate_left
        · intro w'
          go_simp
          with_reducible rfl
        rotate_left
        · simp only [Act.put, List.setIfInBounds_toArray, List.set_cons_zero, List.set_cons_succ, i64_w, i32_w]
          rfl
        refine done_ (done_of HT_.out (by kernel_rfl)) ?_
        clear d0 d1 d2 d3 d4 d5
        go_upto_region 17 with (fail)
        go_cut [69] (fun v69 wc => (∃ b : Bool, v69 = .bool b) ∧ wc = w6)
        case first =>
          go_wp2
          all_goals (go_meet; case rel => exact ⟨⟨_, rfl⟩, rfl⟩)
        case rest =>
          obtain ⟨⟨b, rfl⟩, rfl⟩ := hcut
          have hszc : Bs ≤ wc.heap.size := Nat.le_trans HLG.out.2.2.2.2 (Nat.le_of_succ_le (bx_lt BX.out))
          clear BX x0 x1 x2 x3 x4 x5
          cases b
          · go_wp2
            have e := HLG.out
            exact keep_step KA.out HL.out HB.out _ AS MS HG.out HH.out HK.out (by omega) (by omega) hszc
          · obtain ⟨G1, hG1e⟩ : ∃ L, offerL G (legI s.p s.t s.u s.f s.b) = L := ⟨_, rfl⟩
            rw [hG1e] at HG HH
            have hgl1 := HG.out.len
            have HLN : Aside0 (G1.length ≤ 3600000000000) := ⟨by have := HL.out; have := KA.out; omega⟩
            have HKc := HK
            have hm2c := HH.out.ltm
            have hm1c := HG.out.ltm
            have hg1c := HG.out.ltg
            have hg2c := HH.out.ltg
            clear hG1e hgl1 q3 RG
            go_wp2_with (first | (go_at_call 17; (with_reducible refine (take_at HG.out ?side1 hnk4).mono ?_); (case side1 => exact (by repeat (first | (with_reducible first | exact Below.refl _ _ | apply below_alloc | apply pw_below_drewN | apply below_drew1) | exact Below.refl _ _))); rintro e w7 ⟨A1, c1, rfl, hG1, hg1, hR1, hc1, hX1⟩; have hmm := hm1; have HH1 := Aside0.mk (other_gate HH.out (by repeat (first | (with_reducible first | exact Below.refl _ _ | apply below_alloc | apply pw_below_drewN | apply below_drew1) | exact Below.refl _ _)) hg1 hgm21 hmm21); have GAT := HG; have k_ := Aside0.mk ((HK.out.below (by repeat (first | (with_reducible first | exact Below.refl _ _ | apply below_alloc | apply pw_below_drewN | apply below_drew1) | exact Below.refl _ _))).gate (GAT.out.below (by repeat (first | (with_reducible first | exact Below.refl _ _ | apply below_alloc | apply pw_below_drewN | apply below_drew1) | exact Below.refl _ _))) hg1); clear HK; have HK := k_; clear k_; have n_ := Aside0.mk (below_g (by repeat (first | (with_reducible first | exact HB.out | apply below_alloc | apply pw_below_drewN | apply below_drew1) | exact HB.out)) hg1 hmm); clear HB; have HB := n_; clear n_; have HLR := Aside0.mk hR1; have HWU := Aside0.mk hg1.size; clear HG HH GAT hR1 hX1; have HH := HH1; have HGt := Aside0.mk hG1; clear HH1 hG1 hg1 hmm) | (go_at_call 17; (with_reducible refine (take_at HH.out ?side1 hnk4).mono ?_); (case side1 => exact (by repeat (first | (with_reducible first | exact Below.refl _ _ | apply below_alloc | apply pw_below_drewN | apply below_drew1) | exact Below.refl _ _))); rintro e w8 ⟨A2, c2, rfl, hG1, hg1, hR2, hc2, hX2⟩; have hmm := hm2; have HG1 := Aside0.mk (other_gate HGt.out (by repeat (first | (with_reducible first | exact Below.refl _ _ | apply below_alloc | apply pw_below_drewN | apply below_drew1) | exact Below.refl _ _)) hg1 hgm12 hmm12); have GAT := HH; have k_ := Aside0.mk ((HK.out.below (by repeat (first | (with_reducible first | exact Below.refl _ _ | apply below_alloc | apply pw_below_drewN | apply below_drew1) | exact Below.refl _ _))).gate (GAT.out.below (by repeat (first | (with_reducible first | exact Below.refl _ _ | apply below_alloc | apply pw_below_drewN | apply below_drew1) | exact Below.refl _ _))) hg1); clear HK; have HK := k_; clear k_; have n_ := Aside0.mk (below_g (by repeat (first | (with_reducible first | exact HB.out | apply below_alloc | apply pw_below_drewN | apply below_drew1) | exact HB.out)) hg1 hmm); clear HB; have HB := n_; clear n_; have HLR1 := Aside0.mk (R_other (Kd.R_below HLR.out (by repeat (first | (with_reducible first | exact Below.refl _ _ | apply below_alloc | apply pw_below_drewN | apply below_drew1) | exact Below.refl _ _))) hg1 hm2c); have HWT := Aside0.mk (Nat.le_trans HWU.out (Nat.le_trans (below_size (by repeat (first | (with_reducible first | exact Below.refl _ _ | apply below_alloc | apply pw_below_drewN | apply below_drew1) | exact Below.refl _ _))) hg1.size)); have HM := Aside0.mk hX2; clear HGt HH GAT hR2 hX2 HLR; have HLR := HLR1; have HGt := HG1; have HHt := Aside0.mk hG1; clear HG1 hG1 hg1 hmm HLR1) | (go_at_call 16; (with_reducible refine (same_at (R_row HLR.out) hc1 HM.out hc2 ?side1).mono ?_); (case side1 => have e := HLN.out; omega); rintro e w9 ⟨rfl, hb9⟩; have a1 := Aside0.mk (HGt.out.below hb9); have a2 := Aside0.mk (HHt.out.below hb9); have a3 := Aside0.mk (HK.out.below hb9); have a4 := Aside0.mk (Kd.R_below HLR.out hb9); have a5 := Aside0.mk (below_step HB.out hb9); have HWS := Aside0.mk (Nat.le_trans HWT.out hb9.size); clear HGt HHt HK HLR HB HM hb9; have HGt := a1; have HHt := a2; have HK := a3; have HLR := a4; have HB := a5; clear a1 a2 a3 a4 a5))
            have hlb := R40_len HLR.out
            obtain ⟨u0, hmv2⟩ : ∃ v, wrap64 (-1000 - ((AS.length : Int) + 1)) = v := ⟨_, rfl⟩
            have hu0 : u0 = -1000 - ((AS.length : Int) + 1) := by
              have e := HLG.out
              rw [← hmv2, wrap_id (by omega) (by omega)]
            have hmv : wrap64 (-1000 - (AS.length : Int)) = (mrk AS.length).f0 := by
              have e := HLG.out
              rw [wrap_id (by omega) (by omega)]
              rfl
            have hmv3 : wrap64 (u0 + 1) = (mrk AS.length).f0 := by
              have e := HLG.out
              rw [hu0, wrap_id (by omega) (by omega)]
              show -1000 - ((AS.length : Int) + 1) + 1 = -1000 - (AS.length : Int)
              omega
            have MV := Aside0.mk hmv
            have MV2 := Aside0.mk hmv2
            have MV3 := Aside0.mk hmv3
            clear hmv hmv2 hmv3 hu0 hlb
            have hws9 : wc.heap.size ≤ w9.heap.size := HWS.out
            obtain ⟨M, hM⟩ : ∃ M, mrk AS.length = M := ⟨_, rfl⟩
            rw [hM] at MV MV3
            have hM0 : M.f1 = 0 ∧ M.f2 = 0 ∧ M.f3 = false ∧ M.f4 = false := by rw [← hM]; exact ⟨rfl, rfl, rfl, rfl⟩
            obtain ⟨mf, mt, mu, mff, mbb⟩ := M
            obtain ⟨e1, e2, e3, e4⟩ := hM0
            simp only at e1 e2 e3 e4
            subst e1 e2 e3 e4
            have MM := Aside0.mk hM
            clear hM
            go_loopw [11] (fun jv wq => ∃ j : Int, jv = .int .i64 j ∧ 0 ≤ j ∧ j ≤ G1.length ∧ Below wc.heap.size w9 wq ∧ QQA.k40.R 40 wq wc.heap.size (fun _ => True) (.slice A1 G1.length c1) (List.replicate j.toNat ⟨mf, 0, 0, false, false⟩ ++ G1.drop j.toNat)) (fun jv _ => G1.length - (intOf jv).toNat)
            case atStart => exact ⟨0, rfl, Int.le_refl _, by omega, ⟨rfl, rfl, rfl, Nat.le_refl _, fun _ _ => rfl⟩, by simpa using HLR.out⟩
            case round =>
              obtain ⟨j, rfl, j0, j1, hbq, hRq⟩ := hrel
              have HQ := Aside0.mk hbq
              have HX := Aside0.mk hRq
              by_cases hj : j < G1.length
              · have jb : decide (j < (G1.length : Int)) = true := decide_eq_true hj
                have hl5 := R40_len hRq
                obtain ⟨ad5, y5, _, e5, _⟩ := at_I (R_row hRq) j j0 (by rw [← hl5]; exact hj)
                subst e5
                obtain ⟨g5, hg5⟩ := Kd.R_head hRq
                subst hg5
                obtain ⟨y, hy, i0, i1, i2, i3, i4⟩ := at_G40 (R_row hRq) j j0 (by rw [← hl5]; exact hj)
                have JA := Aside0.mk (And.intro j0 (And.intro j1 hj))
                have HL5 := Aside0.mk hl5
                have p2 : (0 ≤ j) = True := eq_true j0
                have p3 : (j < (G1.length : Int)) = True := eq_true hj
                have hmv := MV.out
                clear hbq hRq j0 j1 hj hl5 hy
                go_wp2_with (refine gate_ (.store 40 (.tmp 90) (.tmp 89)) rfl ?_; (refine Kd.R_store QQA.k40 (w0 := _) wc.heap.size rfl rfl 40 (.tmp 90) (.tmp 89) rfl 40 (g := g5) (n := G1.length) (cap := c1) (o' := j.toNat * 5) j 0 (List.replicate j.toNat ⟨mf, 0, 0, false, false⟩ ++ G1.drop j.toNat) (⟨mf, 0, 0, false, false⟩ : It) (.agg #[.int .i64 mf, .int .i64 0, .int .i64 0, .bool false, .bool false]) [.int .i64 mf, .int .i64 0, .int .i64 0, .bool false, .bool false] [.int .i64 y.f0, .int .i64 y.f1, .int .i64 y.f2, .bool y.f3, .bool y.f4] (fun _ => True) (fun _ => False) ?haddr rfl ?hx rfl ?ht ?h1 HX.out JA.out.1 JA.out.2.2 rfl ?hcc (Nat.le_refl 5) ?hM (fun _ h => h.elim) (Below.refl _ _) ?_; (case haddr => first | rfl | simp [Act.eval, Addr.add]); (case hx => first | rfl | simp [Act.eval]); (case ht => kernel_rfl); (case h1 => intro q hq; simp at hq; rcases hq with rfl | rfl | rfl <;> rfl); (case hcc => intro jj uu hj; rcases jj with _ | _ | _ | _ | _ | jj; (cases hj; exact i0); (cases hj; exact i1); (cases hj; exact i2); (cases hj; exact i3); (cases hj; exact i4); (simp at hj)); (case hM => exact QQA.k40_mkM _ _ _ (⟨mf, 0, 0, false, false⟩ : It)); intro w7 hR7 hb7 hg7; have H7 := Aside0.mk hR7; have HQ7 := Aside0.mk (Below.grown (B := wc.heap.size) (a := w9) HQ.out hg7 (Nat.le_of_lt (Nat.lt_of_le_of_lt (R40_base HX.out g5 rfl) (R40_lt HX.out g5 rfl))) (fun k hk => R40_base HX.out k (by cases hk; rfl))); clear hR7 hb7 hg7))
                clear hmv
                have e := JA.out
                have eL := HLN.out
                rw [wrap_id (by omega) (by omega)]
                have en : (j + 1).toNat = j.toNat + 1 := by omega
                refine ⟨⟨j + 1, rfl, by omega, by omega, HQ7.out, ?_⟩, by simp only [intOf]; omega⟩
                rw [en, ← mark_step G1.length _ G1 j.toNat (by omega) rfl]
                exact H7.out
              · have jb : decide (j < (G1.length : Int)) = false := decide_eq_false hj
                have ej : j.toNat = G1.length := by omega
                rw [ej, List.drop_length, List.append_nil] at hRq
                have HF := Aside0.mk hRq
                have HKR := Aside0.mk (show KR wr wc.heap.size A1 G1.length ⟨mf, 0, 0, false, false⟩ from ⟨G1.length, c1, Nat.le_refl _, hRq⟩)
                have HKq := Aside0.mk (HKc.out.far HK.out hbq)
                have HGq := Aside0.mk (HGt.out.belowN hbq hg1c hm1c)
                have HHq := Aside0.mk (HHt.out.belowN hbq hg2c hm2c)
                have HBq := Aside0.mk (HB.out.trans (hbq.mono (Nat.le_trans hBs hszc)))
                have HSq := Aside0.mk (Nat.le_trans (Nat.le_trans hszc hws9) hbq.size)
                have HWq := Aside0.mk (Nat.le_trans hws9 hbq.size)
                have hmv2 := MV2.out
                have hmv3 : wrap64 (u0 + 1) = mf := MV3.out
                clear hRq hbq hj j0 j1 ej HQ HX
                go_wp2_with (at_builtin; refine Kd.R_append kS (w0 := _) Bs rfl (.tmp 91) (.tmp 93) 45 27 (.slice none 0 0) 24 rfl Try.underlying45 info27 rfl (by decide) (by omega) (.slice Aa AS.length ca) AS (⟨A1, G1.length, c1⟩ : Sl) [.slice A1 G1.length c1] (fun _ => True) (fun _ => False) rfl (by simp [Act.eval]) ?aP (fun _ hk => hk.elim) (fun _ _ => trivial) ?aO (Below.refl _ _) ?aS ?aL ?_; (case aP => exact rfl); (case aO => exact HKq.out.ra); (case aS => exact HSq.out); (case aL => have e := HLG.out; omega); intro v9 w10 ho9 hb9 hg9 hat9; obtain ⟨A9, c9, e9⟩ := Kd.R_slice ho9; simp only [List.length_append, List.length_singleton] at e9; subst e9; have K1 := Aside0.mk (Keep.all HKq.out (by have e := HLG.out; omega) (by rw [MM.out]; exact HKR.out.lower hszc) hc1 ho9 hg9 hat9); have X1 := Aside0.mk (R40_rows HF.out HKq.out.ra hg9); have KR1 := Aside0.mk (HKR.out.rows HKq.out.ra hg9); have RA1 := Aside0.mk ho9; have GA := Aside0.mk (gate_rows HGq.out HKq.out.ra hg9 hL1 hL2); have GB := Aside0.mk (gate_rows HHq.out HKq.out.ra hg9 hl2 hl3); have B1 := Aside0.mk (Below.grown (B := w.heap.size) (a := w) HBq.out hg9 HBq.out.size (fun k hk => Nat.le_trans hBs (RS_base HKq.out.ra k hk).1)); have W1 := Aside0.mk (Nat.le_trans HWq.out hg9.size); clear HKq HGq HHq HBq HSq HWq HKR HF ho9 hb9 hg9 hat9)
                go_loopw [12, 13] (fun xv yv wq => ∃ y : Int, yv = .int .i64 y ∧ 0 ≤ y ∧ y ≤ 40 ∧ Below wc.heap.size w10 wq ∧ QQA.k40.R 40 wq wc.heap.size (fun _ => True) xv (List.replicate (G1.length + y.toNat) ⟨mf, 0, 0, false, false⟩) ∧ KR wq wc.heap.size A1 G1.length ⟨mf, 0, 0, false, false⟩ ∧ kS.R 27 wq Bs (fun _ => True) (.slice A9 (AS.length + 1) c9) (AS ++ [⟨A1, G1.length, c1⟩])) (fun _ yv _ => 40 - (intOf yv).toNat)
                case atStart => exact ⟨0, rfl, Int.le_refl _, by omega, ⟨rfl, rfl, rfl, Nat.le_refl _, fun _ _ => rfl⟩, by simpa using X1.out, KR1.out, RA1.out⟩
                case round =>
                  obtain ⟨y, rfl, y0, y1, hby, hXy, hKy, hRy⟩ := hrel
                  have HBY := Aside0.mk hby
                  have HXY := Aside0.mk hXy
                  have HKY := Aside0.mk hKy
                  have HRY := Aside0.mk hRy
                  clear hby hXy hKy hRy
                  by_cases hy : y < 40
                  · have yb : decide (y < (40 : Int)) = true := decide_eq_true hy
                    have YA := Aside0.mk (And.intro y0 hy)
                    clear y0 y1 hy
                    go_wp2_with (at_builtin; (refine app_moved wc.heap.size rfl (.tmp 100) (.tmp 106) rfl u12 (List.replicate (G1.length + y.toNat) (⟨mf, 0, 0, false, false⟩ : It)) (⟨mf, 0, 0, false, false⟩ : It) rfl (by simp [Act.eval]) ?aO ?aS ?aL ?_; (case aO => exact HXY.out); (case aS => exact Nat.le_trans W1.out HBY.out.size); (case aL => have e := HLN.out; have e2 := YA.out; rw [List.length_replicate]; omega); intro v11 w11 ho11 hg11 hm11 hat11; have X2 := Aside0.mk ho11; have K2 := Aside0.mk (kr_step HKY.out (by have e := ho11; rw [← List.replicate_succ'] at e; exact e) (by omega) hg11 hm11); have R2 := Aside0.mk (RS_ints HRY.out HXY.out hg11); have B2 := Aside0.mk (Below.grown (B := wc.heap.size) (a := w10) HBY.out hg11 (Nat.le_trans W1.out HBY.out.size) (fun k hk => R40_base HXY.out k hk)); clear ho11 hg11 hm11 hat11))
                    clear hmv2 hmv3
                    have e := YA.out
                    rw [wrap_id (by omega) (by omega)]
                    have en : (y + 1).toNat = y.toNat + 1 := by omega
                    refine ⟨⟨y + 1, rfl, by omega, by omega, B2.out, ?_, K2.out, R2.out⟩, by simp only [intOf]; omega⟩
                    rw [en, show G1.length + (y.toNat + 1) = (G1.length + y.toNat) + 1 by omega, List.replicate_succ']
                    exact X2.out
                  · have yb : decide (y < (40 : Int)) = false := decide_eq_false hy
                    have e40 : y.toNat = 40 := by omega
                    have hx40 := HXY.out
                    rw [e40] at hx40
                    obtain ⟨Ax, cx, ex, hcx, _⟩ := Kd.R_reads hx40
                    rw [List.length_replicate] at ex hcx
                    subst ex
                    have HKX := Aside0.mk (show KR wr Bs Ax (G1.length + 40) ⟨mf, 0, 0, false, false⟩ from ⟨G1.length + 40, cx, Nat.le_refl _, Kd.R_lower hx40 hszc⟩)
                    have HNC := Aside0.mk hcx
                    have HK2 := Aside0.mk (Keep.far2 HKc.out K1.out HBY.out HRY.out ⟨hc1, by rw [MM.out]; exact HKY.out.lower hszc⟩ (by have e := HLG.out; omega))
                    have GA2 := Aside0.mk (GA.out.belowN HBY.out hg1c hm1c)
                    have GB2 := Aside0.mk (GB.out.belowN HBY.out hg2c hm2c)
                    have BB2 := Aside0.mk (B1.out.trans (HBY.out.mono (Nat.le_trans hBs hszc)))
                    have SS2 := Aside0.mk (Nat.le_trans hszc (Nat.le_trans W1.out HBY.out.size))
                    clear hmv2 hmv3 hx40 hcx y0 y1 hy e40 HXY HKY HRY HBY
                    go_wp2_with (at_builtin; (refine Kd.R_append kS (w0 := _) Bs rfl (.tmp 108) (.tmp 110) 45 27 (.slice none 0 0) 24 rfl Try.underlying45 info27 rfl (by decide) (by omega) (.slice Am MS.length cm) MS (⟨Ax, G1.length + 40, cx⟩ : Sl) [.slice Ax (G1.length + 40) cx] (fun _ => True) (fun _ => False) rfl (by simp [Act.eval]) ?aP (fun _ hk => hk.elim) (fun _ _ => trivial) ?aO (Below.refl _ _) ?aS ?aL ?_; (case aP => exact rfl); (case aO => exact HK2.out.rm); (case aS => exact SS2.out); (case aL => have e := HLG.out; omega); intro v13 w13 ho13 hb13 hg13 hat13; have K3 := Aside0.mk (Keep.more HK2.out (by have e := HLG.out; omega) (by rw [MM.out]; exact HKX.out) HNC.out ho13 hg13 hat13); have GA3 := Aside0.mk (gate_rows GA2.out HK2.out.rm hg13 hL1 hL2); have GB3 := Aside0.mk (gate_rows GB2.out HK2.out.rm hg13 hl2 hl3); have B3 := Aside0.mk (Below.grown (B := w.heap.size) (a := w) BB2.out hg13 BB2.out.size (fun k hk => Nat.le_trans hBs (RS_base HK2.out.rm k hk).1)); have S3 := Aside0.mk (Nat.le_trans SS2.out hg13.size); clear ho13 hb13 hg13 hat13))
                    have e := HLG.out
                    exact keep_step KA.out HL.out B3.out [] (AS ++ [⟨A1, G1.length, c1⟩]) (MS ++ [⟨Ax, G1.length + 40, cx⟩]) (GA3.out.mono (Nat.zero_le _)) (GB3.out.mono (Nat.zero_le _)) K3.out (by simp; omega) (by simp; omega) S3.out
    · have kb : decide (k < (l.length : Int)) = false := decide_eq_false hk
      have HAM := Aside0.mk hAM
      have HN : Aside0 (AS.length ≤ 3600000000000) := ⟨by have := HL.out; omega⟩
      clear hk h0 h1 hCw hgl hAM hAk hsz HG HH
      go_wp2
      go_loopw [14] (fun xv wq => ∃ x : Int, xv = .int .i64 x ∧ 0 ≤ x ∧ x ≤ AS.length ∧ Below wr.heap.size wr wq) (fun xv _ => AS.length - (intOf xv).toNat)
      case atStart => exact ⟨0, rfl, Int.le_refl _, by omega, Below.refl _ _⟩
      case round =>
        obtain ⟨x, rfl, x0, x1, hbx⟩ := hrel
        have HX := Aside0.mk hbx
        by_cases hx : x < AS.length
        · have xb : decide (x < (AS.length : Int)) = true := decide_eq_true hx
          have hKq := HK.out.below hbx
          obtain ⟨ad1, s, hs, e1, c1⟩ := at_S (RS_row hKq.ra) x x0 hx
          subst e1
          have hxm : x < MS.length := by have := HAM.out; omega
          obtain ⟨ad2, t, ht, e2, c2⟩ := at_S (RS_row hKq.rm) x x0 hxm
          subst e2
          have hst := (hKq.km _ s t hs ht).1
          have hst2 := (hKq.km _ s t hs ht).2.1
          have hss2 := (hKq.ka _ s hs).1
          have hbig := ((hKq.km _ s t hs ht).2.2).row.2.1
          have hw40 : wrap64 ((s.n : Int) + 40) = (t.n : Int) := by
            rw [wrap_id (by omega) (by omega)]
            omega
          have XA := Aside0.mk (And.intro x0 (And.intro x1 hx))
          have HS := Aside0.mk (And.intro hs ht)
          have HT := Aside0.mk (And.intro hst hbig)
          have p0 : (0 ≤ x) = True := eq_true x0
          have p1 : (x < (AS.length : Int)) = True := eq_true hx
          have p2 : (x < (MS.length : Int)) = True := eq_true hxm
          have HK14 := Aside0.mk hKq
          clear hbx x0 x1 hx hs ht hst hbig hKq hxm
          go_wp2
          go_loopw [16] (fun yv wq => ∃ y : Int, yv = .int .i64 y ∧ 0 ≤ y ∧ y ≤ t.n ∧ Below wr.heap.size wr wq) (fun yv _ => t.n - (intOf yv).toNat)
          case atStart => exact ⟨0, rfl, Int.le_refl _, by clear hw40; omega, Below.refl _ _⟩
          case round =>
            obtain ⟨y, rfl, y0, y1, hby⟩ := hrel
            have HY := Aside0.mk hby
            have hK2 := HK14.out.below hby
            obtain ⟨ad3, s3, hs3, e3, c3⟩ := at_S (RS_row hK2.ra) x XA.out.1 XA.out.2.2
            cases e3
            cases (Option.some.inj (HS.out.1.symm.trans hs3))
            obtain ⟨ad4, t4, ht4, e4, c4⟩ := at_S (RS_row hK2.rm) x XA.out.1 (by have e := XA.out; have e2 := HAM.out; clear hw40; omega)
            cases e4
            cases (Option.some.inj (HS.out.2.symm.trans ht4))
            by_cases hy : y < t.n
            · have yb : decide (y < (t.n : Int)) = true := decide_eq_true hy
              obtain ⟨m0, hm0⟩ : ∃ v, wrap64 (-1000 - x) = v := ⟨_, rfl⟩
              have hmk : (mrk x.toNat).f0 = m0 := by
                have e := XA.out
                have e2 := HN.out
                rw [← hm0, wrap_id (by clear hm0 hw40; omega) (by clear hm0 hw40; omega)]
                show -1000 - (x.toNat : Int) = -1000 - x
                clear hm0 hw40
                omega
              obtain ⟨adM, eM, cM⟩ := at_KR (hK2.km _ s t HS.out.1 HS.out.2).2.2 y y0 hy
              rw [hmk] at cM
              rw [eM] at c4
              have YA := Aside0.mk (And.intro y0 hy)
              have p3 : (0 ≤ y) = True := eq_true y0
              have p4 : (y < (t.n : Int)) = True := eq_true hy
              by_cases hys : y < s.n
              · have ysb : decide (y < (s.n : Int)) = true := decide_eq_true hys
                obtain ⟨adA, eA, cA⟩ := at_KR (hK2.ka _ s HS.out.1).2 y y0 hys
                rw [hmk] at cA
                rw [eA] at c3
                have p5 : (y < (s.n : Int)) = True := eq_true hys
                clear hby hK2 hs3 ht4 hmk eM eA hy hys y0 y1
                go_wp2
                clear hm0 hw40
                have e := YA.out
                have e2 := HT.out
                rw [wrap_id (by omega) (by omega)]
                exact ⟨⟨y + 1, rfl, by omega, by omega, below_step HY.out (by repeat (first | (with_reducible first | exact Below.refl _ _ | apply below_alloc | apply pw_below_drewN | apply below_drew1) | exact Below.refl _ _))⟩, by simp only [intOf]; omega⟩
              · have ysb : decide (y < (s.n : Int)) = false := decide_eq_false hys
                clear hby hK2 hs3 ht4 hmk eM hy hys y0 y1
                go_wp2
                clear hm0 hw40
                have e := YA.out
                have e2 := HT.out
                rw [wrap_id (by omega) (by omega)]
                exact ⟨⟨y + 1, rfl, by omega, by omega, below_step HY.out (by repeat (first | (with_reducible first | exact Below.refl _ _ | apply below_alloc | apply pw_below_drewN | apply below_drew1) | exact Below.refl _ _))⟩, by simp only [intOf]; omega⟩
            · have yb : decide (y < (t.n : Int)) = false := decide_eq_false hy
              clear hby hK2 hs3 ht4 hy y0 y1
              go_wp2
              clear hw40
              have e := XA.out
              have e2 := HN.out
              rw [wrap_id (by omega) (by omega)]
              exact ⟨⟨x + 1, rfl, by omega, by omega, below_step HX.out (below_step HY.out (by repeat (first | (with_reducible first | exact Below.refl _ _ | apply below_alloc | apply pw_below_drewN | apply below_drew1) | exact Below.refl _ _)))⟩, by simp only [intOf]; omega⟩
        · have xb : decide (x < (AS.length : Int)) = false := decide_eq_false hx
          clear hbx x0 x1 hx
          go_wp2
          go_ret
          exact ⟨rfl, below_step HB.out HX.out⟩
end Go.Proofs.Ytokemjdfcifbbaa.Gt
