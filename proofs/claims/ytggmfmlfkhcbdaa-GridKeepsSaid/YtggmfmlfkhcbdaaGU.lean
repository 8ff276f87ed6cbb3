/- The document's Nearest. -/
import Derived.Test.YtggmfmlfkhcbdaaGT
namespace Go.Proofs.Ytggmfmlfkhcbdaa.Gr
open Go Go.RowKit Go.Maps Go.Proofs.YtggmfmlfkhcbdaaW.PrintWords Go.Proofs.YtggmfmlfkhcbdaaW.PrintLast Go.Proofs.YtggmfmlfkhcbdaaW.PrintMore
set_option linter.unusedVariables false
set_option linter.unusedSimpArgs false

def T_20_5 : Bool × List (List Nat × List Nat) := (true, [([], []), ([0], [0]), ([1], [1]), ([2], [2]), ([], []), ([3, 4], [3, 4]), ([5], [5]), ([6], [6]), ([], []), ([], []), ([7, 8, 9], [7, 8, 9])])
def B_20_5 : List Nat := [0, 1, 3, 7, 0, 31, 63, 127, 0, 0, 1023]
theorem tab_f20_5 : rtab .any (opsOf Try.f20 5) = T_20_5 := by kernel_rfl
theorem bits_f20_5 : waitsOk T_20_5.2 B_20_5 = true := by kernel_rfl
def T_20_13 : Bool × List (List Nat × List Nat) := (true, [([], []), ([], []), ([0, 1], [0, 1]), ([2], [2]), ([3], [3]), ([], []), ([4, 5], [4, 5]), ([], []), ([], []), ([7, 8], [7, 8]), ([9], [9]), ([10], [10]), ([], []), ([11, 12, 6], [11, 12]), ([6, 13], [6, 13])])
def B_20_13 : List Nat := [0, 0, 3, 7, 15, 0, 63, 0, 0, 384, 896, 1920, 0, 8191, 16383]
theorem tab_f20_13 : rtab .any (opsOf Try.f20 13) = T_20_13 := by kernel_rfl
theorem bits_f20_13 : waitsOk T_20_13.2 B_20_13 = true := by kernel_rfl
def slLen : Value → Nat
  | .slice _ n _ => n
  | _ => 0
theorem erase_len {l : List Th} {b : Nat} {t : Th} (h : l[b]? = some t) : (l.eraseIdx b).length + 1 = l.length := by
  have := (cons_erase_perm h).length_eq
  simpa using this

set_option maxHeartbeats 4000000 in
set_option maxRecDepth 10000 in
theorem r_nearest {w : World} {rb B : Nat} {L : List Th} {v : Value} (h : RefAt w rb B L v) (hsr : Srt L) (hwf : ∀ t ∈ L, I64 t.id ∧ I64 t.x ∧ I64 t.y) (hL : L.length ≤ 1000000) {ax ay r N : Int} (hax : I64 ax) (hay : I64 ay) :
    Calls Try.prog 20 #[.pointer (some ⟨rb, 0, none⟩), .agg #[.int .i64 ax, .int .i64 ay], .int .i64 r, .int .i64 N] w fun e w' => ∃ v', e = .returned v' ∧ ki.R 3 w' w.heap.size (fun _ => True) v' ((nearS L ax ay r).take N.toNat) ∧ Below w.heap.size w w' := by
  obtain ⟨A, c, rfl, hc, hC⟩ := ref_read h
  have HR := Aside0.mk h
  have HC := Aside0.mk hC
  have HL := Aside0.mk hL
  have HWF := Aside0.mk hwf
  have HSR := Aside0.mk hsr
  clear h hC hL hwf hsr
  go_enter Try.func20, Try.ntmps20
  go_wp2
  have BX0 := Aside0.mk (heap_alloc_new w (.cells #[.int .i64 ax, .int .i64 ay] 32))
  go_loopw [9, 10] (fun ov iv wq => ∃ (a : Int), iv = .int .i64 a ∧ 0 ≤ a ∧ a ≤ L.length ∧ kT.R 63 wq (w.heap.size + 1) (fun _ => True) ov (inT (L.take a.toNat) ax ay r) ∧ wq.heap[w.heap.size]? = some (.cells #[.int .i64 ax, .int .i64 ay] 32 (0, 0)) ∧ Below w.heap.size w wq) (fun _ iv _ => L.length - (intOf iv).toNat)
  case atStart => exact ⟨0, rfl, Int.le_refl _, by omega, Kd.R_nil _ _ _ _ _, BX0.out, (by repeat (first | (with_reducible first | exact Below.refl _ _ | apply below_alloc | apply pw_below_drewN | apply below_drew1) | exact Below.refl _ _))⟩
  case round =>
    clear BX0
    obtain ⟨a, rfl, h0, h1, ho, hbx, hbw⟩ := hrel
    have HB := Aside0.mk hbw
    have HO := Aside0.mk ho
    have BX := Aside0.mk hbx
    have hr := (HR.out.below hbw).cell
    obtain ⟨q0, q1⟩ := bx_cells2 hbx
    have hCw := Kd.C_below HC.out hbw
    clear hbw ho hbx
    by_cases hk : a < L.length
    · have kb : decide (a < (L.length : Int)) = true := decide_eq_true hk
      obtain ⟨ad, s, hs, e1, d0, d1, d2⟩ := at_Th hCw a h0 hk
      subst e1
      have KA := Aside0.mk (And.intro h0 (And.intro h1 hk))
      have HS := Aside0.mk hs
      have p0 : (0 ≤ a) = True := eq_true h0
      have p1 : (a < (L.length : Int)) = True := eq_true hk
      obtain ⟨_, hsx, hsy⟩ := HWF.out s (List.mem_of_getElem? hs)
      have HN : Aside0 ((inT (L.take a.toNat) ax ay r).length ≤ 3900000000000) := by
        have e := inT_len (L.take a.toNat) ax ay r
        have eL := HL.out
        rw [List.length_take] at e
        exact ⟨by omega⟩
      clear hk hs h0 h1 hCw
      go_wp2
      refine start_ (n := 11) (S := fun w' => w'.cell? ⟨rb, 0, none⟩ = some (.slice (some ad) L.length c) ∧ w'.cell? ⟨(ad.add (a.toNat * 3)).block, (ad.add (a.toNat * 3)).off + 1, none⟩ = some (.int .i64 s.x) ∧ w'.cell? ⟨(ad.add (a.toNat * 3)).block, (ad.add (a.toNat * 3)).off + 2, none⟩ = some (.int .i64 s.y) ∧ w'.cell? ⟨w.heap.size, 0, none⟩ = some (.int .i64 ax) ∧ w'.cell? ⟨w.heap.size, 1, none⟩ = some (.int .i64 ay)) (ds := [10]) #[false, false, false, false, false, false, false, false, false, false, false] (by kernel_rfl) rfl rfl ⟨hr, d1, d2, q0, q1⟩ (fun hHeld => ?_)
      refine with_tabW tab_f20_5 bits_f20_5 (fun HT_ HW_ => ?_)
      refine pure_ (i := 0) (N := some 25) (v := ?_) (a' := ?_) #[true, false, false, false, false, false, false, false, false, false, false] rfl rfl (any_of HT_.out (by kernel_rfl)) (fun _ _ _ h => h) (Or.inl ⟨by rfl, ?_⟩) ?_ ?_
      rotate_left
      · intro w'
        go_simp
        with_reducible rfl
      rotate_left
      · simp only [Act.put, List.setIfInBounds_toArray, List.set_cons_zero, List.set_cons_succ, i64_w, i32_w]
        rfl
      refine pure_ (i := 1) (N := some 26) (v := ?_) (a' := ?_) #[true, true, false, false, false, false, false, false, false, false, false] rfl rfl (any_of HT_.out (by kernel_rfl)) (fun _ _ _ h => h) (Or.inl ⟨by rfl, ?_⟩) ?_ ?_
      rotate_left
      · intro w'
        go_simp
        with_reducible rfl
      rotate_left
      · simp only [Act.put, List.setIfInBounds_toArray, List.set_cons_zero, List.set_cons_succ, i64_w, i32_w]
        rfl
      refine pure_ (i := 2) (N := some 27) (v := ?_) (a' := ?_) #[true, true, true, false, false, false, false, false, false, false, false] rfl rfl (any_of HT_.out (by kernel_rfl)) (fun _ _ _ h => h) (Or.inl ⟨by rfl, ?_⟩) ?_ ?_
      rotate_left
      · intro w'
        go_simp
        with_reducible rfl
      rotate_left
      · simp only [Act.put, List.setIfInBounds_toArray, List.set_cons_zero, List.set_cons_succ, i64_w, i32_w]
        rfl
      refine take_ (i := 3) (N := some 28) (v := ?_) (a' := ?_) #[true, true, true, true, false, false, false, false, false, false, false] rfl rfl (take_ofW HT_.out HW_.out (by kernel_rfl)) (fun _ _ _ h => h) (Or.inl ⟨by rfl, ?_⟩) hHeld ?_ ?_
      rotate_left
      · rintro w' ⟨s1, s2, s3, s4, s5⟩
        go_simp
        with_reducible rfl
      rotate_left
      · simp only [Act.put, List.setIfInBounds_toArray, List.set_cons_zero, List.set_cons_succ, i64_w, i32_w]
        rfl
      refine pure_ (i := 4) (N := some 29) (v := ?_) (a' := ?_) #[true, true, true, true, true, false, false, false, false, false, false] rfl rfl (any_of HT_.out (by kernel_rfl)) (fun _ _ _ h => h) (Or.inl ⟨by rfl, ?_⟩) ?_ ?_
      rotate_left
      · intro w'
        go_simp
        with_reducible rfl
      rotate_left
      · simp only [Act.put, List.setIfInBounds_toArray, List.set_cons_zero, List.set_cons_succ, i64_w, i32_w]
        rfl
      refine pure_ (i := 5) (N := some 30) (v := ?_) (a' := ?_) #[true, true, true, true, true, true, false, false, false, false, false] rfl rfl (any_of HT_.out (by kernel_rfl)) (fun _ _ _ h => h) (Or.inl ⟨by rfl, ?_⟩) ?_ ?_
      rotate_left
      · intro w'
        go_simp
        with_reducible rfl
      rotate_left
      · simp only [Act.put, List.setIfInBounds_toArray, List.set_cons_zero, List.set_cons_succ, i64_w, i32_w]
        rfl
      refine pure_ (i := 6) (N := some 31) (v := ?_) (a' := ?_) #[true, true, true, true, true, true, true, false, false, false, false] rfl rfl (any_of HT_.out (by kernel_rfl)) (fun _ _ _ h => h) (Or.inl ⟨by rfl, ?_⟩) ?_ ?_
      rotate_left
      · intro w'
        go_simp
        with_reducible rfl
      rotate_left
      · simp only [Act.put, List.setIfInBounds_toArray, List.set_cons_zero, List.set_cons_succ, i64_w, i32_w]
        rfl
      refine take_ (i := 7) (N := some 32) (v := ?_) (a' := ?_) #[true, true, true, true, true, true, true, true, false, false, false] rfl rfl (take_ofW HT_.out HW_.out (by kernel_rfl)) (fun _ _ _ h => h) (Or.inl ⟨by rfl, ?_⟩) hHeld ?_ ?_
      rotate_left
      · rintro w' ⟨s1, s2, s3, s4, s5⟩
        go_simp
        with_reducible rfl
      rotate_left
      · simp only [Act.put, List.setIfInBounds_toArray, List.set_cons_zero, List.set_cons_succ, i64_w, i32_w]
        rfl
      refine take_ (i := 8) (N := some 33) (v := ?_) (a' := ?_) #[true, true, true, true, true, true, true, true, true, false, false] rfl rfl (take_ofW HT_.out HW_.out (by kernel_rfl)) (fun _ _ _ h => h) (Or.inl ⟨by rfl, ?_⟩) hHeld ?_ ?_
      rotate_left
      · rintro w' ⟨s1, s2, s3, s4, s5⟩
        go_simp
        with_reducible rfl
      rotate_left
      · simp only [Act.put, List.setIfInBounds_toArray, List.set_cons_zero, List.set_cons_succ, i64_w, i32_w]
        rfl
      refine pure_ (i := 9) (N := some 34) (v := ?_) (a' := ?_) #[true, true, true, true, true, true, true, true, true, true, false] rfl rfl (any_of HT_.out (by kernel_rfl)) (fun _ _ _ h => h) (Or.inl ⟨by rfl, ?_⟩) ?_ ?_
      rotate_left
      · intro w'
        go_simp
        with_reducible rfl
      rotate_left
      · simp only [Act.put, List.setIfInBounds_toArray, List.set_cons_zero, List.set_cons_succ, i64_w, i32_w]
        rfl
      refine last_ (i := 10) (N := some 35) #[true, true, true, true, true, true, true, true, true, true, true] rfl rfl (one_of HT_.out (by kernel_rfl)) (by decide) (fun K hK => ?_)
      refine goes_ Try.func33 (by kernel_rfl) rfl #[.agg #[.int .i64 s.x, .int .i64 s.y], .agg #[.int .i64 ax, .int .i64 ay], .int .i64 r] (by rfl) rfl rfl (by (try simp only [List.map_toArray, List.map_cons, List.map_nil]); first | done | rfl) ?_
      with_reducible refine (rwithin_calls s.x s.y ax ay r hsx hsy hax hay _).mono ?_
      rintro e w5 ⟨rfl, hb5⟩
      refine ⟨_, rfl, ?_⟩
      refine hK.out _ _ ?_
      clear hK K
      refine norm_ (a' := ?_) ?_ ?_
      rotate_left
      · show Act.put _ (some 35) _ = _
        simp only [Act.put, List.setIfInBounds_toArray, List.set_cons_zero, List.set_cons_succ, i64_w, i32_w]
        rfl
      refine done_ (done_of HT_.out (by kernel_rfl)) ?_
      clear hHeld HT_ HW_ hr d0 d1 d2 q0 q1
      have hb5' : Below wr.heap.size wr w5 := below_step (by repeat (first | (with_reducible first | exact Below.refl _ _ | apply below_alloc | apply pw_below_drewN | apply below_drew1) | exact Below.refl _ _)) hb5
      have n1_ := Aside0.mk (Kd.R_below HO.out hb5')
      have n2_ := Aside0.mk ((hb5'.block _ (blk_lt BX.out)).trans BX.out)
      have n3_ := Aside0.mk (below_step HB.out hb5')
      clear HO BX HB hb5 hb5'
      have HO := n1_
      have BX := n2_
      have HB := n3_
      clear n1_ n2_ n3_
      obtain ⟨bw, hbw⟩ : ∃ bw, wi s.x s.y ax ay r = bw := ⟨_, rfl⟩
      rw [hbw]
      have HW := Aside0.mk hbw
      clear hbw
      cases bw
      · go_wp2
        have e := KA.out; have eL := HL.out; rw [wrap_id (x := a + 1) (by unfold I64; omega)]; have en : (a + 1).toNat = a.toNat + 1 := by omega
        refine ⟨⟨a + 1, rfl, by omega, by omega, ?_, BX.out, (by repeat (first | (with_reducible first | exact HB.out | apply below_alloc | apply pw_below_drewN | apply below_drew1) | exact HB.out))⟩, by simp only [intOf]; omega⟩
        rw [en, inT_take HS.out, HW.out, if_neg Bool.false_ne_true]
        exact HO.out
      · have hr := (HR.out.below HB.out).cell
        obtain ⟨ad9, s9, hs9, e9, f0, f1, f2⟩ := at_Th (Kd.C_below HC.out HB.out) a KA.out.1 KA.out.2.2
        cases e9
        cases (Option.some.inj (HS.out.symm.trans hs9))
        clear hs9
        have HOB := Aside0.mk (Kd.R_base HO.out)
        go_wp2_with (at_builtin; refine Kd.R_append kT (w0 := _) (w.heap.size + 1) rfl (.tmp 36) (.tmp 44) 56 63 (.agg #[(.int .i64 0), (.int .i64 0), (.int .i64 0)]) 24 rfl Try.underlying56 info63 rfl (by decide) (by omega) u9 (inT (L.take a.toNat) ax ay r) (s) [.int .i64 s.id, .int .i64 s.x, .int .i64 s.y] (fun _ => True) (fun _ => False) rfl (by simp [Act.eval]) ?aP (fun _ hk => hk.elim) (fun _ _ => trivial) ?aO (Below.refl _ _) ?aS ?aL ?_; (case aP => exact kT_mkM _ _ _ (s)); (case aO => exact (by (with_reducible repeat (first | apply Kd.R_alloc | apply Kd.R_drewN | apply Kd.R_drew)); exact HO.out)); (case aS => exact Nat.le_trans (bx_lt BX.out) (below_size (by repeat (first | (with_reducible first | exact Below.refl _ _ | apply below_alloc | apply pw_below_drewN | apply below_drew1) | exact Below.refl _ _)))); (case aL => have e := HN.out; (try simp only [List.length_append, List.length_singleton]); omega); intro v9 w9 ho9 hb9 hg9 hat9; have n_ := Aside0.mk (Below.grown (B := w.heap.size) (a := w) (by repeat (first | (with_reducible first | exact HB.out | apply below_alloc | apply pw_below_drewN | apply below_drew1) | exact HB.out)) hg9 (below_size (by repeat (first | (with_reducible first | exact HB.out | apply below_alloc | apply pw_below_drewN | apply below_drew1) | exact HB.out))) (fun k hk => by have := HOB.out k hk; omega)); have n2_ := Aside0.mk ho9; have n3_ := Aside0.mk (bx_grown BX.out (by repeat (first | (with_reducible first | exact Below.refl _ _ | apply below_alloc | apply pw_below_drewN | apply below_drew1) | exact Below.refl _ _)) hg9 HOB.out); clear BX; have BX := n3_; clear n3_; clear HB HO ho9 hb9 hg9 hat9 HOB; have HB := n_; have HO := n2_; have HOB := Aside0.mk (Kd.R_base HO.out); clear n_ n2_; skip)
        have e := KA.out; have eL := HL.out; rw [wrap_id (x := a + 1) (by unfold I64; omega)]; have en : (a + 1).toNat = a.toNat + 1 := by omega
        refine ⟨⟨a + 1, rfl, by omega, by omega, ?_, BX.out, (by repeat (first | (with_reducible first | exact HB.out | apply below_alloc | apply pw_below_drewN | apply below_drew1) | exact HB.out))⟩, by simp only [intOf]; omega⟩
        rw [en, inT_take HS.out, HW.out, if_pos rfl]
        exact HO.out
    · have kb : decide (a < (L.length : Int)) = false := decide_eq_false hk
      have ee : L.take a.toNat = L := List.take_of_length_le (by omega)
      rw [ee] at HO
      clear hk h0 h1 hCw ee q0 q1
      go_wp2
      go_loopw [9, 11] (fun lv ov wq => ∃ (left : List Th) (out : List Int), kT.R 63 wq (w.heap.size + 1) (fun _ => True) lv left ∧ ki.R 3 wq (w.heap.size + 1) (fun _ => True) ov out ∧ wq.heap[w.heap.size]? = some (.cells #[.int .i64 ax, .int .i64 ay] 32 (0, 0)) ∧ Below w.heap.size w wq ∧ SelI L ax ay r N out left) (fun lv _ _ => slLen lv)
      case atStart => exact ⟨inT L ax ay r, [], HO.out, Kd.R_nil _ _ _ _ _, BX.out, HB.out, sel_start L ax ay r N⟩
      case round =>
        clear HO BX HB
        obtain ⟨left, out, hl, ho, hbx, hbw, hsel⟩ := hrel
        obtain ⟨Al, cl, rfl, hcl, hCl⟩ := Kd.R_reads hl
        obtain ⟨Ao, co, rfl⟩ := Kd.R_slice ho
        have HB := Aside0.mk hbw
        have HO := Aside0.mk ho
        have HLf := Aside0.mk hl
        have HCl := Aside0.mk hCl
        have BX := Aside0.mk hbx
        have HSEL := Aside0.mk hsel
        have HLEN : Aside0 (left.length ≤ 1000000 ∧ out.length ≤ 1000000) := ⟨by have e := sel_len hsel; have e2 := hsel.1.length_le; have e3 := HL.out; omega⟩
        clear hl ho hbx hbw hsel hCl
        by_cases hle : 0 < left.length
        · have lb : decide ((left.length : Int) > 0) = true := decide_eq_true (by omega)
          have lb2 : decide (0 < left.length) = true := decide_eq_true hle
          by_cases hno : (out.length : Int) < N
          · have nb : decide ((out.length : Int) < N) = true := decide_eq_true hno
            have HNO := Aside0.mk hno
            have HLE := Aside0.mk hle
            clear hno hle
            rename World => wB
            go_wp2
            go_loopw [12, 13] (fun bv iv wq => ∃ (b a : Int), bv = .int .i64 b ∧ iv = .int .i64 a ∧ 0 ≤ b ∧ 1 ≤ a ∧ a ≤ left.length ∧ BestI left ax ay a.toNat b.toNat ∧ Below wB.heap.size wB wq) (fun _ iv _ => left.length - (intOf iv).toNat)
            case atStart => exact ⟨0, 1, rfl, rfl, Int.le_refl _, Int.le_refl _, by have := HLE.out; omega, best_start left ax ay, (by repeat (first | (with_reducible first | exact Below.refl _ _ | apply below_alloc | apply pw_below_drewN | apply below_drew1) | exact Below.refl _ _))⟩
            case round =>
              obtain ⟨b, a, rfl, rfl, hb0, ha1, h1, hbest, hbw⟩ := hrel
              have hCw := Kd.C_below HCl.out hbw
              have HBB := Aside0.mk hbw
              have HBE := Aside0.mk hbest
              have HB0 := Aside0.mk hb0
              have hbl : b < left.length := by have := hbest.1; omega
              obtain ⟨ad, tb, htb, e1, t0, t1, t2⟩ := at_Th hCw b hb0 hbl
              subst e1
              have HTB := Aside0.mk htb
              have HBL := Aside0.mk hbl
              have p2 : (0 ≤ b) = True := eq_true hb0
              have p3 : (b < (left.length : Int)) = True := eq_true hbl
              by_cases hk : a < left.length
              · have kb : decide (a < (left.length : Int)) = true := decide_eq_true hk
                obtain ⟨ad9, s, hs, e9, d0, d1, d2⟩ := at_Th hCw a (by omega) hk
                cases e9
                have KA := Aside0.mk (And.intro ha1 (And.intro h1 hk))
                have HS := Aside0.mk hs
                have p0 : (0 ≤ a) = True := eq_true (by omega)
                have p1 : (a < (left.length : Int)) = True := eq_true hk
                obtain ⟨_, hsx, hsy⟩ := HWF.out s (HSEL.out.1.subset (List.mem_of_getElem? hs))
                obtain ⟨_, htx, hty⟩ := HWF.out tb (HSEL.out.1.subset (List.mem_of_getElem? htb))
                obtain ⟨q0, q1⟩ := bx_cells2 ((hbw.block _ (blk_lt BX.out)).trans BX.out)
                have hS : ∀ w', Below wr.heap.size wr w' → w'.cell? ⟨(ad.add (a.toNat * 3)).block, (ad.add (a.toNat * 3)).off + 1, none⟩ = some (.int .i64 s.x) ∧ w'.cell? ⟨(ad.add (a.toNat * 3)).block, (ad.add (a.toNat * 3)).off + 2, none⟩ = some (.int .i64 s.y) ∧ w'.cell? ⟨(ad.add (b.toNat * 3)).block, (ad.add (b.toNat * 3)).off + 1, none⟩ = some (.int .i64 tb.x) ∧ w'.cell? ⟨(ad.add (b.toNat * 3)).block, (ad.add (b.toNat * 3)).off + 2, none⟩ = some (.int .i64 tb.y) ∧ w'.cell? ⟨w.heap.size, 0, none⟩ = some (.int .i64 ax) ∧ w'.cell? ⟨w.heap.size, 1, none⟩ = some (.int .i64 ay) :=
                  fun w' hb => ⟨below_cell hb d1, below_cell hb d2, below_cell hb t1, below_cell hb t2, below_cell hb q0, below_cell hb q1⟩
                have HS2 := Aside0.mk hS
                have HLB := Aside0.mk (Below.refl wr.heap.size wr)
                clear hk hs h1 hCw hbw hbest htb hb0 hbl ha1 hS d0 d1 d2 t0 t1 t2 q0 q1
                go_wp2
                refine start_ (n := 15) (S := fun w' => w'.cell? ⟨(ad.add (a.toNat * 3)).block, (ad.add (a.toNat * 3)).off + 1, none⟩ = some (.int .i64 s.x) ∧ w'.cell? ⟨(ad.add (a.toNat * 3)).block, (ad.add (a.toNat * 3)).off + 2, none⟩ = some (.int .i64 s.y) ∧ w'.cell? ⟨(ad.add (b.toNat * 3)).block, (ad.add (b.toNat * 3)).off + 1, none⟩ = some (.int .i64 tb.x) ∧ w'.cell? ⟨(ad.add (b.toNat * 3)).block, (ad.add (b.toNat * 3)).off + 2, none⟩ = some (.int .i64 tb.y) ∧ w'.cell? ⟨w.heap.size, 0, none⟩ = some (.int .i64 ax) ∧ w'.cell? ⟨w.heap.size, 1, none⟩ = some (.int .i64 ay)) (ds := []) #[false, false, false, false, false, false, false, false, false, false, false, false, false, false, false] (by kernel_rfl) rfl rfl (HS2.out _ (by repeat (first | (with_reducible first | exact HLB.out | apply below_alloc | apply pw_below_drewN | apply below_drew1) | exact HLB.out))) (fun hHeld => ?_)
                refine with_tabW tab_f20_13 bits_f20_13 (fun HT_ HW_ => ?_)
                refine pure_ (i := 0) (N := some 61) (v := ?_) (a' := ?_) #[true, false, false, false, false, false, false, false, false, false, false, false, false, false, false] rfl rfl (any_of HT_.out (by kernel_rfl)) (fun _ _ _ h => h) (Or.inl ⟨by rfl, ?_⟩) ?_ ?_
                rotate_left
                · intro w'
                  go_simp
                  with_reducible rfl
                rotate_left
                · simp only [Act.put, List.setIfInBounds_toArray, List.set_cons_zero, List.set_cons_succ, i64_w, i32_w]
                  rfl
                refine pure_ (i := 1) (N := some 62) (v := ?_) (a' := ?_) #[true, true, false, false, false, false, false, false, false, false, false, false, false, false, false] rfl rfl (any_of HT_.out (by kernel_rfl)) (fun _ _ _ h => h) (Or.inl ⟨by rfl, ?_⟩) ?_ ?_
                rotate_left
                · intro w'
                  go_simp
                  with_reducible rfl
                rotate_left
                · simp only [Act.put, List.setIfInBounds_toArray, List.set_cons_zero, List.set_cons_succ, i64_w, i32_w]
                  rfl
                refine pure_ (i := 2) (N := some 63) (v := ?_) (a' := ?_) #[true, true, true, false, false, false, false, false, false, false, false, false, false, false, false] rfl rfl (any_of HT_.out (by kernel_rfl)) (fun _ _ _ h => h) (Or.inl ⟨by rfl, ?_⟩) ?_ ?_
                rotate_left
                · intro w'
                  go_simp
                  with_reducible rfl
                rotate_left
                · simp only [Act.put, List.setIfInBounds_toArray, List.set_cons_zero, List.set_cons_succ, i64_w, i32_w]
                  rfl
                refine pure_ (i := 3) (N := some 64) (v := ?_) (a' := ?_) #[true, true, true, true, false, false, false, false, false, false, false, false, false, false, false] rfl rfl (any_of HT_.out (by kernel_rfl)) (fun _ _ _ h => h) (Or.inl ⟨by rfl, ?_⟩) ?_ ?_
                rotate_left
                · intro w'
                  go_simp
                  with_reducible rfl
                rotate_left
                · simp only [Act.put, List.setIfInBounds_toArray, List.set_cons_zero, List.set_cons_succ, i64_w, i32_w]
                  rfl
                refine take_ (i := 4) (N := some 65) (v := ?_) (a' := ?_) #[true, true, true, true, true, false, false, false, false, false, false, false, false, false, false] rfl rfl (take_ofW HT_.out HW_.out (by kernel_rfl)) (fun _ _ _ h => h) (Or.inl ⟨by rfl, ?_⟩) hHeld ?_ ?_
                rotate_left
                · rintro w' ⟨s1, s2, s3, s4, s5, s6⟩
                  go_simp
                  with_reducible rfl
                rotate_left
                · simp only [Act.put, List.setIfInBounds_toArray, List.set_cons_zero, List.set_cons_succ, i64_w, i32_w]
                  rfl
                refine take_ (i := 5) (N := some 66) (v := ?_) (a' := ?_) #[true, true, true, true, true, true, false, false, false, false, false, false, false, false, false] rfl rfl (take_ofW HT_.out HW_.out (by kernel_rfl)) (fun _ _ _ h => h) (Or.inl ⟨by rfl, ?_⟩) hHeld ?_ ?_
                rotate_left
                · rintro w' ⟨s1, s2, s3, s4, s5, s6⟩
                  go_simp
                  with_reducible rfl
                rotate_left
                · simp only [Act.put, List.setIfInBounds_toArray, List.set_cons_zero, List.set_cons_succ, i64_w, i32_w]
                  rfl
                refine pure_ (i := 7) (N := some 68) (v := ?_) (a' := ?_) #[true, true, true, true, true, true, false, true, false, false, false, false, false, false, false] rfl rfl (any_of HT_.out (by kernel_rfl)) (fun _ _ _ h => h) (Or.inl ⟨by rfl, ?_⟩) ?_ ?_
                rotate_left
                · intro w'
                  go_simp
                  with_reducible rfl
                rotate_left
                · simp only [Act.put, List.setIfInBounds_toArray, List.set_cons_zero, List.set_cons_succ, i64_w, i32_w]
                  rfl
                refine pure_ (i := 8) (N := some 69) (v := ?_) (a' := ?_) #[true, true, true, true, true, true, false, true, true, false, false, false, false, false, false] rfl rfl (any_of HT_.out (by kernel_rfl)) (fun _ _ _ h => h) (Or.inl ⟨by rfl, ?_⟩) ?_ ?_
                rotate_left
                · intro w'
                  go_simp
                  with_reducible rfl
                rotate_left
                · simp only [Act.put, List.setIfInBounds_toArray, List.set_cons_zero, List.set_cons_succ, i64_w, i32_w]
                  rfl
                refine pure_ (i := 9) (N := some 70) (v := ?_) (a' := ?_) #[true, true, true, true, true, true, false, true, true, true, false, false, false, false, false] rfl rfl (any_of HT_.out (by kernel_rfl)) (fun _ _ _ h => h) (Or.inl ⟨by rfl, ?_⟩) ?_ ?_
                rotate_left
                · intro w'
                  go_simp
                  with_reducible rfl
                rotate_left
                · simp only [Act.put, List.setIfInBounds_toArray, List.set_cons_zero, List.set_cons_succ, i64_w, i32_w]
                  rfl
                refine pure_ (i := 10) (N := some 71) (v := ?_) (a' := ?_) #[true, true, true, true, true, true, false, true, true, true, true, false, false, false, false] rfl rfl (any_of HT_.out (by kernel_rfl)) (fun _ _ _ h => h) (Or.inl ⟨by rfl, ?_⟩) ?_ ?_
                rotate_left
                · intro w'
                  go_simp
                  with_reducible rfl
                rotate_left
                · simp only [Act.put, List.setIfInBounds_toArray, List.set_cons_zero, List.set_cons_succ, i64_w, i32_w]
                  rfl
                refine take_ (i := 11) (N := some 72) (v := ?_) (a' := ?_) #[true, true, true, true, true, true, false, true, true, true, true, true, false, false, false] rfl rfl (take_ofW HT_.out HW_.out (by kernel_rfl)) (fun _ _ _ h => h) (Or.inl ⟨by rfl, ?_⟩) hHeld ?_ ?_
                rotate_left
                · rintro w' ⟨s1, s2, s3, s4, s5, s6⟩
                  go_simp
                  with_reducible rfl
                rotate_left
                · simp only [Act.put, List.setIfInBounds_toArray, List.set_cons_zero, List.set_cons_succ, i64_w, i32_w]
                  rfl
                refine take_ (i := 12) (N := some 73) (v := ?_) (a' := ?_) #[true, true, true, true, true, true, false, true, true, true, true, true, true, false, false] rfl rfl (take_ofW HT_.out HW_.out (by kernel_rfl)) (fun _ _ _ h => h) (Or.inl ⟨by rfl, ?_⟩) hHeld ?_ ?_
                rotate_left
                · rintro w' ⟨s1, s2, s3, s4, s5, s6⟩
                  go_simp
                  with_reducible rfl
                rotate_left
                · simp only [Act.put, List.setIfInBounds_toArray, List.set_cons_zero, List.set_cons_succ, i64_w, i32_w]
                  rfl
                refine one_ (i := 6) (N := some 67) #[true, true, true, true, true, true, true, true, true, true, true, true, true, false, false] rfl rfl (one_of HT_.out (by kernel_rfl)) (by decide) (fun K hK => ?_)
                refine goes_ Try.func37 (by kernel_rfl) rfl #[.agg #[.int .i64 s.x, .int .i64 s.y], .agg #[.int .i64 ax, .int .i64 ay]] (by rfl) rfl rfl (by (try simp only [List.map_toArray, List.map_cons, List.map_nil]); first | done | rfl) ?_
                with_reducible refine (rdist_calls s.x s.y ax ay hsx hsy hax hay _).mono ?_
                rintro e w5 ⟨rfl, hb5⟩
                refine ⟨_, rfl, ?_⟩
                have n_ := Aside0.mk (below_step (by repeat (first | (with_reducible first | exact HLB.out | apply below_alloc | apply pw_below_drewN | apply below_drew1) | exact HLB.out)) hb5)
                clear HLB hb5
                have HLB := n_
                clear n_
                refine hK.out _ _ (HS2.out _ (by repeat (first | (with_reducible first | exact HLB.out | apply below_alloc | apply pw_below_drewN | apply below_drew1) | exact HLB.out))) (fun hHeld => ?_)
                clear hK K
                refine norm_ (a' := ?_) ?_ ?_
                rotate_left
                · show Act.put _ (some 67) _ = _
                  simp only [Act.put, List.setIfInBounds_toArray, List.set_cons_zero, List.set_cons_succ, i64_w, i32_w]
                  rfl
                refine one_ (i := 13) (N := some 74) #[true, true, true, true, true, true, true, true, true, true, true, true, true, true, false] rfl rfl (one_of HT_.out (by kernel_rfl)) (by decide) (fun K hK => ?_)
                refine goes_ Try.func37 (by kernel_rfl) rfl #[.agg #[.int .i64 tb.x, .int .i64 tb.y], .agg #[.int .i64 ax, .int .i64 ay]] (by rfl) rfl rfl (by (try simp only [List.map_toArray, List.map_cons, List.map_nil]); first | done | rfl) ?_
                with_reducible refine (rdist_calls tb.x tb.y ax ay htx hty hax hay _).mono ?_
                rintro e w6 ⟨rfl, hb5⟩
                refine ⟨_, rfl, ?_⟩
                have n_ := Aside0.mk (below_step (by repeat (first | (with_reducible first | exact HLB.out | apply below_alloc | apply pw_below_drewN | apply below_drew1) | exact HLB.out)) hb5)
                clear HLB hb5
                have HLB := n_
                clear n_
                refine hK.out _ _ (HS2.out _ (by repeat (first | (with_reducible first | exact HLB.out | apply below_alloc | apply pw_below_drewN | apply below_drew1) | exact HLB.out))) (fun hHeld => ?_)
                clear hK K
                refine norm_ (a' := ?_) ?_ ?_
                rotate_left
                · show Act.put _ (some 74) _ = _
                  simp only [Act.put, List.setIfInBounds_toArray, List.set_cons_zero, List.set_cons_succ, i64_w, i32_w]
                  rfl
                refine pure_ (i := 14) (N := some 75) (v := ?_) (a' := ?_) #[true, true, true, true, true, true, true, true, true, true, true, true, true, true, true] rfl rfl (any_of HT_.out (by kernel_rfl)) (fun _ _ _ h => h) (Or.inl ⟨by rfl, ?_⟩) ?_ ?_
                rotate_left
                · intro w'
                  go_simp
                  with_reducible rfl
                rotate_left
                · simp only [Act.put, List.setIfInBounds_toArray, List.set_cons_zero, List.set_cons_succ, i64_w, i32_w]
                  rfl
                refine done_ (done_of HT_.out (by kernel_rfl)) ?_
                clear hHeld HT_ HW_ HS2
                have hbw2 : Below wB.heap.size wB w6 := below_step HBB.out HLB.out
                have HBW2 := Aside0.mk hbw2
                clear hbw2 HBB HLB
                have NX : ∀ (b2 : Int), 0 ≤ b2 → BestI left ax ay (a.toNat + 1) b2.toNat → ∀ w7, Below wB.heap.size wB w7 → (∃ (b a_1 : Int), Value.int IntKind.i64 b2 = Value.int IntKind.i64 b ∧ Value.int IntKind.i64 (wrap64 (a + 1)) = Value.int IntKind.i64 a_1 ∧ 0 ≤ b ∧ 1 ≤ a_1 ∧ a_1 ≤ left.length ∧ BestI left ax ay a_1.toNat b.toNat ∧ Below wB.heap.size wB w7) ∧ left.length - (intOf (Value.int IntKind.i64 (wrap64 (a + 1)))).toNat < left.length - (intOf (Value.int IntKind.i64 a)).toNat := by
                  intro b2 hb2 hB2 w7 hw7
                  have e := KA.out
                  have eL := HLEN.out
                  rw [wrap_id (x := a + 1) (by unfold I64; omega)]
                  have en : (a + 1).toNat = a.toNat + 1 := by omega
                  exact ⟨⟨b2, a + 1, rfl, rfl, hb2, by omega, by omega, by rw [en]; exact hB2, hw7⟩, by simp only [intOf]; omega⟩
                have NX := Aside0.mk NX
                by_cases hd : dd s.x s.y ax ay < dd tb.x tb.y ax ay
                · have db : decide (dd s.x s.y ax ay < dd tb.x tb.y ax ay) = true := decide_eq_true hd
                  have HD := Aside0.mk hd
                  clear hd
                  rw [db]
                  go_wp2
                  exact NX.out a (by have := KA.out; omega) (best_new HBE.out HS.out HTB.out HD.out) _ (below_step HBW2.out (by repeat (first | (with_reducible first | exact Below.refl _ _ | apply below_alloc | apply pw_below_drewN | apply below_drew1) | exact Below.refl _ _)))
                · have db : decide (dd s.x s.y ax ay < dd tb.x tb.y ax ay) = false := decide_eq_false hd
                  have HD := Aside0.mk hd
                  clear hd
                  rw [db]
                  go_wp2
                  exact NX.out b HB0.out (best_keep HBE.out HS.out HTB.out HD.out) _ (below_step HBW2.out (by repeat (first | (with_reducible first | exact Below.refl _ _ | apply below_alloc | apply pw_below_drewN | apply below_drew1) | exact Below.refl _ _)))
              · have kb : decide (a < (left.length : Int)) = false := decide_eq_false hk
                have ea : a.toNat = left.length := by omega
                rw [ea] at HBE
                have HO1 := Aside0.mk (Kd.R_below HO.out hbw)
                have HL1 := Aside0.mk (Kd.R_below HLf.out hbw)
                have BX1 := Aside0.mk ((hbw.block _ (blk_lt BX.out)).trans BX.out)
                have HB1 := Aside0.mk (below_step HB.out hbw)
                clear hk h1 hCw hbw hbest htb hb0 hbl ha1 t1 t2 HBB HO HLf BX HB HCl ea
                go_wp2_with (first | (at_builtin; refine wpList_app (w.heap.size + 1) rfl _ _ rfl (.slice Ao out.length co) out [tb.id] (some ⟨wr.heap.size, 0, none⟩) 1 1 (fun _ => True) rfl rfl (Kd.R_alloc HO1.out _) (one_C (new_cell wr #[.int .i64 tb.id] 3 rfl)) (fun _ _ => trivial) (by have := blk_lt BX1.out; have := HB1.out.size; simp; omega) (by have := HLEN.out; simp; omega) ?_; intro v1 w6 hR6 hg6 hat6; have HR6 := Aside0.mk hR6; have HG6 := Aside0.mk hg6; clear hR6 hg6 hat6))
                have hbB := blk_lt BX1.out
                have BX6 := Aside0.mk ((HG6.out.block _ (by simp; omega) (fun e => by have := Kd.R_base HO1.out _ e.symm; omega)).trans ((heap_alloc_old _ _ (blk_lt BX1.out)).trans BX1.out))
                have HB6 := Aside0.mk (Below.grown (B := w.heap.size) (a := w) (below_step HB1.out (by repeat (first | (with_reducible first | exact Below.refl _ _ | apply below_alloc | apply pw_below_drewN | apply below_drew1) | exact Below.refl _ _))) HG6.out (by simp; omega) (fun k hk => by have := Kd.R_base HO1.out k hk; omega))
                have HL6 := Aside0.mk (R_other rfl (Kd.R_alloc HL1.out _) (Kd.R_alloc HO1.out (.cells #[.int .i64 tb.id] 3)) (by decide) HG6.out)
                clear hbB HG6 HO1 HL1 BX1 HB1 t0
                go_loopw [14, 15] (fun rv iv wq => ∃ (a : Int), iv = .int .i64 a ∧ 0 ≤ a ∧ a ≤ left.length ∧ kT.R 63 wq w6.heap.size (fun _ => True) rv (restI left b.toNat a.toNat) ∧ Below w6.heap.size w6 wq) (fun _ iv _ => left.length - (intOf iv).toNat)
                case atStart => exact ⟨0, rfl, Int.le_refl _, by omega, by rw [show restI left b.toNat (Int.toNat 0) = [] by simp [restI]]; exact Kd.R_nil _ _ _ _ _, (by repeat (first | (with_reducible first | exact Below.refl _ _ | apply below_alloc | apply pw_below_drewN | apply below_drew1) | exact Below.refl _ _))⟩
                case round =>
                  obtain ⟨a, rfl, h0, h1, ho, hbw⟩ := hrel
                  have HB := Aside0.mk hbw
                  have HO := Aside0.mk ho
                  have HOB := Aside0.mk (Kd.R_base ho)
                  obtain ⟨_, _, hCw⟩ := Kd.R_reads' (Kd.R_below HL6.out hbw)
                  have HN : Aside0 ((restI left b.toNat a.toNat).length ≤ 3900000000000) := ⟨by have e := rest_len left b.toNat a.toNat; have e2 := HLEN.out; omega⟩
                  clear ho hbw
                  by_cases hk : a < left.length
                  · have kb : decide (a < (left.length : Int)) = true := decide_eq_true hk
                    obtain ⟨ad9, s, hs, e9, d0, d1, d2⟩ := at_Th hCw a h0 hk
                    cases e9
                    have KA := Aside0.mk (And.intro h0 (And.intro h1 hk))
                    have HS := Aside0.mk hs
                    have p0 : (0 ≤ a) = True := eq_true h0
                    have p1 : (a < (left.length : Int)) = True := eq_true hk
                    clear hk hs h0 h1 hCw
                    by_cases hab : a = b
                    · have ab : (a != b) = false := bne_eq_false_iff_eq.2 hab
                      have HAB := Aside0.mk hab
                      clear hab
                      go_wp2
                      have e := KA.out
                      have eL := HLEN.out
                      rw [wrap_id (x := a + 1) (by unfold I64; omega)]
                      have en : (a + 1).toNat = a.toNat + 1 := by omega
                      refine ⟨⟨a + 1, rfl, by omega, by omega, ?_, (by repeat (first | (with_reducible first | exact HB.out | apply below_alloc | apply pw_below_drewN | apply below_drew1) | exact HB.out))⟩, by simp only [intOf]; omega⟩
                      have ho := HO.out
                      rw [en, ← HAB.out, rest_same HS.out]
                      rw [← HAB.out] at ho
                      exact ho
                    · have ab : (a != b) = true := bne_iff_ne.2 hab
                      have HAB := Aside0.mk hab
                      clear hab
                      go_wp2_with (at_builtin; refine Kd.R_append kT (w0 := _) (w6.heap.size) rfl (.tmp 94) (.tmp 99) 56 63 (.agg #[(.int .i64 0), (.int .i64 0), (.int .i64 0)]) 24 rfl Try.underlying56 info63 rfl (by decide) (by omega) u14 (restI left b.toNat a.toNat) (s) [.int .i64 s.id, .int .i64 s.x, .int .i64 s.y] (fun _ => True) (fun _ => False) rfl (by simp [Act.eval]) ?aP (fun _ hk => hk.elim) (fun _ _ => trivial) ?aO (Below.refl _ _) ?aS ?aL ?_; (case aP => exact kT_mkM _ _ _ (s)); (case aO => exact (by (with_reducible repeat (first | apply Kd.R_alloc | apply Kd.R_drewN | apply Kd.R_drew)); exact HO.out)); (case aS => exact below_size (by repeat (first | (with_reducible first | exact HB.out | apply below_alloc | apply pw_below_drewN | apply below_drew1) | exact HB.out))); (case aL => have e := HN.out; (try simp only [List.length_append, List.length_singleton]); omega); intro v9 w9 ho9 hb9 hg9 hat9; have n_ := Aside0.mk (Below.grown (B := w6.heap.size) (a := w6) (by repeat (first | (with_reducible first | exact HB.out | apply below_alloc | apply pw_below_drewN | apply below_drew1) | exact HB.out)) hg9 (below_size (by repeat (first | (with_reducible first | exact HB.out | apply below_alloc | apply pw_below_drewN | apply below_drew1) | exact HB.out))) (fun k hk => by have := HOB.out k hk; omega)); have n2_ := Aside0.mk ho9; skip; clear HB HO ho9 hb9 hg9 hat9 HOB; have HB := n_; have HO := n2_; have HOB := Aside0.mk (Kd.R_base HO.out); clear n_ n2_; skip)
                      have e := KA.out
                      have eL := HLEN.out
                      have eb := HB0.out
                      rw [wrap_id (x := a + 1) (by unfold I64; omega)]
                      have en : (a + 1).toNat = a.toNat + 1 := by omega
                      refine ⟨⟨a + 1, rfl, by omega, by omega, ?_, (by repeat (first | (with_reducible first | exact HB.out | apply below_alloc | apply pw_below_drewN | apply below_drew1) | exact HB.out))⟩, by simp only [intOf]; omega⟩
                      rw [en, rest_other HS.out (by have := HAB.out; omega)]
                      exact HO.out
                  · have kb : decide (a < (left.length : Int)) = false := decide_eq_false hk
                    have er := rest_end (left := left) (b := b.toNat) (i := a.toNat) (by omega)
                    rw [er] at HO
                    clear hk h0 h1 hCw er
                    obtain ⟨A9, c9, e9⟩ := Kd.R_slice HO.out
                    subst e9
                    go_wp2
                    have hsz : w.heap.size + 1 ≤ w6.heap.size := bx_lt BX6.out
                    refine ⟨⟨left.eraseIdx b.toNat, out ++ [tb.id], Kd.R_lower HO.out hsz, Kd.R_below HR6.out HB.out, (HB.out.block _ (blk_lt BX6.out)).trans BX6.out, below_step HB6.out HB.out, sel_next HSR.out HSEL.out HNO.out HTB.out HBE.out⟩, ?_⟩
                    have := erase_len HTB.out
                    simp only [slLen]
                    omega
          · have nb : decide ((out.length : Int) < N) = false := decide_eq_false hno
            have HNO := Aside0.mk hno
            clear hno
            go_wp2
            go_ret
            have e := sel_end HSEL.out (Or.inr (by have := HNO.out; omega))
            exact ⟨_, rfl, by rw [← e]; exact Kd.R_lower HO.out (Nat.le_succ _), (by repeat (first | (with_reducible first | exact HB.out | apply below_alloc | apply pw_below_drewN | apply below_drew1) | exact HB.out))⟩
        · have lb : decide ((left.length : Int) > 0) = false := decide_eq_false (by omega)
          have lb2 : decide (0 < left.length) = false := decide_eq_false hle
          have HLE := Aside0.mk hle
          clear hle
          go_wp2
          go_ret
          have e := sel_end HSEL.out (Or.inl (List.eq_nil_of_length_eq_zero (by have := HLE.out; omega)))
          exact ⟨_, rfl, by rw [← e]; exact Kd.R_lower HO.out (Nat.le_succ _), (by repeat (first | (with_reducible first | exact HB.out | apply below_alloc | apply pw_below_drewN | apply below_drew1) | exact HB.out))⟩
end Go.Proofs.Ytggmfmlfkhcbdaa.Gr
