/- The walk of GateOnce. -/
import Derived.Test.YtokemjdfcifbbaaGI
import Derived.StillTailTactics
namespace Go.Proofs.Ytokemjdfcifbbaa.Gt
open Go Go.RowKit Go.Maps Go.Proofs.YtokemjdfcifbbaaW.PrintWords Go.Proofs.YtokemjdfcifbbaaW.PrintMore Go.Proofs.YtokemjdfcifbbaaW.PrintLast
set_option linter.unusedVariables false
set_option linter.unusedSimpArgs false
attribute [local go_sem high] QQA.eqA40

def T_4_46 : Bool × List (List Nat × List Nat) := (true, [([], []), ([0], [0]), ([1], [1]), ([2], [2]), ([3, 2], [2, 3]), ([4, 2, 2], [2, 4]), ([5], [5]), ([5], [5]), ([7, 5], [5, 7]), ([6, 8, 5], [5, 6, 8]), ([9, 5], [5, 9]), ([10, 5], [5, 10]), ([5], [5]), ([5], [5]), ([12, 13, 5], [5, 12, 13]), ([14, 5], [5, 14]), ([15, 5], [5, 15]), ([11, 16, 5], [5, 11, 16]), ([5, 17, 2], [2, 5, 17]), ([2, 18], [2, 18]), ([19, 5], [19]), ([20], [20]), ([20], [20]), ([20], [20]), ([22, 23, 20], [20, 22, 23]), ([24, 20], [20, 24]), ([25, 20], [20, 25]), ([21, 26, 20, 20], [20, 21, 26]), ([20, 27], [20, 27])])
def B_4_46 : List Nat := [0, 1, 3, 7, 15, 31, 63, 63, 191, 511, 1023, 2047, 63, 63, 12351, 28735, 61503, 131071, 262143, 524287, 1048575, 2097151, 2097151, 2097151, 14680063, 31457279, 65011711, 134217727, 268435455]
theorem tab_f4_46 : rtab .any (opsOf Try.f4 46) = T_4_46 := by kernel_rfl
theorem bits_f4_46 : waitsOk T_4_46.2 B_4_46 = true := by kernel_rfl
theorem srt_lt {L : List It} (h : Srt L) {i j : Nat} {a b : It} (hi : L[i]? = some a) (hj : L[j]? = some b) (hij : i < j) : a.f0 < b.f0 := by
  obtain ⟨h1, rfl⟩ := List.getElem?_eq_some_iff.1 hi
  obtain ⟨h2, rfl⟩ := List.getElem?_eq_some_iff.1 hj
  exact List.pairwise_iff_getElem.1 h i j h1 h2 hij
theorem waits_none {w w0 : World} {gb mb n : Nat} (h : GateAt w0 gb mb n []) (hb : Below w0.heap.size w0 w) (x : Int) (hwx : (Lit.int .i64 x).wf = true) :
    Calls Try.prog 11 #[.pointer (some ⟨gb, 0, none⟩), .int .i64 x] w fun e w' => e = .returned (.bool false) ∧ Below w.heap.size w w' := g_waits (h.below hb) x hwx
theorem at_G33 {w : World} {g n : Nat} {xs : List St} (h : Kd.C k33 w (some ⟨g, 0, none⟩) n xs) (i : Int) (h0 : 0 ≤ i) (h1 : i < n) : ∃ s, xs[i.toNat]? = some s ∧ w.cell? ⟨g, i.toNat * 6, none⟩ = some (.int .i64 s.op) ∧ w.cell? ⟨g, i.toNat * 6 + 1, none⟩ = some (.int .i64 s.p) ∧ w.cell? ⟨g, i.toNat * 6 + 2, none⟩ = some (.int .i64 s.t) ∧ w.cell? ⟨g, i.toNat * 6 + 3, none⟩ = some (.int .i64 s.u) ∧ w.cell? ⟨g, i.toNat * 6 + 4, none⟩ = some (.bool s.f) ∧ w.cell? ⟨g, i.toNat * 6 + 5, none⟩ = some (.bool s.b) := by
  obtain ⟨ad, s, hs, e, c0, c1, c2, c3, c4, c5⟩ := at_T33 h i h0 h1
  cases e
  have ea : (⟨g, 0, none⟩ : Addr).add (i.toNat * 6) = ⟨g, i.toNat * 6, none⟩ := by
    simp only [Addr.add, Nat.zero_add]
    split
    · rename_i e
      rw [e]
    · rfl
  rw [ea] at c0 c1 c2 c3 c4 c5
  exact ⟨s, hs, c0, c1, c2, c3, c4, c5⟩
theorem once_step {W w5 : World} {g1 m1 Bs len : Nat} {k : Int} {wv : Value} (KA : 0 ≤ k ∧ k ≤ (len : Int) + 1 ∧ k ≤ (len : Int)) (hl : len * 40 ≤ 140737488351232) (HB : Below W.heap.size W w5) (G : List It) (WS : List St) (HD : GateAt w5 g1 m1 (k.toNat + 1) G) (HR : k33.R 33 w5 Bs (fun _ => True) wv WS) (HO : Once WS G) (HS : Bs ≤ w5.heap.size) :
    (∃ (k1 : Int) (G : List It) (WS : List St), Value.int IntKind.i64 (wrap64 (k + 1)) = Value.int IntKind.i64 k1 ∧ 0 ≤ k1 ∧ k1 ≤ (len : Int) + 1 ∧ Below W.heap.size W w5 ∧ GateAt w5 g1 m1 k1.toNat G ∧ k33.R 33 w5 Bs (fun _ => True) wv WS ∧ Once WS G ∧ Bs ≤ w5.heap.size) ∧
      len + 1 - (intOf (Value.int IntKind.i64 (wrap64 (k + 1)))).toNat < len + 1 - (intOf (Value.int IntKind.i64 k)).toNat := by
  obtain ⟨h0, h1, h2⟩ := KA
  rw [wrap_id (by omega) (by omega)]
  have e : (k + 1).toNat = k.toNat + 1 := by omega
  refine ⟨⟨k + 1, G, WS, rfl, by omega, by omega, HB, ?_, HR, HO, HS⟩, ?_⟩
  · rw [e]; exact HD
  · simp only [intOf]; omega
set_option maxHeartbeats 40000000 in
set_option maxRecDepth 100000 in
theorem once_walk (A : Option Addr) (c : Nat) (l : List St) (w : World) (hC : Kd.C k33 w A l.length l) (hc : l.length ≤ c) (hlen : l.length * 40 ≤ 140737488351232) (hwf : ∀ s ∈ l, (Lit.int .i64 s.p).wf = true) :
    Calls Try.prog 4 #[.slice A l.length c] w fun e w' => e = .returned (.bool true) ∧ Below w.heap.size w w' := by
  have HC := Aside0.mk hC
  have HL := Aside0.mk hlen
  have HW := Aside0.mk hwf
  have HB := Aside0.mk (Below.refl w.heap.size w)
  clear hC hlen hwf
  go_enter Try.func4, Try.ntmps4
  go_wp2_with (first
    | (go_at_call 7; refine (fixed_calls _).mono ?_; rintro e w1 ⟨rfl, hb⟩; have n_ := Aside0.mk (below_step (by repeat (first | (with_reducible first | exact HB.out | apply below_alloc | apply pw_below_drewN | apply below_drew1) | exact HB.out)) hb); clear HB; have HB := n_; clear n_ hb)
    | (go_at_call 8; refine (g_new _).mono ?_; rintro e w2 ⟨g1, m1, rfl, hG, hb, hg1', hm1'⟩; have hg1 := Nat.le_trans (below_size (by repeat (first | (with_reducible first | exact HB.out | apply below_alloc | apply pw_below_drewN | apply below_drew1) | exact HB.out))) hg1'; have hm1 := Nat.le_trans (below_size (by repeat (first | (with_reducible first | exact HB.out | apply below_alloc | apply pw_below_drewN | apply below_drew1) | exact HB.out))) hm1'; have n_ := Aside0.mk (below_step (by repeat (first | (with_reducible first | exact HB.out | apply below_alloc | apply pw_below_drewN | apply below_drew1) | exact HB.out)) hb); have HG := Aside0.mk hG; clear HB; have HB := n_; clear n_ hb hG hg1' hm1'))
  have hG := HG.out
  have hlg := hG.ltg
  have hlm := hG.ltm
  have hBs : w.heap.size ≤ w2.heap.size := below_size HB.out
  have HB0 := HB
  obtain ⟨Bs, hBse⟩ : ∃ r, w2.heap.size = r := ⟨_, rfl⟩
  rw [hBse] at hBs hlg hlm
  have HZ := Aside0.mk hBse
  clear hBse HG HB
  go_loopw [4, 5] (fun wv iv wr => ∃ (k : Int) (G : List It) (WS : List St), iv = .int .i64 k ∧ 0 ≤ k ∧ k ≤ l.length + 1 ∧ Below w.heap.size w wr ∧ GateAt wr g1 m1 k.toNat G ∧ k33.R 33 wr Bs (fun _ => True) wv WS ∧ Once WS G ∧ Bs ≤ wr.heap.size) (fun _ iv _ => l.length + 1 - (intOf iv).toNat)
  case atStart => exact ⟨0, [], [], rfl, Int.le_refl _, by omega, HB0.out, hG, Kd.R_nil _ _ _ _ _, List.Perm.refl _, by rw [HZ.out]; exact Nat.le_refl _⟩
  case round =>
    clear hG HB0 HZ
    obtain ⟨k, G, WS, rfl, h0, h1, hbw, hG, hR, hO, hsz⟩ := hrel
    have HG := Aside0.mk hG
    have HB := Aside0.mk hbw
    have HR := Aside0.mk hR
    have HO := Aside0.mk hO
    have hCw := Kd.C_below HC.out hbw
    have SRT := Aside0.mk hG.srt
    have HWF := Aside0.mk hG.wf
    have hgl := hG.len
    have hltm := hG.ltm
    have hltg := hG.ltg
    have hBsr : Bs ≤ wr.heap.size := hsz
    have hWG := hO.length_eq
    rw [List.length_map] at hWG
    obtain ⟨Aw, cw, rfl, hcw, _⟩ := Kd.R_reads hR
    clear hG hbw hR hO
    by_cases hk : k ≤ l.length
    · have kb : decide (k ≤ (l.length : Int)) = true := decide_eq_true hk
      have hnk4 : k.toNat ≤ 4000000000000 := by have := HL.out; omega
      have hnk : k.toNat < maxLen := by
        have := HL.out
        simp only [maxLen]
        omega
      have HLG : Aside0 (G.length ≤ 3600000000000 ∧ WS.length = G.length ∧ G.length ≤ l.length) := ⟨by have := HL.out; omega⟩
      have KA := Aside0.mk (And.intro h0 (And.intro h1 hk))
      have HCw := Aside0.mk hCw
      clear hgl hWG h0 h1 hk hCw
      go_upto_if 29 with (fail)
      go_cut [] (fun wc => ∃ s : St, (Lit.int .i64 s.p).wf = true ∧ Below w.heap.size w wc ∧ GateAt wc g1 m1 k.toNat G ∧ k33.R 33 wc Bs (fun _ => True) (.slice Aw WS.length cw) WS ∧ wc.heap[wr.heap.size]? = some (.cells #[.int .i64 s.op, .int .i64 s.p, .int .i64 s.t, .int .i64 s.u, .bool s.f, .bool s.b] 33 (0, 0)))
      case first =>
        by_cases hk : k < l.length
        · have kb2 : decide (k < (l.length : Int)) = true := decide_eq_true hk
          obtain ⟨ad, s, hs, e1, d0, d1, d2, d3, d4, d5⟩ := at_T33 (Kd.C_alloc HCw.out (.cells #[.int .i64 4, .int .i64 0, .int .i64 0, .int .i64 0, .bool false, .bool false] 33)) k KA.out.1 hk
          subst e1
          have hwp := HW.out s (List.mem_of_getElem? hs)
          have p0 : (0 ≤ k) = True := eq_true KA.out.1
          have p1 : (k < (l.length : Int)) = True := eq_true hk
          clear hk hs
          rw [kb2]
          go_wp2
          go_meet
          case rel => exact ⟨s, hwp, (by repeat (first | (with_reducible first | exact HB.out | apply below_alloc | apply pw_below_drewN | apply below_drew1) | exact HB.out)), HG.out.below (by repeat (first | (with_reducible first | exact Below.refl _ _ | apply below_alloc | apply pw_below_drewN | apply below_drew1) | exact Below.refl _ _)), Kd.R_below HR.out (by repeat (first | (with_reducible first | exact Below.refl _ _ | apply below_alloc | apply pw_below_drewN | apply below_drew1) | exact Below.refl _ _)), heap_alloc_new wr _⟩
        · have kb2 : decide (k < (l.length : Int)) = false := decide_eq_false hk
          clear hk
          rw [kb2]
          go_wp2
          go_meet
          case rel => exact ⟨⟨4, 0, 0, 0, false, false⟩, rfl, (by repeat (first | (with_reducible first | exact HB.out | apply below_alloc | apply pw_below_drewN | apply below_drew1) | exact HB.out)), HG.out.below (by repeat (first | (with_reducible first | exact Below.refl _ _ | apply below_alloc | apply pw_below_drewN | apply below_drew1) | exact Below.refl _ _)), Kd.R_below HR.out (by repeat (first | (with_reducible first | exact Below.refl _ _ | apply below_alloc | apply pw_below_drewN | apply below_drew1) | exact Below.refl _ _)), heap_alloc_new wr _⟩
      case rest =>
        clear HG HB HR HCw
        obtain ⟨s, hwp, hbw, hG, hR, hbx⟩ := hcut
        have HBc := Aside0.mk hbw
        have HGc := Aside0.mk hG
        have HRc := Aside0.mk hR
        have BXc := Aside0.mk hbx
        have hm1b : m1 ≠ wr.heap.size := Nat.ne_of_lt hltm
        have HBS : Aside0 (Bs ≤ wr.heap.size) := ⟨hBsr⟩
        clear hbw hG hR hbx
        go_wp2
        go_loopw [7, 8] (fun av jv wq => ∃ a j : Int, av = .int .i64 a ∧ jv = .int .i64 j ∧ 0 ≤ j ∧ j ≤ WS.length ∧ Below wc.heap.size wc wq ∧ ((a = -1 ∧ ∀ i z, i < j.toNat → WS[i]? = some z → z.p ≠ s.p) ∨ (0 ≤ a ∧ a < WS.length ∧ ∃ z, WS[a.toNat]? = some z ∧ z.p = s.p))) (fun _ jv _ => WS.length - (intOf jv).toNat)
        case atStart => exact ⟨-1, 0, rfl, rfl, Int.le_refl _, by omega, Below.refl _ _, .inl ⟨rfl, fun i z hi => by simp at hi⟩⟩
        case round =>
          obtain ⟨a, j, rfl, rfl, j0, j1, hbq, hat⟩ := hrel
          have HB := Aside0.mk (below_step HBc.out hbq)
          have HG := Aside0.mk (HGc.out.below hbq)
          have HR := Aside0.mk (Kd.R_below HRc.out hbq)
          have BX := Aside0.mk (bx_b BXc.out hbq)
          have HBQ := Aside0.mk hbq
          have HAT := Aside0.mk hat
          clear hbq hat
          obtain ⟨x0, x1, x2, x3, x4, x5⟩ := bx_c BX.out
          by_cases hj : j < WS.length
          · have jb : decide (j < (WS.length : Int)) = true := decide_eq_true hj
            obtain ⟨ad, z, hz, e1, d0, d1, d2, d3, d4, d5⟩ := at_T33 (R33_row HR.out) j j0 hj
            subst e1
            have JA := Aside0.mk (And.intro j0 (And.intro j1 hj))
            have HZ := Aside0.mk hz
            have p0 : (0 ≤ j) = True := eq_true j0
            have p1 : (j < (WS.length : Int)) = True := eq_true hj
            clear hz j0 j1 hj
            by_cases hp : z.p = s.p
            · have o1 : (z.p == s.p) = true := beq_iff_eq.2 hp
              have PP := Aside0.mk hp
              clear hp
              go_wp2
              repeat (go_quiet (fail); try go_wp2)
              have e := JA.out
              have eL := HLG.out
              rw [wrap_id (by omega) (by omega)]
              exact ⟨⟨j, j + 1, rfl, rfl, by omega, by omega, below_step HBQ.out (by repeat (first | (with_reducible first | exact Below.refl _ _ | apply below_alloc | apply pw_below_drewN | apply below_drew1) | exact Below.refl _ _)), .inr ⟨by omega, by omega, z, HZ.out, PP.out⟩⟩, by simp only [intOf]; omega⟩
            · have o1 : (z.p == s.p) = false := beq_eq_false_iff_ne.2 hp
              have PP := Aside0.mk hp
              clear hp
              go_wp2
              repeat (go_quiet (fail); try go_wp2)
              have e := JA.out
              have eL := HLG.out
              rw [wrap_id (by omega) (by omega)]
              refine ⟨⟨a, j + 1, rfl, rfl, by omega, by omega, below_step HBQ.out (by repeat (first | (with_reducible first | exact Below.refl _ _ | apply below_alloc | apply pw_below_drewN | apply below_drew1) | exact Below.refl _ _)), ?_⟩, by simp only [intOf]; omega⟩
              rcases HAT.out with ⟨ha, hn⟩ | h
              · refine .inl ⟨ha, fun i y hi hy => ?_⟩
                rcases Nat.lt_or_ge i j.toNat with h' | h'
                · exact hn i y h' hy
                · have : i = j.toNat := by omega
                  rw [this, HZ.out] at hy
                  cases hy
                  exact PP.out
              · exact .inr h
          · have jb : decide (j < (WS.length : Int)) = false := decide_eq_false hj
            have hA1 : a = -1 → hasP G s.p = false := by
              intro ea
              rw [Bool.eq_false_iff]
              intro e
              obtain ⟨y, hy, e2⟩ := (once_has HO.out s.p).1 e
              obtain ⟨i, hi, rfl⟩ := List.mem_iff_getElem.1 hy
              rcases HAT.out with ⟨_, hn⟩ | ⟨h0, _⟩
              · exact hn i _ (by omega) (List.getElem?_eq_getElem hi) e2
              · omega
            have hA2 : a ≠ -1 → hasP G s.p = true ∧ 0 ≤ a := by
              intro ea
              rcases HAT.out with ⟨e, _⟩ | ⟨h0, _, z, hz, hp⟩
              · exact absurd e ea
              · exact ⟨(once_has HO.out s.p).2 ⟨z, List.mem_of_getElem? hz, hp⟩, h0⟩
            by_cases q : s.op = 4
            · have q1 : (s.op == 1) = false := by rw [q]; rfl
              have q3 : (s.op == 3) = false := by rw [q]; rfl
              obtain ⟨r, RW⟩ : ∃ r, hasP G s.p = r := ⟨_, rfl⟩
              have gA : decide (a ≥ 0) = r := by
                rw [← RW]
                by_cases ea : a = -1
                · rw [hA1 ea, decide_eq_false (by omega)]
                · rw [(hA2 ea).1, decide_eq_true (hA2 ea).2]
              have gA2 : decide (0 ≤ a) = r := gA
              clear hA1 hA2 HAT HBQ HBc HGc HRc BXc hj j0 j1
              have q4 : (s.op == 4) = true := beq_iff_eq.2 q
              clear q
              have hne : ((G.length : Int) != (WS.length : Int)) = false := by
                have e := HLG.out
                rw [bne_eq_false_iff_eq]
                omega
              go_wp2_with (first | (go_at_call 11; (with_reducible refine (waits_at HG.out ?side1 s.p hwp _ RW).mono ?_); (case side1 => exact (by repeat (first | (with_reducible first | exact Below.refl _ _ | apply below_alloc | apply pw_below_drewN | apply below_drew1) | exact Below.refl _ _))); rintro e w5 ⟨rfl, hG1, hg1⟩; have bx := bx_g BX.out (by repeat (first | (with_reducible first | exact Below.refl _ _ | apply below_alloc | apply pw_below_drewN | apply below_drew1) | exact Below.refl _ _)) hg1 hm1b; clear BX; have BX := Aside0.mk bx; clear bx; obtain ⟨x0, x1, x2, x3, x4, x5⟩ := bx_c BX.out; have HR1 := Aside0.mk (R33_other (Kd.R_below HR.out (by repeat (first | (with_reducible first | exact Below.refl _ _ | apply below_alloc | apply pw_below_drewN | apply below_drew1) | exact Below.refl _ _))) hg1 hlm); have n_ := Aside0.mk (below_g (by repeat (first | (with_reducible first | exact HB.out | apply below_alloc | apply pw_below_drewN | apply below_drew1) | exact HB.out)) hg1 hm1); clear HB; have HB := n_; clear n_; clear HG HR; have HR := HR1; have HG := Aside0.mk hG1; clear HR1 hG1 hg1) | (go_at_call 17; (with_reducible refine (take_at HG.out ?side1 hnk4).mono ?_); (case side1 => exact (by repeat (first | (with_reducible first | exact Below.refl _ _ | apply below_alloc | apply pw_below_drewN | apply below_drew1) | exact Below.refl _ _))); rintro e w6 ⟨A1, c1, rfl, hG1, hg1, hR1, hc1, hX1⟩; have HX := Aside0.mk hX1; clear hX1 hR1; have bx := bx_g BX.out (by repeat (first | (with_reducible first | exact Below.refl _ _ | apply below_alloc | apply pw_below_drewN | apply below_drew1) | exact Below.refl _ _)) hg1 hm1b; clear BX; have BX := Aside0.mk bx; clear bx; obtain ⟨x0, x1, x2, x3, x4, x5⟩ := bx_c BX.out; have HR1 := Aside0.mk (R33_other (Kd.R_below HR.out (by repeat (first | (with_reducible first | exact Below.refl _ _ | apply below_alloc | apply pw_below_drewN | apply below_drew1) | exact Below.refl _ _))) hg1 hlm); have n_ := Aside0.mk (below_g (by repeat (first | (with_reducible first | exact HB.out | apply below_alloc | apply pw_below_drewN | apply below_drew1) | exact HB.out)) hg1 hm1); clear HB; have HB := n_; clear n_; clear HG HR; have HR := HR1; have HG := Aside0.mk hG1; clear HR1 hG1 hg1))
              clear hne
              go_loopw [11] (fun xv wq => ∃ x : Int, xv = .int .i64 x ∧ 0 ≤ x ∧ x ≤ G.length ∧ Below w6.heap.size w6 wq) (fun xv _ => G.length - (intOf xv).toNat)
              case atStart => exact ⟨0, rfl, Int.le_refl _, by omega, Below.refl _ _⟩
              case round =>
                obtain ⟨x, rfl, xx0, xx1, hbx⟩ := hrel
                have HQ := Aside0.mk hbx
                have hXq := Kd.C_below HX.out hbx
                clear hbx
                by_cases hx : x < G.length
                · have xb : decide (x < (G.length : Int)) = true := decide_eq_true hx
                  obtain ⟨ad, y, hy, ey, _⟩ := at_I hXq x xx0 hx
                  subst ey
                  have XA := Aside0.mk (And.intro xx0 (And.intro xx1 hx))
                  have HY := Aside0.mk hy
                  clear hy hXq xx0 xx1 hx
                  go_wp2
                  go_loopw [12, 13] (fun fv jv wq2 => ∃ (jj : Int) (b : Bool), jv = .int .i64 jj ∧ fv = .bool b ∧ 0 ≤ jj ∧ jj ≤ WS.length ∧ b = (WS.take jj.toNat).any (lg y) ∧ Below w6.heap.size w6 wq2) (fun _ jv _ => WS.length - (intOf jv).toNat)
                  case atStart => exact ⟨0, false, rfl, rfl, Int.le_refl _, by omega, rfl, HQ.out⟩
                  case round =>
                    obtain ⟨jj, b, rfl, rfl, jj0, jj1, hb, hb2⟩ := hrel
                    have HQ2 := Aside0.mk hb2
                    have HBB := Aside0.mk hb
                    clear hb
                    by_cases hjj : jj < WS.length
                    · have jjb : decide (jj < (WS.length : Int)) = true := decide_eq_true hjj
                      have JJ := Aside0.mk (And.intro jj0 (And.intro jj1 hjj))
                      have p0 : (0 ≤ x) = True := eq_true XA.out.1
                      have p1 : (x < (G.length : Int)) = True := eq_true XA.out.2.2
                      have p2 : (0 ≤ jj) = True := eq_true jj0
                      have p3 : (jj < (WS.length : Int)) = True := eq_true hjj
                      cases b
                      · obtain ⟨ad9, y9, hy9, e9, i0, i1, i2, i3, i4⟩ := at_I (Kd.C_below HX.out (below_drew1 hb2)) x XA.out.1 XA.out.2.2
                        cases e9
                        cases (Option.some.inj (HY.out.symm.trans hy9))
                        obtain ⟨ad2, z, hz, e2, d0, d1, d2, d3, d4, d5⟩ := at_T33 (R33_row (Kd.R_below HR.out (below_drew1 hb2))) jj jj0 hjj
                        subst e2
                        have HZ := Aside0.mk hz
                        clear hb2 jj0 jj1 hjj hz hy9
                        go_wp2
                        go_still_tail 16, (by kernel_rfl)
                        go_wp2_with (go_at_call 20; refine (legal_call y z _).mono ?_; rintro e w9 ⟨rfl, hb9⟩; have H9 := Aside0.mk hb9; clear hb9)
                        have e := JJ.out
                        have eL := HLG.out
                        rw [wrap_id (by omega) (by omega)]
                        refine ⟨⟨jj + 1, lg y z, rfl, rfl, by omega, by omega, ?_, below_step (below_drew1 HQ2.out) H9.out⟩, by simp only [intOf]; omega⟩
                        rw [show (jj + 1).toNat = jj.toNat + 1 by omega, any_step HZ.out, ← HBB.out]
                        rfl
                      · clear hb2 jj0 jj1 hjj
                        go_wp2
                        repeat (go_quiet (fail); try go_wp2)
                        have e := JJ.out
                        have eL := HLG.out
                        rw [wrap_id (by omega) (by omega)]
                        obtain ⟨z, hz⟩ : ∃ z, WS[jj.toNat]? = some z := ⟨_, List.getElem?_eq_getElem (by omega)⟩
                        refine ⟨⟨jj + 1, true, rfl, rfl, by omega, by omega, ?_, below_step HQ2.out (by repeat (first | (with_reducible first | exact Below.refl _ _ | apply below_alloc | apply pw_below_drewN | apply below_drew1) | exact Below.refl _ _))⟩, by simp only [intOf]; omega⟩
                        rw [show (jj + 1).toNat = jj.toNat + 1 by omega, any_step hz, ← HBB.out]
                        rfl
                    · have jjb : decide (jj < (WS.length : Int)) = false := decide_eq_false hjj
                      have hbt : b = true := by
                        rw [HBB.out, List.take_of_length_le (by omega)]
                        exact once_found HO.out (List.mem_of_getElem? HY.out)
                      subst hbt
                      have hwy := HWF.out y (List.mem_of_getElem? HY.out)
                      obtain ⟨ad9, y9, hy9, e9, i0, i1, i2, i3, i4⟩ := at_I (Kd.C_below HX.out (below_drew1 hb2)) x XA.out.1 XA.out.2.2
                      cases e9
                      cases (Option.some.inj (HY.out.symm.trans hy9))
                      have p0 : (0 ≤ x) = True := eq_true XA.out.1
                      have p1 : (x < (G.length : Int)) = True := eq_true XA.out.2.2
                      by_cases hx0 : x > 0
                      · have x0b : decide (x > 0) = true := decide_eq_true hx0
                        have x0c : decide (0 < x) = true := decide_eq_true hx0
                        obtain ⟨m, hm⟩ : ∃ m, wrap64 (x - 1) = m := ⟨_, rfl⟩
                        have hme : m = x - 1 := by
                          have e := HLG.out
                          have e2 := XA.out
                          rw [← hm, wrap_id (by omega) (by omega)]
                        have m0 : 0 ≤ m := by omega
                        have m1' : m < (G.length : Int) := by have := XA.out; omega
                        obtain ⟨ad8, yp, hyp, e8, v0, v1, v2, v3, v4⟩ := at_I (Kd.C_below HX.out (below_drew1 hb2)) m m0 m1'
                        cases e8
                        have hlt := srt_lt SRT.out hyp HY.out (by omega)
                        have HYP := Aside0.mk (And.intro m0 (And.intro m1' hyp))
                        have o1 : decide (yp.f0 ≥ y.f0) = false := decide_eq_false (by omega)
                        have o2 : decide (y.f0 ≤ yp.f0) = false := decide_eq_false (by omega)
                        have p2 : (0 ≤ m) = True := eq_true m0
                        have p3 : (m < (G.length : Int)) = True := eq_true m1'
                        clear hb2 jj0 jj1 hjj hy9 hx0 hme m0 m1' hyp hlt
                        go_wp2
                        refine start_ (n := 29) (S := fun w' => w'.cell? (ad.add (m.toNat * 5)) = some (.int .i64 yp.f0) ∧ w'.cell? (ad.add (x.toNat * 5)) = some (.int .i64 y.f0)) (ds := []) #[false, false, false, false, false, false, false, false, false, false, false, false, false, false, false, false, false, false, false, false, false, false, false, false, false, false, false, false, false] (by kernel_rfl) rfl rfl ⟨v0, i0⟩ (fun hHeld => ?_)
                        refine with_tabW tab_f4_46 bits_f4_46 (fun HT_ HW_ => ?_)
                        refine pure_ (i := 0) (N := some 149) (v := ?_) (a' := ?_) #[true, false, false, false, false, false, false, false, false, false, false, false, false, false, false, false, false, false, false, false, false, false, false, false, false, false, false, false, false] rfl rfl (any_of HT_.out (by kernel_rfl)) (fun _ _ _ h => h) (Or.inl ⟨by rfl, ?_⟩) ?_ ?_
                        rotate_left
                        · intro w'
                          go_simp
                          with_reducible rfl
                        rotate_left
                        · simp only [Act.put, List.setIfInBounds_toArray, List.set_cons_zero, List.set_cons_succ, i64_w, i32_w]
                          rfl
                        refine pure_ (i := 1) (N := some 150) (v := ?_) (a' := ?_) #[true, true, false, false, false, false, false, false, false, false, false, false, false, false, false, false, false, false, false, false, false, false, false, false, false, false, false, false, false] rfl rfl (any_of HT_.out (by kernel_rfl)) (fun _ _ _ h => h) (Or.inl ⟨by rfl, ?_⟩) ?_ ?_
                        rotate_left
                        · intro w'
                          go_simp
                          with_reducible rfl
                        rotate_left
                        · simp only [Act.put, List.setIfInBounds_toArray, List.set_cons_zero, List.set_cons_succ, i64_w, i32_w]
                          rfl
                        refine pure_ (i := 2) (N := some 151) (v := ?_) (a' := ?_) #[true, true, true, false, false, false, false, false, false, false, false, false, false, false, false, false, false, false, false, false, false, false, false, false, false, false, false, false, false] rfl rfl (any_of HT_.out (by kernel_rfl)) (fun _ _ _ h => h) (Or.inl ⟨by rfl, ?_⟩) ?_ ?_
                        rotate_left
                        · intro w'
                          go_simp
                          with_reducible rfl
                        rotate_left
                        · simp only [Act.put, List.setIfInBounds_toArray, List.set_cons_zero, List.set_cons_succ, i64_w, i32_w]
                          rfl
                        refine pure_ (i := 3) (N := some 152) (v := ?_) (a' := ?_) #[true, true, true, true, false, false, false, false, false, false, false, false, false, false, false, false, false, false, false, false, false, false, false, false, false, false, false, false, false] rfl rfl (any_of HT_.out (by kernel_rfl)) (fun _ _ _ h => h) (Or.inl ⟨by rfl, ?_⟩) ?_ ?_
                        rotate_left
                        · intro w'
                          go_simp
                          with_reducible rfl
                        rotate_left
                        · simp only [Act.put, List.setIfInBounds_toArray, List.set_cons_zero, List.set_cons_succ, i64_w, i32_w]
                          rfl
                        refine pure_ (i := 4) (N := some 153) (v := ?_) (a' := ?_) #[true, true, true, true, true, false, false, false, false, false, false, false, false, false, false, false, false, false, false, false, false, false, false, false, false, false, false, false, false] rfl rfl (any_of HT_.out (by kernel_rfl)) (fun _ _ _ h => h) (Or.inl ⟨by rfl, ?_⟩) ?_ ?_
                        rotate_left
                        · intro w'
                          go_simp
                          with_reducible rfl
                        rotate_left
                        · simp only [Act.put, List.setIfInBounds_toArray, List.set_cons_zero, List.set_cons_succ, i64_w, i32_w]
                          rfl
                        refine pure_ (i := 5) (N := some 154) (v := ?_) (a' := ?_) #[true, true, true, true, true, true, false, false, false, false, false, false, false, false, false, false, false, false, false, false, false, false, false, false, false, false, false, false, false] rfl rfl (any_of HT_.out (by kernel_rfl)) (fun _ _ _ h => h) (Or.inl ⟨by rfl, ?_⟩) ?_ ?_
                        rotate_left
                        · intro w'
                          go_simp
                          with_reducible rfl
                        rotate_left
                        · simp only [Act.put, List.setIfInBounds_toArray, List.set_cons_zero, List.set_cons_succ, i64_w, i32_w]
                          rfl
                        refine pure_ (i := 6) (N := some 155) (v := ?_) (a' := ?_) #[true, true, true, true, true, true, true, false, false, false, false, false, false, false, false, false, false, false, false, false, false, false, false, false, false, false, false, false, false] rfl rfl (any_of HT_.out (by kernel_rfl)) (fun _ _ _ h => h) (Or.inl ⟨by rfl, ?_⟩) ?_ ?_
                        rotate_left
                        · intro w'
                          go_simp
                          with_reducible rfl
                        rotate_left
                        · simp only [Act.put, List.setIfInBounds_toArray, List.set_cons_zero, List.set_cons_succ, i64_w, i32_w]
                          rfl
                        refine pure_ (i := 7) (N := some 156) (v := ?_) (a' := ?_) #[true, true, true, true, true, true, true, true, false, false, false, false, false, false, false, false, false, false, false, false, false, false, false, false, false, false, false, false, false] rfl rfl (any_of HT_.out (by kernel_rfl)) (fun _ _ _ h => h) (Or.inl ⟨by rfl, ?_⟩) ?_ ?_
                        rotate_left
                        · intro w'
                          go_simp
                          with_reducible rfl
                        rotate_left
                        · simp only [Act.put, List.setIfInBounds_toArray, List.set_cons_zero, List.set_cons_succ, i64_w, i32_w]
                          rfl
                        refine pure_ (i := 8) (N := some 157) (v := ?_) (a' := ?_) #[true, true, true, true, true, true, true, true, true, false, false, false, false, false, false, false, false, false, false, false, false, false, false, false, false, false, false, false, false] rfl rfl (any_of HT_.out (by kernel_rfl)) (fun _ _ _ h => h) (Or.inl ⟨by rfl, ?_⟩) ?_ ?_
                        rotate_left
                        · intro w'
                          go_simp
                          with_reducible rfl
                        rotate_left
                        · simp only [Act.put, List.setIfInBounds_toArray, List.set_cons_zero, List.set_cons_succ, i64_w, i32_w]
                          rfl
                        refine pure_ (i := 9) (N := some 158) (v := ?_) (a' := ?_) #[true, true, true, true, true, true, true, true, true, true, false, false, false, false, false, false, false, false, false, false, false, false, false, false, false, false, false, false, false] rfl rfl (any_of HT_.out (by kernel_rfl)) (fun _ _ _ h => h) (Or.inl ⟨by rfl, ?_⟩) ?_ ?_
                        rotate_left
                        · intro w'
                          go_simp
                          with_reducible rfl
                        rotate_left
                        · simp only [Act.put, List.setIfInBounds_toArray, List.set_cons_zero, List.set_cons_succ, i64_w, i32_w]
                          rfl
                        refine pure_ (i := 10) (N := some 159) (v := ?_) (a' := ?_) #[true, true, true, true, true, true, true, true, true, true, true, false, false, false, false, false, false, false, false, false, false, false, false, false, false, false, false, false, false] rfl rfl (any_of HT_.out (by kernel_rfl)) (fun _ _ _ h => h) (Or.inl ⟨by rfl, ?_⟩) ?_ ?_
                        rotate_left
                        · intro w'
                          go_simp
                          with_reducible rfl
                        rotate_left
                        · simp only [Act.put, List.setIfInBounds_toArray, List.set_cons_zero, List.set_cons_succ, i64_w, i32_w]
                          rfl
                        refine take_ (i := 11) (N := some 160) (v := ?_) (a' := ?_) #[true, true, true, true, true, true, true, true, true, true, true, true, false, false, false, false, false, false, false, false, false, false, false, false, false, false, false, false, false] rfl rfl (take_ofW HT_.out HW_.out (by kernel_rfl)) (fun _ _ _ h => h) (Or.inl ⟨by rfl, ?_⟩) hHeld ?_ ?_
                        rotate_left
                        · rintro w' ⟨s1, s2⟩
                          go_simp
                          with_reducible rfl
                        rotate_left
                        · simp only [Act.put, List.setIfInBounds_toArray, List.set_cons_zero, List.set_cons_succ, i64_w, i32_w]
                          rfl
                        refine pure_ (i := 12) (N := some 161) (v := ?_) (a' := ?_) #[true, true, true, true, true, true, true, true, true, true, true, true, true, false, false, false, false, false, false, false, false, false, false, false, false, false, false, false, false] rfl rfl (any_of HT_.out (by kernel_rfl)) (fun _ _ _ h => h) (Or.inl ⟨by rfl, ?_⟩) ?_ ?_
                        rotate_left
                        · intro w'
                          go_simp
                          with_reducible rfl
                        rotate_left
                        · simp only [Act.put, List.setIfInBounds_toArray, List.set_cons_zero, List.set_cons_succ, i64_w, i32_w]
                          rfl
                        refine pure_ (i := 13) (N := some 162) (v := ?_) (a' := ?_) #[true, true, true, true, true, true, true, true, true, true, true, true, true, true, false, false, false, false, false, false, false, false, false, false, false, false, false, false, false] rfl rfl (any_of HT_.out (by kernel_rfl)) (fun _ _ _ h => h) (Or.inl ⟨by rfl, ?_⟩) ?_ ?_
                        rotate_left
                        · intro w'
                          go_simp
                          with_reducible rfl
                        rotate_left
                        · simp only [Act.put, List.setIfInBounds_toArray, List.set_cons_zero, List.set_cons_succ, i64_w, i32_w]
                          rfl
                        refine pure_ (i := 14) (N := some 163) (v := ?_) (a' := ?_) #[true, true, true, true, true, true, true, true, true, true, true, true, true, true, true, false, false, false, false, false, false, false, false, false, false, false, false, false, false] rfl rfl (any_of HT_.out (by kernel_rfl)) (fun _ _ _ h => h) (Or.inl ⟨by rfl, ?_⟩) ?_ ?_
                        rotate_left
                        · intro w'
                          go_simp
                          with_reducible rfl
                        rotate_left
                        · simp only [Act.put, List.setIfInBounds_toArray, List.set_cons_zero, List.set_cons_succ, i64_w, i32_w]
                          rfl
                        refine pure_ (i := 15) (N := some 164) (v := ?_) (a' := ?_) #[true, true, true, true, true, true, true, true, true, true, true, true, true, true, true, true, false, false, false, false, false, false, false, false, false, false, false, false, false] rfl rfl (any_of HT_.out (by kernel_rfl)) (fun _ _ _ h => h) (Or.inl ⟨by rfl, ?_⟩) ?_ ?_
                        rotate_left
                        · intro w'
                          go_simp
                          with_reducible rfl
                        rotate_left
                        · simp only [Act.put, List.setIfInBounds_toArray, List.set_cons_zero, List.set_cons_succ, i64_w, i32_w]
                          rfl
                        refine take_ (i := 16) (N := some 165) (v := ?_) (a' := ?_) #[true, true, true, true, true, true, true, true, true, true, true, true, true, true, true, true, true, false, false, false, false, false, false, false, false, false, false, false, false] rfl rfl (take_ofW HT_.out HW_.out (by kernel_rfl)) (fun _ _ _ h => h) (Or.inl ⟨by rfl, ?_⟩) hHeld ?_ ?_
                        rotate_left
                        · rintro w' ⟨s1, s2⟩
                          go_simp
                          with_reducible rfl
                        rotate_left
                        · simp only [Act.put, List.setIfInBounds_toArray, List.set_cons_zero, List.set_cons_succ, i64_w, i32_w]
                          rfl
                        refine pure_ (i := 17) (N := some 166) (v := ?_) (a' := ?_) #[true, true, true, true, true, true, true, true, true, true, true, true, true, true, true, true, true, true, false, false, false, false, false, false, false, false, false, false, false] rfl rfl (any_of HT_.out (by kernel_rfl)) (fun _ _ _ h => h) (Or.inl ⟨by rfl, ?_⟩) ?_ ?_
                        rotate_left
                        · intro w'
                          go_simp
                          with_reducible rfl
                        rotate_left
                        · simp only [Act.put, List.setIfInBounds_toArray, List.set_cons_zero, List.set_cons_succ, i64_w, i32_w]
                          rfl
                        refine pure_ (i := 18) (N := some 167) (v := ?_) (a' := ?_) #[true, true, true, true, true, true, true, true, true, true, true, true, true, true, true, true, true, true, true, false, false, false, false, false, false, false, false, false, false] rfl rfl (any_of HT_.out (by kernel_rfl)) (fun _ _ _ h => h) (Or.inl ⟨by rfl, ?_⟩) ?_ ?_
                        rotate_left
                        · intro w'
                          go_simp
                          with_reducible rfl
                        rotate_left
                        · simp only [Act.put, List.setIfInBounds_toArray, List.set_cons_zero, List.set_cons_succ, i64_w, i32_w]
                          rfl
                        refine pure_ (i := 19) (N := some 168) (v := ?_) (a' := ?_) #[true, true, true, true, true, true, true, true, true, true, true, true, true, true, true, true, true, true, true, true, false, false, false, false, false, false, false, false, false] rfl rfl (any_of HT_.out (by kernel_rfl)) (fun _ _ _ h => h) (Or.inl ⟨by rfl, ?_⟩) ?_ ?_
                        rotate_left
                        · intro w'
                          go_simp
                          with_reducible rfl
                        rotate_left
                        · simp only [Act.put, List.setIfInBounds_toArray, List.set_cons_zero, List.set_cons_succ, i64_w, i32_w]
                          rfl
                        refine pure_ (i := 20) (N := some 169) (v := ?_) (a' := ?_) #[true, true, true, true, true, true, true, true, true, true, true, true, true, true, true, true, true, true, true, true, true, false, false, false, false, false, false, false, false] rfl rfl (any_of HT_.out (by kernel_rfl)) (fun _ _ _ h => h) (Or.inl ⟨by rfl, ?_⟩) ?_ ?_
                        rotate_left
                        · intro w'
                          go_simp
                          with_reducible rfl
                        rotate_left
                        · simp only [Act.put, List.setIfInBounds_toArray, List.set_cons_zero, List.set_cons_succ, i64_w, i32_w]
                          rfl
                        refine pure_ (i := 21) (N := some 170) (v := ?_) (a' := ?_) #[true, true, true, true, true, true, true, true, true, true, true, true, true, true, true, true, true, true, true, true, true, true, false, false, false, false, false, false, false] rfl rfl (any_of HT_.out (by kernel_rfl)) (fun _ _ _ h => h) (Or.inl ⟨by rfl, ?_⟩) ?_ ?_
                        rotate_left
                        · intro w'
                          go_simp
                          with_reducible rfl
                        rotate_left
                        · simp only [Act.put, List.setIfInBounds_toArray, List.set_cons_zero, List.set_cons_succ, i64_w, i32_w]
                          rfl
                        refine pure_ (i := 22) (N := some 171) (v := ?_) (a' := ?_) #[true, true, true, true, true, true, true, true, true, true, true, true, true, true, true, true, true, true, true, true, true, true, true, false, false, false, false, false, false] rfl rfl (any_of HT_.out (by kernel_rfl)) (fun _ _ _ h => h) (Or.inl ⟨by rfl, ?_⟩) ?_ ?_
                        rotate_left
                        · intro w'
                          go_simp
                          with_reducible rfl
                        rotate_left
                        · simp only [Act.put, List.setIfInBounds_toArray, List.set_cons_zero, List.set_cons_succ, i64_w, i32_w]
                          rfl
                        refine pure_ (i := 23) (N := some 172) (v := ?_) (a' := ?_) #[true, true, true, true, true, true, true, true, true, true, true, true, true, true, true, true, true, true, true, true, true, true, true, true, false, false, false, false, false] rfl rfl (any_of HT_.out (by kernel_rfl)) (fun _ _ _ h => h) (Or.inl ⟨by rfl, ?_⟩) ?_ ?_
                        rotate_left
                        · intro w'
                          go_simp
                          with_reducible rfl
                        rotate_left
                        · simp only [Act.put, List.setIfInBounds_toArray, List.set_cons_zero, List.set_cons_succ, i64_w, i32_w]
                          rfl
                        refine pure_ (i := 24) (N := some 173) (v := ?_) (a' := ?_) #[true, true, true, true, true, true, true, true, true, true, true, true, true, true, true, true, true, true, true, true, true, true, true, true, true, false, false, false, false] rfl rfl (any_of HT_.out (by kernel_rfl)) (fun _ _ _ h => h) (Or.inl ⟨by rfl, ?_⟩) ?_ ?_
                        rotate_left
                        · intro w'
                          go_simp
                          with_reducible rfl
                        rotate_left
                        · simp only [Act.put, List.setIfInBounds_toArray, List.set_cons_zero, List.set_cons_succ, i64_w, i32_w]
                          rfl
                        refine pure_ (i := 25) (N := some 174) (v := ?_) (a' := ?_) #[true, true, true, true, true, true, true, true, true, true, true, true, true, true, true, true, true, true, true, true, true, true, true, true, true, true, false, false, false] rfl rfl (any_of HT_.out (by kernel_rfl)) (fun _ _ _ h => h) (Or.inl ⟨by rfl, ?_⟩) ?_ ?_
                        rotate_left
                        · intro w'
                          go_simp
                          with_reducible rfl
                        rotate_left
                        · simp only [Act.put, List.setIfInBounds_toArray, List.set_cons_zero, List.set_cons_succ, i64_w, i32_w]
                          rfl
                        refine take_ (i := 26) (N := some 175) (v := ?_) (a' := ?_) #[true, true, true, true, true, true, true, true, true, true, true, true, true, true, true, true, true, true, true, true, true, true, true, true, true, true, true, false, false] rfl rfl (take_ofW HT_.out HW_.out (by kernel_rfl)) (fun _ _ _ h => h) (Or.inl ⟨by rfl, ?_⟩) hHeld ?_ ?_
                        rotate_left
                        · rintro w' ⟨s1, s2⟩
                          go_simp
                          with_reducible rfl
                        rotate_left
                        · simp only [Act.put, List.setIfInBounds_toArray, List.set_cons_zero, List.set_cons_succ, i64_w, i32_w]
                          rfl
                        refine one_ (i := 27) (N := some 176) #[true, true, true, true, true, true, true, true, true, true, true, true, true, true, true, true, true, true, true, true, true, true, true, true, true, true, true, true, false] rfl rfl (one_of HT_.out (by kernel_rfl)) (by decide) (fun K hK => ?_)
                        refine goes_ Try.func11 (by kernel_rfl) rfl #[.pointer (some ⟨g1, 0, none⟩), .int .i64 y.f0] (by rfl) rfl rfl (by (try simp only [List.map_toArray, List.map_cons, List.map_nil]); first | done | rfl) ?_
                        with_reducible refine (waits_none HG.out (below_drew1 HQ2.out) y.f0 hwy).mono ?_
                        rintro e w9 ⟨rfl, hb9⟩
                        refine ⟨_, rfl, ?_⟩
                        have H9 := Aside0.mk hb9
                        obtain ⟨ada, ya, hya, ea, ia0, _⟩ := at_I (Kd.C_below HX.out (below_step (below_drew1 HQ2.out) hb9)) x XA.out.1 XA.out.2.2
                        cases ea
                        cases (Option.some.inj (HY.out.symm.trans hya))
                        obtain ⟨adb, yb, hyb, eb, ib0, _⟩ := at_I (Kd.C_below HX.out (below_step (below_drew1 HQ2.out) hb9)) m HYP.out.1 HYP.out.2.1
                        cases eb
                        cases (Option.some.inj (HYP.out.2.2.symm.trans hyb))
                        clear hb9 hya hyb
                        refine hK.out _ _ ⟨ib0, ia0⟩ (fun hHeld => ?_)
                        clear hK K
                        refine norm_ (a' := ?_) ?_ ?_
                        rotate_left
                        · show Act.put _ (some 176) _ = _
                          simp only [Act.put, List.setIfInBounds_toArray, List.set_cons_zero, List.set_cons_succ, i64_w, i32_w]
                          rfl
                        refine pure_ (i := 28) (N := some 177) (v := ?_) (a' := ?_) #[true, true, true, true, true, true, true, true, true, true, true, true, true, true, true, true, true, true, true, true, true, true, true, true, true, true, true, true, true] rfl rfl (any_of HT_.out (by kernel_rfl)) (fun _ _ _ h => h) (Or.inl ⟨by rfl, ?_⟩) ?_ ?_
                        rotate_left
                        · intro w'
                          go_simp
                          with_reducible rfl
                        rotate_left
                        · simp only [Act.put, List.setIfInBounds_toArray, List.set_cons_zero, List.set_cons_succ, i64_w, i32_w]
                          rfl
                        refine done_ (done_of HT_.out (by kernel_rfl)) ?_
                        go_wp2
                        have e := XA.out
                        have eL := HLG.out
                        rw [wrap_id (by omega) (by omega)]
                        exact ⟨⟨x + 1, rfl, by omega, by omega, below_step (below_drew1 HQ2.out) H9.out⟩, by simp only [intOf]; omega⟩
                      · have x0b : decide (x > 0) = false := decide_eq_false hx0
                        have x0c : decide (0 < x) = false := decide_eq_false hx0
                        clear hb2 jj0 jj1 hjj hy9 hx0
                        go_wp2
                        refine start_ (n := 29) (S := fun w' => w'.cell? (ad.add (x.toNat * 5)) = some (.int .i64 y.f0)) (ds := []) #[false, false, false, false, false, false, false, false, false, false, false, false, false, false, false, false, false, false, false, false, false, false, false, false, false, false, false, false, false] (by kernel_rfl) rfl rfl i0 (fun hHeld => ?_)
                        refine with_tabW tab_f4_46 bits_f4_46 (fun HT_ HW_ => ?_)
                        refine pure_ (i := 0) (N := some 149) (v := ?_) (a' := ?_) #[true, false, false, false, false, false, false, false, false, false, false, false, false, false, false, false, false, false, false, false, false, false, false, false, false, false, false, false, false] rfl rfl (any_of HT_.out (by kernel_rfl)) (fun _ _ _ h => h) (Or.inl ⟨by rfl, ?_⟩) ?_ ?_
                        rotate_left
                        · intro w'
                          go_simp
                          with_reducible rfl
                        rotate_left
                        · simp only [Act.put, List.setIfInBounds_toArray, List.set_cons_zero, List.set_cons_succ, i64_w, i32_w]
                          rfl
                        refine pure_ (i := 1) (N := some 150) (v := ?_) (a' := ?_) #[true, true, false, false, false, false, false, false, false, false, false, false, false, false, false, false, false, false, false, false, false, false, false, false, false, false, false, false, false] rfl rfl (any_of HT_.out (by kernel_rfl)) (fun _ _ _ h => h) (Or.inl ⟨by rfl, ?_⟩) ?_ ?_
                        rotate_left
                        · intro w'
                          go_simp
                          with_reducible rfl
                        rotate_left
                        · simp only [Act.put, List.setIfInBounds_toArray, List.set_cons_zero, List.set_cons_succ, i64_w, i32_w]
                          rfl
                        refine pure_ (i := 2) (N := some 151) (v := ?_) (a' := ?_) #[true, true, true, false, false, false, false, false, false, false, false, false, false, false, false, false, false, false, false, false, false, false, false, false, false, false, false, false, false] rfl rfl (any_of HT_.out (by kernel_rfl)) (fun _ _ _ h => h) (Or.inl ⟨by rfl, ?_⟩) ?_ ?_
                        rotate_left
                        · intro w'
                          go_simp
                          with_reducible rfl
                        rotate_left
                        · simp only [Act.put, List.setIfInBounds_toArray, List.set_cons_zero, List.set_cons_succ, i64_w, i32_w]
                          rfl
                        refine pure_ (i := 3) (N := some 152) (v := ?_) (a' := ?_) #[true, true, true, true, false, false, false, false, false, false, false, false, false, false, false, false, false, false, false, false, false, false, false, false, false, false, false, false, false] rfl rfl (any_of HT_.out (by kernel_rfl)) (fun _ _ _ h => h) (Or.inl ⟨by rfl, ?_⟩) ?_ ?_
                        rotate_left
                        · intro w'
                          go_simp
                          with_reducible rfl
                        rotate_left
                        · simp only [Act.put, List.setIfInBounds_toArray, List.set_cons_zero, List.set_cons_succ, i64_w, i32_w]
                          rfl
                        refine pure_ (i := 4) (N := some 153) (v := ?_) (a' := ?_) #[true, true, true, true, true, false, false, false, false, false, false, false, false, false, false, false, false, false, false, false, false, false, false, false, false, false, false, false, false] rfl rfl (any_of HT_.out (by kernel_rfl)) (fun _ _ _ h => h) (Or.inl ⟨by rfl, ?_⟩) ?_ ?_
                        rotate_left
                        · intro w'
                          go_simp
                          with_reducible rfl
                        rotate_left
                        · simp only [Act.put, List.setIfInBounds_toArray, List.set_cons_zero, List.set_cons_succ, i64_w, i32_w]
                          rfl
                        refine pure_ (i := 5) (N := some 154) (v := ?_) (a' := ?_) #[true, true, true, true, true, true, false, false, false, false, false, false, false, false, false, false, false, false, false, false, false, false, false, false, false, false, false, false, false] rfl rfl (any_of HT_.out (by kernel_rfl)) (fun _ _ _ h => h) (Or.inl ⟨by rfl, ?_⟩) ?_ ?_
                        rotate_left
                        · intro w'
                          go_simp
                          with_reducible rfl
                        rotate_left
                        · simp only [Act.put, List.setIfInBounds_toArray, List.set_cons_zero, List.set_cons_succ, i64_w, i32_w]
                          rfl
                        refine pure_ (i := 6) (N := some 155) (v := undef) (a' := ?_) #[true, true, true, true, true, true, true, false, false, false, false, false, false, false, false, false, false, false, false, false, false, false, false, false, false, false, false, false, false] rfl rfl (any_of HT_.out (by kernel_rfl)) (fun _ _ _ h => h) (Or.inr ⟨by rfl, rfl⟩) ?_ ?_
                        rotate_left
                        · simp only [Act.put, List.setIfInBounds_toArray, List.set_cons_zero, List.set_cons_succ, i64_w, i32_w]
                          rfl
                        refine pure_ (i := 7) (N := some 156) (v := undef) (a' := ?_) #[true, true, true, true, true, true, true, true, false, false, false, false, false, false, false, false, false, false, false, false, false, false, false, false, false, false, false, false, false] rfl rfl (any_of HT_.out (by kernel_rfl)) (fun _ _ _ h => h) (Or.inr ⟨by rfl, rfl⟩) ?_ ?_
                        rotate_left
                        · simp only [Act.put, List.setIfInBounds_toArray, List.set_cons_zero, List.set_cons_succ, i64_w, i32_w]
                          rfl
                        refine pure_ (i := 8) (N := some 157) (v := undef) (a' := ?_) #[true, true, true, true, true, true, true, true, true, false, false, false, false, false, false, false, false, false, false, false, false, false, false, false, false, false, false, false, false] rfl rfl (any_of HT_.out (by kernel_rfl)) (fun _ _ _ h => h) (Or.inr ⟨by rfl, rfl⟩) ?_ ?_
                        rotate_left
                        · simp only [Act.put, List.setIfInBounds_toArray, List.set_cons_zero, List.set_cons_succ, i64_w, i32_w]
                          rfl
                        refine pure_ (i := 9) (N := some 158) (v := undef) (a' := ?_) #[true, true, true, true, true, true, true, true, true, true, false, false, false, false, false, false, false, false, false, false, false, false, false, false, false, false, false, false, false] rfl rfl (any_of HT_.out (by kernel_rfl)) (fun _ _ _ h => h) (Or.inr ⟨by rfl, rfl⟩) ?_ ?_
                        rotate_left
                        · simp only [Act.put, List.setIfInBounds_toArray, List.set_cons_zero, List.set_cons_succ, i64_w, i32_w]
                          rfl
                        refine pure_ (i := 10) (N := some 159) (v := undef) (a' := ?_) #[true, true, true, true, true, true, true, true, true, true, true, false, false, false, false, false, false, false, false, false, false, false, false, false, false, false, false, false, false] rfl rfl (any_of HT_.out (by kernel_rfl)) (fun _ _ _ h => h) (Or.inr ⟨by rfl, rfl⟩) ?_ ?_
                        rotate_left
                        · simp only [Act.put, List.setIfInBounds_toArray, List.set_cons_zero, List.set_cons_succ, i64_w, i32_w]
                          rfl
                        refine pure_ (i := 11) (N := some 160) (v := undef) (a' := ?_) #[true, true, true, true, true, true, true, true, true, true, true, true, false, false, false, false, false, false, false, false, false, false, false, false, false, false, false, false, false] rfl rfl (any_of HT_.out (by kernel_rfl)) (fun _ _ _ h => h) (Or.inr ⟨by rfl, rfl⟩) ?_ ?_
                        rotate_left
                        · simp only [Act.put, List.setIfInBounds_toArray, List.set_cons_zero, List.set_cons_succ, i64_w, i32_w]
                          rfl
                        refine pure_ (i := 12) (N := some 161) (v := undef) (a' := ?_) #[true, true, true, true, true, true, true, true, true, true, true, true, true, false, false, false, false, false, false, false, false, false, false, false, false, false, false, false, false] rfl rfl (any_of HT_.out (by kernel_rfl)) (fun _ _ _ h => h) (Or.inr ⟨by rfl, rfl⟩) ?_ ?_
                        rotate_left
                        · simp only [Act.put, List.setIfInBounds_toArray, List.set_cons_zero, List.set_cons_succ, i64_w, i32_w]
                          rfl
                        refine pure_ (i := 13) (N := some 162) (v := undef) (a' := ?_) #[true, true, true, true, true, true, true, true, true, true, true, true, true, true, false, false, false, false, false, false, false, false, false, false, false, false, false, false, false] rfl rfl (any_of HT_.out (by kernel_rfl)) (fun _ _ _ h => h) (Or.inr ⟨by rfl, rfl⟩) ?_ ?_
                        rotate_left
                        · simp only [Act.put, List.setIfInBounds_toArray, List.set_cons_zero, List.set_cons_succ, i64_w, i32_w]
                          rfl
                        refine pure_ (i := 14) (N := some 163) (v := undef) (a' := ?_) #[true, true, true, true, true, true, true, true, true, true, true, true, true, true, true, false, false, false, false, false, false, false, false, false, false, false, false, false, false] rfl rfl (any_of HT_.out (by kernel_rfl)) (fun _ _ _ h => h) (Or.inr ⟨by rfl, rfl⟩) ?_ ?_
                        rotate_left
                        · simp only [Act.put, List.setIfInBounds_toArray, List.set_cons_zero, List.set_cons_succ, i64_w, i32_w]
                          rfl
                        refine pure_ (i := 15) (N := some 164) (v := undef) (a' := ?_) #[true, true, true, true, true, true, true, true, true, true, true, true, true, true, true, true, false, false, false, false, false, false, false, false, false, false, false, false, false] rfl rfl (any_of HT_.out (by kernel_rfl)) (fun _ _ _ h => h) (Or.inr ⟨by rfl, rfl⟩) ?_ ?_
                        rotate_left
                        · simp only [Act.put, List.setIfInBounds_toArray, List.set_cons_zero, List.set_cons_succ, i64_w, i32_w]
                          rfl
                        refine pure_ (i := 16) (N := some 165) (v := undef) (a' := ?_) #[true, true, true, true, true, true, true, true, true, true, true, true, true, true, true, true, true, false, false, false, false, false, false, false, false, false, false, false, false] rfl rfl (any_of HT_.out (by kernel_rfl)) (fun _ _ _ h => h) (Or.inr ⟨by rfl, rfl⟩) ?_ ?_
                        rotate_left
                        · simp only [Act.put, List.setIfInBounds_toArray, List.set_cons_zero, List.set_cons_succ, i64_w, i32_w]
                          rfl
                        refine pure_ (i := 17) (N := some 166) (v := undef) (a' := ?_) #[true, true, true, true, true, true, true, true, true, true, true, true, true, true, true, true, true, true, false, false, false, false, false, false, false, false, false, false, false] rfl rfl (any_of HT_.out (by kernel_rfl)) (fun _ _ _ h => h) (Or.inr ⟨by rfl, rfl⟩) ?_ ?_
                        rotate_left
                        · simp only [Act.put, List.setIfInBounds_toArray, List.set_cons_zero, List.set_cons_succ, i64_w, i32_w]
                          rfl
                        refine pure_ (i := 18) (N := some 167) (v := ?_) (a' := ?_) #[true, true, true, true, true, true, true, true, true, true, true, true, true, true, true, true, true, true, true, false, false, false, false, false, false, false, false, false, false] rfl rfl (any_of HT_.out (by kernel_rfl)) (fun _ _ _ h => h) (Or.inl ⟨by rfl, ?_⟩) ?_ ?_
                        rotate_left
                        · intro w'
                          go_simp
                          with_reducible rfl
                        rotate_left
                        · simp only [Act.put, List.setIfInBounds_toArray, List.set_cons_zero, List.set_cons_succ, i64_w, i32_w]
                          rfl
                        refine pure_ (i := 19) (N := some 168) (v := ?_) (a' := ?_) #[true, true, true, true, true, true, true, true, true, true, true, true, true, true, true, true, true, true, true, true, false, false, false, false, false, false, false, false, false] rfl rfl (any_of HT_.out (by kernel_rfl)) (fun _ _ _ h => h) (Or.inl ⟨by rfl, ?_⟩) ?_ ?_
                        rotate_left
                        · intro w'
                          go_simp
                          with_reducible rfl
                        rotate_left
                        · simp only [Act.put, List.setIfInBounds_toArray, List.set_cons_zero, List.set_cons_succ, i64_w, i32_w]
                          rfl
                        refine pure_ (i := 20) (N := some 169) (v := ?_) (a' := ?_) #[true, true, true, true, true, true, true, true, true, true, true, true, true, true, true, true, true, true, true, true, true, false, false, false, false, false, false, false, false] rfl rfl (any_of HT_.out (by kernel_rfl)) (fun _ _ _ h => h) (Or.inl ⟨by rfl, ?_⟩) ?_ ?_
                        rotate_left
                        · intro w'
                          go_simp
                          with_reducible rfl
                        rotate_left
                        · simp only [Act.put, List.setIfInBounds_toArray, List.set_cons_zero, List.set_cons_succ, i64_w, i32_w]
                          rfl
                        refine pure_ (i := 21) (N := some 170) (v := ?_) (a' := ?_) #[true, true, true, true, true, true, true, true, true, true, true, true, true, true, true, true, true, true, true, true, true, true, false, false, false, false, false, false, false] rfl rfl (any_of HT_.out (by kernel_rfl)) (fun _ _ _ h => h) (Or.inl ⟨by rfl, ?_⟩) ?_ ?_
                        rotate_left
                        · intro w'
                          go_simp
                          with_reducible rfl
                        rotate_left
                        · simp only [Act.put, List.setIfInBounds_toArray, List.set_cons_zero, List.set_cons_succ, i64_w, i32_w]
                          rfl
                        refine pure_ (i := 22) (N := some 171) (v := ?_) (a' := ?_) #[true, true, true, true, true, true, true, true, true, true, true, true, true, true, true, true, true, true, true, true, true, true, true, false, false, false, false, false, false] rfl rfl (any_of HT_.out (by kernel_rfl)) (fun _ _ _ h => h) (Or.inl ⟨by rfl, ?_⟩) ?_ ?_
                        rotate_left
                        · intro w'
                          go_simp
                          with_reducible rfl
                        rotate_left
                        · simp only [Act.put, List.setIfInBounds_toArray, List.set_cons_zero, List.set_cons_succ, i64_w, i32_w]
                          rfl
                        refine pure_ (i := 23) (N := some 172) (v := ?_) (a' := ?_) #[true, true, true, true, true, true, true, true, true, true, true, true, true, true, true, true, true, true, true, true, true, true, true, true, false, false, false, false, false] rfl rfl (any_of HT_.out (by kernel_rfl)) (fun _ _ _ h => h) (Or.inl ⟨by rfl, ?_⟩) ?_ ?_
                        rotate_left
                        · intro w'
                          go_simp
                          with_reducible rfl
                        rotate_left
                        · simp only [Act.put, List.setIfInBounds_toArray, List.set_cons_zero, List.set_cons_succ, i64_w, i32_w]
                          rfl
                        refine pure_ (i := 24) (N := some 173) (v := ?_) (a' := ?_) #[true, true, true, true, true, true, true, true, true, true, true, true, true, true, true, true, true, true, true, true, true, true, true, true, true, false, false, false, false] rfl rfl (any_of HT_.out (by kernel_rfl)) (fun _ _ _ h => h) (Or.inl ⟨by rfl, ?_⟩) ?_ ?_
                        rotate_left
                        · intro w'
                          go_simp
                          with_reducible rfl
                        rotate_left
                        · simp only [Act.put, List.setIfInBounds_toArray, List.set_cons_zero, List.set_cons_succ, i64_w, i32_w]
                          rfl
                        refine pure_ (i := 25) (N := some 174) (v := ?_) (a' := ?_) #[true, true, true, true, true, true, true, true, true, true, true, true, true, true, true, true, true, true, true, true, true, true, true, true, true, true, false, false, false] rfl rfl (any_of HT_.out (by kernel_rfl)) (fun _ _ _ h => h) (Or.inl ⟨by rfl, ?_⟩) ?_ ?_
                        rotate_left
                        · intro w'
                          go_simp
                          with_reducible rfl
                        rotate_left
                        · simp only [Act.put, List.setIfInBounds_toArray, List.set_cons_zero, List.set_cons_succ, i64_w, i32_w]
                          rfl
                        refine take_ (i := 26) (N := some 175) (v := ?_) (a' := ?_) #[true, true, true, true, true, true, true, true, true, true, true, true, true, true, true, true, true, true, true, true, true, true, true, true, true, true, true, false, false] rfl rfl (take_ofW HT_.out HW_.out (by kernel_rfl)) (fun _ _ _ h => h) (Or.inl ⟨by rfl, ?_⟩) hHeld ?_ ?_
                        rotate_left
                        · rintro w' s1
                          go_simp
                          with_reducible rfl
                        rotate_left
                        · simp only [Act.put, List.setIfInBounds_toArray, List.set_cons_zero, List.set_cons_succ, i64_w, i32_w]
                          rfl
                        refine one_ (i := 27) (N := some 176) #[true, true, true, true, true, true, true, true, true, true, true, true, true, true, true, true, true, true, true, true, true, true, true, true, true, true, true, true, false] rfl rfl (one_of HT_.out (by kernel_rfl)) (by decide) (fun K hK => ?_)
                        refine goes_ Try.func11 (by kernel_rfl) rfl #[.pointer (some ⟨g1, 0, none⟩), .int .i64 y.f0] (by rfl) rfl rfl (by (try simp only [List.map_toArray, List.map_cons, List.map_nil]); first | done | rfl) ?_
                        with_reducible refine (waits_none HG.out (below_drew1 HQ2.out) y.f0 hwy).mono ?_
                        rintro e w9 ⟨rfl, hb9⟩
                        refine ⟨_, rfl, ?_⟩
                        have H9 := Aside0.mk hb9
                        obtain ⟨ada, ya, hya, ea, ia0, _⟩ := at_I (Kd.C_below HX.out (below_step (below_drew1 HQ2.out) hb9)) x XA.out.1 XA.out.2.2
                        cases ea
                        cases (Option.some.inj (HY.out.symm.trans hya))
                        clear hb9 hya
                        refine hK.out _ _ ia0 (fun hHeld => ?_)
                        clear hK K
                        refine norm_ (a' := ?_) ?_ ?_
                        rotate_left
                        · show Act.put _ (some 176) _ = _
                          simp only [Act.put, List.setIfInBounds_toArray, List.set_cons_zero, List.set_cons_succ, i64_w, i32_w]
                          rfl
                        refine pure_ (i := 28) (N := some 177) (v := ?_) (a' := ?_) #[true, true, true, true, true, true, true, true, true, true, true, true, true, true, true, true, true, true, true, true, true, true, true, true, true, true, true, true, true] rfl rfl (any_of HT_.out (by kernel_rfl)) (fun _ _ _ h => h) (Or.inl ⟨by rfl, ?_⟩) ?_ ?_
                        rotate_left
                        · intro w'
                          go_simp
                          with_reducible rfl
                        rotate_left
                        · simp only [Act.put, List.setIfInBounds_toArray, List.set_cons_zero, List.set_cons_succ, i64_w, i32_w]
                          rfl
                        refine done_ (done_of HT_.out (by kernel_rfl)) ?_
                        go_wp2
                        have e := XA.out
                        have eL := HLG.out
                        rw [wrap_id (by omega) (by omega)]
                        exact ⟨⟨x + 1, rfl, by omega, by omega, below_step (below_drew1 HQ2.out) H9.out⟩, by simp only [intOf]; omega⟩
                · have xb : decide (x < (G.length : Int)) = false := decide_eq_false hx
                  clear hXq xx0 xx1 hx
                  go_wp2
                  exact once_step KA.out HL.out (below_step HB.out HQ.out) [] [] ((HG.out.below HQ.out).mono (Nat.zero_le _)) (Kd.R_nil _ _ _ _ _) (List.Perm.refl _) (Nat.le_trans (Nat.le_trans HBS.out (Nat.le_of_succ_le (bx_lt BX.out))) (below_size HQ.out))
            have q4 : (s.op == 4) = false := beq_eq_false_iff_ne.2 q
            clear q
            rcases HAT.out with ⟨rfl, hn⟩ | ⟨ha0, ha1, z, hz, hp⟩
            · have RW : hasP G s.p = false := hA1 rfl
              clear HAT HBQ HBc HGc HRc BXc hn hj j0 j1 hA1 hA2
              by_cases q : s.op = 1
              · have q1 : (s.op == 1) = true := beq_iff_eq.2 q
                clear q
                have RG : (if hasP G s.p then 180 else 0) = (0 : Int) := by rw [RW]; rfl
                have RO : offerL G (legI s.p s.t s.u s.f s.b) = offerL G (legS s) := rfl
                go_wp2_with (first | (go_at_call 11; (with_reducible refine (waits_at HG.out ?side1 s.p hwp _ RW).mono ?_); (case side1 => exact (by repeat (first | (with_reducible first | exact Below.refl _ _ | apply below_alloc | apply pw_below_drewN | apply below_drew1) | exact Below.refl _ _))); rintro e w5 ⟨rfl, hG1, hg1⟩; have bx := bx_g BX.out (by repeat (first | (with_reducible first | exact Below.refl _ _ | apply below_alloc | apply pw_below_drewN | apply below_drew1) | exact Below.refl _ _)) hg1 hm1b; clear BX; have BX := Aside0.mk bx; clear bx; obtain ⟨x0, x1, x2, x3, x4, x5⟩ := bx_c BX.out; have HR1 := Aside0.mk (R33_other (Kd.R_below HR.out (by repeat (first | (with_reducible first | exact Below.refl _ _ | apply below_alloc | apply pw_below_drewN | apply below_drew1) | exact Below.refl _ _))) hg1 hlm); have n_ := Aside0.mk (below_g (by repeat (first | (with_reducible first | exact HB.out | apply below_alloc | apply pw_below_drewN | apply below_drew1) | exact HB.out)) hg1 hm1); clear HB; have HB := n_; clear n_; clear HG HR; have HR := HR1; have HG := Aside0.mk hG1; clear HR1 hG1 hg1) | (go_at_call 10; (with_reducible refine (offer_at HG.out ?side1 ?side2 s.p s.t s.u s.f s.b hwp _ RG _ RO).mono ?_); (case side1 => exact (by repeat (first | (with_reducible first | exact Below.refl _ _ | apply below_alloc | apply pw_below_drewN | apply below_drew1) | exact Below.refl _ _))); (case side2 => exact hnk); rintro e w6 ⟨rfl, hG1, hg1⟩; have bx := bx_g BX.out (by repeat (first | (with_reducible first | exact Below.refl _ _ | apply below_alloc | apply pw_below_drewN | apply below_drew1) | exact Below.refl _ _)) hg1 hm1b; clear BX; have BX := Aside0.mk bx; clear bx; obtain ⟨x0, x1, x2, x3, x4, x5⟩ := bx_c BX.out; have HR1 := Aside0.mk (R33_other (Kd.R_below HR.out (by repeat (first | (with_reducible first | exact Below.refl _ _ | apply below_alloc | apply pw_below_drewN | apply below_drew1) | exact Below.refl _ _))) hg1 hlm); have n_ := Aside0.mk (below_g (by repeat (first | (with_reducible first | exact HB.out | apply below_alloc | apply pw_below_drewN | apply below_drew1) | exact HB.out)) hg1 hm1); clear HB; have HB := n_; clear n_; clear HG HR; have HR := HR1; have HG := Aside0.mk hG1; clear HR1 hG1 hg1) | (at_builtin; refine Kd.R_append k33 (w0 := _) Bs rfl (.tmp 81) (.tmp 83) 22 33 (.agg #[(.int .i64 0), (.int .i64 0), (.int .i64 0), (.int .i64 0), (.bool false), (.bool false)]) 40 rfl Try.underlying22 info33 rfl (by decide) (by omega) (.slice Aw WS.length cw) WS s [.int .i64 s.op, .int .i64 s.p, .int .i64 s.t, .int .i64 s.u, .bool s.f, .bool s.b] (fun _ => True) (fun _ => False) rfl (by simp [Act.eval]) ?aP (fun _ hk => hk.elim) (fun _ _ => trivial) ?aO (Below.refl _ _) ?aS ?aL ?_; (case aP => exact k33_mkM _ _ _ s); (case aO => exact (by (with_reducible repeat (first | apply Kd.R_alloc | apply Kd.R_drewN | apply Kd.R_drew)); exact HR.out)); (case aS => exact Nat.le_trans (Nat.le_trans HBS.out (Nat.le_of_succ_le (bx_lt BX.out))) (below_size (by repeat (first | (with_reducible first | exact Below.refl _ _ | apply below_alloc | apply pw_below_drewN | apply below_drew1) | exact Below.refl _ _)))); (case aL => have e := HLG.out; have e2 := HL.out; omega); intro v9 w9 ho9 hb9 hg9 hat9; have hbase := R33_base HR.out; have n_ := Aside0.mk (Below.grown (B := w.heap.size) (a := w) (by repeat (first | (with_reducible first | exact HB.out | apply below_alloc | apply pw_below_drewN | apply below_drew1) | exact HB.out)) hg9 (below_size (by repeat (first | (with_reducible first | exact HB.out | apply below_alloc | apply pw_below_drewN | apply below_drew1) | exact HB.out))) (fun k hk => by have := hbase k hk; omega)); have n2_ := Aside0.mk (GateAt.grown (HG.out.below (by repeat (first | (with_reducible first | exact Below.refl _ _ | apply below_alloc | apply pw_below_drewN | apply below_drew1) | exact Below.refl _ _))) hg9 (fun e => by have := hbase _ e.symm; omega) (fun e => by have := hbase _ e.symm; omega)); have n3_ := Aside0.mk ho9; have HS := Aside0.mk (Nat.le_trans (Nat.le_trans HBS.out (Nat.le_of_succ_le (bx_lt BX.out))) (Nat.le_trans (below_size (by repeat (first | (with_reducible first | exact Below.refl _ _ | apply below_alloc | apply pw_below_drewN | apply below_drew1) | exact Below.refl _ _))) hg9.size)); clear HB HG HR hbase hb9 hg9 hat9 ho9; have HB := n_; have HG := n2_; have HR := n3_; clear n_ n2_ n3_))
                exact once_step KA.out HL.out HB.out _ _ HG.out HR.out (once_offer HO.out s RW) HS.out
              · have q1 : (s.op == 1) = false := beq_eq_false_iff_ne.2 q
                clear q
                by_cases q : s.op = 3
                · have q3 : (s.op == 3) = true := beq_iff_eq.2 q
                  clear q
                  go_wp2_with (first | (go_at_call 11; (with_reducible refine (waits_at HG.out ?side1 s.p hwp _ RW).mono ?_); (case side1 => exact (by repeat (first | (with_reducible first | exact Below.refl _ _ | apply below_alloc | apply pw_below_drewN | apply below_drew1) | exact Below.refl _ _))); rintro e w5 ⟨rfl, hG1, hg1⟩; have bx := bx_g BX.out (by repeat (first | (with_reducible first | exact Below.refl _ _ | apply below_alloc | apply pw_below_drewN | apply below_drew1) | exact Below.refl _ _)) hg1 hm1b; clear BX; have BX := Aside0.mk bx; clear bx; obtain ⟨x0, x1, x2, x3, x4, x5⟩ := bx_c BX.out; have HR1 := Aside0.mk (R33_other (Kd.R_below HR.out (by repeat (first | (with_reducible first | exact Below.refl _ _ | apply below_alloc | apply pw_below_drewN | apply below_drew1) | exact Below.refl _ _))) hg1 hlm); have n_ := Aside0.mk (below_g (by repeat (first | (with_reducible first | exact HB.out | apply below_alloc | apply pw_below_drewN | apply below_drew1) | exact HB.out)) hg1 hm1); clear HB; have HB := n_; clear n_; clear HG HR; have HR := HR1; have HG := Aside0.mk hG1; clear HR1 hG1 hg1) | (go_at_call 14; (with_reducible refine (drop_at HG.out ?side1 s.p hwp _ RW _ rfl).mono ?_); (case side1 => exact (by repeat (first | (with_reducible first | exact Below.refl _ _ | apply below_alloc | apply pw_below_drewN | apply below_drew1) | exact Below.refl _ _))); rintro e w6 ⟨rfl, hG1, hg1⟩; have bx := bx_g BX.out (by repeat (first | (with_reducible first | exact Below.refl _ _ | apply below_alloc | apply pw_below_drewN | apply below_drew1) | exact Below.refl _ _)) hg1 hm1b; clear BX; have BX := Aside0.mk bx; clear bx; obtain ⟨x0, x1, x2, x3, x4, x5⟩ := bx_c BX.out; have HR1 := Aside0.mk (R33_other (Kd.R_below HR.out (by repeat (first | (with_reducible first | exact Below.refl _ _ | apply below_alloc | apply pw_below_drewN | apply below_drew1) | exact Below.refl _ _))) hg1 hlm); have n_ := Aside0.mk (below_g (by repeat (first | (with_reducible first | exact HB.out | apply below_alloc | apply pw_below_drewN | apply below_drew1) | exact HB.out)) hg1 hm1); clear HB; have HB := n_; clear n_; clear HG HR; have HR := HR1; have HG := Aside0.mk hG1; clear HR1 hG1 hg1))
                  exact once_step KA.out HL.out HB.out _ _ (HG.out.mono (Nat.le_succ _)) HR.out (by rw [dropP_none RW]; exact HO.out) (Nat.le_trans HBS.out (Nat.le_of_succ_le (bx_lt BX.out)))
                · have q3 : (s.op == 3) = false := beq_eq_false_iff_ne.2 q
                  clear q
                  go_wp2_with (go_at_call 11; (with_reducible refine (waits_at HG.out ?side1 s.p hwp _ RW).mono ?_); (case side1 => exact (by repeat (first | (with_reducible first | exact Below.refl _ _ | apply below_alloc | apply pw_below_drewN | apply below_drew1) | exact Below.refl _ _))); rintro e w5 ⟨rfl, hG1, hg1⟩; have bx := bx_g BX.out (by repeat (first | (with_reducible first | exact Below.refl _ _ | apply below_alloc | apply pw_below_drewN | apply below_drew1) | exact Below.refl _ _)) hg1 hm1b; clear BX; have BX := Aside0.mk bx; clear bx; obtain ⟨x0, x1, x2, x3, x4, x5⟩ := bx_c BX.out; have HR1 := Aside0.mk (R33_other (Kd.R_below HR.out (by repeat (first | (with_reducible first | exact Below.refl _ _ | apply below_alloc | apply pw_below_drewN | apply below_drew1) | exact Below.refl _ _))) hg1 hlm); have n_ := Aside0.mk (below_g (by repeat (first | (with_reducible first | exact HB.out | apply below_alloc | apply pw_below_drewN | apply below_drew1) | exact HB.out)) hg1 hm1); clear HB; have HB := n_; clear n_; clear HG HR; have HR := HR1; have HG := Aside0.mk hG1; clear HR1 hG1 hg1)
                  exact once_step KA.out HL.out HB.out _ _ (HG.out.mono (Nat.le_succ _)) HR.out HO.out (Nat.le_trans HBS.out (Nat.le_of_succ_le (bx_lt BX.out)))
            · have RW : hasP G s.p = true := (once_has HO.out s.p).2 ⟨z, List.mem_of_getElem? hz, hp⟩
              have AA := Aside0.mk (And.intro ha0 (And.intro ha1 (And.intro hz hp)))
              have g1b : decide (a ≥ 0) = true := decide_eq_true ha0
              have g2b : decide (0 ≤ a) = true := decide_eq_true ha0
              have g3b : decide (a < 0) = false := decide_eq_false (by omega)
              clear HAT HBQ HBc HGc HRc BXc hj j0 j1 ha0 ha1 hz hp hA1 hA2
              by_cases q : s.op = 1
              · have q1 : (s.op == 1) = true := beq_iff_eq.2 q
                clear q
                have RG : (if hasP G s.p then 180 else 0) = (180 : Int) := by rw [RW]; rfl
                have RO : offerL G (legI s.p s.t s.u s.f s.b) = G := offer_same s RW
                go_wp2_with (first | (go_at_call 11; (with_reducible refine (waits_at HG.out ?side1 s.p hwp _ RW).mono ?_); (case side1 => exact (by repeat (first | (with_reducible first | exact Below.refl _ _ | apply below_alloc | apply pw_below_drewN | apply below_drew1) | exact Below.refl _ _))); rintro e w5 ⟨rfl, hG1, hg1⟩; have bx := bx_g BX.out (by repeat (first | (with_reducible first | exact Below.refl _ _ | apply below_alloc | apply pw_below_drewN | apply below_drew1) | exact Below.refl _ _)) hg1 hm1b; clear BX; have BX := Aside0.mk bx; clear bx; obtain ⟨x0, x1, x2, x3, x4, x5⟩ := bx_c BX.out; have HR1 := Aside0.mk (R33_other (Kd.R_below HR.out (by repeat (first | (with_reducible first | exact Below.refl _ _ | apply below_alloc | apply pw_below_drewN | apply below_drew1) | exact Below.refl _ _))) hg1 hlm); have n_ := Aside0.mk (below_g (by repeat (first | (with_reducible first | exact HB.out | apply below_alloc | apply pw_below_drewN | apply below_drew1) | exact HB.out)) hg1 hm1); clear HB; have HB := n_; clear n_; clear HG HR; have HR := HR1; have HG := Aside0.mk hG1; clear HR1 hG1 hg1) | (go_at_call 10; (with_reducible refine (offer_at HG.out ?side1 ?side2 s.p s.t s.u s.f s.b hwp _ RG _ RO).mono ?_); (case side1 => exact (by repeat (first | (with_reducible first | exact Below.refl _ _ | apply below_alloc | apply pw_below_drewN | apply below_drew1) | exact Below.refl _ _))); (case side2 => exact hnk); rintro e w6 ⟨rfl, hG1, hg1⟩; have bx := bx_g BX.out (by repeat (first | (with_reducible first | exact Below.refl _ _ | apply below_alloc | apply pw_below_drewN | apply below_drew1) | exact Below.refl _ _)) hg1 hm1b; clear BX; have BX := Aside0.mk bx; clear bx; obtain ⟨x0, x1, x2, x3, x4, x5⟩ := bx_c BX.out; have HR1 := Aside0.mk (R33_other (Kd.R_below HR.out (by repeat (first | (with_reducible first | exact Below.refl _ _ | apply below_alloc | apply pw_below_drewN | apply below_drew1) | exact Below.refl _ _))) hg1 hlm); have n_ := Aside0.mk (below_g (by repeat (first | (with_reducible first | exact HB.out | apply below_alloc | apply pw_below_drewN | apply below_drew1) | exact HB.out)) hg1 hm1); clear HB; have HB := n_; clear n_; clear HG HR; have HR := HR1; have HG := Aside0.mk hG1; clear HR1 hG1 hg1))
                exact once_step KA.out HL.out HB.out _ _ HG.out HR.out HO.out (Nat.le_trans HBS.out (Nat.le_of_succ_le (bx_lt BX.out)))
              · have q1 : (s.op == 1) = false := beq_eq_false_iff_ne.2 q
                clear q
                by_cases q : s.op = 3
                · have q3 : (s.op == 3) = true := beq_iff_eq.2 q
                  clear q
                  have hA := Kd.R_reads HR.out
                  obtain ⟨A', c', ea, _, hCA⟩ := hA
                  injection ea with ea1 ea2 ea3
                  subst ea1
                  subst ea3
                  obtain ⟨ad, z0, hz0, e1, _⟩ := at_T33 hCA a AA.out.1 AA.out.2.1
                  subst e1
                  obtain ⟨gw, hgw⟩ := Kd.R_head HR.out
                  subst hgw
                  obtain ⟨m, hm⟩ : ∃ m, wrap64 ((WS.length : Int) - 1) = m := ⟨_, rfl⟩
                  have hme : m = (WS.length : Int) - 1 := by
                    have e := HLG.out
                    rw [← hm, wrap_id (by omega) (by omega)]
                  have e0 := AA.out
                  have m0 : 0 ≤ m := by omega
                  have m1' : m < (WS.length : Int) := by omega
                  have MM := Aside0.mk hme
                  have pm0 : (0 ≤ m) = True := eq_true m0
                  have pm1 : (m < (WS.length : Int)) = True := eq_true m1'
                  have pa0 : (0 ≤ a) = True := eq_true e0.1
                  have pa1 : (a < (WS.length : Int)) = True := eq_true e0.2.1
                  have M0 := Aside0.mk (And.intro m0 m1')
                  have pmc : (m ≤ (cw : Int)) = True := eq_true (by omega)
                  clear hCA hme e0 m0 m1' hz0
                  go_wp2_with (first | (go_at_call 11; (with_reducible refine (waits_at HG.out ?side1 s.p hwp _ RW).mono ?_); (case side1 => exact (by repeat (first | (with_reducible first | exact Below.refl _ _ | apply below_alloc | apply pw_below_drewN | apply below_drew1) | exact Below.refl _ _))); rintro e w5 ⟨rfl, hG1, hg1⟩; have bx := bx_g BX.out (by repeat (first | (with_reducible first | exact Below.refl _ _ | apply below_alloc | apply pw_below_drewN | apply below_drew1) | exact Below.refl _ _)) hg1 hm1b; clear BX; have BX := Aside0.mk bx; clear bx; obtain ⟨x0, x1, x2, x3, x4, x5⟩ := bx_c BX.out; have HR1 := Aside0.mk (R33_other (Kd.R_below HR.out (by repeat (first | (with_reducible first | exact Below.refl _ _ | apply below_alloc | apply pw_below_drewN | apply below_drew1) | exact Below.refl _ _))) hg1 hlm); have n_ := Aside0.mk (below_g (by repeat (first | (with_reducible first | exact HB.out | apply below_alloc | apply pw_below_drewN | apply below_drew1) | exact HB.out)) hg1 hm1); clear HB; have HB := n_; clear n_; clear HG HR; have HR := HR1; have HG := Aside0.mk hG1; clear HR1 hG1 hg1) | (go_at_call 14; (with_reducible refine (drop_at HG.out ?side1 s.p hwp _ RW _ rfl).mono ?_); (case side1 => exact (by repeat (first | (with_reducible first | exact Below.refl _ _ | apply below_alloc | apply pw_below_drewN | apply below_drew1) | exact Below.refl _ _))); rintro e w6 ⟨rfl, hG1, hg1⟩; have bx := bx_g BX.out (by repeat (first | (with_reducible first | exact Below.refl _ _ | apply below_alloc | apply pw_below_drewN | apply below_drew1) | exact Below.refl _ _)) hg1 hm1b; clear BX; have BX := Aside0.mk bx; clear bx; obtain ⟨x0, x1, x2, x3, x4, x5⟩ := bx_c BX.out; have HR1 := Aside0.mk (R33_other (Kd.R_below HR.out (by repeat (first | (with_reducible first | exact Below.refl _ _ | apply below_alloc | apply pw_below_drewN | apply below_drew1) | exact Below.refl _ _))) hg1 hlm); have n_ := Aside0.mk (below_g (by repeat (first | (with_reducible first | exact HB.out | apply below_alloc | apply pw_below_drewN | apply below_drew1) | exact HB.out)) hg1 hm1); clear HB; have HB := n_; clear n_; clear HG HR; have HR := HR1; have HG := Aside0.mk hG1; clear HR1 hG1 hg1; obtain ⟨y, hy, y0, y1, y2, y3, y4, y5⟩ := at_G33 (R33_row HR.out) m M0.out.1 M0.out.2; have HY := Aside0.mk hy; obtain ⟨z9, hz9, v0, v1, v2, v3, v4, v5⟩ := at_G33 (R33_row HR.out) a AA.out.1 AA.out.2.1; have HZ9 := Aside0.mk hz9; clear hy hz9) | (refine gate_ (.store 33 (.tmp 104) (.tmp 103)) rfl ?_; (refine Kd.R_store k33 (w0 := w6) Bs rfl rfl 33 (.tmp 104) (.tmp 103) rfl 33 (g := gw) (n := WS.length) (cap := _) (o' := a.toNat * 6) a 0 WS y (.agg #[.int .i64 y.op, .int .i64 y.p, .int .i64 y.t, .int .i64 y.u, .bool y.f, .bool y.b]) [.int .i64 y.op, .int .i64 y.p, .int .i64 y.t, .int .i64 y.u, .bool y.f, .bool y.b] [.int .i64 z9.op, .int .i64 z9.p, .int .i64 z9.t, .int .i64 z9.u, .bool z9.f, .bool z9.b] (fun _ => True) (fun _ => False) ?haddr rfl ?hx rfl ?ht ?h1 HR.out AA.out.1 AA.out.2.1 rfl ?hcc (Nat.le_refl 6) ?hM (fun _ h => h.elim) (Below.refl _ _) ?_; (case haddr => first | rfl | simp [Act.eval, Addr.add]); (case hx => first | rfl | simp [Act.eval]); (case ht => kernel_rfl); (case h1 => intro q hq; simp at hq; rcases hq with rfl | rfl | rfl | rfl | rfl | rfl <;> rfl); (case hcc => intro jj uu hj; rcases jj with _ | _ | _ | _ | _ | _ | jj; (cases hj; exact v0); (cases hj; exact v1); (cases hj; exact v2); (cases hj; exact v3); (cases hj; exact v4); (cases hj; exact v5); (simp at hj)); (case hM => exact k33_mkM _ _ _ y); intro w7 hR7 hb7 hg7; have n_ := Aside0.mk (HG.out.grown hg7 (fun e => by have := R33_base HR.out gw rfl; injection e; omega) (fun e => by have := R33_base HR.out gw rfl; injection e; omega)); have hgB := R33_base HR.out gw rfl; have n2_ := Aside0.mk (below_g (mb := gw) (by repeat (first | (with_reducible first | exact HB.out | apply below_alloc | apply pw_below_drewN | apply below_drew1) | exact HB.out)) hg7 (Nat.le_trans hBs hgB)); have HS := Aside0.mk (Nat.le_trans (Nat.le_trans HBS.out (Nat.le_of_succ_le (bx_lt BX.out))) hg7.size); have n3_ := Aside0.mk hR7; clear HG HB HR hR7 hb7 hg7 hgB; have HG := n_; have HB := n2_; have HR := n3_; clear n_ n2_ n3_)))
                  have em := MM.out
                  have em0 := M0.out
                  have emn : m.toNat = WS.length - 1 := by omega
                  have hy1 : WS[WS.length - 1]? = some y := by rw [← emn]; exact HY.out
                  refine once_step KA.out HL.out HB.out _ ((WS.set a.toNat y).take m.toNat) (HG.out.mono (Nat.le_succ _)) (Kd.R_take HR.out (by rw [List.length_set]; omega)) ?_ HS.out
                  rw [emn]
                  exact once_drop HO.out SRT.out AA.out.2.2.1 AA.out.2.2.2 hy1
                · have q3 : (s.op == 3) = false := beq_eq_false_iff_ne.2 q
                  clear q
                  go_wp2_with (go_at_call 11; (with_reducible refine (waits_at HG.out ?side1 s.p hwp _ RW).mono ?_); (case side1 => exact (by repeat (first | (with_reducible first | exact Below.refl _ _ | apply below_alloc | apply pw_below_drewN | apply below_drew1) | exact Below.refl _ _))); rintro e w5 ⟨rfl, hG1, hg1⟩; have bx := bx_g BX.out (by repeat (first | (with_reducible first | exact Below.refl _ _ | apply below_alloc | apply pw_below_drewN | apply below_drew1) | exact Below.refl _ _)) hg1 hm1b; clear BX; have BX := Aside0.mk bx; clear bx; obtain ⟨x0, x1, x2, x3, x4, x5⟩ := bx_c BX.out; have HR1 := Aside0.mk (R33_other (Kd.R_below HR.out (by repeat (first | (with_reducible first | exact Below.refl _ _ | apply below_alloc | apply pw_below_drewN | apply below_drew1) | exact Below.refl _ _))) hg1 hlm); have n_ := Aside0.mk (below_g (by repeat (first | (with_reducible first | exact HB.out | apply below_alloc | apply pw_below_drewN | apply below_drew1) | exact HB.out)) hg1 hm1); clear HB; have HB := n_; clear n_; clear HG HR; have HR := HR1; have HG := Aside0.mk hG1; clear HR1 hG1 hg1)
                  exact once_step KA.out HL.out HB.out _ _ (HG.out.mono (Nat.le_succ _)) HR.out HO.out (Nat.le_trans HBS.out (Nat.le_of_succ_le (bx_lt BX.out)))
    · have kb : decide (k ≤ (l.length : Int)) = false := decide_eq_false hk
      clear hk h0 h1 hCw hgl hWG
      go_wp2
      go_ret
      exact ⟨rfl, (by repeat (first | (with_reducible first | exact HB.out | apply below_alloc | apply pw_below_drewN | apply below_drew1) | exact HB.out))⟩
end Go.Proofs.Ytokemjdfcifbbaa.Gt
