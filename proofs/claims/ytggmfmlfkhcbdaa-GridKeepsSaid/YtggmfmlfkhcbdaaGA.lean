/- near. -/
import Derived.Test.YtggmfmlfkhcbdaaG9
import Derived.Deep.CutRange
import Derived.Deep.CutBlock
namespace Go.Proofs.Ytggmfmlfkhcbdaa.Gr
open Go Go.RowKit Go.Maps Go.Proofs.YtggmfmlfkhcbdaaW.PrintWords Go.Proofs.YtggmfmlfkhcbdaaW.PrintLast Go.Proofs.YtggmfmlfkhcbdaaW.PrintMore
set_option linter.unusedVariables false
set_option linter.unusedSimpArgs false

theorem four_blocks (w : World) (A B C D : Obj) : ((((w.alloc A).alloc B).alloc C).alloc D).heap[w.heap.size]? = some A ∧ ((((w.alloc A).alloc B).alloc C).alloc D).heap[w.heap.size + 1]? = some B ∧ ((((w.alloc A).alloc B).alloc C).alloc D).heap[w.heap.size + 2]? = some C ∧ ((((w.alloc A).alloc B).alloc C).alloc D).heap[w.heap.size + 3]? = some D ∧ ((((w.alloc A).alloc B).alloc C).alloc D).heap.size = w.heap.size + 4 := by
  have s1 : (w.alloc A).heap.size = w.heap.size + 1 := by simp
  have s2 : ((w.alloc A).alloc B).heap.size = w.heap.size + 2 := by simp
  have s3 : (((w.alloc A).alloc B).alloc C).heap.size = w.heap.size + 3 := by simp
  refine ⟨?_, ?_, ?_, ?_, by simp⟩
  · rw [heap_alloc_old _ _ (by omega), heap_alloc_old _ _ (by omega), heap_alloc_old _ _ (by omega), heap_alloc_new]
  · rw [heap_alloc_old _ _ (by omega), heap_alloc_old _ _ (by omega), ← s1, heap_alloc_new]
  · rw [heap_alloc_old _ _ (by omega), ← s2, heap_alloc_new]
  · rw [← s3, heap_alloc_new]

theorem grown_none {w w' : World} (h : w.grownBy w' none) : Below w.heap.size w w' := ⟨h.os, h.tape, h.output, h.size, fun k hk => h.block k hk (by simp)⟩
theorem walk_len {rows : Int → Int → List Int} {n : Nat} (hr : ∀ x y, (rows x y).length ≤ n) (p : Int → Bool) (x0 x y0 : Int) (h k l : Nat) (hh : h ≤ 256) (hk : k ≤ 256) (hl : l ≤ 256) (zs : List Int) (hz : zs.length ≤ n) (hn : n ≤ 1000000) :
    (allF rows p x0 y0 h k ++ colF rows p x y0 l ++ zs).length ≤ 4000000000000 := by
  rw [List.length_append, List.length_append]
  have h1 := allF_len hr p x0 y0 h k
  have h2 := colF_len hr p x y0 l
  have h3 : h * n ≤ 256 * 1000000 := Nat.mul_le_mul hh hn
  have h4 : k * (h * n) ≤ 256 * (256 * 1000000) := Nat.mul_le_mul hk h3
  have h5 : l * n ≤ 256 * 1000000 := Nat.mul_le_mul hl hn
  omega
theorem span_wide {p r s : Int} (hp : I64 p) (h0 : 0 ≤ r) (hr : r < 2147483647) (hs : 1 ≤ s) : 0 ≤ hi p r / s - lo p r / s ∧ hi p r / s - lo p r / s ≤ 8589934592 := by
  unfold I64 at hp
  have a : lo p r ≤ hi p r := by unfold lo hi; split <;> split <;> omega
  have b : hi p r ≤ lo p r + 4294967294 := by unfold lo hi; split <;> split <;> omega
  have c := Int.ediv_le_ediv (c := s) (by omega) a
  have d : hi p r / s ≤ (lo p r + 4294967295 * s) / s := by
    refine Int.ediv_le_ediv (by omega) ?_
    have := Int.mul_le_mul_of_nonneg_left hs (show (0 : Int) ≤ 4294967295 by omega)
    omega
  rw [Int.add_mul_ediv_right _ _ (by omega)] at d
  omega
set_option maxHeartbeats 4000000 in
set_option maxRecDepth 10000 in
theorem near_calls {w : World} {gb pb cb : Nat} {F : Nat → Prop} {side : Int} {n : Nat} {L : List Th} {hd : Int → Int → Hd} {rows : Int → Int → List Int} (h : GridIn w gb pb cb F side n L hd rows) (hn : n ≤ 1000000) {ax ay r : Int} (hax : I64 ax) (hay : I64 ay) (hr : I64 r) :
    Calls Try.prog 31 #[.pointer (some ⟨gb, 0, none⟩), .agg #[.int .i64 ax, .int .i64 ay], .int .i64 r] w fun e w' =>
      ∃ v xs, e = .returned v ∧ ki.R 3 w' w.heap.size (fun _ => True) v xs ∧ xs.Perm (inL L ax ay r) ∧ Below w.heap.size w w' := by
  have HH := Aside0.mk h
  clear h
  go_enter Try.func31, Try.ntmps31
  go_upto_region 3 with fail
  refine absW (fun w1 => Below w.heap.size w w1 ∧ w1.heap[w.heap.size]? = some (.cells #[.pointer (some ⟨gb, 0, none⟩)] 24) ∧ w1.heap[w.heap.size + 1]? = some (.cells #[.int .i64 ax, .int .i64 ay] 32) ∧ w1.heap[w.heap.size + 2]? = some (.cells #[.int .i64 r] 2) ∧ w1.heap[w.heap.size + 3]? = some (.cells #[.slice none 0 0] 40) ∧ w.heap.size + 4 ≤ w1.heap.size) ?_ ?_
  · obtain ⟨f0, f1, f2, f3, f4⟩ := four_blocks w (.cells #[.pointer (some ⟨gb, 0, none⟩)] 24) (.cells #[.int .i64 ax, .int .i64 ay] 32) (.cells #[.int .i64 r] 2) (.cells #[.slice none 0 0] 40)
    exact ⟨(by repeat (first | (with_reducible first | exact Below.refl _ _ | apply below_alloc | apply pw_below_drewN | apply below_drew1) | exact Below.refl _ _)), f0, f1, f2, f3, by rw [f4]; exact Nat.le_refl _⟩
  rintro w1 ⟨hb1, k0, k1, k2, k3, k4⟩
  have c2 := (blk_cell k2 0).trans rfl
  by_cases h1 : 0 ≤ r
  · have q1 : decide (r ≥ 0) = true := decide_eq_true h1
    by_cases h2 : r < 2147483647
    · have q2 : decide (r < 2147483647) = true := decide_eq_true h2
      go_upto_if 26 with fail
      go_cut [] from 9 (fun wc => Below w.heap.size w wc ∧ wc.heap[w.heap.size]? = some (.cells #[.pointer (some ⟨gb, 0, none⟩)] 24) ∧ wc.heap[w.heap.size + 1]? = some (.cells #[.int .i64 ax, .int .i64 ay] 32) ∧ wc.heap[w.heap.size + 2]? = some (.cells #[.int .i64 r] 2) ∧ wc.heap[w.heap.size + 3]? = some (.cells #[.slice none 0 0] 40) ∧ w.heap.size + 4 ≤ wc.heap.size)
      case first =>
        have hg1 := HH.out.below hb1
        have c0 := hg1.c0
        have HG1 := Aside0.mk hg1
        have hs1 := hg1.s1
        clear hg1
        obtain ⟨X0, eX0⟩ : ∃ X, X = lo ax r / side := ⟨_, rfl⟩
        obtain ⟨X1, eX1⟩ : ∃ X, X = hi ax r / side := ⟨_, rfl⟩
        obtain ⟨Y0, eY0⟩ : ∃ X, X = lo ay r / side := ⟨_, rfl⟩
        obtain ⟨Y1, eY1⟩ : ∃ X, X = hi ay r / side := ⟨_, rfl⟩
        have sp1 := fun w' (hc : w'.cell? ⟨gb, 0, none⟩ = some (.int .i64 side)) => span_calls gb ax r side hax h1 h2 hs1 w' hc
        have sp2 := fun w' (hc : w'.cell? ⟨gb, 0, none⟩ = some (.int .i64 side)) => span_calls gb ay r side hay h1 h2 hs1 w' hc
        rw [← eX0, ← eX1] at sp1
        rw [← eY0, ← eY1] at sp2
        have iX0 : I64 X0 := eX0 ▸ down_I64 (lo_I64 hax h1) hs1
        have iX1 : I64 X1 := eX1 ▸ down_I64 (hi_I64 hax h1) hs1
        have iY0 : I64 Y0 := eY0 ▸ down_I64 (lo_I64 hay h1) hs1
        have iY1 : I64 Y1 := eY1 ▸ down_I64 (hi_I64 hay h1) hs1
        have bX := span_wide hax h1 h2 hs1
        have bY := span_wide hay h1 h2 hs1
        rw [← eX0, ← eX1] at bX
        rw [← eY0, ← eY1] at bY
        obtain ⟨Wd, eWd⟩ : ∃ W, W = X1 - X0 := ⟨_, rfl⟩
        obtain ⟨Hg, eHg⟩ : ∃ W, W = Y1 - Y0 := ⟨_, rfl⟩
        obtain ⟨Wd1, eWd1⟩ : ∃ W, W = Wd + 1 := ⟨_, rfl⟩
        obtain ⟨Hg1, eHg1⟩ : ∃ W, W = Hg + 1 := ⟨_, rfl⟩
        have wW : wrap64 (X1 - X0) = Wd := by rw [wrap_id (by unfold I64; omega), eWd]
        have wH : wrap64 (Y1 - Y0) = Hg := by rw [wrap_id (by unfold I64; omega), eHg]
        have wW1 : wrap64 (Wd + 1) = Wd1 := by rw [wrap_id (by unfold I64; omega), eWd1]
        have wH1 : wrap64 (Hg + 1) = Hg1 := by rw [wrap_id (by unfold I64; omega), eHg1]
        have HE := Aside0.mk (And.intro eX0 (And.intro eX1 (And.intro eY0 (And.intro eY1 (And.intro eWd (And.intro eHg (And.intro eWd1 eHg1)))))))
        have HI := Aside0.mk (And.intro iX0 (And.intro iX1 (And.intro iY0 iY1)))
        have HBB := Aside0.mk (And.intro bX bY)
        have HR12 := Aside0.mk (And.intro h1 h2)
        clear eX0 eX1 eY0 eY1 eWd eHg eWd1 eHg1 iX0 iX1 iY0 iY1 bX bY
        have e0 := (blk_cell k0 0).trans rfl
        have e1 := (blk_cell k1 0).trans rfl
        have e2 := (blk_cell k1 1).trans rfl
        have KB := Aside0.mk hb1
        have KK := Aside0.mk (And.intro k0 (And.intro k1 (And.intro k2 (And.intro k3 k4))))
        clear hb1 k0 k1 k2 k3 k4
        go_upto_region 6 with (go_at_call 43; first
          | ((with_reducible refine (sp1 _ c0).mono ?_); rintro e w2 ⟨rfl, hb2⟩; have f0 := (below_cell hb2 e0); have f1 := below_cell hb2 e1; have f2 := below_cell hb2 e2; have f3 := below_cell hb2 c2; have g0 := below_cell hb2 c0; have HB2 := Aside0.mk hb2; clear hb2 e0 e1 e2 c2 c0 sp1)
          | ((with_reducible refine (sp2 _ g0).mono ?_); rintro e w3 ⟨rfl, hb3'⟩; have HB3 := Aside0.mk hb3'; clear hb3' f0 f1 f2 f3 g0 sp2))
        have hb13 : Below w1.heap.size w1 w3 := below_step HB2.out HB3.out
        have hb3 : Below w.heap.size w w3 := below_step KB.out hb13
        obtain ⟨k0, k1, k2, k3, k4⟩ := KK.out
        have j0 := (hb13.block _ (blk_lt k0)).trans k0
        have j1 := (hb13.block _ (blk_lt k1)).trans k1
        have j2 := (hb13.block _ (blk_lt k2)).trans k2
        have j3 := (hb13.block _ (blk_lt k3)).trans k3
        have j4 : w.heap.size + 4 ≤ w3.heap.size := Nat.le_trans k4 hb13.size
        clear k0 k1 k2 k3 k4 hb13 HB2 HB3 KB KK HG1 hs1 h1 h2 q1 q2
        by_cases c1 : Wd < 256
        · have d1 : decide (Wd < 256) = true := decide_eq_true c1
          by_cases c2 : Hg < 256
          · have d2 : decide (Hg < 256) = true := decide_eq_true c2
            have HC := Aside0.mk (And.intro c1 c2)
            obtain ⟨PP, ePP⟩ : ∃ P, P = Wd1 * Hg1 := ⟨_, rfl⟩
            have wP : wrap64 (Wd1 * Hg1) = PP := by
              obtain ⟨_, _, _, _, a1, a2, a3, a4⟩ := HE.out
              have bb := HBB.out
              have m1 : 0 ≤ Wd1 * Hg1 := Int.mul_nonneg (by omega) (by omega)
              have m2 : Wd1 * Hg1 ≤ 256 * 256 := Int.mul_le_mul (by omega) (by omega) (by omega) (by omega)
              rw [wrap_id (by unfold I64; omega), ePP]
            clear c1 c2
            by_cases c3 : PP ≤ 256
            · have d3 : decide (PP ≤ 256) = true := decide_eq_true c3
              clear c3 ePP
              have HB3 := Aside0.mk hb3
              have JJ := Aside0.mk (And.intro j0 (And.intro j1 (And.intro j2 (And.intro j3 j4))))
              clear hb3 j0 j1 j2 j3 j4
              go_wp2
              have hFlt : ∀ k, F k → ¬ (k = w.heap.size + 3 ∨ w.heap.size + 4 ≤ k) := fun k hk => by have := HH.out.flt k hk; omega
              have hG3 := HH.out.below HB3.out
              have HG3 := Aside0.mk hG3
              have HF := Aside0.mk hFlt
              have hgat0 : Gat w3 w.heap.size gb ax ay r (w.heap.size + 4) [] := ⟨JJ.out.1, JJ.out.2.1, JJ.out.2.2.1, ⟨_, JJ.out.2.2.2.1, Kd.R_nil _ _ _ _ _⟩, Nat.le_refl _, JJ.out.2.2.2.2⟩
              have bd : Wd1 ≤ 256 ∧ Hg1 ≤ 256 ∧ 1 ≤ Wd1 ∧ 1 ≤ Hg1 := by
                obtain ⟨_, _, _, _, a1, a2, a3, a4⟩ := HE.out
                have bb := HBB.out
                have cc := HC.out
                omega
              have BD := Aside0.mk bd
              clear hFlt hG3 bd HC
              (try simp only [wW, wH, wW1, wH1, wP, d1, d2, d3])
              clear wW wH wW1 wP d1 d2 d3
              go_loopw [65] (fun kv wr => ∃ k : Int, kv = .int .i64 k ∧ 0 ≤ k ∧ k ≤ Wd1 ∧ Mv w3 wr (fun j => j = w.heap.size + 3 ∨ w.heap.size + 4 ≤ j) ∧ Gat wr w.heap.size gb ax ay r (w.heap.size + 4) (allF rows (wid L ax ay r) X0 Y0 Hg1.toNat k.toNat)) (fun kv _ => (Wd1 - intOf kv).toNat)
              case atStart => exact ⟨0, rfl, Int.le_refl _, by have := BD.out; omega, Mv.refl _ _, hgat0⟩
              case round =>
                clear hgat0
                obtain ⟨k, rfl, hk0, hk1, hm, hgat⟩ := hrel
                have HM := Aside0.mk hm
                have HGt := Aside0.mk hgat
                have HK := Aside0.mk (And.intro hk0 hk1)
                clear hm hgat
                by_cases hk : k < Wd1
                · have kb : decide (k < Wd1) = true := decide_eq_true hk
                  have HKK := Aside0.mk hk
                  clear hk hk0 hk1
                  go_wp2
                  (try simp only [kb, wH1])
                  clear kb wH1
                  go_loopw [70] (fun lv wq => ∃ l : Int, lv = .int .i64 l ∧ 0 ≤ l ∧ l ≤ Hg1 ∧ Mv w3 wq (fun j => j = w.heap.size + 3 ∨ w.heap.size + 4 ≤ j) ∧ Gat wq w.heap.size gb ax ay r (w.heap.size + 4) (allF rows (wid L ax ay r) X0 Y0 Hg1.toNat k.toNat ++ colF rows (wid L ax ay r) (X0 + k) Y0 l.toNat)) (fun lv _ => (Hg1 - intOf lv).toNat)
                  case atStart => exact ⟨0, rfl, Int.le_refl _, by have := BD.out; omega, HM.out, by rw [show colF rows (wid L ax ay r) (X0 + k) Y0 (0 : Int).toNat = [] from rfl, List.append_nil]; exact HGt.out⟩
                  case round =>
                    clear HM HGt
                    obtain ⟨l, rfl, hl0, hl1, hm, hgat⟩ := hrel
                    have HM := Aside0.mk hm
                    have HGt := Aside0.mk hgat
                    have HL := Aside0.mk (And.intro hl0 hl1)
                    by_cases hl : l < Hg1
                    · have lb : decide (l < Hg1) = true := decide_eq_true hl
                      have HLL := Aside0.mk hl
                      obtain ⟨X, eX⟩ : ∃ X, X = X0 + k := ⟨_, rfl⟩
                      obtain ⟨Y, eY⟩ : ∃ Y, Y = Y0 + l := ⟨_, rfl⟩
                      obtain ⟨iX0, iX1, iY0, iY1⟩ := HI.out
                      have hXr : I64 X ∧ I64 Y := by
                        obtain ⟨_, _, _, _, a1, a2, a3, a4⟩ := HE.out
                        have kk := HKK.out
                        have k2 := HK.out
                        unfold I64 at *
                        omega
                      have wX : wrap64 (X0 + k) = X := by rw [← eX]; exact wrap_id hXr.1
                      have wY : wrap64 (Y0 + l) = Y := by rw [← eY]; exact wrap_id hXr.2
                      have hGr := HG3.out.mv hm HF.out
                      have hlook := hGr.cells.look hXr.1 hXr.2
                      obtain ⟨A, c, ehd, hrow⟩ := hGr.row_at X Y
                      rw [ehd] at hlook
                      have e0 := (blk_cell hgat.b0 0).trans rfl
                      have e2 := hGr.c2
                      have hrl := hGr.rlen X Y
                      generalize hrx : rows X Y = rx at *
                      have HRX := Aside0.mk hrx
                      have HEX := Aside0.mk (And.intro eX eY)
                      have HRW := Aside0.mk hrow
                      have HXr := Aside0.mk hXr
                      have HGr := Aside0.mk hGr
                      have hC := hrow _ hGr
                      clear hl hl0 hl1 eX eY iX0 iX1 iY0 iY1 hXr ehd hrow hm hgat hrx hGr hC
                      go_wp2
                      (try simp only [lb, wX, wY])
                      clear hlook e0 e2 lb wX wY
                      go_loopw [86] (fun mv wu => ∃ m : Int, mv = .int .i64 m ∧ 0 ≤ m ∧ m ≤ rx.length ∧ Mv w3 wu (fun j => j = w.heap.size + 3 ∨ w.heap.size + 4 ≤ j) ∧ Gat wu w.heap.size gb ax ay r (w.heap.size + 4) (allF rows (wid L ax ay r) X0 Y0 Hg1.toNat k.toNat ++ colF rows (wid L ax ay r) (X0 + k) Y0 l.toNat ++ (rx.take m.toNat).filter (wid L ax ay r))) (fun mv _ => rx.length - (intOf mv).toNat)
                      case atStart => exact ⟨0, rfl, Int.le_refl _, by omega, HM.out, by rw [show (rx.take (0 : Int).toNat).filter (wid L ax ay r) = [] from rfl, List.append_nil]; exact HGt.out⟩
                      case round =>
                        clear HM HGt
                        obtain ⟨m, rfl, hm0, hm1, hm, hgat⟩ := hrel
                        by_cases hml : m < rx.length
                        · have mb : decide (m < (rx.length : Int)) = true := decide_eq_true hml
                          have hGu := HG3.out.mv hm HF.out
                          have hC := HRW.out _ hGu
                          obtain ⟨ad, eA, _⟩ := hC.2.2 (by omega)
                          subst eA
                          have hz := Kd.foot_int hC m hm0 hml
                          have hzx : rx[m.toNat]? = some (rd rx m) := by
                            unfold rd
                            rw [List.getD_eq_getElem?_getD, List.getElem?_eq_getElem (show m.toNat < rx.length by omega)]
                            rfl
                          have p0 : (0 ≤ m) = True := eq_true hm0
                          have p1 : (m < (rx.length : Int)) = True := eq_true hml
                          have hid : I64 (rd rx m) := by
                            have this : rd rx m ∈ rows X Y := by rw [HRX.out]; exact List.mem_of_getElem? hzx
                            obtain ⟨t, ht, e, _⟩ := (hGu.mem _ _ _).1 this
                            rw [← e]
                            exact (hGu.wf t ht).1
                          have hys : (if wid L ax ay r (rd rx m) then (allF rows (wid L ax ay r) X0 Y0 Hg1.toNat k.toNat ++ colF rows (wid L ax ay r) (X0 + k) Y0 l.toNat ++ (rx.take m.toNat).filter (wid L ax ay r)) ++ [rd rx m] else (allF rows (wid L ax ay r) X0 Y0 Hg1.toNat k.toNat ++ colF rows (wid L ax ay r) (X0 + k) Y0 l.toNat ++ (rx.take m.toNat).filter (wid L ax ay r))) = allF rows (wid L ax ay r) X0 Y0 Hg1.toNat k.toNat ++ colF rows (wid L ax ay r) (X0 + k) Y0 l.toNat ++ (rx.take (m.toNat + 1)).filter (wid L ax ay r) := by
                            rw [filter_take_succ hzx]
                            cases wid L ax ay r (rd rx m) <;> simp
                          have hlen := walk_len (rows := rows) HG3.out.rlen (wid L ax ay r) X0 (X0 + k) Y0 Hg1.toNat k.toNat l.toNat (by have := BD.out; omega) (by have := BD.out; have := HK.out; omega) (by have := BD.out; have := HL.out; omega) ((rx.take m.toNat).filter (wid L ax ay r)) (by have := List.length_filter_le (wid L ax ay r) (rx.take m.toNat); rw [List.length_take] at this; omega) hn
                          have hgc := gather_calls hGu hgat hax hay hlen hid _ hys
                          have HM := Aside0.mk hm
                          have HMM := Aside0.mk (And.intro hm0 (And.intro hm1 hml))
                          have en : wrap64 (m + 1) = m + 1 := wrap_id (by unfold I64; omega)
                          have EN := Aside0.mk en
                          clear hm hgat hGu hC hzx hid hys hlen hm0 hm1 hml en
                          go_wp2_with (go_at_call 42; (with_reducible refine hgc.mono ?_); rintro e w6 ⟨rfl, hgat6, hm6⟩)
                          rw [EN.out]
                          have em : (m + 1).toNat = m.toNat + 1 := by have := HMM.out; omega
                          refine ⟨⟨m + 1, rfl, by have := HMM.out; omega, by have := HMM.out; omega, HM.out.then hm6 (fun j hj => Or.inl hj), by rw [em]; exact hgat6⟩, by have := HMM.out; simp only [intOf]; omega⟩
                        · have mb : decide (m < (rx.length : Int)) = false := decide_eq_false hml
                          have em : m.toNat = rx.length := by omega
                          rw [em, List.take_length] at hgat
                          have HM := Aside0.mk hm
                          have HGt := Aside0.mk hgat
                          clear hm hgat hm0 hm1 hml em
                          go_wp2
                          obtain ⟨hl0, hl1⟩ := HL.out
                          have hll := HLL.out
                          have el : (l + 1).toNat = l.toNat + 1 := by omega
                          have wl : wrap64 (l + 1) = l + 1 := wrap_id (by unfold I64; have := BD.out; omega)
                          rw [wl]
                          refine ⟨⟨l + 1, rfl, by omega, by omega, HM.out, ?_⟩, by simp only [intOf]; omega⟩
                          rw [el, colF_succ, show Y0 + ((l.toNat : Nat) : Int) = Y by have := HEX.out.2; omega, ← HEX.out.1, HRX.out, ← List.append_assoc]
                          have := HGt.out
                          rwa [← HEX.out.1] at this
                    · have lb : decide (l < Hg1) = false := decide_eq_false hl
                      have el : l = Hg1 := by omega
                      clear hl hl0 hl1 hm hgat
                      go_wp2
                      have el2 : l.toNat = Hg1.toNat := by rw [el]
                      have hkk := HKK.out
                      obtain ⟨hk0, hk1⟩ := HK.out
                      have ek : (k + 1).toNat = k.toNat + 1 := by omega
                      have wk : wrap64 (k + 1) = k + 1 := wrap_id (by unfold I64; have := BD.out; omega)
                      rw [wk]
                      refine ⟨⟨k + 1, rfl, by omega, by omega, HM.out, ?_⟩, by simp only [intOf]; omega⟩
                      rw [ek, allF_succ, show ((k.toNat : Nat) : Int) = k by omega]
                      have := HGt.out
                      rw [el2] at this
                      exact this
                · have kb : decide (k < Wd1) = false := decide_eq_false hk
                  have ek : k = Wd1 := by omega
                  subst ek
                  obtain ⟨v, o1, o2⟩ := HGt.out.out
                  obtain ⟨A, c, e⟩ := Kd.R_slice o2
                  subst e
                  have e1 := (blk_cell o1 0).trans rfl
                  have HO2 := Aside0.mk o2
                  clear hk hk0 hk1 o1 o2
                  go_wp2
                  go_ret
                  refine ⟨_, _, rfl, Kd.R_lower HO2.out (by omega), ?_, Mv.toBelow HB3.out HM.out (fun k hk => by omega)⟩
                  obtain ⟨a1, a2, a3, a4, a5, a6, a7, a8⟩ := HE.out
                  have bd := BD.out
                  have := allF_perm (k := k.toNat) (h := Hg1.toNat) HH.out hax hay HR12.out.2 HR12.out.1 (by rw [← a1, ← a2]; omega) (by rw [← a3, ← a4]; omega)
                  rw [← a1, ← a3] at this
                  exact this

            · have d3 : decide (PP ≤ 256) = false := decide_eq_false c3
              clear c3 ePP
              go_wp2
              go_meet
              case rel => exact ⟨hb3, j0, j1, j2, j3, j4⟩
          · have d2 : decide (Hg < 256) = false := decide_eq_false c2
            clear c1 c2
            go_wp2
            go_meet
            case rel => exact ⟨hb3, j0, j1, j2, j3, j4⟩
        · have d1 : decide (Wd < 256) = false := decide_eq_false c1
          clear c1
          go_wp2
          go_meet
          case rel => exact ⟨hb3, j0, j1, j2, j3, j4⟩
      case rest =>
        obtain ⟨hb1, k0, k1, k2, k3, k4⟩ := hcut
        have q1 : True := trivial
        clear c2
        have c2 : True := trivial
        go_upto_region 22 with fail
        refine absW (fun wq => Below w.heap.size w wq ∧ wq.heap[w.heap.size]? = some (.cells #[.pointer (some ⟨gb, 0, none⟩)] 24) ∧ wq.heap[w.heap.size + 1]? = some (.cells #[.int .i64 ax, .int .i64 ay] 32) ∧ wq.heap[w.heap.size + 2]? = some (.cells #[.int .i64 r] 2) ∧ wq.heap[w.heap.size + 3]? = some (.cells #[.slice none 0 0] 40) ∧ w.heap.size + 4 ≤ wq.heap.size) ⟨hb1, k0, k1, k2, k3, k4⟩ ?_
        clear hb1 k0 k1 k2 k3 k4 c2 q1
        rintro wq ⟨hbq, k0, k1, k2, k3, k4⟩
        have hgq := HH.out.below hbq
        have hownq := hgq.own
        have e0 := hgq.c1
        have e1 := (blk_cell k0 0).trans rfl
        have HGQ := Aside0.mk hgq
        have HBQ := Aside0.mk hbq
        have KK := Aside0.mk (And.intro k0 (And.intro k1 (And.intro k2 (And.intro k3 k4))))
        clear hgq hbq k0 k1 k2 k3 k4
        go_wp2_with (at_range; refine wpList_range_own _ rfl _ 52 rfl 3 32 law3 Try.underlying52 vElem pb n (GM L) rfl hownq ?_; intro w0 hrg0 hg0 hs0)
        go_frame
        have hg0' := grown_none hg0
        obtain ⟨k0, k1, k2, k3, k4⟩ := KK.out
        have gat0 : Gat w0 w.heap.size gb ax ay r (wq.heap.size + 1) [] := ⟨(hg0'.block _ (blk_lt k0)).trans k0, (hg0'.block _ (blk_lt k1)).trans k1, (hg0'.block _ (blk_lt k2)).trans k2, ⟨_, (hg0'.block _ (blk_lt k3)).trans k3, Kd.R_nil _ _ _ _ _⟩, by omega, by omega⟩
        clear e0 e1 hownq k0 k1 k2 k3
        go_loopw [19] (fun _ wr => ∃ (left : Lit → Bool) (cnt : Nat) (V : List Th), wr.ranges Try.prog 3 vElem pb wq.heap.size n (GM L) left cnt ∧ Mv wq wr (fun k => k = w.heap.size + 3 ∨ wq.heap.size ≤ k) ∧ Gat wr w.heap.size gb ax ay r (wq.heap.size + 1) (inL V ax ay r) ∧ (V ++ L.filter fun z => left (.int .i64 z.id)).Perm L)
          (fun _ wr => wr.rangeLeft pb wq.heap.size)
        case atStart => exact ⟨_, _, [], hrg0, Mv.of_below hg0' _, gat0, take_start⟩
        case round =>
          clear hrg0 hg0 hg0' hs0 gat0
          obtain ⟨left, cnt, V, hrg, hm, hgat, hperm⟩ := hrel
          have hFlt : ∀ k, F k → ¬ (k = w.heap.size + 3 ∨ wq.heap.size ≤ k) := fun k hk => by have := HH.out.flt k hk; omega
          have HR := Aside0.mk hrg
          have HM := Aside0.mk hm
          have HGt := Aside0.mk hgat
          have HP := Aside0.mk hperm
          have HF := Aside0.mk hFlt
          clear hm hgat hperm hFlt
          go_wp2_with (at_next; refine next_th _ rfl _ rfl pb wq.heap.size n (GM L) left cnt rfl hrg ?_ ?_)
          · intro _ hl0
            obtain ⟨v, o1, o2⟩ := HGt.out.out
            obtain ⟨A, c, e⟩ := Kd.R_slice o2
            subst e
            have e1 := (blk_cell o1 0).trans rfl
            have hV : V.Perm L := by
              have e : (L.filter fun z : Th => left (.int .i64 z.id)) = [] := by
                rw [List.filter_eq_nil_iff]
                intro z _
                rw [hl0]
                simp
              have := HP.out
              rwa [e, List.append_nil] at this
            have HO2 := Aside0.mk o2
            have HV := Aside0.mk hV
            clear hrg o1 o2 hV hl0
            go_wp2
            go_ret
            refine ⟨_, _, rfl, Kd.R_lower HO2.out (by have := KK.out.2.2.2.2; omega), (HV.out.filter _).map _, ?_⟩
            exact Mv.toBelow HBQ.out HM.out (fun k hk => by have := KK.out.2.2.2.2; omega)
          · intro x ya yb w2 cnt1 hwx hlx hrg1 hlt hg1 hs1 hen
            have hhas := ranges_has hrg hlx
            rw [has_GM] at hhas
            obtain ⟨t, ht, rfl⟩ := hasP_iff.1 hhas
            have hm2 : Mv wq w2 (fun k => k = w.heap.size + 3 ∨ wq.heap.size ≤ k) := HM.out.then (Mv.of_grown (S := fun k => k = wq.heap.size) hg1 (fun k hk => by injection hk with hk; exact hk.symm)) (fun j hj => Or.inl (Or.inr (by omega)))
            have hgat2 : Gat w2 w.heap.size gb ax ay r (wq.heap.size + 1) (inL V ax ay r) := HGt.out.mv (Mv.of_grown (S := fun k => k = wq.heap.size) hg1 (fun k hk => by injection hk with hk; exact hk.symm)) (fun k hk => by have := KK.out.2.2.2.2; omega)
            have hVl : V.length ≤ L.length := by
              have := HP.out.length_eq
              rw [List.length_append] at this
              omega
            have hlen : (inL V ax ay r).length ≤ 4000000000000 := by
              have h1 : (inL V ax ay r).length ≤ V.length := by unfold inL inT; rw [List.length_map]; exact List.length_filter_le _ _
              have h2 := HGQ.out.len
              omega
            have hids := HGQ.out.wf t ht
            have hys : (if wid L ax ay r t.id then inL V ax ay r ++ [t.id] else inL V ax ay r) = inL (V ++ [t]) ax ay r := by
              unfold wid inL inT
              rw [atL_mem HGQ.out.srt ht, List.filter_append, List.map_append]
              cases hw : wi t.x t.y ax ay r <;> simp [hw]
            have hgc := fun w3 (hb3 : Below w2.heap.size w2 w3) => gather_calls ((HGQ.out.mv hm2 HF.out).below hb3) (hgat2.below hb3) hax hay hlen hids.1 _ hys
            have hstep := take_step HGQ.out.srt ht hlx HP.out
            have HM2 := Aside0.mk hm2
            have HR1 := Aside0.mk hrg1
            have HLT := Aside0.mk hlt
            have HST := Aside0.mk hstep
            clear hm2 hgat2 hVl hlen hids hys hhas hlx hrg1 hg1 hs1 hlt hstep
            go_wp2_with (go_at_call 42; (with_reducible refine (hgc _ (by repeat (first | (with_reducible first | exact Below.refl _ _ | apply below_alloc | apply pw_below_drewN | apply below_drew1) | exact Below.refl _ _))).mono ?_); rintro e w3 ⟨rfl, hgat3, hm3⟩)
            go_roundw
            case rel =>
              have hb3 : Mv w2 w3 (fun k => k = w.heap.size + 3 ∨ wq.heap.size + 1 ≤ k) := hm3
              refine ⟨_, cnt1, V ++ [t], ranges_move HR1.out (hb3.block _ HR1.out.owns.lt (by have := HH.out.flt pb HH.out.fp; omega)) (hb3.block _ HR1.out.lt (by have := KK.out.2.2.2.2; omega)), HM2.out.then hb3 (fun j hj => Or.inl (by omega)), hgat3, HST.out⟩
            case measure =>
              have hb3 : Mv w2 w3 (fun k => k = w.heap.size + 3 ∨ wq.heap.size + 1 ≤ k) := hm3
              have := ranges_move HR1.out (hb3.block _ HR1.out.owns.lt (by have := HH.out.flt pb HH.out.fp; omega)) (hb3.block _ HR1.out.lt (by have := KK.out.2.2.2.2; omega))
              rw [this.left_eq, HR.out.left_eq]
              exact HLT.out
    · have q2 : decide (r < 2147483647) = false := decide_eq_false h2
      clear h1 h2
      go_upto_region 22 with fail
      refine absW (fun wq => Below w.heap.size w wq ∧ wq.heap[w.heap.size]? = some (.cells #[.pointer (some ⟨gb, 0, none⟩)] 24) ∧ wq.heap[w.heap.size + 1]? = some (.cells #[.int .i64 ax, .int .i64 ay] 32) ∧ wq.heap[w.heap.size + 2]? = some (.cells #[.int .i64 r] 2) ∧ wq.heap[w.heap.size + 3]? = some (.cells #[.slice none 0 0] 40) ∧ w.heap.size + 4 ≤ wq.heap.size) ⟨hb1, k0, k1, k2, k3, k4⟩ ?_
      clear hb1 k0 k1 k2 k3 k4 c2 q1
      rintro wq ⟨hbq, k0, k1, k2, k3, k4⟩
      have hgq := HH.out.below hbq
      have hownq := hgq.own
      have e0 := hgq.c1
      have e1 := (blk_cell k0 0).trans rfl
      have HGQ := Aside0.mk hgq
      have HBQ := Aside0.mk hbq
      have KK := Aside0.mk (And.intro k0 (And.intro k1 (And.intro k2 (And.intro k3 k4))))
      clear hgq hbq k0 k1 k2 k3 k4
      go_wp2_with (at_range; refine wpList_range_own _ rfl _ 52 rfl 3 32 law3 Try.underlying52 vElem pb n (GM L) rfl hownq ?_; intro w0 hrg0 hg0 hs0)
      go_frame
      have hg0' := grown_none hg0
      obtain ⟨k0, k1, k2, k3, k4⟩ := KK.out
      have gat0 : Gat w0 w.heap.size gb ax ay r (wq.heap.size + 1) [] := ⟨(hg0'.block _ (blk_lt k0)).trans k0, (hg0'.block _ (blk_lt k1)).trans k1, (hg0'.block _ (blk_lt k2)).trans k2, ⟨_, (hg0'.block _ (blk_lt k3)).trans k3, Kd.R_nil _ _ _ _ _⟩, by omega, by omega⟩
      clear e0 e1 hownq k0 k1 k2 k3
      go_loopw [19] (fun _ wr => ∃ (left : Lit → Bool) (cnt : Nat) (V : List Th), wr.ranges Try.prog 3 vElem pb wq.heap.size n (GM L) left cnt ∧ Mv wq wr (fun k => k = w.heap.size + 3 ∨ wq.heap.size ≤ k) ∧ Gat wr w.heap.size gb ax ay r (wq.heap.size + 1) (inL V ax ay r) ∧ (V ++ L.filter fun z => left (.int .i64 z.id)).Perm L)
        (fun _ wr => wr.rangeLeft pb wq.heap.size)
      case atStart => exact ⟨_, _, [], hrg0, Mv.of_below hg0' _, gat0, take_start⟩
      case round =>
        clear hrg0 hg0 hg0' hs0 gat0
        obtain ⟨left, cnt, V, hrg, hm, hgat, hperm⟩ := hrel
        have hFlt : ∀ k, F k → ¬ (k = w.heap.size + 3 ∨ wq.heap.size ≤ k) := fun k hk => by have := HH.out.flt k hk; omega
        have HR := Aside0.mk hrg
        have HM := Aside0.mk hm
        have HGt := Aside0.mk hgat
        have HP := Aside0.mk hperm
        have HF := Aside0.mk hFlt
        clear hm hgat hperm hFlt
        go_wp2_with (at_next; refine next_th _ rfl _ rfl pb wq.heap.size n (GM L) left cnt rfl hrg ?_ ?_)
        · intro _ hl0
          obtain ⟨v, o1, o2⟩ := HGt.out.out
          obtain ⟨A, c, e⟩ := Kd.R_slice o2
          subst e
          have e1 := (blk_cell o1 0).trans rfl
          have hV : V.Perm L := by
            have e : (L.filter fun z : Th => left (.int .i64 z.id)) = [] := by
              rw [List.filter_eq_nil_iff]
              intro z _
              rw [hl0]
              simp
            have := HP.out
            rwa [e, List.append_nil] at this
          have HO2 := Aside0.mk o2
          have HV := Aside0.mk hV
          clear hrg o1 o2 hV hl0
          go_wp2
          go_ret
          refine ⟨_, _, rfl, Kd.R_lower HO2.out (by have := KK.out.2.2.2.2; omega), (HV.out.filter _).map _, ?_⟩
          exact Mv.toBelow HBQ.out HM.out (fun k hk => by have := KK.out.2.2.2.2; omega)
        · intro x ya yb w2 cnt1 hwx hlx hrg1 hlt hg1 hs1 hen
          have hhas := ranges_has hrg hlx
          rw [has_GM] at hhas
          obtain ⟨t, ht, rfl⟩ := hasP_iff.1 hhas
          have hm2 : Mv wq w2 (fun k => k = w.heap.size + 3 ∨ wq.heap.size ≤ k) := HM.out.then (Mv.of_grown (S := fun k => k = wq.heap.size) hg1 (fun k hk => by injection hk with hk; exact hk.symm)) (fun j hj => Or.inl (Or.inr (by omega)))
          have hgat2 : Gat w2 w.heap.size gb ax ay r (wq.heap.size + 1) (inL V ax ay r) := HGt.out.mv (Mv.of_grown (S := fun k => k = wq.heap.size) hg1 (fun k hk => by injection hk with hk; exact hk.symm)) (fun k hk => by have := KK.out.2.2.2.2; omega)
          have hVl : V.length ≤ L.length := by
            have := HP.out.length_eq
            rw [List.length_append] at this
            omega
          have hlen : (inL V ax ay r).length ≤ 4000000000000 := by
            have h1 : (inL V ax ay r).length ≤ V.length := by unfold inL inT; rw [List.length_map]; exact List.length_filter_le _ _
            have h2 := HGQ.out.len
            omega
          have hids := HGQ.out.wf t ht
          have hys : (if wid L ax ay r t.id then inL V ax ay r ++ [t.id] else inL V ax ay r) = inL (V ++ [t]) ax ay r := by
            unfold wid inL inT
            rw [atL_mem HGQ.out.srt ht, List.filter_append, List.map_append]
            cases hw : wi t.x t.y ax ay r <;> simp [hw]
          have hgc := fun w3 (hb3 : Below w2.heap.size w2 w3) => gather_calls ((HGQ.out.mv hm2 HF.out).below hb3) (hgat2.below hb3) hax hay hlen hids.1 _ hys
          have hstep := take_step HGQ.out.srt ht hlx HP.out
          have HM2 := Aside0.mk hm2
          have HR1 := Aside0.mk hrg1
          have HLT := Aside0.mk hlt
          have HST := Aside0.mk hstep
          clear hm2 hgat2 hVl hlen hids hys hhas hlx hrg1 hg1 hs1 hlt hstep
          go_wp2_with (go_at_call 42; (with_reducible refine (hgc _ (by repeat (first | (with_reducible first | exact Below.refl _ _ | apply below_alloc | apply pw_below_drewN | apply below_drew1) | exact Below.refl _ _))).mono ?_); rintro e w3 ⟨rfl, hgat3, hm3⟩)
          go_roundw
          case rel =>
            have hb3 : Mv w2 w3 (fun k => k = w.heap.size + 3 ∨ wq.heap.size + 1 ≤ k) := hm3
            refine ⟨_, cnt1, V ++ [t], ranges_move HR1.out (hb3.block _ HR1.out.owns.lt (by have := HH.out.flt pb HH.out.fp; omega)) (hb3.block _ HR1.out.lt (by have := KK.out.2.2.2.2; omega)), HM2.out.then hb3 (fun j hj => Or.inl (by omega)), hgat3, HST.out⟩
          case measure =>
            have hb3 : Mv w2 w3 (fun k => k = w.heap.size + 3 ∨ wq.heap.size + 1 ≤ k) := hm3
            have := ranges_move HR1.out (hb3.block _ HR1.out.owns.lt (by have := HH.out.flt pb HH.out.fp; omega)) (hb3.block _ HR1.out.lt (by have := KK.out.2.2.2.2; omega))
            rw [this.left_eq, HR.out.left_eq]
            exact HLT.out
  · have q1 : decide (r ≥ 0) = false := decide_eq_false h1
    clear h1
    go_upto_region 22 with fail
    refine absW (fun wq => Below w.heap.size w wq ∧ wq.heap[w.heap.size]? = some (.cells #[.pointer (some ⟨gb, 0, none⟩)] 24) ∧ wq.heap[w.heap.size + 1]? = some (.cells #[.int .i64 ax, .int .i64 ay] 32) ∧ wq.heap[w.heap.size + 2]? = some (.cells #[.int .i64 r] 2) ∧ wq.heap[w.heap.size + 3]? = some (.cells #[.slice none 0 0] 40) ∧ w.heap.size + 4 ≤ wq.heap.size) ⟨hb1, k0, k1, k2, k3, k4⟩ ?_
    clear hb1 k0 k1 k2 k3 k4 c2 q1
    rintro wq ⟨hbq, k0, k1, k2, k3, k4⟩
    have hgq := HH.out.below hbq
    have hownq := hgq.own
    have e0 := hgq.c1
    have e1 := (blk_cell k0 0).trans rfl
    have HGQ := Aside0.mk hgq
    have HBQ := Aside0.mk hbq
    have KK := Aside0.mk (And.intro k0 (And.intro k1 (And.intro k2 (And.intro k3 k4))))
    clear hgq hbq k0 k1 k2 k3 k4
    go_wp2_with (at_range; refine wpList_range_own _ rfl _ 52 rfl 3 32 law3 Try.underlying52 vElem pb n (GM L) rfl hownq ?_; intro w0 hrg0 hg0 hs0)
    go_frame
    have hg0' := grown_none hg0
    obtain ⟨k0, k1, k2, k3, k4⟩ := KK.out
    have gat0 : Gat w0 w.heap.size gb ax ay r (wq.heap.size + 1) [] := ⟨(hg0'.block _ (blk_lt k0)).trans k0, (hg0'.block _ (blk_lt k1)).trans k1, (hg0'.block _ (blk_lt k2)).trans k2, ⟨_, (hg0'.block _ (blk_lt k3)).trans k3, Kd.R_nil _ _ _ _ _⟩, by omega, by omega⟩
    clear e0 e1 hownq k0 k1 k2 k3
    go_loopw [19] (fun _ wr => ∃ (left : Lit → Bool) (cnt : Nat) (V : List Th), wr.ranges Try.prog 3 vElem pb wq.heap.size n (GM L) left cnt ∧ Mv wq wr (fun k => k = w.heap.size + 3 ∨ wq.heap.size ≤ k) ∧ Gat wr w.heap.size gb ax ay r (wq.heap.size + 1) (inL V ax ay r) ∧ (V ++ L.filter fun z => left (.int .i64 z.id)).Perm L)
      (fun _ wr => wr.rangeLeft pb wq.heap.size)
    case atStart => exact ⟨_, _, [], hrg0, Mv.of_below hg0' _, gat0, take_start⟩
    case round =>
      clear hrg0 hg0 hg0' hs0 gat0
      obtain ⟨left, cnt, V, hrg, hm, hgat, hperm⟩ := hrel
      have hFlt : ∀ k, F k → ¬ (k = w.heap.size + 3 ∨ wq.heap.size ≤ k) := fun k hk => by have := HH.out.flt k hk; omega
      have HR := Aside0.mk hrg
      have HM := Aside0.mk hm
      have HGt := Aside0.mk hgat
      have HP := Aside0.mk hperm
      have HF := Aside0.mk hFlt
      clear hm hgat hperm hFlt
      go_wp2_with (at_next; refine next_th _ rfl _ rfl pb wq.heap.size n (GM L) left cnt rfl hrg ?_ ?_)
      · intro _ hl0
        obtain ⟨v, o1, o2⟩ := HGt.out.out
        obtain ⟨A, c, e⟩ := Kd.R_slice o2
        subst e
        have e1 := (blk_cell o1 0).trans rfl
        have hV : V.Perm L := by
          have e : (L.filter fun z : Th => left (.int .i64 z.id)) = [] := by
            rw [List.filter_eq_nil_iff]
            intro z _
            rw [hl0]
            simp
          have := HP.out
          rwa [e, List.append_nil] at this
        have HO2 := Aside0.mk o2
        have HV := Aside0.mk hV
        clear hrg o1 o2 hV hl0
        go_wp2
        go_ret
        refine ⟨_, _, rfl, Kd.R_lower HO2.out (by have := KK.out.2.2.2.2; omega), (HV.out.filter _).map _, ?_⟩
        exact Mv.toBelow HBQ.out HM.out (fun k hk => by have := KK.out.2.2.2.2; omega)
      · intro x ya yb w2 cnt1 hwx hlx hrg1 hlt hg1 hs1 hen
        have hhas := ranges_has hrg hlx
        rw [has_GM] at hhas
        obtain ⟨t, ht, rfl⟩ := hasP_iff.1 hhas
        have hm2 : Mv wq w2 (fun k => k = w.heap.size + 3 ∨ wq.heap.size ≤ k) := HM.out.then (Mv.of_grown (S := fun k => k = wq.heap.size) hg1 (fun k hk => by injection hk with hk; exact hk.symm)) (fun j hj => Or.inl (Or.inr (by omega)))
        have hgat2 : Gat w2 w.heap.size gb ax ay r (wq.heap.size + 1) (inL V ax ay r) := HGt.out.mv (Mv.of_grown (S := fun k => k = wq.heap.size) hg1 (fun k hk => by injection hk with hk; exact hk.symm)) (fun k hk => by have := KK.out.2.2.2.2; omega)
        have hVl : V.length ≤ L.length := by
          have := HP.out.length_eq
          rw [List.length_append] at this
          omega
        have hlen : (inL V ax ay r).length ≤ 4000000000000 := by
          have h1 : (inL V ax ay r).length ≤ V.length := by unfold inL inT; rw [List.length_map]; exact List.length_filter_le _ _
          have h2 := HGQ.out.len
          omega
        have hids := HGQ.out.wf t ht
        have hys : (if wid L ax ay r t.id then inL V ax ay r ++ [t.id] else inL V ax ay r) = inL (V ++ [t]) ax ay r := by
          unfold wid inL inT
          rw [atL_mem HGQ.out.srt ht, List.filter_append, List.map_append]
          cases hw : wi t.x t.y ax ay r <;> simp [hw]
        have hgc := fun w3 (hb3 : Below w2.heap.size w2 w3) => gather_calls ((HGQ.out.mv hm2 HF.out).below hb3) (hgat2.below hb3) hax hay hlen hids.1 _ hys
        have hstep := take_step HGQ.out.srt ht hlx HP.out
        have HM2 := Aside0.mk hm2
        have HR1 := Aside0.mk hrg1
        have HLT := Aside0.mk hlt
        have HST := Aside0.mk hstep
        clear hm2 hgat2 hVl hlen hids hys hhas hlx hrg1 hg1 hs1 hlt hstep
        go_wp2_with (go_at_call 42; (with_reducible refine (hgc _ (by repeat (first | (with_reducible first | exact Below.refl _ _ | apply below_alloc | apply pw_below_drewN | apply below_drew1) | exact Below.refl _ _))).mono ?_); rintro e w3 ⟨rfl, hgat3, hm3⟩)
        go_roundw
        case rel =>
          have hb3 : Mv w2 w3 (fun k => k = w.heap.size + 3 ∨ wq.heap.size + 1 ≤ k) := hm3
          refine ⟨_, cnt1, V ++ [t], ranges_move HR1.out (hb3.block _ HR1.out.owns.lt (by have := HH.out.flt pb HH.out.fp; omega)) (hb3.block _ HR1.out.lt (by have := KK.out.2.2.2.2; omega)), HM2.out.then hb3 (fun j hj => Or.inl (by omega)), hgat3, HST.out⟩
        case measure =>
          have hb3 : Mv w2 w3 (fun k => k = w.heap.size + 3 ∨ wq.heap.size + 1 ≤ k) := hm3
          have := ranges_move HR1.out (hb3.block _ HR1.out.owns.lt (by have := HH.out.flt pb HH.out.fp; omega)) (hb3.block _ HR1.out.lt (by have := KK.out.2.2.2.2; omega))
          rw [this.left_eq, HR.out.left_eq]
          exact HLT.out
end Go.Proofs.Ytggmfmlfkhcbdaa.Gr
