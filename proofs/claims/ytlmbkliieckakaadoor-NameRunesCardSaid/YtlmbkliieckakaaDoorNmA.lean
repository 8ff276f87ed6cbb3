/- The walk of name.Near. -/
import Derived.Test.YtlmbkliieckakaaDoorNm9
import Derived.Test.YtlmbkliieckakaaDoorNm8
import Derived.Deep.QuietTactic
import Derived.BigQuiet
set_option linter.unusedVariables false
namespace Go.Proofs.YtlmbkliieckakaaDoor.Nm
open Go.RowKit Go.Proofs.YtlmbkliieckakaaDoorW.PrintMore
theorem min2_mn (k k' : IntKind) (x y : Int) : Builtin.min2 (.int k x) (.int k' y) = pure (.int k (mn x y)) := by unfold mn; exact min2_int k k' x y
attribute [local go_sem] min2_mn min_two

theorem convR (s : ByteArray) (hs : s.size ≤ 70368744177664) (W : World) : ∃ cap W', (convert 9 42 (.string s)).run Tryd.prog W = .ok (.slice (some ⟨W.heap.size, 0, none⟩) (nums s).length cap) W' ∧
    (∀ i, i < (nums s).length → W'.cell? ⟨W.heap.size, i, none⟩ = some (.int .i32 ((nums s).getD i 0))) ∧ Below W.heap.size W W' ∧ W.heap.size < W'.heap.size := by
  have h := run_runes_of_string (P := Tryd.prog) W 9 42 21 s Tryd.underlying9 Tryd.underlying42 Tryd.underlying21 (by rw [conv_nums]; have := nums_le s; simp; omega)
  rw [conv_nums] at h
  have e : ((nums s).map fun r => Value.int .i32 r).toArray.size = (nums s).length := by simp
  rw [e] at h
  refine ⟨_, _, h, ?_, ((Below.refl _ _).drew).alloc (Nat.le_refl _) _, by have := World.size_alloc W.drew (.cells (((nums s).map fun r => Value.int .i32 r).toArray ++ Array.replicate (grownCap W (nums s).length 0 21 - (nums s).length) (.int .i32 0)) 21); simp at this ⊢⟩
  intro i hi
  rw [cell_of_row _ W.heap.size i _ 21 (0, 0) (heap_alloc_new W.drew _)]
  rw [Array.getElem?_append_left (by simpa using hi)]
  simp [List.getD_eq_getElem?_getD, hi]

theorem below_drewN' {B : Nat} {a w : World} (h : Below B a w) (n : Nat) : Below B a (w.drewN n) := ⟨h.os, h.tape, h.output, h.size, h.block⟩

set_option maxHeartbeats 4000000 in
set_option maxRecDepth 100000 in
theorem near_calls (a b : ByteArray) (w : World) (ha : a.size ≤ 70368744177664) (hb : b.size ≤ 70368744177664) :
    Calls Tryd.prog 13 #[.string a, .string b] w fun e w' => e = .returned (.int .i64 (near a b)) ∧ Below w.heap.size w w' := by
  obtain ⟨capA, W1, hA, hcA, bA, zA⟩ := convR a ha w
  obtain ⟨capB, W2, hB, hcB, bB, zB⟩ := convR b hb W1
  have hla := nums_le a
  have hlb := nums_le b
  have HN : Hid (near a b = nearL (nums a) (nums b)) := Lib.hid rfl
  obtain ⟨x, hx⟩ : ∃ x, nums a = x := ⟨_, rfl⟩
  obtain ⟨y, hy⟩ : ∃ y, nums b = y := ⟨_, rfl⟩
  rw [hx] at hla hA hcA HN
  rw [hy] at hlb hB hcB HN
  clear hx hy
  by_cases h1 : 8 ≤ (x.length : Int) - y.length
  · go_enter Tryd.func13, Tryd.ntmps13
    go_wp2
    go_ret
    exact ⟨by rw [HN.out]; unfold nearL; rw [if_pos (Or.inl h1)]; rfl, bA.trans (bB.mono (by omega))⟩
  by_cases h2 : 8 ≤ (y.length : Int) - x.length
  · go_enter Tryd.func13, Tryd.ntmps13
    go_wp2
    go_ret
    exact ⟨by rw [HN.out]; unfold nearL; rw [if_pos (Or.inr h2)]; rfl, bA.trans (bB.mono (by omega))⟩
  go_enter Tryd.func13, Tryd.ntmps13
  go_wp2
  have hR0 : IsRow17' (W2.alloc (.cells #[Value.int .i64 0, Value.int .i64 0, Value.int .i64 0, Value.int .i64 0, Value.int .i64 0, Value.int .i64 0, Value.int .i64 0, Value.int .i64 0, Value.int .i64 0, Value.int .i64 0, Value.int .i64 0, Value.int .i64 0, Value.int .i64 0, Value.int .i64 0, Value.int .i64 0, Value.int .i64 0, Value.int .i64 0] 43)) W2.heap.size 43 (part (row0 y.length) 0) := by
    unfold IsRow17'
    rw [part_zero]
    exact heap_alloc_new W2 _
  go_loopw [8] (fun dv wr => ∃ d : Int, -8 ≤ d ∧ d ≤ 9 ∧ dv = .int .i64 d ∧ IsRow17' wr W2.heap.size 43 (part (row0 y.length) (8 + d).toNat) ∧ Below W2.heap.size W2 wr) (fun dv _ => (9 - intOf dv).toNat)
  case atStart => exact ⟨-8, by omega, by omega, rfl, hR0, (Below.refl _ _).alloc (Nat.le_refl _) _⟩
  case round =>
    obtain ⟨d, hd0, hd9, rfl, hrow, hbw⟩ := hrel
    clear hR0
    by_cases hlt : d ≤ 8
    · have hc := hrow.cell (8 + d).toNat (by omega)
      have hf := hrow.free (8 + d).toNat
      have hrow1 := hrow.set (8 + d).toNat 8
      have hf1 := hrow1.free (8 + d).toNat
      have hc1 := hrow1.cell (8 + d).toNat (by omega)
      have hv : Hid (IsRow17' (((wr.setCell ⟨W2.heap.size, (8 + d).toNat, none⟩ (.int .i64 8)).setCell ⟨W2.heap.size, (8 + d).toNat, none⟩ (.int .i64 (mn d 8)))) W2.heap.size 43 (upd (part (row0 y.length) (8 + d).toNat) (8 + d).toNat (mn d 8))) := Lib.hid (by
        have := hrow1.set (8 + d).toNat (mn d 8)
        rw [upd_upd] at this
        exact this)
      have hT : (8 + (d + 1)).toNat = (8 + d).toNat + 1 := by omega
      have HT := Lib.hid hT
      clear hT
      by_cases hd : 0 ≤ d ∧ d ≤ y.length
      · obtain ⟨hda, hdb⟩ := hd
        go_wp2
        go_roundw
        case rel =>
          refine ⟨d + 1, by omega, by omega, by first | rfl | simp, ?_, (hbw.setCell (Nat.le_refl _) _).setCell (Nat.le_refl _) _⟩
          rw [HT.out, ← part_step, show row0 y.length (8 + d).toNat = mn d 8 by unfold row0; rw [if_pos (by omega), show (((8 + d).toNat : Nat) : Int) - 8 = d by omega]]
          exact hv.out
        case measure => simp [intOf]; omega
      · have hor : d < 0 ∨ (y.length : Int) < d := by omega
        rcases hor with hd' | hd'
        · go_wp2
          go_roundw
          case rel =>
            refine ⟨d + 1, by omega, by omega, by first | rfl | simp, ?_, (hbw.setCell (Nat.le_refl _) _)⟩
            rw [HT.out, ← part_step, show row0 y.length (8 + d).toNat = 8 by unfold row0; rw [if_neg (by omega)]]
            exact hrow1
          case measure => simp [intOf]; omega
        · go_wp2
          go_roundw
          case rel =>
            refine ⟨d + 1, by omega, by omega, by first | rfl | simp, ?_, (hbw.setCell (Nat.le_refl _) _)⟩
            rw [HT.out, ← part_step, show row0 y.length (8 + d).toNat = 8 by unfold row0; rw [if_neg (by omega)]]
            exact hrow1
          case measure => simp [intOf]; omega
    · obtain rfl : d = 9 := by omega
      obtain ⟨w3, rfl⟩ : ∃ w3 : World, w3 = wr := ⟨_, rfl⟩
      have hrow' : IsRow17' w3 W2.heap.size 43 (row0 y.length) := by
        unfold IsRow17' at hrow ⊢
        rw [← row_of_part]
        exact hrow
      clear hrow hlt
      go_wp2
      have hzz : W2.heap.size < w3.heap.size := hrow'.lt
      go_loopw [9] (fun iv wo => ∃ m : Nat, m ≤ x.length ∧ iv = .int .i64 ((m : Int) + 1) ∧ IsRow17' wo W2.heap.size 43 (rowAt x y m) ∧ Below W2.heap.size W2 wo) (fun iv _ => ((x.length : Int) + 1 - intOf iv).toNat)
      case atStart => exact ⟨0, by omega, rfl, hrow', hbw⟩
      case round =>
        obtain ⟨m, hm, rfl, hrowm, hbo⟩ := hrel
        clear hrow' hbw hzz
        obtain ⟨wo, rfl⟩ : ∃ wo : World, wo = wr := ⟨_, rfl⟩
        by_cases hml : m < x.length
        · have hzo : W2.heap.size < wo.heap.size := hrowm.lt
          have hml' : decide ((m : Int) + 1 ≤ x.length) = true := decide_eq_true (by omega)
          go_wp2
          clear hml'
          have hN0 : IsRow17' (wo.alloc (.cells #[Value.int .i64 0, Value.int .i64 0, Value.int .i64 0, Value.int .i64 0, Value.int .i64 0, Value.int .i64 0, Value.int .i64 0, Value.int .i64 0, Value.int .i64 0, Value.int .i64 0, Value.int .i64 0, Value.int .i64 0, Value.int .i64 0, Value.int .i64 0, Value.int .i64 0, Value.int .i64 0, Value.int .i64 0] 43)) wo.heap.size 43 (part (nxt x y y.length (m + 1) (rowAt x y m)) 0) := by
            unfold IsRow17'
            rw [part_zero]
            exact heap_alloc_new wo _
          have hRm : IsRow17' (wo.alloc (.cells #[Value.int .i64 0, Value.int .i64 0, Value.int .i64 0, Value.int .i64 0, Value.int .i64 0, Value.int .i64 0, Value.int .i64 0, Value.int .i64 0, Value.int .i64 0, Value.int .i64 0, Value.int .i64 0, Value.int .i64 0, Value.int .i64 0, Value.int .i64 0, Value.int .i64 0, Value.int .i64 0, Value.int .i64 0] 43)) W2.heap.size 43 (rowAt x y m) := (Lib.alloc_old wo _ _ hzo).trans hrowm
          have hRbd := rowAt_bd x y m
          have hNbd := nxt_bd x y y.length (m + 1) (rowAt x y m) hRbd
          go_loopw [11] (fun dv wr => ∃ d : Int, -8 ≤ d ∧ d ≤ 9 ∧ dv = .int .i64 d ∧ IsRow17' wr W2.heap.size 43 (rowAt x y m) ∧ IsRow17' wr wo.heap.size 43 (part (nxt x y y.length (m + 1) (rowAt x y m)) (8 + d).toNat) ∧ Below W2.heap.size W2 wr) (fun dv _ => (9 - intOf dv).toNat)
          case atStart => exact ⟨-8, by omega, by omega, rfl, hRm, hN0, hbo.alloc (by omega) _⟩
          case round =>
            obtain ⟨d, hd0, hd9, rfl, hR, hN, hbw⟩ := hrel
            clear hRm hN0
            obtain ⟨R, hRd⟩ : ∃ R, rowAt x y m = R := ⟨_, rfl⟩
            obtain ⟨N, hNd⟩ : ∃ N, nxt x y y.length (m + 1) R = N := ⟨_, rfl⟩
            rw [hRd] at hR hN hRbd hNbd
            rw [hNd] at hN hNbd
            have HRD := Lib.hid hRd
            have HND := Lib.hid hNd
            clear hRd hNd
            by_cases hlt : d ≤ 8
            · have hzw : wo.heap.size < wr.heap.size := hN.lt
              have hf := hN.free (8 + d).toNat
              have hc := hN.cell (8 + d).toNat (by omega)
              have hR1 := hR.other ⟨wo.heap.size, (8 + d).toNat, none⟩ (.int .i64 8) (by show W2.heap.size ≠ wo.heap.size; omega)
              have hN1 := hN.set (8 + d).toNat 8
              have hf1 := hN1.free (8 + d).toNat
              have hv : ∀ v, IsRow17' ((wr.setCell ⟨wo.heap.size, (8 + d).toNat, none⟩ (.int .i64 8)).setCell ⟨wo.heap.size, (8 + d).toNat, none⟩ (.int .i64 v)) wo.heap.size 43 (upd (part N (8 + d).toNat) (8 + d).toNat v) := by
                intro v
                have := hN1.set (8 + d).toNat v
                rw [upd_upd] at this
                exact this
              have hR2 : ∀ v, IsRow17' ((wr.setCell ⟨wo.heap.size, (8 + d).toNat, none⟩ (.int .i64 8)).setCell ⟨wo.heap.size, (8 + d).toNat, none⟩ (.int .i64 v)) W2.heap.size 43 R := fun v =>
                hR1.other ⟨wo.heap.size, (8 + d).toNat, none⟩ (.int .i64 v) (by show W2.heap.size ≠ wo.heap.size; omega)
              have HV := Lib.hid hv
              have HR2 := Lib.hid hR2
              clear hv hR2
              have hT : (8 + (d + 1)).toNat = (8 + d).toNat + 1 := by omega
              have HT := Lib.hid hT
              clear hT
              have HB : Hid (N (8 + d).toNat = best x y y.length (m + 1) (8 + d).toNat R (if (8 + d).toNat = 0 then 0 else N ((8 + d).toNat - 1))) := Lib.hid (by rw [← HND.out]; exact nxt_eq x y y.length (m + 1) R (8 + d).toNat)
              by_cases hj0 : (m : Int) + 1 + d < 0
              · have HB2 : Hid (N (8 + d).toNat = 8) := Lib.hid (by rw [HB.out]; unfold best; rw [if_pos (by omega)])
                go_wp2
                go_roundw
                case rel =>
                  refine ⟨d + 1, by omega, by omega, by first | rfl | simp, by rw [HRD.out]; exact hR1, ?_, hbw.setCell (by show W2.heap.size ≤ wo.heap.size; omega) _⟩
                  rw [HRD.out, HND.out, HT.out, ← part_step, HB2.out]
                  exact hN1
                case measure => simp [intOf]; omega
              by_cases hj1 : (y.length : Int) < (m : Int) + 1 + d
              · have HB2 : Hid (N (8 + d).toNat = 8) := Lib.hid (by rw [HB.out]; unfold best; rw [if_pos (by omega)])
                go_wp2
                go_roundw
                case rel =>
                  refine ⟨d + 1, by omega, by omega, by first | rfl | simp, by rw [HRD.out]; exact hR1, ?_, hbw.setCell (by show W2.heap.size ≤ wo.heap.size; omega) _⟩
                  rw [HRD.out, HND.out, HT.out, ← part_step, HB2.out]
                  exact hN1
                case measure => simp [intOf]; omega
              have ht : (8 + d).toNat < 17 := by omega
              have c3 := hR1.cell (8 + d).toNat ht
              have b3 := hRbd (8 + d).toNat
              by_cases hd8 : d < 8
              · skip
                have c1 := hR1.cell (8 + d + 1).toNat (by omega)
                have b1 := hRbd (8 + d + 1).toNat
                by_cases hjp : 0 < (m : Int) + 1 + d
                · obtain ⟨xv, hxv⟩ : ∃ v, x.getD m 0 = v := ⟨_, rfl⟩
                  obtain ⟨yv, hyv⟩ : ∃ v, y.getD (((m : Int) + 1 + d).toNat - 1) 0 = v := ⟨_, rfl⟩
                  have cx : wr.cell? ⟨w.heap.size, m, none⟩ = some (.int .i32 xv) := by
                      rw [hbw.cell (by show w.heap.size < W2.heap.size; omega), bB.cell (by show w.heap.size < W1.heap.size; omega)]
                      rw [← hxv]; exact hcA m hml
                  have cy : wr.cell? ⟨W1.heap.size, ((m : Int) + 1 + d).toNat - 1, none⟩ = some (.int .i32 yv) := by
                    rw [hbw.cell (by show W1.heap.size < W2.heap.size; omega)]
                    rw [← hyv]; exact hcB _ (by omega)
                  have ej : m + 1 + (8 + d).toNat - 9 = ((m : Int) + 1 + d).toNat - 1 := by omega
                  by_cases hdm : -8 < d
                  · have c2 : wr.cell? ⟨wo.heap.size, (8 + d).toNat - 1, none⟩ = some (.int .i64 (N ((8 + d).toNat - 1))) := by
                      rw [hN.cell _ (by omega)]
                      unfold part
                      rw [if_pos (by omega)]
                    have b2 := hNbd ((8 + d).toNat - 1)
                    by_cases heq : xv = yv
                    · have heb : (xv == yv) = true := by simpa using heq
                      have q0 : ¬ (m + 1 + (8 + d).toNat < 8 ∨ y.length + 8 < m + 1 + (8 + d).toNat) := by omega
                      have q1 : 8 < m + 1 + (8 + d).toNat := by omega
                      have q3 : (8 + d).toNat < 16 := by omega
                      have e1 : (8 + d).toNat + 1 = (8 + d + 1).toNat := by omega
                      have q2 : 0 < (8 + d).toNat := by omega
                      have q5 : ¬ (8 + d).toNat = 0 := by omega
                      have q4 : (x.getD (m + 1 - 1) 0 = y.getD (m + 1 + (8 + d).toNat - 9) 0) := by rw [ej, show m + 1 - 1 = m by omega, hxv, hyv]; exact heq
                      clear heq ej hxv hyv
                      have HB2 : Hid (N (8 + d).toNat = mn (mn (mn 8 (R (8 + d + 1).toNat + 1)) (N ((8 + d).toNat - 1) + 1)) (R (8 + d).toNat)) := Lib.hid (by
                        rw [HB.out]
                        unfold best
                        simp only [if_neg q0, if_pos q1, if_pos q2, if_pos q4, if_neg q5, if_pos q3]
                        rw [e1])
                      clear q0 q1 q3 q2 q4 q5 e1
                      go_wp2
                      go_quiet (fail)
                      go_wp2
                      go_roundw
                      case rel =>
                        have hbz := hbw.setCell (p := ⟨wo.heap.size, (8 + d).toNat, none⟩) (by show W2.heap.size ≤ wo.heap.size; omega) (.int .i64 8)
                        have hrw : part (nxt x y y.length (m + 1) (rowAt x y m)) (8 + (d + 1)).toNat = upd (part N (8 + d).toNat) (8 + d).toNat (N (8 + d).toNat) := by rw [HRD.out, HND.out, HT.out, ← part_step]
                        rw [HB2.out] at hrw
                        first
                          | exact ⟨d + 1, by omega, by omega, by first | rfl | simp, by rw [HRD.out]; exact HR2.out _, by rw [hrw]; exact HV.out _, hbz.setCell (by show W2.heap.size ≤ wo.heap.size; omega) _⟩
                          | exact ⟨d + 1, by omega, by omega, by first | rfl | simp, by rw [HRD.out]; exact HR2.out _, by rw [hrw]; exact HV.out _, (below_drewN' hbz _).setCell (by show W2.heap.size ≤ wo.heap.size; omega) _⟩
                      case measure => simp [intOf]; omega
                    · have heb : (xv == yv) = false := by simpa using heq
                      have q0 : ¬ (m + 1 + (8 + d).toNat < 8 ∨ y.length + 8 < m + 1 + (8 + d).toNat) := by omega
                      have q1 : 8 < m + 1 + (8 + d).toNat := by omega
                      have q3 : (8 + d).toNat < 16 := by omega
                      have e1 : (8 + d).toNat + 1 = (8 + d + 1).toNat := by omega
                      have q2 : 0 < (8 + d).toNat := by omega
                      have q5 : ¬ (8 + d).toNat = 0 := by omega
                      have q4 : ¬ (x.getD (m + 1 - 1) 0 = y.getD (m + 1 + (8 + d).toNat - 9) 0) := by rw [ej, show m + 1 - 1 = m by omega, hxv, hyv]; exact heq
                      clear heq ej hxv hyv
                      have HB2 : Hid (N (8 + d).toNat = mn (mn (mn 8 (R (8 + d + 1).toNat + 1)) (N ((8 + d).toNat - 1) + 1)) (R (8 + d).toNat + 1)) := Lib.hid (by
                        rw [HB.out]
                        unfold best
                        simp only [if_neg q0, if_pos q1, if_pos q2, if_neg q4, if_neg q5, if_pos q3]
                        rw [e1])
                      clear q0 q1 q3 q2 q4 q5 e1
                      go_wp2
                      go_quiet (fail)
                      go_wp2
                      go_roundw
                      case rel =>
                        have hbz := hbw.setCell (p := ⟨wo.heap.size, (8 + d).toNat, none⟩) (by show W2.heap.size ≤ wo.heap.size; omega) (.int .i64 8)
                        have hrw : part (nxt x y y.length (m + 1) (rowAt x y m)) (8 + (d + 1)).toNat = upd (part N (8 + d).toNat) (8 + d).toNat (N (8 + d).toNat) := by rw [HRD.out, HND.out, HT.out, ← part_step]
                        rw [HB2.out] at hrw
                        first
                          | exact ⟨d + 1, by omega, by omega, by first | rfl | simp, by rw [HRD.out]; exact HR2.out _, by rw [hrw]; exact HV.out _, hbz.setCell (by show W2.heap.size ≤ wo.heap.size; omega) _⟩
                          | exact ⟨d + 1, by omega, by omega, by first | rfl | simp, by rw [HRD.out]; exact HR2.out _, by rw [hrw]; exact HV.out _, (below_drewN' hbz _).setCell (by show W2.heap.size ≤ wo.heap.size; omega) _⟩
                      case measure => simp [intOf]; omega
                  · skip
                    by_cases heq : xv = yv
                    · have heb : (xv == yv) = true := by simpa using heq
                      have q0 : ¬ (m + 1 + (8 + d).toNat < 8 ∨ y.length + 8 < m + 1 + (8 + d).toNat) := by omega
                      have q1 : 8 < m + 1 + (8 + d).toNat := by omega
                      have q3 : (8 + d).toNat < 16 := by omega
                      have e1 : (8 + d).toNat + 1 = (8 + d + 1).toNat := by omega
                      have q2 : ¬ (0 < (8 + d).toNat) := by omega
                      have q4 : (x.getD (m + 1 - 1) 0 = y.getD (m + 1 + (8 + d).toNat - 9) 0) := by rw [ej, show m + 1 - 1 = m by omega, hxv, hyv]; exact heq
                      clear heq ej hxv hyv
                      have HB2 : Hid (N (8 + d).toNat = mn (mn 8 (R (8 + d + 1).toNat + 1)) (R (8 + d).toNat)) := Lib.hid (by
                        rw [HB.out]
                        unfold best
                        simp only [if_neg q0, if_pos q1, if_neg q2, if_pos q4, if_pos q3]
                        rw [e1])
                      clear q0 q1 q3 q2 q4 e1
                      go_wp2
                      go_quiet (fail)
                      go_wp2
                      go_roundw
                      case rel =>
                        have hbz := hbw.setCell (p := ⟨wo.heap.size, (8 + d).toNat, none⟩) (by show W2.heap.size ≤ wo.heap.size; omega) (.int .i64 8)
                        have hrw : part (nxt x y y.length (m + 1) (rowAt x y m)) (8 + (d + 1)).toNat = upd (part N (8 + d).toNat) (8 + d).toNat (N (8 + d).toNat) := by rw [HRD.out, HND.out, HT.out, ← part_step]
                        rw [HB2.out] at hrw
                        first
                          | exact ⟨d + 1, by omega, by omega, by first | rfl | simp, by rw [HRD.out]; exact HR2.out _, by rw [hrw]; exact HV.out _, hbz.setCell (by show W2.heap.size ≤ wo.heap.size; omega) _⟩
                          | exact ⟨d + 1, by omega, by omega, by first | rfl | simp, by rw [HRD.out]; exact HR2.out _, by rw [hrw]; exact HV.out _, (below_drewN' hbz _).setCell (by show W2.heap.size ≤ wo.heap.size; omega) _⟩
                      case measure => simp [intOf]; omega
                    · have heb : (xv == yv) = false := by simpa using heq
                      have q0 : ¬ (m + 1 + (8 + d).toNat < 8 ∨ y.length + 8 < m + 1 + (8 + d).toNat) := by omega
                      have q1 : 8 < m + 1 + (8 + d).toNat := by omega
                      have q3 : (8 + d).toNat < 16 := by omega
                      have e1 : (8 + d).toNat + 1 = (8 + d + 1).toNat := by omega
                      have q2 : ¬ (0 < (8 + d).toNat) := by omega
                      have q4 : ¬ (x.getD (m + 1 - 1) 0 = y.getD (m + 1 + (8 + d).toNat - 9) 0) := by rw [ej, show m + 1 - 1 = m by omega, hxv, hyv]; exact heq
                      clear heq ej hxv hyv
                      have HB2 : Hid (N (8 + d).toNat = mn (mn 8 (R (8 + d + 1).toNat + 1)) (R (8 + d).toNat + 1)) := Lib.hid (by
                        rw [HB.out]
                        unfold best
                        simp only [if_neg q0, if_pos q1, if_neg q2, if_neg q4, if_pos q3]
                        rw [e1])
                      clear q0 q1 q3 q2 q4 e1
                      go_wp2
                      go_quiet (fail)
                      go_wp2
                      go_roundw
                      case rel =>
                        have hbz := hbw.setCell (p := ⟨wo.heap.size, (8 + d).toNat, none⟩) (by show W2.heap.size ≤ wo.heap.size; omega) (.int .i64 8)
                        have hrw : part (nxt x y y.length (m + 1) (rowAt x y m)) (8 + (d + 1)).toNat = upd (part N (8 + d).toNat) (8 + d).toNat (N (8 + d).toNat) := by rw [HRD.out, HND.out, HT.out, ← part_step]
                        rw [HB2.out] at hrw
                        first
                          | exact ⟨d + 1, by omega, by omega, by first | rfl | simp, by rw [HRD.out]; exact HR2.out _, by rw [hrw]; exact HV.out _, hbz.setCell (by show W2.heap.size ≤ wo.heap.size; omega) _⟩
                          | exact ⟨d + 1, by omega, by omega, by first | rfl | simp, by rw [HRD.out]; exact HR2.out _, by rw [hrw]; exact HV.out _, (below_drewN' hbz _).setCell (by show W2.heap.size ≤ wo.heap.size; omega) _⟩
                      case measure => simp [intOf]; omega
                · skip
                  have q0 : ¬ (m + 1 + (8 + d).toNat < 8 ∨ y.length + 8 < m + 1 + (8 + d).toNat) := by omega
                  have q1 : ¬ (8 < m + 1 + (8 + d).toNat) := by omega
                  have q3 : (8 + d).toNat < 16 := by omega
                  have e1 : (8 + d).toNat + 1 = (8 + d + 1).toNat := by omega
                  have HB2 : Hid (N (8 + d).toNat = mn 8 (R (8 + d + 1).toNat + 1)) := Lib.hid (by
                    rw [HB.out]
                    unfold best
                    simp only [if_neg q0, if_neg q1, if_pos q3]
                    rw [e1])
                  clear q0 q1 q3 e1
                  go_wp2
                  go_roundw
                  case rel =>
                    have hbz := hbw.setCell (p := ⟨wo.heap.size, (8 + d).toNat, none⟩) (by show W2.heap.size ≤ wo.heap.size; omega) (.int .i64 8)
                    have hrw : part (nxt x y y.length (m + 1) (rowAt x y m)) (8 + (d + 1)).toNat = upd (part N (8 + d).toNat) (8 + d).toNat (N (8 + d).toNat) := by rw [HRD.out, HND.out, HT.out, ← part_step]
                    rw [HB2.out] at hrw
                    first
                      | exact ⟨d + 1, by omega, by omega, by first | rfl | simp, by rw [HRD.out]; exact HR2.out _, by rw [hrw]; exact HV.out _, hbz.setCell (by show W2.heap.size ≤ wo.heap.size; omega) _⟩
                      | exact ⟨d + 1, by omega, by omega, by first | rfl | simp, by rw [HRD.out]; exact HR2.out _, by rw [hrw]; exact HV.out _, (below_drewN' hbz _).setCell (by show W2.heap.size ≤ wo.heap.size; omega) _⟩
                  case measure => simp [intOf]; omega
              · skip
                have hjp : 0 < (m : Int) + 1 + d := by omega
                · obtain ⟨xv, hxv⟩ : ∃ v, x.getD m 0 = v := ⟨_, rfl⟩
                  obtain ⟨yv, hyv⟩ : ∃ v, y.getD (((m : Int) + 1 + d).toNat - 1) 0 = v := ⟨_, rfl⟩
                  have cx : wr.cell? ⟨w.heap.size, m, none⟩ = some (.int .i32 xv) := by
                      rw [hbw.cell (by show w.heap.size < W2.heap.size; omega), bB.cell (by show w.heap.size < W1.heap.size; omega)]
                      rw [← hxv]; exact hcA m hml
                  have cy : wr.cell? ⟨W1.heap.size, ((m : Int) + 1 + d).toNat - 1, none⟩ = some (.int .i32 yv) := by
                    rw [hbw.cell (by show W1.heap.size < W2.heap.size; omega)]
                    rw [← hyv]; exact hcB _ (by omega)
                  have ej : m + 1 + (8 + d).toNat - 9 = ((m : Int) + 1 + d).toNat - 1 := by omega
                  have hdm : -8 < d := by omega
                  · have c2 : wr.cell? ⟨wo.heap.size, (8 + d).toNat - 1, none⟩ = some (.int .i64 (N ((8 + d).toNat - 1))) := by
                      rw [hN.cell _ (by omega)]
                      unfold part
                      rw [if_pos (by omega)]
                    have b2 := hNbd ((8 + d).toNat - 1)
                    by_cases heq : xv = yv
                    · have heb : (xv == yv) = true := by simpa using heq
                      have q0 : ¬ (m + 1 + (8 + d).toNat < 8 ∨ y.length + 8 < m + 1 + (8 + d).toNat) := by omega
                      have q1 : 8 < m + 1 + (8 + d).toNat := by omega
                      have q3 : ¬ ((8 + d).toNat < 16) := by omega
                      have q2 : 0 < (8 + d).toNat := by omega
                      have q5 : ¬ (8 + d).toNat = 0 := by omega
                      have q4 : (x.getD (m + 1 - 1) 0 = y.getD (m + 1 + (8 + d).toNat - 9) 0) := by rw [ej, show m + 1 - 1 = m by omega, hxv, hyv]; exact heq
                      clear heq ej hxv hyv
                      have HB2 : Hid (N (8 + d).toNat = mn (mn (8) (N ((8 + d).toNat - 1) + 1)) (R (8 + d).toNat)) := Lib.hid (by
                        rw [HB.out]
                        unfold best
                        simp only [if_neg q0, if_pos q1, if_pos q2, if_pos q4, if_neg q5, if_neg q3])
                      clear q0 q1 q3 q2 q4 q5
                      go_wp2
                      go_quiet (fail)
                      go_wp2
                      go_roundw
                      case rel =>
                        have hbz := hbw.setCell (p := ⟨wo.heap.size, (8 + d).toNat, none⟩) (by show W2.heap.size ≤ wo.heap.size; omega) (.int .i64 8)
                        have hrw : part (nxt x y y.length (m + 1) (rowAt x y m)) (8 + (d + 1)).toNat = upd (part N (8 + d).toNat) (8 + d).toNat (N (8 + d).toNat) := by rw [HRD.out, HND.out, HT.out, ← part_step]
                        rw [HB2.out] at hrw
                        first
                          | exact ⟨d + 1, by omega, by omega, by first | rfl | simp, by rw [HRD.out]; exact HR2.out _, by rw [hrw]; exact HV.out _, hbz.setCell (by show W2.heap.size ≤ wo.heap.size; omega) _⟩
                          | exact ⟨d + 1, by omega, by omega, by first | rfl | simp, by rw [HRD.out]; exact HR2.out _, by rw [hrw]; exact HV.out _, (below_drewN' hbz _).setCell (by show W2.heap.size ≤ wo.heap.size; omega) _⟩
                      case measure => simp [intOf]; omega
                    · have heb : (xv == yv) = false := by simpa using heq
                      have q0 : ¬ (m + 1 + (8 + d).toNat < 8 ∨ y.length + 8 < m + 1 + (8 + d).toNat) := by omega
                      have q1 : 8 < m + 1 + (8 + d).toNat := by omega
                      have q3 : ¬ ((8 + d).toNat < 16) := by omega
                      have q2 : 0 < (8 + d).toNat := by omega
                      have q5 : ¬ (8 + d).toNat = 0 := by omega
                      have q4 : ¬ (x.getD (m + 1 - 1) 0 = y.getD (m + 1 + (8 + d).toNat - 9) 0) := by rw [ej, show m + 1 - 1 = m by omega, hxv, hyv]; exact heq
                      clear heq ej hxv hyv
                      have HB2 : Hid (N (8 + d).toNat = mn (mn (8) (N ((8 + d).toNat - 1) + 1)) (R (8 + d).toNat + 1)) := Lib.hid (by
                        rw [HB.out]
                        unfold best
                        simp only [if_neg q0, if_pos q1, if_pos q2, if_neg q4, if_neg q5, if_neg q3])
                      clear q0 q1 q3 q2 q4 q5
                      go_wp2
                      go_quiet (fail)
                      go_wp2
                      go_roundw
                      case rel =>
                        have hbz := hbw.setCell (p := ⟨wo.heap.size, (8 + d).toNat, none⟩) (by show W2.heap.size ≤ wo.heap.size; omega) (.int .i64 8)
                        have hrw : part (nxt x y y.length (m + 1) (rowAt x y m)) (8 + (d + 1)).toNat = upd (part N (8 + d).toNat) (8 + d).toNat (N (8 + d).toNat) := by rw [HRD.out, HND.out, HT.out, ← part_step]
                        rw [HB2.out] at hrw
                        first
                          | exact ⟨d + 1, by omega, by omega, by first | rfl | simp, by rw [HRD.out]; exact HR2.out _, by rw [hrw]; exact HV.out _, hbz.setCell (by show W2.heap.size ≤ wo.heap.size; omega) _⟩
                          | exact ⟨d + 1, by omega, by omega, by first | rfl | simp, by rw [HRD.out]; exact HR2.out _, by rw [hrw]; exact HV.out _, (below_drewN' hbz _).setCell (by show W2.heap.size ≤ wo.heap.size; omega) _⟩
                      case measure => simp [intOf]; omega
            · obtain rfl : d = 9 := by omega
              have hN' : wr.heap[wo.heap.size]? = some (.cells (rowCells N) 43 (0, 0)) := by
                have := hN
                unfold IsRow17' at this
                rw [← row_of_part]
                exact this
              have hRh : wr.heap[W2.heap.size]? = some (.cells (rowCells R) 43 (0, 0)) := hR
              have HNH := Lib.hid hN'
              have HRH := Lib.hid hRh
              clear hN' hRh
              go_wp2_with (first | (refine wpList_load_row rfl 43 (.tmp 10) rfl wo.heap.size rfl 43 (rowCells N) (0, 0) _ HNH.out Tryd.underlying43 rfl (by rw [rowCells_size]; kernel_rfl) ?_) | (refine wpList_store_row rfl 43 (.tmp 7) (.tmp 126) rfl W2.heap.size (rowCells N) rfl rfl 43 (rowCells R) HRH.out (by rw [rowCells_size]; kernel_rfl) (by rw [rowCells_size, rowCells_size]) (by simp [rowCells, Value.oneCell']) ?_))
              go_roundw
              case rel =>
                refine ⟨m + 1, by omega, by first | rfl | simp, ?_, ?_⟩
                · have : rowAt x y (m + 1) = N := by rw [← HND.out, ← HRD.out]; rfl
                  rw [this]
                  exact setRow_heap wr W2.heap.size _ _ _ _ HRH.out
                · refine hbw.trans ⟨rfl, rfl, rfl, by simp, fun k hk => ?_⟩
                  exact setRow_other wr W2.heap.size k _ (by omega)
              case measure => simp [intOf]; omega
        · obtain rfl : m = x.length := by omega
          have hlast := hrowm.cell (8 + y.length - x.length) (by omega)
          have e1 : ((8 : Int) + (y.length : Int) - (x.length : Int)).toNat = 8 + y.length - x.length := by omega
          have hb1 : 0 ≤ (8 : Int) + (y.length : Int) - (x.length : Int) := by omega
          have hb2 : (8 : Int) + (y.length : Int) - (x.length : Int) < 17 := by omega
          go_wp2
          go_ret
          refine ⟨?_, bA.trans ((bB.mono (by omega)).trans (hbo.mono (by omega)))⟩
          rw [HN.out]
          unfold nearL
          rw [if_neg (by omega)]
          rfl
end Go.Proofs.YtlmbkliieckakaaDoor.Nm
