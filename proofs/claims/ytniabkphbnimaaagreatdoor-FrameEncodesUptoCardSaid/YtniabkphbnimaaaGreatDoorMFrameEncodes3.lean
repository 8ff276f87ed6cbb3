/- What the statement FrameEncodes leans on, part 3: words, walks and plain laws of this session's own. -/
import Derived.Test.YtniabkphbnimaaaGreatDoorProg
import Derived.Test.YtniabkphbnimaaaGreatDoorMFrameEncodes2
import Derived.ArgAppend
import Derived.Below
import Derived.BigQuiet
import Derived.Deep.AppendLies
import Derived.Deep.CutBlock
import Derived.Deep.DeepCutAuto
import Derived.Deep.Draws
import Derived.Deep.LoopGhost
import Derived.Deep.OwnRows
import Derived.Deep.QuietTactic
import Derived.Deep.RegionHeld3
import Derived.Deep.RegionLaw
import Derived.Deep.RegionWith
import Derived.Defers
import Derived.Great.Walk
import Derived.KernelRfl
import Derived.Laws.AppendOwn
import Derived.Laws.BitsLemmas
import Derived.Laws.BytesArg
import Derived.Laws.CopyOwn
import Derived.Laws.CopyRow
import Derived.Laws.IdiomCopy
import Derived.Laws.IdiomStrings
import Derived.Laws.MakeOwn
import Derived.Laws.OwnMore
import Derived.Laws.Rows
import Derived.Laws.Slices
import Derived.Lib.AppendStr
import Derived.Lib.ConvBytes
import Derived.Maps.AppendAt
import Derived.Maps.OwnSet
import Derived.OrdersHeld
import Derived.OwnWalk
import Derived.Recover
import Derived.RowKit
import Derived.RowKit3
import Derived.Shelf.Strings.Repeat
import Derived.Shelf.Strings.Trim
import Derived.Tactics
import Derived.WalkKit
import Derived.WalkSmall
import Derived.WideLaws
set_option linter.unusedVariables false
set_option linter.unusedSimpArgs false
namespace Go.Proofs.YtniabkphbnimaaaGreatDoor.Sh
open Go Go.RowKit Go.Maps Go.Proofs.YtniabkphbnimaaaGreatDoorW.PrintWords Go.Proofs.YtniabkphbnimaaaGreatDoorW.PrintLast Go.Proofs.YtniabkphbnimaaaGreatDoor.Bs
def T_122_6 : Bool × List (List Nat × List Nat) := (true, [([], []), ([], []), ([], []), ([1, 2], [1, 2]), ([3], [3]), ([4], [4]), ([5], [5]), ([], []), ([], []), ([8], [8]), ([7, 9], [7, 9]), ([10], [10]), ([11], [11]), ([12], [12]), ([6, 13], [6, 13]), ([], []), ([], []), ([16], [16]), ([15, 17], [15, 17]), ([18], [18]), ([19], [19]), ([20], [20]), ([14, 21], [14, 21]), ([], []), ([], []), ([24], [24]), ([23, 25], [23, 25]), ([26], [26]), ([27], [27]), ([22, 28], [22, 28]), ([0, 0, 1, 2, 3, 4, 5, 6, 7, 8, 9, 10, 11, 12, 13, 14, 15, 16, 17, 18, 19, 20, 21, 22, 23, 24, 25, 26, 27, 28, 29], [0]), ([30, 29, 0, 1, 2, 3, 4, 5, 6, 7, 8, 9, 10, 11, 12, 13, 14, 15, 16, 17, 18, 19, 20, 21, 22, 23, 24, 25, 26, 27, 28, 29], [29, 30])])
theorem len8_len (x : Nat) : (len8 x).length = 8 := rfl
def B_122_6 : List Nat := [0, 0, 0, 6, 14, 30, 62, 0, 0, 256, 896, 1920, 3968, 8064, 16382, 0, 0, 65536, 229376, 491520, 1015808, 2064384, 4194302, 0, 0, 16777216, 58720256, 125829120, 260046848, 536870910, 1073741823, 2147483647]
theorem tab_f122_6 : rtab .any (opsOf Tryz.f122 6) = T_122_6 := by kernel_rfl
theorem bits_f122_6 : waitsOk T_122_6.2 B_122_6 = true := by kernel_rfl
def T_122_10 : Bool × List (List Nat × List Nat) := (true, [([], []), ([0], [0]), ([1], [1]), ([2], [2]), ([], []), ([4], [4]), ([5], [5]), ([6], [6]), ([3, 0, 1, 2, 3], [3]), ([7, 8, 0, 1, 2, 3, 4, 5, 6, 7, 8], [7])])
def B_122_10 : List Nat := [0, 1, 3, 7, 0, 16, 48, 112, 15, 511]
theorem tab_f122_10 : rtab .any (opsOf Tryz.f122 10) = T_122_10 := by kernel_rfl
theorem bits_f122_10 : waitsOk T_122_10.2 B_122_10 = true := by kernel_rfl
def T_122_11 : Bool × List (List Nat × List Nat) := (true, [([], []), ([], []), ([1], [1]), ([2], [2]), ([3], [3]), ([], []), ([5], [5]), ([], []), ([7, 6], [7]), ([6, 8], [6, 8]), ([], []), ([10], [10]), ([9, 11], [9, 11]), ([4, 12], [4, 12]), ([], []), ([14], [14]), ([15], [15]), ([16], [16]), ([13, 17], [13, 17]), ([], []), ([19, 8], [19]), ([], []), ([21, 20], [21]), ([20, 22], [20, 22]), ([], []), ([24], [24]), ([23, 25], [23, 25]), ([18, 26], [18, 26]), ([0, 0, 1, 2, 3, 4, 5, 6, 7, 8, 9, 10, 11, 12, 13, 14, 15, 16, 17, 18, 19, 20, 21, 22, 23, 24, 25, 26, 27], [0]), ([28, 27, 22, 0, 1, 2, 3, 4, 5, 6, 7, 8, 9, 10, 11, 12, 13, 14, 15, 16, 17, 18, 19, 20, 21, 22, 23, 24, 25, 26, 27], [27, 28])])
def B_122_11 : List Nat := [0, 0, 2, 6, 14, 0, 32, 0, 224, 480, 0, 1024, 4064, 8190, 0, 16384, 49152, 114688, 262142, 0, 524768, 0, 3670496, 7864800, 0, 16777216, 66585056, 134217726, 268435455, 536870911]
theorem tab_f122_11 : rtab .any (opsOf Tryz.f122 11) = T_122_11 := by kernel_rfl
theorem bits_f122_11 : waitsOk T_122_11.2 B_122_11 = true := by kernel_rfl
theorem Mv.drewN {w w' : World} {S : Nat → Prop} (h : Mv w w' S) (n : Nat) : Mv w (w'.drewN n) S := ⟨h.os, h.tape, h.output, h.size, h.block⟩
theorem Wd_full (l : List W32) (h : l.length = 64) : Wd l = l.map vW := by
  unfold Wd
  rw [h]
  simp
theorem nxt_sum (x y u v : W32) : v + sg0 x + u + sg1 y = sg1 y + u + sg0 x + v := by
  rw [BitVec.add_comm (v + sg0 x + u) (sg1 y), BitVec.add_comm (v + sg0 x) u, ← BitVec.add_assoc, BitVec.add_comm v (sg0 x), ← BitVec.add_assoc]
theorem getD_of {l : List UInt8} {i : Nat} {x : UInt8} (h : l[i]? = some x) : l.getD i 0 = x := by rw [List.getD_eq_getElem?_getD, h]; rfl
set_option maxHeartbeats 8000000 in
set_option maxRecDepth 100000 in
theorem plan_calls (l B : List UInt8) (b n c p : Nat) (hn : l.length = n) (hB : B = (l.drop p).take 64) (hp : p + 64 ≤ n) (hnl : n < 1099511627776) (w : World) (H : BytesIn w (some ⟨b, 0, none⟩) l) :
    Calls Tryz.prog 122 #[.slice (some ⟨b, 0, none⟩) n c, .int .i64 (p : Int)] w fun e w' => e = .returned (.agg ((ext 48 (words B 16)).map vW).toArray) ∧ Below w.heap.size w w' := by
  have HB := Aside0.mk (show ∀ i, i < 64 → B[i]? = l[p + i]? from fun i hi => by rw [hB, List.getElem?_take, if_pos hi, List.getElem?_drop])
  have HIN := Aside0.mk (show ∀ i x, l[i]? = some x → w.cell? ⟨b, i, none⟩ = some (.int .u8 (x.toNat : Int)) from fun i x hx => by
    rcases H with e | ⟨b', o', e', hc⟩
    · rw [e] at hx
      cases hx
    · cases e'
      have := hc i x hx
      rw [Nat.zero_add] at this
      exact this)
  have HN := Aside0.mk (show l.length = n ∧ p + 64 ≤ n ∧ n < 1099511627776 from ⟨hn, hp, hnl⟩)
  clear H hB hn hp hnl
  go_enter Tryz.func122, Tryz.ntmps122
  have MARK := Aside0.mk trivial
  go_wp2_with (first
    | (clear MARK; refine wpList_alloc_v rfl 130 rfl (List.replicate 64 (.int .u32 0)) (by kernel_rfl) ?_; intro r w1 er hr1 hb1 hz1)
    | (refine wpList_alloc_v rfl 130 rfl (Wd (words B 0)) (by kernel_rfl) ?_; intro V w2 eV hV2 hb2 hz2))
  have hsz := Aside0.mk (show w.heap.size ≤ r ∧ r < V by have h1 := er.out; have h2 := eV.out; have h3 := hz1.out; omega)
  have HB2 := Aside0.mk (show Below w.heap.size w w2 from hb1.out.trans (hb2.out.mono hb1.out.size))
  have HR := Aside0.mk (show w2.heap[r]? = _ from (hb2.out.block r (blk_lt hr1.out)).trans hr1.out)
  clear er hr1 hb1 hz1 eV hb2 hz2
  go_loopw [6] (fun iv wq => ∃ k : Nat, iv = .int .i64 (k : Int) ∧ k ≤ 16 ∧ wq.heap[V]? = some (.cells (Wd (words B k)).toArray 130 (0, 0)) ∧ Mv w2 wq (fun k => k = V)) (fun iv _ => 16 - (intOf iv).toNat)
  case atStart => exact ⟨0, rfl, by omega, hV2.out, Mv.refl _ _⟩
  case round =>
    obtain ⟨k, rfl, hk, hW, hm⟩ := hrel
    have HW := Aside0.mk hW
    have HM := Aside0.mk hm
    have HBr := Aside0.mk (show Below w.heap.size w wr from Mv.toBelow HB2.out hm (fun k hk => by have := hsz.out; omega))
    clear hW hm hV2
    by_cases hk2 : k < 16
    · have o1 : decide ((k : Int) < 16) = true := decide_eq_true (by omega)
      have q3 : ((k : Int) < 64) = True := eq_true (by omega)
      obtain ⟨j0, ej0⟩ : ∃ j, j = p + 4 * k := ⟨_, rfl⟩
      obtain ⟨j1, ej1⟩ : ∃ j, j = j0 + 1 := ⟨_, rfl⟩
      obtain ⟨j2, ej2⟩ : ∃ j, j = j0 + 2 := ⟨_, rfl⟩
      obtain ⟨j3, ej3⟩ : ∃ j, j = j0 + 3 := ⟨_, rfl⟩
      have hjn : j3 < n := by have := HN.out; omega
      obtain ⟨b0, hb0⟩ : ∃ x, l[j0]? = some x := ⟨_, List.getElem?_eq_getElem (by rw [HN.out.1]; omega)⟩
      obtain ⟨b1, hb1⟩ : ∃ x, l[j1]? = some x := ⟨_, List.getElem?_eq_getElem (by rw [HN.out.1]; omega)⟩
      obtain ⟨b2, hb2⟩ : ∃ x, l[j2]? = some x := ⟨_, List.getElem?_eq_getElem (by rw [HN.out.1]; omega)⟩
      obtain ⟨b3, hb3⟩ : ∃ x, l[j3]? = some x := ⟨_, List.getElem?_eq_getElem (by rw [HN.out.1]; omega)⟩
      have c0 : wr.cell? ⟨b, j0, none⟩ = _ := below_cell HBr.out (HIN.out _ _ hb0)
      have c1 : wr.cell? ⟨b, j1, none⟩ = _ := below_cell HBr.out (HIN.out _ _ hb1)
      have c2 : wr.cell? ⟨b, j2, none⟩ = _ := below_cell HBr.out (HIN.out _ _ hb2)
      have c3 : wr.cell? ⟨b, j3, none⟩ = _ := below_cell HBr.out (HIN.out _ _ hb3)
      have eb := Aside0.mk (show bw B k = w32 b0 b1 b2 b3 by
        unfold bw
        rw [getD_of ((HB.out (4 * k) (by omega)).trans (ej0 ▸ hb0)), getD_of ((HB.out (4 * k + 1) (by omega)).trans ((show j1 = p + (4 * k + 1) by omega) ▸ hb1)), getD_of ((HB.out (4 * k + 2) (by omega)).trans ((show j2 = p + (4 * k + 2) by omega) ▸ hb2)), getD_of ((HB.out (4 * k + 3) (by omega)).trans ((show j3 = p + (4 * k + 3) by omega) ▸ hb3))])
      clear hb0 hb1 hb2 hb3
      obtain ⟨x0, d0⟩ := Wd_cell HW.out k ⟨by omega, by rw [length_words]; omega⟩
      have d1 := Wd_thaw HW.out k
      have r0 : ((j0 : Int) < (n : Int)) = True := eq_true (by omega)
      have r1 : ((j1 : Int) < (n : Int)) = True := eq_true (by omega)
      have r2 : ((j2 : Int) < (n : Int)) = True := eq_true (by omega)
      have r3 : ((j3 : Int) < (n : Int)) = True := eq_true (by omega)
      have s0 : (j0 < n) = True := eq_true (by omega)
      have s1 : (j1 < n) = True := eq_true (by omega)
      have s2 : (j2 < n) = True := eq_true (by omega)
      have s3 : (j3 < n) = True := eq_true (by omega)
      have Z0 := Aside0.mk (show wrap64 ((p : Int) + 4 * (k : Int)) = (j0 : Int) by have := HN.out; unfold wrap64; omega)
      have Z1 := Aside0.mk (show wrap64 ((j0 : Int) + 1) = (j1 : Int) by have := HN.out; unfold wrap64; omega)
      have Z2 := Aside0.mk (show wrap64 ((j0 : Int) + 2) = (j2 : Int) by have := HN.out; unfold wrap64; omega)
      have Z3 := Aside0.mk (show wrap64 ((j0 : Int) + 3) = (j3 : Int) by have := HN.out; unfold wrap64; omega)
      clear ej0 ej1 ej2 ej3 hjn
      have z0 := Z0.out
      have z1 := Z1.out
      have z2 := Z2.out
      have z3 := Z3.out
      go_wp2
      refine start_ (n := 32) (S := fun w' => w'.cell? ⟨b, j0, none⟩ = some (.int .u8 (b0.toNat : Int)) ∧ w'.cell? ⟨b, j1, none⟩ = some (.int .u8 (b1.toNat : Int)) ∧ w'.cell? ⟨b, j2, none⟩ = some (.int .u8 (b2.toNat : Int)) ∧ w'.cell? ⟨b, j3, none⟩ = some (.int .u8 (b3.toNat : Int))) (ds := [31]) #[false, false, false, false, false, false, false, false, false, false, false, false, false, false, false, false, false, false, false, false, false, false, false, false, false, false, false, false, false, false, false, false] (by kernel_rfl) rfl rfl ⟨c0, c1, c2, c3⟩ (fun hHeld => ?_)
      refine with_tabW tab_f122_6 bits_f122_6 (fun HT_ HW_ => ?_)
      refine pure_ (i := 0) (N := some 19) (v := ?_) (a' := ?_) #[true, false, false, false, false, false, false, false, false, false, false, false, false, false, false, false, false, false, false, false, false, false, false, false, false, false, false, false, false, false, false, false] rfl rfl (any_of HT_.out (by kernel_rfl)) (fun _ _ _ h => h) (Or.inl ⟨by rfl, ?_⟩) ?_ ?_
      rotate_left
      · intro w'
        go_simp
        with_reducible rfl
      rotate_left
      · simp only [pS]
        rfl
      refine pure_ (i := 1) (N := some 20) (v := ?_) (a' := ?_) #[true, true, false, false, false, false, false, false, false, false, false, false, false, false, false, false, false, false, false, false, false, false, false, false, false, false, false, false, false, false, false, false] rfl rfl (any_of HT_.out (by kernel_rfl)) (fun _ _ _ h => h) (Or.inl ⟨by rfl, ?_⟩) ?_ ?_
      rotate_left
      · intro w'
        go_simp
        with_reducible rfl
      rotate_left
      · simp only [pS]
        rfl
      refine pure_ (i := 2) (N := some 21) (v := ?_) (a' := ?_) #[true, true, true, false, false, false, false, false, false, false, false, false, false, false, false, false, false, false, false, false, false, false, false, false, false, false, false, false, false, false, false, false] rfl rfl (any_of HT_.out (by kernel_rfl)) (fun _ _ _ h => h) (Or.inl ⟨by rfl, ?_⟩) ?_ ?_
      rotate_left
      · intro w'
        go_simp
        with_reducible rfl
      rotate_left
      · simp only [pS]
        rfl
      refine pure_ (i := 3) (N := some 22) (v := ?_) (a' := ?_) #[true, true, true, true, false, false, false, false, false, false, false, false, false, false, false, false, false, false, false, false, false, false, false, false, false, false, false, false, false, false, false, false] rfl rfl (any_of HT_.out (by kernel_rfl)) (fun _ _ _ h => h) (Or.inl ⟨by rfl, ?_⟩) ?_ ?_
      rotate_left
      · intro w'
        go_simp
        with_reducible rfl
      rotate_left
      · simp only [pS]
        rfl
      refine take_ (i := 4) (N := some 23) (v := ?_) (a' := ?_) #[true, true, true, true, true, false, false, false, false, false, false, false, false, false, false, false, false, false, false, false, false, false, false, false, false, false, false, false, false, false, false, false] rfl rfl (take_ofW HT_.out HW_.out (by kernel_rfl)) (fun _ _ _ h => h) (Or.inl ⟨by rfl, ?_⟩) hHeld ?_ ?_
      rotate_left
      · rintro w' ⟨s0, s1, s2, s3⟩
        go_simp
        with_reducible rfl
      rotate_left
      · simp only [pS]
        rfl
      refine pure_ (i := 5) (N := some 24) (v := ?_) (a' := ?_) #[true, true, true, true, true, true, false, false, false, false, false, false, false, false, false, false, false, false, false, false, false, false, false, false, false, false, false, false, false, false, false, false] rfl rfl (any_of HT_.out (by kernel_rfl)) (fun _ _ _ h => h) (Or.inl ⟨by rfl, ?_⟩) ?_ ?_
      rotate_left
      · intro w'
        go_simp
        with_reducible rfl
      rotate_left
      · simp only [pS]
        rfl
      refine pure_ (i := 6) (N := some 25) (v := ?_) (a' := ?_) #[true, true, true, true, true, true, true, false, false, false, false, false, false, false, false, false, false, false, false, false, false, false, false, false, false, false, false, false, false, false, false, false] rfl rfl (any_of HT_.out (by kernel_rfl)) (fun _ _ _ h => h) (Or.inl ⟨by rfl, ?_⟩) ?_ ?_
      rotate_left
      · intro w'
        go_simp
        with_reducible rfl
      rotate_left
      · simp only [pS]
        rfl
      refine pure_ (i := 7) (N := some 26) (v := ?_) (a' := ?_) #[true, true, true, true, true, true, true, true, false, false, false, false, false, false, false, false, false, false, false, false, false, false, false, false, false, false, false, false, false, false, false, false] rfl rfl (any_of HT_.out (by kernel_rfl)) (fun _ _ _ h => h) (Or.inl ⟨by rfl, ?_⟩) ?_ ?_
      rotate_left
      · intro w'
        go_simp
        with_reducible rfl
      rotate_left
      · simp only [pS]
        rfl
      refine pure_ (i := 8) (N := some 27) (v := ?_) (a' := ?_) #[true, true, true, true, true, true, true, true, true, false, false, false, false, false, false, false, false, false, false, false, false, false, false, false, false, false, false, false, false, false, false, false] rfl rfl (any_of HT_.out (by kernel_rfl)) (fun _ _ _ h => h) (Or.inl ⟨by rfl, ?_⟩) ?_ ?_
      rotate_left
      · intro w'
        go_simp
        with_reducible rfl
      rotate_left
      · simp only [pS]
        rfl
      refine pure_ (i := 9) (N := some 28) (v := ?_) (a' := ?_) #[true, true, true, true, true, true, true, true, true, true, false, false, false, false, false, false, false, false, false, false, false, false, false, false, false, false, false, false, false, false, false, false] rfl rfl (any_of HT_.out (by kernel_rfl)) (fun _ _ _ h => h) (Or.inl ⟨by rfl, ?_⟩) ?_ ?_
      rotate_left
      · intro w'
        go_simp
        with_reducible rfl
      rotate_left
      · simp only [pS]
        rfl
      refine pure_ (i := 10) (N := some 29) (v := ?_) (a' := ?_) #[true, true, true, true, true, true, true, true, true, true, true, false, false, false, false, false, false, false, false, false, false, false, false, false, false, false, false, false, false, false, false, false] rfl rfl (any_of HT_.out (by kernel_rfl)) (fun _ _ _ h => h) (Or.inl ⟨by rfl, ?_⟩) ?_ ?_
      rotate_left
      · intro w'
        go_simp
        with_reducible rfl
      rotate_left
      · simp only [pS]
        rfl
      refine take_ (i := 11) (N := some 30) (v := ?_) (a' := ?_) #[true, true, true, true, true, true, true, true, true, true, true, true, false, false, false, false, false, false, false, false, false, false, false, false, false, false, false, false, false, false, false, false] rfl rfl (take_ofW HT_.out HW_.out (by kernel_rfl)) (fun _ _ _ h => h) (Or.inl ⟨by rfl, ?_⟩) hHeld ?_ ?_
      rotate_left
      · rintro w' ⟨s0, s1, s2, s3⟩
        go_simp
        with_reducible rfl
      rotate_left
      · simp only [pS]
        rfl
      refine pure_ (i := 12) (N := some 31) (v := ?_) (a' := ?_) #[true, true, true, true, true, true, true, true, true, true, true, true, true, false, false, false, false, false, false, false, false, false, false, false, false, false, false, false, false, false, false, false] rfl rfl (any_of HT_.out (by kernel_rfl)) (fun _ _ _ h => h) (Or.inl ⟨by rfl, ?_⟩) ?_ ?_
      rotate_left
      · intro w'
        go_simp
        with_reducible rfl
      rotate_left
      · simp only [pS]
        rfl
      refine pure_ (i := 13) (N := some 32) (v := ?_) (a' := ?_) #[true, true, true, true, true, true, true, true, true, true, true, true, true, true, false, false, false, false, false, false, false, false, false, false, false, false, false, false, false, false, false, false] rfl rfl (any_of HT_.out (by kernel_rfl)) (fun _ _ _ h => h) (Or.inl ⟨by rfl, ?_⟩) ?_ ?_
      rotate_left
      · intro w'
        go_simp
        with_reducible rfl
      rotate_left
      · simp only [pS]
        rfl
      refine pure_ (i := 14) (N := some 33) (v := ?_) (a' := ?_) #[true, true, true, true, true, true, true, true, true, true, true, true, true, true, true, false, false, false, false, false, false, false, false, false, false, false, false, false, false, false, false, false] rfl rfl (any_of HT_.out (by kernel_rfl)) (fun _ _ _ h => h) (Or.inl ⟨by rfl, ?_⟩) ?_ ?_
      rotate_left
      · intro w'
        go_simp
        with_reducible rfl
      rotate_left
      · simp only [pS]
        rfl
      refine pure_ (i := 15) (N := some 34) (v := ?_) (a' := ?_) #[true, true, true, true, true, true, true, true, true, true, true, true, true, true, true, true, false, false, false, false, false, false, false, false, false, false, false, false, false, false, false, false] rfl rfl (any_of HT_.out (by kernel_rfl)) (fun _ _ _ h => h) (Or.inl ⟨by rfl, ?_⟩) ?_ ?_
      rotate_left
      · intro w'
        go_simp
        with_reducible rfl
      rotate_left
      · simp only [pS]
        rfl
      refine pure_ (i := 16) (N := some 35) (v := ?_) (a' := ?_) #[true, true, true, true, true, true, true, true, true, true, true, true, true, true, true, true, true, false, false, false, false, false, false, false, false, false, false, false, false, false, false, false] rfl rfl (any_of HT_.out (by kernel_rfl)) (fun _ _ _ h => h) (Or.inl ⟨by rfl, ?_⟩) ?_ ?_
      rotate_left
      · intro w'
        go_simp
        with_reducible rfl
      rotate_left
      · simp only [pS]
        rfl
      refine pure_ (i := 17) (N := some 36) (v := ?_) (a' := ?_) #[true, true, true, true, true, true, true, true, true, true, true, true, true, true, true, true, true, true, false, false, false, false, false, false, false, false, false, false, false, false, false, false] rfl rfl (any_of HT_.out (by kernel_rfl)) (fun _ _ _ h => h) (Or.inl ⟨by rfl, ?_⟩) ?_ ?_
      rotate_left
      · intro w'
        go_simp
        with_reducible rfl
      rotate_left
      · simp only [pS]
        rfl
      refine pure_ (i := 18) (N := some 37) (v := ?_) (a' := ?_) #[true, true, true, true, true, true, true, true, true, true, true, true, true, true, true, true, true, true, true, false, false, false, false, false, false, false, false, false, false, false, false, false] rfl rfl (any_of HT_.out (by kernel_rfl)) (fun _ _ _ h => h) (Or.inl ⟨by rfl, ?_⟩) ?_ ?_
      rotate_left
      · intro w'
        go_simp
        with_reducible rfl
      rotate_left
      · simp only [pS]
        rfl
      refine take_ (i := 19) (N := some 38) (v := ?_) (a' := ?_) #[true, true, true, true, true, true, true, true, true, true, true, true, true, true, true, true, true, true, true, true, false, false, false, false, false, false, false, false, false, false, false, false] rfl rfl (take_ofW HT_.out HW_.out (by kernel_rfl)) (fun _ _ _ h => h) (Or.inl ⟨by rfl, ?_⟩) hHeld ?_ ?_
      rotate_left
      · rintro w' ⟨s0, s1, s2, s3⟩
        go_simp
        with_reducible rfl
      rotate_left
      · simp only [pS]
        rfl
      refine pure_ (i := 20) (N := some 39) (v := ?_) (a' := ?_) #[true, true, true, true, true, true, true, true, true, true, true, true, true, true, true, true, true, true, true, true, true, false, false, false, false, false, false, false, false, false, false, false] rfl rfl (any_of HT_.out (by kernel_rfl)) (fun _ _ _ h => h) (Or.inl ⟨by rfl, ?_⟩) ?_ ?_
      rotate_left
      · intro w'
        go_simp
        with_reducible rfl
      rotate_left
      · simp only [pS]
        rfl
      refine pure_ (i := 21) (N := some 40) (v := ?_) (a' := ?_) #[true, true, true, true, true, true, true, true, true, true, true, true, true, true, true, true, true, true, true, true, true, true, false, false, false, false, false, false, false, false, false, false] rfl rfl (any_of HT_.out (by kernel_rfl)) (fun _ _ _ h => h) (Or.inl ⟨by rfl, ?_⟩) ?_ ?_
      rotate_left
      · intro w'
        go_simp
        with_reducible rfl
      rotate_left
      · simp only [pS]
        rfl
      refine pure_ (i := 22) (N := some 41) (v := ?_) (a' := ?_) #[true, true, true, true, true, true, true, true, true, true, true, true, true, true, true, true, true, true, true, true, true, true, true, false, false, false, false, false, false, false, false, false] rfl rfl (any_of HT_.out (by kernel_rfl)) (fun _ _ _ h => h) (Or.inl ⟨by rfl, ?_⟩) ?_ ?_
      rotate_left
      · intro w'
        go_simp
        with_reducible rfl
      rotate_left
      · simp only [pS]
        rfl
      refine pure_ (i := 23) (N := some 42) (v := ?_) (a' := ?_) #[true, true, true, true, true, true, true, true, true, true, true, true, true, true, true, true, true, true, true, true, true, true, true, true, false, false, false, false, false, false, false, false] rfl rfl (any_of HT_.out (by kernel_rfl)) (fun _ _ _ h => h) (Or.inl ⟨by rfl, ?_⟩) ?_ ?_
      rotate_left
      · intro w'
        go_simp
        with_reducible rfl
      rotate_left
      · simp only [pS]
        rfl
      refine pure_ (i := 24) (N := some 43) (v := ?_) (a' := ?_) #[true, true, true, true, true, true, true, true, true, true, true, true, true, true, true, true, true, true, true, true, true, true, true, true, true, false, false, false, false, false, false, false] rfl rfl (any_of HT_.out (by kernel_rfl)) (fun _ _ _ h => h) (Or.inl ⟨by rfl, ?_⟩) ?_ ?_
      rotate_left
      · intro w'
        go_simp
        with_reducible rfl
      rotate_left
      · simp only [pS]
        rfl
      refine pure_ (i := 25) (N := some 44) (v := ?_) (a' := ?_) #[true, true, true, true, true, true, true, true, true, true, true, true, true, true, true, true, true, true, true, true, true, true, true, true, true, true, false, false, false, false, false, false] rfl rfl (any_of HT_.out (by kernel_rfl)) (fun _ _ _ h => h) (Or.inl ⟨by rfl, ?_⟩) ?_ ?_
      rotate_left
      · intro w'
        go_simp
        with_reducible rfl
      rotate_left
      · simp only [pS]
        rfl
      refine pure_ (i := 26) (N := some 45) (v := ?_) (a' := ?_) #[true, true, true, true, true, true, true, true, true, true, true, true, true, true, true, true, true, true, true, true, true, true, true, true, true, true, true, false, false, false, false, false] rfl rfl (any_of HT_.out (by kernel_rfl)) (fun _ _ _ h => h) (Or.inl ⟨by rfl, ?_⟩) ?_ ?_
      rotate_left
      · intro w'
        go_simp
        with_reducible rfl
      rotate_left
      · simp only [pS]
        rfl
      refine take_ (i := 27) (N := some 46) (v := ?_) (a' := ?_) #[true, true, true, true, true, true, true, true, true, true, true, true, true, true, true, true, true, true, true, true, true, true, true, true, true, true, true, true, false, false, false, false] rfl rfl (take_ofW HT_.out HW_.out (by kernel_rfl)) (fun _ _ _ h => h) (Or.inl ⟨by rfl, ?_⟩) hHeld ?_ ?_
      rotate_left
      · rintro w' ⟨s0, s1, s2, s3⟩
        go_simp
        with_reducible rfl
      rotate_left
      · simp only [pS]
        rfl
      refine pure_ (i := 28) (N := some 47) (v := ?_) (a' := ?_) #[true, true, true, true, true, true, true, true, true, true, true, true, true, true, true, true, true, true, true, true, true, true, true, true, true, true, true, true, true, false, false, false] rfl rfl (any_of HT_.out (by kernel_rfl)) (fun _ _ _ h => h) (Or.inl ⟨by rfl, ?_⟩) ?_ ?_
      rotate_left
      · intro w'
        go_simp
        with_reducible rfl
      rotate_left
      · simp only [pS]
        rfl
      refine pure_ (i := 29) (N := some 48) (v := ?_) (a' := ?_) #[true, true, true, true, true, true, true, true, true, true, true, true, true, true, true, true, true, true, true, true, true, true, true, true, true, true, true, true, true, true, false, false] rfl rfl (any_of HT_.out (by kernel_rfl)) (fun _ _ _ h => h) (Or.inl ⟨by rfl, ?_⟩) ?_ ?_
      rotate_left
      · intro w'
        go_simp
        with_reducible rfl
      rotate_left
      · simp only [pS]
        rfl
      refine pure_ (i := 30) (N := some 49) (v := ?_) (a' := ?_) #[true, true, true, true, true, true, true, true, true, true, true, true, true, true, true, true, true, true, true, true, true, true, true, true, true, true, true, true, true, true, true, false] rfl rfl (any_of HT_.out (by kernel_rfl)) (fun _ _ _ h => h) (Or.inl ⟨by rfl, ?_⟩) ?_ ?_
      rotate_left
      · intro w'
        go_simp
        with_reducible rfl
      rotate_left
      · simp only [pS]
        rfl
      refine last_ (i := 31) (N := none) #[true, true, true, true, true, true, true, true, true, true, true, true, true, true, true, true, true, true, true, true, true, true, true, true, true, true, true, true, true, true, true, true] rfl rfl (one_of HT_.out (by kernel_rfl)) (by decide) (fun K hK => ?_)
      refine unit_ (w' := ?_) (by rfl) rfl ?hrun ?_
      case hrun => go_simp; rfl
      refine hK.out _ _ ?_
      clear hK K
      refine norm_ (a' := ?_) ?_ ?_
      rotate_left
      · show Act.put _ (none) _ = _
        simp only [pS]
        rfl
      refine done_ (done_of HT_.out (by kernel_rfl)) ?_
      go_wp2
      clear z0 z1 z2 z3 hHeld
      rw [w32_bits, ← eb.out]
      refine ⟨⟨k + 1, rfl, by omega, ?_, (HM.out.set k _ (Or.inl rfl)).drew⟩, by simp only [intOf]; omega⟩
      have hs := set_of HW.out k (.int .u32 ((bw B k).toNat : Int))
      have hk3 := length_words B k
      have e := Wd_set (words B k) (bw B k) (by omega)
      rw [hk3] at e
      rw [e] at hs
      exact hs
    · have o1 : decide ((k : Int) < 16) = false := decide_eq_false (by omega)
      have HW := Aside0.mk (show wr.heap[V]? = some (.cells (Wd (words B 16)).toArray 130 (0, 0)) from (show k = 16 by omega) ▸ HW.out)
      clear hk hk2
      go_wp2
      go_loopw [8] (fun iv wq => ∃ t : Nat, iv = .int .i64 (t : Int) ∧ 16 ≤ t ∧ t ≤ 64 ∧ wq.heap[V]? = some (.cells (Wd (ext (t - 16) (words B 16))).toArray 130 (0, 0)) ∧ Mv w2 wq (fun k => k = V)) (fun iv _ => 64 - (intOf iv).toNat)
      case atStart => exact ⟨16, rfl, by omega, by omega, HW.out, HM.out⟩
      case round =>
        obtain ⟨t, rfl, ht16, ht, hW, hm⟩ := hrel
        clear HW HM HBr
        have HW := Aside0.mk hW
        have HM := Aside0.mk hm
        clear hW hm
        by_cases hk2 : t < 64
        · have o1 : decide ((t : Int) < 64) = true := decide_eq_true (by omega)
          have hl := length_ext (words B 16) (t - 16)
          rw [length_words] at hl
          obtain ⟨l, el⟩ : ∃ l, l = ext (t - 16) (words B 16) := ⟨_, rfl⟩
          rw [← el] at hl
          have HW := Aside0.mk (el ▸ HW.out)
          obtain ⟨i, ei⟩ : ∃ i : Nat, i = t - 15 := ⟨_, rfl⟩
          obtain ⟨j, ej⟩ : ∃ j : Nat, j = t - 2 := ⟨_, rfl⟩
          obtain ⟨m, em⟩ : ∃ m : Nat, m = t - 7 := ⟨_, rfl⟩
          obtain ⟨q, ep⟩ : ∃ q : Nat, q = t - 16 := ⟨_, rfl⟩
          have ai : ((i : Int) < 64) = True := eq_true (by omega)
          have aj : ((j : Int) < 64) = True := eq_true (by omega)
          have am : ((m : Int) < 64) = True := eq_true (by omega)
          have ap : ((q : Int) < 64) = True := eq_true (by omega)
          have at_ : ((t : Int) < 64) = True := eq_true (by omega)
          have ci := cell_of HW.out (Wd_get l i (by omega))
          have cj := cell_of HW.out (Wd_get l j (by omega))
          have cm := cell_of HW.out (Wd_get l m (by omega))
          have cp := cell_of HW.out (Wd_get l q (by omega))
          obtain ⟨x0, d0⟩ := Wd_cell HW.out t ⟨by omega, by omega⟩
          have d1 := Wd_thaw HW.out t
          obtain ⟨x, ex⟩ : ∃ x, x = l.getD i 0 := ⟨_, rfl⟩
          obtain ⟨y, ey⟩ : ∃ y, y = l.getD j 0 := ⟨_, rfl⟩
          obtain ⟨u, eu⟩ : ∃ u, u = l.getD m 0 := ⟨_, rfl⟩
          obtain ⟨v, ev⟩ : ∃ v, v = l.getD q 0 := ⟨_, rfl⟩
          rw [← ex] at ci
          rw [← ey] at cj
          rw [← eu] at cm
          rw [← ev] at cp
          have en := Aside0.mk (show nxt l t = sg1 y + u + sg0 x + v by rw [ex, ey, eu, ev, ei, ej, em, ep]; rfl)
          have et := Aside0.mk (show 16 + (t - 16) = t ∧ t < 64 by omega)
          have zi : wrap64 ((t : Int) - 15) = (i : Int) := by unfold wrap64; omega
          have zj : wrap64 ((t : Int) - 2) = (j : Int) := by clear zi; unfold wrap64; omega
          have zm : wrap64 ((t : Int) - 7) = (m : Int) := by clear zi zj; unfold wrap64; omega
          have zp : wrap64 ((t : Int) - 16) = (q : Int) := by clear zi zj zm; unfold wrap64; omega
          clear ex ey eu ev ei ej em ep ht16 ht hk2
          go_wp2
          refine start_ (n := 10) (S := fun w' => w'.cell? ⟨V, i, none⟩ = some (.int .u32 (x.toNat : Int)) ∧ w'.cell? ⟨V, j, none⟩ = some (.int .u32 (y.toNat : Int))) (ds := []) #[false, false, false, false, false, false, false, false, false, false] (by kernel_rfl) rfl rfl ⟨ci, cj⟩ (fun hHeld => ?_)
          refine with_tabW tab_f122_10 bits_f122_10 (fun HT_ HW_ => ?_)
          refine pure_ (i := 0) (N := some 54) (v := ?_) (a' := ?_) #[true, false, false, false, false, false, false, false, false, false] rfl rfl (any_of HT_.out (by kernel_rfl)) (fun _ _ _ h => h) (Or.inl ⟨by rfl, ?_⟩) ?_ ?_
          rotate_left
          · intro w'
            go_simp
            with_reducible rfl
          rotate_left
          · simp only [pS]
            rfl
          refine pure_ (i := 1) (N := some 55) (v := ?_) (a' := ?_) #[true, true, false, false, false, false, false, false, false, false] rfl rfl (any_of HT_.out (by kernel_rfl)) (fun _ _ _ h => h) (Or.inl ⟨by rfl, ?_⟩) ?_ ?_
          rotate_left
          · intro w'
            go_simp
            with_reducible rfl
          rotate_left
          · simp only [pS]
            rfl
          refine pure_ (i := 2) (N := some 56) (v := ?_) (a' := ?_) #[true, true, true, false, false, false, false, false, false, false] rfl rfl (any_of HT_.out (by kernel_rfl)) (fun _ _ _ h => h) (Or.inl ⟨by rfl, ?_⟩) ?_ ?_
          rotate_left
          · intro w'
            go_simp
            with_reducible rfl
          rotate_left
          · simp only [pS]
            rfl
          refine take_ (i := 3) (N := some 57) (v := ?_) (a' := ?_) #[true, true, true, true, false, false, false, false, false, false] rfl rfl (take_ofW HT_.out HW_.out (by kernel_rfl)) (fun _ _ _ h => h) (Or.inl ⟨by rfl, ?_⟩) hHeld ?_ ?_
          rotate_left
          · rintro w' ⟨s0, s1⟩
            go_simp
            with_reducible rfl
          rotate_left
          · simp only [pS]
            rfl
          refine pure_ (i := 4) (N := some 58) (v := ?_) (a' := ?_) #[true, true, true, true, true, false, false, false, false, false] rfl rfl (any_of HT_.out (by kernel_rfl)) (fun _ _ _ h => h) (Or.inl ⟨by rfl, ?_⟩) ?_ ?_
          rotate_left
          · intro w'
            go_simp
            with_reducible rfl
          rotate_left
          · simp only [pS]
            rfl
          refine pure_ (i := 5) (N := some 59) (v := ?_) (a' := ?_) #[true, true, true, true, true, true, false, false, false, false] rfl rfl (any_of HT_.out (by kernel_rfl)) (fun _ _ _ h => h) (Or.inl ⟨by rfl, ?_⟩) ?_ ?_
          rotate_left
          · intro w'
            go_simp
            with_reducible rfl
          rotate_left
          · simp only [pS]
            rfl
          refine pure_ (i := 6) (N := some 60) (v := ?_) (a' := ?_) #[true, true, true, true, true, true, true, false, false, false] rfl rfl (any_of HT_.out (by kernel_rfl)) (fun _ _ _ h => h) (Or.inl ⟨by rfl, ?_⟩) ?_ ?_
          rotate_left
          · intro w'
            go_simp
            with_reducible rfl
          rotate_left
          · simp only [pS]
            rfl
          refine take_ (i := 7) (N := some 61) (v := ?_) (a' := ?_) #[true, true, true, true, true, true, true, true, false, false] rfl rfl (take_ofW HT_.out HW_.out (by kernel_rfl)) (fun _ _ _ h => h) (Or.inl ⟨by rfl, ?_⟩) hHeld ?_ ?_
          rotate_left
          · rintro w' ⟨s0, s1⟩
            go_simp
            with_reducible rfl
          rotate_left
          · simp only [pS]
            rfl
          refine pure_ (i := 8) (N := some 9) (v := ?_) (a' := ?_) #[true, true, true, true, true, true, true, true, true, false] rfl rfl (any_of HT_.out (by kernel_rfl)) (fun _ _ _ h => h) (Or.inl ⟨by rfl, ?_⟩) ?_ ?_
          rotate_left
          · intro w'
            go_simp
            with_reducible rfl
          rotate_left
          · simp only [pS]
            rfl
          refine pure_ (i := 9) (N := some 10) (v := ?_) (a' := ?_) #[true, true, true, true, true, true, true, true, true, true] rfl rfl (any_of HT_.out (by kernel_rfl)) (fun _ _ _ h => h) (Or.inl ⟨by rfl, ?_⟩) ?_ ?_
          rotate_left
          · intro w'
            go_simp
            with_reducible rfl
          rotate_left
          · simp only [pS]
            rfl
          refine done_ (done_of HT_.out (by kernel_rfl)) ?_
          go_wp2
          refine start_ (n := 30) (S := fun w' => w'.cell? ⟨V, q, none⟩ = some (.int .u32 (v.toNat : Int)) ∧ w'.cell? ⟨V, m, none⟩ = some (.int .u32 (u.toNat : Int))) (ds := [29]) #[false, false, false, false, false, false, false, false, false, false, false, false, false, false, false, false, false, false, false, false, false, false, false, false, false, false, false, false, false, false] (by kernel_rfl) rfl rfl ⟨cp, cm⟩ (fun hHeld => ?_)
          refine with_tabW tab_f122_11 bits_f122_11 (fun HT_ HW_ => ?_)
          refine pure_ (i := 0) (N := some 62) (v := ?_) (a' := ?_) #[true, false, false, false, false, false, false, false, false, false, false, false, false, false, false, false, false, false, false, false, false, false, false, false, false, false, false, false, false, false] rfl rfl (any_of HT_.out (by kernel_rfl)) (fun _ _ _ h => h) (Or.inl ⟨by rfl, ?_⟩) ?_ ?_
          rotate_left
          · intro w'
            go_simp
            with_reducible rfl
          rotate_left
          · simp only [pS]
            rfl
          refine pure_ (i := 1) (N := some 63) (v := ?_) (a' := ?_) #[true, true, false, false, false, false, false, false, false, false, false, false, false, false, false, false, false, false, false, false, false, false, false, false, false, false, false, false, false, false] rfl rfl (any_of HT_.out (by kernel_rfl)) (fun _ _ _ h => h) (Or.inl ⟨by rfl, ?_⟩) ?_ ?_
          rotate_left
          · intro w'
            go_simp
            with_reducible rfl
          rotate_left
          · simp only [pS]
            rfl
          refine pure_ (i := 2) (N := some 64) (v := ?_) (a' := ?_) #[true, true, true, false, false, false, false, false, false, false, false, false, false, false, false, false, false, false, false, false, false, false, false, false, false, false, false, false, false, false] rfl rfl (any_of HT_.out (by kernel_rfl)) (fun _ _ _ h => h) (Or.inl ⟨by rfl, ?_⟩) ?_ ?_
          rotate_left
          · intro w'
            go_simp
            with_reducible rfl
          rotate_left
          · simp only [pS]
            rfl
          refine pure_ (i := 3) (N := some 65) (v := ?_) (a' := ?_) #[true, true, true, true, false, false, false, false, false, false, false, false, false, false, false, false, false, false, false, false, false, false, false, false, false, false, false, false, false, false] rfl rfl (any_of HT_.out (by kernel_rfl)) (fun _ _ _ h => h) (Or.inl ⟨by rfl, ?_⟩) ?_ ?_
          rotate_left
          · intro w'
            go_simp
            with_reducible rfl
          rotate_left
          · simp only [pS]
            rfl
          refine take_ (i := 4) (N := some 66) (v := ?_) (a' := ?_) #[true, true, true, true, true, false, false, false, false, false, false, false, false, false, false, false, false, false, false, false, false, false, false, false, false, false, false, false, false, false] rfl rfl (take_ofW HT_.out HW_.out (by kernel_rfl)) (fun _ _ _ h => h) (Or.inl ⟨by rfl, ?_⟩) hHeld ?_ ?_
          rotate_left
          · rintro w' ⟨s0, s1⟩
            go_simp
            with_reducible rfl
          rotate_left
          · simp only [pS]
            rfl
          refine pure_ (i := 5) (N := some 67) (v := ?_) (a' := ?_) #[true, true, true, true, true, true, false, false, false, false, false, false, false, false, false, false, false, false, false, false, false, false, false, false, false, false, false, false, false, false] rfl rfl (any_of HT_.out (by kernel_rfl)) (fun _ _ _ h => h) (Or.inl ⟨by rfl, ?_⟩) ?_ ?_
          rotate_left
          · intro w'
            go_simp
            with_reducible rfl
          rotate_left
          · simp only [pS]
            rfl
          refine pure_ (i := 7) (N := some 69) (v := ?_) (a' := ?_) #[true, true, true, true, true, true, false, true, false, false, false, false, false, false, false, false, false, false, false, false, false, false, false, false, false, false, false, false, false, false] rfl rfl (any_of HT_.out (by kernel_rfl)) (fun _ _ _ h => h) (Or.inl ⟨by rfl, ?_⟩) ?_ ?_
          rotate_left
          · intro w'
            go_simp
            with_reducible rfl
          rotate_left
          · simp only [pS]
            rfl
          refine pure_ (i := 10) (N := some 72) (v := ?_) (a' := ?_) #[true, true, true, true, true, true, false, true, false, false, true, false, false, false, false, false, false, false, false, false, false, false, false, false, false, false, false, false, false, false] rfl rfl (any_of HT_.out (by kernel_rfl)) (fun _ _ _ h => h) (Or.inl ⟨by rfl, ?_⟩) ?_ ?_
          rotate_left
          · intro w'
            go_simp
            with_reducible rfl
          rotate_left
          · simp only [pS]
            rfl
          refine pure_ (i := 11) (N := some 73) (v := ?_) (a' := ?_) #[true, true, true, true, true, true, false, true, false, false, true, true, false, false, false, false, false, false, false, false, false, false, false, false, false, false, false, false, false, false] rfl rfl (any_of HT_.out (by kernel_rfl)) (fun _ _ _ h => h) (Or.inl ⟨by rfl, ?_⟩) ?_ ?_
          rotate_left
          · intro w'
            go_simp
            with_reducible rfl
          rotate_left
          · simp only [pS]
            rfl
          refine pure_ (i := 14) (N := some 76) (v := ?_) (a' := ?_) #[true, true, true, true, true, true, false, true, false, false, true, true, false, false, true, false, false, false, false, false, false, false, false, false, false, false, false, false, false, false] rfl rfl (any_of HT_.out (by kernel_rfl)) (fun _ _ _ h => h) (Or.inl ⟨by rfl, ?_⟩) ?_ ?_
          rotate_left
          · intro w'
            go_simp
            with_reducible rfl
          rotate_left
          · simp only [pS]
            rfl
          refine pure_ (i := 15) (N := some 77) (v := ?_) (a' := ?_) #[true, true, true, true, true, true, false, true, false, false, true, true, false, false, true, true, false, false, false, false, false, false, false, false, false, false, false, false, false, false] rfl rfl (any_of HT_.out (by kernel_rfl)) (fun _ _ _ h => h) (Or.inl ⟨by rfl, ?_⟩) ?_ ?_
          rotate_left
          · intro w'
            go_simp
            with_reducible rfl
          rotate_left
          · simp only [pS]
            rfl
          refine pure_ (i := 16) (N := some 78) (v := ?_) (a' := ?_) #[true, true, true, true, true, true, false, true, false, false, true, true, false, false, true, true, true, false, false, false, false, false, false, false, false, false, false, false, false, false] rfl rfl (any_of HT_.out (by kernel_rfl)) (fun _ _ _ h => h) (Or.inl ⟨by rfl, ?_⟩) ?_ ?_
          rotate_left
          · intro w'
            go_simp
            with_reducible rfl
          rotate_left
          · simp only [pS]
            rfl
          refine take_ (i := 17) (N := some 79) (v := ?_) (a' := ?_) #[true, true, true, true, true, true, false, true, false, false, true, true, false, false, true, true, true, true, false, false, false, false, false, false, false, false, false, false, false, false] rfl rfl (take_ofW HT_.out HW_.out (by kernel_rfl)) (fun _ _ _ h => h) (Or.inl ⟨by rfl, ?_⟩) hHeld ?_ ?_
          rotate_left
          · rintro w' ⟨s0, s1⟩
            go_simp
            with_reducible rfl
          rotate_left
          · simp only [pS]
            rfl
          refine pure_ (i := 19) (N := some 81) (v := ?_) (a' := ?_) #[true, true, true, true, true, true, false, true, false, false, true, true, false, false, true, true, true, true, false, true, false, false, false, false, false, false, false, false, false, false] rfl rfl (any_of HT_.out (by kernel_rfl)) (fun _ _ _ h => h) (Or.inl ⟨by rfl, ?_⟩) ?_ ?_
          rotate_left
          · intro w'
            go_simp
            with_reducible rfl
          rotate_left
          · simp only [pS]
            rfl
          refine pure_ (i := 21) (N := some 83) (v := ?_) (a' := ?_) #[true, true, true, true, true, true, false, true, false, false, true, true, false, false, true, true, true, true, false, true, false, true, false, false, false, false, false, false, false, false] rfl rfl (any_of HT_.out (by kernel_rfl)) (fun _ _ _ h => h) (Or.inl ⟨by rfl, ?_⟩) ?_ ?_
          rotate_left
          · intro w'
            go_simp
            with_reducible rfl
          rotate_left
          · simp only [pS]
            rfl
          refine pure_ (i := 24) (N := some 86) (v := ?_) (a' := ?_) #[true, true, true, true, true, true, false, true, false, false, true, true, false, false, true, true, true, true, false, true, false, true, false, false, true, false, false, false, false, false] rfl rfl (any_of HT_.out (by kernel_rfl)) (fun _ _ _ h => h) (Or.inl ⟨by rfl, ?_⟩) ?_ ?_
          rotate_left
          · intro w'
            go_simp
            with_reducible rfl
          rotate_left
          · simp only [pS]
            rfl
          refine pure_ (i := 25) (N := some 87) (v := ?_) (a' := ?_) #[true, true, true, true, true, true, false, true, false, false, true, true, false, false, true, true, true, true, false, true, false, true, false, false, true, true, false, false, false, false] rfl rfl (any_of HT_.out (by kernel_rfl)) (fun _ _ _ h => h) (Or.inl ⟨by rfl, ?_⟩) ?_ ?_
          rotate_left
          · intro w'
            go_simp
            with_reducible rfl
          rotate_left
          · simp only [pS]
            rfl
          refine one_ (i := 6) (N := some 68) #[true, true, true, true, true, true, true, true, false, false, true, true, false, false, true, true, true, true, false, true, false, true, false, false, true, true, false, false, false, false] rfl rfl (one_of HT_.out (by kernel_rfl)) (by decide) (fun K hK => ?_)
          refine goes_ Tryz.func123 (by kernel_rfl) rfl #[.int .u32 (x.toNat : Int), .int .i64 7] (by rfl) rfl rfl (by (try simp only [List.map_toArray, List.map_cons, List.map_nil]); first | done | rfl) ?_
          with_reducible refine (turn_calls x 7 7 rfl (by decide) (by decide) _).mono ?_
          rintro e w6 ⟨rfl, ⟨nd, rfl⟩⟩
          refine ⟨_, rfl, ?_⟩
          refine hK.out _ _ hHeld (fun hHeld => ?_)
          clear hK K
          refine norm_ (a' := ?_) ?_ ?_
          rotate_left
          · show Act.put _ (some 68) _ = _
            simp only [pS]
            rfl
          refine one_ (i := 8) (N := some 70) #[true, true, true, true, true, true, true, true, true, false, true, true, false, false, true, true, true, true, false, true, false, true, false, false, true, true, false, false, false, false] rfl rfl (one_of HT_.out (by kernel_rfl)) (by decide) (fun K hK => ?_)
          refine goes_ Tryz.func123 (by kernel_rfl) rfl #[.int .u32 (x.toNat : Int), .int .i64 18] (by rfl) rfl rfl (by (try simp only [List.map_toArray, List.map_cons, List.map_nil]); first | done | rfl) ?_
          with_reducible refine (turn_calls x 18 18 rfl (by decide) (by decide) _).mono ?_
          rintro e w6 ⟨rfl, ⟨nd, rfl⟩⟩
          refine ⟨_, rfl, ?_⟩
          refine hK.out _ _ hHeld (fun hHeld => ?_)
          clear hK K
          refine norm_ (a' := ?_) ?_ ?_
          rotate_left
          · show Act.put _ (some 70) _ = _
            simp only [pS]
            rfl
          refine pure_ (i := 9) (N := some 71) (v := ?_) (a' := ?_) #[true, true, true, true, true, true, true, true, true, true, true, true, false, false, true, true, true, true, false, true, false, true, false, false, true, true, false, false, false, false] rfl rfl (any_of HT_.out (by kernel_rfl)) (fun _ _ _ h => h) (Or.inl ⟨by rfl, ?_⟩) ?_ ?_
          rotate_left
          · intro w'
            go_simp
            with_reducible rfl
          rotate_left
          · simp only [pS]
            rfl
          refine pure_ (i := 12) (N := some 74) (v := ?_) (a' := ?_) #[true, true, true, true, true, true, true, true, true, true, true, true, true, false, true, true, true, true, false, true, false, true, false, false, true, true, false, false, false, false] rfl rfl (any_of HT_.out (by kernel_rfl)) (fun _ _ _ h => h) (Or.inl ⟨by rfl, ?_⟩) ?_ ?_
          rotate_left
          · intro w'
            go_simp
            with_reducible rfl
          rotate_left
          · simp only [pS]
            rfl
          refine pure_ (i := 13) (N := some 75) (v := ?_) (a' := ?_) #[true, true, true, true, true, true, true, true, true, true, true, true, true, true, true, true, true, true, false, true, false, true, false, false, true, true, false, false, false, false] rfl rfl (any_of HT_.out (by kernel_rfl)) (fun _ _ _ h => h) (Or.inl ⟨by rfl, ?_⟩) ?_ ?_
          rotate_left
          · intro w'
            go_simp
            with_reducible rfl
          rotate_left
          · simp only [pS]
            rfl
          refine pure_ (i := 18) (N := some 80) (v := ?_) (a' := ?_) #[true, true, true, true, true, true, true, true, true, true, true, true, true, true, true, true, true, true, true, true, false, true, false, false, true, true, false, false, false, false] rfl rfl (any_of HT_.out (by kernel_rfl)) (fun _ _ _ h => h) (Or.inl ⟨by rfl, ?_⟩) ?_ ?_
          rotate_left
          · intro w'
            go_simp
            with_reducible rfl
          rotate_left
          · simp only [pS]
            rfl
          refine one_ (i := 20) (N := some 82) #[true, true, true, true, true, true, true, true, true, true, true, true, true, true, true, true, true, true, true, true, true, true, false, false, true, true, false, false, false, false] rfl rfl (one_of HT_.out (by kernel_rfl)) (by decide) (fun K hK => ?_)
          refine goes_ Tryz.func123 (by kernel_rfl) rfl #[.int .u32 (y.toNat : Int), .int .i64 17] (by rfl) rfl rfl (by (try simp only [List.map_toArray, List.map_cons, List.map_nil]); first | done | rfl) ?_
          with_reducible refine (turn_calls y 17 17 rfl (by decide) (by decide) _).mono ?_
          rintro e w6 ⟨rfl, ⟨nd, rfl⟩⟩
          refine ⟨_, rfl, ?_⟩
          refine hK.out _ _ hHeld (fun hHeld => ?_)
          clear hK K
          refine norm_ (a' := ?_) ?_ ?_
          rotate_left
          · show Act.put _ (some 82) _ = _
            simp only [pS]
            rfl
          refine one_ (i := 22) (N := some 84) #[true, true, true, true, true, true, true, true, true, true, true, true, true, true, true, true, true, true, true, true, true, true, true, false, true, true, false, false, false, false] rfl rfl (one_of HT_.out (by kernel_rfl)) (by decide) (fun K hK => ?_)
          refine goes_ Tryz.func123 (by kernel_rfl) rfl #[.int .u32 (y.toNat : Int), .int .i64 19] (by rfl) rfl rfl (by (try simp only [List.map_toArray, List.map_cons, List.map_nil]); first | done | rfl) ?_
          with_reducible refine (turn_calls y 19 19 rfl (by decide) (by decide) _).mono ?_
          rintro e w6 ⟨rfl, ⟨nd, rfl⟩⟩
          refine ⟨_, rfl, ?_⟩
          refine hK.out _ _ hHeld (fun hHeld => ?_)
          clear hK K
          refine norm_ (a' := ?_) ?_ ?_
          rotate_left
          · show Act.put _ (some 84) _ = _
            simp only [pS]
            rfl
          refine pure_ (i := 23) (N := some 85) (v := ?_) (a' := ?_) #[true, true, true, true, true, true, true, true, true, true, true, true, true, true, true, true, true, true, true, true, true, true, true, true, true, true, false, false, false, false] rfl rfl (any_of HT_.out (by kernel_rfl)) (fun _ _ _ h => h) (Or.inl ⟨by rfl, ?_⟩) ?_ ?_
          rotate_left
          · intro w'
            go_simp
            with_reducible rfl
          rotate_left
          · simp only [pS]
            rfl
          refine pure_ (i := 26) (N := some 88) (v := ?_) (a' := ?_) #[true, true, true, true, true, true, true, true, true, true, true, true, true, true, true, true, true, true, true, true, true, true, true, true, true, true, true, false, false, false] rfl rfl (any_of HT_.out (by kernel_rfl)) (fun _ _ _ h => h) (Or.inl ⟨by rfl, ?_⟩) ?_ ?_
          rotate_left
          · intro w'
            go_simp
            with_reducible rfl
          rotate_left
          · simp only [pS]
            rfl
          refine pure_ (i := 27) (N := some 89) (v := ?_) (a' := ?_) #[true, true, true, true, true, true, true, true, true, true, true, true, true, true, true, true, true, true, true, true, true, true, true, true, true, true, true, true, false, false] rfl rfl (any_of HT_.out (by kernel_rfl)) (fun _ _ _ h => h) (Or.inl ⟨by rfl, ?_⟩) ?_ ?_
          rotate_left
          · intro w'
            go_simp
            with_reducible rfl
          rotate_left
          · simp only [pS]
            rfl
          refine pure_ (i := 28) (N := some 90) (v := ?_) (a' := ?_) #[true, true, true, true, true, true, true, true, true, true, true, true, true, true, true, true, true, true, true, true, true, true, true, true, true, true, true, true, true, false] rfl rfl (any_of HT_.out (by kernel_rfl)) (fun _ _ _ h => h) (Or.inl ⟨by rfl, ?_⟩) ?_ ?_
          rotate_left
          · intro w'
            go_simp
            with_reducible rfl
          rotate_left
          · simp only [pS]
            rfl
          refine last_ (i := 29) (N := none) #[true, true, true, true, true, true, true, true, true, true, true, true, true, true, true, true, true, true, true, true, true, true, true, true, true, true, true, true, true, true] rfl rfl (one_of HT_.out (by kernel_rfl)) (by decide) (fun K hK => ?_)
          refine unit_ (w' := ?_) (by rfl) rfl ?hrun ?_
          case hrun => go_simp; rfl
          refine hK.out _ _ ?_
          clear hK K
          refine norm_ (a' := ?_) ?_ ?_
          rotate_left
          · show Act.put _ (none) _ = _
            simp only [pS]
            rfl
          refine done_ (done_of HT_.out (by kernel_rfl)) ?_
          go_wp2
          clear zi zj zm zp hHeld
          have wt : wrap64 ((t : Int) + 1) = ((t + 1 : Nat) : Int) := by have := et.out; unfold wrap64; omega
          rw [sg1_bits, sg0_bits, m_add, m_add, m_add, nxt_sum, ← en.out, wt]
          clear wt
          refine ⟨⟨t + 1, rfl, by have := et.out; omega, by have := et.out; omega, ?_, (Mv.drewN HM.out _).set t _ (Or.inl rfl)⟩, by simp only [intOf]; have := et.out; omega⟩
          have hs := set_of (w := wr) HW.out t (.int .u32 ((nxt l t).toNat : Int))
          have e := Wd_set l (nxt l t) (by have := et.out; omega)
          rw [show l.length = t by have := et.out; omega] at e
          rw [e] at hs
          rw [show t + 1 - 16 = t - 16 + 1 by have := et.out; omega, ext, et.out.1, ← el]
          exact hs
        · have o1 : decide ((t : Int) < 64) = false := decide_eq_false (by omega)
          obtain ⟨ws, ews⟩ : ∃ ws, ws = ext 48 (words B 16) := ⟨_, rfl⟩
          have hlw : ws.length = 64 := by rw [ews, length_ext, length_words]
          have HW := Aside0.mk (show wr.heap[V]? = some (.cells (ws.map vW).toArray 130 (0, 0)) from by
            have := HW.out
            rw [show t - 16 = 48 by omega, ← ews, Wd_full ws hlw] at this
            exact this)
          have HR := Aside0.mk (show wr.heap[r]? = _ from HM.out.blk HR.out (by have := hsz.out; omega))
          have hlw2 := Aside0.mk (show (ws.map vW).length = 64 by rw [List.length_map]; exact hlw)
          have EW := Aside0.mk ews
          clear ht16 ht hk2 hlw ews
          go_wp2_with (first
            | (refine wpList_load_agg rfl 130 _ rfl V 0 rfl (ws.map vW) (load_all HW.out) _ Tryz.underlying130 rfl (by rw [hlw2.out]; kernel_rfl) ?_)
            | (refine wpList_store_agg rfl 130 _ _ rfl r 0 rfl (ws.map vW) _ rfl _ HR.out (by rw [hlw2.out]; exact Nat.le_refl 64) (fun v hv => one_W hv) (by rw [hlw2.out]; kernel_rfl) ?_; intro w12 hr12 hm12 hz12; rw [splice_all (List.replicate 64 (.int .u32 0)) (ws.map vW) (by rw [hlw2.out]; rfl)] at hr12))
          refine bodyPost_ret (results_cell_row rfl _ _ r _ _ _ _ rfl hr12.out Tryz.underlying130 rfl (by rw [List.size_toArray, hlw2.out]; kernel_rfl)) rfl ⟨by rw [EW.out], ?_⟩
          exact Mv.toBelow (Mv.toBelow HB2.out HM.out (fun k hk => by have := hsz.out; omega)) hm12.out (fun k hk => by have := hsz.out; omega)
end Go.Proofs.YtniabkphbnimaaaGreatDoor.Sh
namespace Go.Proofs.YtniabkphbnimaaaGreatDoor.Sh
open Go Go.RowKit Go.Maps Go.Proofs.YtniabkphbnimaaaGreatDoorW.PrintWords Go.Proofs.YtniabkphbnimaaaGreatDoorW.PrintLast Go.Proofs.YtniabkphbnimaaaGreatDoor.Bs
/-- What the document's tables hold. -/
def GR (w : World) : Prop := (∃ t fr, w.heap[1]? = some (.cells (H0.l.map vW).toArray t fr)) ∧ ∃ t fr, w.heap[2]? = some (.cells (KS.map vW).toArray t fr)
theorem GR.mv {w w' : World} {S : Nat → Prop} (h : GR w) (hm : Mv w w' S) (h1 : ¬ S 1) (h2 : ¬ S 2) : GR w' := by
  obtain ⟨⟨t, fr, e⟩, t2, fr2, e2⟩ := h
  exact ⟨⟨t, fr, hm.blk e h1⟩, t2, fr2, hm.blk e2 h2⟩
theorem GR.below {w w' : World} (h : GR w) (hb : Below w.heap.size w w') : GR w' := h.mv (Mv.of_below hb (fun _ => False)) (fun h => h) (fun h => h)
theorem GR.cube {w : World} (h : GR w) (i : Nat) (hi : i < 64) : w.cell? ⟨2, i, none⟩ = some (.int .u32 ((KS.getD i 0).toNat : Int)) := by
  obtain ⟨_, t, fr, e⟩ := h
  refine cell_of e ?_
  have hl : i < KS.length := hi
  rw [List.getElem?_map, List.getElem?_eq_getElem hl, List.getD_eq_getElem?_getD, List.getElem?_eq_getElem hl]
  rfl
theorem outV_get (S : V8) (i : Nat) (hi : i < 32) : (outV S).take (i + 1) = (outV S).take i ++ [UInt8.ofNat ((S.l.getD (i / 4) 0).toNat >>> (24 - 8 * (i % 4)))] := by
  match i, hi with
  | 0, _ => rfl
  | 1, _ => rfl
  | 2, _ => rfl
  | 3, _ => rfl
  | 4, _ => rfl
  | 5, _ => rfl
  | 6, _ => rfl
  | 7, _ => rfl
  | 8, _ => rfl
  | 9, _ => rfl
  | 10, _ => rfl
  | 11, _ => rfl
  | 12, _ => rfl
  | 13, _ => rfl
  | 14, _ => rfl
  | 15, _ => rfl
  | 16, _ => rfl
  | 17, _ => rfl
  | 18, _ => rfl
  | 19, _ => rfl
  | 20, _ => rfl
  | 21, _ => rfl
  | 22, _ => rfl
  | 23, _ => rfl
  | 24, _ => rfl
  | 25, _ => rfl
  | 26, _ => rfl
  | 27, _ => rfl
  | 28, _ => rfl
  | 29, _ => rfl
  | 30, _ => rfl
  | 31, _ => rfl
  | n + 32, h => exact absurd h (by omega)
theorem tx_nest (r : V8) (k w : W32) : (((((r.h.toNat : Int) + Go.bits .xor .u32 (Go.bits .xor .u32 ((rr r.e 6).toNat : Int) ((rr r.e 11).toNat : Int)) ((rr r.e 25).toNat : Int)) % (4294967296 : Int) + Go.bits .xor .u32 (Go.bits .and .u32 (r.e.toNat : Int) (r.f.toNat : Int)) (Go.bits .and .u32 (Go.bits .xor .u32 (if IntKind.u32.signed = true then -1 else IntKind.u32.max) (r.e.toNat : Int)) (r.g.toNat : Int))) % (4294967296 : Int) + (k.toNat : Int)) % (4294967296 : Int) + (w.toNat : Int)) % (4294967296 : Int) = ((tx r k w).toNat : Int) := by
  rw [if_neg (by decide), show IntKind.u32.max = 4294967295 from rfl, i_not, i_and, i_and, i_xor, i_xor, i_xor, m_add, m_add, m_add, m_add]
  rfl
theorem mix_words (l : List UInt8) (k : Nat) : dg (k + 1) l = addV (dg k l) (rnds (ext 48 (words ((l.drop (64 * k)).take 64) 16)) 64 (dg k l)) := rfl
theorem addN_setW (S R : V8) (j : Nat) (h : j < 8) : ((addN S R j).l.map vW).set j (vW (S.l.getD j 0 + R.l.getD j 0)) = (addN S R (j + 1)).l.map vW := by
  match j, h with
  | 0, _ => rfl
  | 1, _ => rfl
  | 2, _ => rfl
  | 3, _ => rfl
  | 4, _ => rfl
  | 5, _ => rfl
  | 6, _ => rfl
  | 7, _ => rfl
def T_113_7 : Bool × List (List Nat × List Nat) := (true, [([], []), ([0], [0]), ([], []), ([2], [2]), ([], []), ([4], [4]), ([], []), ([6], [6]), ([], []), ([8], [8]), ([], []), ([10], [10]), ([], []), ([12], [12]), ([], []), ([14], [14]), ([1, 0, 1], [1]), ([3, 16, 0, 1, 2, 3, 16], [3]), ([5, 17, 0, 1, 2, 3, 4, 5, 16, 17], [5]), ([7, 18, 0, 1, 2, 3, 4, 5, 6, 7, 16, 17, 18], [7]), ([9, 19, 0, 1, 2, 3, 4, 5, 6, 7, 8, 9, 16, 17, 18, 19], [9]), ([11, 20, 0, 1, 2, 3, 4, 5, 6, 7, 8, 9, 10, 11, 16, 17, 18, 19, 20], [11]), ([13, 21, 0, 1, 2, 3, 4, 5, 6, 7, 8, 9, 10, 11, 12, 13, 16, 17, 18, 19, 20, 21], [13]), ([15, 22, 0, 1, 2, 3, 4, 5, 6, 7, 8, 9, 10, 11, 12, 13, 14, 15, 16, 17, 18, 19, 20, 21, 22], [15])])
def B_113_7 : List Nat := [0, 1, 0, 4, 0, 16, 0, 64, 0, 256, 0, 1024, 0, 4096, 0, 16384, 3, 65551, 196671, 459007, 984063, 2035711, 4145151, 8388607]
theorem tab_f113_7 : rtab .any (opsOf Tryz.f113 7) = T_113_7 := by kernel_rfl
theorem bits_f113_7 : waitsOk T_113_7.2 B_113_7 = true := by kernel_rfl
def T_113_11 : Bool × List (List Nat × List Nat) := (true, [([], []), ([], []), ([1], [1]), ([], []), ([3, 2], [3]), ([2, 4], [2, 4]), ([], []), ([6, 4], [6]), ([5, 7], [5, 7]), ([0, 8], [0, 8]), ([], []), ([], []), ([10, 11], [10, 11]), ([], []), ([13], [13]), ([], []), ([14, 15], [14, 15]), ([12, 16], [12, 16]), ([9, 17], [9, 17]), ([], []), ([19], [19]), ([20], [20]), ([18, 21], [18, 21]), ([], []), ([23], [23]), ([24], [24]), ([22, 25], [22, 25]), ([26, 7, 0, 1, 2, 3, 4, 5, 6, 7, 8, 9, 10, 11, 12, 13, 14, 15, 16, 17, 18, 19, 20, 21, 22, 23, 24, 25, 26], [26])])
def B_113_11 : List Nat := [0, 0, 2, 0, 14, 30, 0, 94, 254, 511, 0, 0, 3072, 0, 8192, 0, 57344, 130048, 262143, 0, 524288, 1572864, 4194303, 0, 8388608, 25165824, 67108863, 134217727]
theorem tab_f113_11 : rtab .any (opsOf Tryz.f113 11) = T_113_11 := by kernel_rfl
theorem bits_f113_11 : waitsOk T_113_11.2 B_113_11 = true := by kernel_rfl
def T_113_18 : Bool × List (List Nat × List Nat) := (true, [([], []), ([], []), ([1], [1]), ([2], [2]), ([], []), ([4], [4]), ([5], [5]), ([3, 6], [3, 6]), ([0, 0, 1, 2, 3, 4, 5, 6, 7], [0]), ([8, 7, 0, 1, 2, 3, 4, 5, 6, 7], [7, 8])])
def B_113_18 : List Nat := [0, 0, 2, 6, 0, 16, 48, 126, 255, 511]
theorem tab_f113_18 : rtab .any (opsOf Tryz.f113 18) = T_113_18 := by kernel_rfl
theorem bits_f113_18 : waitsOk T_113_18.2 B_113_18 = true := by kernel_rfl
set_option maxHeartbeats 8000000 in
set_option maxRecDepth 100000 in
theorem rsum_calls (l : List UInt8) (A : Option Addr) (m c : Nat) (hm : l.length = m) (w : World) (hg : GR w) (H : BytesIn w A l) (hl : m < 549755813888) :
    Calls Tryz.prog 113 #[.slice A m c] w fun e w' => e = .returned (.agg ((sha l).map vB).toArray) ∧ Below w.heap.size w w' := by
  have HG := Aside0.mk hg
  have HIN := Aside0.mk H
  have HM := Aside0.mk hm
  have HL := Aside0.mk hl
  obtain ⟨F, eF⟩ : ∃ F, F = full l := ⟨_, rfl⟩
  obtain ⟨n, en⟩ : ∃ n, n = F.length := ⟨_, rfl⟩
  obtain ⟨kn, ekn⟩ : ∃ kn, kn = n / 64 := ⟨_, rfl⟩
  have HF := Aside0.mk (show F = full l ∧ F.length = n ∧ n = 64 * kn ∧ n < 1099511627776 from ⟨eF, en.symm, by have := (length_full l).2; rw [← eF, ← en] at this; omega, by rw [en, eF, full_len]; omega⟩)
  clear hg H hm hl eF en ekn
  go_enter Tryz.func113, Tryz.ntmps113
  go_wp2_with (first
    | (refine wpList_alloc_v rfl 77 rfl (List.replicate 32 (vB 0)) (by kernel_rfl) ?_; intro r w1 er hr1 hb1 hz1)
    | (go_at_call 121; fail))
  with_reducible refine (laid_calls l A m c HM.out w1 (HIN.out.below hb1.out) HL.out).mono ?_
  rintro e w2 ⟨b, he, hbb, hrow, hb2⟩
  have he2 : e = .returned (.slice (some ⟨b, 0, none⟩) n n) := by rw [he, ← HF.out.1, HF.out.2.1]
  clear he
  subst he2
  have HBB := Aside0.mk hbb
  have HROW := Aside0.mk (show w2.heap[b]? = some (.cells (F.map vB).toArray 5 (0, 0)) from by rw [HF.out.1]; exact hrow)
  have HB2 := Aside0.mk hb2
  clear hbb hrow hb2
  go_wp2_with (first
    | (refine wpList_load_agg rfl 116 _ rfl 1 0 rfl (H0.l.map vW) (load_all (HG.out.below (hb1.out.trans (HB2.out.mono hb1.out.size))).1.choose_spec.choose_spec) _ Tryz.underlying116 rfl (by kernel_rfl) ?_)
    | (refine wpList_alloc_v rfl 116 rfl ((V8.mk 0 0 0 0 0 0 0 0).l.map vW) (by kernel_rfl) ?_; intro S w3 eS hS3 hb3 hz3)
    | (refine wpList_store_agg rfl 116 _ _ rfl S 0 rfl (H0.l.map vW) _ rfl _ hS3.out (by exact Nat.le_refl 8) (fun v hv => one_W hv) (by kernel_rfl) ?_; intro w4 hS4 hm4 hz4; rw [splice_all ((V8.mk 0 0 0 0 0 0 0 0).l.map vW) (H0.l.map vW) rfl] at hS4))
  have hsz := Aside0.mk (show w.heap.size ≤ r ∧ r < b ∧ b < S ∧ S < w4.heap.size by have h1 := er.out; have h2 := hz1.out; have h3 := HBB.out; have h4 := blk_lt HROW.out; have h5 := eS.out; have h6 := blk_lt hS4.out; omega)
  have HB4 := Aside0.mk (show Below w.heap.size w w4 from Mv.toBelow ((hb1.out.trans (HB2.out.mono hb1.out.size)).trans (hb3.out.mono (Nat.le_trans hb1.out.size HB2.out.size))) hm4.out (fun k hk => by have := hsz.out; omega))
  have HR4 := Aside0.mk (show w4.heap[r]? = _ from hm4.out.blk ((hb3.out.block r (by have h1 := HB2.out.size; have h2 := hz1.out; omega)).trans ((HB2.out.block r (blk_lt hr1.out)).trans hr1.out)) (by have := hsz.out; omega))
  have HR4b := Aside0.mk (show w4.heap[b]? = _ from hm4.out.blk ((hb3.out.block b (blk_lt HROW.out)).trans HROW.out) (by have := hsz.out; omega))
  have HS4 := Aside0.mk hS4.out
  clear er hr1 hb1 hz1 HBB HROW HB2 eS hS3 hb3 hz3 hS4 hm4 hz4 HIN
  go_loopw [5] (fun iv wq => ∃ p k : Nat, iv = .int .i64 (p : Int) ∧ p = 64 * k ∧ k ≤ kn ∧ wq.heap[S]? = some (.cells ((dg k F).l.map vW).toArray 116 (0, 0)) ∧ Mv w4 wq (fun k => k = S)) (fun iv _ => n - (intOf iv).toNat)
  case atStart => exact ⟨0, 0, rfl, rfl, by omega, HS4.out, Mv.refl _ _⟩
  case round =>
    obtain ⟨p, k, rfl, ep, hk, hS, hm⟩ := hrel
    have HS := Aside0.mk hS
    have HV := Aside0.mk hm
    have HB := Aside0.mk (show Below w.heap.size w wr from Mv.toBelow HB4.out hm (fun k hk => by have := hsz.out; omega))
    have HROW := Aside0.mk (show wr.heap[b]? = _ from HV.out.blk HR4b.out (by have := hsz.out; omega))
    clear hS hm
    have EP := Aside0.mk ep
    by_cases hk2 : k < kn
    · have o1 : decide ((p : Int) < (n : Int)) = true := decide_eq_true (by have := HF.out; omega)
      have o2 : decide (p < n) = true := decide_eq_true (by have := HF.out; omega)
      obtain ⟨s, es⟩ : ∃ s, s = dg k F := ⟨_, rfl⟩
      obtain ⟨ws, ews⟩ : ∃ ws, ws = ext 48 (words ((F.drop p).take 64) 16) := ⟨_, rfl⟩
      have hws := Aside0.mk (show ws.length = 64 ∧ (ws.map vW).length = 64 by rw [List.length_map, ews, length_ext, length_words]; exact ⟨rfl, rfl⟩)
      have HS := Aside0.mk (show wr.heap[S]? = some (.cells (s.l.map vW).toArray 116 (0, 0)) from es ▸ HS.out)
      have EDG := Aside0.mk (show dg (k + 1) F = addV s (rnds ws 64 s) ∧ p + 64 = 64 * (k + 1) ∧ p + 64 ≤ n from ⟨by rw [mix_words, es, ews, ep], by omega, by have := HF.out; omega⟩)
      have EWS := Aside0.mk ews
      clear es ews ep
      rename World => w5
      go_upto_region 7 with (go_at_call 122; fail)
      with_reducible refine (plan_calls F ((F.drop p).take 64) b n n p HF.out.2.1 rfl EDG.out.2.2 HF.out.2.2.2 w5 (bytes_of_row HROW.out)).mono ?_
      rintro e w6 ⟨he, hb6⟩
      have he2 : e = .returned (.agg (ws.map vW).toArray) := by rw [he, EWS.out]
      clear he
      subst he2
      have HB6 := Aside0.mk hb6
      clear hb6
      go_upto_region 7 with (first
        | (refine wpList_alloc_v rfl 130 rfl (List.replicate 64 (.int .u32 0)) (by kernel_rfl) ?_; intro Wb w7 eW hW7 hb7 hz7)
        | (refine wpList_store_agg rfl 130 _ _ rfl Wb 0 rfl (ws.map vW) _ rfl _ hW7.out (by rw [hws.out.2]; exact Nat.le_refl 64) (fun v hv => one_W hv) (by rw [hws.out.2]; kernel_rfl) ?_; intro w8 hW8 hm8 hz8; rw [splice_all (List.replicate 64 (.int .u32 0)) (ws.map vW) (by rw [hws.out.2]; rfl)] at hW8))
      have hs8 := Aside0.mk (show S < Wb ∧ Wb < w8.heap.size ∧ w.heap.size ≤ Wb by have h1 := eW.out; have h2 := HB6.out.size; have h3 := HV.out.size; have h4 := hsz.out; have h5 := blk_lt hW8.out; omega)
      have HB57 := Aside0.mk (show Below w5.heap.size w5 w7 from HB6.out.trans (hb7.out.mono HB6.out.size))
      have HM8 := Aside0.mk (show Mv w4 w8 (fun k => k = S) from (HV.out.below HB57.out).then hm8.out (fun j hj => Or.inr (by subst hj; have h1 := hs8.out; have h2 := eW.out; have h3 := HB6.out.size; have h4 := HV.out.size; omega)))
      have HS8 := Aside0.mk (show w8.heap[S]? = _ from hm8.out.blk ((HB57.out.block S (blk_lt HS.out)).trans HS.out) (by have := hs8.out; omega))
      have HW8 := Aside0.mk hW8.out
      clear eW hW7 hb7 hz7 hW8 hm8 hz8 HB6 HB57 HV HROW HB
      simp only [Act.put, List.setIfInBounds_toArray, List.set_cons_zero, List.set_cons_succ]
      have c0 : w8.cell? ⟨S, 0, none⟩ = some (.int .u32 (s.a.toNat : Int)) := cell_of HS8.out rfl
      have c1 : w8.cell? ⟨S, 1, none⟩ = some (.int .u32 (s.b.toNat : Int)) := cell_of HS8.out rfl
      have c2 : w8.cell? ⟨S, 2, none⟩ = some (.int .u32 (s.c.toNat : Int)) := cell_of HS8.out rfl
      have c3 : w8.cell? ⟨S, 3, none⟩ = some (.int .u32 (s.d.toNat : Int)) := cell_of HS8.out rfl
      have c4 : w8.cell? ⟨S, 4, none⟩ = some (.int .u32 (s.e.toNat : Int)) := cell_of HS8.out rfl
      have c5 : w8.cell? ⟨S, 5, none⟩ = some (.int .u32 (s.f.toNat : Int)) := cell_of HS8.out rfl
      have c6 : w8.cell? ⟨S, 6, none⟩ = some (.int .u32 (s.g.toNat : Int)) := cell_of HS8.out rfl
      have c7 : w8.cell? ⟨S, 7, none⟩ = some (.int .u32 (s.h.toNat : Int)) := cell_of HS8.out rfl
      go_wp2
      refine start_ (n := 24) (S := fun w' => w'.cell? ⟨S, 0, none⟩ = some (.int .u32 (s.a.toNat : Int)) ∧ w'.cell? ⟨S, 1, none⟩ = some (.int .u32 (s.b.toNat : Int)) ∧ w'.cell? ⟨S, 2, none⟩ = some (.int .u32 (s.c.toNat : Int)) ∧ w'.cell? ⟨S, 3, none⟩ = some (.int .u32 (s.d.toNat : Int)) ∧ w'.cell? ⟨S, 4, none⟩ = some (.int .u32 (s.e.toNat : Int)) ∧ w'.cell? ⟨S, 5, none⟩ = some (.int .u32 (s.f.toNat : Int)) ∧ w'.cell? ⟨S, 6, none⟩ = some (.int .u32 (s.g.toNat : Int)) ∧ w'.cell? ⟨S, 7, none⟩ = some (.int .u32 (s.h.toNat : Int))) (ds := []) #[false, false, false, false, false, false, false, false, false, false, false, false, false, false, false, false, false, false, false, false, false, false, false, false] (by kernel_rfl) rfl rfl ⟨c0, c1, c2, c3, c4, c5, c6, c7⟩ (fun hHeld => ?_)
      refine with_tabW tab_f113_7 bits_f113_7 (fun HT_ HW_ => ?_)
      refine pure_ (i := 0) (N := some 34) (v := ?_) (a' := ?_) #[true, false, false, false, false, false, false, false, false, false, false, false, false, false, false, false, false, false, false, false, false, false, false, false] rfl rfl (any_of HT_.out (by kernel_rfl)) (fun _ _ _ h => h) (Or.inl ⟨by rfl, ?_⟩) ?_ ?_
      rotate_left
      · intro w'
        go_simp
        with_reducible rfl
      rotate_left
      · simp only [pS]
        rfl
      refine take_ (i := 1) (N := some 35) (v := ?_) (a' := ?_) #[true, true, false, false, false, false, false, false, false, false, false, false, false, false, false, false, false, false, false, false, false, false, false, false] rfl rfl (take_ofW HT_.out HW_.out (by kernel_rfl)) (fun _ _ _ h => h) (Or.inl ⟨by rfl, ?_⟩) hHeld ?_ ?_
      rotate_left
      · rintro w' ⟨s0, s1, s2, s3, s4, s5, s6, s7⟩
        go_simp
        with_reducible rfl
      rotate_left
      · simp only [pS]
        rfl
      refine pure_ (i := 2) (N := some 36) (v := ?_) (a' := ?_) #[true, true, true, false, false, false, false, false, false, false, false, false, false, false, false, false, false, false, false, false, false, false, false, false] rfl rfl (any_of HT_.out (by kernel_rfl)) (fun _ _ _ h => h) (Or.inl ⟨by rfl, ?_⟩) ?_ ?_
      rotate_left
      · intro w'
        go_simp
        with_reducible rfl
      rotate_left
      · simp only [pS]
        rfl
      refine take_ (i := 3) (N := some 37) (v := ?_) (a' := ?_) #[true, true, true, true, false, false, false, false, false, false, false, false, false, false, false, false, false, false, false, false, false, false, false, false] rfl rfl (take_ofW HT_.out HW_.out (by kernel_rfl)) (fun _ _ _ h => h) (Or.inl ⟨by rfl, ?_⟩) hHeld ?_ ?_
      rotate_left
      · rintro w' ⟨s0, s1, s2, s3, s4, s5, s6, s7⟩
        go_simp
        with_reducible rfl
      rotate_left
      · simp only [pS]
        rfl
      refine pure_ (i := 4) (N := some 38) (v := ?_) (a' := ?_) #[true, true, true, true, true, false, false, false, false, false, false, false, false, false, false, false, false, false, false, false, false, false, false, false] rfl rfl (any_of HT_.out (by kernel_rfl)) (fun _ _ _ h => h) (Or.inl ⟨by rfl, ?_⟩) ?_ ?_
      rotate_left
      · intro w'
        go_simp
        with_reducible rfl
      rotate_left
      · simp only [pS]
        rfl
      refine take_ (i := 5) (N := some 39) (v := ?_) (a' := ?_) #[true, true, true, true, true, true, false, false, false, false, false, false, false, false, false, false, false, false, false, false, false, false, false, false] rfl rfl (take_ofW HT_.out HW_.out (by kernel_rfl)) (fun _ _ _ h => h) (Or.inl ⟨by rfl, ?_⟩) hHeld ?_ ?_
      rotate_left
      · rintro w' ⟨s0, s1, s2, s3, s4, s5, s6, s7⟩
        go_simp
        with_reducible rfl
      rotate_left
      · simp only [pS]
        rfl
      refine pure_ (i := 6) (N := some 40) (v := ?_) (a' := ?_) #[true, true, true, true, true, true, true, false, false, false, false, false, false, false, false, false, false, false, false, false, false, false, false, false] rfl rfl (any_of HT_.out (by kernel_rfl)) (fun _ _ _ h => h) (Or.inl ⟨by rfl, ?_⟩) ?_ ?_
      rotate_left
      · intro w'
        go_simp
        with_reducible rfl
      rotate_left
      · simp only [pS]
        rfl
      refine take_ (i := 7) (N := some 41) (v := ?_) (a' := ?_) #[true, true, true, true, true, true, true, true, false, false, false, false, false, false, false, false, false, false, false, false, false, false, false, false] rfl rfl (take_ofW HT_.out HW_.out (by kernel_rfl)) (fun _ _ _ h => h) (Or.inl ⟨by rfl, ?_⟩) hHeld ?_ ?_
      rotate_left
      · rintro w' ⟨s0, s1, s2, s3, s4, s5, s6, s7⟩
        go_simp
        with_reducible rfl
      rotate_left
      · simp only [pS]
        rfl
      refine pure_ (i := 8) (N := some 42) (v := ?_) (a' := ?_) #[true, true, true, true, true, true, true, true, true, false, false, false, false, false, false, false, false, false, false, false, false, false, false, false] rfl rfl (any_of HT_.out (by kernel_rfl)) (fun _ _ _ h => h) (Or.inl ⟨by rfl, ?_⟩) ?_ ?_
      rotate_left
      · intro w'
        go_simp
        with_reducible rfl
      rotate_left
      · simp only [pS]
        rfl
      refine take_ (i := 9) (N := some 43) (v := ?_) (a' := ?_) #[true, true, true, true, true, true, true, true, true, true, false, false, false, false, false, false, false, false, false, false, false, false, false, false] rfl rfl (take_ofW HT_.out HW_.out (by kernel_rfl)) (fun _ _ _ h => h) (Or.inl ⟨by rfl, ?_⟩) hHeld ?_ ?_
      rotate_left
      · rintro w' ⟨s0, s1, s2, s3, s4, s5, s6, s7⟩
        go_simp
        with_reducible rfl
      rotate_left
      · simp only [pS]
        rfl
      refine pure_ (i := 10) (N := some 44) (v := ?_) (a' := ?_) #[true, true, true, true, true, true, true, true, true, true, true, false, false, false, false, false, false, false, false, false, false, false, false, false] rfl rfl (any_of HT_.out (by kernel_rfl)) (fun _ _ _ h => h) (Or.inl ⟨by rfl, ?_⟩) ?_ ?_
      rotate_left
      · intro w'
        go_simp
        with_reducible rfl
      rotate_left
      · simp only [pS]
        rfl
      refine take_ (i := 11) (N := some 45) (v := ?_) (a' := ?_) #[true, true, true, true, true, true, true, true, true, true, true, true, false, false, false, false, false, false, false, false, false, false, false, false] rfl rfl (take_ofW HT_.out HW_.out (by kernel_rfl)) (fun _ _ _ h => h) (Or.inl ⟨by rfl, ?_⟩) hHeld ?_ ?_
      rotate_left
      · rintro w' ⟨s0, s1, s2, s3, s4, s5, s6, s7⟩
        go_simp
        with_reducible rfl
      rotate_left
      · simp only [pS]
        rfl
      refine pure_ (i := 12) (N := some 46) (v := ?_) (a' := ?_) #[true, true, true, true, true, true, true, true, true, true, true, true, true, false, false, false, false, false, false, false, false, false, false, false] rfl rfl (any_of HT_.out (by kernel_rfl)) (fun _ _ _ h => h) (Or.inl ⟨by rfl, ?_⟩) ?_ ?_
      rotate_left
      · intro w'
        go_simp
        with_reducible rfl
      rotate_left
      · simp only [pS]
        rfl
      refine take_ (i := 13) (N := some 47) (v := ?_) (a' := ?_) #[true, true, true, true, true, true, true, true, true, true, true, true, true, true, false, false, false, false, false, false, false, false, false, false] rfl rfl (take_ofW HT_.out HW_.out (by kernel_rfl)) (fun _ _ _ h => h) (Or.inl ⟨by rfl, ?_⟩) hHeld ?_ ?_
      rotate_left
      · rintro w' ⟨s0, s1, s2, s3, s4, s5, s6, s7⟩
        go_simp
        with_reducible rfl
      rotate_left
      · simp only [pS]
        rfl
      refine pure_ (i := 14) (N := some 48) (v := ?_) (a' := ?_) #[true, true, true, true, true, true, true, true, true, true, true, true, true, true, true, false, false, false, false, false, false, false, false, false] rfl rfl (any_of HT_.out (by kernel_rfl)) (fun _ _ _ h => h) (Or.inl ⟨by rfl, ?_⟩) ?_ ?_
      rotate_left
      · intro w'
        go_simp
        with_reducible rfl
      rotate_left
      · simp only [pS]
        rfl
      refine take_ (i := 15) (N := some 49) (v := ?_) (a' := ?_) #[true, true, true, true, true, true, true, true, true, true, true, true, true, true, true, true, false, false, false, false, false, false, false, false] rfl rfl (take_ofW HT_.out HW_.out (by kernel_rfl)) (fun _ _ _ h => h) (Or.inl ⟨by rfl, ?_⟩) hHeld ?_ ?_
      rotate_left
      · rintro w' ⟨s0, s1, s2, s3, s4, s5, s6, s7⟩
        go_simp
        with_reducible rfl
      rotate_left
      · simp only [pS]
        rfl
      refine pure_ (i := 16) (N := some 7) (v := ?_) (a' := ?_) #[true, true, true, true, true, true, true, true, true, true, true, true, true, true, true, true, true, false, false, false, false, false, false, false] rfl rfl (any_of HT_.out (by kernel_rfl)) (fun _ _ _ h => h) (Or.inl ⟨by rfl, ?_⟩) ?_ ?_
      rotate_left
      · intro w'
        go_simp
        with_reducible rfl
      rotate_left
      · simp only [pS]
        rfl
      refine pure_ (i := 17) (N := some 8) (v := ?_) (a' := ?_) #[true, true, true, true, true, true, true, true, true, true, true, true, true, true, true, true, true, true, false, false, false, false, false, false] rfl rfl (any_of HT_.out (by kernel_rfl)) (fun _ _ _ h => h) (Or.inl ⟨by rfl, ?_⟩) ?_ ?_
      rotate_left
      · intro w'
        go_simp
        with_reducible rfl
      rotate_left
      · simp only [pS]
        rfl
      refine pure_ (i := 18) (N := some 9) (v := ?_) (a' := ?_) #[true, true, true, true, true, true, true, true, true, true, true, true, true, true, true, true, true, true, true, false, false, false, false, false] rfl rfl (any_of HT_.out (by kernel_rfl)) (fun _ _ _ h => h) (Or.inl ⟨by rfl, ?_⟩) ?_ ?_
      rotate_left
      · intro w'
        go_simp
        with_reducible rfl
      rotate_left
      · simp only [pS]
        rfl
      refine pure_ (i := 19) (N := some 10) (v := ?_) (a' := ?_) #[true, true, true, true, true, true, true, true, true, true, true, true, true, true, true, true, true, true, true, true, false, false, false, false] rfl rfl (any_of HT_.out (by kernel_rfl)) (fun _ _ _ h => h) (Or.inl ⟨by rfl, ?_⟩) ?_ ?_
      rotate_left
      · intro w'
        go_simp
        with_reducible rfl
      rotate_left
      · simp only [pS]
        rfl
      refine pure_ (i := 20) (N := some 11) (v := ?_) (a' := ?_) #[true, true, true, true, true, true, true, true, true, true, true, true, true, true, true, true, true, true, true, true, true, false, false, false] rfl rfl (any_of HT_.out (by kernel_rfl)) (fun _ _ _ h => h) (Or.inl ⟨by rfl, ?_⟩) ?_ ?_
      rotate_left
      · intro w'
        go_simp
        with_reducible rfl
      rotate_left
      · simp only [pS]
        rfl
      refine pure_ (i := 21) (N := some 12) (v := ?_) (a' := ?_) #[true, true, true, true, true, true, true, true, true, true, true, true, true, true, true, true, true, true, true, true, true, true, false, false] rfl rfl (any_of HT_.out (by kernel_rfl)) (fun _ _ _ h => h) (Or.inl ⟨by rfl, ?_⟩) ?_ ?_
      rotate_left
      · intro w'
        go_simp
        with_reducible rfl
      rotate_left
      · simp only [pS]
        rfl
      refine pure_ (i := 22) (N := some 13) (v := ?_) (a' := ?_) #[true, true, true, true, true, true, true, true, true, true, true, true, true, true, true, true, true, true, true, true, true, true, true, false] rfl rfl (any_of HT_.out (by kernel_rfl)) (fun _ _ _ h => h) (Or.inl ⟨by rfl, ?_⟩) ?_ ?_
      rotate_left
      · intro w'
        go_simp
        with_reducible rfl
      rotate_left
      · simp only [pS]
        rfl
      refine pure_ (i := 23) (N := some 14) (v := ?_) (a' := ?_) #[true, true, true, true, true, true, true, true, true, true, true, true, true, true, true, true, true, true, true, true, true, true, true, true] rfl rfl (any_of HT_.out (by kernel_rfl)) (fun _ _ _ h => h) (Or.inl ⟨by rfl, ?_⟩) ?_ ?_
      rotate_left
      · intro w'
        go_simp
        with_reducible rfl
      rotate_left
      · simp only [pS]
        rfl
      refine done_ (done_of HT_.out (by kernel_rfl)) ?_
      go_wp2
      clear c0 c1 c2 c3 c4 c5 c6 c7 hHeld
      go_loopw [7, 8, 9, 10, 11, 12, 13, 14, 15] (fun va vb vc vd ve vf vg vh tv wq => ∃ (t : Nat) (v : V8), tv = .int .i64 (t : Int) ∧ t ≤ 64 ∧ v = rnds ws t s ∧ va = .int .u32 (v.a.toNat : Int) ∧ vb = .int .u32 (v.b.toNat : Int) ∧ vc = .int .u32 (v.c.toNat : Int) ∧ vd = .int .u32 (v.d.toNat : Int) ∧ ve = .int .u32 (v.e.toNat : Int) ∧ vf = .int .u32 (v.f.toNat : Int) ∧ vg = .int .u32 (v.g.toNat : Int) ∧ vh = .int .u32 (v.h.toNat : Int) ∧ Mv w8 wq (fun _ => False)) (fun _ _ _ _ _ _ _ _ tv _ => 64 - (intOf tv).toNat)
      case atStart => exact ⟨0, s, rfl, by omega, rfl, rfl, rfl, rfl, rfl, rfl, rfl, rfl, rfl, Mv.drew (Mv.refl w8 _)⟩
      case round =>
        obtain ⟨t, v, rfl, ht, ev, rfl, rfl, rfl, rfl, rfl, rfl, rfl, rfl, hm⟩ := hrel
        have EV := Aside0.mk ev
        have HM9 := Aside0.mk hm
        clear hm ev
        by_cases hk3 : t < 64
        · have o1 : decide ((t : Int) < 64) = true := decide_eq_true (by omega)
          have q1 : ((t : Int) < 64) = True := eq_true (by omega)
          have ck := ((HG.out.below (Mv.toBelow HB4.out HM8.out (fun k hk => by have := hsz.out; omega))).mv HM9.out (fun h => h) (fun h => h)).cube t hk3
          have cw : wr.cell? ⟨Wb, t, none⟩ = some (.int .u32 ((ws.getD t 0).toNat : Int)) := HM9.out.cell (cell_of HW8.out (by
            rw [List.getElem?_map, List.getD_eq_getElem?_getD]
            rw [List.getElem?_eq_getElem (show t < ws.length by rw [hws.out.1]; exact hk3)]
            rfl)) (fun h => h)
          obtain ⟨kk, ekk⟩ : ∃ x, x = KS.getD t 0 := ⟨_, rfl⟩
          obtain ⟨wt, ewt⟩ : ∃ x, x = ws.getD t 0 := ⟨_, rfl⟩
          rw [← ekk] at ck
          rw [← ewt] at cw
          have en := Aside0.mk (show rnds ws (t + 1) s = rnd v kk wt by rw [rnds, EV.out, ekk, ewt])
          clear ekk ewt
          go_wp2
          refine start_ (n := 28) (S := fun w' => w'.cell? ⟨2, t, none⟩ = some (.int .u32 (kk.toNat : Int)) ∧ w'.cell? ⟨Wb, t, none⟩ = some (.int .u32 (wt.toNat : Int))) (ds := []) #[false, false, false, false, false, false, false, false, false, false, false, false, false, false, false, false, false, false, false, false, false, false, false, false, false, false, false, false] (by kernel_rfl) rfl rfl ⟨ck, cw⟩ (fun hHeld => ?_)
          refine with_tabW tab_f113_11 bits_f113_11 (fun HT_ HW_ => ?_)
          refine pure_ (i := 0) (N := some 54) (v := ?_) (a' := ?_) #[true, false, false, false, false, false, false, false, false, false, false, false, false, false, false, false, false, false, false, false, false, false, false, false, false, false, false, false] rfl rfl (any_of HT_.out (by kernel_rfl)) (fun _ _ _ h => h) (Or.inl ⟨by rfl, ?_⟩) ?_ ?_
          rotate_left
          · intro w'
            go_simp
            with_reducible rfl
          rotate_left
          · simp only [pS]
            rfl
          refine pure_ (i := 1) (N := some 55) (v := ?_) (a' := ?_) #[true, true, false, false, false, false, false, false, false, false, false, false, false, false, false, false, false, false, false, false, false, false, false, false, false, false, false, false] rfl rfl (any_of HT_.out (by kernel_rfl)) (fun _ _ _ h => h) (Or.inl ⟨by rfl, ?_⟩) ?_ ?_
          rotate_left
          · intro w'
            go_simp
            with_reducible rfl
          rotate_left
          · simp only [pS]
            rfl
          refine pure_ (i := 3) (N := some 57) (v := ?_) (a' := ?_) #[true, true, false, true, false, false, false, false, false, false, false, false, false, false, false, false, false, false, false, false, false, false, false, false, false, false, false, false] rfl rfl (any_of HT_.out (by kernel_rfl)) (fun _ _ _ h => h) (Or.inl ⟨by rfl, ?_⟩) ?_ ?_
          rotate_left
          · intro w'
            go_simp
            with_reducible rfl
          rotate_left
          · simp only [pS]
            rfl
          refine pure_ (i := 6) (N := some 60) (v := ?_) (a' := ?_) #[true, true, false, true, false, false, true, false, false, false, false, false, false, false, false, false, false, false, false, false, false, false, false, false, false, false, false, false] rfl rfl (any_of HT_.out (by kernel_rfl)) (fun _ _ _ h => h) (Or.inl ⟨by rfl, ?_⟩) ?_ ?_
          rotate_left
          · intro w'
            go_simp
            with_reducible rfl
          rotate_left
          · simp only [pS]
            rfl
          refine pure_ (i := 10) (N := some 64) (v := ?_) (a' := ?_) #[true, true, false, true, false, false, true, false, false, false, true, false, false, false, false, false, false, false, false, false, false, false, false, false, false, false, false, false] rfl rfl (any_of HT_.out (by kernel_rfl)) (fun _ _ _ h => h) (Or.inl ⟨by rfl, ?_⟩) ?_ ?_
          rotate_left
          · intro w'
            go_simp
            with_reducible rfl
          rotate_left
          · simp only [pS]
            rfl
          refine pure_ (i := 11) (N := some 65) (v := ?_) (a' := ?_) #[true, true, false, true, false, false, true, false, false, false, true, true, false, false, false, false, false, false, false, false, false, false, false, false, false, false, false, false] rfl rfl (any_of HT_.out (by kernel_rfl)) (fun _ _ _ h => h) (Or.inl ⟨by rfl, ?_⟩) ?_ ?_
          rotate_left
          · intro w'
            go_simp
            with_reducible rfl
          rotate_left
          · simp only [pS]
            rfl
          refine pure_ (i := 12) (N := some 66) (v := ?_) (a' := ?_) #[true, true, false, true, false, false, true, false, false, false, true, true, true, false, false, false, false, false, false, false, false, false, false, false, false, false, false, false] rfl rfl (any_of HT_.out (by kernel_rfl)) (fun _ _ _ h => h) (Or.inl ⟨by rfl, ?_⟩) ?_ ?_
          rotate_left
          · intro w'
            go_simp
            with_reducible rfl
          rotate_left
          · simp only [pS]
            rfl
          refine pure_ (i := 13) (N := some 67) (v := ?_) (a' := ?_) #[true, true, false, true, false, false, true, false, false, false, true, true, true, true, false, false, false, false, false, false, false, false, false, false, false, false, false, false] rfl rfl (any_of HT_.out (by kernel_rfl)) (fun _ _ _ h => h) (Or.inl ⟨by rfl, ?_⟩) ?_ ?_
          rotate_left
          · intro w'
            go_simp
            with_reducible rfl
          rotate_left
          · simp only [pS]
            rfl
          refine pure_ (i := 14) (N := some 68) (v := ?_) (a' := ?_) #[true, true, false, true, false, false, true, false, false, false, true, true, true, true, true, false, false, false, false, false, false, false, false, false, false, false, false, false] rfl rfl (any_of HT_.out (by kernel_rfl)) (fun _ _ _ h => h) (Or.inl ⟨by rfl, ?_⟩) ?_ ?_
          rotate_left
          · intro w'
            go_simp
            with_reducible rfl
          rotate_left
          · simp only [pS]
            rfl
          refine pure_ (i := 15) (N := some 69) (v := ?_) (a' := ?_) #[true, true, false, true, false, false, true, false, false, false, true, true, true, true, true, true, false, false, false, false, false, false, false, false, false, false, false, false] rfl rfl (any_of HT_.out (by kernel_rfl)) (fun _ _ _ h => h) (Or.inl ⟨by rfl, ?_⟩) ?_ ?_
          rotate_left
          · intro w'
            go_simp
            with_reducible rfl
          rotate_left
          · simp only [pS]
            rfl
          refine pure_ (i := 16) (N := some 70) (v := ?_) (a' := ?_) #[true, true, false, true, false, false, true, false, false, false, true, true, true, true, true, true, true, false, false, false, false, false, false, false, false, false, false, false] rfl rfl (any_of HT_.out (by kernel_rfl)) (fun _ _ _ h => h) (Or.inl ⟨by rfl, ?_⟩) ?_ ?_
          rotate_left
          · intro w'
            go_simp
            with_reducible rfl
          rotate_left
          · simp only [pS]
            rfl
          refine pure_ (i := 17) (N := some 71) (v := ?_) (a' := ?_) #[true, true, false, true, false, false, true, false, false, false, true, true, true, true, true, true, true, true, false, false, false, false, false, false, false, false, false, false] rfl rfl (any_of HT_.out (by kernel_rfl)) (fun _ _ _ h => h) (Or.inl ⟨by rfl, ?_⟩) ?_ ?_
          rotate_left
          · intro w'
            go_simp
            with_reducible rfl
          rotate_left
          · simp only [pS]
            rfl
          refine pure_ (i := 19) (N := some 73) (v := ?_) (a' := ?_) #[true, true, false, true, false, false, true, false, false, false, true, true, true, true, true, true, true, true, false, true, false, false, false, false, false, false, false, false] rfl rfl (any_of HT_.out (by kernel_rfl)) (fun _ _ _ h => h) (Or.inl ⟨by rfl, ?_⟩) ?_ ?_
          rotate_left
          · intro w'
            go_simp
            with_reducible rfl
          rotate_left
          · simp only [pS]
            rfl
          refine pure_ (i := 20) (N := some 74) (v := ?_) (a' := ?_) #[true, true, false, true, false, false, true, false, false, false, true, true, true, true, true, true, true, true, false, true, true, false, false, false, false, false, false, false] rfl rfl (any_of HT_.out (by kernel_rfl)) (fun _ _ _ h => h) (Or.inl ⟨by rfl, ?_⟩) ?_ ?_
          rotate_left
          · intro w'
            go_simp
            with_reducible rfl
          rotate_left
          · simp only [pS]
            rfl
          refine take_ (i := 21) (N := some 75) (v := ?_) (a' := ?_) #[true, true, false, true, false, false, true, false, false, false, true, true, true, true, true, true, true, true, false, true, true, true, false, false, false, false, false, false] rfl rfl (take_ofW HT_.out HW_.out (by kernel_rfl)) (fun _ _ _ h => h) (Or.inl ⟨by rfl, ?_⟩) hHeld ?_ ?_
          rotate_left
          · rintro w' ⟨s0, s1⟩
            go_simp
            with_reducible rfl
          rotate_left
          · simp only [pS]
            rfl
          refine pure_ (i := 23) (N := some 77) (v := ?_) (a' := ?_) #[true, true, false, true, false, false, true, false, false, false, true, true, true, true, true, true, true, true, false, true, true, true, false, true, false, false, false, false] rfl rfl (any_of HT_.out (by kernel_rfl)) (fun _ _ _ h => h) (Or.inl ⟨by rfl, ?_⟩) ?_ ?_
          rotate_left
          · intro w'
            go_simp
            with_reducible rfl
          rotate_left
          · simp only [pS]
            rfl
          refine pure_ (i := 24) (N := some 78) (v := ?_) (a' := ?_) #[true, true, false, true, false, false, true, false, false, false, true, true, true, true, true, true, true, true, false, true, true, true, false, true, true, false, false, false] rfl rfl (any_of HT_.out (by kernel_rfl)) (fun _ _ _ h => h) (Or.inl ⟨by rfl, ?_⟩) ?_ ?_
          rotate_left
          · intro w'
            go_simp
            with_reducible rfl
          rotate_left
          · simp only [pS]
            rfl
          refine take_ (i := 25) (N := some 79) (v := ?_) (a' := ?_) #[true, true, false, true, false, false, true, false, false, false, true, true, true, true, true, true, true, true, false, true, true, true, false, true, true, true, false, false] rfl rfl (take_ofW HT_.out HW_.out (by kernel_rfl)) (fun _ _ _ h => h) (Or.inl ⟨by rfl, ?_⟩) hHeld ?_ ?_
          rotate_left
          · rintro w' ⟨s0, s1⟩
            go_simp
            with_reducible rfl
          rotate_left
          · simp only [pS]
            rfl
          refine one_ (i := 2) (N := some 56) #[true, true, true, true, false, false, true, false, false, false, true, true, true, true, true, true, true, true, false, true, true, true, false, true, true, true, false, false] rfl rfl (one_of HT_.out (by kernel_rfl)) (by decide) (fun K hK => ?_)
          refine goes_ Tryz.func123 (by kernel_rfl) rfl #[.int .u32 (v.e.toNat : Int), .int .i64 6] (by rfl) rfl rfl (by (try simp only [List.map_toArray, List.map_cons, List.map_nil]); first | done | rfl) ?_
          with_reducible refine (turn_calls v.e 6 6 rfl (by decide) (by decide) _).mono ?_
          rintro e w6 ⟨rfl, ⟨nd, rfl⟩⟩
          refine ⟨_, rfl, ?_⟩
          refine hK.out _ _ hHeld (fun hHeld => ?_)
          clear hK K
          refine norm_ (a' := ?_) ?_ ?_
          rotate_left
          · show Act.put _ (some 56) _ = _
            simp only [pS]
            rfl
          refine one_ (i := 4) (N := some 58) #[true, true, true, true, true, false, true, false, false, false, true, true, true, true, true, true, true, true, false, true, true, true, false, true, true, true, false, false] rfl rfl (one_of HT_.out (by kernel_rfl)) (by decide) (fun K hK => ?_)
          refine goes_ Tryz.func123 (by kernel_rfl) rfl #[.int .u32 (v.e.toNat : Int), .int .i64 11] (by rfl) rfl rfl (by (try simp only [List.map_toArray, List.map_cons, List.map_nil]); first | done | rfl) ?_
          with_reducible refine (turn_calls v.e 11 11 rfl (by decide) (by decide) _).mono ?_
          rintro e w6 ⟨rfl, ⟨nd, rfl⟩⟩
          refine ⟨_, rfl, ?_⟩
          refine hK.out _ _ hHeld (fun hHeld => ?_)
          clear hK K
          refine norm_ (a' := ?_) ?_ ?_
          rotate_left
          · show Act.put _ (some 58) _ = _
            simp only [pS]
            rfl
          refine pure_ (i := 5) (N := some 59) (v := ?_) (a' := ?_) #[true, true, true, true, true, true, true, false, false, false, true, true, true, true, true, true, true, true, false, true, true, true, false, true, true, true, false, false] rfl rfl (any_of HT_.out (by kernel_rfl)) (fun _ _ _ h => h) (Or.inl ⟨by rfl, ?_⟩) ?_ ?_
          rotate_left
          · intro w'
            go_simp
            with_reducible rfl
          rotate_left
          · simp only [pS]
            rfl
          refine one_ (i := 7) (N := some 61) #[true, true, true, true, true, true, true, true, false, false, true, true, true, true, true, true, true, true, false, true, true, true, false, true, true, true, false, false] rfl rfl (one_of HT_.out (by kernel_rfl)) (by decide) (fun K hK => ?_)
          refine goes_ Tryz.func123 (by kernel_rfl) rfl #[.int .u32 (v.e.toNat : Int), .int .i64 25] (by rfl) rfl rfl (by (try simp only [List.map_toArray, List.map_cons, List.map_nil]); first | done | rfl) ?_
          with_reducible refine (turn_calls v.e 25 25 rfl (by decide) (by decide) _).mono ?_
          rintro e w6 ⟨rfl, ⟨nd, rfl⟩⟩
          refine ⟨_, rfl, ?_⟩
          refine hK.out _ _ hHeld (fun hHeld => ?_)
          clear hK K
          refine norm_ (a' := ?_) ?_ ?_
          rotate_left
          · show Act.put _ (some 61) _ = _
            simp only [pS]
            rfl
          refine pure_ (i := 8) (N := some 62) (v := ?_) (a' := ?_) #[true, true, true, true, true, true, true, true, true, false, true, true, true, true, true, true, true, true, false, true, true, true, false, true, true, true, false, false] rfl rfl (any_of HT_.out (by kernel_rfl)) (fun _ _ _ h => h) (Or.inl ⟨by rfl, ?_⟩) ?_ ?_
          rotate_left
          · intro w'
            go_simp
            with_reducible rfl
          rotate_left
          · simp only [pS]
            rfl
          refine pure_ (i := 9) (N := some 63) (v := ?_) (a' := ?_) #[true, true, true, true, true, true, true, true, true, true, true, true, true, true, true, true, true, true, false, true, true, true, false, true, true, true, false, false] rfl rfl (any_of HT_.out (by kernel_rfl)) (fun _ _ _ h => h) (Or.inl ⟨by rfl, ?_⟩) ?_ ?_
          rotate_left
          · intro w'
            go_simp
            with_reducible rfl
          rotate_left
          · simp only [pS]
            rfl
          refine pure_ (i := 18) (N := some 72) (v := ?_) (a' := ?_) #[true, true, true, true, true, true, true, true, true, true, true, true, true, true, true, true, true, true, true, true, true, true, false, true, true, true, false, false] rfl rfl (any_of HT_.out (by kernel_rfl)) (fun _ _ _ h => h) (Or.inl ⟨by rfl, ?_⟩) ?_ ?_
          rotate_left
          · intro w'
            go_simp
            with_reducible rfl
          rotate_left
          · simp only [pS]
            rfl
          refine pure_ (i := 22) (N := some 76) (v := ?_) (a' := ?_) #[true, true, true, true, true, true, true, true, true, true, true, true, true, true, true, true, true, true, true, true, true, true, true, true, true, true, false, false] rfl rfl (any_of HT_.out (by kernel_rfl)) (fun _ _ _ h => h) (Or.inl ⟨by rfl, ?_⟩) ?_ ?_
          rotate_left
          · intro w'
            go_simp
            with_reducible rfl
          rotate_left
          · simp only [pS]
            rfl
          refine pure_ (i := 26) (N := some 80) (v := ?_) (a' := ?_) #[true, true, true, true, true, true, true, true, true, true, true, true, true, true, true, true, true, true, true, true, true, true, true, true, true, true, true, false] rfl rfl (any_of HT_.out (by kernel_rfl)) (fun _ _ _ h => h) (Or.inl ⟨by rfl, ?_⟩) ?_ ?_
          rotate_left
          · intro w'
            go_simp
            with_reducible rfl
          rotate_left
          · simp only [pS]
            rfl
          refine pure_ (i := 27) (N := some 16) (v := ?_) (a' := ?_) #[true, true, true, true, true, true, true, true, true, true, true, true, true, true, true, true, true, true, true, true, true, true, true, true, true, true, true, true] rfl rfl (any_of HT_.out (by kernel_rfl)) (fun _ _ _ h => h) (Or.inl ⟨by rfl, ?_⟩) ?_ ?_
          rotate_left
          · intro w'
            go_simp
            with_reducible rfl
          rotate_left
          · simp only [pS]
            rfl
          refine done_ (done_of HT_.out (by kernel_rfl)) ?_
          go_wp2_with (first | (go_at_call 123; (with_reducible refine (turn_calls (v.a) 2 2 rfl (by decide) (by decide) _).mono ?_); rintro e w' ⟨rfl, ⟨nd, rfl⟩⟩) | (go_at_call 123; (with_reducible refine (turn_calls (v.a) 13 13 rfl (by decide) (by decide) _).mono ?_); rintro e w' ⟨rfl, ⟨nd, rfl⟩⟩) | (go_at_call 123; (with_reducible refine (turn_calls (v.a) 22 22 rfl (by decide) (by decide) _).mono ?_); rintro e w' ⟨rfl, ⟨nd, rfl⟩⟩))
          rw [tx_nest, ty_bits, m_add, m_add]
          refine ⟨⟨t + 1, rnd v kk wt, rfl, by omega, en.out.symm, rfl, rfl, rfl, rfl, rfl, rfl, rfl, rfl, Mv.drewN HM9.out _⟩, by simp only [intOf]; omega⟩
        · have o1 : decide ((t : Int) < 64) = false := decide_eq_false (by omega)
          have EV := Aside0.mk (show v = rnds ws 64 s from (show t = 64 by omega) ▸ EV.out)
          clear ht hk3
          rename World => w9
          have hS9 := Aside0.mk (show w9.heap[S]? = some (.cells ((addN s v 0).l.map vW).toArray 116 (0, 0)) from HM9.out.blk HS8.out (fun h => h))
          have HM49 := Aside0.mk (show Mv w4 w9 (fun k => k = S) from HM8.out.then HM9.out (fun _ h => h.elim))
          go_wp2_with (first
            | (refine wpList_alloc_v rfl 116 rfl ((V8.mk 0 0 0 0 0 0 0 0).l.map vW) (by kernel_rfl) ?_; intro N8 w10 eN hN10 hb10 hz10)
            | (refine wpList_store_agg rfl 116 _ _ rfl N8 0 rfl (v.l.map vW) _ (by rfl) _ hN10.out (by exact Nat.le_refl 8) (fun v hv => one_W hv) (by kernel_rfl) ?_; intro w11 hN11 hm11 hz11; rw [splice_all ((V8.mk 0 0 0 0 0 0 0 0).l.map vW) (v.l.map vW) rfl] at hN11))
          have hs11 := Aside0.mk (show S < N8 ∧ w4.heap.size ≤ N8 by have h1 := eN.out; have h2 := HM49.out.size; have h3 := hsz.out; omega)
          have HM11 := Aside0.mk (show Mv w4 w11 (fun k => k = S) from (HM49.out.below hb10.out).then hm11.out (fun j hj => Or.inr (by subst hj; exact hs11.out.2)))
          have HS11 := Aside0.mk (show w11.heap[S]? = _ from hm11.out.blk ((hb10.out.block S (blk_lt hS9.out)).trans hS9.out) (by have := hs11.out; omega))
          have HN11 := Aside0.mk hN11.out
          clear eN hN10 hb10 hz10 hN11 hm11 hz11 HM49 hS9 HM9 HM8 HS8 HW8
          go_loopw [19] (fun iv wq => ∃ j : Nat, iv = .int .i64 (j : Int) ∧ j ≤ 8 ∧ wq.heap[S]? = some (.cells ((addN s v j).l.map vW).toArray 116 (0, 0)) ∧ wq.heap[N8]? = some (.cells (v.l.map vW).toArray 116 (0, 0)) ∧ Mv w4 wq (fun k => k = S)) (fun iv _ => 8 - (intOf iv).toNat)
          case atStart => exact ⟨0, rfl, by omega, HS11.out, HN11.out, HM11.out⟩
          case round =>
            obtain ⟨j, rfl, hj, hS, hN, hm⟩ := hrel
            have HSj := Aside0.mk hS
            have HNj := Aside0.mk hN
            have HMj := Aside0.mk hm
            clear hS hN hm
            by_cases hk4 : j < 8
            · have o1 : decide ((j : Int) < 8) = true := decide_eq_true (by omega)
              have a1 : ((j : Int) < 8) = True := eq_true (by omega)
              obtain ⟨x, ex⟩ : ∃ x, x = s.l.getD j 0 := ⟨_, rfl⟩
              obtain ⟨q, eq_⟩ : ∃ q, q = v.l.getD j 0 := ⟨_, rfl⟩
              have c0 : wr.cell? ⟨S, j, none⟩ = some (.int .u32 (x.toNat : Int)) := by rw [ex, ← addN_at s v j hk4]; exact cell_of HSj.out (V8_at _ j hk4)
              have c1 : wr.cell? ⟨N8, j, none⟩ = some (.int .u32 (q.toNat : Int)) := by rw [eq_]; exact cell_of HNj.out (V8_at v j hk4)
              have f0 := Wd_thaw HSj.out j
              have hset := Aside0.mk (show ((addN s v j).l.map vW).set j (vW (x + q)) = (addN s v (j + 1)).l.map vW by rw [ex, eq_]; exact addN_setW s v j hk4)
              clear ex eq_
              go_wp2
              refine start_ (n := 10) (S := fun w' => w'.cell? ⟨S, j, none⟩ = some (.int .u32 (x.toNat : Int)) ∧ w'.cell? ⟨N8, j, none⟩ = some (.int .u32 (q.toNat : Int))) (ds := [9]) #[false, false, false, false, false, false, false, false, false, false] (by kernel_rfl) rfl rfl ⟨c0, c1⟩ (fun hHeld => ?_)
              refine with_tabW tab_f113_18 bits_f113_18 (fun HT_ HW_ => ?_)
              refine pure_ (i := 0) (N := some 126) (v := ?_) (a' := ?_) #[true, false, false, false, false, false, false, false, false, false] rfl rfl (any_of HT_.out (by kernel_rfl)) (fun _ _ _ h => h) (Or.inl ⟨by rfl, ?_⟩) ?_ ?_
              rotate_left
              · intro w'
                go_simp
                with_reducible rfl
              rotate_left
              · simp only [pS]
                rfl
              refine pure_ (i := 1) (N := some 127) (v := ?_) (a' := ?_) #[true, true, false, false, false, false, false, false, false, false] rfl rfl (any_of HT_.out (by kernel_rfl)) (fun _ _ _ h => h) (Or.inl ⟨by rfl, ?_⟩) ?_ ?_
              rotate_left
              · intro w'
                go_simp
                with_reducible rfl
              rotate_left
              · simp only [pS]
                rfl
              refine pure_ (i := 2) (N := some 128) (v := ?_) (a' := ?_) #[true, true, true, false, false, false, false, false, false, false] rfl rfl (any_of HT_.out (by kernel_rfl)) (fun _ _ _ h => h) (Or.inl ⟨by rfl, ?_⟩) ?_ ?_
              rotate_left
              · intro w'
                go_simp
                with_reducible rfl
              rotate_left
              · simp only [pS]
                rfl
              refine take_ (i := 3) (N := some 129) (v := ?_) (a' := ?_) #[true, true, true, true, false, false, false, false, false, false] rfl rfl (take_ofW HT_.out HW_.out (by kernel_rfl)) (fun _ _ _ h => h) (Or.inl ⟨by rfl, ?_⟩) hHeld ?_ ?_
              rotate_left
              · rintro w' ⟨s0, s1⟩
                go_simp
                with_reducible rfl
              rotate_left
              · simp only [pS]
                rfl
              refine pure_ (i := 4) (N := some 130) (v := ?_) (a' := ?_) #[true, true, true, true, true, false, false, false, false, false] rfl rfl (any_of HT_.out (by kernel_rfl)) (fun _ _ _ h => h) (Or.inl ⟨by rfl, ?_⟩) ?_ ?_
              rotate_left
              · intro w'
                go_simp
                with_reducible rfl
              rotate_left
              · simp only [pS]
                rfl
              refine pure_ (i := 5) (N := some 131) (v := ?_) (a' := ?_) #[true, true, true, true, true, true, false, false, false, false] rfl rfl (any_of HT_.out (by kernel_rfl)) (fun _ _ _ h => h) (Or.inl ⟨by rfl, ?_⟩) ?_ ?_
              rotate_left
              · intro w'
                go_simp
                with_reducible rfl
              rotate_left
              · simp only [pS]
                rfl
              refine take_ (i := 6) (N := some 132) (v := ?_) (a' := ?_) #[true, true, true, true, true, true, true, false, false, false] rfl rfl (take_ofW HT_.out HW_.out (by kernel_rfl)) (fun _ _ _ h => h) (Or.inl ⟨by rfl, ?_⟩) hHeld ?_ ?_
              rotate_left
              · rintro w' ⟨s0, s1⟩
                go_simp
                with_reducible rfl
              rotate_left
              · simp only [pS]
                rfl
              refine pure_ (i := 7) (N := some 133) (v := ?_) (a' := ?_) #[true, true, true, true, true, true, true, true, false, false] rfl rfl (any_of HT_.out (by kernel_rfl)) (fun _ _ _ h => h) (Or.inl ⟨by rfl, ?_⟩) ?_ ?_
              rotate_left
              · intro w'
                go_simp
                with_reducible rfl
              rotate_left
              · simp only [pS]
                rfl
              refine pure_ (i := 8) (N := some 134) (v := ?_) (a' := ?_) #[true, true, true, true, true, true, true, true, true, false] rfl rfl (any_of HT_.out (by kernel_rfl)) (fun _ _ _ h => h) (Or.inl ⟨by rfl, ?_⟩) ?_ ?_
              rotate_left
              · intro w'
                go_simp
                with_reducible rfl
              rotate_left
              · simp only [pS]
                rfl
              refine last_ (i := 9) (N := none) #[true, true, true, true, true, true, true, true, true, true] rfl rfl (one_of HT_.out (by kernel_rfl)) (by decide) (fun K hK => ?_)
              refine unit_ (w' := ?_) (by rfl) rfl ?hrun ?_
              case hrun => go_simp; rfl
              refine hK.out _ _ ?_
              clear hK K
              refine norm_ (a' := ?_) ?_ ?_
              rotate_left
              · show Act.put _ (none) _ = _
                simp only [pS]
                rfl
              refine done_ (done_of HT_.out (by kernel_rfl)) ?_
              go_wp2
              rw [m_add]
              refine ⟨⟨j + 1, rfl, by omega, ?_, (mv_set wr S j _).blk HNj.out (by have := hs11.out; omega), (HMj.out.set j _ (Or.inl rfl)).drew⟩, by simp only [intOf]; omega⟩
              rw [← hset.out]
              exact set_of HSj.out j (vW (x + q))
            · have o1 : decide ((j : Int) < 8) = false := decide_eq_false (by omega)
              have HSj := Aside0.mk (show wr.heap[S]? = some (.cells ((dg (k + 1) F).l.map vW).toArray 116 (0, 0)) from by
                have := HSj.out
                rw [show j = 8 by omega, show addN s v 8 = dg (k + 1) F by rw [EDG.out.1, ← EV.out]; rfl] at this
                exact this)
              have ZP := Aside0.mk (show wrap64 ((p : Int) + 64) = ((p + 64 : Nat) : Int) by have := HF.out; have := EDG.out; unfold wrap64; omega)
              clear hk4 hj
              go_wp2
              rw [ZP.out]
              exact ⟨⟨p + 64, k + 1, rfl, EDG.out.2.1, by omega, HSj.out, HMj.out⟩, by simp only [intOf]; have := EDG.out.2.2; omega⟩
    · have o1 : decide ((p : Int) < (n : Int)) = false := decide_eq_false (by have := HF.out; omega)
      have o2 : decide (p < n) = false := decide_eq_false (by have := HF.out; omega)
      obtain ⟨s, es⟩ : ∃ s, s = dg kn F := ⟨_, rfl⟩
      have HS := Aside0.mk (show wr.heap[S]? = some (.cells (s.l.map vW).toArray 116 (0, 0)) from by
        have := HS.out
        rw [show k = kn by omega, ← es] at this
        exact this)
      have ESH := Aside0.mk (show outV s = sha l by
        rw [es, HF.out.1]
        unfold sha
        rw [show (full l).length / 64 = kn by rw [← HF.out.1, HF.out.2.1, HF.out.2.2.1]; omega])
      have HR := Aside0.mk (show wr.heap[r]? = _ from HV.out.blk HR4.out (by have := hsz.out; omega))
      clear es ep hk2 hk HROW
      rename World => w5
      go_wp2_with (refine wpList_alloc_v rfl 77 rfl (List.replicate 32 (vB 0)) (by kernel_rfl) ?_; intro O w6 eO hO6 hb6 hz6)
      have hs6 := Aside0.mk (show S < O ∧ r < O ∧ w.heap.size ≤ O by have h1 := eO.out; have h2 := HV.out.size; have h3 := hsz.out; omega)
      have HB6 := Aside0.mk (show Below w.heap.size w w6 from HB.out.trans (hb6.out.mono HB.out.size))
      have HS6 := Aside0.mk (show w6.heap[S]? = _ from (hb6.out.block S (blk_lt HS.out)).trans HS.out)
      have HR6 := Aside0.mk (show w6.heap[r]? = _ from (hb6.out.block r (blk_lt HR.out)).trans HR.out)
      have HO6 := Aside0.mk (show w6.heap[O]? = some (.cells (Fb ((outV s).take 0) 32).toArray 77 (0, 0)) from hO6.out)
      clear eO hO6 hb6 hz6 HS HR HV HB HB4 HR4 HR4b HS4
      go_loopw [21] (fun iv wq => ∃ j : Nat, iv = .int .i64 (j : Int) ∧ j ≤ 32 ∧ wq.heap[O]? = some (.cells (Fb ((outV s).take j) 32).toArray 77 (0, 0)) ∧ Mv w6 wq (fun k => k = O)) (fun iv _ => 32 - (intOf iv).toNat)
      case atStart => exact ⟨0, rfl, by omega, HO6.out, Mv.refl _ _⟩
      case round =>
        obtain ⟨j, rfl, hj, hO, hm⟩ := hrel
        have HO := Aside0.mk hO
        have HM6 := Aside0.mk hm
        clear hO hm HO6
        by_cases hk2 : j < 32
        · have o1 : decide ((j : Int) < 32) = true := decide_eq_true (by omega)
          have hl : ((outV s).take j).length = j := by rw [List.length_take]; show min j 32 = _; omega
          obtain ⟨q, eq_⟩ : ∃ q, q = j / 4 := ⟨_, rfl⟩
          obtain ⟨m4, em⟩ : ∃ m4, m4 = j % 4 := ⟨_, rfl⟩
          obtain ⟨x, ex⟩ : ∃ x, x = s.l.getD q 0 := ⟨_, rfl⟩
          have hx : (s.l.map vW)[q]? = some (.int .u32 (x.toNat : Int)) := by rw [ex]; exact V8_at s q (by omega)
          have c0 : wr.cell? ⟨S, q, none⟩ = some (.int .u32 (x.toNat : Int)) := HM6.out.cell (cell_of HS6.out hx) (by have := hs6.out; simp only; omega)
          have q1 : ((q : Int) < 8) = True := eq_true (by omega)
          have q2 : ((j : Int) < 32) = True := eq_true (by omega)
          have h4 : m4 < 4 := by omega
          have hd : Int.tdiv (j : Int) 4 = (q : Int) := by rw [eq_]; rfl
          have ht : Int.tmod (j : Int) 4 = (m4 : Int) := by rw [em]; rfl
          obtain ⟨x0, d0⟩ := Fb_cell HO.out j hk2 (by omega)
          have d1 := Wd_thaw HO.out j
          have EX := Aside0.mk (show (outV s).take (j + 1) = (outV s).take j ++ [UInt8.ofNat (x.toNat >>> (24 - 8 * m4))] by rw [outV_get s j hk2, ex, eq_, em])
          have zq : wrap64 (q : Int) = (q : Int) := by unfold wrap64; omega
          have zm : wrap64 (m4 : Int) = (m4 : Int) := by clear zq; unfold wrap64; omega
          clear ex eq_ em
          go_wp2
          clear zq zm hd ht
          rw [byte_shr]
          refine ⟨⟨j + 1, rfl, by omega, ?_, HM6.out.set j _ (Or.inl rfl)⟩, by simp only [intOf]; omega⟩
          rw [EX.out, ← Fb_set _ 32 _ j hl hk2]
          exact set_of HO.out j _
        · have o1 : decide ((j : Int) < 32) = false := decide_eq_false (by omega)
          have HO := Aside0.mk (show wr.heap[O]? = some (.cells ((outV s).map vB).toArray 77 (0, 0)) from by
            have e : j = 32 := by omega
            have := HO.out
            rw [e] at this
            exact this)
          have HR := Aside0.mk (show wr.heap[r]? = _ from HM6.out.blk HR6.out (by have := hs6.out; omega))
          clear hk2 hj
          rename World => w11
          go_wp2_with (first
            | (refine wpList_load_agg rfl 77 _ rfl O 0 rfl ((outV s).map vB) (load_all HO.out) _ Tryz.underlying77 rfl (by rfl) ?_)
            | (refine wpList_store_agg rfl 77 _ _ rfl r 0 rfl ((outV s).map vB) _ rfl _ HR.out (by exact Nat.le_refl 32) (fun v hv => one_B hv) (by rfl) ?_; intro w12 hr12 hm12 hz12; rw [splice_all (List.replicate 32 (vB 0)) ((outV s).map vB) rfl] at hr12))
          refine bodyPost_ret (results_cell_row rfl _ _ r _ _ _ _ rfl hr12.out Tryz.underlying77 rfl (by rfl)) rfl ⟨by rw [ESH.out], ?_⟩
          exact Mv.toBelow (Mv.toBelow HB6.out HM6.out (fun k hk => by have := hs6.out; omega)) hm12.out (fun k hk => by have := hsz.out; omega)
end Go.Proofs.YtniabkphbnimaaaGreatDoor.Sh
namespace Go.Proofs.YtniabkphbnimaaaGreatDoor.Bs
open Go Go.RowKit Go.Maps Go.Proofs.YtniabkphbnimaaaGreatDoorW.PrintWords
section
variable {P : Program} {ops : Array Oper} {rest : List Oper} {o : Oper} {a : Act} {w : World} {Q : Exit → Act → World → Prop}
theorem wpList_append_fresh (hgd : o.guard = none) (sl x : Operand) (t e : TypeId) (ho : o.op = .call { callee := .builtin .append, args := #[sl, x], argTypes := #[t, t] }) (hu : P.underlying t = some (.slice e))
    (hz : (P.info? e).map (fun i => (i.size, i.bytes, i.zero)) = some (1, 1, some (.int .u8 0))) (hs : a.eval sl = .slice none 0 0) (b m c : Nat) (hx : a.eval x = .slice (some ⟨b, 0, none⟩) m c) (l : List UInt8) (hl : l.length = m)
    (hc : ∀ i v, l[i]? = some v → w.cell? ⟨b, 0 + i, none⟩ = some (.int .u8 (v.toNat : Int))) (hm : m ≤ 1099511627776)
    (h : ∀ A c' w', Hid (l = [] ∨ ∃ b off, A = some ⟨b, off, none⟩ ∧ ∀ i v, l[i]? = some v → w'.cell? ⟨b, off + i, none⟩ = some (.int .u8 (v.toNat : Int))) → Hid (m ≤ c') → Hid (Below w.heap.size w w') → wpList P ops Q rest (a.put o.dst (.slice A m c')) w') : wpList P ops Q (o :: rest) a w := by
  refine wpList_plain hgd fun K hK => ?_
  cases hq : P.info? e with
  | none => simp [hq] at hz
  | some i =>
    simp only [hq, Option.map_some, Option.some.injEq, Prod.mk.injEq] at hz
    have own0 : w.ownsRow w.heap.size e 1 (.slice none 0 0) 0 [] := ⟨rfl, Or.inl ⟨rfl, rfl⟩⟩
    obtain ⟨v', w', hr, ho', hg', _⟩ := run_append_own (P := P) w w.heap.size t o.type e i (.int .u8 0) 1 1 hu hq hz.2.2 hz.1 hz.2.1 rfl (by omega) (.slice none 0 0) 0 [] own0 ⟨b, 0, none⟩ m c (l.map fun v => .int .u8 (v.toNat : Int)) (by simp [hl]) (fun j u hj => by
      rw [List.getElem?_map] at hj
      obtain ⟨y, hy, rfl⟩ := Option.map_eq_some_iff.1 hj
      have ea : (⟨b, 0, none⟩ : Addr).add j = ⟨b, 0 + j, none⟩ := by unfold Addr.add; split <;> simp_all
      rw [ea]
      exact hc j y hy) (fun u hu => by obtain ⟨y, _, rfl⟩ := List.mem_map.1 hu; rfl) (by simp [maxLen]; omega) (by omega) (Nat.le_refl _)
    have hb : Below w.heap.size w w' := ⟨hg'.os, hg'.tape, hg'.output, hg'.size, fun k hk => hg'.block k hk (fun e => by cases e)⟩
    unfold Oper.wp execOp
    simp only [ho, resolve, invoke, builtin, Sem.run_bind, Sem.run_pure, Result.andThen_ok, List.map_toArray, List.map_cons, List.map_nil, hs, hx, hr]
    rw [Nat.zero_add] at ho'
    rcases ho'.2 with ⟨e1, e2⟩ | ⟨g, cap, cur, e1, _, hg, hnc, _, _, htake⟩
    · subst e1
      subst e2
      exact hK _ _ (h none 0 w' (Or.inl (List.eq_nil_of_length_eq_zero hl)) (Nat.le_refl 0) hb)
    · subst e1
      refine hK _ _ (h _ cap w' (Or.inr ⟨g, 0, rfl, fun j v hj => ?_⟩) hnc hb)
      rw [Nat.zero_add]
      have h1 : (cur.toList.take (m * 1))[j]? = some (.int .u8 (v.toNat : Int)) := by
        rw [htake, List.nil_append, List.getElem?_map, hj]
        rfl
      rw [List.getElem?_take] at h1
      split at h1
      · simp [World.cell?, hg]
        simpa using h1
      · cases h1
end
end Go.Proofs.YtniabkphbnimaaaGreatDoor.Bs
namespace Go.Proofs.YtniabkphbnimaaaGreatDoor.Sh
open Go Go.RowKit Go.Maps Go.Proofs.YtniabkphbnimaaaGreatDoorW.PrintWords Go.Proofs.YtniabkphbnimaaaGreatDoorW.PrintLast Go.Proofs.YtniabkphbnimaaaGreatDoor.Bs
set_option maxHeartbeats 8000000 in
set_option maxRecDepth 100000 in
theorem rof_calls (p : List UInt8) (pb b m c : Nat) (hm : p.length = m) (w : World) (hg : GR w) (hpb : w.heap[pb]? = some (.cells [.slice (some ⟨b, 0, none⟩) m c].toArray 39 (0, 0))) (H : ∀ i x, p[i]? = some x → w.cell? ⟨b, 0 + i, none⟩ = some (vB x)) (hl : m < 549755813888) :
    Calls Tryz.prog 95 #[.slice (some ⟨pb, 0, none⟩) 1 1] w fun e w' => e = .returned (.agg ((sha p).map vB).toArray) ∧ Below w.heap.size w w' := by
  have HG := Aside0.mk hg
  have HM := Aside0.mk hm
  have HP := Aside0.mk hpb
  have HIN := Aside0.mk H
  have HL := Aside0.mk hl
  clear hg hm hpb H hl
  go_enter Tryz.func95, Tryz.ntmps95
  go_wp2_with (refine wpList_alloc_v rfl 77 rfl (List.replicate 32 (vB 0)) (by kernel_rfl) ?_; intro r w1 er hr1 hb1 hz1)
  go_loopw [3, 4] (fun av iv wq => (iv = .int .i64 0 ∧ av = .slice none 0 0 ∧ wq = w1) ∨ (iv = .int .i64 1 ∧ ∃ A c', av = .slice A m c' ∧ BytesIn wq A p ∧ Below w1.heap.size w1 wq)) (fun _ iv _ => 1 - (intOf iv).toNat)
  case atStart => exact Or.inl ⟨rfl, rfl, rfl⟩
  case round =>
    rcases hrel with ⟨rfl, rfl, rfl⟩ | ⟨rfl, A, c', rfl, hby, hb⟩
    · have c0 : wr.cell? ⟨pb, 0, none⟩ = some (.slice (some ⟨b, 0, none⟩) m c) := below_cell hb1.out (cell_of HP.out rfl)
      go_wp2_with (refine wpList_append_fresh rfl (.tmp 11) (.tmp 15) 39 5 rfl Tryz.underlying39 (by kernel_rfl) rfl b m c rfl p HM.out (fun i v hv => below_cell hb1.out (HIN.out i v hv)) (by have := HL.out; omega) ?_; intro A c' w2 hA2 hc2 hb2)
      exact ⟨Or.inr ⟨rfl, A, c', rfl, hA2.out, hb2.out⟩, by simp only [intOf]; omega⟩
    · have HBY := Aside0.mk hby
      have HB := Aside0.mk hb
      clear hby hb
      rename World => w3
      go_wp2_with (first
        | (go_at_call 113; (with_reducible refine (rsum_calls p A m c' HM.out w3 (HG.out.below (hb1.out.trans (HB.out.mono hb1.out.size))) HBY.out HL.out).mono ?_); rintro e w4 ⟨rfl, hb4⟩; have HB4 := Aside0.mk hb4; clear hb4)
        | (refine wpList_store_agg rfl 77 _ _ rfl r 0 rfl ((sha p).map vB) _ rfl _ ((HB4.out.block r (by have h1 := HB.out.size; have h2 := blk_lt hr1.out; omega)).trans ((HB.out.block r (blk_lt hr1.out)).trans hr1.out)) (by exact Nat.le_refl 32) (fun v hv => one_B hv) (by rfl) ?_; intro w5 hr5 hm5 hz5; rw [splice_all (List.replicate 32 (vB 0)) ((sha p).map vB) rfl] at hr5))
      refine bodyPost_ret (results_cell_row rfl _ _ r _ _ _ _ rfl hr5.out Tryz.underlying77 rfl (by rfl)) rfl ⟨rfl, ?_⟩
      have b3 : Below w.heap.size w w3 := hb1.out.trans (HB.out.mono hb1.out.size)
      exact Mv.toBelow (b3.trans (HB4.out.mono b3.size)) hm5.out (fun k hk => by have := er.out; omega)
set_option maxHeartbeats 8000000 in
set_option maxRecDepth 100000 in
theorem msum_calls (s : ByteArray) (w : World) (hg : GR w) (hs : s.size < 549755813888) :
    Calls Tryz.prog 74 #[.string s] w fun e w' => e = .returned (.string (str (sha (bl s)))) ∧ Below w.heap.size w w' := by
  have HG := Aside0.mk hg
  have HS := Aside0.mk hs
  clear hg hs
  go_enter Tryz.func74, Tryz.ntmps74
  go_wp2_with (first
    | (refine wpList_bytes_of rfl _ _ 5 _ rfl s rfl (by kernel_rfl) Tryz.underlying39 Tryz.underlying5 ?_; intro g c w1 eg hc1 hb1 hz1 hk1)
    | (refine wpList_buildSlice_v rfl 100 39 1 _ rfl Tryz.underlying100 [.slice (some ⟨g, 0, none⟩) s.size c] (by kernel_rfl) ?_; intro pb w2 e2 hp2 hb2 hz2)
    | (go_at_call 95; (with_reducible refine (rof_calls (bl s) pb g s.size c (bl_len s) w2 ?gl hp2.out ?pa HS.out).mono ?_); (case gl => exact HG.out.below (hb1.out.trans (hb2.out.mono hb1.out.size))); (case pa => exact fun i x hx => below_cell hb2.out (hc1.out i x hx)); rintro e w3 ⟨rfl, hb3⟩; have HB3 := Aside0.mk hb3; clear hb3)
    | (refine wpList_alloc_v rfl 77 rfl (List.replicate 32 (vB 0)) (by kernel_rfl) ?_; intro r w4 er hr4 hb4 hz4)
    | (refine wpList_store_agg rfl 77 _ _ rfl r 0 rfl ((sha (bl s)).map vB) _ rfl _ hr4.out (by exact Nat.le_refl 32) (fun v hv => one_B hv) (by rfl) ?_; intro w5 hr5 hm5 hz5; rw [splice_all (List.replicate 32 (vB 0)) ((sha (bl s)).map vB) rfl] at hr5)
    | (refine wpList_string_of rfl _ _ 5 _ rfl (some ⟨r, 0, none⟩) 32 32 rfl (sha (bl s)) (length_sha _) (bytes_of_row hr5.out) Tryz.underlying39 (by kernel_rfl) Tryz.underlying5 ?_))
  go_ret
  refine ⟨rfl, ?_⟩
  have b2 : Below w.heap.size w w2 := hb1.out.trans (hb2.out.mono hb1.out.size)
  have b3 : Below w.heap.size w w3 := b2.trans (HB3.out.mono b2.size)
  exact Mv.toBelow (b3.trans (hb4.out.mono b3.size)) hm5.out (fun k hk => by have h1 := b3.size; have h2 := er.out; omega)
end Go.Proofs.YtniabkphbnimaaaGreatDoor.Sh
namespace Go.Proofs.YtniabkphbnimaaaGreatDoor.Sh
open Go Go.RowKit Go.Maps Go.Proofs.YtniabkphbnimaaaGreatDoorW.PrintWords Go.Proofs.YtniabkphbnimaaaGreatDoorW.PrintLast Go.Proofs.YtniabkphbnimaaaGreatDoor.Bs
theorem str_bl (s : ByteArray) : str (bl s) = s := by
  cases s
  rfl
theorem kpad_at (key : List UInt8) (x : UInt8) (i : Nat) (hi : i < 64) : (kpad key x).take (i + 1) = (kpad key x).take i ++ [((kb key).getD i 0) ^^^ x] := by
  have hk := kb_le key
  have hl : i < ((kb key) ++ List.replicate (64 - (kb key).length) 0).length := by simp; omega
  rw [List.take_add_one]
  congr 1
  unfold kpad
  rw [List.getElem?_map, List.getElem?_eq_getElem hl]
  simp only [Option.map_some, Option.toList_some]
  congr 2
  rw [List.getD_eq_getElem?_getD]
  by_cases h : i < (kb key).length
  · rw [List.getElem_append_left h, List.getElem?_eq_getElem h]
    rfl
  · rw [List.getElem_append_right (by omega), List.getElem?_eq_none (by omega)]
    simp
set_option maxHeartbeats 8000000 in
set_option maxRecDepth 100000 in
theorem rblock_calls (k : ByteArray) (x : UInt8) (xi : Int) (hx : xi = (x.toNat : Int)) (w : World) (hg : GR w) (hk : k.size < 549755813888) :
    Calls Tryz.prog 75 #[.string k, .int .u8 xi] w fun e w' => e = .returned (.string (str (kpad (bl k) x))) ∧ Below w.heap.size w w' := by
  subst hx
  have HG := Aside0.mk hg
  have HK := Aside0.mk hk
  clear hg hk
  go_enter Tryz.func75, Tryz.ntmps75
  go_upto_if 9 with fail
  go_cut [0] (fun v wc => v = .string (str (kb (bl k))) ∧ Below w.heap.size w wc)
  case first =>
    by_cases h64 : 64 < k.size
    · have o1 : decide ((64 : Int) < (k.size : Int)) = true := decide_eq_true (by omega)
      go_wp2_with (go_at_call 74; (with_reducible refine (msum_calls k w HG.out HK.out).mono ?_); rintro e w1 ⟨rfl, hb1⟩)
      go_meet
      have ek : kb (bl k) = sha (bl k) := by unfold kb; rw [if_pos (by rw [bl_len]; exact h64)]
      rw [ek]
      exact ⟨rfl, hb1⟩
    · have o1 : decide ((64 : Int) < (k.size : Int)) = false := decide_eq_false (by omega)
      go_wp2
      go_meet
      have ek : kb (bl k) = bl k := by unfold kb; rw [if_neg (by rw [bl_len]; exact h64)]
      rw [ek, str_bl]
      exact ⟨rfl, Below.refl _ _⟩
  case rest =>
    obtain ⟨rfl, hbc⟩ := hcut
    have HBC := Aside0.mk hbc
    clear hbc
    rename World => w1
    obtain ⟨s, es⟩ : ∃ s, s = str (kb (bl k)) := ⟨_, rfl⟩
    have hss := Aside0.mk (show s.size ≤ 64 ∧ kb (bl k) = bl s from ⟨by rw [es]; exact kb_le _, by rw [es]; rfl⟩)
    rw [← es]
    clear es
    go_wp2_with (refine wpList_make_v rfl 39 5 _ _ rfl 64 rfl rfl Tryz.underlying39 (vB 0) (by kernel_rfl) rfl (by decide) ?_; intro g w2 eg hg2 hb2 hz2)
    have HG2 := Aside0.mk (show w2.heap[g]? = some (.cells (Fb ((kpad (bl k) x).take 0) 64).toArray 5 (0, 0)) from hg2.out)
    have HB2 := Aside0.mk (show Below w.heap.size w w2 ∧ w.heap.size ≤ g from ⟨HBC.out.trans (hb2.out.mono HBC.out.size), by rw [eg.out]; exact HBC.out.size⟩)
    clear eg hg2 hb2 hz2
    go_loopw [6] (fun iv wq => ∃ i : Nat, iv = .int .i64 (i : Int) ∧ i ≤ 64 ∧ wq.heap[g]? = some (.cells (Fb ((kpad (bl k) x).take i) 64).toArray 5 (0, 0)) ∧ Mv w2 wq (fun k => k = g)) (fun iv _ => 64 - (intOf iv).toNat)
    case atStart => exact ⟨0, rfl, by omega, HG2.out, Mv.refl _ _⟩
    case round =>
      obtain ⟨i, rfl, hi, hT, hm⟩ := hrel
      have HT := Aside0.mk hT
      have HM := Aside0.mk hm
      clear hT hm
      by_cases hk2 : i < 64
      · have o1 : decide ((i : Int) < 64) = true := decide_eq_true (by omega)
        have hl : ((kpad (bl k) x).take i).length = i := by rw [List.length_take, length_kpad]; omega
        have q2 : ((i : Int) < 64) = True := eq_true (by omega)
        obtain ⟨y, ey⟩ : ∃ y, y = (kb (bl k)).getD i 0 := ⟨_, rfl⟩
        have EY := Aside0.mk (show (kpad (bl k) x).take (i + 1) = (kpad (bl k) x).take i ++ [y ^^^ x] by rw [ey]; exact kpad_at _ _ i hk2)
        have d1 := Wd_thaw HT.out i
        by_cases hks : i < s.size
        · have o2 : decide ((i : Int) < (s.size : Int)) = true := decide_eq_true (by omega)
          have o3 : decide (i < s.size) = true := decide_eq_true hks
          have q3 : (i < s.size) = True := eq_true hks
          have hy : s[i] = y := by
            rw [ey, hss.out.2, List.getD_eq_getElem?_getD, List.getElem?_eq_getElem (show i < (bl s).length by rw [bl_len]; exact hks)]
            rfl
          obtain ⟨x0, d0⟩ := Fb_cell HT.out i hk2 (by omega)
          have HY := Aside0.mk hy
          clear hy ey
          go_wp2
          rw [HY.out, xor8]
          refine ⟨⟨i + 1, rfl, by omega, ?_, (HM.out.set i _ (Or.inl rfl)).set i _ (Or.inl rfl)⟩, by simp only [intOf]; omega⟩
          have h := set_of (set_of HT.out i (.int .u8 (y.toNat : Int))) i (vB (y ^^^ x))
          rw [List.set_set, Fb_set _ 64 _ i hl hk2, ← EY.out] at h
          exact h
        · have o2 : decide ((i : Int) < (s.size : Int)) = false := decide_eq_false (by omega)
          have o3 : decide (i < s.size) = false := decide_eq_false hks
          have hy0 := Aside0.mk (show y = 0 by rw [ey, List.getD_eq_getElem?_getD, List.getElem?_eq_none (by rw [hss.out.2, bl_len]; omega)]; rfl)
          have d0 : wr.cell? ⟨g, i, none⟩ = some (.int .u8 0) := by
            refine cell_of HT.out ?_
            unfold Fb
            rw [List.getElem?_map, List.getElem?_append_right (by omega), hl, Nat.sub_self, List.getElem?_replicate, if_pos (by omega)]
            rfl
          clear ey
          go_wp2
          rw [show Go.bits .xor .u8 0 (x.toNat : Int) = (((0 : UInt8) ^^^ x).toNat : Int) from xor8 0 x]
          refine ⟨⟨i + 1, rfl, by omega, ?_, HM.out.set i _ (Or.inl rfl)⟩, by simp only [intOf]; omega⟩
          have h := set_of HT.out i (vB (y ^^^ x))
          rw [Fb_set _ 64 _ i hl hk2, ← EY.out, hy0.out] at h
          exact h
      · have o1 : decide ((i : Int) < 64) = false := decide_eq_false (by omega)
        have HT := Aside0.mk (show wr.heap[g]? = some (.cells ((kpad (bl k) x).map vB).toArray 5 (0, 0)) from by
          have h := HT.out
          rw [List.take_of_length_le (by rw [length_kpad]; omega)] at h
          unfold Fb at h
          rw [length_kpad, Nat.sub_self, List.replicate_zero, List.append_nil] at h
          exact h)
        clear hk2 hi
        go_wp2_with (refine wpList_string_of rfl _ _ 5 _ rfl (some ⟨g, 0, none⟩) 64 64 rfl (kpad (bl k) x) (length_kpad _ _) (bytes_of_row HT.out) Tryz.underlying39 (by kernel_rfl) Tryz.underlying5 ?_)
        go_ret
        exact ⟨rfl, Mv.toBelow HB2.out.1 HM.out (fun k hk => by have := HB2.out; omega)⟩
theorem bl_add (a b : ByteArray) : bl (a ++ b) = bl a ++ bl b := by
  show (ByteArray.append a b).data.toList = _
  simp [bl]
theorem str_size (l : List UInt8) : (str l).size = l.length := rfl
theorem msum2_calls (a b : ByteArray) (x y : List UInt8) (ha : bl a = x) (hb : bl b = y) (w : World) (hg : GR w) (hs : a.size + b.size < 549755813888) :
    Calls Tryz.prog 74 #[.string (a ++ b)] w fun e w' => e = .returned (.string (str (sha (x ++ y)))) ∧ Below w.heap.size w w' := by
  have h := msum_calls (a ++ b) w hg (by rw [ByteArray.size_append]; exact hs)
  rw [bl_add, ha, hb] at h
  exact h
set_option maxHeartbeats 8000000 in
set_option maxRecDepth 100000 in
theorem rtag_calls (k t : ByteArray) (w : World) (hg : GR w) (hk : k.size < 1099511627776 / 2) (ht : t.size < 274877906944) :
    Calls Tryz.prog 37 #[.string k, .string t] w fun e w' => e = .returned (.string (str (hmac (bl k) (bl t)))) ∧ Below w.heap.size w w' := by
  have HG := Aside0.mk hg
  have HK := Aside0.mk hk
  have HT := Aside0.mk ht
  clear hg hk ht
  go_enter Tryz.func37, Tryz.ntmps37
  obtain ⟨x, ex⟩ : ∃ x, x = sha (kpad (bl k) 54 ++ bl t) := ⟨_, rfl⟩
  obtain ⟨s54, e54⟩ : ∃ s, s = str (kpad (bl k) 54) := ⟨_, rfl⟩
  obtain ⟨s92, e92⟩ : ∃ s, s = str (kpad (bl k) 92) := ⟨_, rfl⟩
  obtain ⟨sx, esx⟩ : ∃ s, s = str x := ⟨_, rfl⟩
  have l54 : s54.size = 64 := by rw [e54, str_size, length_kpad]
  have l92 : s92.size = 64 := by rw [e92, str_size, length_kpad]
  have lx : sx.size = 32 := by rw [esx, str_size, ex, length_sha]
  have n1 : (9223372036854775807 < s54.size + t.size) = False := eq_false (by have := HT.out; omega)
  have n2 : (9223372036854775807 < s92.size + sx.size) = False := eq_false (by omega)
  have HB := Aside0.mk (show s54.size + t.size < 549755813888 ∧ s92.size + sx.size < 549755813888 by have := HT.out; omega)
  have E54 := Aside0.mk (show bl s54 = kpad (bl k) 54 by rw [e54]; rfl)
  have E92 := Aside0.mk (show bl s92 = kpad (bl k) 92 by rw [e92]; rfl)
  have EX := Aside0.mk (show str (sha (kpad (bl k) 54 ++ bl t)) = sx ∧ bl sx = sha (kpad (bl k) 54 ++ bl t) by rw [esx, ex]; exact ⟨rfl, rfl⟩)
  have c54 := Aside0.mk (fun (w : World) (hg : GR w) => e54 ▸ rblock_calls k 54 54 rfl w hg (by have := HK.out; omega))
  have c92 := Aside0.mk (fun (w : World) (hg : GR w) => e92 ▸ rblock_calls k 92 92 rfl w hg (by have := HK.out; omega))
  have cx := Aside0.mk (fun (w : World) (hg : GR w) => EX.out.1 ▸ msum2_calls s54 t _ _ E54.out rfl w hg HB.out.1)
  clear e54 e92 esx ex l54 l92 lx
  go_wp2_with (first
    | (go_at_call 75; (with_reducible refine (c92.out w HG.out).mono ?_); rintro e w1 ⟨rfl, hb1⟩; have HB1 := Aside0.mk hb1; clear hb1)
    | (go_at_call 75; (with_reducible refine (c54.out w1 (HG.out.below HB1.out)).mono ?_); rintro e w2 ⟨rfl, hb2⟩; have HB2 := Aside0.mk (HB1.out.trans (hb2.mono HB1.out.size)); clear hb2)
    | (go_at_call 74; (with_reducible refine (cx.out w2 (HG.out.below HB2.out)).mono ?_); rintro e w3 ⟨rfl, hb3⟩; have HB3 := Aside0.mk (HB2.out.trans (hb3.mono HB2.out.size)); clear hb3)
    | (go_at_call 74; (with_reducible refine (msum2_calls s92 sx _ _ E92.out EX.out.2 w3 (HG.out.below HB3.out) HB.out.2).mono ?_); rintro e w4 ⟨rfl, hb4⟩; have HB4 := Aside0.mk (HB3.out.trans (hb4.mono HB3.out.size)); clear hb4))
  go_ret
  exact ⟨rfl, HB4.out⟩
end Go.Proofs.YtniabkphbnimaaaGreatDoor.Sh
namespace Go.Proofs.YtniabkphbnimaaaGreatDoor.Sh
open Go Go.RowKit Go.Maps Go.Proofs.YtniabkphbnimaaaGreatDoorW.PrintWords Go.Proofs.YtniabkphbnimaaaGreatDoorW.PrintLast Go.Proofs.YtniabkphbnimaaaGreatDoor.Bs
theorem gl_below {w w' : World} (h : GL w) (hb : Below w.heap.size w w') : GL w' := by
  obtain ⟨t, fr, h⟩ := h
  exact ⟨t, fr, (hb.block _ (blk_lt h)).trans h⟩
def sealedB (l : List UInt8) (k : List UInt8) : Bool := decide (bodyB l ≠ [] ∧ l.drop (bodyB l).length = hmac k (bodyB l))
theorem body_len (l : List UInt8) : (bodyB l).length ≤ l.length := by
  unfold bodyB
  split
  · rw [List.length_take]; omega
  · exact Nat.zero_le _
def T_14_2 : Bool × List (List Nat × List Nat) := (true, [([], []), ([0], [0]), ([1], [1]), ([2], [2]), ([2], [2]), ([4, 2], [2, 4]), ([3, 5, 2], [2, 3, 5]), ([2], [2]), ([2], [2]), ([7, 8, 2, 2], [2, 7, 8]), ([6, 9, 9, 2], [2, 6, 9]), ([2, 10], [2, 10]), ([11, 10, 0, 1, 2, 3, 4, 5, 6, 7, 8, 9, 10, 11], [11])])
def B_14_2 : List Nat := [0, 1, 3, 7, 7, 23, 63, 7, 7, 391, 1023, 2047, 4095]
theorem tab_f14_2 : rtab .any (opsOf Tryz.f14 2) = T_14_2 := by kernel_rfl
theorem bits_f14_2 : waitsOk T_14_2.2 B_14_2 = true := by kernel_rfl
set_option maxHeartbeats 8000000 in
set_option maxRecDepth 100000 in
theorem sealed_calls (l : List UInt8) (k : ByteArray) (w : World) (hg : GL w) (hl : l.length < 1099511627776) (hk : k.size < 1099511627776) : Calls Tryz.prog 14 #[.string (str l), .string k] w fun e w' => e = .returned (.bool (sealedB l (bl k))) ∧ Below w.heap.size w w' := by
  have HG := Aside0.mk hg
  have HK := Aside0.mk hk
  have HL := Aside0.mk hl
  obtain ⟨t, et⟩ : ∃ t, t = str l := ⟨_, rfl⟩
  have hts : t.size = l.length := by rw [et]; rfl
  obtain ⟨b, eb⟩ : ∃ b, b = str (bodyB l) := ⟨_, rfl⟩
  have hbs : b.size = (bodyB l).length := by rw [eb]; rfl
  rw [← et]
  have BC := Aside0.mk (show ∀ w, Calls Tryz.prog 12 #[.string t] w fun e w' => e = .returned (.string b) ∧ Below w.heap.size w w' from fun w => by rw [et, eb]; exact body_calls l (by omega) w)
  by_cases hb : bodyB l = []
  · have o1 : b.toList = [] := by rw [eb, hb]; exact str_list []
    have o2 : b.toList.isEmpty = true := by rw [o1]; rfl
    have ES := Aside0.mk (show sealedB l (bl k) = false from decide_eq_false (fun h => h.1 hb))
    clear et eb hts hbs hb hg hk hl
    go_enter Tryz.func14, Tryz.ntmps14
    go_wp2_with (go_at_call 12; (with_reducible refine (BC.out w).mono ?_); rintro e w1 ⟨rfl, hb1⟩; have HB1 := Aside0.mk hb1; clear hb1)
    refine start_ (n := 13) (S := fun w' => True) (ds := []) #[false, false, false, false, false, false, false, false, false, false, false, false, false] (by kernel_rfl) rfl rfl trivial (fun hHeld => ?_)
    refine with_tabW tab_f14_2 bits_f14_2 (fun HT_ HW_ => ?_)
    refine pure_ (i := 0) (N := some 8) (v := ?_) (a' := ?_) #[true, false, false, false, false, false, false, false, false, false, false, false, false] rfl rfl (any_of HT_.out (by kernel_rfl)) (fun _ _ _ h => h) (Or.inl ⟨by rfl, ?_⟩) ?_ ?_
    rotate_left
    · intro w'
      go_simp
      with_reducible rfl
    rotate_left
    · simp only [pS]
      rfl
    refine pure_ (i := 1) (N := some 9) (v := ?_) (a' := ?_) #[true, true, false, false, false, false, false, false, false, false, false, false, false] rfl rfl (any_of HT_.out (by kernel_rfl)) (fun _ _ _ h => h) (Or.inl ⟨by rfl, ?_⟩) ?_ ?_
    rotate_left
    · intro w'
      go_simp
      with_reducible rfl
    rotate_left
    · simp only [pS]
      rfl
    refine pure_ (i := 2) (N := some 10) (v := ?_) (a' := ?_) #[true, true, true, false, false, false, false, false, false, false, false, false, false] rfl rfl (any_of HT_.out (by kernel_rfl)) (fun _ _ _ h => h) (Or.inl ⟨by rfl, ?_⟩) ?_ ?_
    rotate_left
    · intro w'
      go_simp
      with_reducible rfl
    rotate_left
    · simp only [pS]
      rfl
    refine pure_ (i := 3) (N := some 11) (v := undef) (a' := ?_) #[true, true, true, true, false, false, false, false, false, false, false, false, false] rfl rfl (any_of HT_.out (by kernel_rfl)) (fun _ _ _ h => h) (Or.inr ⟨by rfl, rfl⟩) ?_ ?_
    rotate_left
    · simp only [pS]
      rfl
    refine pure_ (i := 4) (N := some 12) (v := undef) (a' := ?_) #[true, true, true, true, true, false, false, false, false, false, false, false, false] rfl rfl (any_of HT_.out (by kernel_rfl)) (fun _ _ _ h => h) (Or.inr ⟨by rfl, rfl⟩) ?_ ?_
    rotate_left
    · simp only [pS]
      rfl
    refine pure_ (i := 5) (N := some 13) (v := undef) (a' := ?_) #[true, true, true, true, true, true, false, false, false, false, false, false, false] rfl rfl (any_of HT_.out (by kernel_rfl)) (fun _ _ _ h => h) (Or.inr ⟨by rfl, rfl⟩) ?_ ?_
    rotate_left
    · simp only [pS]
      rfl
    refine pure_ (i := 6) (N := some 14) (v := undef) (a' := ?_) #[true, true, true, true, true, true, true, false, false, false, false, false, false] rfl rfl (any_of HT_.out (by kernel_rfl)) (fun _ _ _ h => h) (Or.inr ⟨by rfl, rfl⟩) ?_ ?_
    rotate_left
    · simp only [pS]
      rfl
    refine pure_ (i := 7) (N := some 15) (v := undef) (a' := ?_) #[true, true, true, true, true, true, true, true, false, false, false, false, false] rfl rfl (any_of HT_.out (by kernel_rfl)) (fun _ _ _ h => h) (Or.inr ⟨by rfl, rfl⟩) ?_ ?_
    rotate_left
    · simp only [pS]
      rfl
    refine pure_ (i := 8) (N := some 16) (v := undef) (a' := ?_) #[true, true, true, true, true, true, true, true, true, false, false, false, false] rfl rfl (any_of HT_.out (by kernel_rfl)) (fun _ _ _ h => h) (Or.inr ⟨by rfl, rfl⟩) ?_ ?_
    rotate_left
    · simp only [pS]
      rfl
    refine pure_ (i := 9) (N := some 17) (v := undef) (a' := ?_) #[true, true, true, true, true, true, true, true, true, true, false, false, false] rfl rfl (any_of HT_.out (by kernel_rfl)) (fun _ _ _ h => h) (Or.inr ⟨by rfl, rfl⟩) ?_ ?_
    rotate_left
    · simp only [pS]
      rfl
    refine pure_ (i := 10) (N := some 18) (v := undef) (a' := ?_) #[true, true, true, true, true, true, true, true, true, true, true, false, false] rfl rfl (any_of HT_.out (by kernel_rfl)) (fun _ _ _ h => h) (Or.inr ⟨by rfl, rfl⟩) ?_ ?_
    rotate_left
    · simp only [pS]
      rfl
    refine pure_ (i := 11) (N := some 19) (v := ?_) (a' := ?_) #[true, true, true, true, true, true, true, true, true, true, true, true, false] rfl rfl (any_of HT_.out (by kernel_rfl)) (fun _ _ _ h => h) (Or.inl ⟨by rfl, ?_⟩) ?_ ?_
    rotate_left
    · intro w'
      go_simp
      with_reducible rfl
    rotate_left
    · simp only [pS]
      rfl
    refine pure_ (i := 12) (N := some 4) (v := ?_) (a' := ?_) #[true, true, true, true, true, true, true, true, true, true, true, true, true] rfl rfl (any_of HT_.out (by kernel_rfl)) (fun _ _ _ h => h) (Or.inl ⟨by rfl, ?_⟩) ?_ ?_
    rotate_left
    · intro w'
      go_simp
      with_reducible rfl
    rotate_left
    · simp only [pS]
      rfl
    refine done_ (done_of HT_.out (by kernel_rfl)) ?_
    clear HT_ HW_ hHeld
    go_wp2
    go_ret
    rw [ES.out]
    exact ⟨rfl, below_drew1 HB1.out⟩
  · have o1 : b.toList.isEmpty = false := by
      rw [eb, str_list]
      cases h : bodyB l with
      | nil => exact absurd h hb
      | cons x y => rfl
    have o2 : ¬ b.toList = [] := by rw [eb, str_list]; exact hb
    have o3 : b.size ≤ t.size := by rw [hbs, hts]; exact body_len l
    obtain ⟨m, em⟩ : ∃ m, m = str (hmac (bl k) (bodyB l)) := ⟨_, rfl⟩
    have TC := Aside0.mk (show ∀ w, GL w → Calls Tryz.prog 23 #[.string k, .string b] w fun e w' => e = .returned (.string m) ∧ Below w.heap.size w w' from fun w hg => by
      have h := tag_calls k b w hg hk (by rw [hbs]; exact Nat.lt_of_le_of_lt (body_len l) hl)
      rw [em]
      rw [show bl b = bodyB l by rw [eb]; rfl] at h
      exact h)
    have ES := Aside0.mk (show sealedB l (bl k) = decide (l.drop (bodyB l).length = hmac (bl k) (bodyB l)) from decide_eq_decide.mpr ⟨fun h => h.2, fun h => ⟨hb, h⟩⟩)
    have SC := Aside0.mk (show ∀ w, Calls Tryz.prog 36 #[.string (t.extract b.size t.size), .string m] w fun e w' => e = .returned (.bool (sealedB l (bl k))) ∧ Below w.heap.size w w' from fun w => by
      rw [ES.out, em, hbs, et, str_drop]
      exact same_calls _ _ (by rw [List.length_drop]; omega) w)
    clear et eb em hts hbs hb hg hk hl
    go_enter Tryz.func14, Tryz.ntmps14
    go_wp2_with (go_at_call 12; (with_reducible refine (BC.out w).mono ?_); rintro e w1 ⟨rfl, hb1⟩; have HB1 := Aside0.mk hb1; clear hb1)
    refine start_ (n := 13) (S := fun w' => True) (ds := []) #[false, false, false, false, false, false, false, false, false, false, false, false, false] (by kernel_rfl) rfl rfl trivial (fun hHeld => ?_)
    refine with_tabW tab_f14_2 bits_f14_2 (fun HT_ HW_ => ?_)
    refine pure_ (i := 0) (N := some 8) (v := ?_) (a' := ?_) #[true, false, false, false, false, false, false, false, false, false, false, false, false] rfl rfl (any_of HT_.out (by kernel_rfl)) (fun _ _ _ h => h) (Or.inl ⟨by rfl, ?_⟩) ?_ ?_
    rotate_left
    · intro w'
      go_simp
      with_reducible rfl
    rotate_left
    · simp only [pS]
      rfl
    refine pure_ (i := 1) (N := some 9) (v := ?_) (a' := ?_) #[true, true, false, false, false, false, false, false, false, false, false, false, false] rfl rfl (any_of HT_.out (by kernel_rfl)) (fun _ _ _ h => h) (Or.inl ⟨by rfl, ?_⟩) ?_ ?_
    rotate_left
    · intro w'
      go_simp
      with_reducible rfl
    rotate_left
    · simp only [pS]
      rfl
    refine pure_ (i := 2) (N := some 10) (v := ?_) (a' := ?_) #[true, true, true, false, false, false, false, false, false, false, false, false, false] rfl rfl (any_of HT_.out (by kernel_rfl)) (fun _ _ _ h => h) (Or.inl ⟨by rfl, ?_⟩) ?_ ?_
    rotate_left
    · intro w'
      go_simp
      with_reducible rfl
    rotate_left
    · simp only [pS]
      rfl
    refine pure_ (i := 3) (N := some 11) (v := ?_) (a' := ?_) #[true, true, true, true, false, false, false, false, false, false, false, false, false] rfl rfl (any_of HT_.out (by kernel_rfl)) (fun _ _ _ h => h) (Or.inl ⟨by rfl, ?_⟩) ?_ ?_
    rotate_left
    · intro w'
      go_simp
      with_reducible rfl
    rotate_left
    · simp only [pS]
      rfl
    refine pure_ (i := 4) (N := some 12) (v := ?_) (a' := ?_) #[true, true, true, true, true, false, false, false, false, false, false, false, false] rfl rfl (any_of HT_.out (by kernel_rfl)) (fun _ _ _ h => h) (Or.inl ⟨by rfl, ?_⟩) ?_ ?_
    rotate_left
    · intro w'
      go_simp
      with_reducible rfl
    rotate_left
    · simp only [pS]
      rfl
    refine pure_ (i := 5) (N := some 13) (v := ?_) (a' := ?_) #[true, true, true, true, true, true, false, false, false, false, false, false, false] rfl rfl (any_of HT_.out (by kernel_rfl)) (fun _ _ _ h => h) (Or.inl ⟨by rfl, ?_⟩) ?_ ?_
    rotate_left
    · intro w'
      go_simp
      with_reducible rfl
    rotate_left
    · simp only [pS]
      rfl
    refine pure_ (i := 6) (N := some 14) (v := ?_) (a' := ?_) #[true, true, true, true, true, true, true, false, false, false, false, false, false] rfl rfl (any_of HT_.out (by kernel_rfl)) (fun _ _ _ h => h) (Or.inl ⟨by rfl, ?_⟩) ?_ ?_
    rotate_left
    · intro w'
      go_simp
      with_reducible rfl
    rotate_left
    · simp only [pS]
      rfl
    refine pure_ (i := 7) (N := some 15) (v := ?_) (a' := ?_) #[true, true, true, true, true, true, true, true, false, false, false, false, false] rfl rfl (any_of HT_.out (by kernel_rfl)) (fun _ _ _ h => h) (Or.inl ⟨by rfl, ?_⟩) ?_ ?_
    rotate_left
    · intro w'
      go_simp
      with_reducible rfl
    rotate_left
    · simp only [pS]
      rfl
    refine pure_ (i := 8) (N := some 16) (v := ?_) (a' := ?_) #[true, true, true, true, true, true, true, true, true, false, false, false, false] rfl rfl (any_of HT_.out (by kernel_rfl)) (fun _ _ _ h => h) (Or.inl ⟨by rfl, ?_⟩) ?_ ?_
    rotate_left
    · intro w'
      go_simp
      with_reducible rfl
    rotate_left
    · simp only [pS]
      rfl
    refine one_ (i := 9) (N := some 17) #[true, true, true, true, true, true, true, true, true, true, false, false, false] rfl rfl (one_of HT_.out (by kernel_rfl)) (by decide) (fun K hK => ?_)
    refine goes_ Tryz.func23 (by kernel_rfl) rfl #[.string k, .string b] (by rfl) rfl rfl (by (try simp only [List.map_toArray, List.map_cons, List.map_nil]); first | done | rfl) ?_
    with_reducible refine (TC.out _ (gl_below HG.out (below_drew1 HB1.out))).mono ?_
    rintro e w2 ⟨rfl, hb2⟩
    refine ⟨_, rfl, ?_⟩
    have HB2 := Aside0.mk (show Below w.heap.size w w2 from (below_drew1 HB1.out).trans (hb2.mono HB1.out.size))
    refine hK.out _ _ trivial (fun hHeld => ?_)
    clear hK K
    refine norm_ (a' := ?_) ?_ ?_
    rotate_left
    · show Act.put _ (some 17) _ = _
      simp only [pS]
      rfl
    refine one_ (i := 10) (N := some 18) #[true, true, true, true, true, true, true, true, true, true, true, false, false] rfl rfl (one_of HT_.out (by kernel_rfl)) (by decide) (fun K hK => ?_)
    refine goes_ Tryz.func36 (by kernel_rfl) rfl #[.string (t.extract b.size t.size), .string m] (by rfl) rfl rfl (by (try simp only [List.map_toArray, List.map_cons, List.map_nil]); first | done | rfl) ?_
    with_reducible refine (SC.out _).mono ?_
    rintro e w3 ⟨rfl, hb3⟩
    refine ⟨_, rfl, ?_⟩
    have HB3 := Aside0.mk (HB2.out.trans (hb3.mono HB2.out.size))
    refine hK.out _ _ trivial (fun hHeld => ?_)
    clear hK K
    refine norm_ (a' := ?_) ?_ ?_
    rotate_left
    · show Act.put _ (some 18) _ = _
      simp only [pS]
      rfl
    refine pure_ (i := 11) (N := some 19) (v := ?_) (a' := ?_) #[true, true, true, true, true, true, true, true, true, true, true, true, false] rfl rfl (any_of HT_.out (by kernel_rfl)) (fun _ _ _ h => h) (Or.inl ⟨by rfl, ?_⟩) ?_ ?_
    rotate_left
    · intro w'
      go_simp
      with_reducible rfl
    rotate_left
    · simp only [pS]
      rfl
    refine pure_ (i := 12) (N := some 4) (v := ?_) (a' := ?_) #[true, true, true, true, true, true, true, true, true, true, true, true, true] rfl rfl (any_of HT_.out (by kernel_rfl)) (fun _ _ _ h => h) (Or.inl ⟨by rfl, ?_⟩) ?_ ?_
    rotate_left
    · intro w'
      go_simp
      with_reducible rfl
    rotate_left
    · simp only [pS]
      rfl
    refine done_ (done_of HT_.out (by kernel_rfl)) ?_
    clear HT_ HW_ hHeld
    go_wp2
    go_ret
    exact ⟨rfl, HB3.out⟩
def sealB (d : Dg) (k : List UInt8) : ByteArray × Int :=
  if 3 ≤ d.kind ∧ d.kind ≤ 7 then
    if (enc { d with tag := str (List.replicate 32 0) }).2 ≠ 0 then (⟨#[]⟩, (enc { d with tag := str (List.replicate 32 0) }).2)
    else (str (bodyB (bl (enc { d with tag := str (List.replicate 32 0) }).1) ++ hmac k (bodyB (bl (enc { d with tag := str (List.replicate 32 0) }).1))), 0)
  else (⟨#[]⟩, 71)
theorem enc_size (d : Dg) : (enc d).1.size ≤ 1200 := by
  unfold enc
  split
  · dsimp only
    split
    · exact Nat.zero_le _
    · split
      · exact Nat.zero_le _
      · rename_i h
        show ((putAll d (fieldsOf d.kind) (false, some ([74, 48, 49] ++ [UInt8.ofNat d.kind.toNat]))).2.getD []).length ≤ 1200
        omega
  · exact Nat.zero_le _
set_option maxHeartbeats 8000000 in
set_option maxRecDepth 100000 in
theorem seal_calls (d : Dg) (k : ByteArray) (w : World) (hg : GL w) (hd : d.ok) (hkd : -9223372036854775808 ≤ d.kind ∧ d.kind ≤ 9223372036854775807) (hk : k.size < 1099511627776) : Calls Tryz.prog 18 #[.agg d.cells.toArray, .string k] w fun e w' => e = .returned (.tuple #[.string (sealB d (bl k)).1, .int .i64 (sealB d (bl k)).2]) ∧ Below w.heap.size w w' := by
  have HG := Aside0.mk hg
  have HK := Aside0.mk hk
  have RC := Aside0.mk (show ∀ w, Calls Tryz.prog 44 #[.string ⟨#[0]⟩, .int .i64 32] w fun e w' => e = .returned (.string (str (List.replicate 32 0))) ∧ Below w.heap.size w w' from fun w => rep_calls 32 32 rfl (by omega) w)
  have TGC := Aside0.mk (show ∀ w, Calls Tryz.prog 35 #[.int .i64 d.kind] w fun e w' => e = .returned (.bool (decide (3 ≤ d.kind ∧ d.kind ≤ 7))) ∧ Below w.heap.size w w' from tagged_calls d.kind)
  by_cases h37 : 3 ≤ d.kind ∧ d.kind ≤ 7
  · obtain ⟨d2, ed2⟩ : ∃ d2, d2 = { d with tag := str (List.replicate 32 0) } := ⟨_, rfl⟩
    obtain ⟨s, es⟩ : ∃ s, s = (enc d2).1 := ⟨_, rfl⟩
    obtain ⟨c, ec⟩ : ∃ c, c = (enc d2).2 := ⟨_, rfl⟩
    have hok : d2.ok := by rw [ed2]; unfold Dg.ok at hd ⊢; exact ⟨hd.1, hd.2.1, hd.2.2.1, hd.2.2.2.1, hd.2.2.2.2.1, hd.2.2.2.2.2.1, hd.2.2.2.2.2.2.1, by show (List.replicate 32 (0 : UInt8)).length < _; rw [List.length_replicate]; omega⟩
    have hrow : d.cells.set 14 (.string (str (List.replicate 32 0))) = d2.cells := by rw [ed2]; rfl
    have EC := Aside0.mk (show ∀ w, Calls Tryz.prog 16 #[.agg d2.cells.toArray] w fun e w' => e = .returned (.tuple #[.string s, .int .i64 c]) ∧ Below w.heap.size w w' from fun w => by rw [es, ec]; exact encode_calls d2 hok (by rw [ed2]; exact hkd) w)
    have hss : s.size ≤ 1200 := by rw [es]; exact enc_size d2
    have ESB := Aside0.mk (show sealB d (bl k) = if c ≠ 0 then (⟨#[]⟩, c) else (str (bodyB (bl s) ++ hmac (bl k) (bodyB (bl s))), 0) from by unfold sealB; rw [if_pos h37, ← ed2, ← ec, ← es])
    rw [decide_eq_true h37] at TGC
    have HROW := Aside0.mk hrow
    clear es ec ed2 hok hrow h37
    obtain ⟨b, eb⟩ : ∃ b, b = str (bodyB (bl s)) := ⟨_, rfl⟩
    obtain ⟨m, em⟩ : ∃ m, m = str (hmac (bl k) (bodyB (bl s))) := ⟨_, rfl⟩
    have BC := Aside0.mk (show ∀ w, Calls Tryz.prog 12 #[.string s] w fun e w' => e = .returned (.string b) ∧ Below w.heap.size w w' from fun w => by
      have h := body_calls (bl s) (by rw [bl_len]; omega) w
      rw [str_bl, ← eb] at h
      exact h)
    have TC := Aside0.mk (show ∀ w, GL w → Calls Tryz.prog 23 #[.string k, .string b] w fun e w' => e = .returned (.string m) ∧ Below w.heap.size w w' from fun w hg => by
      have h := tag_calls k b w hg hk (by rw [eb]; have := body_len (bl s); rw [bl_len] at this; show (bodyB (bl s)).length < _; omega)
      rw [em]
      rw [show bl b = bodyB (bl s) by rw [eb]; rfl] at h
      exact h)
    have EBM := Aside0.mk (show str (bodyB (bl s) ++ hmac (bl k) (bodyB (bl s))) = b ++ m from by rw [eb, em]; apply ByteArray.ext; simp [str])
    have o3 : ¬ 9223372036854775807 < b.size + m.size := by
      have h1 : b.size ≤ s.size := by rw [eb]; have := body_len (bl s); rw [bl_len] at this; exact this
      have h2 : m.size = 32 := by rw [em]; exact length_sha _
      omega
    clear eb em hss hg hd hkd hk
    by_cases hc : c = 0
    · have ES2 := Aside0.mk (show sealB d (bl k) = (b ++ m, 0) from by rw [ESB.out, if_neg (by rw [hc]; decide), EBM.out])
      subst hc
      go_enter Tryz.func18, Tryz.ntmps18
      go_wp2_with (first
        | (refine wpList_box_v rfl 27 _ rfl d.cells rfl (by kernel_rfl) ?_; intro D w1 eD hD1 hb1 hz1; have c0 : w1.cell? ⟨D, 0, none⟩ = some (.int .i64 d.kind) := cell_of hD1.out rfl)
        | (go_at_call 35; (with_reducible refine (TGC.out w1).mono ?_); rintro e w2 ⟨rfl, hb2⟩; have HB2 := Aside0.mk (hb1.out.trans (hb2.mono hb1.out.size)); have HD2 := Aside0.mk ((hb2.block D (blk_lt hD1.out)).trans hD1.out); clear hb2)
        | (go_at_call 44; (with_reducible refine (RC.out _).mono ?_); rintro e w3 ⟨rfl, hb3⟩; have HB3 := Aside0.mk (HB2.out.trans (hb3.mono HB2.out.size)); have HD3 := Aside0.mk ((hb3.block D (blk_lt HD2.out)).trans HD2.out); have c14 : w3.cell? ⟨D, 14, none⟩ = some (.string d.tag) := cell_of HD3.out rfl; have f14 := Wd_thaw HD3.out 14; clear hb3)
        | (refine wpList_load_agg rfl 27 _ rfl D 0 rfl d2.cells (load_all (HROW.out ▸ set_of HD3.out 14 (.string (str (List.replicate 32 0))))) _ Tryz.underlying27 rfl (by kernel_rfl) ?_)
        | (go_at_call 16; (with_reducible refine (EC.out _).mono ?_); rintro e w4 ⟨rfl, hb4⟩; have HB4 := Aside0.mk (show Below w.heap.size w w4 from (below_set1 HB3.out (Nat.le_of_eq eD.out.symm) _).trans (hb4.mono (below_set1 HB3.out (Nat.le_of_eq eD.out.symm) _).size)); clear hb4)
        | (go_at_call 12; (with_reducible refine (BC.out _).mono ?_); rintro e w5 ⟨rfl, hb5⟩; have HB5 := Aside0.mk (HB4.out.trans (hb5.mono HB4.out.size)); clear hb5)
        | (go_at_call 23; (with_reducible refine (TC.out _ (gl_below HG.out HB5.out)).mono ?_); rintro e w6 ⟨rfl, hb6⟩; have HB6 := Aside0.mk (HB5.out.trans (hb6.mono HB5.out.size)); clear hb6))
      go_ret2
      rw [ES2.out]
      exact ⟨rfl, HB6.out⟩
    · have ES2 := Aside0.mk (show sealB d (bl k) = (⟨#[]⟩, c) from by rw [ESB.out, if_pos hc])
      have o1 : (c == 0) = false := beq_eq_false_iff_ne.mpr hc
      have o2 : (c != 0) = true := by simp [bne, o1]
      clear hc
      go_enter Tryz.func18, Tryz.ntmps18
      go_wp2_with (first
        | (refine wpList_box_v rfl 27 _ rfl d.cells rfl (by kernel_rfl) ?_; intro D w1 eD hD1 hb1 hz1; have c0 : w1.cell? ⟨D, 0, none⟩ = some (.int .i64 d.kind) := cell_of hD1.out rfl)
        | (go_at_call 35; (with_reducible refine (TGC.out w1).mono ?_); rintro e w2 ⟨rfl, hb2⟩; have HB2 := Aside0.mk (hb1.out.trans (hb2.mono hb1.out.size)); have HD2 := Aside0.mk ((hb2.block D (blk_lt hD1.out)).trans hD1.out); clear hb2)
        | (go_at_call 44; (with_reducible refine (RC.out _).mono ?_); rintro e w3 ⟨rfl, hb3⟩; have HB3 := Aside0.mk (HB2.out.trans (hb3.mono HB2.out.size)); have HD3 := Aside0.mk ((hb3.block D (blk_lt HD2.out)).trans HD2.out); have c14 : w3.cell? ⟨D, 14, none⟩ = some (.string d.tag) := cell_of HD3.out rfl; have f14 := Wd_thaw HD3.out 14; clear hb3)
        | (refine wpList_load_agg rfl 27 _ rfl D 0 rfl d2.cells (load_all (HROW.out ▸ set_of HD3.out 14 (.string (str (List.replicate 32 0))))) _ Tryz.underlying27 rfl (by kernel_rfl) ?_)
        | (go_at_call 16; (with_reducible refine (EC.out _).mono ?_); rintro e w4 ⟨rfl, hb4⟩; have HB4 := Aside0.mk (show Below w.heap.size w w4 from (below_set1 HB3.out (Nat.le_of_eq eD.out.symm) _).trans (hb4.mono (below_set1 HB3.out (Nat.le_of_eq eD.out.symm) _).size)); clear hb4))
      go_ret2
      rw [ES2.out]
      exact ⟨rfl, HB4.out⟩
  · have ES2 := Aside0.mk (show sealB d (bl k) = (⟨#[]⟩, 71) from if_neg h37)
    rw [decide_eq_false h37] at TGC
    clear h37 hg hd hkd hk
    go_enter Tryz.func18, Tryz.ntmps18
    go_wp2_with (first
      | (refine wpList_box_v rfl 27 _ rfl d.cells rfl (by kernel_rfl) ?_; intro D w1 eD hD1 hb1 hz1; have c0 : w1.cell? ⟨D, 0, none⟩ = some (.int .i64 d.kind) := cell_of hD1.out rfl)
      | (go_at_call 35; (with_reducible refine (TGC.out w1).mono ?_); rintro e w2 ⟨rfl, hb2⟩))
    go_ret2
    rw [ES2.out]
    exact ⟨rfl, hb1.out.trans (hb2.mono hb1.out.size)⟩
end Go.Proofs.YtniabkphbnimaaaGreatDoor.Sh
namespace Go.Proofs.YtniabkphbnimaaaGreatDoor.Sh
open Go Go.RowKit Go.Maps Go.Proofs.YtniabkphbnimaaaGreatDoorW.PrintWords Go.Proofs.YtniabkphbnimaaaGreatDoorW.PrintLast Go.Proofs.YtniabkphbnimaaaGreatDoor.Bs
@[reducible] def dk (k : Nat) : Dg := { Dg.zero with kind := (k : Int) }
/-- What comes behind the fields. -/
def fin (o : Option (Dg × Bool × List UInt8)) : Dg × Int :=
  match o with
  | none => (.zero, 72)
  | some (d, bad, r) => if r ≠ [] then (.zero, 72) else if bad = true then (.zero, 73) else (d, 0)
theorem nil_drop (t : List UInt8) (n : Nat) : t.drop n ≠ [] ↔ n < t.length := by
  rw [Ne, List.drop_eq_nil_iff]
  omega
theorem dec5 (t : List UInt8) : fin (getAll (fieldsOf 5) (dk 5, false, t)) = if t.length = 51 then (if 3 < (t.getD 18 0).toNat then (.zero, 73) else ({ dk 5 with session := num (t.take 8), seq := num ((t.drop 8).take 8), thr := sbyte (t.getD 16 0), trn := sbyte (t.getD 17 0), fire := bit0 (t.getD 18 0), boost := bit1 (t.getD 18 0), tag := str ((t.drop 19).take 32) }, 0)) else (.zero, 72) := by
  show fin (getAll [.session, .seq, .command, .tag] (dk 5, false, t)) = _
  simp only [getAll, getF]
  by_cases h1 : 8 ≤ t.length
  · rw [if_pos h1]
    simp only [Option.bind_some, List.length_drop, List.drop_drop]
    by_cases h2 : 8 ≤ t.length - 8
    · rw [if_pos h2]
      simp only [Option.bind_some, List.length_drop, List.drop_drop]
      by_cases h4 : 19 ≤ t.length
      · have e : t.drop (8 + 8) = t.getD 16 0 :: t.getD 17 0 :: t.getD 18 0 :: t.drop 19 := by
          rw [show 8 + 8 = 16 from rfl, List.drop_eq_getElem_cons (by omega), List.drop_eq_getElem_cons (i := 16 + 1) (by omega), List.drop_eq_getElem_cons (i := 16 + 1 + 1) (by omega)]
          simp only [List.getD_eq_getElem?_getD]
          rw [List.getElem?_eq_getElem (i := 16) (by omega), List.getElem?_eq_getElem (i := 17) (by omega), List.getElem?_eq_getElem (i := 18) (by omega)]
          rfl
        rw [e]
        simp only [Option.bind_some, List.length_drop, List.drop_drop]
        by_cases h5 : 32 ≤ t.length - 19
        · rw [if_pos h5]
          simp only [Option.bind_some, fin]
          by_cases h7 : t.length = 51
          · rw [if_pos h7, if_neg (by rw [nil_drop]; omega)]
            simp only [decide_eq_true_eq]
          · rw [if_neg h7, if_pos (by rw [nil_drop]; omega)]
        · rw [if_neg h5, if_neg (by omega)]
          rfl
      · have e : (match t.drop (8 + 8) with | a :: b :: c :: t => some (({ { { dk 5 with session := num (t.take 8) } with seq := num ((t.drop 8).take 8) } with thr := sbyte a, trn := sbyte b, fire := bit0 c, boost := bit1 c } : Dg), decide (3 < c.toNat), t) | _ => none) = none := by
          have hl : (t.drop (8 + 8)).length ≤ 2 := by rw [List.length_drop]; omega
          match h : t.drop (8 + 8), hl with
          | [], _ => rfl
          | [_], _ => rfl
          | [_, _], _ => rfl
        have hl : (t.drop (8 + 8)).length ≤ 2 := by rw [List.length_drop]; omega
        rw [if_neg (by omega)]
        match h : t.drop (8 + 8), hl with
        | [], _ => rfl
        | [_], _ => rfl
        | [_, _], _ => rfl
    · rw [if_neg h2, if_neg (by omega)]
      rfl
  · rw [if_neg h1, if_neg (by omega)]
    rfl
theorem dec_at (k : UInt8) (t : List UInt8) (h : (74 :: 48 :: 49 :: k :: t : List UInt8).length ≤ 1200) (hk : 1 ≤ k.toNat ∧ k.toNat ≤ 7) : dec (74 :: 48 :: 49 :: k :: t) = fin (getAll (fieldsOf (k.toNat : Int)) (dk k.toNat, false, t)) := by
  unfold dec
  rw [if_neg (by omega), if_pos (show List.take 3 (74 :: 48 :: 49 :: k :: t : List UInt8) = [74, 48, 49] from rfl)]
  show (if 1 ≤ (k.toNat : Int) ∧ (k.toNat : Int) ≤ 7 then _ else _) = _
  rw [if_pos (by omega)]
  rfl
end Go.Proofs.YtniabkphbnimaaaGreatDoor.Sh
namespace Go.Proofs.YtniabkphbnimaaaGreatDoor.Sh
open Go Go.RowKit Go.Maps Go.Proofs.YtniabkphbnimaaaGreatDoorW.PrintWords Go.Proofs.YtniabkphbnimaaaGreatDoorW.PrintLast Go.Proofs.YtniabkphbnimaaaGreatDoor.Bs
theorem beq_dec (a b : Int) (p : Prop) [Decidable p] (h : a = b ↔ p) : (a == b) = decide p := by
  rw [Bool.eq_iff_iff]
  simp [h]
end Go.Proofs.YtniabkphbnimaaaGreatDoor.Sh
namespace Go.Proofs.YtniabkphbnimaaaGreatDoor.Bs
open Go Go.RowKit Go.Maps Go.Proofs.YtniabkphbnimaaaGreatDoorW.PrintWords Go.Proofs.YtniabkphbnimaaaGreatDoorW.PrintLast Go.Proofs.YtniabkphbnimaaaGreatDoor.Sh
section
variable {P : Program} {ops : Array Oper} {rest : List Oper} {a : Act} {w : World} {Q : Exit → Act → World → Prop} {d : Option Tmp} {ty : TypeId} {pos : String} {af : Array Edge} {g : Option (Tmp × Bool)}
theorem at_load_ {t : TypeId} {x : Operand} (h : wpList P ops Q (⟨d, .load t x, ty, pos, af, g⟩ :: rest) a w) : wpList P ops Q (⟨d, .load t x, ty, pos, af, g⟩ :: rest) a w := h
theorem at_store_ {t : TypeId} {x y : Operand} (h : wpList P ops Q (⟨d, .store t x y, ty, pos, af, g⟩ :: rest) a w) : wpList P ops Q (⟨d, .store t x y, ty, pos, af, g⟩ :: rest) a w := h
theorem at_add_ {t t2 : TypeId} {x y : Operand} (h : wpList P ops Q (⟨d, .binOp .add t x y t2, ty, pos, af, g⟩ :: rest) a w) : wpList P ops Q (⟨d, .binOp .add t x y t2, ty, pos, af, g⟩ :: rest) a w := h
theorem at_conv_ {t u : TypeId} {x : Operand} (h : wpList P ops Q (⟨d, .convert t u x, ty, pos, af, g⟩ :: rest) a w) : wpList P ops Q (⟨d, .convert t u x, ty, pos, af, g⟩ :: rest) a w := h
theorem at_bs_ {t : TypeId} {n : Nat} {ps : Array (Nat × Operand)} (h : wpList P ops Q (⟨d, .buildSlice t n ps, ty, pos, af, g⟩ :: rest) a w) : wpList P ops Q (⟨d, .buildSlice t n ps, ty, pos, af, g⟩ :: rest) a w := h
theorem at_mk_ {t : TypeId} {x y : Operand} (h : wpList P ops Q (⟨d, .makeSlice t x y, ty, pos, af, g⟩ :: rest) a w) : wpList P ops Q (⟨d, .makeSlice t x y, ty, pos, af, g⟩ :: rest) a w := h
theorem at_box_ {t : TypeId} {x : Operand} (h : wpList P ops Q (⟨d, .box t x, ty, pos, af, g⟩ :: rest) a w) : wpList P ops Q (⟨d, .box t x, ty, pos, af, g⟩ :: rest) a w := h
theorem at_alloc_ {t : TypeId} (h : wpList P ops Q (⟨d, .alloc t, ty, pos, af, g⟩ :: rest) a w) : wpList P ops Q (⟨d, .alloc t, ty, pos, af, g⟩ :: rest) a w := h
end
section
variable {P : Program} {ops : Array Oper} {rest : List Oper} {o : Oper} {a : Act} {w : World} {Q : Exit → Act → World → Prop}
theorem str_cat (l m : List UInt8) : str l ++ str m = str (l ++ m) := by
  apply ByteArray.ext
  simp [str]
theorem wp_cat {K : Act → World → Prop} (t t2 : TypeId) (x y : Operand) (ho : o.op = .binOp .add t x y t2) (l m : List UInt8) (hx : a.eval x = .string (str l)) (hy : a.eval y = .string (str m)) (hs : l.length + m.length ≤ 9223372036854775807)
    (h : K (a.put o.dst (.string (str (l ++ m)))) w) : Oper.wp P o a w K Q := by
  have hrun := run_string_add_sum (P := P) w (str l) (str m) hs
  unfold Oper.wp execOp
  simp only [ho, hx, hy, Sem.run_bind, eqGuard_add, binOp_string_add, hrun, Result.andThen_ok, Sem.run_pure, str_cat]
  exact h
theorem wpList_cat (hgd : o.guard = none) (t t2 : TypeId) (x y : Operand) (ho : o.op = .binOp .add t x y t2) (l m : List UInt8) (hx : a.eval x = .string (str l)) (hy : a.eval y = .string (str m)) (hs : l.length + m.length ≤ 9223372036854775807)
    (h : wpList P ops Q rest (a.put o.dst (.string (str (l ++ m)))) w) : wpList P ops Q (o :: rest) a w :=
  wpList_plain hgd fun K hK => wp_cat t t2 x y ho l m hx hy hs (hK _ _ h)
theorem cat_yields (t t2 : TypeId) (x y : Operand) (ho : o.op = .binOp .add t x y t2) (l m : List UInt8) (hx : a.eval x = .string (str l)) (hy : a.eval y = .string (str m)) (hs : l.length + m.length ≤ 9223372036854775807) (w : World) :
    (execOp a.eval o).run P w = .ok (.value (.string (str (l ++ m)))) w := by
  have hrun := run_string_add_sum (P := P) w (str l) (str m) hs
  unfold execOp
  simp only [ho, hx, hy, Sem.run_bind, eqGuard_add, binOp_string_add, hrun, Result.andThen_ok, Sem.run_pure, str_cat]
theorem run_load_one (w : World) (ty : TypeId) (g off : Nat) (cs : List Value) (t : TypeId) (fr : Nat × Nat) (hg : w.heap[g]? = some (.cells cs.toArray t fr)) (v : Value) (hv : cs[off]? = some v) (d : TypeDesc) (hu : P.underlying ty = some d) (hd : (match d with | .struct _ | .array _ _ => true | _ => false) = false) :
    (Instr.loadAt ty (.pointer (some ⟨g, off, none⟩))).run P w = .ok v w := by
  have hcell : w.cell? ⟨g, off, none⟩ = some v := by simp [World.cell?, hg, hv]
  have hagg : (isAgg ty).run P w = .ok false w := by
    unfold isAgg
    rw [Sem.run_bind, run_underlying hu w]
    cases d <;> simp_all
  have hl : (load (⟨g, off, none⟩ : Addr)).run P w = .ok v w := by rw [run_load, hcell]
  simp [Instr.loadAt, Instr.sureAddr, loadVar, Sem.run_bind, hagg, hcell]
theorem wp_load_one {K : Act → World → Prop} (ty : TypeId) (x : Operand) (ho : o.op = .load ty x) (g off : Nat) (hx : a.eval x = .pointer (some ⟨g, off, none⟩)) (cs : List Value) (t : TypeId) (fr : Nat × Nat) (hg : w.heap[g]? = some (.cells cs.toArray t fr)) (v : Value) (hv : cs[off]? = some v) (d : TypeDesc) (hu : P.underlying ty = some d) (hd : (match d with | .struct _ | .array _ _ => true | _ => false) = false)
    (h : K (a.put o.dst v) w) : Oper.wp P o a w K Q := by
  unfold Oper.wp execOp
  simp only [ho, hx, Sem.run_bind, run_load_one (P := P) w ty g off cs t fr hg v hv d hu hd, Result.andThen_ok, Sem.run_pure]
  exact h
theorem wpList_load_one (hgd : o.guard = none) (ty : TypeId) (x : Operand) (ho : o.op = .load ty x) (g off : Nat) (hx : a.eval x = .pointer (some ⟨g, off, none⟩)) (cs : List Value) (t : TypeId) (fr : Nat × Nat) (hg : w.heap[g]? = some (.cells cs.toArray t fr)) (v : Value) (hv : cs[off]? = some v) (d : TypeDesc) (hu : P.underlying ty = some d) (hd : (match d with | .struct _ | .array _ _ => true | _ => false) = false)
    (h : wpList P ops Q rest (a.put o.dst v) w) : wpList P ops Q (o :: rest) a w :=
  wpList_plain hgd fun K hK => wp_load_one ty x ho g off hx cs t fr hg v hv d hu hd (hK _ _ h)
end
end Go.Proofs.YtniabkphbnimaaaGreatDoor.Bs
namespace Go.Proofs.YtniabkphbnimaaaGreatDoor.Sh
open Go Go.RowKit Go.Maps Go.Proofs.YtniabkphbnimaaaGreatDoorW.PrintWords Go.Proofs.YtniabkphbnimaaaGreatDoorW.PrintLast Go.Proofs.YtniabkphbnimaaaGreatDoor.Bs
theorem len_st (k x : Nat) (hx : x < 18446744073709551616) (l : List Int) (i : Nat) (ii : Int) (hii : ii = (i : Int)) (hi : i < l.length) (h8 : i < 8) : QQA.joustref02_Length.l0 (k + 1) (x : Int) l ii = QQA.joustref02_Length.l0 k ((x / 256 : Nat) : Int) (l.set i ((x % 256 : Nat) : Int)) ((i : Int) - 1) := by
  subst hii
  have e1 : IntKind.u64.wrap (Int.tdiv (x : Int) 256) = ((x / 256 : Nat) : Int) := by
    rw [show Int.tdiv (x : Int) 256 = ((x / 256 : Nat) : Int) from rfl, wrap_u64]
    omega
  have e2 : (Int.tmod (x : Int) 256) % 256 = ((x % 256 : Nat) : Int) := by
    rw [show Int.tmod (x : Int) 256 = ((x % 256 : Nat) : Int) from rfl]
    omega
  have e3 : wrap64 ((i : Int) - 1) = (i : Int) - 1 := by unfold wrap64; omega
  rw [QQA.joustref02_Length.l0, if_pos (by omega), if_pos (by omega), if_pos (by omega), e1, e2, e3, Int.toNat_natCast]
theorem u8_mod (n : Nat) : UInt8.ofNat (n % 256) = UInt8.ofNat n := by
  apply UInt8.toNat_inj.mp
  simp
theorem length_f (x : Nat) (hx : x < 18446744073709551616) : QQA.joustref02_Length.f 9 (x : Int) = some (str (len8 x)) := by
  unfold QQA.joustref02_Length.f
  rw [if_pos (by decide), len_st 8 x hx (List.replicate 8 0) 7 7 rfl (by decide) (by decide)]
  rw [len_st 7 _ (by omega) _ 6 (((7 : Nat) : Int) - 1) (by decide) (by simp) (by decide)]
  rw [len_st 6 _ (by omega) _ 5 (((6 : Nat) : Int) - 1) (by decide) (by simp) (by decide)]
  rw [len_st 5 _ (by omega) _ 4 (((5 : Nat) : Int) - 1) (by decide) (by simp) (by decide)]
  rw [len_st 4 _ (by omega) _ 3 (((4 : Nat) : Int) - 1) (by decide) (by simp) (by decide)]
  rw [len_st 3 _ (by omega) _ 2 (((3 : Nat) : Int) - 1) (by decide) (by simp) (by decide)]
  rw [len_st 2 _ (by omega) _ 1 (((2 : Nat) : Int) - 1) (by decide) (by simp) (by decide)]
  rw [len_st 1 _ (by omega) _ 0 (((1 : Nat) : Int) - 1) (by decide) (by simp) (by decide)]
  rw [QQA.joustref02_Length.l0, if_neg (by decide)]
  congr 1
  show strOfNums [((x / 256 / 256 / 256 / 256 / 256 / 256 / 256 % 256 : Nat) : Int), ((x / 256 / 256 / 256 / 256 / 256 / 256 % 256 : Nat) : Int), ((x / 256 / 256 / 256 / 256 / 256 % 256 : Nat) : Int), ((x / 256 / 256 / 256 / 256 % 256 : Nat) : Int), ((x / 256 / 256 / 256 % 256 : Nat) : Int), ((x / 256 / 256 % 256 : Nat) : Int), ((x / 256 % 256 : Nat) : Int), ((x % 256 : Nat) : Int)] = _
  unfold strOfNums str len8
  simp only [List.map_cons, List.map_nil, Int.toNat_natCast, u8_mod, Nat.shiftRight_eq_div_pow, Nat.div_div_eq_div_mul]
theorem length_calls (x : Nat) (hx : x < 18446744073709551616) (w : World) : Calls Tryz.prog 43 #[.int .u64 (x : Int)] w fun e w' => e = .returned (.string (str (len8 x))) ∧ Below w.heap.size w w' :=
  (QQA.joustref02_Length.calls _ _ _ w (length_f x hx)).mono fun e w' hh => ⟨hh.1, hh.2⟩
/-- Does each field that the kind has fit its place? -/
def fitP (d : Dg) : Prop := (d.kind ≤ 4 → d.nonce.size = 16) ∧ ((d.kind = 2 ∨ d.kind = 3) → d.cookie.size = 32) ∧ (d.kind = 3 → d.name.size ≤ 255) ∧ (d.kind = 4 → d.salt.size = 16 ∧ 0 ≤ d.player ∧ d.player ≤ 255) ∧ (d.kind = 5 → -128 ≤ d.thr ∧ d.thr ≤ 127 ∧ -128 ≤ d.trn ∧ d.trn ≤ 127) ∧ (3 ≤ d.kind → d.tag.size = 32)
instance (d : Dg) : Decidable (fitP d) := by unfold fitP; exact inferInstance
def sg (x : Int) : UInt8 := UInt8.ofNat (x % 256).toNat
/-- The bytes behind the head. -/
def tailB (d : Dg) : List UInt8 :=
  if d.kind = 1 then bl d.nonce ++ List.replicate 76 0
  else if d.kind = 2 then bl d.nonce ++ len8 d.epoch ++ bl d.cookie
  else if d.kind = 3 then bl d.nonce ++ len8 d.epoch ++ bl d.cookie ++ (UInt8.ofNat d.name.size :: bl d.name) ++ bl d.tag
  else if d.kind = 4 then bl d.nonce ++ len8 d.session ++ [UInt8.ofNat d.player.toNat] ++ bl d.salt ++ bl d.tag
  else if d.kind = 5 then len8 d.session ++ len8 d.seq ++ [sg d.thr, sg d.trn, UInt8.ofNat (flags d.fire d.boost)] ++ bl d.tag
  else if d.kind = 6 then len8 d.session ++ len8 d.seq ++ bl d.data ++ bl d.tag
  else len8 d.session ++ len8 d.seq ++ bl d.tag
def encB (d : Dg) : List UInt8 := 74 :: 48 :: 49 :: UInt8.ofNat d.kind.toNat :: tailB d
def encK (d : Dg) : ByteArray × Int := if fitP d then (if 1200 < (encB d).length then (⟨#[]⟩, 72) else (str (encB d), 0)) else (⟨#[]⟩, 73)
theorem enc_out (d : Dg) (b : Bool) (r : Option (List UInt8)) (h1 : 1 ≤ d.kind ∧ d.kind ≤ 7) (hr : putAll d (fieldsOf d.kind) (false, some ([74, 48, 49] ++ [UInt8.ofNat d.kind.toNat])) = (b, r)) (h : fitP d → b = false ∧ r = some (encB d)) (hn : ¬ fitP d → b = true ∨ r = none) : enc d = encK d := by
  unfold enc encK
  rw [if_pos h1, hr]
  dsimp only
  by_cases hf : fitP d
  · obtain ⟨rfl, rfl⟩ := h hf
    rw [if_pos hf, if_neg (by simp)]
    rfl
  · rw [if_neg hf, if_pos (by rcases hn hf with rfl | rfl <;> simp)]
theorem enc_k (d : Dg) (h1 : 1 ≤ d.kind ∧ d.kind ≤ 7) : enc d = encK d := by
  obtain ⟨kind, nonce, epoch, cookie, name, session, player, salt, seq, thr, trn, fire, boost, data, tag⟩ := d
  simp only at h1
  have hk : kind = 1 ∨ kind = 2 ∨ kind = 3 ∨ kind = 4 ∨ kind = 5 ∨ kind = 6 ∨ kind = 7 := by omega
  rcases hk with rfl | rfl | rfl | rfl | rfl | rfl | rfl
  · refine enc_out _ _ _ h1 rfl ?_ ?_
    · intro h
      have c1 : nonce.size = 16 := h.1 (by simp)
      refine ⟨by simp [putF, c1], ?_⟩
      simp [encB, tailB, putF]
    · intro h
      refine Or.inl ?_
      by_cases c1 : nonce.size = 16
      · exact absurd ⟨fun _ => c1, fun h => by simp at h, fun h => by simp at h, fun h => by simp at h, fun h => by simp at h, fun h => by simp at h⟩ h
      · simp [putF, c1]
  · refine enc_out _ _ _ h1 rfl ?_ ?_
    · intro h
      have c1 : nonce.size = 16 := h.1 (by simp)
      have c2 : cookie.size = 32 := h.2.1 (by simp)
      refine ⟨by simp [putF, c1, c2], ?_⟩
      simp [encB, tailB, putF]
    · intro h
      refine Or.inl ?_
      by_cases c1 : nonce.size = 16
      · by_cases c2 : cookie.size = 32
        · exact absurd ⟨fun _ => c1, fun _ => c2, fun h => by simp at h, fun h => by simp at h, fun h => by simp at h, fun h => by simp at h⟩ h
        · simp [putF, c2]
      · simp [putF, c1]
  · refine enc_out _ _ _ h1 rfl ?_ ?_
    · intro h
      have c1 : nonce.size = 16 := h.1 (by simp)
      have c2 : cookie.size = 32 := h.2.1 (by simp)
      have c3 : name.size ≤ 255 := h.2.2.1 rfl
      have c4 : tag.size = 32 := h.2.2.2.2.2 (by simp)
      refine ⟨by simp [putF, c1, c2, c4], ?_⟩
      simp [encB, tailB, putF, txt, bl_len, c3]
    · intro h
      by_cases c3 : name.size ≤ 255
      · refine Or.inl ?_
        by_cases c1 : nonce.size = 16
        · by_cases c2 : cookie.size = 32
          · by_cases c4 : tag.size = 32
            · exact absurd ⟨fun _ => c1, fun _ => c2, fun _ => c3, fun h => by simp at h, fun h => by simp at h, fun _ => c4⟩ h
            · simp [putF, c4]
          · simp [putF, c2]
        · simp [putF, c1]
      · refine Or.inr ?_
        simp [putF, txt, bl_len, c3]
  · refine enc_out _ _ _ h1 rfl ?_ ?_
    · intro h
      have c1 : nonce.size = 16 := h.1 (by simp)
      have c2 := h.2.2.2.1 rfl
      simp only at c2
      have c4 : tag.size = 32 := h.2.2.2.2.2 (by simp)
      refine ⟨by simp [putF, c1, c2.1, c4]; omega, ?_⟩
      simp [encB, tailB, putF, one, show 0 ≤ player ∧ player < 256 by omega]
    · intro h
      by_cases c3 : 0 ≤ player ∧ player < 256
      · refine Or.inl ?_
        by_cases c1 : nonce.size = 16
        · by_cases c2 : salt.size = 16
          · by_cases c4 : tag.size = 32
            · exact absurd ⟨fun _ => c1, fun h => by simp at h, fun h => by simp at h, fun _ => ⟨c2, c3.1, by show player ≤ 255; omega⟩, fun h => by simp at h, fun _ => c4⟩ h
            · simp [putF, c4]
          · simp [putF, c2]
        · simp [putF, c1]
      · refine Or.inr ?_
        simp [putF, one, c3]
  · refine enc_out _ _ _ h1 rfl ?_ ?_
    · intro h
      have c2 := h.2.2.2.2.1 rfl
      simp only at c2
      have c4 : tag.size = 32 := h.2.2.2.2.2 (by simp)
      refine ⟨by simp [putF, c4], ?_⟩
      simp [encB, tailB, putF, sgn, sg, show -128 ≤ thr ∧ thr ≤ 127 by omega, show -128 ≤ trn ∧ trn ≤ 127 by omega]
    · intro h
      by_cases c1 : -128 ≤ thr ∧ thr ≤ 127
      · by_cases c2 : -128 ≤ trn ∧ trn ≤ 127
        · refine Or.inl ?_
          by_cases c4 : tag.size = 32
          · exact absurd ⟨fun h => by simp at h, fun h => by simp at h, fun h => by simp at h, fun h => by simp at h, fun _ => ⟨c1.1, c1.2, c2.1, c2.2⟩, fun _ => c4⟩ h
          · simp [putF, c4]
        · refine Or.inr ?_
          simp [putF, sgn, c2]
      · refine Or.inr ?_
        simp [putF, sgn, c1]
  · refine enc_out _ _ _ h1 rfl ?_ ?_
    · intro h
      have c4 : tag.size = 32 := h.2.2.2.2.2 (by simp)
      refine ⟨by simp [putF, c4], ?_⟩
      simp [encB, tailB, putF]
    · intro h
      refine Or.inl ?_
      by_cases c4 : tag.size = 32
      · exact absurd ⟨fun h => by simp at h, fun h => by simp at h, fun h => by simp at h, fun h => by simp at h, fun h => by simp at h, fun _ => c4⟩ h
      · simp [putF, c4]
  · refine enc_out _ _ _ h1 rfl ?_ ?_
    · intro h
      have c4 : tag.size = 32 := h.2.2.2.2.2 (by simp)
      refine ⟨by simp [putF, c4], ?_⟩
      simp [encB, tailB, putF]
    · intro h
      refine Or.inl ?_
      by_cases c4 : tag.size = 32
      · exact absurd ⟨fun h => by simp at h, fun h => by simp at h, fun h => by simp at h, fun h => by simp at h, fun h => by simp at h, fun _ => c4⟩ h
      · simp [putF, c4]
end Go.Proofs.YtniabkphbnimaaaGreatDoor.Sh
namespace Go.Proofs.YtniabkphbnimaaaGreatDoor.Sh
open Go Go.RowKit Go.Maps Go.Proofs.YtniabkphbnimaaaGreatDoorW.PrintWords Go.Proofs.YtniabkphbnimaaaGreatDoorW.PrintLast Go.Proofs.YtniabkphbnimaaaGreatDoor.Bs
set_option maxHeartbeats 2000000 in
theorem fits_f (d : Dg) (h1 : 1 ≤ d.kind ∧ d.kind ≤ 7) : QQA.joustref07_fits.f 5 d.kind d.nonce d.epoch d.cookie d.name d.session d.player d.salt d.seq d.thr d.trn d.fire d.boost d.data d.tag = some (decide (fitP d)) := by
  obtain ⟨kind, nonce, epoch, cookie, name, session, player, salt, seq, thr, trn, fire, boost, data, tag⟩ := d
  simp only at h1 ⊢
  have hk : kind = 1 ∨ kind = 2 ∨ kind = 3 ∨ kind = 4 ∨ kind = 5 ∨ kind = 6 ∨ kind = 7 := by omega
  rcases hk with rfl | rfl | rfl | rfl | rfl | rfl | rfl <;> simp [QQA.joustref07_fits.f, QQA.joustref07_fits.j0, QQA.joustref07_fits.j1, QQA.joustref07_fits.j2, fitP]
  all_goals (try rw [beq_dec (tag.size : Int) 32 (tag.size = 32) (by omega)])
  all_goals (repeat' split)
  all_goals first | done | rfl | (refine congrArg some ?_; rw [Bool.eq_iff_iff]; simp only [Bool.and_eq_true, decide_eq_true_eq, Bool.false_eq_true, true_iff, false_iff]; omega)
theorem fits_calls (d : Dg) (h1 : 1 ≤ d.kind ∧ d.kind ≤ 7) (w : World) : Calls Tryz.prog 42 #[.agg d.cells.toArray] w fun e w' => e = .returned (.bool (decide (fitP d))) ∧ Below w.heap.size w w' :=
  (QQA.joustref07_fits.calls _ _ _ _ _ _ _ _ _ _ _ _ _ _ _ _ _ w (fits_f d h1)).mono fun e w' hh => ⟨hh.1, hh.2⟩
end Go.Proofs.YtniabkphbnimaaaGreatDoor.Sh
namespace Go.Proofs.YtniabkphbnimaaaGreatDoor.Sh
open Go Go.RowKit Go.Maps Go.Proofs.YtniabkphbnimaaaGreatDoorW.PrintWords Go.Proofs.YtniabkphbnimaaaGreatDoorW.PrintLast Go.Proofs.YtniabkphbnimaaaGreatDoor.Bs
/-- A datagram by the lists of its texts. -/
@[reducible] def dgr (k : Int) (nn ck nm sa da tg : List UInt8) (ep se sq : Nat) (pl th tr : Int) (fi bo : Bool) : Dg := ⟨k, str nn, ep, str ck, str nm, se, pl, str sa, sq, th, tr, fi, bo, str da, str tg⟩
theorem bytes_row1 {w : World} {b : Nat} {x : UInt8} {t : TypeId} {fr : Nat × Nat} (h : w.heap[b]? = some (.cells [Value.int .u8 (x.toNat : Int)].toArray t fr)) : BytesIn w (some ⟨b, 0, none⟩) [x] := bytes_of_row (l := [x]) h
theorem bytes_row3 {w : World} {b : Nat} {x y z : UInt8} {t : TypeId} {fr : Nat × Nat} (h : w.heap[b]? = some (.cells [Value.int .u8 (x.toNat : Int), Value.int .u8 (y.toNat : Int), Value.int .u8 (z.toNat : Int)].toArray t fr)) : BytesIn w (some ⟨b, 0, none⟩) [x, y, z] := bytes_of_row (l := [x, y, z]) h
def T_17_10 : Bool × List (List Nat × List Nat) := (true, [([], []), ([], []), ([1], [1]), ([2], [2]), ([0, 3], [0, 3]), ([], []), ([5], [5]), ([6, 3], [6]), ([4, 7], [4, 7]), ([8, 7, 0, 1, 2, 3, 4, 5, 6, 7, 8], [0, 8])])
def B_17_10 : List Nat := [0, 0, 2, 6, 15, 0, 32, 110, 255, 511]
theorem tab_f17_10 : rtab .any (opsOf Tryz.f17 10) = T_17_10 := by kernel_rfl
theorem bits_f17_10 : waitsOk T_17_10.2 B_17_10 = true := by kernel_rfl
set_option maxHeartbeats 8000000 in
set_option maxRecDepth 100000 in
theorem renc_1 (nn ck nm sa da tg : List UInt8) (ep se sq : Nat) (pl th tr : Int) (fi bo : Bool) (hn : nn.length = 16) (hf : ∀ w, Calls Tryz.prog 42 #[.agg (dgr 1 nn ck nm sa da tg ep se sq pl th tr fi bo).cells.toArray] w fun e w' => e = .returned (.bool true) ∧ Below w.heap.size w w') (w : World) :
    Calls Tryz.prog 17 #[.agg (dgr 1 nn ck nm sa da tg ep se sq pl th tr fi bo).cells.toArray] w fun e w' => e = .returned (.tuple #[.string (str ([74, 48, 49] ++ [1] ++ nn ++ List.replicate 76 0)), .int .i64 0]) ∧ Below w.heap.size w w' := by
  obtain ⟨z, ez⟩ : ∃ z : List UInt8, z = List.replicate 76 0 := ⟨_, rfl⟩
  have HS := Aside0.mk (show nn.length = 16 ∧ z.length = 76 from ⟨hn, by rw [ez, List.length_replicate]⟩)
  have FC := Aside0.mk hf
  clear hf
  rw [← ez]
  have HZ := Aside0.mk ez
  clear ez hn
  go_enter Tryz.func17, Tryz.ntmps17
  go_upto_region 30 with (first
    | ((with_reducible first | refine at_box_ ?_ | refine at_box2_ ?_); refine wpList_box_v rfl 27 _ rfl (dgr 1 nn ck nm sa da tg ep se sq pl th tr fi bo).cells rfl (by kernel_rfl) ?_; intro D w1 eD hD1 hb1 hz1; have HD := Aside0.mk (show w1.heap[D]? = some (.cells (dgr 1 nn ck nm sa da tg ep se sq pl th tr fi bo).cells.toArray 27 (0, 0)) from hD1.out); have HB := Aside0.mk (show Below w.heap.size w w1 from hb1.out); clear hD1 hb1 hz1 eD; have cK := cell_of (i := 0) (v := .int .i64 1) HD.out rfl)
    | ((with_reducible first | refine at_load_ ?_ | refine at_load2_ ?_); refine wpList_load_agg rfl 27 _ rfl D 0 rfl (dgr 1 nn ck nm sa da tg ep se sq pl th tr fi bo).cells (load_all HD.out) _ Tryz.underlying27 rfl (by kernel_rfl) ?_)
    | (go_at_call 42; (with_reducible refine (FC.out _).mono ?_); rintro e w2 ⟨rfl, hb2⟩; have n1_ := Aside0.mk ((hb2.block D (blk_lt HD.out)).trans HD.out); have n2_ := Aside0.mk (Below.trans (by first | exact HB.out | exact below_drew1 HB.out) (hb2.mono HB.out.size)); (try (have n3_ := Aside0.mk ((hb2.block g (blk_lt HGR.out)).trans HGR.out); clear HGR; have HGR := n3_; clear n3_)); clear HD HB hb2; have HD := n1_; have HB := n2_; clear n1_ n2_; (try clear cK); have cK := cell_of (i := 0) (v := .int .i64 1) HD.out rfl)
    | ((with_reducible first | refine at_load_ ?_ | refine at_load2_ ?_); refine wpList_load_one rfl 3 _ rfl D 0 rfl (dgr 1 nn ck nm sa da tg ep se sq pl th tr fi bo).cells _ _ HD.out _ rfl _ Tryz.underlying3 rfl ?_)
    | ((with_reducible first | refine at_bs_ ?_ | refine at_bs2_ ?_); refine wpList_buildSlice_v rfl 39 5 1 _ rfl Tryz.underlying39 [.int .u8 1] (by kernel_rfl) ?_; intro g w3 eg hg3 hb3' hz3; have hb3 := hb3'.out; have n1_ := Aside0.mk ((hb3.block D (blk_lt HD.out)).trans HD.out); have n2_ := Aside0.mk (Below.trans (by first | exact HB.out | exact below_drew1 HB.out) (hb3.mono HB.out.size)); (try (have n3_ := Aside0.mk ((hb3.block g (blk_lt HGR.out)).trans HGR.out); clear HGR; have HGR := n3_; clear n3_)); clear HD HB hb3; have HD := n1_; have HB := n2_; clear n1_ n2_; (try clear cK); have cK := cell_of (i := 0) (v := .int .i64 1) HD.out rfl; have HGR := Aside0.mk (show w3.heap[g]? = some (.cells [Value.int .u8 ((1 : UInt8).toNat : Int)].toArray 5 (0, 0)) from hg3.out); clear hg3 hb3' hz3 eg)
    | ((with_reducible first | refine at_conv_ ?_ | refine at_conv2_ ?_); refine wpList_string_of rfl _ _ 5 _ rfl (some ⟨g, 0, none⟩) 1 1 rfl [1] rfl (bytes_row1 (x := 1) HGR.out) Tryz.underlying39 (by kernel_rfl) Tryz.underlying5 ?_; clear HGR)
    | ((with_reducible first | refine at_add_ ?_ | refine at_add2_ ?_); refine wpList_cat rfl _ _ _ _ rfl _ _ rfl rfl (by simp only [List.length_append, List.length_cons, List.length_nil, List.length_replicate, len8_len]; have := HS.out; omega) ?_)
    | ((with_reducible first | refine at_load_ ?_ | refine at_load2_ ?_); refine wpList_load_one rfl 9 _ rfl D 1 rfl (dgr 1 nn ck nm sa da tg ep se sq pl th tr fi bo).cells _ _ HD.out _ rfl _ Tryz.underlying9 rfl ?_)
    | ((with_reducible first | refine at_mk_ ?_ | refine at_mk2_ ?_); refine wpList_make_v rfl 39 5 _ _ rfl 76 rfl rfl Tryz.underlying39 (.int .u8 0) (by kernel_rfl) rfl (by decide) ?_; intro g w3 eg hg3 hb3' hz3; have hb3 := hb3'.out; have n1_ := Aside0.mk ((hb3.block D (blk_lt HD.out)).trans HD.out); have n2_ := Aside0.mk (Below.trans (by first | exact HB.out | exact below_drew1 HB.out) (hb3.mono HB.out.size)); (try (have n3_ := Aside0.mk ((hb3.block g (blk_lt HGR.out)).trans HGR.out); clear HGR; have HGR := n3_; clear n3_)); clear HD HB hb3; have HD := n1_; have HB := n2_; clear n1_ n2_; (try clear cK); have cK := cell_of (i := 0) (v := .int .i64 1) HD.out rfl; have HGR := Aside0.mk (show w3.heap[g]? = some (.cells (z.map vB).toArray 5 (0, 0)) from by rw [HZ.out, List.map_replicate]; exact hg3.out); clear hg3 hb3' hz3 eg)
    | ((with_reducible first | refine at_conv_ ?_ | refine at_conv2_ ?_); refine wpList_string_of rfl _ _ 5 _ rfl (some ⟨g, 0, none⟩) 76 76 rfl z HS.out.2 (bytes_of_row HGR.out) Tryz.underlying39 (by kernel_rfl) Tryz.underlying5 ?_; clear HGR))
  obtain ⟨T, eT⟩ : ∃ T, T = str (74 :: 48 :: 49 :: 1 :: (nn ++ z)) := ⟨_, rfl⟩
  have hT : T.size ≤ 1200 := (by rw [eT, str_size]; exact (by simp only [List.length_append, List.length_cons, List.length_nil, List.length_replicate, len8_len]; have := HS.out; omega))
  have o1 : decide ((1200 : Int) < (T.size : Int)) = false := decide_eq_false (by omega)
  have o2 : ¬ ((1200 : Int) < (T.size : Int)) := (by omega)
  have o3 : ¬ (1200 < T.size) := (by omega)
  rw [← eT]
  have ET := Aside0.mk eT.symm
  clear eT hT
  go_wp2
  go_ret2
  refine ⟨?_, HB.out⟩
  rw [ET.out]
  rfl
def T_17_14 : Bool × List (List Nat × List Nat) := (true, [([], []), ([], []), ([1], [1]), ([2], [2]), ([0, 3], [0, 3]), ([], []), ([5], [5]), ([4, 6], [4, 6]), ([7, 3, 0, 1, 2, 3, 4, 5, 6, 7], [0, 7])])
def B_17_14 : List Nat := [0, 0, 2, 6, 15, 0, 32, 127, 255]
theorem tab_f17_14 : rtab .any (opsOf Tryz.f17 14) = T_17_14 := by kernel_rfl
theorem bits_f17_14 : waitsOk T_17_14.2 B_17_14 = true := by kernel_rfl
set_option maxHeartbeats 8000000 in
set_option maxRecDepth 100000 in
theorem renc_2 (nn ck nm sa da tg : List UInt8) (ep se sq : Nat) (pl th tr : Int) (fi bo : Bool) (hn : nn.length = 16) (hc : ck.length = 32) (he : ep < 18446744073709551616) (hf : ∀ w, Calls Tryz.prog 42 #[.agg (dgr 2 nn ck nm sa da tg ep se sq pl th tr fi bo).cells.toArray] w fun e w' => e = .returned (.bool true) ∧ Below w.heap.size w w') (w : World) :
    Calls Tryz.prog 17 #[.agg (dgr 2 nn ck nm sa da tg ep se sq pl th tr fi bo).cells.toArray] w fun e w' => e = .returned (.tuple #[.string (str ([74, 48, 49] ++ [2] ++ nn ++ len8 ep ++ ck)), .int .i64 0]) ∧ Below w.heap.size w w' := by
  have HS := Aside0.mk (show nn.length = 16 ∧ ck.length = 32 ∧ ep < 18446744073709551616 from ⟨hn, hc, he⟩)
  have FC := Aside0.mk hf
  clear hf
  clear hn hc he
  go_enter Tryz.func17, Tryz.ntmps17
  go_upto_region 14 with (first
    | ((with_reducible first | refine at_box_ ?_ | refine at_box2_ ?_); refine wpList_box_v rfl 27 _ rfl (dgr 2 nn ck nm sa da tg ep se sq pl th tr fi bo).cells rfl (by kernel_rfl) ?_; intro D w1 eD hD1 hb1 hz1; have HD := Aside0.mk (show w1.heap[D]? = some (.cells (dgr 2 nn ck nm sa da tg ep se sq pl th tr fi bo).cells.toArray 27 (0, 0)) from hD1.out); have HB := Aside0.mk (show Below w.heap.size w w1 from hb1.out); clear hD1 hb1 hz1 eD; have cK := cell_of (i := 0) (v := .int .i64 2) HD.out rfl)
    | ((with_reducible first | refine at_load_ ?_ | refine at_load2_ ?_); refine wpList_load_agg rfl 27 _ rfl D 0 rfl (dgr 2 nn ck nm sa da tg ep se sq pl th tr fi bo).cells (load_all HD.out) _ Tryz.underlying27 rfl (by kernel_rfl) ?_)
    | (go_at_call 42; (with_reducible refine (FC.out _).mono ?_); rintro e w2 ⟨rfl, hb2⟩; have n1_ := Aside0.mk ((hb2.block D (blk_lt HD.out)).trans HD.out); have n2_ := Aside0.mk (Below.trans (by first | exact HB.out | exact below_drew1 HB.out) (hb2.mono HB.out.size)); (try (have n3_ := Aside0.mk ((hb2.block g (blk_lt HGR.out)).trans HGR.out); clear HGR; have HGR := n3_; clear n3_)); clear HD HB hb2; have HD := n1_; have HB := n2_; clear n1_ n2_; (try clear cK); have cK := cell_of (i := 0) (v := .int .i64 2) HD.out rfl)
    | ((with_reducible first | refine at_load_ ?_ | refine at_load2_ ?_); refine wpList_load_one rfl 3 _ rfl D 0 rfl (dgr 2 nn ck nm sa da tg ep se sq pl th tr fi bo).cells _ _ HD.out _ rfl _ Tryz.underlying3 rfl ?_)
    | ((with_reducible first | refine at_bs_ ?_ | refine at_bs2_ ?_); refine wpList_buildSlice_v rfl 39 5 1 _ rfl Tryz.underlying39 [.int .u8 2] (by kernel_rfl) ?_; intro g w3 eg hg3 hb3' hz3; have hb3 := hb3'.out; have n1_ := Aside0.mk ((hb3.block D (blk_lt HD.out)).trans HD.out); have n2_ := Aside0.mk (Below.trans (by first | exact HB.out | exact below_drew1 HB.out) (hb3.mono HB.out.size)); (try (have n3_ := Aside0.mk ((hb3.block g (blk_lt HGR.out)).trans HGR.out); clear HGR; have HGR := n3_; clear n3_)); clear HD HB hb3; have HD := n1_; have HB := n2_; clear n1_ n2_; (try clear cK); have cK := cell_of (i := 0) (v := .int .i64 2) HD.out rfl; have HGR := Aside0.mk (show w3.heap[g]? = some (.cells [Value.int .u8 ((2 : UInt8).toNat : Int)].toArray 5 (0, 0)) from hg3.out); clear hg3 hb3' hz3 eg)
    | ((with_reducible first | refine at_conv_ ?_ | refine at_conv2_ ?_); refine wpList_string_of rfl _ _ 5 _ rfl (some ⟨g, 0, none⟩) 1 1 rfl [2] rfl (bytes_row1 (x := 2) HGR.out) Tryz.underlying39 (by kernel_rfl) Tryz.underlying5 ?_; clear HGR)
    | ((with_reducible first | refine at_add_ ?_ | refine at_add2_ ?_); refine wpList_cat rfl _ _ _ _ rfl _ _ rfl rfl (by simp only [List.length_append, List.length_cons, List.length_nil, List.length_replicate, len8_len]; have := HS.out; omega) ?_)
    | ((with_reducible first | refine at_load_ ?_ | refine at_load2_ ?_); refine wpList_load_one rfl 9 _ rfl D 1 rfl (dgr 2 nn ck nm sa da tg ep se sq pl th tr fi bo).cells _ _ HD.out _ rfl _ Tryz.underlying9 rfl ?_))
  refine start_ (n := 9) (S := fun w' => w'.cell? ⟨D, 2, none⟩ = some (.int .u64 (ep : Int)) ∧ w'.cell? ⟨D, 3, none⟩ = some (.string (str ck))) (ds := []) #[false, false, false, false, false, false, false, false, false] (by kernel_rfl) rfl rfl ⟨cell_of HD.out rfl, cell_of HD.out rfl⟩ (fun hHeld => ?_)
  refine with_tabW tab_f17_14 bits_f17_14 (fun HT_ HW_ => ?_)
  refine pure_ (i := 0) (N := some 51) (v := ?_) (a' := ?_) #[true, false, false, false, false, false, false, false, false] rfl rfl (any_of HT_.out (by kernel_rfl)) (fun _ _ _ h => h) (Or.inl ⟨by rfl, ?_⟩) ?_ ?_
  rotate_left
  · intro w'
    go_simp
    with_reducible rfl
  rotate_left
  · simp only [pS]
    rfl
  refine pure_ (i := 1) (N := some 52) (v := ?_) (a' := ?_) #[true, true, false, false, false, false, false, false, false] rfl rfl (any_of HT_.out (by kernel_rfl)) (fun _ _ _ h => h) (Or.inl ⟨by rfl, ?_⟩) ?_ ?_
  rotate_left
  · intro w'
    go_simp
    with_reducible rfl
  rotate_left
  · simp only [pS]
    rfl
  refine take_ (i := 2) (N := some 53) (v := ?_) (a' := ?_) #[true, true, true, false, false, false, false, false, false] rfl rfl (take_ofW HT_.out HW_.out (by kernel_rfl)) (fun _ _ _ h => h) (Or.inl ⟨by rfl, ?_⟩) hHeld ?_ ?_
  rotate_left
  · rintro w' ⟨s2, s3⟩
    go_simp
    with_reducible rfl
  rotate_left
  · simp only [pS]
    rfl
  refine pure_ (i := 5) (N := some 56) (v := ?_) (a' := ?_) #[true, true, true, false, false, true, false, false, false] rfl rfl (any_of HT_.out (by kernel_rfl)) (fun _ _ _ h => h) (Or.inl ⟨by rfl, ?_⟩) ?_ ?_
  rotate_left
  · intro w'
    go_simp
    with_reducible rfl
  rotate_left
  · simp only [pS]
    rfl
  refine take_ (i := 6) (N := some 57) (v := ?_) (a' := ?_) #[true, true, true, false, false, true, true, false, false] rfl rfl (take_ofW HT_.out HW_.out (by kernel_rfl)) (fun _ _ _ h => h) (Or.inl ⟨by rfl, ?_⟩) hHeld ?_ ?_
  rotate_left
  · rintro w' ⟨s2, s3⟩
    go_simp
    with_reducible rfl
  rotate_left
  · simp only [pS]
    rfl
  refine one_ (i := 3) (N := some 54) #[true, true, true, true, false, true, true, false, false] rfl rfl (one_of HT_.out (by kernel_rfl)) (by decide) (fun K hK => ?_)
  refine goes_ Tryz.func43 (by kernel_rfl) rfl #[.int .u64 ((ep : Nat) : Int)] (by rfl) rfl rfl (by (try simp only [List.map_toArray, List.map_cons, List.map_nil]); first | done | rfl) ?_
  with_reducible refine (length_calls ep HS.out.2.2 _).mono ?_
  rintro e w5 ⟨rfl, hb5⟩
  refine ⟨_, rfl, ?_⟩
  have n1_ := Aside0.mk ((hb5.block D (blk_lt HD.out)).trans HD.out); have n2_ := Aside0.mk (Below.trans (by first | exact HB.out | exact below_drew1 HB.out) (hb5.mono HB.out.size)); (try (have n3_ := Aside0.mk ((hb5.block g (blk_lt HGR.out)).trans HGR.out); clear HGR; have HGR := n3_; clear n3_)); clear HD HB hb5; have HD := n1_; have HB := n2_; clear n1_ n2_; (try clear cK); have cK := cell_of (i := 0) (v := .int .i64 2) HD.out rfl
  refine hK.out _ _ (⟨cell_of HD.out rfl, cell_of HD.out rfl⟩) (fun hHeld => ?_)
  clear hK K
  refine norm_ (a' := ?_) ?_ ?_
  rotate_left
  · show Act.put _ (some 54) _ = _
    simp only [pS]
    rfl
  refine pure_ (i := 4) (N := some 55) (a' := ?_) #[true, true, true, true, true, true, true, false, false] rfl rfl (any_of HT_.out (by kernel_rfl)) (fun _ _ _ h => h) (Or.inl ⟨by rfl, cat_yields _ _ _ _ (by rfl) _ _ (by rfl) (by rfl) (by simp only [List.length_append, List.length_cons, List.length_nil, List.length_replicate, len8_len]; have := HS.out; omega)⟩) ?_ ?_
  rotate_left
  · simp only [pS]
    rfl
  refine pure_ (i := 7) (N := some 58) (a' := ?_) #[true, true, true, true, true, true, true, true, false] rfl rfl (any_of HT_.out (by kernel_rfl)) (fun _ _ _ h => h) (Or.inl ⟨by rfl, cat_yields _ _ _ _ (by rfl) _ _ (by rfl) (by rfl) (by simp only [List.length_append, List.length_cons, List.length_nil, List.length_replicate, len8_len]; have := HS.out; omega)⟩) ?_ ?_
  rotate_left
  · simp only [pS]
    rfl
  refine pure_ (i := 8) (N := some 5) (v := ?_) (a' := ?_) #[true, true, true, true, true, true, true, true, true] rfl rfl (any_of HT_.out (by kernel_rfl)) (fun _ _ _ h => h) (Or.inl ⟨by rfl, ?_⟩) ?_ ?_
  rotate_left
  · intro w'
    go_simp
    with_reducible rfl
  rotate_left
  · simp only [pS]
    rfl
  refine done_ (done_of HT_.out (by kernel_rfl)) ?_
  clear HT_ HW_ hHeld
  go_upto_region 30 with (first
    | ((with_reducible first | refine at_box_ ?_ | refine at_box2_ ?_); refine wpList_box_v rfl 27 _ rfl (dgr 2 nn ck nm sa da tg ep se sq pl th tr fi bo).cells rfl (by kernel_rfl) ?_; intro D w1 eD hD1 hb1 hz1; have HD := Aside0.mk (show w1.heap[D]? = some (.cells (dgr 2 nn ck nm sa da tg ep se sq pl th tr fi bo).cells.toArray 27 (0, 0)) from hD1.out); have HB := Aside0.mk (show Below w.heap.size w w1 from hb1.out); clear hD1 hb1 hz1 eD; have cK := cell_of (i := 0) (v := .int .i64 2) HD.out rfl)
    | ((with_reducible first | refine at_load_ ?_ | refine at_load2_ ?_); refine wpList_load_agg rfl 27 _ rfl D 0 rfl (dgr 2 nn ck nm sa da tg ep se sq pl th tr fi bo).cells (load_all HD.out) _ Tryz.underlying27 rfl (by kernel_rfl) ?_)
    | (go_at_call 42; (with_reducible refine (FC.out _).mono ?_); rintro e w2 ⟨rfl, hb2⟩; have n1_ := Aside0.mk ((hb2.block D (blk_lt HD.out)).trans HD.out); have n2_ := Aside0.mk (Below.trans (by first | exact HB.out | exact below_drew1 HB.out) (hb2.mono HB.out.size)); (try (have n3_ := Aside0.mk ((hb2.block g (blk_lt HGR.out)).trans HGR.out); clear HGR; have HGR := n3_; clear n3_)); clear HD HB hb2; have HD := n1_; have HB := n2_; clear n1_ n2_; (try clear cK); have cK := cell_of (i := 0) (v := .int .i64 2) HD.out rfl)
    | ((with_reducible first | refine at_load_ ?_ | refine at_load2_ ?_); refine wpList_load_one rfl 3 _ rfl D 0 rfl (dgr 2 nn ck nm sa da tg ep se sq pl th tr fi bo).cells _ _ HD.out _ rfl _ Tryz.underlying3 rfl ?_)
    | ((with_reducible first | refine at_bs_ ?_ | refine at_bs2_ ?_); refine wpList_buildSlice_v rfl 39 5 1 _ rfl Tryz.underlying39 [.int .u8 2] (by kernel_rfl) ?_; intro g w3 eg hg3 hb3' hz3; have hb3 := hb3'.out; have n1_ := Aside0.mk ((hb3.block D (blk_lt HD.out)).trans HD.out); have n2_ := Aside0.mk (Below.trans (by first | exact HB.out | exact below_drew1 HB.out) (hb3.mono HB.out.size)); (try (have n3_ := Aside0.mk ((hb3.block g (blk_lt HGR.out)).trans HGR.out); clear HGR; have HGR := n3_; clear n3_)); clear HD HB hb3; have HD := n1_; have HB := n2_; clear n1_ n2_; (try clear cK); have cK := cell_of (i := 0) (v := .int .i64 2) HD.out rfl; have HGR := Aside0.mk (show w3.heap[g]? = some (.cells [Value.int .u8 ((2 : UInt8).toNat : Int)].toArray 5 (0, 0)) from hg3.out); clear hg3 hb3' hz3 eg)
    | ((with_reducible first | refine at_conv_ ?_ | refine at_conv2_ ?_); refine wpList_string_of rfl _ _ 5 _ rfl (some ⟨g, 0, none⟩) 1 1 rfl [2] rfl (bytes_row1 (x := 2) HGR.out) Tryz.underlying39 (by kernel_rfl) Tryz.underlying5 ?_; clear HGR)
    | ((with_reducible first | refine at_add_ ?_ | refine at_add2_ ?_); refine wpList_cat rfl _ _ _ _ rfl _ _ rfl rfl (by simp only [List.length_append, List.length_cons, List.length_nil, List.length_replicate, len8_len]; have := HS.out; omega) ?_)
    | ((with_reducible first | refine at_load_ ?_ | refine at_load2_ ?_); refine wpList_load_one rfl 9 _ rfl D 1 rfl (dgr 2 nn ck nm sa da tg ep se sq pl th tr fi bo).cells _ _ HD.out _ rfl _ Tryz.underlying9 rfl ?_))
  obtain ⟨T, eT⟩ : ∃ T, T = str (74 :: 48 :: 49 :: 2 :: (nn ++ (len8 ep ++ ck))) := ⟨_, rfl⟩
  have hT : T.size ≤ 1200 := (by rw [eT, str_size]; exact (by simp only [List.length_append, List.length_cons, List.length_nil, List.length_replicate, len8_len]; have := HS.out; omega))
  have o1 : decide ((1200 : Int) < (T.size : Int)) = false := decide_eq_false (by omega)
  have o2 : ¬ ((1200 : Int) < (T.size : Int)) := (by omega)
  have o3 : ¬ (1200 < T.size) := (by omega)
  rw [← eT]
  have ET := Aside0.mk eT.symm
  clear eT hT
  go_wp2
  go_ret2
  refine ⟨?_, HB.out⟩
  rw [ET.out]
  rfl
end Go.Proofs.YtniabkphbnimaaaGreatDoor.Sh
namespace Go.Proofs.YtniabkphbnimaaaGreatDoor.Sh
open Go Go.RowKit Go.Maps Go.Proofs.YtniabkphbnimaaaGreatDoorW.PrintWords Go.Proofs.YtniabkphbnimaaaGreatDoorW.PrintLast Go.Proofs.YtniabkphbnimaaaGreatDoor.Bs
set_option maxHeartbeats 8000000 in
set_option maxRecDepth 100000 in
theorem renc_7 (nn ck nm sa da tg : List UInt8) (ep se sq : Nat) (pl th tr : Int) (fi bo : Bool) (ht : tg.length = 32) (he : se < 18446744073709551616) (hq : sq < 18446744073709551616) (hf : ∀ w, Calls Tryz.prog 42 #[.agg (dgr 7 nn ck nm sa da tg ep se sq pl th tr fi bo).cells.toArray] w fun e w' => e = .returned (.bool true) ∧ Below w.heap.size w w') (w : World) :
    Calls Tryz.prog 17 #[.agg (dgr 7 nn ck nm sa da tg ep se sq pl th tr fi bo).cells.toArray] w fun e w' => e = .returned (.tuple #[.string (str ([74, 48, 49] ++ [7] ++ len8 se ++ len8 sq ++ tg)), .int .i64 0]) ∧ Below w.heap.size w w' := by
  have HS := Aside0.mk (show tg.length = 32 ∧ se < 18446744073709551616 ∧ sq < 18446744073709551616 from ⟨ht, he, hq⟩)
  have FC := Aside0.mk hf
  clear hf
  clear ht he hq
  go_enter Tryz.func17, Tryz.ntmps17
  go_upto_region 10 with (first
    | ((with_reducible first | refine at_box_ ?_ | refine at_box2_ ?_); refine wpList_box_v rfl 27 _ rfl (dgr 7 nn ck nm sa da tg ep se sq pl th tr fi bo).cells rfl (by kernel_rfl) ?_; intro D w1 eD hD1 hb1 hz1; have HD := Aside0.mk (show w1.heap[D]? = some (.cells (dgr 7 nn ck nm sa da tg ep se sq pl th tr fi bo).cells.toArray 27 (0, 0)) from hD1.out); have HB := Aside0.mk (show Below w.heap.size w w1 from hb1.out); clear hD1 hb1 hz1 eD; have cK := cell_of (i := 0) (v := .int .i64 7) HD.out rfl)
    | ((with_reducible first | refine at_load_ ?_ | refine at_load2_ ?_); refine wpList_load_agg rfl 27 _ rfl D 0 rfl (dgr 7 nn ck nm sa da tg ep se sq pl th tr fi bo).cells (load_all HD.out) _ Tryz.underlying27 rfl (by kernel_rfl) ?_)
    | (go_at_call 42; (with_reducible refine (FC.out _).mono ?_); rintro e w2 ⟨rfl, hb2⟩; have n1_ := Aside0.mk ((hb2.block D (blk_lt HD.out)).trans HD.out); have n2_ := Aside0.mk (Below.trans (by first | exact HB.out | exact below_drew1 HB.out) (hb2.mono HB.out.size)); (try (have n3_ := Aside0.mk ((hb2.block g (blk_lt HGR.out)).trans HGR.out); clear HGR; have HGR := n3_; clear n3_)); clear HD HB hb2; have HD := n1_; have HB := n2_; clear n1_ n2_; (try clear cK); have cK := cell_of (i := 0) (v := .int .i64 7) HD.out rfl)
    | ((with_reducible first | refine at_load_ ?_ | refine at_load2_ ?_); refine wpList_load_one rfl 3 _ rfl D 0 rfl (dgr 7 nn ck nm sa da tg ep se sq pl th tr fi bo).cells _ _ HD.out _ rfl _ Tryz.underlying3 rfl ?_)
    | ((with_reducible first | refine at_bs_ ?_ | refine at_bs2_ ?_); refine wpList_buildSlice_v rfl 39 5 1 _ rfl Tryz.underlying39 [.int .u8 7] (by kernel_rfl) ?_; intro g w3 eg hg3 hb3' hz3; have hb3 := hb3'.out; have n1_ := Aside0.mk ((hb3.block D (blk_lt HD.out)).trans HD.out); have n2_ := Aside0.mk (Below.trans (by first | exact HB.out | exact below_drew1 HB.out) (hb3.mono HB.out.size)); (try (have n3_ := Aside0.mk ((hb3.block g (blk_lt HGR.out)).trans HGR.out); clear HGR; have HGR := n3_; clear n3_)); clear HD HB hb3; have HD := n1_; have HB := n2_; clear n1_ n2_; (try clear cK); have cK := cell_of (i := 0) (v := .int .i64 7) HD.out rfl; have HGR := Aside0.mk (show w3.heap[g]? = some (.cells [Value.int .u8 ((7 : UInt8).toNat : Int)].toArray 5 (0, 0)) from hg3.out); clear hg3 hb3' hz3 eg)
    | ((with_reducible first | refine at_conv_ ?_ | refine at_conv2_ ?_); refine wpList_string_of rfl _ _ 5 _ rfl (some ⟨g, 0, none⟩) 1 1 rfl [7] rfl (bytes_row1 (x := 7) HGR.out) Tryz.underlying39 (by kernel_rfl) Tryz.underlying5 ?_; clear HGR)
    | ((with_reducible first | refine at_add_ ?_ | refine at_add2_ ?_); refine wpList_cat rfl _ _ _ _ rfl _ _ rfl rfl (by simp only [List.length_append, List.length_cons, List.length_nil, List.length_replicate, len8_len]; have := HS.out; omega) ?_)
    | ((with_reducible first | refine at_load_ ?_ | refine at_load2_ ?_); refine wpList_load_one rfl 9 _ rfl D 14 rfl (dgr 7 nn ck nm sa da tg ep se sq pl th tr fi bo).cells _ _ HD.out _ rfl _ Tryz.underlying9 rfl ?_))
  refine start_ (n := 10) (S := fun w' => w'.cell? ⟨D, 5, none⟩ = some (.int .u64 (se : Int)) ∧ w'.cell? ⟨D, 8, none⟩ = some (.int .u64 (sq : Int))) (ds := []) #[false, false, false, false, false, false, false, false, false, false] (by kernel_rfl) rfl rfl ⟨cell_of HD.out rfl, cell_of HD.out rfl⟩ (fun hHeld => ?_)
  refine with_tabW tab_f17_10 bits_f17_10 (fun HT_ HW_ => ?_)
  refine pure_ (i := 0) (N := some 34) (v := ?_) (a' := ?_) #[true, false, false, false, false, false, false, false, false, false] rfl rfl (any_of HT_.out (by kernel_rfl)) (fun _ _ _ h => h) (Or.inl ⟨by rfl, ?_⟩) ?_ ?_
  rotate_left
  · intro w'
    go_simp
    with_reducible rfl
  rotate_left
  · simp only [pS]
    rfl
  refine pure_ (i := 1) (N := some 35) (v := ?_) (a' := ?_) #[true, true, false, false, false, false, false, false, false, false] rfl rfl (any_of HT_.out (by kernel_rfl)) (fun _ _ _ h => h) (Or.inl ⟨by rfl, ?_⟩) ?_ ?_
  rotate_left
  · intro w'
    go_simp
    with_reducible rfl
  rotate_left
  · simp only [pS]
    rfl
  refine take_ (i := 2) (N := some 36) (v := ?_) (a' := ?_) #[true, true, true, false, false, false, false, false, false, false] rfl rfl (take_ofW HT_.out HW_.out (by kernel_rfl)) (fun _ _ _ h => h) (Or.inl ⟨by rfl, ?_⟩) hHeld ?_ ?_
  rotate_left
  · rintro w' ⟨s5, s8⟩
    go_simp
    with_reducible rfl
  rotate_left
  · simp only [pS]
    rfl
  refine pure_ (i := 5) (N := some 39) (v := ?_) (a' := ?_) #[true, true, true, false, false, true, false, false, false, false] rfl rfl (any_of HT_.out (by kernel_rfl)) (fun _ _ _ h => h) (Or.inl ⟨by rfl, ?_⟩) ?_ ?_
  rotate_left
  · intro w'
    go_simp
    with_reducible rfl
  rotate_left
  · simp only [pS]
    rfl
  refine take_ (i := 6) (N := some 40) (v := ?_) (a' := ?_) #[true, true, true, false, false, true, true, false, false, false] rfl rfl (take_ofW HT_.out HW_.out (by kernel_rfl)) (fun _ _ _ h => h) (Or.inl ⟨by rfl, ?_⟩) hHeld ?_ ?_
  rotate_left
  · rintro w' ⟨s5, s8⟩
    go_simp
    with_reducible rfl
  rotate_left
  · simp only [pS]
    rfl
  refine one_ (i := 3) (N := some 37) #[true, true, true, true, false, true, true, false, false, false] rfl rfl (one_of HT_.out (by kernel_rfl)) (by decide) (fun K hK => ?_)
  refine goes_ Tryz.func43 (by kernel_rfl) rfl #[.int .u64 ((se : Nat) : Int)] (by rfl) rfl rfl (by (try simp only [List.map_toArray, List.map_cons, List.map_nil]); first | done | rfl) ?_
  with_reducible refine (length_calls se HS.out.2.1 _).mono ?_
  rintro e w5 ⟨rfl, hb5⟩
  refine ⟨_, rfl, ?_⟩
  have n1_ := Aside0.mk ((hb5.block D (blk_lt HD.out)).trans HD.out); have n2_ := Aside0.mk (Below.trans (by first | exact HB.out | exact below_drew1 HB.out) (hb5.mono HB.out.size)); (try (have n3_ := Aside0.mk ((hb5.block g (blk_lt HGR.out)).trans HGR.out); clear HGR; have HGR := n3_; clear n3_)); clear HD HB hb5; have HD := n1_; have HB := n2_; clear n1_ n2_; (try clear cK); have cK := cell_of (i := 0) (v := .int .i64 7) HD.out rfl
  refine hK.out _ _ (⟨cell_of HD.out rfl, cell_of HD.out rfl⟩) (fun hHeld => ?_)
  clear hK K
  refine norm_ (a' := ?_) ?_ ?_
  rotate_left
  · show Act.put _ (some 37) _ = _
    simp only [pS]
    rfl
  refine pure_ (i := 4) (N := some 38) (a' := ?_) #[true, true, true, true, true, true, true, false, false, false] rfl rfl (any_of HT_.out (by kernel_rfl)) (fun _ _ _ h => h) (Or.inl ⟨by rfl, cat_yields _ _ _ _ (by rfl) _ _ (by rfl) (by rfl) (by simp only [List.length_append, List.length_cons, List.length_nil, List.length_replicate, len8_len]; have := HS.out; omega)⟩) ?_ ?_
  rotate_left
  · simp only [pS]
    rfl
  refine one_ (i := 7) (N := some 41) #[true, true, true, true, true, true, true, true, false, false] rfl rfl (one_of HT_.out (by kernel_rfl)) (by decide) (fun K hK => ?_)
  refine goes_ Tryz.func43 (by kernel_rfl) rfl #[.int .u64 ((sq : Nat) : Int)] (by rfl) rfl rfl (by (try simp only [List.map_toArray, List.map_cons, List.map_nil]); first | done | rfl) ?_
  with_reducible refine (length_calls sq HS.out.2.2 _).mono ?_
  rintro e w5 ⟨rfl, hb5⟩
  refine ⟨_, rfl, ?_⟩
  have n1_ := Aside0.mk ((hb5.block D (blk_lt HD.out)).trans HD.out); have n2_ := Aside0.mk (Below.trans (by first | exact HB.out | exact below_drew1 HB.out) (hb5.mono HB.out.size)); (try (have n3_ := Aside0.mk ((hb5.block g (blk_lt HGR.out)).trans HGR.out); clear HGR; have HGR := n3_; clear n3_)); clear HD HB hb5; have HD := n1_; have HB := n2_; clear n1_ n2_; (try clear cK); have cK := cell_of (i := 0) (v := .int .i64 7) HD.out rfl
  refine hK.out _ _ (⟨cell_of HD.out rfl, cell_of HD.out rfl⟩) (fun hHeld => ?_)
  clear hK K
  refine norm_ (a' := ?_) ?_ ?_
  rotate_left
  · show Act.put _ (some 41) _ = _
    simp only [pS]
    rfl
  refine pure_ (i := 8) (N := some 42) (a' := ?_) #[true, true, true, true, true, true, true, true, true, false] rfl rfl (any_of HT_.out (by kernel_rfl)) (fun _ _ _ h => h) (Or.inl ⟨by rfl, cat_yields _ _ _ _ (by rfl) _ _ (by rfl) (by rfl) (by simp only [List.length_append, List.length_cons, List.length_nil, List.length_replicate, len8_len]; have := HS.out; omega)⟩) ?_ ?_
  rotate_left
  · simp only [pS]
    rfl
  refine pure_ (i := 9) (N := some 5) (v := ?_) (a' := ?_) #[true, true, true, true, true, true, true, true, true, true] rfl rfl (any_of HT_.out (by kernel_rfl)) (fun _ _ _ h => h) (Or.inl ⟨by rfl, ?_⟩) ?_ ?_
  rotate_left
  · intro w'
    go_simp
    with_reducible rfl
  rotate_left
  · simp only [pS]
    rfl
  refine done_ (done_of HT_.out (by kernel_rfl)) ?_
  clear HT_ HW_ hHeld
  go_upto_region 30 with (first
    | ((with_reducible first | refine at_box_ ?_ | refine at_box2_ ?_); refine wpList_box_v rfl 27 _ rfl (dgr 7 nn ck nm sa da tg ep se sq pl th tr fi bo).cells rfl (by kernel_rfl) ?_; intro D w1 eD hD1 hb1 hz1; have HD := Aside0.mk (show w1.heap[D]? = some (.cells (dgr 7 nn ck nm sa da tg ep se sq pl th tr fi bo).cells.toArray 27 (0, 0)) from hD1.out); have HB := Aside0.mk (show Below w.heap.size w w1 from hb1.out); clear hD1 hb1 hz1 eD; have cK := cell_of (i := 0) (v := .int .i64 7) HD.out rfl)
    | ((with_reducible first | refine at_load_ ?_ | refine at_load2_ ?_); refine wpList_load_agg rfl 27 _ rfl D 0 rfl (dgr 7 nn ck nm sa da tg ep se sq pl th tr fi bo).cells (load_all HD.out) _ Tryz.underlying27 rfl (by kernel_rfl) ?_)
    | (go_at_call 42; (with_reducible refine (FC.out _).mono ?_); rintro e w2 ⟨rfl, hb2⟩; have n1_ := Aside0.mk ((hb2.block D (blk_lt HD.out)).trans HD.out); have n2_ := Aside0.mk (Below.trans (by first | exact HB.out | exact below_drew1 HB.out) (hb2.mono HB.out.size)); (try (have n3_ := Aside0.mk ((hb2.block g (blk_lt HGR.out)).trans HGR.out); clear HGR; have HGR := n3_; clear n3_)); clear HD HB hb2; have HD := n1_; have HB := n2_; clear n1_ n2_; (try clear cK); have cK := cell_of (i := 0) (v := .int .i64 7) HD.out rfl)
    | ((with_reducible first | refine at_load_ ?_ | refine at_load2_ ?_); refine wpList_load_one rfl 3 _ rfl D 0 rfl (dgr 7 nn ck nm sa da tg ep se sq pl th tr fi bo).cells _ _ HD.out _ rfl _ Tryz.underlying3 rfl ?_)
    | ((with_reducible first | refine at_bs_ ?_ | refine at_bs2_ ?_); refine wpList_buildSlice_v rfl 39 5 1 _ rfl Tryz.underlying39 [.int .u8 7] (by kernel_rfl) ?_; intro g w3 eg hg3 hb3' hz3; have hb3 := hb3'.out; have n1_ := Aside0.mk ((hb3.block D (blk_lt HD.out)).trans HD.out); have n2_ := Aside0.mk (Below.trans (by first | exact HB.out | exact below_drew1 HB.out) (hb3.mono HB.out.size)); (try (have n3_ := Aside0.mk ((hb3.block g (blk_lt HGR.out)).trans HGR.out); clear HGR; have HGR := n3_; clear n3_)); clear HD HB hb3; have HD := n1_; have HB := n2_; clear n1_ n2_; (try clear cK); have cK := cell_of (i := 0) (v := .int .i64 7) HD.out rfl; have HGR := Aside0.mk (show w3.heap[g]? = some (.cells [Value.int .u8 ((7 : UInt8).toNat : Int)].toArray 5 (0, 0)) from hg3.out); clear hg3 hb3' hz3 eg)
    | ((with_reducible first | refine at_conv_ ?_ | refine at_conv2_ ?_); refine wpList_string_of rfl _ _ 5 _ rfl (some ⟨g, 0, none⟩) 1 1 rfl [7] rfl (bytes_row1 (x := 7) HGR.out) Tryz.underlying39 (by kernel_rfl) Tryz.underlying5 ?_; clear HGR)
    | ((with_reducible first | refine at_add_ ?_ | refine at_add2_ ?_); refine wpList_cat rfl _ _ _ _ rfl _ _ rfl rfl (by simp only [List.length_append, List.length_cons, List.length_nil, List.length_replicate, len8_len]; have := HS.out; omega) ?_)
    | ((with_reducible first | refine at_load_ ?_ | refine at_load2_ ?_); refine wpList_load_one rfl 9 _ rfl D 14 rfl (dgr 7 nn ck nm sa da tg ep se sq pl th tr fi bo).cells _ _ HD.out _ rfl _ Tryz.underlying9 rfl ?_))
  obtain ⟨T, eT⟩ : ∃ T, T = str (74 :: 48 :: 49 :: 7 :: (len8 se ++ (len8 sq ++ tg))) := ⟨_, rfl⟩
  have hT : T.size ≤ 1200 := (by rw [eT, str_size]; exact (by simp only [List.length_append, List.length_cons, List.length_nil, List.length_replicate, len8_len]; have := HS.out; omega))
  have o1 : decide ((1200 : Int) < (T.size : Int)) = false := decide_eq_false (by omega)
  have o2 : ¬ ((1200 : Int) < (T.size : Int)) := (by omega)
  have o3 : ¬ (1200 < T.size) := (by omega)
  rw [← eT]
  have ET := Aside0.mk eT.symm
  clear eT hT
  go_wp2
  go_ret2
  refine ⟨?_, HB.out⟩
  rw [ET.out]
  rfl
set_option maxHeartbeats 8000000 in
set_option maxRecDepth 100000 in
theorem renc_6 (nn ck nm sa da tg : List UInt8) (ep se sq : Nat) (pl th tr : Int) (fi bo : Bool) (ht : tg.length = 32) (he : se < 18446744073709551616) (hq : sq < 18446744073709551616) (hd : da.length < 1099511627776) (T0 : ByteArray) (e0 : Int) (hr : (T0, e0) = if 1200 < da.length + 52 then ((⟨#[]⟩ : ByteArray), (72 : Int)) else (str ([74, 48, 49] ++ [6] ++ len8 se ++ len8 sq ++ da ++ tg), 0)) (hf : ∀ w, Calls Tryz.prog 42 #[.agg (dgr 6 nn ck nm sa da tg ep se sq pl th tr fi bo).cells.toArray] w fun e w' => e = .returned (.bool true) ∧ Below w.heap.size w w') (w : World) :
    Calls Tryz.prog 17 #[.agg (dgr 6 nn ck nm sa da tg ep se sq pl th tr fi bo).cells.toArray] w fun e w' => e = .returned (.tuple #[.string T0, .int .i64 e0]) ∧ Below w.heap.size w w' := by
  have HS := Aside0.mk (show tg.length = 32 ∧ se < 18446744073709551616 ∧ sq < 18446744073709551616 ∧ da.length < 1099511627776 from ⟨ht, he, hq, hd⟩)
  have FC := Aside0.mk hf
  clear hf
  have HR := Aside0.mk hr
  clear ht he hq hd hr
  go_enter Tryz.func17, Tryz.ntmps17
  go_upto_region 10 with (first
    | ((with_reducible first | refine at_box_ ?_ | refine at_box2_ ?_); refine wpList_box_v rfl 27 _ rfl (dgr 6 nn ck nm sa da tg ep se sq pl th tr fi bo).cells rfl (by kernel_rfl) ?_; intro D w1 eD hD1 hb1 hz1; have HD := Aside0.mk (show w1.heap[D]? = some (.cells (dgr 6 nn ck nm sa da tg ep se sq pl th tr fi bo).cells.toArray 27 (0, 0)) from hD1.out); have HB := Aside0.mk (show Below w.heap.size w w1 from hb1.out); clear hD1 hb1 hz1 eD; have cK := cell_of (i := 0) (v := .int .i64 6) HD.out rfl)
    | ((with_reducible first | refine at_load_ ?_ | refine at_load2_ ?_); refine wpList_load_agg rfl 27 _ rfl D 0 rfl (dgr 6 nn ck nm sa da tg ep se sq pl th tr fi bo).cells (load_all HD.out) _ Tryz.underlying27 rfl (by kernel_rfl) ?_)
    | (go_at_call 42; (with_reducible refine (FC.out _).mono ?_); rintro e w2 ⟨rfl, hb2⟩; have n1_ := Aside0.mk ((hb2.block D (blk_lt HD.out)).trans HD.out); have n2_ := Aside0.mk (Below.trans (by first | exact HB.out | exact below_drew1 HB.out) (hb2.mono HB.out.size)); (try (have n3_ := Aside0.mk ((hb2.block g (blk_lt HGR.out)).trans HGR.out); clear HGR; have HGR := n3_; clear n3_)); clear HD HB hb2; have HD := n1_; have HB := n2_; clear n1_ n2_; (try clear cK); have cK := cell_of (i := 0) (v := .int .i64 6) HD.out rfl)
    | ((with_reducible first | refine at_load_ ?_ | refine at_load2_ ?_); refine wpList_load_one rfl 3 _ rfl D 0 rfl (dgr 6 nn ck nm sa da tg ep se sq pl th tr fi bo).cells _ _ HD.out _ rfl _ Tryz.underlying3 rfl ?_)
    | ((with_reducible first | refine at_bs_ ?_ | refine at_bs2_ ?_); refine wpList_buildSlice_v rfl 39 5 1 _ rfl Tryz.underlying39 [.int .u8 6] (by kernel_rfl) ?_; intro g w3 eg hg3 hb3' hz3; have hb3 := hb3'.out; have n1_ := Aside0.mk ((hb3.block D (blk_lt HD.out)).trans HD.out); have n2_ := Aside0.mk (Below.trans (by first | exact HB.out | exact below_drew1 HB.out) (hb3.mono HB.out.size)); (try (have n3_ := Aside0.mk ((hb3.block g (blk_lt HGR.out)).trans HGR.out); clear HGR; have HGR := n3_; clear n3_)); clear HD HB hb3; have HD := n1_; have HB := n2_; clear n1_ n2_; (try clear cK); have cK := cell_of (i := 0) (v := .int .i64 6) HD.out rfl; have HGR := Aside0.mk (show w3.heap[g]? = some (.cells [Value.int .u8 ((6 : UInt8).toNat : Int)].toArray 5 (0, 0)) from hg3.out); clear hg3 hb3' hz3 eg)
    | ((with_reducible first | refine at_conv_ ?_ | refine at_conv2_ ?_); refine wpList_string_of rfl _ _ 5 _ rfl (some ⟨g, 0, none⟩) 1 1 rfl [6] rfl (bytes_row1 (x := 6) HGR.out) Tryz.underlying39 (by kernel_rfl) Tryz.underlying5 ?_; clear HGR)
    | ((with_reducible first | refine at_add_ ?_ | refine at_add2_ ?_); refine wpList_cat rfl _ _ _ _ rfl _ _ rfl rfl (by simp only [List.length_append, List.length_cons, List.length_nil, List.length_replicate, len8_len]; have := HS.out; omega) ?_)
    | ((with_reducible first | refine at_load_ ?_ | refine at_load2_ ?_); refine wpList_load_one rfl 9 _ rfl D 13 rfl (dgr 6 nn ck nm sa da tg ep se sq pl th tr fi bo).cells _ _ HD.out _ rfl _ Tryz.underlying9 rfl ?_)
    | ((with_reducible first | refine at_load_ ?_ | refine at_load2_ ?_); refine wpList_load_one rfl 9 _ rfl D 14 rfl (dgr 6 nn ck nm sa da tg ep se sq pl th tr fi bo).cells _ _ HD.out _ rfl _ Tryz.underlying9 rfl ?_))
  refine start_ (n := 10) (S := fun w' => w'.cell? ⟨D, 5, none⟩ = some (.int .u64 (se : Int)) ∧ w'.cell? ⟨D, 8, none⟩ = some (.int .u64 (sq : Int))) (ds := []) #[false, false, false, false, false, false, false, false, false, false] (by kernel_rfl) rfl rfl ⟨cell_of HD.out rfl, cell_of HD.out rfl⟩ (fun hHeld => ?_)
  refine with_tabW tab_f17_10 bits_f17_10 (fun HT_ HW_ => ?_)
  refine pure_ (i := 0) (N := some 34) (v := ?_) (a' := ?_) #[true, false, false, false, false, false, false, false, false, false] rfl rfl (any_of HT_.out (by kernel_rfl)) (fun _ _ _ h => h) (Or.inl ⟨by rfl, ?_⟩) ?_ ?_
  rotate_left
  · intro w'
    go_simp
    with_reducible rfl
  rotate_left
  · simp only [pS]
    rfl
  refine pure_ (i := 1) (N := some 35) (v := ?_) (a' := ?_) #[true, true, false, false, false, false, false, false, false, false] rfl rfl (any_of HT_.out (by kernel_rfl)) (fun _ _ _ h => h) (Or.inl ⟨by rfl, ?_⟩) ?_ ?_
  rotate_left
  · intro w'
    go_simp
    with_reducible rfl
  rotate_left
  · simp only [pS]
    rfl
  refine take_ (i := 2) (N := some 36) (v := ?_) (a' := ?_) #[true, true, true, false, false, false, false, false, false, false] rfl rfl (take_ofW HT_.out HW_.out (by kernel_rfl)) (fun _ _ _ h => h) (Or.inl ⟨by rfl, ?_⟩) hHeld ?_ ?_
  rotate_left
  · rintro w' ⟨s5, s8⟩
    go_simp
    with_reducible rfl
  rotate_left
  · simp only [pS]
    rfl
  refine pure_ (i := 5) (N := some 39) (v := ?_) (a' := ?_) #[true, true, true, false, false, true, false, false, false, false] rfl rfl (any_of HT_.out (by kernel_rfl)) (fun _ _ _ h => h) (Or.inl ⟨by rfl, ?_⟩) ?_ ?_
  rotate_left
  · intro w'
    go_simp
    with_reducible rfl
  rotate_left
  · simp only [pS]
    rfl
  refine take_ (i := 6) (N := some 40) (v := ?_) (a' := ?_) #[true, true, true, false, false, true, true, false, false, false] rfl rfl (take_ofW HT_.out HW_.out (by kernel_rfl)) (fun _ _ _ h => h) (Or.inl ⟨by rfl, ?_⟩) hHeld ?_ ?_
  rotate_left
  · rintro w' ⟨s5, s8⟩
    go_simp
    with_reducible rfl
  rotate_left
  · simp only [pS]
    rfl
  refine one_ (i := 3) (N := some 37) #[true, true, true, true, false, true, true, false, false, false] rfl rfl (one_of HT_.out (by kernel_rfl)) (by decide) (fun K hK => ?_)
  refine goes_ Tryz.func43 (by kernel_rfl) rfl #[.int .u64 ((se : Nat) : Int)] (by rfl) rfl rfl (by (try simp only [List.map_toArray, List.map_cons, List.map_nil]); first | done | rfl) ?_
  with_reducible refine (length_calls se HS.out.2.1 _).mono ?_
  rintro e w5 ⟨rfl, hb5⟩
  refine ⟨_, rfl, ?_⟩
  have n1_ := Aside0.mk ((hb5.block D (blk_lt HD.out)).trans HD.out); have n2_ := Aside0.mk (Below.trans (by first | exact HB.out | exact below_drew1 HB.out) (hb5.mono HB.out.size)); (try (have n3_ := Aside0.mk ((hb5.block g (blk_lt HGR.out)).trans HGR.out); clear HGR; have HGR := n3_; clear n3_)); clear HD HB hb5; have HD := n1_; have HB := n2_; clear n1_ n2_; (try clear cK); have cK := cell_of (i := 0) (v := .int .i64 6) HD.out rfl
  refine hK.out _ _ (⟨cell_of HD.out rfl, cell_of HD.out rfl⟩) (fun hHeld => ?_)
  clear hK K
  refine norm_ (a' := ?_) ?_ ?_
  rotate_left
  · show Act.put _ (some 37) _ = _
    simp only [pS]
    rfl
  refine pure_ (i := 4) (N := some 38) (a' := ?_) #[true, true, true, true, true, true, true, false, false, false] rfl rfl (any_of HT_.out (by kernel_rfl)) (fun _ _ _ h => h) (Or.inl ⟨by rfl, cat_yields _ _ _ _ (by rfl) _ _ (by rfl) (by rfl) (by simp only [List.length_append, List.length_cons, List.length_nil, List.length_replicate, len8_len]; have := HS.out; omega)⟩) ?_ ?_
  rotate_left
  · simp only [pS]
    rfl
  refine one_ (i := 7) (N := some 41) #[true, true, true, true, true, true, true, true, false, false] rfl rfl (one_of HT_.out (by kernel_rfl)) (by decide) (fun K hK => ?_)
  refine goes_ Tryz.func43 (by kernel_rfl) rfl #[.int .u64 ((sq : Nat) : Int)] (by rfl) rfl rfl (by (try simp only [List.map_toArray, List.map_cons, List.map_nil]); first | done | rfl) ?_
  with_reducible refine (length_calls sq HS.out.2.2.1 _).mono ?_
  rintro e w5 ⟨rfl, hb5⟩
  refine ⟨_, rfl, ?_⟩
  have n1_ := Aside0.mk ((hb5.block D (blk_lt HD.out)).trans HD.out); have n2_ := Aside0.mk (Below.trans (by first | exact HB.out | exact below_drew1 HB.out) (hb5.mono HB.out.size)); (try (have n3_ := Aside0.mk ((hb5.block g (blk_lt HGR.out)).trans HGR.out); clear HGR; have HGR := n3_; clear n3_)); clear HD HB hb5; have HD := n1_; have HB := n2_; clear n1_ n2_; (try clear cK); have cK := cell_of (i := 0) (v := .int .i64 6) HD.out rfl
  refine hK.out _ _ (⟨cell_of HD.out rfl, cell_of HD.out rfl⟩) (fun hHeld => ?_)
  clear hK K
  refine norm_ (a' := ?_) ?_ ?_
  rotate_left
  · show Act.put _ (some 41) _ = _
    simp only [pS]
    rfl
  refine pure_ (i := 8) (N := some 42) (a' := ?_) #[true, true, true, true, true, true, true, true, true, false] rfl rfl (any_of HT_.out (by kernel_rfl)) (fun _ _ _ h => h) (Or.inl ⟨by rfl, cat_yields _ _ _ _ (by rfl) _ _ (by rfl) (by rfl) (by simp only [List.length_append, List.length_cons, List.length_nil, List.length_replicate, len8_len]; have := HS.out; omega)⟩) ?_ ?_
  rotate_left
  · simp only [pS]
    rfl
  refine pure_ (i := 9) (N := some 5) (v := ?_) (a' := ?_) #[true, true, true, true, true, true, true, true, true, true] rfl rfl (any_of HT_.out (by kernel_rfl)) (fun _ _ _ h => h) (Or.inl ⟨by rfl, ?_⟩) ?_ ?_
  rotate_left
  · intro w'
    go_simp
    with_reducible rfl
  rotate_left
  · simp only [pS]
    rfl
  refine done_ (done_of HT_.out (by kernel_rfl)) ?_
  clear HT_ HW_ hHeld
  go_upto_region 30 with (first
    | ((with_reducible first | refine at_box_ ?_ | refine at_box2_ ?_); refine wpList_box_v rfl 27 _ rfl (dgr 6 nn ck nm sa da tg ep se sq pl th tr fi bo).cells rfl (by kernel_rfl) ?_; intro D w1 eD hD1 hb1 hz1; have HD := Aside0.mk (show w1.heap[D]? = some (.cells (dgr 6 nn ck nm sa da tg ep se sq pl th tr fi bo).cells.toArray 27 (0, 0)) from hD1.out); have HB := Aside0.mk (show Below w.heap.size w w1 from hb1.out); clear hD1 hb1 hz1 eD; have cK := cell_of (i := 0) (v := .int .i64 6) HD.out rfl)
    | ((with_reducible first | refine at_load_ ?_ | refine at_load2_ ?_); refine wpList_load_agg rfl 27 _ rfl D 0 rfl (dgr 6 nn ck nm sa da tg ep se sq pl th tr fi bo).cells (load_all HD.out) _ Tryz.underlying27 rfl (by kernel_rfl) ?_)
    | (go_at_call 42; (with_reducible refine (FC.out _).mono ?_); rintro e w2 ⟨rfl, hb2⟩; have n1_ := Aside0.mk ((hb2.block D (blk_lt HD.out)).trans HD.out); have n2_ := Aside0.mk (Below.trans (by first | exact HB.out | exact below_drew1 HB.out) (hb2.mono HB.out.size)); (try (have n3_ := Aside0.mk ((hb2.block g (blk_lt HGR.out)).trans HGR.out); clear HGR; have HGR := n3_; clear n3_)); clear HD HB hb2; have HD := n1_; have HB := n2_; clear n1_ n2_; (try clear cK); have cK := cell_of (i := 0) (v := .int .i64 6) HD.out rfl)
    | ((with_reducible first | refine at_load_ ?_ | refine at_load2_ ?_); refine wpList_load_one rfl 3 _ rfl D 0 rfl (dgr 6 nn ck nm sa da tg ep se sq pl th tr fi bo).cells _ _ HD.out _ rfl _ Tryz.underlying3 rfl ?_)
    | ((with_reducible first | refine at_bs_ ?_ | refine at_bs2_ ?_); refine wpList_buildSlice_v rfl 39 5 1 _ rfl Tryz.underlying39 [.int .u8 6] (by kernel_rfl) ?_; intro g w3 eg hg3 hb3' hz3; have hb3 := hb3'.out; have n1_ := Aside0.mk ((hb3.block D (blk_lt HD.out)).trans HD.out); have n2_ := Aside0.mk (Below.trans (by first | exact HB.out | exact below_drew1 HB.out) (hb3.mono HB.out.size)); (try (have n3_ := Aside0.mk ((hb3.block g (blk_lt HGR.out)).trans HGR.out); clear HGR; have HGR := n3_; clear n3_)); clear HD HB hb3; have HD := n1_; have HB := n2_; clear n1_ n2_; (try clear cK); have cK := cell_of (i := 0) (v := .int .i64 6) HD.out rfl; have HGR := Aside0.mk (show w3.heap[g]? = some (.cells [Value.int .u8 ((6 : UInt8).toNat : Int)].toArray 5 (0, 0)) from hg3.out); clear hg3 hb3' hz3 eg)
    | ((with_reducible first | refine at_conv_ ?_ | refine at_conv2_ ?_); refine wpList_string_of rfl _ _ 5 _ rfl (some ⟨g, 0, none⟩) 1 1 rfl [6] rfl (bytes_row1 (x := 6) HGR.out) Tryz.underlying39 (by kernel_rfl) Tryz.underlying5 ?_; clear HGR)
    | ((with_reducible first | refine at_add_ ?_ | refine at_add2_ ?_); refine wpList_cat rfl _ _ _ _ rfl _ _ rfl rfl (by simp only [List.length_append, List.length_cons, List.length_nil, List.length_replicate, len8_len]; have := HS.out; omega) ?_)
    | ((with_reducible first | refine at_load_ ?_ | refine at_load2_ ?_); refine wpList_load_one rfl 9 _ rfl D 13 rfl (dgr 6 nn ck nm sa da tg ep se sq pl th tr fi bo).cells _ _ HD.out _ rfl _ Tryz.underlying9 rfl ?_)
    | ((with_reducible first | refine at_load_ ?_ | refine at_load2_ ?_); refine wpList_load_one rfl 9 _ rfl D 14 rfl (dgr 6 nn ck nm sa da tg ep se sq pl th tr fi bo).cells _ _ HD.out _ rfl _ Tryz.underlying9 rfl ?_))
  obtain ⟨T, eT⟩ : ∃ T, T = str (74 :: 48 :: 49 :: 6 :: (len8 se ++ (len8 sq ++ (da ++ tg)))) := ⟨_, rfl⟩
  have hT : T.size = da.length + 52 := (by rw [eT, str_size]; exact (by simp only [List.length_append, List.length_cons, List.length_nil, List.length_replicate, len8_len]; have := HS.out; omega))
  rw [← eT]
  have ET := Aside0.mk eT.symm
  have ET2 := Aside0.mk eT
  clear eT
  by_cases hc : 1200 < da.length + 52
  · have o1 : decide ((1200 : Int) < (T.size : Int)) = true := decide_eq_true (by omega)
    have o2 : ((1200 : Int) < (T.size : Int)) := (by omega)
    have o3 : (1200 < T.size) := (by omega)
    have HC := Aside0.mk hc
    clear hT hc
    go_wp2
    go_ret2
    have hr := HR.out
    rw [if_pos HC.out] at hr
    obtain ⟨rfl, rfl⟩ := Prod.mk.inj hr
    exact ⟨rfl, HB.out⟩
  · have o1 : decide ((1200 : Int) < (T.size : Int)) = false := decide_eq_false (by omega)
    have o2 : ¬ ((1200 : Int) < (T.size : Int)) := (by omega)
    have o3 : ¬ (1200 < T.size) := (by omega)
    have HC := Aside0.mk hc
    clear hT hc
    go_wp2
    go_ret2
    have hr := HR.out
    rw [if_neg HC.out] at hr
    obtain ⟨h1, rfl⟩ := Prod.mk.inj hr
    have h2 : T = T0 := ET2.out.trans h1.symm
    subst h2
    exact ⟨rfl, HB.out⟩
end Go.Proofs.YtniabkphbnimaaaGreatDoor.Sh
