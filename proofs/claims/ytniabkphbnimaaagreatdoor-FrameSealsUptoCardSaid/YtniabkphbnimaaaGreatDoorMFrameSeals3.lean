/- What the statement FrameSeals leans on, part 3: words, walks and plain laws of this session's own. -/
import Derived.Test.YtniabkphbnimaaaGreatDoorProg
import Derived.Test.YtniabkphbnimaaaGreatDoorMFrameSeals2
import Derived.ArgAppend
import Derived.Below
import Derived.BigQuiet
import Derived.ChangeOld
import Derived.ChangeSame
import Derived.Deep.AppendLies
import Derived.Deep.CutBlock
import Derived.Deep.DeepCutAuto
import Derived.Deep.Draws
import Derived.Deep.LoopGhost
import Derived.Deep.OwnRows
import Derived.Deep.QuietTactic
import Derived.Deep.RegionHeld3
import Derived.Deep.RegionLaw
import Derived.Deep.RegionWith
import Derived.Defers
import Derived.Great.Walk
import Derived.KernelRfl
import Derived.Laws.AppendOwn
import Derived.Laws.BitsLemmas
import Derived.Laws.BytesArg
import Derived.Laws.CopyOwn
import Derived.Laws.CopyRow
import Derived.Laws.IdiomCopy
import Derived.Laws.IdiomStrings
import Derived.Laws.MakeOwn
import Derived.Laws.OwnMore
import Derived.Laws.Rows
import Derived.Laws.Slices
import Derived.Lib.AppendStr
import Derived.Lib.ConvBytes
import Derived.Lib.LaidTab
import Derived.Maps.AppendAt
import Derived.Maps.OwnSet
import Derived.OpenShut
import Derived.OrdersHeld
import Derived.OwnWalk
import Derived.ProofKit
import Derived.Recover
import Derived.RowKit
import Derived.RowKit3
import Derived.Shelf.Strings.Repeat
import Derived.Shelf.Strings.Trim
import Derived.ShutString
import Derived.SizedLaws
import Derived.Tactics
import Derived.WalkKit
import Derived.WalkSmall
import Derived.WideLaws
set_option linter.unusedVariables false
set_option linter.unusedSimpArgs false
namespace Go.Proofs.YtniabkphbnimaaaGreatDoor.Sh
open Go Go.RowKit Go.Maps Go.Proofs.YtniabkphbnimaaaGreatDoorW.PrintWords Go.Proofs.YtniabkphbnimaaaGreatDoorW.PrintLast Go.Proofs.YtniabkphbnimaaaGreatDoor.Bs
def T_7_15 : Bool × List (List Nat × List Nat) := (true, [([], []), ([0], [0]), ([1], [1]), ([2], [2]), ([2], [2]), ([2], [2]), ([4, 5, 2], [2, 4, 5]), ([3, 6, 2], [2, 3, 6]), ([2, 7], [2, 7]), ([8, 2], [8]), ([9], [9]), ([9], [9]), ([11, 9, 9], [9, 11]), ([10, 12, 9], [9, 10, 12]), ([9, 13], [9, 13]), ([14, 12], [14]), ([15], [15]), ([15], [15]), ([16, 17, 15, 15], [15, 16, 17]), ([18, 15], [15, 18]), ([15, 19], [15, 19])])
def B_7_15 : List Nat := [0, 1, 3, 7, 7, 7, 55, 127, 255, 511, 1023, 1023, 3071, 8191, 16383, 32767, 65535, 65535, 262143, 524287, 1048575]
theorem tab_f7_15 : rtab .any (opsOf Tryz.f7 15) = T_7_15 := by kernel_rfl
theorem bits_f7_15 : waitsOk T_7_15.2 B_7_15 = true := by kernel_rfl
def T_7_21 : Bool × List (List Nat × List Nat) := (true, [([], []), ([], []), ([1], [1]), ([2], [2]), ([], []), ([3, 4], [3, 4]), ([], []), ([], []), ([7], [7]), ([8], [8]), ([], []), ([9, 10], [9, 10]), ([6, 11], [6, 11]), ([12], [12]), ([], []), ([14], [14]), ([15], [15]), ([13, 16], [13, 16]), ([0, 5, 0, 1, 2, 3, 4, 5, 6, 7, 8, 9, 10, 11, 12, 13, 14, 15, 16, 17], [0, 5]), ([18, 17, 0, 1, 2, 3, 4, 5, 6, 7, 8, 9, 10, 11, 12, 13, 14, 15, 16, 17], [17, 18])])
def B_7_21 : List Nat := [0, 0, 2, 6, 0, 30, 0, 0, 128, 384, 0, 1920, 4032, 8128, 0, 16384, 49152, 131008, 262143, 524287]
theorem tab_f7_21 : rtab .any (opsOf Tryz.f7 21) = T_7_21 := by kernel_rfl
theorem bits_f7_21 : waitsOk T_7_21.2 B_7_21 = true := by kernel_rfl
def T_7_27 : Bool × List (List Nat × List Nat) := (true, [([], []), ([], []), ([0, 1], [0, 1]), ([], []), ([], []), ([3, 4, 2], [3, 4]), ([], []), ([5, 6], [5, 6]), ([2, 7], [2, 7]), ([8, 5], [8]), ([9], [9]), ([9], [9]), ([10, 11, 9, 9], [9, 10, 11]), ([9], [9]), ([9], [9]), ([14, 12, 9], [9, 14]), ([13, 15, 15, 9], [9, 13, 15]), ([9], [9]), ([16, 17, 9], [9, 16, 17]), ([12, 18, 9], [9, 12, 18]), ([9, 19], [9, 19]), ([20, 16], [20]), ([21], [21]), ([21], [21]), ([23, 21], [21, 23]), ([24, 21], [21, 24]), ([22, 25, 21], [21, 22, 25]), ([21], [21]), ([27, 21], [21, 27]), ([26, 28, 21, 21], [21, 26, 28]), ([29, 21], [21, 29]), ([21], [21]), ([31, 21], [21, 31]), ([21], [21]), ([21], [21]), ([34, 21], [21, 34]), ([35, 21], [21, 35]), ([33, 36, 21], [21, 33, 36]), ([37, 29, 21], [21, 37]), ([32, 38, 38, 21], [21, 32, 38]), ([21], [21]), ([21], [21]), ([41, 21], [21, 41]), ([42, 21], [21, 42]), ([40, 43, 21], [21, 40, 43]), ([44, 39, 21], [21, 44]), ([39, 45, 21], [21, 39, 45]), ([46, 21], [21, 46]), ([30, 47, 21], [21, 30, 47]), ([21, 48], [21, 48]), ([49, 45, 0, 1, 2, 3, 4, 5, 6, 7, 8, 9, 10, 11, 12, 13, 14, 15, 16, 17, 18, 19, 20, 21, 22, 23, 24, 25, 26, 27, 28, 29, 30, 31, 32, 33, 34, 35, 36, 37, 38, 39, 40, 41, 42, 43, 44, 45, 46, 47, 48, 49], [49])])
def B_7_27 : List Nat := [0, 0, 3, 0, 0, 31, 0, 127, 255, 511, 1023, 1023, 4095, 1023, 1023, 24575, 65535, 1023, 262143, 524287, 1048575, 2097151, 4194303, 4194303, 12582911, 29360127, 67108863, 4194303, 138412031, 536870911, 1073741823, 4194303, 2151677951, 4194303, 4194303, 17184063487, 51543801855, 128853213183, 267361714175, 548682072063, 4194303, 4194303, 2199027449855, 6597073960959, 16492678610943, 35183298347007, 70367670435839, 140736414613503, 281474976710655, 562949953421311, 1125899906842623]
theorem tab_f7_27 : rtab .any (opsOf Tryz.f7 27) = T_7_27 := by kernel_rfl
theorem bits_f7_27 : waitsOk T_7_27.2 B_7_27 = true := by kernel_rfl
set_option maxHeartbeats 8000000 in
set_option maxRecDepth 100000 in
theorem seals_walk (d : Dg) (k o : ByteArray) (w : World) (P T : List UInt8) (hg : GL w) (hd : d.ok) (hkd : -9223372036854775808 ≤ d.kind ∧ d.kind ≤ 9223372036854775807) (hk : k.size ≤ 1048576) (ho : o.size ≤ 1048576) (hP : headed P) (h20 : 20 ≤ P.length) (hle : P.length + 32 ≤ 1200) (hT : T = hmac (bl k) P) (hTl : T.length = 32) (hseal : sealB d (bl k) = (str (P ++ T), 0)) (hdec : dec (P ++ T) = (onlyD (tagged d T), 0)) (h17 : 1 ≤ d.kind ∧ d.kind ≤ 7) : Calls Tryz.prog 7 #[.agg d.cells.toArray, .string k, .string o] w fun e w' => e = .returned (.bool true) ∧ Below w.heap.size w w' := by
  have HG := Aside0.mk hg
  have hl : (P ++ T).length = P.length + 32 := by rw [List.length_append, hTl]
  obtain ⟨s, es⟩ : ∃ s, s = str (P ++ T) := ⟨_, rfl⟩
  obtain ⟨b, eb⟩ : ∃ b, b = str P := ⟨_, rfl⟩
  obtain ⟨t, et⟩ : ∃ t, t = str T := ⟨_, rfl⟩
  obtain ⟨y, ey⟩ : ∃ y, y = tagged d T := ⟨_, rfl⟩
  obtain ⟨x, ex⟩ : ∃ x, x = onlyD (tagged d T) := ⟨_, rfl⟩
  obtain ⟨n, en⟩ : ∃ n, n = P.length := ⟨_, rfl⟩
  have hss : s.size = n + 32 := by rw [es, en]; exact hl
  have hbs : b.size = n := by rw [eb, en]; rfl
  have hts : t.size = 32 := by rw [et]; exact hTl
  have AC := Aside0.mk alive_calls
  have SC := Aside0.mk (show ∀ w, GL w → Calls Tryz.prog 18 #[.agg d.cells.toArray, .string k] w fun e w' => e = .returned (.tuple #[.string s, .int .i64 0]) ∧ Below w.heap.size w w' from fun w hg => by
    have h := seal_calls d k w hg hd hkd (by omega)
    rw [hseal, ← es] at h
    exact h)
  have BC := Aside0.mk (show ∀ w, Calls Tryz.prog 12 #[.string s] w fun e w' => e = .returned (.string b) ∧ Below w.heap.size w w' from fun w => by
    have h := body_calls (P ++ T) (by omega) w
    rw [body_headed P T hP hTl, ← es, ← eb] at h
    exact h)
  have TC := Aside0.mk (show ∀ w, GL w → Calls Tryz.prog 23 #[.string k, .string b] w fun e w' => e = .returned (.string t) ∧ Below w.heap.size w w' from fun w hg => by
    have h := tag_calls k b w hg (by omega) (by omega)
    rw [show bl b = P by rw [eb]; rfl, ← hT, ← et] at h
    exact h)
  have DC := Aside0.mk (show ∀ w, Calls Tryz.prog 10 #[.string s] w fun e w' => e = .returned (.tuple #[.agg x.cells.toArray, .int .i64 0]) ∧ Below w.heap.size w w' from fun w => by
    have h := decode_calls (P ++ T) w
    rw [hdec, ← es] at h
    rw [ex]
    exact h)
  have OC := Aside0.mk (show ∀ w, Calls Tryz.prog 20 #[.agg y.cells.toArray] w fun e w' => e = .returned (.agg x.cells.toArray) ∧ Below w.heap.size w w' from fun w => by rw [ey, ex]; exact only_calls (tagged d T) h17 w)
  have S1 := Aside0.mk (show ∀ w, GL w → Calls Tryz.prog 14 #[.string s, .string k] w fun e w' => e = .returned (.bool true) ∧ Below w.heap.size w w' from fun w hg => by
    have h := sealed_calls (P ++ T) k w hg (by omega) (by omega)
    rw [sealed_headed P T (bl k) hP hTl, decide_eq_true hT, ← es] at h
    exact h)
  have HZD := Aside0.mk (show d.cells.set 14 (.string t) = y.cells from by rw [ey, et]; rfl)
  have HCAT := Aside0.mk (show b ++ t = s from by rw [eb, et, es]; exact str_cat P T)
  have HCZ := Aside0.mk (show b.size + t.size ≤ 9223372036854775807 by omega)
  have o1 : decide ((s.size : Int) < 52) = false := decide_eq_false (by omega)
  have o2 : decide (s.size < 52) = false := decide_eq_false (by omega)
  have o3 : wrap64 ((s.size : Int) - 32) = (b.size : Int) := by rw [hss, hbs]; unfold wrap64; omega
  have HHY := Aside0.mk (show headed P ∧ 20 ≤ P.length ∧ P.length + 32 ≤ 1200 ∧ T = hmac (bl k) P ∧ T.length = 32 ∧ k.size ≤ 1048576 ∧ o.size ≤ 1048576 ∧ s = str (P ++ T) ∧ b = str P ∧ t = str T ∧ n = P.length from ⟨hP, h20, hle, hT, hTl, hk, ho, es, eb, et, en⟩)
  have HSZ := Aside0.mk (show s.size = n + 32 ∧ b.size = n ∧ t.size = 32 from ⟨hss, hbs, hts⟩)
  clear hg hd hkd hk ho hP h20 hle hT hTl hseal hdec h17 hl es eb et ey ex en hss hbs hts
  go_enter Tryz.func7, Tryz.ntmps7
  go_upto_region 15 with (first
    | ((with_reducible first | refine at_box_ ?_ | refine at_box2_ ?_); refine wpList_box_v rfl 27 _ rfl d.cells rfl (by kernel_rfl) ?_; intro D w1 eD hD1 hb1 hz1; have HDD := Aside0.mk (show w.heap.size ≤ D from Nat.le_of_eq eD.out.symm); have HD := Aside0.mk (show w1.heap[D]? = some (.cells d.cells.toArray 27 (0, 0)) from hD1.out); have HB := Aside0.mk (show Below w.heap.size w w1 from hb1.out); clear hD1 hb1 hz1 eD)
    | (go_at_call 9; (with_reducible refine (AC.out _ (gl_below HG.out HB.out)).mono ?_); rintro e w9 ⟨rfl, hb9⟩; have n1_ := Aside0.mk (Below.trans (by first | exact HB.out | exact below_drew1 HB.out) (hb9.mono HB.out.size)); have n2_ := Aside0.mk ((hb9.block D (blk_lt HD.out)).trans HD.out); clear HB HD; have HB := n1_; have HD := n2_; clear n1_ n2_; clear hb9)
    | ((with_reducible first | refine at_load_ ?_ | refine at_load2_ ?_); refine wpList_load_agg rfl 27 _ rfl D 0 rfl d.cells (load_all HD.out) _ Tryz.underlying27 rfl (by kernel_rfl) ?_)
    | (go_at_call 18; (with_reducible refine (SC.out _ (gl_below HG.out HB.out)).mono ?_); rintro e w9 ⟨rfl, hb9⟩; have n1_ := Aside0.mk (Below.trans (by first | exact HB.out | exact below_drew1 HB.out) (hb9.mono HB.out.size)); have n2_ := Aside0.mk ((hb9.block D (blk_lt HD.out)).trans HD.out); clear HB HD; have HB := n1_; have HD := n2_; clear n1_ n2_; clear hb9)
    | (go_at_call 12; (with_reducible refine (BC.out _).mono ?_); rintro e w9 ⟨rfl, hb9⟩; have n1_ := Aside0.mk (Below.trans (by first | exact HB.out | exact below_drew1 HB.out) (hb9.mono HB.out.size)); have n2_ := Aside0.mk ((hb9.block D (blk_lt HD.out)).trans HD.out); clear HB HD; have HB := n1_; have HD := n2_; clear n1_ n2_; clear hb9)
    | (go_at_call 23; (with_reducible refine (TC.out _ (gl_below HG.out HB.out)).mono ?_); rintro e w9 ⟨rfl, hb9⟩; have n1_ := Aside0.mk (Below.trans (by first | exact HB.out | exact below_drew1 HB.out) (hb9.mono HB.out.size)); have n2_ := Aside0.mk ((hb9.block D (blk_lt HD.out)).trans HD.out); clear HB HD; have HB := n1_; have HD := n2_; clear n1_ n2_; clear hb9)
    | (go_at_call 10; (with_reducible refine (DC.out _).mono ?_); rintro e w9 ⟨rfl, hb9⟩; have n1_ := Aside0.mk (Below.trans (by first | exact HB.out | exact below_drew1 HB.out) (hb9.mono HB.out.size)); have n2_ := Aside0.mk ((hb9.block D (blk_lt HD.out)).trans HD.out); clear HB HD; have HB := n1_; have HD := n2_; clear n1_ n2_; clear hb9)
    | ((with_reducible first | refine at_alloc_ ?_ | refine at_alloc2_ ?_); refine wpList_alloc_v rfl 27 rfl Dg.zero.cells (by kernel_rfl) ?_; intro E w4 eE hE2 hb4 hz4; have HEE := Aside0.mk (show w.heap.size ≤ E ∧ D ≠ E from by have := eE.out; have := HB.out.size; have := blk_lt HD.out; omega); have n2_ := Aside0.mk ((hb4.out.block D (blk_lt HD.out)).trans HD.out); have n1_ := Aside0.mk (HB.out.trans (hb4.out.mono HB.out.size)); clear HB HD; have HB := n1_; have HD := n2_; clear n1_ n2_ hb4 hz4 eE)
    | ((with_reducible first | refine at_store_ ?_ | refine at_store2_ ?_); refine wpList_store_agg rfl 27 _ _ rfl E 0 rfl x.cells Dg.zero.cells rfl _ hE2.out (by exact Nat.le_refl 15) (fun v hv => one_cells hv) (by kernel_rfl) ?_; intro w5 hE3 hm5 hz5; rw [splice_all Dg.zero.cells x.cells rfl] at hE3; have HE := Aside0.mk hE3.out; have n2_ := Aside0.mk (hm5.out.blk HD.out HEE.out.2); have n1_ := Aside0.mk (toBelow' HB.out hm5.out HEE.out.1); clear HB HD; have HB := n1_; have HD := n2_; clear n1_ n2_ hE2 hE3 hm5 hz5)
    | ((with_reducible first | refine at_store_ ?_ | refine at_store2_ ?_); refine wpList_store_cell rfl 9 _ _ rfl D 14 rfl (.string t) rfl _ _ HD.out (by exact (by decide : 14 < 15)) rfl (by kernel_rfl) ?_; intro w4 hO4 hm4 hz4; have n2_ := Aside0.mk (show w4.heap[D]? = some (.cells y.cells.toArray 27 (0, 0)) from by rw [← HZD.out]; exact hO4.out); have n3_ := Aside0.mk (hm4.out.blk HE.out HEE.out.2.symm); have n1_ := Aside0.mk (toBelow' HB.out hm4.out HDD.out); clear HB HD HE hO4 hm4 hz4; have HB := n1_; have HD := n2_; have HE := n3_; clear n1_ n2_ n3_))
  refine start_ (n := 21) (S := fun w' => w'.heap[D]? = some (.cells y.cells.toArray 27 (0, 0)) ∧ w'.heap[E]? = some (.cells x.cells.toArray 27 (0, 0))) (ds := []) #[false, false, false, false, false, false, false, false, false, false, false, false, false, false, false, false, false, false, false, false, false] (by kernel_rfl) rfl rfl ⟨HD.out, HE.out⟩ (fun hHeld => ?_)
  refine with_tabW tab_f7_15 bits_f7_15 (fun HT_ HW_ => ?_)
  refine pure_ (i := 0) (N := some 100) (v := ?_) (a' := ?_) #[true, false, false, false, false, false, false, false, false, false, false, false, false, false, false, false, false, false, false, false, false] rfl rfl (any_of HT_.out (by kernel_rfl)) (fun _ _ _ h => h) (Or.inl ⟨by rfl, ?_⟩) ?_ ?_
  rotate_left
  · intro w'
    go_simp
    with_reducible rfl
  rotate_left
  · simp only [pS]
    rfl
  refine pure_ (i := 1) (N := some 101) (v := ?_) (a' := ?_) #[true, true, false, false, false, false, false, false, false, false, false, false, false, false, false, false, false, false, false, false, false] rfl rfl (any_of HT_.out (by kernel_rfl)) (fun _ _ _ h => h) (Or.inl ⟨by rfl, ?_⟩) ?_ ?_
  rotate_left
  · intro w'
    go_simp
    with_reducible rfl
  rotate_left
  · simp only [pS]
    rfl
  refine pure_ (i := 2) (N := some 102) (v := ?_) (a' := ?_) #[true, true, true, false, false, false, false, false, false, false, false, false, false, false, false, false, false, false, false, false, false] rfl rfl (any_of HT_.out (by kernel_rfl)) (fun _ _ _ h => h) (Or.inl ⟨by rfl, ?_⟩) ?_ ?_
  rotate_left
  · intro w'
    go_simp
    with_reducible rfl
  rotate_left
  · simp only [pS]
    rfl
  refine pure_ (i := 3) (N := some 103) (v := ?_) (a' := ?_) #[true, true, true, true, false, false, false, false, false, false, false, false, false, false, false, false, false, false, false, false, false] rfl rfl (any_of HT_.out (by kernel_rfl)) (fun _ _ _ h => h) (Or.inl ⟨by rfl, ?_⟩) ?_ ?_
  rotate_left
  · intro w'
    go_simp
    with_reducible rfl
  rotate_left
  · simp only [pS]
    rfl
  refine pure_ (i := 4) (N := some 104) (v := ?_) (a' := ?_) #[true, true, true, true, true, false, false, false, false, false, false, false, false, false, false, false, false, false, false, false, false] rfl rfl (any_of HT_.out (by kernel_rfl)) (fun _ _ _ h => h) (Or.inl ⟨by rfl, ?_⟩) ?_ ?_
  rotate_left
  · intro w'
    go_simp
    with_reducible rfl
  rotate_left
  · simp only [pS]
    rfl
  refine pure_ (i := 5) (N := some 105) (v := ?_) (a' := ?_) #[true, true, true, true, true, true, false, false, false, false, false, false, false, false, false, false, false, false, false, false, false] rfl rfl (any_of HT_.out (by kernel_rfl)) (fun _ _ _ h => h) (Or.inl ⟨by rfl, ?_⟩) ?_ ?_
  rotate_left
  · intro w'
    go_simp
    with_reducible rfl
  rotate_left
  · simp only [pS]
    rfl
  refine pure_ (i := 6) (N := some 106) (a' := ?_) #[true, true, true, true, true, true, true, false, false, false, false, false, false, false, false, false, false, false, false, false, false] rfl rfl (any_of HT_.out (by kernel_rfl)) (fun _ _ _ h => h) (Or.inl ⟨by rfl, cat_is_yields _ _ _ _ (by rfl) b t s (by rfl) (by rfl) HCAT.out HCZ.out⟩) ?_ ?_
  rotate_left
  · simp only [pS]
    rfl
  refine pure_ (i := 7) (N := some 107) (a' := ?_) #[true, true, true, true, true, true, true, true, false, false, false, false, false, false, false, false, false, false, false, false, false] rfl rfl (any_of HT_.out (by kernel_rfl)) (fun _ _ _ h => h) (Or.inl ⟨by rfl, strne_yields _ _ _ _ (by rfl) s s (by rfl) (by rfl) false (by simp)⟩) ?_ ?_
  rotate_left
  · simp only [pS]
    rfl
  refine pure_ (i := 8) (N := some 108) (v := ?_) (a' := ?_) #[true, true, true, true, true, true, true, true, true, false, false, false, false, false, false, false, false, false, false, false, false] rfl rfl (any_of HT_.out (by kernel_rfl)) (fun _ _ _ h => h) (Or.inl ⟨by rfl, ?_⟩) ?_ ?_
  rotate_left
  · intro w'
    go_simp
    with_reducible rfl
  rotate_left
  · simp only [pS]
    rfl
  refine pure_ (i := 9) (N := some 109) (v := ?_) (a' := ?_) #[true, true, true, true, true, true, true, true, true, true, false, false, false, false, false, false, false, false, false, false, false] rfl rfl (any_of HT_.out (by kernel_rfl)) (fun _ _ _ h => h) (Or.inl ⟨by rfl, ?_⟩) ?_ ?_
  rotate_left
  · intro w'
    go_simp
    with_reducible rfl
  rotate_left
  · simp only [pS]
    rfl
  refine take_ (i := 10) (N := some 110) (a' := ?_) #[true, true, true, true, true, true, true, true, true, true, true, false, false, false, false, false, false, false, false, false, false] rfl rfl (take_ofW HT_.out HW_.out (by kernel_rfl)) (fun _ _ _ h => h) (Or.inl ⟨by rfl, fun w' s => ldagg_yields 27 _ (by rfl) E 0 (by rfl) x.cells (load_all s.2) _ Tryz.underlying27 rfl (by kernel_rfl)⟩) hHeld ?_ ?_
  rotate_left
  · simp only [pS]
    rfl
  refine take_ (i := 11) (N := some 111) (a' := ?_) #[true, true, true, true, true, true, true, true, true, true, true, true, false, false, false, false, false, false, false, false, false] rfl rfl (take_ofW HT_.out HW_.out (by kernel_rfl)) (fun _ _ _ h => h) (Or.inl ⟨by rfl, fun w' s => ldagg_yields 27 _ (by rfl) D 0 (by rfl) y.cells (load_all s.1) _ Tryz.underlying27 rfl (by kernel_rfl)⟩) hHeld ?_ ?_
  rotate_left
  · simp only [pS]
    rfl
  refine one_ (i := 12) (N := some 112) #[true, true, true, true, true, true, true, true, true, true, true, true, true, false, false, false, false, false, false, false, false] rfl rfl (one_of HT_.out (by kernel_rfl)) (by decide) (fun K hK => ?_)
  refine goes_ Tryz.func20 (by kernel_rfl) rfl #[.agg y.cells.toArray] (by rfl) rfl rfl (by (try simp only [List.map_toArray, List.map_cons, List.map_nil]); first | done | rfl) ?_
  with_reducible refine (OC.out _).mono ?_
  rintro e w9 ⟨rfl, hb9⟩
  refine ⟨_, rfl, ?_⟩
  have n1_ := Aside0.mk (Below.trans (by first | exact HB.out | exact below_drew1 HB.out) (hb9.mono HB.out.size)); have n2_ := Aside0.mk ((hb9.block D (blk_lt HD.out)).trans HD.out); clear HB HD; have HB := n1_; have HD := n2_; clear n1_ n2_
  have n1_ := Aside0.mk ((hb9.block E (blk_lt HE.out)).trans HE.out); clear HE; have HE := n1_; clear n1_
  clear hb9
  refine hK.out _ _ ⟨HD.out, HE.out⟩ (fun hHeld => ?_)
  clear hK K
  refine norm_ (a' := ?_) ?_ ?_
  rotate_left
  · show Act.put _ (some 112) _ = _
    simp only [pS]
    rfl
  refine one_ (i := 13) (N := some 113) #[true, true, true, true, true, true, true, true, true, true, true, true, true, true, false, false, false, false, false, false, false] rfl rfl (one_of HT_.out (by kernel_rfl)) (by decide) (fun K hK => ?_)
  refine step_w rfl (wp_dgne x x rfl _ _ _ rfl rfl rfl ?_)
  refine hK.out _ _ ⟨HD.out, HE.out⟩ (fun hHeld => ?_)
  clear hK K
  refine norm_ (a' := ?_) ?_ ?_
  rotate_left
  · show Act.put _ (some 113) _ = _
    simp only [pS]
    rfl
  refine pure_ (i := 14) (N := some 114) (v := ?_) (a' := ?_) #[true, true, true, true, true, true, true, true, true, true, true, true, true, true, true, false, false, false, false, false, false] rfl rfl (any_of HT_.out (by kernel_rfl)) (fun _ _ _ h => h) (Or.inl ⟨by rfl, ?_⟩) ?_ ?_
  rotate_left
  · intro w'
    go_simp
    with_reducible rfl
  rotate_left
  · simp only [pS]
    rfl
  refine pure_ (i := 15) (N := some 115) (v := ?_) (a' := ?_) #[true, true, true, true, true, true, true, true, true, true, true, true, true, true, true, true, false, false, false, false, false] rfl rfl (any_of HT_.out (by kernel_rfl)) (fun _ _ _ h => h) (Or.inl ⟨by rfl, ?_⟩) ?_ ?_
  rotate_left
  · intro w'
    go_simp
    with_reducible rfl
  rotate_left
  · simp only [pS]
    rfl
  refine pure_ (i := 16) (N := some 116) (v := ?_) (a' := ?_) #[true, true, true, true, true, true, true, true, true, true, true, true, true, true, true, true, true, false, false, false, false] rfl rfl (any_of HT_.out (by kernel_rfl)) (fun _ _ _ h => h) (Or.inl ⟨by rfl, ?_⟩) ?_ ?_
  rotate_left
  · intro w'
    go_simp
    with_reducible rfl
  rotate_left
  · simp only [pS]
    rfl
  refine pure_ (i := 17) (N := some 117) (v := ?_) (a' := ?_) #[true, true, true, true, true, true, true, true, true, true, true, true, true, true, true, true, true, true, false, false, false] rfl rfl (any_of HT_.out (by kernel_rfl)) (fun _ _ _ h => h) (Or.inl ⟨by rfl, ?_⟩) ?_ ?_
  rotate_left
  · intro w'
    go_simp
    with_reducible rfl
  rotate_left
  · simp only [pS]
    rfl
  refine one_ (i := 18) (N := some 118) #[true, true, true, true, true, true, true, true, true, true, true, true, true, true, true, true, true, true, true, false, false] rfl rfl (one_of HT_.out (by kernel_rfl)) (by decide) (fun K hK => ?_)
  refine goes_ Tryz.func14 (by kernel_rfl) rfl #[.string s, .string k] (by rfl) rfl rfl (by (try simp only [List.map_toArray, List.map_cons, List.map_nil]); first | done | rfl) ?_
  with_reducible refine (S1.out _ (gl_below HG.out (by first | exact HB.out | exact below_drew1 HB.out))).mono ?_
  rintro e w9 ⟨rfl, hb9⟩
  refine ⟨_, rfl, ?_⟩
  have n1_ := Aside0.mk (Below.trans (by first | exact HB.out | exact below_drew1 HB.out) (hb9.mono HB.out.size)); have n2_ := Aside0.mk ((hb9.block D (blk_lt HD.out)).trans HD.out); clear HB HD; have HB := n1_; have HD := n2_; clear n1_ n2_
  have n1_ := Aside0.mk ((hb9.block E (blk_lt HE.out)).trans HE.out); clear HE; have HE := n1_; clear n1_
  clear hb9
  refine hK.out _ _ ⟨HD.out, HE.out⟩ (fun hHeld => ?_)
  clear hK K
  refine norm_ (a' := ?_) ?_ ?_
  rotate_left
  · show Act.put _ (some 118) _ = _
    simp only [pS]
    rfl
  refine pure_ (i := 19) (N := some 119) (v := ?_) (a' := ?_) #[true, true, true, true, true, true, true, true, true, true, true, true, true, true, true, true, true, true, true, true, false] rfl rfl (any_of HT_.out (by kernel_rfl)) (fun _ _ _ h => h) (Or.inl ⟨by rfl, ?_⟩) ?_ ?_
  rotate_left
  · intro w'
    go_simp
    with_reducible rfl
  rotate_left
  · simp only [pS]
    rfl
  refine pure_ (i := 20) (N := some 120) (v := ?_) (a' := ?_) #[true, true, true, true, true, true, true, true, true, true, true, true, true, true, true, true, true, true, true, true, true] rfl rfl (any_of HT_.out (by kernel_rfl)) (fun _ _ _ h => h) (Or.inl ⟨by rfl, ?_⟩) ?_ ?_
  rotate_left
  · intro w'
    go_simp
    with_reducible rfl
  rotate_left
  · simp only [pS]
    rfl
  refine done_ (done_of HT_.out (by kernel_rfl)) ?_
  clear HT_ HW_ hHeld
  go_wp2
  have n1_ := Aside0.mk (show Below w.heap.size w _ from HB.out)
  clear HB HD HE HEE HDD HZD HCAT HCZ OC DC AC SC
  have HB := n1_
  clear n1_
  obtain ⟨n1, en1⟩ : ∃ n1, n1 = n + 31 := ⟨_, rfl⟩
  have EN := Aside0.mk en1
  have HNN := Aside0.mk (show n + 32 ≤ 1200 ∧ 20 ≤ n from by rw [HHY.out.2.2.2.2.2.2.2.2.2.2]; exact ⟨HHY.out.2.2.1, HHY.out.2.1⟩)
  have z1 : wrap64 ((s.size : Int) - 1) = (n1 : Int) := (len_one HSZ.out.1 en1 HNN.out.1).1
  clear en1
  rename World => w1
  go_loopw [17] (fun iv wq => ∃ i : Nat, iv = .int .i64 (i : Int) ∧ i ≤ 32 ∧ Below w.heap.size w wq) (fun iv _ => 32 - (intOf iv).toNat)
  case atStart => exact ⟨0, rfl, by omega, HB.out⟩
  case round =>
    as_aux_lemma =>
      obtain ⟨i, rfl, hi, hb⟩ := hrel
      clear HB
      have HB := Aside0.mk hb
      clear hb
      by_cases hk2 : i < 32
      · as_aux_lemma =>
          have q1 : decide ((i : Int) < 32) = true := decide_eq_true (by omega)
          have HI2 := Aside0.mk hk2
          have q2 : ((i : Int) < 32) = True := eq_true (by omega)
          obtain ⟨j, ej⟩ : ∃ j, j = n1 - i := ⟨_, rfl⟩
          have EJ := Aside0.mk ej
          have hidx := idx_facts HSZ.out.1 EN.out HNN.out.1 hk2
          rw [← ej] at hidx
          have z2 : wrap64 ((n1 : Int) - (i : Int)) = (j : Int) := hidx.2.1
          have z3 : wrap64 ((i : Int) + 1) = ((i + 1 : Nat) : Int) := hidx.2.2.1
          have hjs : j < s.size := hidx.1
          have HJN := Aside0.mk hidx.2.2.2
          clear hidx
          have q3 : decide ((j : Int) < (s.size : Int)) = true := decide_eq_true (int_lt hjs)
          have q4 : decide (j < s.size) = true := decide_eq_true hjs
          have q5 : (j < s.size) = True := eq_true hjs
          have q6 : ((j : Int) < (s.size : Int)) = True := eq_true (int_lt hjs)
          obtain ⟨r, er⟩ : ∃ r, r = i % 8 := ⟨_, rfl⟩
          have z4 : Int.tmod (i : Int) 8 = (r : Int) := by rw [er]; rfl
          have hlen : s.data.toList.length = s.size := rfl
          obtain ⟨x, hx⟩ : ∃ x, s.data.toList[j]? = some x := ⟨_, List.getElem?_eq_getElem (by rw [hlen]; exact hjs)⟩
          have HX := Aside0.mk hx
          obtain ⟨m, hm0, hm⟩ := flip_m r (by rw [er]; exact Nat.mod_lt _ (by decide))
          have HM := Aside0.mk hm
          have XM := Aside0.mk (show Go.bits .xor .u8 (x.toNat : Int) (m.toNat : Int) = ((x ^^^ m : UInt8).toNat : Int) from xor8 x m)
          have FC := Aside0.mk (show ∀ w, GL w → Calls Tryz.prog 14 #[.string ⟨(s.data.toList.set j (x ^^^ m)).toArray⟩, .string k] w fun e w' => e = .returned (.bool false) ∧ Below w.heap.size w w' from fun w hg => by
            obtain ⟨hP, h20, hle, hT, hTl, hk, ho, es, eb, et, en⟩ := HHY.out
            have hsl : s.data.toList = P ++ T := by rw [es]; rfl
            have hjj : j = P.length + 31 - i := by rw [← en]; exact HJN.out
            have h := sealed_calls ((P ++ T).set j (x ^^^ m)) k w hg (by rw [List.length_set, List.length_append]; omega) (by omega)
            have hx2 : (P ++ T)[P.length + 31 - i]? = some x := by rw [← hjj, ← hsl]; exact HX.out
            have hf := flipped P T (bl k) hP hT i hk2 m hm0 x hx2
            rw [← hjj] at hf
            rw [hf] at h
            rw [hsl]
            exact h)
          have HLEN := Aside0.mk (show (s.data.toList.set j (x ^^^ m)).length = s.size from by rw [List.length_set]; rfl)
          have HJS := Aside0.mk (show j < s.data.toList.length from hjs)
          clear hk2 hi ej hjs hlen hx hm0 hm er
          go_upto_region 21 with ((with_reducible first | refine at_conv_ ?_ | refine at_conv2_ ?_); refine wpList_bytes_row rfl 9 39 5 _ rfl s rfl (by kernel_rfl) Tryz.underlying39 Tryz.underlying5 ?_; intro g c w2 eg hr2 hb2 hz2 hc2; have HGG := Aside0.mk (show w.heap.size ≤ g from by have := eg.out; have := HB.out.size; omega); have n1_ := Aside0.mk (HB.out.trans (hb2.out.mono HB.out.size)); clear HB; have HB := n1_; clear n1_; have HR := Aside0.mk hr2.out; clear eg hr2 hb2 hz2 hc2)
          have c1 := HR.out.cell HX.out
          refine start_ (n := 20) (S := fun w' => w'.cell? ⟨g, j, none⟩ = some (.int .u8 (x.toNat : Int))) (ds := [19]) #[false, false, false, false, false, false, false, false, false, false, false, false, false, false, false, false, false, false, false, false] (by kernel_rfl) rfl rfl c1 (fun hHeld => ?_)
          refine with_tabW tab_f7_21 bits_f7_21 (fun HT_ HW_ => ?_)
          refine pure_ (i := 0) (N := some 127) (v := ?_) (a' := ?_) #[true, false, false, false, false, false, false, false, false, false, false, false, false, false, false, false, false, false, false, false] rfl rfl (any_of HT_.out (by kernel_rfl)) (fun _ _ _ h => h) (Or.inl ⟨by rfl, ?_⟩) ?_ ?_
          rotate_left
          · intro w'
            go_simp
            with_reducible rfl
          rotate_left
          · simp only [pS]
            rfl
          refine pure_ (i := 1) (N := some 128) (v := ?_) (a' := ?_) #[true, true, false, false, false, false, false, false, false, false, false, false, false, false, false, false, false, false, false, false] rfl rfl (any_of HT_.out (by kernel_rfl)) (fun _ _ _ h => h) (Or.inl ⟨by rfl, ?_⟩) ?_ ?_
          rotate_left
          · intro w'
            go_simp
            with_reducible rfl
          rotate_left
          · simp only [pS]
            rfl
          refine pure_ (i := 2) (N := some 129) (v := ?_) (a' := ?_) #[true, true, true, false, false, false, false, false, false, false, false, false, false, false, false, false, false, false, false, false] rfl rfl (any_of HT_.out (by kernel_rfl)) (fun _ _ _ h => h) (Or.inl ⟨by rfl, ?_⟩) ?_ ?_
          rotate_left
          · intro w'
            go_simp
            with_reducible rfl
          rotate_left
          · simp only [pS]
            rfl
          refine pure_ (i := 3) (N := some 130) (v := ?_) (a' := ?_) #[true, true, true, true, false, false, false, false, false, false, false, false, false, false, false, false, false, false, false, false] rfl rfl (any_of HT_.out (by kernel_rfl)) (fun _ _ _ h => h) (Or.inl ⟨by rfl, ?_⟩) ?_ ?_
          rotate_left
          · intro w'
            go_simp
            with_reducible rfl
          rotate_left
          · simp only [pS]
            rfl
          refine pure_ (i := 4) (N := some 131) (v := ?_) (a' := ?_) #[true, true, true, true, true, false, false, false, false, false, false, false, false, false, false, false, false, false, false, false] rfl rfl (any_of HT_.out (by kernel_rfl)) (fun _ _ _ h => h) (Or.inl ⟨by rfl, ?_⟩) ?_ ?_
          rotate_left
          · intro w'
            go_simp
            with_reducible rfl
          rotate_left
          · simp only [pS]
            rfl
          refine pure_ (i := 5) (N := some 132) (v := ?_) (a' := ?_) #[true, true, true, true, true, true, false, false, false, false, false, false, false, false, false, false, false, false, false, false] rfl rfl (any_of HT_.out (by kernel_rfl)) (fun _ _ _ h => h) (Or.inl ⟨by rfl, ?_⟩) ?_ ?_
          rotate_left
          · intro w'
            go_simp
            with_reducible rfl
          rotate_left
          · simp only [pS]
            rfl
          refine pure_ (i := 6) (N := some 133) (v := ?_) (a' := ?_) #[true, true, true, true, true, true, true, false, false, false, false, false, false, false, false, false, false, false, false, false] rfl rfl (any_of HT_.out (by kernel_rfl)) (fun _ _ _ h => h) (Or.inl ⟨by rfl, ?_⟩) ?_ ?_
          rotate_left
          · intro w'
            go_simp
            with_reducible rfl
          rotate_left
          · simp only [pS]
            rfl
          refine pure_ (i := 7) (N := some 134) (v := ?_) (a' := ?_) #[true, true, true, true, true, true, true, true, false, false, false, false, false, false, false, false, false, false, false, false] rfl rfl (any_of HT_.out (by kernel_rfl)) (fun _ _ _ h => h) (Or.inl ⟨by rfl, ?_⟩) ?_ ?_
          rotate_left
          · intro w'
            go_simp
            with_reducible rfl
          rotate_left
          · simp only [pS]
            rfl
          refine pure_ (i := 8) (N := some 135) (v := ?_) (a' := ?_) #[true, true, true, true, true, true, true, true, true, false, false, false, false, false, false, false, false, false, false, false] rfl rfl (any_of HT_.out (by kernel_rfl)) (fun _ _ _ h => h) (Or.inl ⟨by rfl, ?_⟩) ?_ ?_
          rotate_left
          · intro w'
            go_simp
            with_reducible rfl
          rotate_left
          · simp only [pS]
            rfl
          refine pure_ (i := 9) (N := some 136) (v := ?_) (a' := ?_) #[true, true, true, true, true, true, true, true, true, true, false, false, false, false, false, false, false, false, false, false] rfl rfl (any_of HT_.out (by kernel_rfl)) (fun _ _ _ h => h) (Or.inl ⟨by rfl, ?_⟩) ?_ ?_
          rotate_left
          · intro w'
            go_simp
            with_reducible rfl
          rotate_left
          · simp only [pS]
            rfl
          refine pure_ (i := 10) (N := some 137) (v := ?_) (a' := ?_) #[true, true, true, true, true, true, true, true, true, true, true, false, false, false, false, false, false, false, false, false] rfl rfl (any_of HT_.out (by kernel_rfl)) (fun _ _ _ h => h) (Or.inl ⟨by rfl, ?_⟩) ?_ ?_
          rotate_left
          · intro w'
            go_simp
            with_reducible rfl
          rotate_left
          · simp only [pS]
            rfl
          refine pure_ (i := 11) (N := some 138) (v := ?_) (a' := ?_) #[true, true, true, true, true, true, true, true, true, true, true, true, false, false, false, false, false, false, false, false] rfl rfl (any_of HT_.out (by kernel_rfl)) (fun _ _ _ h => h) (Or.inl ⟨by rfl, ?_⟩) ?_ ?_
          rotate_left
          · intro w'
            go_simp
            with_reducible rfl
          rotate_left
          · simp only [pS]
            rfl
          refine pure_ (i := 12) (N := some 139) (v := ?_) (a' := ?_) #[true, true, true, true, true, true, true, true, true, true, true, true, true, false, false, false, false, false, false, false] rfl rfl (any_of HT_.out (by kernel_rfl)) (fun _ _ _ h => h) (Or.inl ⟨by rfl, ?_⟩) ?_ ?_
          rotate_left
          · intro w'
            go_simp
            with_reducible rfl
          rotate_left
          · simp only [pS]
            rfl
          refine take_ (i := 13) (N := some 140) (v := ?_) (a' := ?_) #[true, true, true, true, true, true, true, true, true, true, true, true, true, true, false, false, false, false, false, false] rfl rfl (take_ofW HT_.out HW_.out (by kernel_rfl)) (fun _ _ _ h => h) (Or.inl ⟨by rfl, ?_⟩) hHeld ?_ ?_
          rotate_left
          · rintro w' s1
            go_simp
            with_reducible rfl
          rotate_left
          · simp only [pS]
            rfl
          refine pure_ (i := 14) (N := some 141) (v := ?_) (a' := ?_) #[true, true, true, true, true, true, true, true, true, true, true, true, true, true, true, false, false, false, false, false] rfl rfl (any_of HT_.out (by kernel_rfl)) (fun _ _ _ h => h) (Or.inl ⟨by rfl, ?_⟩) ?_ ?_
          rotate_left
          · intro w'
            go_simp
            with_reducible rfl
          rotate_left
          · simp only [pS]
            rfl
          refine pure_ (i := 15) (N := some 142) (v := ?_) (a' := ?_) #[true, true, true, true, true, true, true, true, true, true, true, true, true, true, true, true, false, false, false, false] rfl rfl (any_of HT_.out (by kernel_rfl)) (fun _ _ _ h => h) (Or.inl ⟨by rfl, ?_⟩) ?_ ?_
          rotate_left
          · intro w'
            go_simp
            with_reducible rfl
          rotate_left
          · simp only [pS]
            rfl
          refine pure_ (i := 16) (N := some 143) (a' := ?_) #[true, true, true, true, true, true, true, true, true, true, true, true, true, true, true, true, true, false, false, false] rfl rfl (any_of HT_.out (by kernel_rfl)) (fun _ _ _ h => h) (Or.inl ⟨by rfl, shl_yields _ _ _ _ (by rfl) r m HM.out (by rfl) (by rfl)⟩) ?_ ?_
          rotate_left
          · simp only [pS]
            rfl
          refine pure_ (i := 17) (N := some 144) (v := ?_) (a' := ?_) #[true, true, true, true, true, true, true, true, true, true, true, true, true, true, true, true, true, true, false, false] rfl rfl (any_of HT_.out (by kernel_rfl)) (fun _ _ _ h => h) (Or.inl ⟨by rfl, ?_⟩) ?_ ?_
          rotate_left
          · intro w'
            go_simp
            with_reducible rfl
          rotate_left
          · simp only [pS]
            rfl
          refine pure_ (i := 18) (N := some 145) (v := ?_) (a' := ?_) #[true, true, true, true, true, true, true, true, true, true, true, true, true, true, true, true, true, true, true, false] rfl rfl (any_of HT_.out (by kernel_rfl)) (fun _ _ _ h => h) (Or.inl ⟨by rfl, ?_⟩) ?_ ?_
          rotate_left
          · intro w'
            go_simp
            with_reducible rfl
          rotate_left
          · simp only [pS]
            rfl
          refine last_ (i := 19) (N := none) #[true, true, true, true, true, true, true, true, true, true, true, true, true, true, true, true, true, true, true, true] rfl rfl (one_of HT_.out (by kernel_rfl)) (by decide) (fun K hK => ?_)
          refine step_w rfl (wp_store_byte 5 _ _ rfl g j rfl (x ^^^ m) (congrArg (Value.int .u8) XM.out) s.data.toList 5 (HR.out.keep rfl) HJS.out (by kernel_rfl) ?_)
          intro w5 hr5 hm5 hz5
          refine hK.out _ _ ?_
          have n1_ := Aside0.mk (toBelow' (below_drew1 HB.out) hm5.out HGG.out)
          clear HB HR hm5 hz5
          have HB := n1_
          have HR := Aside0.mk hr5.out
          clear n1_ hr5
          clear hK K
          refine norm_ (a' := ?_) ?_ ?_
          rotate_left
          · show Act.put _ (none) _ = _
            simp only [pS]
            rfl
          refine done_ (done_of HT_.out (by kernel_rfl)) ?_
          clear HT_ HW_
          go_wp2_with (first
            | ((with_reducible first | refine at_conv_ ?_ | refine at_conv2_ ?_); refine wpList_string_of rfl 39 9 5 _ rfl (some ⟨g, 0, none⟩) s.size c rfl (s.data.toList.set j (x ^^^ m)) HLEN.out (Or.inr ⟨g, 0, rfl, HR.out.cells⟩) Tryz.underlying39 (by kernel_rfl) Tryz.underlying5 ?_)
            | (go_at_call 14; (with_reducible refine (FC.out _ (gl_below HG.out HB.out)).mono ?_); rintro e w9 ⟨rfl, hb9⟩; have n1_ := Aside0.mk (HB.out.trans (hb9.mono HB.out.size)); clear HB hb9; have HB := n1_; clear n1_))
          rw [z3]
          exact ⟨⟨i + 1, rfl, HI2.out, HB.out⟩, loop_less HI2.out⟩
      · as_aux_lemma =>
          have q1 : decide ((i : Int) < 32) = false := decide_eq_false (by omega)
          have q2 : ((i : Int) < 32) = False := eq_false (by omega)
          clear hk2 hi
          obtain ⟨j, ej⟩ : ∃ j, j = n - 1 := ⟨_, rfl⟩
          have EJ := Aside0.mk ej
          have hidx := idx_last HSZ.out.1 HSZ.out.2.1 HNN.out.1 HNN.out.2
          rw [← ej] at hidx
          have z2 : wrap64 ((b.size : Int) - 1) = (j : Int) := hidx.2
          have hjs : j < s.size := hidx.1
          clear hidx
          have q3 : decide ((j : Int) < (s.size : Int)) = true := decide_eq_true (int_lt hjs)
          have q4 : decide (j < s.size) = true := decide_eq_true hjs
          have q5 : (j < s.size) = True := eq_true hjs
          have q6 : ((j : Int) < (s.size : Int)) = True := eq_true (int_lt hjs)
          obtain ⟨x, hx⟩ : ∃ x, s.data.toList[j]? = some x := ⟨_, List.getElem?_eq_getElem (show j < s.data.toList.length from hjs)⟩
          have HX := Aside0.mk hx
          have XM := Aside0.mk (show Go.bits .xor .u8 (x.toNat : Int) 1 = ((x ^^^ 1 : UInt8).toNat : Int) from xor8 x 1)
          have HLEN := Aside0.mk (show (s.data.toList.set j (x ^^^ 1)).length = s.size from by rw [List.length_set]; rfl)
          have HJS := Aside0.mk (show j < s.data.toList.length from hjs)
          clear ej hjs hx
          go_upto_region 27 with (first
            | (((with_reducible first | refine at_conv_ ?_ | refine at_conv2_ ?_); refine wpList_bytes_row rfl 9 39 5 _ rfl s rfl (by kernel_rfl) Tryz.underlying39 Tryz.underlying5 ?_; intro g c w2 eg hr2 hb2 hz2 hc2; have HGG := Aside0.mk (show w.heap.size ≤ g from by have := eg.out; have := HB.out.size; omega); have n1_ := Aside0.mk (HB.out.trans (hb2.out.mono HB.out.size)); clear HB; have HB := n1_; clear n1_; have HR := Aside0.mk hr2.out; clear eg hr2 hb2 hz2 hc2); have c1 := HR.out.cell HX.out)
            | ((with_reducible first | refine at_store_ ?_ | refine at_store2_ ?_); refine wpList_store_byte rfl 5 _ _ rfl g j rfl (x ^^^ 1) (congrArg (Value.int .u8) XM.out) s.data.toList 5 HR.out HJS.out (by kernel_rfl) ?_; intro w5 hr5 hm5 hz5; clear c1; have n1_ := Aside0.mk (toBelow' HB.out hm5.out HGG.out); clear HB HR hm5 hz5; have HB := n1_; have HR := Aside0.mk hr5.out; clear n1_ hr5)
            | ((with_reducible first | refine at_conv_ ?_ | refine at_conv2_ ?_); refine wpList_string_of rfl 39 9 5 _ rfl (some ⟨g, 0, none⟩) s.size c rfl (s.data.toList.set j (x ^^^ 1)) HLEN.out (Or.inr ⟨g, 0, rfl, HR.out.cells⟩) Tryz.underlying39 (by kernel_rfl) Tryz.underlying5 ?_))
          clear q1 q2 q3 q4 q5 q6 z2 HR HGG
          obtain ⟨tu, etu⟩ : ∃ tu : ByteArray, tu = ⟨(s.data.toList.set j (x ^^^ 1)).toArray⟩ := ⟨_, rfl⟩
          rw [← etu]
          obtain ⟨v1, v2, v3, u1, b2, u2, x1, b3, u3, l3, hall⟩ := seals_last P T k o s b t tu n n1 j x HHY.out EN.out EJ.out HX.out etu
          obtain ⟨C1, C2, E1, C3, C4, C5, E2, ex1, C6, C7, C8, C9, E3⟩ := hall
          have C1 := Aside0.mk C1
          have C2 := Aside0.mk C2
          have E1 := Aside0.mk E1
          have C3 := Aside0.mk C3
          have C4 := Aside0.mk C4
          have C5 := Aside0.mk C5
          have E2 := Aside0.mk E2
          have C6 := Aside0.mk C6
          have C7 := Aside0.mk C7
          have C8 := Aside0.mk C8
          have C9 := Aside0.mk C9
          have E3 := Aside0.mk E3
          have EX1 := Aside0.mk ex1
          have HCAT := Aside0.mk (show k ++ ⟨#[1]⟩ = str (bl k ++ [1]) from str_cat (bl k) [1])
          have HCZ := Aside0.mk (show k.size + (⟨#[1]⟩ : ByteArray).size ≤ 9223372036854775807 from by have := HHY.out.2.2.2.2.2.1; show k.size + 1 ≤ _; omega)
          have hle1 : n1 ≤ s.size := (len_one HSZ.out.1 EN.out HNN.out.1).2
          have q1 : ((n1 : Int) ≤ (s.size : Int)) = True := eq_true (int_le hle1)
          have q2 : (n1 ≤ s.size) = True := eq_true hle1
          have q3 : decide ((n1 : Int) ≤ (s.size : Int)) = true := decide_eq_true (int_le hle1)
          have q4 : decide (n1 ≤ s.size) = true := decide_eq_true hle1
          clear hle1
          clear etu ex1
          refine start_ (n := 51) (S := fun w' => True) (ds := []) #[false, false, false, false, false, false, false, false, false, false, false, false, false, false, false, false, false, false, false, false, false, false, false, false, false, false, false, false, false, false, false, false, false, false, false, false, false, false, false, false, false, false, false, false, false, false, false, false, false, false, false] (by kernel_rfl) rfl rfl trivial (fun hHeld => ?_)
          refine with_tabW tab_f7_27 bits_f7_27 (fun HT_ HW_ => ?_)
          refine pure_ (i := 0) (N := some 166) (v := ?_) (a' := ?_) #[true, false, false, false, false, false, false, false, false, false, false, false, false, false, false, false, false, false, false, false, false, false, false, false, false, false, false, false, false, false, false, false, false, false, false, false, false, false, false, false, false, false, false, false, false, false, false, false, false, false, false] rfl rfl (any_of HT_.out (by kernel_rfl)) (fun _ _ _ h => h) (Or.inl ⟨by rfl, ?_⟩) ?_ ?_
          rotate_left
          · intro w'
            go_simp
            with_reducible rfl
          rotate_left
          · simp only [pS]
            rfl
          refine pure_ (i := 1) (N := some 167) (v := ?_) (a' := ?_) #[true, true, false, false, false, false, false, false, false, false, false, false, false, false, false, false, false, false, false, false, false, false, false, false, false, false, false, false, false, false, false, false, false, false, false, false, false, false, false, false, false, false, false, false, false, false, false, false, false, false, false] rfl rfl (any_of HT_.out (by kernel_rfl)) (fun _ _ _ h => h) (Or.inl ⟨by rfl, ?_⟩) ?_ ?_
          rotate_left
          · intro w'
            go_simp
            with_reducible rfl
          rotate_left
          · simp only [pS]
            rfl
          refine pure_ (i := 3) (N := some 169) (v := ?_) (a' := ?_) #[true, true, false, true, false, false, false, false, false, false, false, false, false, false, false, false, false, false, false, false, false, false, false, false, false, false, false, false, false, false, false, false, false, false, false, false, false, false, false, false, false, false, false, false, false, false, false, false, false, false, false] rfl rfl (any_of HT_.out (by kernel_rfl)) (fun _ _ _ h => h) (Or.inl ⟨by rfl, ?_⟩) ?_ ?_
          rotate_left
          · intro w'
            go_simp
            with_reducible rfl
          rotate_left
          · simp only [pS]
            rfl
          refine pure_ (i := 4) (N := some 170) (v := ?_) (a' := ?_) #[true, true, false, true, true, false, false, false, false, false, false, false, false, false, false, false, false, false, false, false, false, false, false, false, false, false, false, false, false, false, false, false, false, false, false, false, false, false, false, false, false, false, false, false, false, false, false, false, false, false, false] rfl rfl (any_of HT_.out (by kernel_rfl)) (fun _ _ _ h => h) (Or.inl ⟨by rfl, ?_⟩) ?_ ?_
          rotate_left
          · intro w'
            go_simp
            with_reducible rfl
          rotate_left
          · simp only [pS]
            rfl
          refine pure_ (i := 6) (N := some 172) (v := ?_) (a' := ?_) #[true, true, false, true, true, false, true, false, false, false, false, false, false, false, false, false, false, false, false, false, false, false, false, false, false, false, false, false, false, false, false, false, false, false, false, false, false, false, false, false, false, false, false, false, false, false, false, false, false, false, false] rfl rfl (any_of HT_.out (by kernel_rfl)) (fun _ _ _ h => h) (Or.inl ⟨by rfl, ?_⟩) ?_ ?_
          rotate_left
          · intro w'
            go_simp
            with_reducible rfl
          rotate_left
          · simp only [pS]
            rfl
          refine one_ (i := 2) (N := some 168) #[true, true, true, true, true, false, true, false, false, false, false, false, false, false, false, false, false, false, false, false, false, false, false, false, false, false, false, false, false, false, false, false, false, false, false, false, false, false, false, false, false, false, false, false, false, false, false, false, false, false, false] rfl rfl (one_of HT_.out (by kernel_rfl)) (by decide) (fun K hK => ?_)
          (refine goes_ Tryz.func14 (by kernel_rfl) rfl #[.string s, .string o] (by rfl) rfl rfl (by (try simp only [List.map_toArray, List.map_cons, List.map_nil]); first | done | rfl) ?_; (with_reducible refine (C1.out _ (gl_below HG.out (by first | exact HB.out | exact below_drew1 HB.out))).mono ?_); rintro e w9 ⟨rfl, hb9⟩; refine ⟨_, rfl, ?_⟩; have n1_ := Aside0.mk (Below.trans (by first | exact HB.out | exact below_drew1 HB.out) (hb9.mono (Below.size (by first | exact HB.out | exact below_drew1 HB.out)))); clear HB hb9; have HB := n1_; clear n1_; refine hK.out _ _ trivial (fun hHeld => ?_))
          clear hK K
          refine norm_ (a' := ?_) ?_ ?_
          rotate_left
          · show Act.put _ (some 168) _ = _
            simp only [pS]
            rfl
          refine one_ (i := 5) (N := some 171) #[true, true, true, true, true, true, true, false, false, false, false, false, false, false, false, false, false, false, false, false, false, false, false, false, false, false, false, false, false, false, false, false, false, false, false, false, false, false, false, false, false, false, false, false, false, false, false, false, false, false, false] rfl rfl (one_of HT_.out (by kernel_rfl)) (by decide) (fun K hK => ?_)
          (refine goes_ Tryz.func23 (by kernel_rfl) rfl #[.string o, .string b] (by rfl) rfl rfl (by (try simp only [List.map_toArray, List.map_cons, List.map_nil]); first | done | rfl) ?_; (with_reducible refine (C2.out _ (gl_below HG.out (by first | exact HB.out | exact below_drew1 HB.out))).mono ?_); rintro e w9 ⟨rfl, hb9⟩; refine ⟨_, rfl, ?_⟩; have n1_ := Aside0.mk (Below.trans (by first | exact HB.out | exact below_drew1 HB.out) (hb9.mono (Below.size (by first | exact HB.out | exact below_drew1 HB.out)))); clear HB hb9; have HB := n1_; clear n1_; refine hK.out _ _ trivial (fun hHeld => ?_))
          clear hK K
          refine norm_ (a' := ?_) ?_ ?_
          rotate_left
          · show Act.put _ (some 171) _ = _
            simp only [pS]
            rfl
          refine pure_ (i := 7) (N := some 173) (a' := ?_) #[true, true, true, true, true, true, true, true, false, false, false, false, false, false, false, false, false, false, false, false, false, false, false, false, false, false, false, false, false, false, false, false, false, false, false, false, false, false, false, false, false, false, false, false, false, false, false, false, false, false, false] rfl rfl (any_of HT_.out (by kernel_rfl)) (fun _ _ _ h => h) (Or.inl ⟨by rfl, streq_yields _ _ _ _ (by rfl) u1 t (by rfl) (by rfl) v1 E1.out⟩) ?_ ?_
          rotate_left
          · simp only [pS]
            rfl
          refine pure_ (i := 8) (N := some 174) (v := ?_) (a' := ?_) #[true, true, true, true, true, true, true, true, true, false, false, false, false, false, false, false, false, false, false, false, false, false, false, false, false, false, false, false, false, false, false, false, false, false, false, false, false, false, false, false, false, false, false, false, false, false, false, false, false, false, false] rfl rfl (any_of HT_.out (by kernel_rfl)) (fun _ _ _ h => h) (Or.inl ⟨by rfl, ?_⟩) ?_ ?_
          rotate_left
          · intro w'
            go_simp
            with_reducible rfl
          rotate_left
          · simp only [pS]
            rfl
          refine pure_ (i := 9) (N := some 175) (v := ?_) (a' := ?_) #[true, true, true, true, true, true, true, true, true, true, false, false, false, false, false, false, false, false, false, false, false, false, false, false, false, false, false, false, false, false, false, false, false, false, false, false, false, false, false, false, false, false, false, false, false, false, false, false, false, false, false] rfl rfl (any_of HT_.out (by kernel_rfl)) (fun _ _ _ h => h) (Or.inl ⟨by rfl, ?_⟩) ?_ ?_
          rotate_left
          · intro w'
            go_simp
            with_reducible rfl
          rotate_left
          · simp only [pS]
            rfl
          refine pure_ (i := 10) (N := some 176) (v := ?_) (a' := ?_) #[true, true, true, true, true, true, true, true, true, true, true, false, false, false, false, false, false, false, false, false, false, false, false, false, false, false, false, false, false, false, false, false, false, false, false, false, false, false, false, false, false, false, false, false, false, false, false, false, false, false, false] rfl rfl (any_of HT_.out (by kernel_rfl)) (fun _ _ _ h => h) (Or.inl ⟨by rfl, ?_⟩) ?_ ?_
          rotate_left
          · intro w'
            go_simp
            with_reducible rfl
          rotate_left
          · simp only [pS]
            rfl
          refine pure_ (i := 11) (N := some 177) (v := ?_) (a' := ?_) #[true, true, true, true, true, true, true, true, true, true, true, true, false, false, false, false, false, false, false, false, false, false, false, false, false, false, false, false, false, false, false, false, false, false, false, false, false, false, false, false, false, false, false, false, false, false, false, false, false, false, false] rfl rfl (any_of HT_.out (by kernel_rfl)) (fun _ _ _ h => h) (Or.inl ⟨by rfl, ?_⟩) ?_ ?_
          rotate_left
          · intro w'
            go_simp
            with_reducible rfl
          rotate_left
          · simp only [pS]
            rfl
          refine pure_ (i := 13) (N := some 179) (v := ?_) (a' := ?_) #[true, true, true, true, true, true, true, true, true, true, true, true, false, true, false, false, false, false, false, false, false, false, false, false, false, false, false, false, false, false, false, false, false, false, false, false, false, false, false, false, false, false, false, false, false, false, false, false, false, false, false] rfl rfl (any_of HT_.out (by kernel_rfl)) (fun _ _ _ h => h) (Or.inl ⟨by rfl, ?_⟩) ?_ ?_
          rotate_left
          · intro w'
            go_simp
            with_reducible rfl
          rotate_left
          · simp only [pS]
            rfl
          refine pure_ (i := 14) (N := some 180) (v := ?_) (a' := ?_) #[true, true, true, true, true, true, true, true, true, true, true, true, false, true, true, false, false, false, false, false, false, false, false, false, false, false, false, false, false, false, false, false, false, false, false, false, false, false, false, false, false, false, false, false, false, false, false, false, false, false, false] rfl rfl (any_of HT_.out (by kernel_rfl)) (fun _ _ _ h => h) (Or.inl ⟨by rfl, ?_⟩) ?_ ?_
          rotate_left
          · intro w'
            go_simp
            with_reducible rfl
          rotate_left
          · simp only [pS]
            rfl
          refine pure_ (i := 17) (N := some 183) (v := ?_) (a' := ?_) #[true, true, true, true, true, true, true, true, true, true, true, true, false, true, true, false, false, true, false, false, false, false, false, false, false, false, false, false, false, false, false, false, false, false, false, false, false, false, false, false, false, false, false, false, false, false, false, false, false, false, false] rfl rfl (any_of HT_.out (by kernel_rfl)) (fun _ _ _ h => h) (Or.inl ⟨by rfl, ?_⟩) ?_ ?_
          rotate_left
          · intro w'
            go_simp
            with_reducible rfl
          rotate_left
          · simp only [pS]
            rfl
          refine one_ (i := 12) (N := some 178) #[true, true, true, true, true, true, true, true, true, true, true, true, true, true, true, false, false, true, false, false, false, false, false, false, false, false, false, false, false, false, false, false, false, false, false, false, false, false, false, false, false, false, false, false, false, false, false, false, false, false, false] rfl rfl (one_of HT_.out (by kernel_rfl)) (by decide) (fun K hK => ?_)
          (refine goes_ Tryz.func14 (by kernel_rfl) rfl #[.string tu, .string k] (by rfl) rfl rfl (by (try simp only [List.map_toArray, List.map_cons, List.map_nil]); first | done | rfl) ?_; (with_reducible refine (C3.out _ (gl_below HG.out (by first | exact HB.out | exact below_drew1 HB.out))).mono ?_); rintro e w9 ⟨rfl, hb9⟩; refine ⟨_, rfl, ?_⟩; have n1_ := Aside0.mk (Below.trans (by first | exact HB.out | exact below_drew1 HB.out) (hb9.mono (Below.size (by first | exact HB.out | exact below_drew1 HB.out)))); clear HB hb9; have HB := n1_; clear n1_; refine hK.out _ _ trivial (fun hHeld => ?_))
          clear hK K
          refine norm_ (a' := ?_) ?_ ?_
          rotate_left
          · show Act.put _ (some 178) _ = _
            simp only [pS]
            rfl
          refine one_ (i := 15) (N := some 181) #[true, true, true, true, true, true, true, true, true, true, true, true, true, true, true, true, false, true, false, false, false, false, false, false, false, false, false, false, false, false, false, false, false, false, false, false, false, false, false, false, false, false, false, false, false, false, false, false, false, false, false] rfl rfl (one_of HT_.out (by kernel_rfl)) (by decide) (fun K hK => ?_)
          (refine goes_ Tryz.func12 (by kernel_rfl) rfl #[.string tu] (by rfl) rfl rfl (by (try simp only [List.map_toArray, List.map_cons, List.map_nil]); first | done | rfl) ?_; (with_reducible refine (C4.out _).mono ?_); rintro e w9 ⟨rfl, hb9⟩; refine ⟨_, rfl, ?_⟩; have n1_ := Aside0.mk (Below.trans (by first | exact HB.out | exact below_drew1 HB.out) (hb9.mono (Below.size (by first | exact HB.out | exact below_drew1 HB.out)))); clear HB hb9; have HB := n1_; clear n1_; refine hK.out _ _ trivial (fun hHeld => ?_))
          clear hK K
          refine norm_ (a' := ?_) ?_ ?_
          rotate_left
          · show Act.put _ (some 181) _ = _
            simp only [pS]
            rfl
          refine one_ (i := 16) (N := some 182) #[true, true, true, true, true, true, true, true, true, true, true, true, true, true, true, true, true, true, false, false, false, false, false, false, false, false, false, false, false, false, false, false, false, false, false, false, false, false, false, false, false, false, false, false, false, false, false, false, false, false, false] rfl rfl (one_of HT_.out (by kernel_rfl)) (by decide) (fun K hK => ?_)
          (refine goes_ Tryz.func23 (by kernel_rfl) rfl #[.string k, .string b2] (by rfl) rfl rfl (by (try simp only [List.map_toArray, List.map_cons, List.map_nil]); first | done | rfl) ?_; (with_reducible refine (C5.out _ (gl_below HG.out (by first | exact HB.out | exact below_drew1 HB.out))).mono ?_); rintro e w9 ⟨rfl, hb9⟩; refine ⟨_, rfl, ?_⟩; have n1_ := Aside0.mk (Below.trans (by first | exact HB.out | exact below_drew1 HB.out) (hb9.mono (Below.size (by first | exact HB.out | exact below_drew1 HB.out)))); clear HB hb9; have HB := n1_; clear n1_; refine hK.out _ _ trivial (fun hHeld => ?_))
          clear hK K
          refine norm_ (a' := ?_) ?_ ?_
          rotate_left
          · show Act.put _ (some 182) _ = _
            simp only [pS]
            rfl
          refine pure_ (i := 18) (N := some 184) (a' := ?_) #[true, true, true, true, true, true, true, true, true, true, true, true, true, true, true, true, true, true, true, false, false, false, false, false, false, false, false, false, false, false, false, false, false, false, false, false, false, false, false, false, false, false, false, false, false, false, false, false, false, false, false] rfl rfl (any_of HT_.out (by kernel_rfl)) (fun _ _ _ h => h) (Or.inl ⟨by rfl, streq_yields _ _ _ _ (by rfl) u2 t (by rfl) (by rfl) v2 E2.out⟩) ?_ ?_
          rotate_left
          · simp only [pS]
            rfl
          refine pure_ (i := 19) (N := some 185) (v := ?_) (a' := ?_) #[true, true, true, true, true, true, true, true, true, true, true, true, true, true, true, true, true, true, true, true, false, false, false, false, false, false, false, false, false, false, false, false, false, false, false, false, false, false, false, false, false, false, false, false, false, false, false, false, false, false, false] rfl rfl (any_of HT_.out (by kernel_rfl)) (fun _ _ _ h => h) (Or.inl ⟨by rfl, ?_⟩) ?_ ?_
          rotate_left
          · intro w'
            go_simp
            with_reducible rfl
          rotate_left
          · simp only [pS]
            rfl
          refine pure_ (i := 20) (N := some 186) (v := ?_) (a' := ?_) #[true, true, true, true, true, true, true, true, true, true, true, true, true, true, true, true, true, true, true, true, true, false, false, false, false, false, false, false, false, false, false, false, false, false, false, false, false, false, false, false, false, false, false, false, false, false, false, false, false, false, false] rfl rfl (any_of HT_.out (by kernel_rfl)) (fun _ _ _ h => h) (Or.inl ⟨by rfl, ?_⟩) ?_ ?_
          rotate_left
          · intro w'
            go_simp
            with_reducible rfl
          rotate_left
          · simp only [pS]
            rfl
          refine pure_ (i := 21) (N := some 187) (v := ?_) (a' := ?_) #[true, true, true, true, true, true, true, true, true, true, true, true, true, true, true, true, true, true, true, true, true, true, false, false, false, false, false, false, false, false, false, false, false, false, false, false, false, false, false, false, false, false, false, false, false, false, false, false, false, false, false] rfl rfl (any_of HT_.out (by kernel_rfl)) (fun _ _ _ h => h) (Or.inl ⟨by rfl, ?_⟩) ?_ ?_
          rotate_left
          · intro w'
            go_simp
            with_reducible rfl
          rotate_left
          · simp only [pS]
            rfl
          refine pure_ (i := 22) (N := some 188) (v := ?_) (a' := ?_) #[true, true, true, true, true, true, true, true, true, true, true, true, true, true, true, true, true, true, true, true, true, true, true, false, false, false, false, false, false, false, false, false, false, false, false, false, false, false, false, false, false, false, false, false, false, false, false, false, false, false, false] rfl rfl (any_of HT_.out (by kernel_rfl)) (fun _ _ _ h => h) (Or.inl ⟨by rfl, ?_⟩) ?_ ?_
          rotate_left
          · intro w'
            go_simp
            with_reducible rfl
          rotate_left
          · simp only [pS]
            rfl
          refine pure_ (i := 23) (N := some 189) (v := ?_) (a' := ?_) #[true, true, true, true, true, true, true, true, true, true, true, true, true, true, true, true, true, true, true, true, true, true, true, true, false, false, false, false, false, false, false, false, false, false, false, false, false, false, false, false, false, false, false, false, false, false, false, false, false, false, false] rfl rfl (any_of HT_.out (by kernel_rfl)) (fun _ _ _ h => h) (Or.inl ⟨by rfl, ?_⟩) ?_ ?_
          rotate_left
          · intro w'
            go_simp
            with_reducible rfl
          rotate_left
          · simp only [pS]
            rfl
          refine pure_ (i := 24) (N := some 190) (v := ?_) (a' := ?_) #[true, true, true, true, true, true, true, true, true, true, true, true, true, true, true, true, true, true, true, true, true, true, true, true, true, false, false, false, false, false, false, false, false, false, false, false, false, false, false, false, false, false, false, false, false, false, false, false, false, false, false] rfl rfl (any_of HT_.out (by kernel_rfl)) (fun _ _ _ h => h) (Or.inl ⟨by rfl, ?_⟩) ?_ ?_
          rotate_left
          · intro w'
            go_simp
            with_reducible rfl
          rotate_left
          · simp only [pS]
            rfl
          refine pure_ (i := 25) (N := some 191) (v := ?_) (a' := ?_) #[true, true, true, true, true, true, true, true, true, true, true, true, true, true, true, true, true, true, true, true, true, true, true, true, true, true, false, false, false, false, false, false, false, false, false, false, false, false, false, false, false, false, false, false, false, false, false, false, false, false, false] rfl rfl (any_of HT_.out (by kernel_rfl)) (fun _ _ _ h => h) (Or.inl ⟨by rfl, ?_⟩) ?_ ?_
          rotate_left
          · intro w'
            go_simp
            with_reducible rfl
          rotate_left
          · simp only [pS]
            rfl
          refine pure_ (i := 26) (N := some 192) (v := ?_) (a' := ?_) #[true, true, true, true, true, true, true, true, true, true, true, true, true, true, true, true, true, true, true, true, true, true, true, true, true, true, true, false, false, false, false, false, false, false, false, false, false, false, false, false, false, false, false, false, false, false, false, false, false, false, false] rfl rfl (any_of HT_.out (by kernel_rfl)) (fun _ _ _ h => h) (Or.inl ⟨by rfl, ?_⟩) ?_ ?_
          rotate_left
          · intro w'
            go_simp
            with_reducible rfl
          rotate_left
          · simp only [pS]
            rfl
          refine pure_ (i := 27) (N := some 193) (v := ?_) (a' := ?_) #[true, true, true, true, true, true, true, true, true, true, true, true, true, true, true, true, true, true, true, true, true, true, true, true, true, true, true, true, false, false, false, false, false, false, false, false, false, false, false, false, false, false, false, false, false, false, false, false, false, false, false] rfl rfl (any_of HT_.out (by kernel_rfl)) (fun _ _ _ h => h) (Or.inl ⟨by rfl, ?_⟩) ?_ ?_
          rotate_left
          · intro w'
            go_simp
            with_reducible rfl
          rotate_left
          · simp only [pS]
            rfl
          refine pure_ (i := 28) (N := some 194) (a' := ?_) #[true, true, true, true, true, true, true, true, true, true, true, true, true, true, true, true, true, true, true, true, true, true, true, true, true, true, true, true, true, false, false, false, false, false, false, false, false, false, false, false, false, false, false, false, false, false, false, false, false, false, false] rfl rfl (any_of HT_.out (by kernel_rfl)) (fun _ _ _ h => h) (Or.inl ⟨by rfl, cat_is_yields _ _ _ _ (by rfl) k ⟨#[1]⟩ (str (bl k ++ [1])) (by rfl) (by rfl) HCAT.out HCZ.out⟩) ?_ ?_
          rotate_left
          · simp only [pS]
            rfl
          refine pure_ (i := 31) (N := some 197) (v := ?_) (a' := ?_) #[true, true, true, true, true, true, true, true, true, true, true, true, true, true, true, true, true, true, true, true, true, true, true, true, true, true, true, true, true, false, false, true, false, false, false, false, false, false, false, false, false, false, false, false, false, false, false, false, false, false, false] rfl rfl (any_of HT_.out (by kernel_rfl)) (fun _ _ _ h => h) (Or.inl ⟨by rfl, ?_⟩) ?_ ?_
          rotate_left
          · intro w'
            go_simp
            with_reducible rfl
          rotate_left
          · simp only [pS]
            rfl
          refine pure_ (i := 32) (N := some 198) (a' := ?_) #[true, true, true, true, true, true, true, true, true, true, true, true, true, true, true, true, true, true, true, true, true, true, true, true, true, true, true, true, true, false, false, true, true, false, false, false, false, false, false, false, false, false, false, false, false, false, false, false, false, false, false] rfl rfl (any_of HT_.out (by kernel_rfl)) (fun _ _ _ h => h) (Or.inl ⟨by rfl, cat_is_yields _ _ _ _ (by rfl) k ⟨#[1]⟩ (str (bl k ++ [1])) (by rfl) (by rfl) HCAT.out HCZ.out⟩) ?_ ?_
          rotate_left
          · simp only [pS]
            rfl
          refine pure_ (i := 33) (N := some 199) (v := ?_) (a' := ?_) #[true, true, true, true, true, true, true, true, true, true, true, true, true, true, true, true, true, true, true, true, true, true, true, true, true, true, true, true, true, false, false, true, true, true, false, false, false, false, false, false, false, false, false, false, false, false, false, false, false, false, false] rfl rfl (any_of HT_.out (by kernel_rfl)) (fun _ _ _ h => h) (Or.inl ⟨by rfl, ?_⟩) ?_ ?_
          rotate_left
          · intro w'
            go_simp
            with_reducible rfl
          rotate_left
          · simp only [pS]
            rfl
          refine pure_ (i := 34) (N := some 200) (v := ?_) (a' := ?_) #[true, true, true, true, true, true, true, true, true, true, true, true, true, true, true, true, true, true, true, true, true, true, true, true, true, true, true, true, true, false, false, true, true, true, true, false, false, false, false, false, false, false, false, false, false, false, false, false, false, false, false] rfl rfl (any_of HT_.out (by kernel_rfl)) (fun _ _ _ h => h) (Or.inl ⟨by rfl, ?_⟩) ?_ ?_
          rotate_left
          · intro w'
            go_simp
            with_reducible rfl
          rotate_left
          · simp only [pS]
            rfl
          refine pure_ (i := 35) (N := some 201) (v := ?_) (a' := ?_) #[true, true, true, true, true, true, true, true, true, true, true, true, true, true, true, true, true, true, true, true, true, true, true, true, true, true, true, true, true, false, false, true, true, true, true, true, false, false, false, false, false, false, false, false, false, false, false, false, false, false, false] rfl rfl (any_of HT_.out (by kernel_rfl)) (fun _ _ _ h => h) (Or.inl ⟨by rfl, ?_⟩) ?_ ?_
          rotate_left
          · intro w'
            go_simp
            with_reducible rfl
          rotate_left
          · simp only [pS]
            rfl
          refine pure_ (i := 36) (N := some 202) (v := ?_) (a' := ?_) #[true, true, true, true, true, true, true, true, true, true, true, true, true, true, true, true, true, true, true, true, true, true, true, true, true, true, true, true, true, false, false, true, true, true, true, true, true, false, false, false, false, false, false, false, false, false, false, false, false, false, false] rfl rfl (any_of HT_.out (by kernel_rfl)) (fun _ _ _ h => h) (Or.inl ⟨by rfl, ?_⟩) ?_ ?_
          rotate_left
          · intro w'
            go_simp
            with_reducible rfl
          rotate_left
          · simp only [pS]
            rfl
          refine pure_ (i := 37) (N := some 203) (v := ?_) (a' := ?_) #[true, true, true, true, true, true, true, true, true, true, true, true, true, true, true, true, true, true, true, true, true, true, true, true, true, true, true, true, true, false, false, true, true, true, true, true, true, true, false, false, false, false, false, false, false, false, false, false, false, false, false] rfl rfl (any_of HT_.out (by kernel_rfl)) (fun _ _ _ h => h) (Or.inl ⟨by rfl, ?_⟩) ?_ ?_
          rotate_left
          · intro w'
            go_simp
            with_reducible rfl
          rotate_left
          · simp only [pS]
            rfl
          refine pure_ (i := 40) (N := some 206) (v := ?_) (a' := ?_) #[true, true, true, true, true, true, true, true, true, true, true, true, true, true, true, true, true, true, true, true, true, true, true, true, true, true, true, true, true, false, false, true, true, true, true, true, true, true, false, false, true, false, false, false, false, false, false, false, false, false, false] rfl rfl (any_of HT_.out (by kernel_rfl)) (fun _ _ _ h => h) (Or.inl ⟨by rfl, ?_⟩) ?_ ?_
          rotate_left
          · intro w'
            go_simp
            with_reducible rfl
          rotate_left
          · simp only [pS]
            rfl
          refine pure_ (i := 41) (N := some 207) (v := ?_) (a' := ?_) #[true, true, true, true, true, true, true, true, true, true, true, true, true, true, true, true, true, true, true, true, true, true, true, true, true, true, true, true, true, false, false, true, true, true, true, true, true, true, false, false, true, true, false, false, false, false, false, false, false, false, false] rfl rfl (any_of HT_.out (by kernel_rfl)) (fun _ _ _ h => h) (Or.inl ⟨by rfl, ?_⟩) ?_ ?_
          rotate_left
          · intro w'
            go_simp
            with_reducible rfl
          rotate_left
          · simp only [pS]
            rfl
          refine pure_ (i := 42) (N := some 208) (v := ?_) (a' := ?_) #[true, true, true, true, true, true, true, true, true, true, true, true, true, true, true, true, true, true, true, true, true, true, true, true, true, true, true, true, true, false, false, true, true, true, true, true, true, true, false, false, true, true, true, false, false, false, false, false, false, false, false] rfl rfl (any_of HT_.out (by kernel_rfl)) (fun _ _ _ h => h) (Or.inl ⟨by rfl, ?_⟩) ?_ ?_
          rotate_left
          · intro w'
            go_simp
            with_reducible rfl
          rotate_left
          · simp only [pS]
            rfl
          refine pure_ (i := 43) (N := some 209) (v := ?_) (a' := ?_) #[true, true, true, true, true, true, true, true, true, true, true, true, true, true, true, true, true, true, true, true, true, true, true, true, true, true, true, true, true, false, false, true, true, true, true, true, true, true, false, false, true, true, true, true, false, false, false, false, false, false, false] rfl rfl (any_of HT_.out (by kernel_rfl)) (fun _ _ _ h => h) (Or.inl ⟨by rfl, ?_⟩) ?_ ?_
          rotate_left
          · intro w'
            go_simp
            with_reducible rfl
          rotate_left
          · simp only [pS]
            rfl
          refine pure_ (i := 44) (N := some 210) (v := ?_) (a' := ?_) #[true, true, true, true, true, true, true, true, true, true, true, true, true, true, true, true, true, true, true, true, true, true, true, true, true, true, true, true, true, false, false, true, true, true, true, true, true, true, false, false, true, true, true, true, true, false, false, false, false, false, false] rfl rfl (any_of HT_.out (by kernel_rfl)) (fun _ _ _ h => h) (Or.inl ⟨by rfl, ?_⟩) ?_ ?_
          rotate_left
          · intro w'
            go_simp
            with_reducible rfl
          rotate_left
          · simp only [pS]
            rfl
          refine one_ (i := 29) (N := some 195) #[true, true, true, true, true, true, true, true, true, true, true, true, true, true, true, true, true, true, true, true, true, true, true, true, true, true, true, true, true, true, false, true, true, true, true, true, true, true, false, false, true, true, true, true, true, false, false, false, false, false, false] rfl rfl (one_of HT_.out (by kernel_rfl)) (by decide) (fun K hK => ?_)
          (refine goes_ Tryz.func14 (by kernel_rfl) rfl #[.string (s.extract 0 n1), .string (str (bl k ++ [1]))] (by rfl) rfl rfl (by (try simp only [List.map_toArray, List.map_cons, List.map_nil]); first | done | rfl) ?_; (with_reducible refine (C6.out _ (gl_below HG.out (by first | exact HB.out | exact below_drew1 HB.out))).mono ?_); rintro e w9 ⟨rfl, hb9⟩; refine ⟨_, rfl, ?_⟩; have n1_ := Aside0.mk (Below.trans (by first | exact HB.out | exact below_drew1 HB.out) (hb9.mono (Below.size (by first | exact HB.out | exact below_drew1 HB.out)))); clear HB hb9; have HB := n1_; clear n1_; refine hK.out _ _ trivial (fun hHeld => ?_))
          clear hK K
          refine norm_ (a' := ?_) ?_ ?_
          rotate_left
          · show Act.put _ (some 195) _ = _
            simp only [pS]
            rfl
          refine pure_ (i := 30) (N := some 196) (v := ?_) (a' := ?_) #[true, true, true, true, true, true, true, true, true, true, true, true, true, true, true, true, true, true, true, true, true, true, true, true, true, true, true, true, true, true, true, true, true, true, true, true, true, true, false, false, true, true, true, true, true, false, false, false, false, false, false] rfl rfl (any_of HT_.out (by kernel_rfl)) (fun _ _ _ h => h) (Or.inl ⟨by rfl, ?_⟩) ?_ ?_
          rotate_left
          · intro w'
            go_simp
            with_reducible rfl
          rotate_left
          · simp only [pS]
            rfl
          refine one_ (i := 38) (N := some 204) #[true, true, true, true, true, true, true, true, true, true, true, true, true, true, true, true, true, true, true, true, true, true, true, true, true, true, true, true, true, true, true, true, true, true, true, true, true, true, true, false, true, true, true, true, true, false, false, false, false, false, false] rfl rfl (one_of HT_.out (by kernel_rfl)) (by decide) (fun K hK => ?_)
          (refine goes_ Tryz.func12 (by kernel_rfl) rfl #[.string (s.extract 0 n1)] (by rfl) rfl rfl (by (try simp only [List.map_toArray, List.map_cons, List.map_nil]); first | done | rfl) ?_; (with_reducible refine (C7.out _).mono ?_); rintro e w9 ⟨rfl, hb9⟩; refine ⟨_, rfl, ?_⟩; have n1_ := Aside0.mk (Below.trans (by first | exact HB.out | exact below_drew1 HB.out) (hb9.mono (Below.size (by first | exact HB.out | exact below_drew1 HB.out)))); clear HB hb9; have HB := n1_; clear n1_; refine hK.out _ _ trivial (fun hHeld => ?_))
          clear hK K
          refine norm_ (a' := ?_) ?_ ?_
          rotate_left
          · show Act.put _ (some 204) _ = _
            simp only [pS]
            rfl
          refine one_ (i := 39) (N := some 205) #[true, true, true, true, true, true, true, true, true, true, true, true, true, true, true, true, true, true, true, true, true, true, true, true, true, true, true, true, true, true, true, true, true, true, true, true, true, true, true, true, true, true, true, true, true, false, false, false, false, false, false] rfl rfl (one_of HT_.out (by kernel_rfl)) (by decide) (fun K hK => ?_)
          (refine goes_ Tryz.func23 (by kernel_rfl) rfl #[.string (str (bl k ++ [1])), .string b3] (by rfl) rfl rfl (by (try simp only [List.map_toArray, List.map_cons, List.map_nil]); first | done | rfl) ?_; (with_reducible refine (C8.out _ (gl_below HG.out (by first | exact HB.out | exact below_drew1 HB.out))).mono ?_); rintro e w9 ⟨rfl, hb9⟩; refine ⟨_, rfl, ?_⟩; have n1_ := Aside0.mk (Below.trans (by first | exact HB.out | exact below_drew1 HB.out) (hb9.mono (Below.size (by first | exact HB.out | exact below_drew1 HB.out)))); clear HB hb9; have HB := n1_; clear n1_; refine hK.out _ _ trivial (fun hHeld => ?_))
          clear hK K
          refine norm_ (a' := ?_) ?_ ?_
          rotate_left
          · show Act.put _ (some 205) _ = _
            simp only [pS]
            rfl
          refine one_ (i := 45) (N := some 211) #[true, true, true, true, true, true, true, true, true, true, true, true, true, true, true, true, true, true, true, true, true, true, true, true, true, true, true, true, true, true, true, true, true, true, true, true, true, true, true, true, true, true, true, true, true, true, false, false, false, false, false] rfl rfl (one_of HT_.out (by kernel_rfl)) (by decide) (fun K hK => ?_)
          (refine goes_ Tryz.func24 (by kernel_rfl) rfl #[.string (s.extract 0 n1)] (by rfl) rfl rfl (by (try simp only [List.map_toArray, List.map_cons, List.map_nil]); first | done | rfl) ?_; (with_reducible refine (C9.out _).mono ?_); rintro e w9 ⟨rfl, hb9⟩; refine ⟨_, rfl, ?_⟩; have n1_ := Aside0.mk (Below.trans (by first | exact HB.out | exact below_drew1 HB.out) (hb9.mono (Below.size (by first | exact HB.out | exact below_drew1 HB.out)))); clear HB hb9; have HB := n1_; clear n1_; refine hK.out _ _ trivial (fun hHeld => ?_))
          clear hK K
          refine norm_ (a' := ?_) ?_ ?_
          rotate_left
          · show Act.put _ (some 211) _ = _
            simp only [pS]
            rfl
          refine pure_ (i := 46) (N := some 212) (a' := ?_) #[true, true, true, true, true, true, true, true, true, true, true, true, true, true, true, true, true, true, true, true, true, true, true, true, true, true, true, true, true, true, true, true, true, true, true, true, true, true, true, true, true, true, true, true, true, true, true, false, false, false, false] rfl rfl (any_of HT_.out (by kernel_rfl)) (fun _ _ _ h => h) (Or.inl ⟨by rfl, streq_yields _ _ _ _ (by rfl) u3 l3 (by rfl) (by rfl) v3 E3.out⟩) ?_ ?_
          rotate_left
          · simp only [pS]
            rfl
          refine pure_ (i := 47) (N := some 213) (v := ?_) (a' := ?_) #[true, true, true, true, true, true, true, true, true, true, true, true, true, true, true, true, true, true, true, true, true, true, true, true, true, true, true, true, true, true, true, true, true, true, true, true, true, true, true, true, true, true, true, true, true, true, true, true, false, false, false] rfl rfl (any_of HT_.out (by kernel_rfl)) (fun _ _ _ h => h) (Or.inl ⟨by rfl, ?_⟩) ?_ ?_
          rotate_left
          · intro w'
            go_simp
            with_reducible rfl
          rotate_left
          · simp only [pS]
            rfl
          refine pure_ (i := 48) (N := some 214) (v := ?_) (a' := ?_) #[true, true, true, true, true, true, true, true, true, true, true, true, true, true, true, true, true, true, true, true, true, true, true, true, true, true, true, true, true, true, true, true, true, true, true, true, true, true, true, true, true, true, true, true, true, true, true, true, true, false, false] rfl rfl (any_of HT_.out (by kernel_rfl)) (fun _ _ _ h => h) (Or.inl ⟨by rfl, ?_⟩) ?_ ?_
          rotate_left
          · intro w'
            go_simp
            with_reducible rfl
          rotate_left
          · simp only [pS]
            rfl
          refine pure_ (i := 49) (N := some 215) (v := ?_) (a' := ?_) #[true, true, true, true, true, true, true, true, true, true, true, true, true, true, true, true, true, true, true, true, true, true, true, true, true, true, true, true, true, true, true, true, true, true, true, true, true, true, true, true, true, true, true, true, true, true, true, true, true, true, false] rfl rfl (any_of HT_.out (by kernel_rfl)) (fun _ _ _ h => h) (Or.inl ⟨by rfl, ?_⟩) ?_ ?_
          rotate_left
          · intro w'
            go_simp
            with_reducible rfl
          rotate_left
          · simp only [pS]
            rfl
          refine pure_ (i := 50) (N := some 6) (v := ?_) (a' := ?_) #[true, true, true, true, true, true, true, true, true, true, true, true, true, true, true, true, true, true, true, true, true, true, true, true, true, true, true, true, true, true, true, true, true, true, true, true, true, true, true, true, true, true, true, true, true, true, true, true, true, true, true] rfl rfl (any_of HT_.out (by kernel_rfl)) (fun _ _ _ h => h) (Or.inl ⟨by rfl, ?_⟩) ?_ ?_
          rotate_left
          · intro w'
            go_simp
            with_reducible rfl
          rotate_left
          · simp only [pS]
            rfl
          refine done_ (done_of HT_.out (by kernel_rfl)) ?_
          clear HT_ HW_ hHeld
          go_wp2
          go_ret
          exact ⟨by simp, (by first | exact HB.out | exact below_drew1 HB.out)⟩
theorem seals_calls (d : Dg) (k o : ByteArray) (w : World) (hg : GL w) (hd : d.ok) (hkd : -9223372036854775808 ≤ d.kind ∧ d.kind ≤ 9223372036854775807) (hk : k.size ≤ 1048576) (ho : o.size ≤ 1048576) : Calls Tryz.prog 7 #[.agg d.cells.toArray, .string k, .string o] w fun e w' => e = .returned (.bool true) ∧ Below w.heap.size w w' := by
  by_cases hs : (sealB d (bl k)).2 = 0
  · have h0 := seal_ok d (bl k) hs
    have hT : (hmac (bl k) (preB d)).length = 32 := length_sha _
    have h1 := h0.2.2.2 _ hT
    have h2 := dec_seal d (bl k) hd.1 hs
    rw [h0.2.2.1] at h2
    exact seals_walk d k o w (preB d) (hmac (bl k) (preB d)) hg hd hkd hk ho (headed_pre d ⟨h0.1, h0.2.1⟩) (pre_len20 d ⟨h0.1, h0.2.1⟩ h1.1.1) (by have := h1.2.2; rw [List.length_append, hT] at this; exact this) rfl hT h0.2.2.1 h2 ⟨by have := h0.1; omega, h0.2.1⟩
  · exact seals_bad d k o w hg hd hkd hk hs
end Go.Proofs.YtniabkphbnimaaaGreatDoor.Sh
