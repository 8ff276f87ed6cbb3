/- What the statement FrameBack leans on, part 3: words, walks and plain laws of this session's own. -/
import Derived.Test.YtniabkphbnimaaaGreatDoorProg
import Derived.Test.YtniabkphbnimaaaGreatDoorMFrameBack2
import Derived.ArgAppend
import Derived.Below
import Derived.BigQuiet
import Derived.ChangeOld
import Derived.ChangeSame
import Derived.Deep.AppendLies
import Derived.Deep.CutBlock
import Derived.Deep.DeepCutAuto
import Derived.Deep.Draws
import Derived.Deep.LoopGhost
import Derived.Deep.OwnRows
import Derived.Deep.QuietTactic
import Derived.Deep.RegionHeld3
import Derived.Deep.RegionLaw
import Derived.Deep.RegionWith
import Derived.Defers
import Derived.Great.Walk
import Derived.KernelRfl
import Derived.Laws.AppendOwn
import Derived.Laws.BitsLemmas
import Derived.Laws.BytesArg
import Derived.Laws.CopyOwn
import Derived.Laws.CopyRow
import Derived.Laws.IdiomCopy
import Derived.Laws.IdiomStrings
import Derived.Laws.MakeOwn
import Derived.Laws.OwnMore
import Derived.Laws.Rows
import Derived.Laws.Slices
import Derived.Lib.AppendStr
import Derived.Lib.ConvBytes
import Derived.Lib.LaidTab
import Derived.Maps.AppendAt
import Derived.Maps.OwnSet
import Derived.OpenShut
import Derived.OrdersHeld
import Derived.OwnWalk
import Derived.ProofKit
import Derived.Recover
import Derived.RowKit
import Derived.RowKit3
import Derived.Shelf.Strings.Repeat
import Derived.Shelf.Strings.Trim
import Derived.ShutString
import Derived.SizedLaws
import Derived.Tactics
import Derived.WalkKit
import Derived.WalkSmall
import Derived.WideLaws
set_option linter.unusedVariables false
set_option linter.unusedSimpArgs false
namespace Go.Proofs.YtniabkphbnimaaaGreatDoor.Sh
open Go Go.RowKit Go.Maps Go.Proofs.YtniabkphbnimaaaGreatDoorW.PrintWords Go.Proofs.YtniabkphbnimaaaGreatDoorW.PrintLast Go.Proofs.YtniabkphbnimaaaGreatDoor.Bs
def T_5_6 : Bool × List (List Nat × List Nat) := (true, [([], []), ([0], [0]), ([1], [1]), ([2], [2]), ([2], [2]), ([4, 2, 2], [2, 4]), ([3, 5, 2], [2, 3, 5]), ([2, 6], [2, 6])])
def B_5_6 : List Nat := [0, 1, 3, 7, 7, 23, 63, 127]
theorem tab_f5_6 : rtab .any (opsOf Tryz.f5 6) = T_5_6 := by kernel_rfl
theorem bits_f5_6 : waitsOk T_5_6.2 B_5_6 = true := by kernel_rfl
def T_5_14 : Bool × List (List Nat × List Nat) := (true, [([], []), ([0], [0]), ([1], [1]), ([2], [2]), ([2], [2]), ([3, 4, 2], [2, 3, 4]), ([2, 5], [2, 5]), ([6, 2], [6]), ([7], [7]), ([7], [7]), ([9, 7, 7], [7, 9]), ([8, 10, 7], [7, 8, 10]), ([7, 11], [7, 11]), ([12, 10], [12]), ([13], [13]), ([14, 13, 13], [13, 14]), ([15, 13], [13, 15]), ([13], [13]), ([17, 13], [13, 17]), ([18, 13], [13, 18]), ([16, 19, 13], [13, 16, 19]), ([13, 20], [13, 20]), ([21, 15, 0, 1, 2, 3, 4, 5, 6, 7, 8, 9, 10, 11, 12, 13, 14, 15, 16, 17, 18, 19, 20, 21], [21])])
def B_5_14 : List Nat := [0, 1, 3, 7, 7, 31, 63, 127, 255, 255, 767, 2047, 4095, 8191, 16383, 32767, 65535, 16383, 147455, 409599, 1048575, 2097151, 4194303]
theorem tab_f5_14 : rtab .any (opsOf Tryz.f5 14) = T_5_14 := by kernel_rfl
theorem bits_f5_14 : waitsOk T_5_14.2 B_5_14 = true := by kernel_rfl
set_option maxHeartbeats 8000000 in
set_option maxRecDepth 100000 in
theorem back_walk (d : Dg) (t : ByteArray) (w : World) (hg : GL w) (hd : d.ok) (hkd : -9223372036854775808 ≤ d.kind ∧ d.kind ≤ 9223372036854775807) (ht : t.size ≤ 1048576) : Calls Tryz.prog 5 #[.agg d.cells.toArray, .string t] w fun e w' => e = .returned (.bool true) ∧ Below w.heap.size w w' := by
  have HG := Aside0.mk hg
  obtain ⟨s, es⟩ : ∃ s, s = (enc d).1 := ⟨_, rfl⟩
  obtain ⟨c, ec⟩ : ∃ c, c = (enc d).2 := ⟨_, rfl⟩
  obtain ⟨x, ex⟩ : ∃ x, x = (dec (bl t)).1 := ⟨_, rfl⟩
  obtain ⟨g, eg⟩ : ∃ g, g = (dec (bl t)).2 := ⟨_, rfl⟩
  have AC := Aside0.mk alive_calls
  have EC := Aside0.mk (show ∀ w, Calls Tryz.prog 16 #[.agg d.cells.toArray] w fun e w' => e = .returned (.tuple #[.string s, .int .i64 c]) ∧ Below w.heap.size w w' from fun w => by rw [es, ec]; exact encode_calls d hd hkd w)
  have DC2 := Aside0.mk (show ∀ w, Calls Tryz.prog 10 #[.string t] w fun e w' => e = .returned (.tuple #[.agg x.cells.toArray, .int .i64 g]) ∧ Below w.heap.size w w' from fun w => by rw [ex, eg]; exact decode_calls (bl t) w)
  have BCH := Aside0.mk (show ∀ w, Calls Tryz.prog 12 #[.string t] w fun e w' => e = .returned (.string (str (bodyB (bl t)))) ∧ Below w.heap.size w w' from fun w => body_calls (bl t) (by rw [bl_len]; omega) w)
  have OXH := Aside0.mk (show g = 0 → ∀ w, Calls Tryz.prog 20 #[.agg x.cells.toArray] w fun e w' => e = .returned (.agg x.cells.toArray) ∧ Below w.heap.size w w' from fun h w => by
    rw [eg] at h
    have h1 := enc_dec (bl t) h
    rw [← ex] at h1
    have h2 := only_calls x (by have := enc_ok x (by rw [h1.1]); omega) w
    rw [h1.2.1] at h2
    exact h2)
  have hxok : g = 0 → x.ok ∧ (1 ≤ x.kind ∧ x.kind ≤ 7) := fun h => by
    rw [eg] at h
    have h1 := enc_dec (bl t) h
    rw [← ex] at h1
    have h2 := enc_ok x (by rw [h1.1])
    exact ⟨by rw [ex]; exact dec_good (bl t) (by rw [bl_len]; omega), by omega⟩
  have RCH := Aside0.mk (show g = 0 → ∀ w, Calls Tryz.prog 16 #[.agg x.cells.toArray] w fun e w' => e = .returned (.tuple #[.string t, .int .i64 0]) ∧ Below w.heap.size w w' from fun h w => by
    have hk := hxok h
    rw [eg] at h
    have h1 := enc_dec (bl t) h
    rw [← ex] at h1
    have h2 := encode_calls x hk.1 (by omega) w
    rw [h1.1] at h2
    exact h2)
  have BNH := Aside0.mk (show g = 0 → (bodyB (bl t) = [] ↔ x.kind ≤ 2) from fun h => by
    rw [eg] at h
    rw [ex]
    exact (enc_dec (bl t) h).2.2)
  have XZ := Aside0.mk (show g ≠ 0 → x = Dg.zero from fun h => by rw [eg] at h; rw [ex]; exact dec_err _ h)
  have GR2 := Aside0.mk (show g ≠ 0 → 70 ≤ g ∧ g ≤ 73 from fun h => by rw [eg] at h ⊢; exact (dec_code (bl t)).resolve_left h)
  clear hxok ex eg hg
  by_cases hc : c = 0
  · have h0 := enc_ok d (by rw [← ec, hc])
    have hs : bl s = encB d := by rw [es, h0.2.2.2.2]; rfl
    have DC := Aside0.mk (show ∀ w, Calls Tryz.prog 10 #[.string s] w fun e w' => e = .returned (.tuple #[.agg (onlyD d).cells.toArray, .int .i64 0]) ∧ Below w.heap.size w w' from fun w => by
      have h := decode_calls (bl s) w
      rw [hs, dec_encB d ⟨h0.1, h0.2.1⟩ h0.2.2.1 hd.1 h0.2.2.2.1, ← hs] at h
      exact h)
    have OC := Aside0.mk (fun w => only_calls d ⟨h0.1, h0.2.1⟩ w)
    clear h0 hs es ec hd hkd
    subst hc
    go_enter Tryz.func5, Tryz.ntmps5
    go_upto_region 6 with (first
      | ((with_reducible first | refine at_box_ ?_ | refine at_box2_ ?_); refine wpList_box_v rfl 27 _ rfl d.cells rfl (by kernel_rfl) ?_; intro D w1 eD hD1 hb1 hz1; have HD := Aside0.mk (show w1.heap[D]? = some (.cells d.cells.toArray 27 (0, 0)) from hD1.out); have HB := Aside0.mk (show Below w.heap.size w w1 from hb1.out); clear hD1 hb1 hz1 eD)
      | (go_at_call 9; (with_reducible refine (AC.out _ (gl_below HG.out HB.out)).mono ?_); rintro e w9 ⟨rfl, hb9⟩; have n1_ := Aside0.mk (Below.trans (by first | exact HB.out | exact below_drew1 HB.out) (hb9.mono HB.out.size)); have n2_ := Aside0.mk ((hb9.block D (blk_lt HD.out)).trans HD.out); clear HB HD; have HB := n1_; have HD := n2_; clear n1_ n2_; clear hb9)
      | ((with_reducible first | refine at_load_ ?_ | refine at_load2_ ?_); refine wpList_load_agg rfl 27 _ rfl D 0 rfl d.cells (load_all HD.out) _ Tryz.underlying27 rfl (by kernel_rfl) ?_)
      | (go_at_call 16; (with_reducible refine (EC.out _).mono ?_); rintro e w9 ⟨rfl, hb9⟩; have n1_ := Aside0.mk (Below.trans (by first | exact HB.out | exact below_drew1 HB.out) (hb9.mono HB.out.size)); have n2_ := Aside0.mk ((hb9.block D (blk_lt HD.out)).trans HD.out); clear HB HD; have HB := n1_; have HD := n2_; clear n1_ n2_; clear hb9)
      | (go_at_call 10; (with_reducible refine (DC.out _).mono ?_); rintro e w9 ⟨rfl, hb9⟩; have n1_ := Aside0.mk (Below.trans (by first | exact HB.out | exact below_drew1 HB.out) (hb9.mono HB.out.size)); have n2_ := Aside0.mk ((hb9.block D (blk_lt HD.out)).trans HD.out); clear HB HD; have HB := n1_; have HD := n2_; clear n1_ n2_; clear hb9)
      | ((with_reducible first | refine at_alloc_ ?_ | refine at_alloc2_ ?_); refine wpList_alloc_v rfl 27 rfl Dg.zero.cells (by kernel_rfl) ?_; intro E w4 eE hE2 hb4 hz4; have HEE := Aside0.mk (show w.heap.size ≤ E ∧ D ≠ E from by have := eE.out; have := HB.out.size; have := blk_lt HD.out; omega); have n2_ := Aside0.mk ((hb4.out.block D (blk_lt HD.out)).trans HD.out); have n1_ := Aside0.mk (HB.out.trans (hb4.out.mono HB.out.size)); clear HB HD; have HB := n1_; have HD := n2_; clear n1_ n2_ hb4 hz4 eE)
      | ((with_reducible first | refine at_store_ ?_ | refine at_store2_ ?_); refine wpList_store_agg rfl 27 _ _ rfl E 0 rfl (onlyD d).cells Dg.zero.cells rfl _ hE2.out (by exact Nat.le_refl 15) (fun v hv => one_cells hv) (by kernel_rfl) ?_; intro w5 hE3 hm5 hz5; rw [splice_all Dg.zero.cells (onlyD d).cells rfl] at hE3; have HE := Aside0.mk hE3.out; have n2_ := Aside0.mk (hm5.out.blk HD.out HEE.out.2); have n1_ := Aside0.mk (toBelow' HB.out hm5.out HEE.out.1); clear HB HD; have HB := n1_; have HD := n2_; clear n1_ n2_ hE2 hE3 hm5 hz5))
    refine start_ (n := 8) (S := fun w' => w'.heap[D]? = some (.cells d.cells.toArray 27 (0, 0)) ∧ w'.heap[E]? = some (.cells (onlyD d).cells.toArray 27 (0, 0))) (ds := []) #[false, false, false, false, false, false, false, false] (by kernel_rfl) rfl rfl ⟨HD.out, HE.out⟩ (fun hHeld => ?_)
    refine with_tabW tab_f5_6 bits_f5_6 (fun HT_ HW_ => ?_)
    refine pure_ (i := 0) (N := some 27) (v := ?_) (a' := ?_) #[true, false, false, false, false, false, false, false] rfl rfl (any_of HT_.out (by kernel_rfl)) (fun _ _ _ h => h) (Or.inl ⟨by rfl, ?_⟩) ?_ ?_
    rotate_left
    · intro w'
      go_simp
      with_reducible rfl
    rotate_left
    · simp only [Act.put, List.setIfInBounds_toArray, List.set_cons_zero, List.set_cons_succ, i64_w, i32_w]
      rfl
    refine pure_ (i := 1) (N := some 28) (v := ?_) (a' := ?_) #[true, true, false, false, false, false, false, false] rfl rfl (any_of HT_.out (by kernel_rfl)) (fun _ _ _ h => h) (Or.inl ⟨by rfl, ?_⟩) ?_ ?_
    rotate_left
    · intro w'
      go_simp
      with_reducible rfl
    rotate_left
    · simp only [Act.put, List.setIfInBounds_toArray, List.set_cons_zero, List.set_cons_succ, i64_w, i32_w]
      rfl
    refine pure_ (i := 2) (N := some 29) (v := ?_) (a' := ?_) #[true, true, true, false, false, false, false, false] rfl rfl (any_of HT_.out (by kernel_rfl)) (fun _ _ _ h => h) (Or.inl ⟨by rfl, ?_⟩) ?_ ?_
    rotate_left
    · intro w'
      go_simp
      with_reducible rfl
    rotate_left
    · simp only [Act.put, List.setIfInBounds_toArray, List.set_cons_zero, List.set_cons_succ, i64_w, i32_w]
      rfl
    refine take_ (i := 3) (N := some 30) (a' := ?_) #[true, true, true, true, false, false, false, false] rfl rfl (take_ofW HT_.out HW_.out (by kernel_rfl)) (fun _ _ _ h => h) (Or.inl ⟨by rfl, fun w' s => ldagg_yields 27 _ (by rfl) E 0 (by rfl) (onlyD d).cells (load_all s.2) _ Tryz.underlying27 rfl (by kernel_rfl)⟩) hHeld ?_ ?_
    rotate_left
    · simp only [Act.put, List.setIfInBounds_toArray, List.set_cons_zero, List.set_cons_succ, i64_w, i32_w]
      rfl
    refine take_ (i := 4) (N := some 31) (a' := ?_) #[true, true, true, true, true, false, false, false] rfl rfl (take_ofW HT_.out HW_.out (by kernel_rfl)) (fun _ _ _ h => h) (Or.inl ⟨by rfl, fun w' s => ldagg_yields 27 _ (by rfl) D 0 (by rfl) d.cells (load_all s.1) _ Tryz.underlying27 rfl (by kernel_rfl)⟩) hHeld ?_ ?_
    rotate_left
    · simp only [Act.put, List.setIfInBounds_toArray, List.set_cons_zero, List.set_cons_succ, i64_w, i32_w]
      rfl
    refine one_ (i := 5) (N := some 32) #[true, true, true, true, true, true, false, false] rfl rfl (one_of HT_.out (by kernel_rfl)) (by decide) (fun K hK => ?_)
    refine goes_ Tryz.func20 (by kernel_rfl) rfl #[.agg d.cells.toArray] (by rfl) rfl rfl (by (try simp only [List.map_toArray, List.map_cons, List.map_nil]); first | done | rfl) ?_
    with_reducible refine (OC.out _).mono ?_
    rintro e w9 ⟨rfl, hb9⟩
    refine ⟨_, rfl, ?_⟩
    have n1_ := Aside0.mk (Below.trans (by first | exact HB.out | exact below_drew1 HB.out) (hb9.mono HB.out.size)); have n2_ := Aside0.mk ((hb9.block D (blk_lt HD.out)).trans HD.out); clear HB HD; have HB := n1_; have HD := n2_; clear n1_ n2_
    have n1_ := Aside0.mk ((hb9.block E (blk_lt HE.out)).trans HE.out); clear HE; have HE := n1_; clear n1_
    clear hb9
    refine hK.out _ _ ⟨HD.out, HE.out⟩ (fun hHeld => ?_)
    clear hK K
    refine norm_ (a' := ?_) ?_ ?_
    rotate_left
    · show Act.put _ (some 32) _ = _
      simp only [Act.put, List.setIfInBounds_toArray, List.set_cons_zero, List.set_cons_succ, i64_w, i32_w]
      rfl
    refine one_ (i := 6) (N := some 33) #[true, true, true, true, true, true, true, false] rfl rfl (one_of HT_.out (by kernel_rfl)) (by decide) (fun K hK => ?_)
    refine step_w rfl (wp_dgne (onlyD d) (onlyD d) rfl _ _ _ rfl rfl rfl ?_)
    refine hK.out _ _ ⟨HD.out, HE.out⟩ (fun hHeld => ?_)
    clear hK K
    refine norm_ (a' := ?_) ?_ ?_
    rotate_left
    · show Act.put _ (some 33) _ = _
      simp only [Act.put, List.setIfInBounds_toArray, List.set_cons_zero, List.set_cons_succ, i64_w, i32_w]
      rfl
    refine pure_ (i := 7) (N := some 34) (v := ?_) (a' := ?_) #[true, true, true, true, true, true, true, true] rfl rfl (any_of HT_.out (by kernel_rfl)) (fun _ _ _ h => h) (Or.inl ⟨by rfl, ?_⟩) ?_ ?_
    rotate_left
    · intro w'
      go_simp
      with_reducible rfl
    rotate_left
    · simp only [Act.put, List.setIfInBounds_toArray, List.set_cons_zero, List.set_cons_succ, i64_w, i32_w]
      rfl
    refine done_ (done_of HT_.out (by kernel_rfl)) ?_
    clear HT_ HW_ hHeld
    go_upto_region 10 with fail
    clear HD
    by_cases hg : g = 0
    · subst hg
      have OX := Aside0.mk (OXH.out rfl)
      have RC := Aside0.mk (RCH.out rfl)
      have BN := Aside0.mk (BNH.out rfl)
      clear OXH RCH BNH GR2 XZ
      go_upto_region 14 with (first
        | (go_at_call 10; (with_reducible refine (DC2.out _).mono ?_); rintro e w9 ⟨rfl, hb9⟩; have n1_ := Aside0.mk (HB.out.trans (hb9.mono HB.out.size)); clear HB hb9; have HB := n1_; clear n1_)
        | ((with_reducible first | refine at_alloc_ ?_ | refine at_alloc2_ ?_); refine wpList_alloc_v rfl 27 rfl Dg.zero.cells (by kernel_rfl) ?_; intro X w6 eX hX2 hb6 hz6; have HXX := Aside0.mk (show w.heap.size ≤ X from by have := eX.out; have := HB.out.size; omega); have n1_ := Aside0.mk (HB.out.trans (hb6.out.mono HB.out.size)); clear HB; have HB := n1_; clear n1_ hb6 hz6 eX)
        | ((with_reducible first | refine at_store_ ?_ | refine at_store2_ ?_); refine wpList_store_agg rfl 27 _ _ rfl X 0 rfl x.cells Dg.zero.cells rfl _ hX2.out (by exact Nat.le_refl 15) (fun v hv => one_cells hv) (by kernel_rfl) ?_; intro w7 hX3 hm7 hz7; rw [splice_all Dg.zero.cells x.cells rfl] at hX3; have HX := Aside0.mk hX3.out; have n1_ := Aside0.mk (toBelow' HB.out hm7.out HXX.out); clear HB; have HB := n1_; clear n1_ hX2 hX3 hm7 hz7)
        | ((with_reducible first | refine at_load_ ?_ | refine at_load2_ ?_); refine wpList_load_agg rfl 27 _ rfl X 0 rfl x.cells (load_all HX.out) _ Tryz.underlying27 rfl (by kernel_rfl) ?_)
        | (go_at_call 16; (with_reducible refine (RC.out _).mono ?_); rintro e w9 ⟨rfl, hb9⟩; have n1_ := Aside0.mk (Below.trans (by first | exact HB.out | exact below_drew1 HB.out) (hb9.mono HB.out.size)); have n2_ := Aside0.mk ((hb9.block X (blk_lt HX.out)).trans HX.out); clear HB HX; have HB := n1_; have HX := n2_; clear n1_ n2_; clear hb9))
      by_cases hk : x.kind ≤ 2
      · have hbn : bodyB (bl t) = [] := BN.out.mpr hk
        have BC := Aside0.mk (show ∀ w, Calls Tryz.prog 12 #[.string t] w fun e w' => e = .returned (.string ⟨#[]⟩) ∧ Below w.heap.size w w' from fun w => by have h := BCH.out w; rw [hbn] at h; exact h)
        have o1 : decide (x.kind ≤ 2) = true := decide_eq_true hk
        clear hk hbn
        refine start_ (n := 23) (S := fun w' => w'.heap[X]? = some (.cells x.cells.toArray 27 (0, 0)) ∧ w'.cell? ⟨X, 0, none⟩ = some (.int .i64 x.kind)) (ds := []) #[false, false, false, false, false, false, false, false, false, false, false, false, false, false, false, false, false, false, false, false, false, false, false] (by kernel_rfl) rfl rfl ⟨HX.out, cell_of HX.out rfl⟩ (fun hHeld => ?_)
        refine with_tabW tab_f5_14 bits_f5_14 (fun HT_ HW_ => ?_)
        refine pure_ (i := 0) (N := some 68) (v := ?_) (a' := ?_) #[true, false, false, false, false, false, false, false, false, false, false, false, false, false, false, false, false, false, false, false, false, false, false] rfl rfl (any_of HT_.out (by kernel_rfl)) (fun _ _ _ h => h) (Or.inl ⟨by rfl, ?_⟩) ?_ ?_
        rotate_left
        · intro w'
          go_simp
          with_reducible rfl
        rotate_left
        · simp only [Act.put, List.setIfInBounds_toArray, List.set_cons_zero, List.set_cons_succ, i64_w, i32_w]
          rfl
        refine pure_ (i := 1) (N := some 69) (v := ?_) (a' := ?_) #[true, true, false, false, false, false, false, false, false, false, false, false, false, false, false, false, false, false, false, false, false, false, false] rfl rfl (any_of HT_.out (by kernel_rfl)) (fun _ _ _ h => h) (Or.inl ⟨by rfl, ?_⟩) ?_ ?_
        rotate_left
        · intro w'
          go_simp
          with_reducible rfl
        rotate_left
        · simp only [Act.put, List.setIfInBounds_toArray, List.set_cons_zero, List.set_cons_succ, i64_w, i32_w]
          rfl
        refine pure_ (i := 2) (N := some 70) (v := ?_) (a' := ?_) #[true, true, true, false, false, false, false, false, false, false, false, false, false, false, false, false, false, false, false, false, false, false, false] rfl rfl (any_of HT_.out (by kernel_rfl)) (fun _ _ _ h => h) (Or.inl ⟨by rfl, ?_⟩) ?_ ?_
        rotate_left
        · intro w'
          go_simp
          with_reducible rfl
        rotate_left
        · simp only [Act.put, List.setIfInBounds_toArray, List.set_cons_zero, List.set_cons_succ, i64_w, i32_w]
          rfl
        refine pure_ (i := 3) (N := some 71) (v := ?_) (a' := ?_) #[true, true, true, true, false, false, false, false, false, false, false, false, false, false, false, false, false, false, false, false, false, false, false] rfl rfl (any_of HT_.out (by kernel_rfl)) (fun _ _ _ h => h) (Or.inl ⟨by rfl, ?_⟩) ?_ ?_
        rotate_left
        · intro w'
          go_simp
          with_reducible rfl
        rotate_left
        · simp only [Act.put, List.setIfInBounds_toArray, List.set_cons_zero, List.set_cons_succ, i64_w, i32_w]
          rfl
        refine pure_ (i := 4) (N := some 72) (v := ?_) (a' := ?_) #[true, true, true, true, true, false, false, false, false, false, false, false, false, false, false, false, false, false, false, false, false, false, false] rfl rfl (any_of HT_.out (by kernel_rfl)) (fun _ _ _ h => h) (Or.inl ⟨by rfl, ?_⟩) ?_ ?_
        rotate_left
        · intro w'
          go_simp
          with_reducible rfl
        rotate_left
        · simp only [Act.put, List.setIfInBounds_toArray, List.set_cons_zero, List.set_cons_succ, i64_w, i32_w]
          rfl
        refine pure_ (i := 5) (N := some 73) (v := ?_) (a' := ?_) #[true, true, true, true, true, true, false, false, false, false, false, false, false, false, false, false, false, false, false, false, false, false, false] rfl rfl (any_of HT_.out (by kernel_rfl)) (fun _ _ _ h => h) (Or.inl ⟨by rfl, ?_⟩) ?_ ?_
        rotate_left
        · intro w'
          go_simp
          with_reducible rfl
        rotate_left
        · simp only [Act.put, List.setIfInBounds_toArray, List.set_cons_zero, List.set_cons_succ, i64_w, i32_w]
          rfl
        refine pure_ (i := 6) (N := some 74) (v := ?_) (a' := ?_) #[true, true, true, true, true, true, true, false, false, false, false, false, false, false, false, false, false, false, false, false, false, false, false] rfl rfl (any_of HT_.out (by kernel_rfl)) (fun _ _ _ h => h) (Or.inl ⟨by rfl, ?_⟩) ?_ ?_
        rotate_left
        · intro w'
          go_simp
          with_reducible rfl
        rotate_left
        · simp only [Act.put, List.setIfInBounds_toArray, List.set_cons_zero, List.set_cons_succ, i64_w, i32_w]
          rfl
        refine pure_ (i := 7) (N := some 75) (v := ?_) (a' := ?_) #[true, true, true, true, true, true, true, true, false, false, false, false, false, false, false, false, false, false, false, false, false, false, false] rfl rfl (any_of HT_.out (by kernel_rfl)) (fun _ _ _ h => h) (Or.inl ⟨by rfl, ?_⟩) ?_ ?_
        rotate_left
        · intro w'
          go_simp
          with_reducible rfl
        rotate_left
        · simp only [Act.put, List.setIfInBounds_toArray, List.set_cons_zero, List.set_cons_succ, i64_w, i32_w]
          rfl
        refine take_ (i := 8) (N := some 76) (a' := ?_) #[true, true, true, true, true, true, true, true, true, false, false, false, false, false, false, false, false, false, false, false, false, false, false] rfl rfl (take_ofW HT_.out HW_.out (by kernel_rfl)) (fun _ _ _ h => h) (Or.inl ⟨by rfl, fun w' s => ldagg_yields 27 _ (by rfl) X 0 (by rfl) x.cells (load_all s.1) _ Tryz.underlying27 rfl (by kernel_rfl)⟩) hHeld ?_ ?_
        rotate_left
        · simp only [Act.put, List.setIfInBounds_toArray, List.set_cons_zero, List.set_cons_succ, i64_w, i32_w]
          rfl
        refine take_ (i := 9) (N := some 77) (a' := ?_) #[true, true, true, true, true, true, true, true, true, true, false, false, false, false, false, false, false, false, false, false, false, false, false] rfl rfl (take_ofW HT_.out HW_.out (by kernel_rfl)) (fun _ _ _ h => h) (Or.inl ⟨by rfl, fun w' s => ldagg_yields 27 _ (by rfl) X 0 (by rfl) x.cells (load_all s.1) _ Tryz.underlying27 rfl (by kernel_rfl)⟩) hHeld ?_ ?_
        rotate_left
        · simp only [Act.put, List.setIfInBounds_toArray, List.set_cons_zero, List.set_cons_succ, i64_w, i32_w]
          rfl
        refine one_ (i := 10) (N := some 78) #[true, true, true, true, true, true, true, true, true, true, true, false, false, false, false, false, false, false, false, false, false, false, false] rfl rfl (one_of HT_.out (by kernel_rfl)) (by decide) (fun K hK => ?_)
        refine goes_ Tryz.func20 (by kernel_rfl) rfl #[.agg x.cells.toArray] (by rfl) rfl rfl (by (try simp only [List.map_toArray, List.map_cons, List.map_nil]); first | done | rfl) ?_
        with_reducible refine (OX.out _).mono ?_
        rintro e w9 ⟨rfl, hb9⟩
        refine ⟨_, rfl, ?_⟩
        have n1_ := Aside0.mk (Below.trans (by first | exact HB.out | exact below_drew1 HB.out) (hb9.mono HB.out.size)); have n2_ := Aside0.mk ((hb9.block X (blk_lt HX.out)).trans HX.out); clear HB HX; have HB := n1_; have HX := n2_; clear n1_ n2_
        clear hb9
        refine hK.out _ _ ⟨HX.out, cell_of HX.out rfl⟩ (fun hHeld => ?_)
        clear hK K
        refine norm_ (a' := ?_) ?_ ?_
        rotate_left
        · show Act.put _ (some 78) _ = _
          simp only [Act.put, List.setIfInBounds_toArray, List.set_cons_zero, List.set_cons_succ, i64_w, i32_w]
          rfl
        refine one_ (i := 11) (N := some 79) #[true, true, true, true, true, true, true, true, true, true, true, true, false, false, false, false, false, false, false, false, false, false, false] rfl rfl (one_of HT_.out (by kernel_rfl)) (by decide) (fun K hK => ?_)
        refine step_w rfl (wp_dgeq x x rfl _ _ _ rfl rfl rfl ?_)
        refine hK.out _ _ hHeld (fun hHeld => ?_)
        clear hK K
        refine norm_ (a' := ?_) ?_ ?_
        rotate_left
        · show Act.put _ (some 79) _ = _
          simp only [Act.put, List.setIfInBounds_toArray, List.set_cons_zero, List.set_cons_succ, i64_w, i32_w]
          rfl
        refine pure_ (i := 12) (N := some 80) (v := ?_) (a' := ?_) #[true, true, true, true, true, true, true, true, true, true, true, true, true, false, false, false, false, false, false, false, false, false, false] rfl rfl (any_of HT_.out (by kernel_rfl)) (fun _ _ _ h => h) (Or.inl ⟨by rfl, ?_⟩) ?_ ?_
        rotate_left
        · intro w'
          go_simp
          with_reducible rfl
        rotate_left
        · simp only [Act.put, List.setIfInBounds_toArray, List.set_cons_zero, List.set_cons_succ, i64_w, i32_w]
          rfl
        refine pure_ (i := 13) (N := some 81) (v := ?_) (a' := ?_) #[true, true, true, true, true, true, true, true, true, true, true, true, true, true, false, false, false, false, false, false, false, false, false] rfl rfl (any_of HT_.out (by kernel_rfl)) (fun _ _ _ h => h) (Or.inl ⟨by rfl, ?_⟩) ?_ ?_
        rotate_left
        · intro w'
          go_simp
          with_reducible rfl
        rotate_left
        · simp only [Act.put, List.setIfInBounds_toArray, List.set_cons_zero, List.set_cons_succ, i64_w, i32_w]
          rfl
        refine pure_ (i := 14) (N := some 82) (v := ?_) (a' := ?_) #[true, true, true, true, true, true, true, true, true, true, true, true, true, true, true, false, false, false, false, false, false, false, false] rfl rfl (any_of HT_.out (by kernel_rfl)) (fun _ _ _ h => h) (Or.inl ⟨by rfl, ?_⟩) ?_ ?_
        rotate_left
        · intro w'
          go_simp
          with_reducible rfl
        rotate_left
        · simp only [Act.put, List.setIfInBounds_toArray, List.set_cons_zero, List.set_cons_succ, i64_w, i32_w]
          rfl
        refine pure_ (i := 17) (N := some 85) (v := ?_) (a' := ?_) #[true, true, true, true, true, true, true, true, true, true, true, true, true, true, true, false, false, true, false, false, false, false, false] rfl rfl (any_of HT_.out (by kernel_rfl)) (fun _ _ _ h => h) (Or.inl ⟨by rfl, ?_⟩) ?_ ?_
        rotate_left
        · intro w'
          go_simp
          with_reducible rfl
        rotate_left
        · simp only [Act.put, List.setIfInBounds_toArray, List.set_cons_zero, List.set_cons_succ, i64_w, i32_w]
          rfl
        refine take_ (i := 18) (N := some 86) (v := ?_) (a' := ?_) #[true, true, true, true, true, true, true, true, true, true, true, true, true, true, true, false, false, true, true, false, false, false, false] rfl rfl (take_ofW HT_.out HW_.out (by kernel_rfl)) (fun _ _ _ h => h) (Or.inl ⟨by rfl, ?_⟩) hHeld ?_ ?_
        rotate_left
        · rintro w' ⟨sx, sk⟩
          go_simp
          with_reducible rfl
        rotate_left
        · simp only [Act.put, List.setIfInBounds_toArray, List.set_cons_zero, List.set_cons_succ, i64_w, i32_w]
          rfl
        refine pure_ (i := 19) (N := some 87) (v := ?_) (a' := ?_) #[true, true, true, true, true, true, true, true, true, true, true, true, true, true, true, false, false, true, true, true, false, false, false] rfl rfl (any_of HT_.out (by kernel_rfl)) (fun _ _ _ h => h) (Or.inl ⟨by rfl, ?_⟩) ?_ ?_
        rotate_left
        · intro w'
          go_simp
          with_reducible rfl
        rotate_left
        · simp only [Act.put, List.setIfInBounds_toArray, List.set_cons_zero, List.set_cons_succ, i64_w, i32_w]
          rfl
        refine one_ (i := 15) (N := some 83) #[true, true, true, true, true, true, true, true, true, true, true, true, true, true, true, true, false, true, true, true, false, false, false] rfl rfl (one_of HT_.out (by kernel_rfl)) (by decide) (fun K hK => ?_)
        refine goes_ Tryz.func12 (by kernel_rfl) rfl #[.string t] (by rfl) rfl rfl (by (try simp only [List.map_toArray, List.map_cons, List.map_nil]); first | done | rfl) ?_
        with_reducible refine (BC.out _).mono ?_
        rintro e w9 ⟨rfl, hb9⟩
        refine ⟨_, rfl, ?_⟩
        have n1_ := Aside0.mk (Below.trans (by first | exact HB.out | exact below_drew1 HB.out) (hb9.mono HB.out.size)); have n2_ := Aside0.mk ((hb9.block X (blk_lt HX.out)).trans HX.out); clear HB HX; have HB := n1_; have HX := n2_; clear n1_ n2_
        clear hb9
        refine hK.out _ _ ⟨HX.out, cell_of HX.out rfl⟩ (fun hHeld => ?_)
        clear hK K
        refine norm_ (a' := ?_) ?_ ?_
        rotate_left
        · show Act.put _ (some 83) _ = _
          simp only [Act.put, List.setIfInBounds_toArray, List.set_cons_zero, List.set_cons_succ, i64_w, i32_w]
          rfl
        refine pure_ (i := 16) (N := some 84) (v := ?_) (a' := ?_) #[true, true, true, true, true, true, true, true, true, true, true, true, true, true, true, true, true, true, true, true, false, false, false] rfl rfl (any_of HT_.out (by kernel_rfl)) (fun _ _ _ h => h) (Or.inl ⟨by rfl, ?_⟩) ?_ ?_
        rotate_left
        · intro w'
          go_simp
          with_reducible rfl
        rotate_left
        · simp only [Act.put, List.setIfInBounds_toArray, List.set_cons_zero, List.set_cons_succ, i64_w, i32_w]
          rfl
        refine pure_ (i := 20) (N := some 88) (v := ?_) (a' := ?_) #[true, true, true, true, true, true, true, true, true, true, true, true, true, true, true, true, true, true, true, true, true, false, false] rfl rfl (any_of HT_.out (by kernel_rfl)) (fun _ _ _ h => h) (Or.inl ⟨by rfl, ?_⟩) ?_ ?_
        rotate_left
        · intro w'
          go_simp
          with_reducible rfl
        rotate_left
        · simp only [Act.put, List.setIfInBounds_toArray, List.set_cons_zero, List.set_cons_succ, i64_w, i32_w]
          rfl
        refine pure_ (i := 21) (N := some 89) (v := ?_) (a' := ?_) #[true, true, true, true, true, true, true, true, true, true, true, true, true, true, true, true, true, true, true, true, true, true, false] rfl rfl (any_of HT_.out (by kernel_rfl)) (fun _ _ _ h => h) (Or.inl ⟨by rfl, ?_⟩) ?_ ?_
        rotate_left
        · intro w'
          go_simp
          with_reducible rfl
        rotate_left
        · simp only [Act.put, List.setIfInBounds_toArray, List.set_cons_zero, List.set_cons_succ, i64_w, i32_w]
          rfl
        refine pure_ (i := 22) (N := some 4) (v := ?_) (a' := ?_) #[true, true, true, true, true, true, true, true, true, true, true, true, true, true, true, true, true, true, true, true, true, true, true] rfl rfl (any_of HT_.out (by kernel_rfl)) (fun _ _ _ h => h) (Or.inl ⟨by rfl, ?_⟩) ?_ ?_
        rotate_left
        · intro w'
          go_simp
          with_reducible rfl
        rotate_left
        · simp only [Act.put, List.setIfInBounds_toArray, List.set_cons_zero, List.set_cons_succ, i64_w, i32_w]
          rfl
        refine done_ (done_of HT_.out (by kernel_rfl)) ?_
        clear HT_ HW_ hHeld
        go_wp2
        go_ret
        exact ⟨rfl, HB.out⟩
      · have hbn : ¬ bodyB (bl t) = [] := fun h => hk (BN.out.mp h)
        obtain ⟨b, eb⟩ : ∃ b, b = str (bodyB (bl t)) := ⟨_, rfl⟩
        have BC := Aside0.mk (show ∀ w, Calls Tryz.prog 12 #[.string t] w fun e w' => e = .returned (.string b) ∧ Below w.heap.size w w' from fun w => by rw [eb]; exact BCH.out w)
        have o1 : decide (x.kind ≤ 2) = false := decide_eq_false hk
        have o2 : ¬ b.toList = [] := by rw [eb, str_list]; exact hbn
        have o3 : (b.toList == []) = false := beq_eq_false_iff_ne.mpr o2
        have o4 : b.toList.isEmpty = false := by rw [← Bool.not_eq_true, List.isEmpty_iff]; exact o2
        clear hk hbn eb
        refine start_ (n := 23) (S := fun w' => w'.heap[X]? = some (.cells x.cells.toArray 27 (0, 0)) ∧ w'.cell? ⟨X, 0, none⟩ = some (.int .i64 x.kind)) (ds := []) #[false, false, false, false, false, false, false, false, false, false, false, false, false, false, false, false, false, false, false, false, false, false, false] (by kernel_rfl) rfl rfl ⟨HX.out, cell_of HX.out rfl⟩ (fun hHeld => ?_)
        refine with_tabW tab_f5_14 bits_f5_14 (fun HT_ HW_ => ?_)
        refine pure_ (i := 0) (N := some 68) (v := ?_) (a' := ?_) #[true, false, false, false, false, false, false, false, false, false, false, false, false, false, false, false, false, false, false, false, false, false, false] rfl rfl (any_of HT_.out (by kernel_rfl)) (fun _ _ _ h => h) (Or.inl ⟨by rfl, ?_⟩) ?_ ?_
        rotate_left
        · intro w'
          go_simp
          with_reducible rfl
        rotate_left
        · simp only [Act.put, List.setIfInBounds_toArray, List.set_cons_zero, List.set_cons_succ, i64_w, i32_w]
          rfl
        refine pure_ (i := 1) (N := some 69) (v := ?_) (a' := ?_) #[true, true, false, false, false, false, false, false, false, false, false, false, false, false, false, false, false, false, false, false, false, false, false] rfl rfl (any_of HT_.out (by kernel_rfl)) (fun _ _ _ h => h) (Or.inl ⟨by rfl, ?_⟩) ?_ ?_
        rotate_left
        · intro w'
          go_simp
          with_reducible rfl
        rotate_left
        · simp only [Act.put, List.setIfInBounds_toArray, List.set_cons_zero, List.set_cons_succ, i64_w, i32_w]
          rfl
        refine pure_ (i := 2) (N := some 70) (v := ?_) (a' := ?_) #[true, true, true, false, false, false, false, false, false, false, false, false, false, false, false, false, false, false, false, false, false, false, false] rfl rfl (any_of HT_.out (by kernel_rfl)) (fun _ _ _ h => h) (Or.inl ⟨by rfl, ?_⟩) ?_ ?_
        rotate_left
        · intro w'
          go_simp
          with_reducible rfl
        rotate_left
        · simp only [Act.put, List.setIfInBounds_toArray, List.set_cons_zero, List.set_cons_succ, i64_w, i32_w]
          rfl
        refine pure_ (i := 3) (N := some 71) (v := ?_) (a' := ?_) #[true, true, true, true, false, false, false, false, false, false, false, false, false, false, false, false, false, false, false, false, false, false, false] rfl rfl (any_of HT_.out (by kernel_rfl)) (fun _ _ _ h => h) (Or.inl ⟨by rfl, ?_⟩) ?_ ?_
        rotate_left
        · intro w'
          go_simp
          with_reducible rfl
        rotate_left
        · simp only [Act.put, List.setIfInBounds_toArray, List.set_cons_zero, List.set_cons_succ, i64_w, i32_w]
          rfl
        refine pure_ (i := 4) (N := some 72) (v := ?_) (a' := ?_) #[true, true, true, true, true, false, false, false, false, false, false, false, false, false, false, false, false, false, false, false, false, false, false] rfl rfl (any_of HT_.out (by kernel_rfl)) (fun _ _ _ h => h) (Or.inl ⟨by rfl, ?_⟩) ?_ ?_
        rotate_left
        · intro w'
          go_simp
          with_reducible rfl
        rotate_left
        · simp only [Act.put, List.setIfInBounds_toArray, List.set_cons_zero, List.set_cons_succ, i64_w, i32_w]
          rfl
        refine pure_ (i := 5) (N := some 73) (v := ?_) (a' := ?_) #[true, true, true, true, true, true, false, false, false, false, false, false, false, false, false, false, false, false, false, false, false, false, false] rfl rfl (any_of HT_.out (by kernel_rfl)) (fun _ _ _ h => h) (Or.inl ⟨by rfl, ?_⟩) ?_ ?_
        rotate_left
        · intro w'
          go_simp
          with_reducible rfl
        rotate_left
        · simp only [Act.put, List.setIfInBounds_toArray, List.set_cons_zero, List.set_cons_succ, i64_w, i32_w]
          rfl
        refine pure_ (i := 6) (N := some 74) (v := ?_) (a' := ?_) #[true, true, true, true, true, true, true, false, false, false, false, false, false, false, false, false, false, false, false, false, false, false, false] rfl rfl (any_of HT_.out (by kernel_rfl)) (fun _ _ _ h => h) (Or.inl ⟨by rfl, ?_⟩) ?_ ?_
        rotate_left
        · intro w'
          go_simp
          with_reducible rfl
        rotate_left
        · simp only [Act.put, List.setIfInBounds_toArray, List.set_cons_zero, List.set_cons_succ, i64_w, i32_w]
          rfl
        refine pure_ (i := 7) (N := some 75) (v := ?_) (a' := ?_) #[true, true, true, true, true, true, true, true, false, false, false, false, false, false, false, false, false, false, false, false, false, false, false] rfl rfl (any_of HT_.out (by kernel_rfl)) (fun _ _ _ h => h) (Or.inl ⟨by rfl, ?_⟩) ?_ ?_
        rotate_left
        · intro w'
          go_simp
          with_reducible rfl
        rotate_left
        · simp only [Act.put, List.setIfInBounds_toArray, List.set_cons_zero, List.set_cons_succ, i64_w, i32_w]
          rfl
        refine take_ (i := 8) (N := some 76) (a' := ?_) #[true, true, true, true, true, true, true, true, true, false, false, false, false, false, false, false, false, false, false, false, false, false, false] rfl rfl (take_ofW HT_.out HW_.out (by kernel_rfl)) (fun _ _ _ h => h) (Or.inl ⟨by rfl, fun w' s => ldagg_yields 27 _ (by rfl) X 0 (by rfl) x.cells (load_all s.1) _ Tryz.underlying27 rfl (by kernel_rfl)⟩) hHeld ?_ ?_
        rotate_left
        · simp only [Act.put, List.setIfInBounds_toArray, List.set_cons_zero, List.set_cons_succ, i64_w, i32_w]
          rfl
        refine take_ (i := 9) (N := some 77) (a' := ?_) #[true, true, true, true, true, true, true, true, true, true, false, false, false, false, false, false, false, false, false, false, false, false, false] rfl rfl (take_ofW HT_.out HW_.out (by kernel_rfl)) (fun _ _ _ h => h) (Or.inl ⟨by rfl, fun w' s => ldagg_yields 27 _ (by rfl) X 0 (by rfl) x.cells (load_all s.1) _ Tryz.underlying27 rfl (by kernel_rfl)⟩) hHeld ?_ ?_
        rotate_left
        · simp only [Act.put, List.setIfInBounds_toArray, List.set_cons_zero, List.set_cons_succ, i64_w, i32_w]
          rfl
        refine one_ (i := 10) (N := some 78) #[true, true, true, true, true, true, true, true, true, true, true, false, false, false, false, false, false, false, false, false, false, false, false] rfl rfl (one_of HT_.out (by kernel_rfl)) (by decide) (fun K hK => ?_)
        refine goes_ Tryz.func20 (by kernel_rfl) rfl #[.agg x.cells.toArray] (by rfl) rfl rfl (by (try simp only [List.map_toArray, List.map_cons, List.map_nil]); first | done | rfl) ?_
        with_reducible refine (OX.out _).mono ?_
        rintro e w9 ⟨rfl, hb9⟩
        refine ⟨_, rfl, ?_⟩
        have n1_ := Aside0.mk (Below.trans (by first | exact HB.out | exact below_drew1 HB.out) (hb9.mono HB.out.size)); have n2_ := Aside0.mk ((hb9.block X (blk_lt HX.out)).trans HX.out); clear HB HX; have HB := n1_; have HX := n2_; clear n1_ n2_
        clear hb9
        refine hK.out _ _ ⟨HX.out, cell_of HX.out rfl⟩ (fun hHeld => ?_)
        clear hK K
        refine norm_ (a' := ?_) ?_ ?_
        rotate_left
        · show Act.put _ (some 78) _ = _
          simp only [Act.put, List.setIfInBounds_toArray, List.set_cons_zero, List.set_cons_succ, i64_w, i32_w]
          rfl
        refine one_ (i := 11) (N := some 79) #[true, true, true, true, true, true, true, true, true, true, true, true, false, false, false, false, false, false, false, false, false, false, false] rfl rfl (one_of HT_.out (by kernel_rfl)) (by decide) (fun K hK => ?_)
        refine step_w rfl (wp_dgeq x x rfl _ _ _ rfl rfl rfl ?_)
        refine hK.out _ _ hHeld (fun hHeld => ?_)
        clear hK K
        refine norm_ (a' := ?_) ?_ ?_
        rotate_left
        · show Act.put _ (some 79) _ = _
          simp only [Act.put, List.setIfInBounds_toArray, List.set_cons_zero, List.set_cons_succ, i64_w, i32_w]
          rfl
        refine pure_ (i := 12) (N := some 80) (v := ?_) (a' := ?_) #[true, true, true, true, true, true, true, true, true, true, true, true, true, false, false, false, false, false, false, false, false, false, false] rfl rfl (any_of HT_.out (by kernel_rfl)) (fun _ _ _ h => h) (Or.inl ⟨by rfl, ?_⟩) ?_ ?_
        rotate_left
        · intro w'
          go_simp
          with_reducible rfl
        rotate_left
        · simp only [Act.put, List.setIfInBounds_toArray, List.set_cons_zero, List.set_cons_succ, i64_w, i32_w]
          rfl
        refine pure_ (i := 13) (N := some 81) (v := ?_) (a' := ?_) #[true, true, true, true, true, true, true, true, true, true, true, true, true, true, false, false, false, false, false, false, false, false, false] rfl rfl (any_of HT_.out (by kernel_rfl)) (fun _ _ _ h => h) (Or.inl ⟨by rfl, ?_⟩) ?_ ?_
        rotate_left
        · intro w'
          go_simp
          with_reducible rfl
        rotate_left
        · simp only [Act.put, List.setIfInBounds_toArray, List.set_cons_zero, List.set_cons_succ, i64_w, i32_w]
          rfl
        refine pure_ (i := 14) (N := some 82) (v := ?_) (a' := ?_) #[true, true, true, true, true, true, true, true, true, true, true, true, true, true, true, false, false, false, false, false, false, false, false] rfl rfl (any_of HT_.out (by kernel_rfl)) (fun _ _ _ h => h) (Or.inl ⟨by rfl, ?_⟩) ?_ ?_
        rotate_left
        · intro w'
          go_simp
          with_reducible rfl
        rotate_left
        · simp only [Act.put, List.setIfInBounds_toArray, List.set_cons_zero, List.set_cons_succ, i64_w, i32_w]
          rfl
        refine pure_ (i := 17) (N := some 85) (v := ?_) (a' := ?_) #[true, true, true, true, true, true, true, true, true, true, true, true, true, true, true, false, false, true, false, false, false, false, false] rfl rfl (any_of HT_.out (by kernel_rfl)) (fun _ _ _ h => h) (Or.inl ⟨by rfl, ?_⟩) ?_ ?_
        rotate_left
        · intro w'
          go_simp
          with_reducible rfl
        rotate_left
        · simp only [Act.put, List.setIfInBounds_toArray, List.set_cons_zero, List.set_cons_succ, i64_w, i32_w]
          rfl
        refine take_ (i := 18) (N := some 86) (v := ?_) (a' := ?_) #[true, true, true, true, true, true, true, true, true, true, true, true, true, true, true, false, false, true, true, false, false, false, false] rfl rfl (take_ofW HT_.out HW_.out (by kernel_rfl)) (fun _ _ _ h => h) (Or.inl ⟨by rfl, ?_⟩) hHeld ?_ ?_
        rotate_left
        · rintro w' ⟨sx, sk⟩
          go_simp
          with_reducible rfl
        rotate_left
        · simp only [Act.put, List.setIfInBounds_toArray, List.set_cons_zero, List.set_cons_succ, i64_w, i32_w]
          rfl
        refine pure_ (i := 19) (N := some 87) (v := ?_) (a' := ?_) #[true, true, true, true, true, true, true, true, true, true, true, true, true, true, true, false, false, true, true, true, false, false, false] rfl rfl (any_of HT_.out (by kernel_rfl)) (fun _ _ _ h => h) (Or.inl ⟨by rfl, ?_⟩) ?_ ?_
        rotate_left
        · intro w'
          go_simp
          with_reducible rfl
        rotate_left
        · simp only [Act.put, List.setIfInBounds_toArray, List.set_cons_zero, List.set_cons_succ, i64_w, i32_w]
          rfl
        refine one_ (i := 15) (N := some 83) #[true, true, true, true, true, true, true, true, true, true, true, true, true, true, true, true, false, true, true, true, false, false, false] rfl rfl (one_of HT_.out (by kernel_rfl)) (by decide) (fun K hK => ?_)
        refine goes_ Tryz.func12 (by kernel_rfl) rfl #[.string t] (by rfl) rfl rfl (by (try simp only [List.map_toArray, List.map_cons, List.map_nil]); first | done | rfl) ?_
        with_reducible refine (BC.out _).mono ?_
        rintro e w9 ⟨rfl, hb9⟩
        refine ⟨_, rfl, ?_⟩
        have n1_ := Aside0.mk (Below.trans (by first | exact HB.out | exact below_drew1 HB.out) (hb9.mono HB.out.size)); have n2_ := Aside0.mk ((hb9.block X (blk_lt HX.out)).trans HX.out); clear HB HX; have HB := n1_; have HX := n2_; clear n1_ n2_
        clear hb9
        refine hK.out _ _ ⟨HX.out, cell_of HX.out rfl⟩ (fun hHeld => ?_)
        clear hK K
        refine norm_ (a' := ?_) ?_ ?_
        rotate_left
        · show Act.put _ (some 83) _ = _
          simp only [Act.put, List.setIfInBounds_toArray, List.set_cons_zero, List.set_cons_succ, i64_w, i32_w]
          rfl
        refine pure_ (i := 16) (N := some 84) (v := ?_) (a' := ?_) #[true, true, true, true, true, true, true, true, true, true, true, true, true, true, true, true, true, true, true, true, false, false, false] rfl rfl (any_of HT_.out (by kernel_rfl)) (fun _ _ _ h => h) (Or.inl ⟨by rfl, ?_⟩) ?_ ?_
        rotate_left
        · intro w'
          go_simp
          with_reducible rfl
        rotate_left
        · simp only [Act.put, List.setIfInBounds_toArray, List.set_cons_zero, List.set_cons_succ, i64_w, i32_w]
          rfl
        refine pure_ (i := 20) (N := some 88) (v := ?_) (a' := ?_) #[true, true, true, true, true, true, true, true, true, true, true, true, true, true, true, true, true, true, true, true, true, false, false] rfl rfl (any_of HT_.out (by kernel_rfl)) (fun _ _ _ h => h) (Or.inl ⟨by rfl, ?_⟩) ?_ ?_
        rotate_left
        · intro w'
          go_simp
          with_reducible rfl
        rotate_left
        · simp only [Act.put, List.setIfInBounds_toArray, List.set_cons_zero, List.set_cons_succ, i64_w, i32_w]
          rfl
        refine pure_ (i := 21) (N := some 89) (v := ?_) (a' := ?_) #[true, true, true, true, true, true, true, true, true, true, true, true, true, true, true, true, true, true, true, true, true, true, false] rfl rfl (any_of HT_.out (by kernel_rfl)) (fun _ _ _ h => h) (Or.inl ⟨by rfl, ?_⟩) ?_ ?_
        rotate_left
        · intro w'
          go_simp
          with_reducible rfl
        rotate_left
        · simp only [Act.put, List.setIfInBounds_toArray, List.set_cons_zero, List.set_cons_succ, i64_w, i32_w]
          rfl
        refine pure_ (i := 22) (N := some 4) (v := ?_) (a' := ?_) #[true, true, true, true, true, true, true, true, true, true, true, true, true, true, true, true, true, true, true, true, true, true, true] rfl rfl (any_of HT_.out (by kernel_rfl)) (fun _ _ _ h => h) (Or.inl ⟨by rfl, ?_⟩) ?_ ?_
        rotate_left
        · intro w'
          go_simp
          with_reducible rfl
        rotate_left
        · simp only [Act.put, List.setIfInBounds_toArray, List.set_cons_zero, List.set_cons_succ, i64_w, i32_w]
          rfl
        refine done_ (done_of HT_.out (by kernel_rfl)) ?_
        clear HT_ HW_ hHeld
        go_wp2
        go_ret
        exact ⟨rfl, HB.out⟩
    · have hx : x = Dg.zero := XZ.out hg
      have hr := GR2.out hg
      have o1 : (g == 0) = false := beq_eq_false_iff_ne.mpr hg
      have o2 : (g != 0) = true := by simp [bne, o1]
      have o3 : decide (70 ≤ g) = true := decide_eq_true hr.1
      have o4 : decide (g ≤ 73) = true := decide_eq_true hr.2
      clear hg hr OXH RCH BNH GR2 XZ
      subst hx
      go_wp2_with (first
        | (go_at_call 10; (with_reducible refine (DC2.out _).mono ?_); rintro e w9 ⟨rfl, hb9⟩; have n1_ := Aside0.mk (HB.out.trans (hb9.mono HB.out.size)); clear HB hb9; have HB := n1_; clear n1_)
        | ((with_reducible first | refine at_alloc_ ?_ | refine at_alloc2_ ?_); refine wpList_alloc_v rfl 27 rfl Dg.zero.cells (by kernel_rfl) ?_; intro X w6 eX hX2 hb6 hz6; have HXX := Aside0.mk (show w.heap.size ≤ X from by have := eX.out; have := HB.out.size; omega); have n1_ := Aside0.mk (HB.out.trans (hb6.out.mono HB.out.size)); clear HB; have HB := n1_; clear n1_ hb6 hz6 eX)
        | ((with_reducible first | refine at_store_ ?_ | refine at_store2_ ?_); refine wpList_store_agg rfl 27 _ _ rfl X 0 rfl Dg.zero.cells Dg.zero.cells rfl _ hX2.out (by exact Nat.le_refl 15) (fun v hv => one_cells hv) (by kernel_rfl) ?_; intro w7 hX3 hm7 hz7; rw [splice_all Dg.zero.cells Dg.zero.cells rfl] at hX3; have HX := Aside0.mk hX3.out; have n1_ := Aside0.mk (toBelow' HB.out hm7.out HXX.out); clear HB; have HB := n1_; clear n1_ hX2 hX3 hm7 hz7)
        | ((with_reducible first | refine at_load_ ?_ | refine at_load2_ ?_); refine wpList_load_agg rfl 27 _ rfl X 0 rfl Dg.zero.cells (load_all HX.out) _ Tryz.underlying27 rfl (by kernel_rfl) ?_)
        | ((with_reducible first | refine at_eqdg_ ?_ | refine at_eqdg2_ ?_); refine wpList_dgeq rfl Dg.zero Dg.zero rfl _ _ _ rfl rfl rfl ?_))
      go_ret
      exact ⟨rfl, HB.out⟩
  · have h0 := enc_bad d (by rw [← ec]; exact hc)
    rw [← es, ← ec] at h0
    have o1 : (c == 0) = false := beq_eq_false_iff_ne.mpr hc
    have o2 : s = ⟨#[]⟩ := h0.1
    have o3 : decide (c < 71) = false := decide_eq_false (by omega)
    have o4 : decide (73 < c) = false := decide_eq_false (by omega)
    subst o2
    clear h0 es ec hd hkd hc
    go_enter Tryz.func5, Tryz.ntmps5
    go_upto_region 10 with (first
      | ((with_reducible first | refine at_box_ ?_ | refine at_box2_ ?_); refine wpList_box_v rfl 27 _ rfl d.cells rfl (by kernel_rfl) ?_; intro D w1 eD hD1 hb1 hz1; have HD := Aside0.mk (show w1.heap[D]? = some (.cells d.cells.toArray 27 (0, 0)) from hD1.out); have HB := Aside0.mk (show Below w.heap.size w w1 from hb1.out); clear hD1 hb1 hz1 eD)
      | (go_at_call 9; (with_reducible refine (AC.out _ (gl_below HG.out HB.out)).mono ?_); rintro e w9 ⟨rfl, hb9⟩; have n1_ := Aside0.mk (Below.trans (by first | exact HB.out | exact below_drew1 HB.out) (hb9.mono HB.out.size)); have n2_ := Aside0.mk ((hb9.block D (blk_lt HD.out)).trans HD.out); clear HB HD; have HB := n1_; have HD := n2_; clear n1_ n2_; clear hb9)
      | ((with_reducible first | refine at_load_ ?_ | refine at_load2_ ?_); refine wpList_load_agg rfl 27 _ rfl D 0 rfl d.cells (load_all HD.out) _ Tryz.underlying27 rfl (by kernel_rfl) ?_)
      | (go_at_call 16; (with_reducible refine (EC.out _).mono ?_); rintro e w9 ⟨rfl, hb9⟩; have n1_ := Aside0.mk (Below.trans (by first | exact HB.out | exact below_drew1 HB.out) (hb9.mono HB.out.size)); have n2_ := Aside0.mk ((hb9.block D (blk_lt HD.out)).trans HD.out); clear HB HD; have HB := n1_; have HD := n2_; clear n1_ n2_; clear hb9))
    clear HD
    by_cases hg : g = 0
    · subst hg
      have OX := Aside0.mk (OXH.out rfl)
      have RC := Aside0.mk (RCH.out rfl)
      have BN := Aside0.mk (BNH.out rfl)
      clear OXH RCH BNH GR2 XZ
      go_upto_region 14 with (first
        | (go_at_call 10; (with_reducible refine (DC2.out _).mono ?_); rintro e w9 ⟨rfl, hb9⟩; have n1_ := Aside0.mk (HB.out.trans (hb9.mono HB.out.size)); clear HB hb9; have HB := n1_; clear n1_)
        | ((with_reducible first | refine at_alloc_ ?_ | refine at_alloc2_ ?_); refine wpList_alloc_v rfl 27 rfl Dg.zero.cells (by kernel_rfl) ?_; intro X w6 eX hX2 hb6 hz6; have HXX := Aside0.mk (show w.heap.size ≤ X from by have := eX.out; have := HB.out.size; omega); have n1_ := Aside0.mk (HB.out.trans (hb6.out.mono HB.out.size)); clear HB; have HB := n1_; clear n1_ hb6 hz6 eX)
        | ((with_reducible first | refine at_store_ ?_ | refine at_store2_ ?_); refine wpList_store_agg rfl 27 _ _ rfl X 0 rfl x.cells Dg.zero.cells rfl _ hX2.out (by exact Nat.le_refl 15) (fun v hv => one_cells hv) (by kernel_rfl) ?_; intro w7 hX3 hm7 hz7; rw [splice_all Dg.zero.cells x.cells rfl] at hX3; have HX := Aside0.mk hX3.out; have n1_ := Aside0.mk (toBelow' HB.out hm7.out HXX.out); clear HB; have HB := n1_; clear n1_ hX2 hX3 hm7 hz7)
        | ((with_reducible first | refine at_load_ ?_ | refine at_load2_ ?_); refine wpList_load_agg rfl 27 _ rfl X 0 rfl x.cells (load_all HX.out) _ Tryz.underlying27 rfl (by kernel_rfl) ?_)
        | (go_at_call 16; (with_reducible refine (RC.out _).mono ?_); rintro e w9 ⟨rfl, hb9⟩; have n1_ := Aside0.mk (Below.trans (by first | exact HB.out | exact below_drew1 HB.out) (hb9.mono HB.out.size)); have n2_ := Aside0.mk ((hb9.block X (blk_lt HX.out)).trans HX.out); clear HB HX; have HB := n1_; have HX := n2_; clear n1_ n2_; clear hb9))
      by_cases hk : x.kind ≤ 2
      · have hbn : bodyB (bl t) = [] := BN.out.mpr hk
        have BC := Aside0.mk (show ∀ w, Calls Tryz.prog 12 #[.string t] w fun e w' => e = .returned (.string ⟨#[]⟩) ∧ Below w.heap.size w w' from fun w => by have h := BCH.out w; rw [hbn] at h; exact h)
        have o1 : decide (x.kind ≤ 2) = true := decide_eq_true hk
        clear hk hbn
        refine start_ (n := 23) (S := fun w' => w'.heap[X]? = some (.cells x.cells.toArray 27 (0, 0)) ∧ w'.cell? ⟨X, 0, none⟩ = some (.int .i64 x.kind)) (ds := []) #[false, false, false, false, false, false, false, false, false, false, false, false, false, false, false, false, false, false, false, false, false, false, false] (by kernel_rfl) rfl rfl ⟨HX.out, cell_of HX.out rfl⟩ (fun hHeld => ?_)
        refine with_tabW tab_f5_14 bits_f5_14 (fun HT_ HW_ => ?_)
        refine pure_ (i := 0) (N := some 68) (v := ?_) (a' := ?_) #[true, false, false, false, false, false, false, false, false, false, false, false, false, false, false, false, false, false, false, false, false, false, false] rfl rfl (any_of HT_.out (by kernel_rfl)) (fun _ _ _ h => h) (Or.inl ⟨by rfl, ?_⟩) ?_ ?_
        rotate_left
        · intro w'
          go_simp
          with_reducible rfl
        rotate_left
        · simp only [Act.put, List.setIfInBounds_toArray, List.set_cons_zero, List.set_cons_succ, i64_w, i32_w]
          rfl
        refine pure_ (i := 1) (N := some 69) (v := ?_) (a' := ?_) #[true, true, false, false, false, false, false, false, false, false, false, false, false, false, false, false, false, false, false, false, false, false, false] rfl rfl (any_of HT_.out (by kernel_rfl)) (fun _ _ _ h => h) (Or.inl ⟨by rfl, ?_⟩) ?_ ?_
        rotate_left
        · intro w'
          go_simp
          with_reducible rfl
        rotate_left
        · simp only [Act.put, List.setIfInBounds_toArray, List.set_cons_zero, List.set_cons_succ, i64_w, i32_w]
          rfl
        refine pure_ (i := 2) (N := some 70) (v := ?_) (a' := ?_) #[true, true, true, false, false, false, false, false, false, false, false, false, false, false, false, false, false, false, false, false, false, false, false] rfl rfl (any_of HT_.out (by kernel_rfl)) (fun _ _ _ h => h) (Or.inl ⟨by rfl, ?_⟩) ?_ ?_
        rotate_left
        · intro w'
          go_simp
          with_reducible rfl
        rotate_left
        · simp only [Act.put, List.setIfInBounds_toArray, List.set_cons_zero, List.set_cons_succ, i64_w, i32_w]
          rfl
        refine pure_ (i := 3) (N := some 71) (v := ?_) (a' := ?_) #[true, true, true, true, false, false, false, false, false, false, false, false, false, false, false, false, false, false, false, false, false, false, false] rfl rfl (any_of HT_.out (by kernel_rfl)) (fun _ _ _ h => h) (Or.inl ⟨by rfl, ?_⟩) ?_ ?_
        rotate_left
        · intro w'
          go_simp
          with_reducible rfl
        rotate_left
        · simp only [Act.put, List.setIfInBounds_toArray, List.set_cons_zero, List.set_cons_succ, i64_w, i32_w]
          rfl
        refine pure_ (i := 4) (N := some 72) (v := ?_) (a' := ?_) #[true, true, true, true, true, false, false, false, false, false, false, false, false, false, false, false, false, false, false, false, false, false, false] rfl rfl (any_of HT_.out (by kernel_rfl)) (fun _ _ _ h => h) (Or.inl ⟨by rfl, ?_⟩) ?_ ?_
        rotate_left
        · intro w'
          go_simp
          with_reducible rfl
        rotate_left
        · simp only [Act.put, List.setIfInBounds_toArray, List.set_cons_zero, List.set_cons_succ, i64_w, i32_w]
          rfl
        refine pure_ (i := 5) (N := some 73) (v := ?_) (a' := ?_) #[true, true, true, true, true, true, false, false, false, false, false, false, false, false, false, false, false, false, false, false, false, false, false] rfl rfl (any_of HT_.out (by kernel_rfl)) (fun _ _ _ h => h) (Or.inl ⟨by rfl, ?_⟩) ?_ ?_
        rotate_left
        · intro w'
          go_simp
          with_reducible rfl
        rotate_left
        · simp only [Act.put, List.setIfInBounds_toArray, List.set_cons_zero, List.set_cons_succ, i64_w, i32_w]
          rfl
        refine pure_ (i := 6) (N := some 74) (v := ?_) (a' := ?_) #[true, true, true, true, true, true, true, false, false, false, false, false, false, false, false, false, false, false, false, false, false, false, false] rfl rfl (any_of HT_.out (by kernel_rfl)) (fun _ _ _ h => h) (Or.inl ⟨by rfl, ?_⟩) ?_ ?_
        rotate_left
        · intro w'
          go_simp
          with_reducible rfl
        rotate_left
        · simp only [Act.put, List.setIfInBounds_toArray, List.set_cons_zero, List.set_cons_succ, i64_w, i32_w]
          rfl
        refine pure_ (i := 7) (N := some 75) (v := ?_) (a' := ?_) #[true, true, true, true, true, true, true, true, false, false, false, false, false, false, false, false, false, false, false, false, false, false, false] rfl rfl (any_of HT_.out (by kernel_rfl)) (fun _ _ _ h => h) (Or.inl ⟨by rfl, ?_⟩) ?_ ?_
        rotate_left
        · intro w'
          go_simp
          with_reducible rfl
        rotate_left
        · simp only [Act.put, List.setIfInBounds_toArray, List.set_cons_zero, List.set_cons_succ, i64_w, i32_w]
          rfl
        refine take_ (i := 8) (N := some 76) (a' := ?_) #[true, true, true, true, true, true, true, true, true, false, false, false, false, false, false, false, false, false, false, false, false, false, false] rfl rfl (take_ofW HT_.out HW_.out (by kernel_rfl)) (fun _ _ _ h => h) (Or.inl ⟨by rfl, fun w' s => ldagg_yields 27 _ (by rfl) X 0 (by rfl) x.cells (load_all s.1) _ Tryz.underlying27 rfl (by kernel_rfl)⟩) hHeld ?_ ?_
        rotate_left
        · simp only [Act.put, List.setIfInBounds_toArray, List.set_cons_zero, List.set_cons_succ, i64_w, i32_w]
          rfl
        refine take_ (i := 9) (N := some 77) (a' := ?_) #[true, true, true, true, true, true, true, true, true, true, false, false, false, false, false, false, false, false, false, false, false, false, false] rfl rfl (take_ofW HT_.out HW_.out (by kernel_rfl)) (fun _ _ _ h => h) (Or.inl ⟨by rfl, fun w' s => ldagg_yields 27 _ (by rfl) X 0 (by rfl) x.cells (load_all s.1) _ Tryz.underlying27 rfl (by kernel_rfl)⟩) hHeld ?_ ?_
        rotate_left
        · simp only [Act.put, List.setIfInBounds_toArray, List.set_cons_zero, List.set_cons_succ, i64_w, i32_w]
          rfl
        refine one_ (i := 10) (N := some 78) #[true, true, true, true, true, true, true, true, true, true, true, false, false, false, false, false, false, false, false, false, false, false, false] rfl rfl (one_of HT_.out (by kernel_rfl)) (by decide) (fun K hK => ?_)
        refine goes_ Tryz.func20 (by kernel_rfl) rfl #[.agg x.cells.toArray] (by rfl) rfl rfl (by (try simp only [List.map_toArray, List.map_cons, List.map_nil]); first | done | rfl) ?_
        with_reducible refine (OX.out _).mono ?_
        rintro e w9 ⟨rfl, hb9⟩
        refine ⟨_, rfl, ?_⟩
        have n1_ := Aside0.mk (Below.trans (by first | exact HB.out | exact below_drew1 HB.out) (hb9.mono HB.out.size)); have n2_ := Aside0.mk ((hb9.block X (blk_lt HX.out)).trans HX.out); clear HB HX; have HB := n1_; have HX := n2_; clear n1_ n2_
        clear hb9
        refine hK.out _ _ ⟨HX.out, cell_of HX.out rfl⟩ (fun hHeld => ?_)
        clear hK K
        refine norm_ (a' := ?_) ?_ ?_
        rotate_left
        · show Act.put _ (some 78) _ = _
          simp only [Act.put, List.setIfInBounds_toArray, List.set_cons_zero, List.set_cons_succ, i64_w, i32_w]
          rfl
        refine one_ (i := 11) (N := some 79) #[true, true, true, true, true, true, true, true, true, true, true, true, false, false, false, false, false, false, false, false, false, false, false] rfl rfl (one_of HT_.out (by kernel_rfl)) (by decide) (fun K hK => ?_)
        refine step_w rfl (wp_dgeq x x rfl _ _ _ rfl rfl rfl ?_)
        refine hK.out _ _ hHeld (fun hHeld => ?_)
        clear hK K
        refine norm_ (a' := ?_) ?_ ?_
        rotate_left
        · show Act.put _ (some 79) _ = _
          simp only [Act.put, List.setIfInBounds_toArray, List.set_cons_zero, List.set_cons_succ, i64_w, i32_w]
          rfl
        refine pure_ (i := 12) (N := some 80) (v := ?_) (a' := ?_) #[true, true, true, true, true, true, true, true, true, true, true, true, true, false, false, false, false, false, false, false, false, false, false] rfl rfl (any_of HT_.out (by kernel_rfl)) (fun _ _ _ h => h) (Or.inl ⟨by rfl, ?_⟩) ?_ ?_
        rotate_left
        · intro w'
          go_simp
          with_reducible rfl
        rotate_left
        · simp only [Act.put, List.setIfInBounds_toArray, List.set_cons_zero, List.set_cons_succ, i64_w, i32_w]
          rfl
        refine pure_ (i := 13) (N := some 81) (v := ?_) (a' := ?_) #[true, true, true, true, true, true, true, true, true, true, true, true, true, true, false, false, false, false, false, false, false, false, false] rfl rfl (any_of HT_.out (by kernel_rfl)) (fun _ _ _ h => h) (Or.inl ⟨by rfl, ?_⟩) ?_ ?_
        rotate_left
        · intro w'
          go_simp
          with_reducible rfl
        rotate_left
        · simp only [Act.put, List.setIfInBounds_toArray, List.set_cons_zero, List.set_cons_succ, i64_w, i32_w]
          rfl
        refine pure_ (i := 14) (N := some 82) (v := ?_) (a' := ?_) #[true, true, true, true, true, true, true, true, true, true, true, true, true, true, true, false, false, false, false, false, false, false, false] rfl rfl (any_of HT_.out (by kernel_rfl)) (fun _ _ _ h => h) (Or.inl ⟨by rfl, ?_⟩) ?_ ?_
        rotate_left
        · intro w'
          go_simp
          with_reducible rfl
        rotate_left
        · simp only [Act.put, List.setIfInBounds_toArray, List.set_cons_zero, List.set_cons_succ, i64_w, i32_w]
          rfl
        refine pure_ (i := 17) (N := some 85) (v := ?_) (a' := ?_) #[true, true, true, true, true, true, true, true, true, true, true, true, true, true, true, false, false, true, false, false, false, false, false] rfl rfl (any_of HT_.out (by kernel_rfl)) (fun _ _ _ h => h) (Or.inl ⟨by rfl, ?_⟩) ?_ ?_
        rotate_left
        · intro w'
          go_simp
          with_reducible rfl
        rotate_left
        · simp only [Act.put, List.setIfInBounds_toArray, List.set_cons_zero, List.set_cons_succ, i64_w, i32_w]
          rfl
        refine take_ (i := 18) (N := some 86) (v := ?_) (a' := ?_) #[true, true, true, true, true, true, true, true, true, true, true, true, true, true, true, false, false, true, true, false, false, false, false] rfl rfl (take_ofW HT_.out HW_.out (by kernel_rfl)) (fun _ _ _ h => h) (Or.inl ⟨by rfl, ?_⟩) hHeld ?_ ?_
        rotate_left
        · rintro w' ⟨sx, sk⟩
          go_simp
          with_reducible rfl
        rotate_left
        · simp only [Act.put, List.setIfInBounds_toArray, List.set_cons_zero, List.set_cons_succ, i64_w, i32_w]
          rfl
        refine pure_ (i := 19) (N := some 87) (v := ?_) (a' := ?_) #[true, true, true, true, true, true, true, true, true, true, true, true, true, true, true, false, false, true, true, true, false, false, false] rfl rfl (any_of HT_.out (by kernel_rfl)) (fun _ _ _ h => h) (Or.inl ⟨by rfl, ?_⟩) ?_ ?_
        rotate_left
        · intro w'
          go_simp
          with_reducible rfl
        rotate_left
        · simp only [Act.put, List.setIfInBounds_toArray, List.set_cons_zero, List.set_cons_succ, i64_w, i32_w]
          rfl
        refine one_ (i := 15) (N := some 83) #[true, true, true, true, true, true, true, true, true, true, true, true, true, true, true, true, false, true, true, true, false, false, false] rfl rfl (one_of HT_.out (by kernel_rfl)) (by decide) (fun K hK => ?_)
        refine goes_ Tryz.func12 (by kernel_rfl) rfl #[.string t] (by rfl) rfl rfl (by (try simp only [List.map_toArray, List.map_cons, List.map_nil]); first | done | rfl) ?_
        with_reducible refine (BC.out _).mono ?_
        rintro e w9 ⟨rfl, hb9⟩
        refine ⟨_, rfl, ?_⟩
        have n1_ := Aside0.mk (Below.trans (by first | exact HB.out | exact below_drew1 HB.out) (hb9.mono HB.out.size)); have n2_ := Aside0.mk ((hb9.block X (blk_lt HX.out)).trans HX.out); clear HB HX; have HB := n1_; have HX := n2_; clear n1_ n2_
        clear hb9
        refine hK.out _ _ ⟨HX.out, cell_of HX.out rfl⟩ (fun hHeld => ?_)
        clear hK K
        refine norm_ (a' := ?_) ?_ ?_
        rotate_left
        · show Act.put _ (some 83) _ = _
          simp only [Act.put, List.setIfInBounds_toArray, List.set_cons_zero, List.set_cons_succ, i64_w, i32_w]
          rfl
        refine pure_ (i := 16) (N := some 84) (v := ?_) (a' := ?_) #[true, true, true, true, true, true, true, true, true, true, true, true, true, true, true, true, true, true, true, true, false, false, false] rfl rfl (any_of HT_.out (by kernel_rfl)) (fun _ _ _ h => h) (Or.inl ⟨by rfl, ?_⟩) ?_ ?_
        rotate_left
        · intro w'
          go_simp
          with_reducible rfl
        rotate_left
        · simp only [Act.put, List.setIfInBounds_toArray, List.set_cons_zero, List.set_cons_succ, i64_w, i32_w]
          rfl
        refine pure_ (i := 20) (N := some 88) (v := ?_) (a' := ?_) #[true, true, true, true, true, true, true, true, true, true, true, true, true, true, true, true, true, true, true, true, true, false, false] rfl rfl (any_of HT_.out (by kernel_rfl)) (fun _ _ _ h => h) (Or.inl ⟨by rfl, ?_⟩) ?_ ?_
        rotate_left
        · intro w'
          go_simp
          with_reducible rfl
        rotate_left
        · simp only [Act.put, List.setIfInBounds_toArray, List.set_cons_zero, List.set_cons_succ, i64_w, i32_w]
          rfl
        refine pure_ (i := 21) (N := some 89) (v := ?_) (a' := ?_) #[true, true, true, true, true, true, true, true, true, true, true, true, true, true, true, true, true, true, true, true, true, true, false] rfl rfl (any_of HT_.out (by kernel_rfl)) (fun _ _ _ h => h) (Or.inl ⟨by rfl, ?_⟩) ?_ ?_
        rotate_left
        · intro w'
          go_simp
          with_reducible rfl
        rotate_left
        · simp only [Act.put, List.setIfInBounds_toArray, List.set_cons_zero, List.set_cons_succ, i64_w, i32_w]
          rfl
        refine pure_ (i := 22) (N := some 4) (v := ?_) (a' := ?_) #[true, true, true, true, true, true, true, true, true, true, true, true, true, true, true, true, true, true, true, true, true, true, true] rfl rfl (any_of HT_.out (by kernel_rfl)) (fun _ _ _ h => h) (Or.inl ⟨by rfl, ?_⟩) ?_ ?_
        rotate_left
        · intro w'
          go_simp
          with_reducible rfl
        rotate_left
        · simp only [Act.put, List.setIfInBounds_toArray, List.set_cons_zero, List.set_cons_succ, i64_w, i32_w]
          rfl
        refine done_ (done_of HT_.out (by kernel_rfl)) ?_
        clear HT_ HW_ hHeld
        go_wp2
        go_ret
        exact ⟨rfl, HB.out⟩
      · have hbn : ¬ bodyB (bl t) = [] := fun h => hk (BN.out.mp h)
        obtain ⟨b, eb⟩ : ∃ b, b = str (bodyB (bl t)) := ⟨_, rfl⟩
        have BC := Aside0.mk (show ∀ w, Calls Tryz.prog 12 #[.string t] w fun e w' => e = .returned (.string b) ∧ Below w.heap.size w w' from fun w => by rw [eb]; exact BCH.out w)
        have o1 : decide (x.kind ≤ 2) = false := decide_eq_false hk
        have o2 : ¬ b.toList = [] := by rw [eb, str_list]; exact hbn
        have o3 : (b.toList == []) = false := beq_eq_false_iff_ne.mpr o2
        have o4 : b.toList.isEmpty = false := by rw [← Bool.not_eq_true, List.isEmpty_iff]; exact o2
        clear hk hbn eb
        refine start_ (n := 23) (S := fun w' => w'.heap[X]? = some (.cells x.cells.toArray 27 (0, 0)) ∧ w'.cell? ⟨X, 0, none⟩ = some (.int .i64 x.kind)) (ds := []) #[false, false, false, false, false, false, false, false, false, false, false, false, false, false, false, false, false, false, false, false, false, false, false] (by kernel_rfl) rfl rfl ⟨HX.out, cell_of HX.out rfl⟩ (fun hHeld => ?_)
        refine with_tabW tab_f5_14 bits_f5_14 (fun HT_ HW_ => ?_)
        refine pure_ (i := 0) (N := some 68) (v := ?_) (a' := ?_) #[true, false, false, false, false, false, false, false, false, false, false, false, false, false, false, false, false, false, false, false, false, false, false] rfl rfl (any_of HT_.out (by kernel_rfl)) (fun _ _ _ h => h) (Or.inl ⟨by rfl, ?_⟩) ?_ ?_
        rotate_left
        · intro w'
          go_simp
          with_reducible rfl
        rotate_left
        · simp only [Act.put, List.setIfInBounds_toArray, List.set_cons_zero, List.set_cons_succ, i64_w, i32_w]
          rfl
        refine pure_ (i := 1) (N := some 69) (v := ?_) (a' := ?_) #[true, true, false, false, false, false, false, false, false, false, false, false, false, false, false, false, false, false, false, false, false, false, false] rfl rfl (any_of HT_.out (by kernel_rfl)) (fun _ _ _ h => h) (Or.inl ⟨by rfl, ?_⟩) ?_ ?_
        rotate_left
        · intro w'
          go_simp
          with_reducible rfl
        rotate_left
        · simp only [Act.put, List.setIfInBounds_toArray, List.set_cons_zero, List.set_cons_succ, i64_w, i32_w]
          rfl
        refine pure_ (i := 2) (N := some 70) (v := ?_) (a' := ?_) #[true, true, true, false, false, false, false, false, false, false, false, false, false, false, false, false, false, false, false, false, false, false, false] rfl rfl (any_of HT_.out (by kernel_rfl)) (fun _ _ _ h => h) (Or.inl ⟨by rfl, ?_⟩) ?_ ?_
        rotate_left
        · intro w'
          go_simp
          with_reducible rfl
        rotate_left
        · simp only [Act.put, List.setIfInBounds_toArray, List.set_cons_zero, List.set_cons_succ, i64_w, i32_w]
          rfl
        refine pure_ (i := 3) (N := some 71) (v := ?_) (a' := ?_) #[true, true, true, true, false, false, false, false, false, false, false, false, false, false, false, false, false, false, false, false, false, false, false] rfl rfl (any_of HT_.out (by kernel_rfl)) (fun _ _ _ h => h) (Or.inl ⟨by rfl, ?_⟩) ?_ ?_
        rotate_left
        · intro w'
          go_simp
          with_reducible rfl
        rotate_left
        · simp only [Act.put, List.setIfInBounds_toArray, List.set_cons_zero, List.set_cons_succ, i64_w, i32_w]
          rfl
        refine pure_ (i := 4) (N := some 72) (v := ?_) (a' := ?_) #[true, true, true, true, true, false, false, false, false, false, false, false, false, false, false, false, false, false, false, false, false, false, false] rfl rfl (any_of HT_.out (by kernel_rfl)) (fun _ _ _ h => h) (Or.inl ⟨by rfl, ?_⟩) ?_ ?_
        rotate_left
        · intro w'
          go_simp
          with_reducible rfl
        rotate_left
        · simp only [Act.put, List.setIfInBounds_toArray, List.set_cons_zero, List.set_cons_succ, i64_w, i32_w]
          rfl
        refine pure_ (i := 5) (N := some 73) (v := ?_) (a' := ?_) #[true, true, true, true, true, true, false, false, false, false, false, false, false, false, false, false, false, false, false, false, false, false, false] rfl rfl (any_of HT_.out (by kernel_rfl)) (fun _ _ _ h => h) (Or.inl ⟨by rfl, ?_⟩) ?_ ?_
        rotate_left
        · intro w'
          go_simp
          with_reducible rfl
        rotate_left
        · simp only [Act.put, List.setIfInBounds_toArray, List.set_cons_zero, List.set_cons_succ, i64_w, i32_w]
          rfl
        refine pure_ (i := 6) (N := some 74) (v := ?_) (a' := ?_) #[true, true, true, true, true, true, true, false, false, false, false, false, false, false, false, false, false, false, false, false, false, false, false] rfl rfl (any_of HT_.out (by kernel_rfl)) (fun _ _ _ h => h) (Or.inl ⟨by rfl, ?_⟩) ?_ ?_
        rotate_left
        · intro w'
          go_simp
          with_reducible rfl
        rotate_left
        · simp only [Act.put, List.setIfInBounds_toArray, List.set_cons_zero, List.set_cons_succ, i64_w, i32_w]
          rfl
        refine pure_ (i := 7) (N := some 75) (v := ?_) (a' := ?_) #[true, true, true, true, true, true, true, true, false, false, false, false, false, false, false, false, false, false, false, false, false, false, false] rfl rfl (any_of HT_.out (by kernel_rfl)) (fun _ _ _ h => h) (Or.inl ⟨by rfl, ?_⟩) ?_ ?_
        rotate_left
        · intro w'
          go_simp
          with_reducible rfl
        rotate_left
        · simp only [Act.put, List.setIfInBounds_toArray, List.set_cons_zero, List.set_cons_succ, i64_w, i32_w]
          rfl
        refine take_ (i := 8) (N := some 76) (a' := ?_) #[true, true, true, true, true, true, true, true, true, false, false, false, false, false, false, false, false, false, false, false, false, false, false] rfl rfl (take_ofW HT_.out HW_.out (by kernel_rfl)) (fun _ _ _ h => h) (Or.inl ⟨by rfl, fun w' s => ldagg_yields 27 _ (by rfl) X 0 (by rfl) x.cells (load_all s.1) _ Tryz.underlying27 rfl (by kernel_rfl)⟩) hHeld ?_ ?_
        rotate_left
        · simp only [Act.put, List.setIfInBounds_toArray, List.set_cons_zero, List.set_cons_succ, i64_w, i32_w]
          rfl
        refine take_ (i := 9) (N := some 77) (a' := ?_) #[true, true, true, true, true, true, true, true, true, true, false, false, false, false, false, false, false, false, false, false, false, false, false] rfl rfl (take_ofW HT_.out HW_.out (by kernel_rfl)) (fun _ _ _ h => h) (Or.inl ⟨by rfl, fun w' s => ldagg_yields 27 _ (by rfl) X 0 (by rfl) x.cells (load_all s.1) _ Tryz.underlying27 rfl (by kernel_rfl)⟩) hHeld ?_ ?_
        rotate_left
        · simp only [Act.put, List.setIfInBounds_toArray, List.set_cons_zero, List.set_cons_succ, i64_w, i32_w]
          rfl
        refine one_ (i := 10) (N := some 78) #[true, true, true, true, true, true, true, true, true, true, true, false, false, false, false, false, false, false, false, false, false, false, false] rfl rfl (one_of HT_.out (by kernel_rfl)) (by decide) (fun K hK => ?_)
        refine goes_ Tryz.func20 (by kernel_rfl) rfl #[.agg x.cells.toArray] (by rfl) rfl rfl (by (try simp only [List.map_toArray, List.map_cons, List.map_nil]); first | done | rfl) ?_
        with_reducible refine (OX.out _).mono ?_
        rintro e w9 ⟨rfl, hb9⟩
        refine ⟨_, rfl, ?_⟩
        have n1_ := Aside0.mk (Below.trans (by first | exact HB.out | exact below_drew1 HB.out) (hb9.mono HB.out.size)); have n2_ := Aside0.mk ((hb9.block X (blk_lt HX.out)).trans HX.out); clear HB HX; have HB := n1_; have HX := n2_; clear n1_ n2_
        clear hb9
        refine hK.out _ _ ⟨HX.out, cell_of HX.out rfl⟩ (fun hHeld => ?_)
        clear hK K
        refine norm_ (a' := ?_) ?_ ?_
        rotate_left
        · show Act.put _ (some 78) _ = _
          simp only [Act.put, List.setIfInBounds_toArray, List.set_cons_zero, List.set_cons_succ, i64_w, i32_w]
          rfl
        refine one_ (i := 11) (N := some 79) #[true, true, true, true, true, true, true, true, true, true, true, true, false, false, false, false, false, false, false, false, false, false, false] rfl rfl (one_of HT_.out (by kernel_rfl)) (by decide) (fun K hK => ?_)
        refine step_w rfl (wp_dgeq x x rfl _ _ _ rfl rfl rfl ?_)
        refine hK.out _ _ hHeld (fun hHeld => ?_)
        clear hK K
        refine norm_ (a' := ?_) ?_ ?_
        rotate_left
        · show Act.put _ (some 79) _ = _
          simp only [Act.put, List.setIfInBounds_toArray, List.set_cons_zero, List.set_cons_succ, i64_w, i32_w]
          rfl
        refine pure_ (i := 12) (N := some 80) (v := ?_) (a' := ?_) #[true, true, true, true, true, true, true, true, true, true, true, true, true, false, false, false, false, false, false, false, false, false, false] rfl rfl (any_of HT_.out (by kernel_rfl)) (fun _ _ _ h => h) (Or.inl ⟨by rfl, ?_⟩) ?_ ?_
        rotate_left
        · intro w'
          go_simp
          with_reducible rfl
        rotate_left
        · simp only [Act.put, List.setIfInBounds_toArray, List.set_cons_zero, List.set_cons_succ, i64_w, i32_w]
          rfl
        refine pure_ (i := 13) (N := some 81) (v := ?_) (a' := ?_) #[true, true, true, true, true, true, true, true, true, true, true, true, true, true, false, false, false, false, false, false, false, false, false] rfl rfl (any_of HT_.out (by kernel_rfl)) (fun _ _ _ h => h) (Or.inl ⟨by rfl, ?_⟩) ?_ ?_
        rotate_left
        · intro w'
          go_simp
          with_reducible rfl
        rotate_left
        · simp only [Act.put, List.setIfInBounds_toArray, List.set_cons_zero, List.set_cons_succ, i64_w, i32_w]
          rfl
        refine pure_ (i := 14) (N := some 82) (v := ?_) (a' := ?_) #[true, true, true, true, true, true, true, true, true, true, true, true, true, true, true, false, false, false, false, false, false, false, false] rfl rfl (any_of HT_.out (by kernel_rfl)) (fun _ _ _ h => h) (Or.inl ⟨by rfl, ?_⟩) ?_ ?_
        rotate_left
        · intro w'
          go_simp
          with_reducible rfl
        rotate_left
        · simp only [Act.put, List.setIfInBounds_toArray, List.set_cons_zero, List.set_cons_succ, i64_w, i32_w]
          rfl
        refine pure_ (i := 17) (N := some 85) (v := ?_) (a' := ?_) #[true, true, true, true, true, true, true, true, true, true, true, true, true, true, true, false, false, true, false, false, false, false, false] rfl rfl (any_of HT_.out (by kernel_rfl)) (fun _ _ _ h => h) (Or.inl ⟨by rfl, ?_⟩) ?_ ?_
        rotate_left
        · intro w'
          go_simp
          with_reducible rfl
        rotate_left
        · simp only [Act.put, List.setIfInBounds_toArray, List.set_cons_zero, List.set_cons_succ, i64_w, i32_w]
          rfl
        refine take_ (i := 18) (N := some 86) (v := ?_) (a' := ?_) #[true, true, true, true, true, true, true, true, true, true, true, true, true, true, true, false, false, true, true, false, false, false, false] rfl rfl (take_ofW HT_.out HW_.out (by kernel_rfl)) (fun _ _ _ h => h) (Or.inl ⟨by rfl, ?_⟩) hHeld ?_ ?_
        rotate_left
        · rintro w' ⟨sx, sk⟩
          go_simp
          with_reducible rfl
        rotate_left
        · simp only [Act.put, List.setIfInBounds_toArray, List.set_cons_zero, List.set_cons_succ, i64_w, i32_w]
          rfl
        refine pure_ (i := 19) (N := some 87) (v := ?_) (a' := ?_) #[true, true, true, true, true, true, true, true, true, true, true, true, true, true, true, false, false, true, true, true, false, false, false] rfl rfl (any_of HT_.out (by kernel_rfl)) (fun _ _ _ h => h) (Or.inl ⟨by rfl, ?_⟩) ?_ ?_
        rotate_left
        · intro w'
          go_simp
          with_reducible rfl
        rotate_left
        · simp only [Act.put, List.setIfInBounds_toArray, List.set_cons_zero, List.set_cons_succ, i64_w, i32_w]
          rfl
        refine one_ (i := 15) (N := some 83) #[true, true, true, true, true, true, true, true, true, true, true, true, true, true, true, true, false, true, true, true, false, false, false] rfl rfl (one_of HT_.out (by kernel_rfl)) (by decide) (fun K hK => ?_)
        refine goes_ Tryz.func12 (by kernel_rfl) rfl #[.string t] (by rfl) rfl rfl (by (try simp only [List.map_toArray, List.map_cons, List.map_nil]); first | done | rfl) ?_
        with_reducible refine (BC.out _).mono ?_
        rintro e w9 ⟨rfl, hb9⟩
        refine ⟨_, rfl, ?_⟩
        have n1_ := Aside0.mk (Below.trans (by first | exact HB.out | exact below_drew1 HB.out) (hb9.mono HB.out.size)); have n2_ := Aside0.mk ((hb9.block X (blk_lt HX.out)).trans HX.out); clear HB HX; have HB := n1_; have HX := n2_; clear n1_ n2_
        clear hb9
        refine hK.out _ _ ⟨HX.out, cell_of HX.out rfl⟩ (fun hHeld => ?_)
        clear hK K
        refine norm_ (a' := ?_) ?_ ?_
        rotate_left
        · show Act.put _ (some 83) _ = _
          simp only [Act.put, List.setIfInBounds_toArray, List.set_cons_zero, List.set_cons_succ, i64_w, i32_w]
          rfl
        refine pure_ (i := 16) (N := some 84) (v := ?_) (a' := ?_) #[true, true, true, true, true, true, true, true, true, true, true, true, true, true, true, true, true, true, true, true, false, false, false] rfl rfl (any_of HT_.out (by kernel_rfl)) (fun _ _ _ h => h) (Or.inl ⟨by rfl, ?_⟩) ?_ ?_
        rotate_left
        · intro w'
          go_simp
          with_reducible rfl
        rotate_left
        · simp only [Act.put, List.setIfInBounds_toArray, List.set_cons_zero, List.set_cons_succ, i64_w, i32_w]
          rfl
        refine pure_ (i := 20) (N := some 88) (v := ?_) (a' := ?_) #[true, true, true, true, true, true, true, true, true, true, true, true, true, true, true, true, true, true, true, true, true, false, false] rfl rfl (any_of HT_.out (by kernel_rfl)) (fun _ _ _ h => h) (Or.inl ⟨by rfl, ?_⟩) ?_ ?_
        rotate_left
        · intro w'
          go_simp
          with_reducible rfl
        rotate_left
        · simp only [Act.put, List.setIfInBounds_toArray, List.set_cons_zero, List.set_cons_succ, i64_w, i32_w]
          rfl
        refine pure_ (i := 21) (N := some 89) (v := ?_) (a' := ?_) #[true, true, true, true, true, true, true, true, true, true, true, true, true, true, true, true, true, true, true, true, true, true, false] rfl rfl (any_of HT_.out (by kernel_rfl)) (fun _ _ _ h => h) (Or.inl ⟨by rfl, ?_⟩) ?_ ?_
        rotate_left
        · intro w'
          go_simp
          with_reducible rfl
        rotate_left
        · simp only [Act.put, List.setIfInBounds_toArray, List.set_cons_zero, List.set_cons_succ, i64_w, i32_w]
          rfl
        refine pure_ (i := 22) (N := some 4) (v := ?_) (a' := ?_) #[true, true, true, true, true, true, true, true, true, true, true, true, true, true, true, true, true, true, true, true, true, true, true] rfl rfl (any_of HT_.out (by kernel_rfl)) (fun _ _ _ h => h) (Or.inl ⟨by rfl, ?_⟩) ?_ ?_
        rotate_left
        · intro w'
          go_simp
          with_reducible rfl
        rotate_left
        · simp only [Act.put, List.setIfInBounds_toArray, List.set_cons_zero, List.set_cons_succ, i64_w, i32_w]
          rfl
        refine done_ (done_of HT_.out (by kernel_rfl)) ?_
        clear HT_ HW_ hHeld
        go_wp2
        go_ret
        exact ⟨rfl, HB.out⟩
    · have hx : x = Dg.zero := XZ.out hg
      have hr := GR2.out hg
      have o1 : (g == 0) = false := beq_eq_false_iff_ne.mpr hg
      have o2 : (g != 0) = true := by simp [bne, o1]
      have o3 : decide (70 ≤ g) = true := decide_eq_true hr.1
      have o4 : decide (g ≤ 73) = true := decide_eq_true hr.2
      clear hg hr OXH RCH BNH GR2 XZ
      subst hx
      go_wp2_with (first
        | (go_at_call 10; (with_reducible refine (DC2.out _).mono ?_); rintro e w9 ⟨rfl, hb9⟩; have n1_ := Aside0.mk (HB.out.trans (hb9.mono HB.out.size)); clear HB hb9; have HB := n1_; clear n1_)
        | ((with_reducible first | refine at_alloc_ ?_ | refine at_alloc2_ ?_); refine wpList_alloc_v rfl 27 rfl Dg.zero.cells (by kernel_rfl) ?_; intro X w6 eX hX2 hb6 hz6; have HXX := Aside0.mk (show w.heap.size ≤ X from by have := eX.out; have := HB.out.size; omega); have n1_ := Aside0.mk (HB.out.trans (hb6.out.mono HB.out.size)); clear HB; have HB := n1_; clear n1_ hb6 hz6 eX)
        | ((with_reducible first | refine at_store_ ?_ | refine at_store2_ ?_); refine wpList_store_agg rfl 27 _ _ rfl X 0 rfl Dg.zero.cells Dg.zero.cells rfl _ hX2.out (by exact Nat.le_refl 15) (fun v hv => one_cells hv) (by kernel_rfl) ?_; intro w7 hX3 hm7 hz7; rw [splice_all Dg.zero.cells Dg.zero.cells rfl] at hX3; have HX := Aside0.mk hX3.out; have n1_ := Aside0.mk (toBelow' HB.out hm7.out HXX.out); clear HB; have HB := n1_; clear n1_ hX2 hX3 hm7 hz7)
        | ((with_reducible first | refine at_load_ ?_ | refine at_load2_ ?_); refine wpList_load_agg rfl 27 _ rfl X 0 rfl Dg.zero.cells (load_all HX.out) _ Tryz.underlying27 rfl (by kernel_rfl) ?_)
        | ((with_reducible first | refine at_eqdg_ ?_ | refine at_eqdg2_ ?_); refine wpList_dgeq rfl Dg.zero Dg.zero rfl _ _ _ rfl rfl rfl ?_))
      go_ret
      exact ⟨rfl, HB.out⟩
end Go.Proofs.YtniabkphbnimaaaGreatDoor.Sh
