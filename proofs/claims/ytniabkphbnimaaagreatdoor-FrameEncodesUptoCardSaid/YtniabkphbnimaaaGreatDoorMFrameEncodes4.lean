/- What the statement FrameEncodes leans on, part 4: words, walks and plain laws of this session's own. -/
import Derived.Test.YtniabkphbnimaaaGreatDoorProg
import Derived.Test.YtniabkphbnimaaaGreatDoorRows
import Derived.Test.YtniabkphbnimaaaGreatDoorMFrameEncodes3
import Derived.ArgAppend
import Derived.Below
import Derived.BigQuiet
import Derived.ChangeOld
import Derived.ChangeSame
import Derived.Deep.AppendLies
import Derived.Deep.CutBlock
import Derived.Deep.DeepCutAuto
import Derived.Deep.Draws
import Derived.Deep.LoopGhost
import Derived.Deep.OwnRows
import Derived.Deep.QuietTactic
import Derived.Deep.RegionHeld3
import Derived.Deep.RegionLaw
import Derived.Deep.RegionWith
import Derived.Defers
import Derived.Great.Walk
import Derived.KernelRfl
import Derived.Laws.AppendOwn
import Derived.Laws.BitsLemmas
import Derived.Laws.BytesArg
import Derived.Laws.CopyOwn
import Derived.Laws.CopyRow
import Derived.Laws.IdiomCopy
import Derived.Laws.IdiomStrings
import Derived.Laws.MakeOwn
import Derived.Laws.OwnMore
import Derived.Laws.Rows
import Derived.Laws.Slices
import Derived.Lib.AppendStr
import Derived.Lib.ConvBytes
import Derived.Lib.LaidTab
import Derived.Maps.AppendAt
import Derived.Maps.OwnSet
import Derived.OpenShut
import Derived.OrdersHeld
import Derived.OwnWalk
import Derived.ProofKit
import Derived.Recover
import Derived.RowKit
import Derived.RowKit3
import Derived.Shelf.Strings.Repeat
import Derived.Shelf.Strings.Trim
import Derived.ShutString
import Derived.SizedLaws
import Derived.Tactics
import Derived.WalkKit
import Derived.WalkSmall
import Derived.WideLaws
set_option linter.unusedVariables false
set_option linter.unusedSimpArgs false
namespace Go.Proofs.YtniabkphbnimaaaGreatDoor.Sh
open Go Go.RowKit Go.Maps Go.Proofs.YtniabkphbnimaaaGreatDoorW.PrintWords Go.Proofs.YtniabkphbnimaaaGreatDoorW.PrintLast Go.Proofs.YtniabkphbnimaaaGreatDoor.Bs
def T_17_16 : Bool × List (List Nat × List Nat) := (true, [([], []), ([], []), ([1], [1]), ([2], [2]), ([0, 3], [0, 3]), ([], []), ([5], [5]), ([4, 6], [4, 6]), ([], []), ([8], [8]), ([9], [9]), ([10], [10]), ([11], [11]), ([12], [12]), ([7, 13], [7, 13]), ([], []), ([15], [15]), ([14, 16], [14, 16]), ([17, 3, 0, 1, 2, 3, 4, 5, 6, 7, 8, 9, 10, 11, 12, 13, 14, 15, 16, 17], [0, 17])])
def B_17_16 : List Nat := [0, 0, 2, 6, 15, 0, 32, 127, 0, 256, 768, 1792, 3840, 7936, 16383, 0, 32768, 131071, 262143]
theorem tab_f17_16 : rtab .any (opsOf Tryz.f17 16) = T_17_16 := by kernel_rfl
theorem bits_f17_16 : waitsOk T_17_16.2 B_17_16 = true := by kernel_rfl
set_option maxHeartbeats 8000000 in
set_option maxRecDepth 100000 in
theorem renc_3 (nn ck nm sa da tg : List UInt8) (ep se sq : Nat) (pl th tr : Int) (fi bo : Bool) (hn : nn.length = 16) (hc : ck.length = 32) (hm : nm.length ≤ 255) (ht : tg.length = 32) (he : ep < 18446744073709551616) (u : UInt8) (hu : IntKind.u8.wrap ((str nm).size : Int) = (u.toNat : Int)) (hf : ∀ w, Calls Tryz.prog 42 #[.agg (dgr 3 nn ck nm sa da tg ep se sq pl th tr fi bo).cells.toArray] w fun e w' => e = .returned (.bool true) ∧ Below w.heap.size w w') (w : World) :
    Calls Tryz.prog 17 #[.agg (dgr 3 nn ck nm sa da tg ep se sq pl th tr fi bo).cells.toArray] w fun e w' => e = .returned (.tuple #[.string (str ([74, 48, 49] ++ [3] ++ nn ++ len8 ep ++ ck ++ [u] ++ nm ++ tg)), .int .i64 0]) ∧ Below w.heap.size w w' := by
  have HS := Aside0.mk (show nn.length = 16 ∧ ck.length = 32 ∧ tg.length = 32 ∧ nm.length ≤ 255 ∧ ep < 18446744073709551616 from ⟨hn, hc, ht, hm, he⟩)
  have FC := Aside0.mk hf
  clear hf
  have EU := Aside0.mk hu
  clear hn hc hm ht he hu
  go_enter Tryz.func17, Tryz.ntmps17
  go_upto_region 16 with (first
    | ((with_reducible first | refine at_box_ ?_ | refine at_box2_ ?_); refine wpList_box_v rfl 27 _ rfl (dgr 3 nn ck nm sa da tg ep se sq pl th tr fi bo).cells rfl (by kernel_rfl) ?_; intro D w1 eD hD1 hb1 hz1; have HD := Aside0.mk (show w1.heap[D]? = some (.cells (dgr 3 nn ck nm sa da tg ep se sq pl th tr fi bo).cells.toArray 27 (0, 0)) from hD1.out); have HB := Aside0.mk (show Below w.heap.size w w1 from hb1.out); clear hD1 hb1 hz1 eD; have cK := cell_of (i := 0) (v := .int .i64 3) HD.out rfl)
    | ((with_reducible first | refine at_load_ ?_ | refine at_load2_ ?_); refine wpList_load_agg rfl 27 _ rfl D 0 rfl (dgr 3 nn ck nm sa da tg ep se sq pl th tr fi bo).cells (load_all HD.out) _ Tryz.underlying27 rfl (by kernel_rfl) ?_)
    | (go_at_call 42; (with_reducible refine (FC.out _).mono ?_); rintro e w2 ⟨rfl, hb2⟩; have n1_ := Aside0.mk ((hb2.block D (blk_lt HD.out)).trans HD.out); have n2_ := Aside0.mk (Below.trans (by first | exact HB.out | exact below_drew1 HB.out) (hb2.mono HB.out.size)); (try (have n3_ := Aside0.mk ((hb2.block g (blk_lt HGR.out)).trans HGR.out); clear HGR; have HGR := n3_; clear n3_)); clear HD HB hb2; have HD := n1_; have HB := n2_; clear n1_ n2_; (try clear cK); have cK := cell_of (i := 0) (v := .int .i64 3) HD.out rfl)
    | ((with_reducible first | refine at_load_ ?_ | refine at_load2_ ?_); refine wpList_load_one rfl 3 _ rfl D 0 rfl (dgr 3 nn ck nm sa da tg ep se sq pl th tr fi bo).cells _ _ HD.out _ rfl _ Tryz.underlying3 rfl ?_)
    | ((with_reducible first | refine at_bs_ ?_ | refine at_bs2_ ?_); refine wpList_buildSlice_v rfl 39 5 1 _ rfl Tryz.underlying39 [.int .u8 3] (by kernel_rfl) ?_; intro g w3 eg hg3 hb3' hz3; have hb3 := hb3'.out; have n1_ := Aside0.mk ((hb3.block D (blk_lt HD.out)).trans HD.out); have n2_ := Aside0.mk (Below.trans (by first | exact HB.out | exact below_drew1 HB.out) (hb3.mono HB.out.size)); (try (have n3_ := Aside0.mk ((hb3.block g (blk_lt HGR.out)).trans HGR.out); clear HGR; have HGR := n3_; clear n3_)); clear HD HB hb3; have HD := n1_; have HB := n2_; clear n1_ n2_; (try clear cK); have cK := cell_of (i := 0) (v := .int .i64 3) HD.out rfl; have HGR := Aside0.mk (show w3.heap[g]? = some (.cells [Value.int .u8 ((3 : UInt8).toNat : Int)].toArray 5 (0, 0)) from hg3.out); clear hg3 hb3' hz3 eg)
    | ((with_reducible first | refine at_conv_ ?_ | refine at_conv2_ ?_); refine wpList_string_of rfl _ _ 5 _ rfl (some ⟨g, 0, none⟩) 1 1 rfl [3] rfl (bytes_row1 (x := 3) HGR.out) Tryz.underlying39 (by kernel_rfl) Tryz.underlying5 ?_; clear HGR)
    | ((with_reducible first | refine at_add_ ?_ | refine at_add2_ ?_); refine wpList_cat rfl _ _ _ _ rfl _ _ rfl rfl (by simp only [List.length_append, List.length_cons, List.length_nil, List.length_replicate, len8_len]; have := HS.out; omega) ?_)
    | ((with_reducible first | refine at_load_ ?_ | refine at_load2_ ?_); refine wpList_load_one rfl 9 _ rfl D 1 rfl (dgr 3 nn ck nm sa da tg ep se sq pl th tr fi bo).cells _ _ HD.out _ rfl _ Tryz.underlying9 rfl ?_)
    | ((with_reducible first | refine at_load_ ?_ | refine at_load2_ ?_); refine wpList_load_one rfl 9 _ rfl D 14 rfl (dgr 3 nn ck nm sa da tg ep se sq pl th tr fi bo).cells _ _ HD.out _ rfl _ Tryz.underlying9 rfl ?_))
  refine start_ (n := 19) (S := fun w' => w'.cell? ⟨D, 2, none⟩ = some (.int .u64 (ep : Int)) ∧ w'.cell? ⟨D, 3, none⟩ = some (.string (str ck)) ∧ w'.cell? ⟨D, 4, none⟩ = some (.string (str nm))) (ds := []) #[false, false, false, false, false, false, false, false, false, false, false, false, false, false, false, false, false, false, false] (by kernel_rfl) rfl rfl ⟨cell_of HD.out rfl, cell_of HD.out rfl, cell_of HD.out rfl⟩ (fun hHeld => ?_)
  refine with_tabW tab_f17_16 bits_f17_16 (fun HT_ HW_ => ?_)
  refine pure_ (i := 0) (N := some 61) (v := ?_) (a' := ?_) #[true, false, false, false, false, false, false, false, false, false, false, false, false, false, false, false, false, false, false] rfl rfl (any_of HT_.out (by kernel_rfl)) (fun _ _ _ h => h) (Or.inl ⟨by rfl, ?_⟩) ?_ ?_
  rotate_left
  · intro w'
    go_simp
    with_reducible rfl
  rotate_left
  · simp only [pS]
    rfl
  refine pure_ (i := 1) (N := some 62) (v := ?_) (a' := ?_) #[true, true, false, false, false, false, false, false, false, false, false, false, false, false, false, false, false, false, false] rfl rfl (any_of HT_.out (by kernel_rfl)) (fun _ _ _ h => h) (Or.inl ⟨by rfl, ?_⟩) ?_ ?_
  rotate_left
  · intro w'
    go_simp
    with_reducible rfl
  rotate_left
  · simp only [pS]
    rfl
  refine take_ (i := 2) (N := some 63) (v := ?_) (a' := ?_) #[true, true, true, false, false, false, false, false, false, false, false, false, false, false, false, false, false, false, false] rfl rfl (take_ofW HT_.out HW_.out (by kernel_rfl)) (fun _ _ _ h => h) (Or.inl ⟨by rfl, ?_⟩) hHeld ?_ ?_
  rotate_left
  · rintro w' ⟨s2, s3, s4⟩
    go_simp
    with_reducible rfl
  rotate_left
  · simp only [pS]
    rfl
  refine pure_ (i := 5) (N := some 66) (v := ?_) (a' := ?_) #[true, true, true, false, false, true, false, false, false, false, false, false, false, false, false, false, false, false, false] rfl rfl (any_of HT_.out (by kernel_rfl)) (fun _ _ _ h => h) (Or.inl ⟨by rfl, ?_⟩) ?_ ?_
  rotate_left
  · intro w'
    go_simp
    with_reducible rfl
  rotate_left
  · simp only [pS]
    rfl
  refine take_ (i := 6) (N := some 67) (v := ?_) (a' := ?_) #[true, true, true, false, false, true, true, false, false, false, false, false, false, false, false, false, false, false, false] rfl rfl (take_ofW HT_.out HW_.out (by kernel_rfl)) (fun _ _ _ h => h) (Or.inl ⟨by rfl, ?_⟩) hHeld ?_ ?_
  rotate_left
  · rintro w' ⟨s2, s3, s4⟩
    go_simp
    with_reducible rfl
  rotate_left
  · simp only [pS]
    rfl
  refine pure_ (i := 8) (N := some 69) (v := ?_) (a' := ?_) #[true, true, true, false, false, true, true, false, true, false, false, false, false, false, false, false, false, false, false] rfl rfl (any_of HT_.out (by kernel_rfl)) (fun _ _ _ h => h) (Or.inl ⟨by rfl, ?_⟩) ?_ ?_
  rotate_left
  · intro w'
    go_simp
    with_reducible rfl
  rotate_left
  · simp only [pS]
    rfl
  refine take_ (i := 9) (N := some 70) (v := ?_) (a' := ?_) #[true, true, true, false, false, true, true, false, true, true, false, false, false, false, false, false, false, false, false] rfl rfl (take_ofW HT_.out HW_.out (by kernel_rfl)) (fun _ _ _ h => h) (Or.inl ⟨by rfl, ?_⟩) hHeld ?_ ?_
  rotate_left
  · rintro w' ⟨s2, s3, s4⟩
    go_simp
    with_reducible rfl
  rotate_left
  · simp only [pS]
    rfl
  refine pure_ (i := 10) (N := some 71) (v := ?_) (a' := ?_) #[true, true, true, false, false, true, true, false, true, true, true, false, false, false, false, false, false, false, false] rfl rfl (any_of HT_.out (by kernel_rfl)) (fun _ _ _ h => h) (Or.inl ⟨by rfl, ?_⟩) ?_ ?_
  rotate_left
  · intro w'
    go_simp
    with_reducible rfl
  rotate_left
  · simp only [pS]
    rfl
  refine pure_ (i := 11) (N := some 72) (v := ?_) (a' := ?_) #[true, true, true, false, false, true, true, false, true, true, true, true, false, false, false, false, false, false, false] rfl rfl (any_of HT_.out (by kernel_rfl)) (fun _ _ _ h => h) (Or.inl ⟨by rfl, ?_⟩) ?_ ?_
  rotate_left
  · intro w'
    go_simp
    with_reducible rfl
  rotate_left
  · simp only [pS]
    rfl
  refine pure_ (i := 15) (N := some 76) (v := ?_) (a' := ?_) #[true, true, true, false, false, true, true, false, true, true, true, true, false, false, false, true, false, false, false] rfl rfl (any_of HT_.out (by kernel_rfl)) (fun _ _ _ h => h) (Or.inl ⟨by rfl, ?_⟩) ?_ ?_
  rotate_left
  · intro w'
    go_simp
    with_reducible rfl
  rotate_left
  · simp only [pS]
    rfl
  refine take_ (i := 16) (N := some 77) (v := ?_) (a' := ?_) #[true, true, true, false, false, true, true, false, true, true, true, true, false, false, false, true, true, false, false] rfl rfl (take_ofW HT_.out HW_.out (by kernel_rfl)) (fun _ _ _ h => h) (Or.inl ⟨by rfl, ?_⟩) hHeld ?_ ?_
  rotate_left
  · rintro w' ⟨s2, s3, s4⟩
    go_simp
    with_reducible rfl
  rotate_left
  · simp only [pS]
    rfl
  refine two_ (i := 3) (j := 12) (Ni := some 64) (Nj := some 73) #[true, true, true, true, false, true, true, false, true, true, true, true, false, false, false, true, true, false, false] #[true, true, true, false, false, true, true, false, true, true, true, true, true, false, false, true, true, false, false] rfl rfl rfl rfl (two_of HT_.out (by kernel_rfl)) (by decide) (by decide) (fun K hK => ?_) (fun K hK => ?_)
  · refine goes_ Tryz.func43 (by kernel_rfl) rfl #[.int .u64 ((ep : Nat) : Int)] (by rfl) rfl rfl (by (try simp only [List.map_toArray, List.map_cons, List.map_nil]); first | done | rfl) ?_
    with_reducible refine (length_calls ep HS.out.2.2.2.2 _).mono ?_
    rintro e w5 ⟨rfl, hb5⟩
    refine ⟨_, rfl, ?_⟩
    have n1_ := Aside0.mk ((hb5.block D (blk_lt HD.out)).trans HD.out); have n2_ := Aside0.mk (Below.trans (by first | exact HB.out | exact below_drew1 HB.out) (hb5.mono HB.out.size)); (try (have n3_ := Aside0.mk ((hb5.block g (blk_lt HGR.out)).trans HGR.out); clear HGR; have HGR := n3_; clear n3_)); clear HD HB hb5; have HD := n1_; have HB := n2_; clear n1_ n2_; (try clear cK); have cK := cell_of (i := 0) (v := .int .i64 3) HD.out rfl
    refine hK.out _ _ (⟨cell_of HD.out rfl, cell_of HD.out rfl, cell_of HD.out rfl⟩) (fun hHeld => ?_)
    clear hK K
    refine norm_ (a' := ?_) ?_ ?_
    rotate_left
    · show Act.put _ (some 64) _ = _
      simp only [pS]
      rfl
    refine pure_ (i := 4) (N := some 65) (a' := ?_) #[true, true, true, true, true, true, true, false, true, true, true, true, false, false, false, true, true, false, false] rfl rfl (any_of HT_.out (by kernel_rfl)) (fun _ _ _ h => h) (Or.inl ⟨by rfl, cat_yields _ _ _ _ (by rfl) _ _ (by rfl) (by rfl) (by simp only [List.length_append, List.length_cons, List.length_nil, List.length_replicate, len8_len]; have := HS.out; omega)⟩) ?_ ?_
    rotate_left
    · simp only [pS]
      rfl
    refine pure_ (i := 7) (N := some 68) (a' := ?_) #[true, true, true, true, true, true, true, true, true, true, true, true, false, false, false, true, true, false, false] rfl rfl (any_of HT_.out (by kernel_rfl)) (fun _ _ _ h => h) (Or.inl ⟨by rfl, cat_yields _ _ _ _ (by rfl) _ _ (by rfl) (by rfl) (by simp only [List.length_append, List.length_cons, List.length_nil, List.length_replicate, len8_len]; have := HS.out; omega)⟩) ?_ ?_
    rotate_left
    · simp only [pS]
      rfl
    refine one_ (i := 12) (N := some 73) #[true, true, true, true, true, true, true, true, true, true, true, true, true, false, false, true, true, false, false] rfl rfl (one_of HT_.out (by kernel_rfl)) (by decide) (fun K hK => ?_)
    refine step_of_wp rfl (wp_buildSlice_v 39 5 1 _ rfl Tryz.underlying39 [.int .u8 (IntKind.u8.wrap ((str nm).size : Int))] (by kernel_rfl) ?_)
    intro g w3 eg hg3 hb3' hz3
    have hb3 := hb3'.out
    have n1_ := Aside0.mk ((hb3.block D (blk_lt HD.out)).trans HD.out); have n2_ := Aside0.mk (Below.trans (by first | exact HB.out | exact below_drew1 HB.out) (hb3.mono HB.out.size)); (try (have n3_ := Aside0.mk ((hb3.block g (blk_lt HGR.out)).trans HGR.out); clear HGR; have HGR := n3_; clear n3_)); clear HD HB hb3; have HD := n1_; have HB := n2_; clear n1_ n2_; (try clear cK); have cK := cell_of (i := 0) (v := .int .i64 3) HD.out rfl
    have HGR := Aside0.mk (show w3.heap[g]? = some (.cells [Value.int .u8 ((u : UInt8).toNat : Int)].toArray 5 (0, 0)) from by rw [← EU.out]; exact hg3.out)
    clear hg3 hb3' hz3 eg
    refine hK.out _ _ (⟨cell_of HD.out rfl, cell_of HD.out rfl, cell_of HD.out rfl⟩) (fun hHeld => ?_)
    clear hK K
    refine norm_ (a' := ?_) ?_ ?_
    rotate_left
    · show Act.put _ (some 73) _ = _
      simp only [pS]
      rfl
    refine one_ (i := 13) (N := some 74) #[true, true, true, true, true, true, true, true, true, true, true, true, true, true, false, true, true, false, false] rfl rfl (one_of HT_.out (by kernel_rfl)) (by decide) (fun K hK => ?_)
    refine step_of_wp rfl (wp_string_of _ _ 5 _ rfl (some ⟨g, 0, none⟩) 1 1 rfl [u] rfl (bytes_row1 (x := u) HGR.out) Tryz.underlying39 (by kernel_rfl) Tryz.underlying5 ?_)
    clear HGR
    refine hK.out _ _ hHeld (fun hHeld => ?_)
    clear hK K
    refine norm_ (a' := ?_) ?_ ?_
    rotate_left
    · show Act.put _ (some 74) _ = _
      simp only [pS]
      rfl
    refine pure_ (i := 14) (N := some 75) (a' := ?_) #[true, true, true, true, true, true, true, true, true, true, true, true, true, true, true, true, true, false, false] rfl rfl (any_of HT_.out (by kernel_rfl)) (fun _ _ _ h => h) (Or.inl ⟨by rfl, cat_yields _ _ _ _ (by rfl) _ _ (by rfl) (by rfl) (by simp only [List.length_append, List.length_cons, List.length_nil, List.length_replicate, len8_len]; have := HS.out; omega)⟩) ?_ ?_
    rotate_left
    · simp only [pS]
      rfl
    refine pure_ (i := 17) (N := some 78) (a' := ?_) #[true, true, true, true, true, true, true, true, true, true, true, true, true, true, true, true, true, true, false] rfl rfl (any_of HT_.out (by kernel_rfl)) (fun _ _ _ h => h) (Or.inl ⟨by rfl, cat_yields _ _ _ _ (by rfl) _ _ (by rfl) (by rfl) (by simp only [List.length_append, List.length_cons, List.length_nil, List.length_replicate, len8_len]; have := HS.out; omega)⟩) ?_ ?_
    rotate_left
    · simp only [pS]
      rfl
    refine pure_ (i := 18) (N := some 5) (v := ?_) (a' := ?_) #[true, true, true, true, true, true, true, true, true, true, true, true, true, true, true, true, true, true, true] rfl rfl (any_of HT_.out (by kernel_rfl)) (fun _ _ _ h => h) (Or.inl ⟨by rfl, ?_⟩) ?_ ?_
    rotate_left
    · intro w'
      go_simp
      with_reducible rfl
    rotate_left
    · simp only [pS]
      rfl
    refine done_ (done_of HT_.out (by kernel_rfl)) ?_
    clear HT_ HW_ hHeld
    go_upto_region 30 with (first
        | ((with_reducible first | refine at_box_ ?_ | refine at_box2_ ?_); refine wpList_box_v rfl 27 _ rfl (dgr 3 nn ck nm sa da tg ep se sq pl th tr fi bo).cells rfl (by kernel_rfl) ?_; intro D w1 eD hD1 hb1 hz1; have HD := Aside0.mk (show w1.heap[D]? = some (.cells (dgr 3 nn ck nm sa da tg ep se sq pl th tr fi bo).cells.toArray 27 (0, 0)) from hD1.out); have HB := Aside0.mk (show Below w.heap.size w w1 from hb1.out); clear hD1 hb1 hz1 eD; have cK := cell_of (i := 0) (v := .int .i64 3) HD.out rfl)
        | ((with_reducible first | refine at_load_ ?_ | refine at_load2_ ?_); refine wpList_load_agg rfl 27 _ rfl D 0 rfl (dgr 3 nn ck nm sa da tg ep se sq pl th tr fi bo).cells (load_all HD.out) _ Tryz.underlying27 rfl (by kernel_rfl) ?_)
        | (go_at_call 42; (with_reducible refine (FC.out _).mono ?_); rintro e w2 ⟨rfl, hb2⟩; have n1_ := Aside0.mk ((hb2.block D (blk_lt HD.out)).trans HD.out); have n2_ := Aside0.mk (Below.trans (by first | exact HB.out | exact below_drew1 HB.out) (hb2.mono HB.out.size)); (try (have n3_ := Aside0.mk ((hb2.block g (blk_lt HGR.out)).trans HGR.out); clear HGR; have HGR := n3_; clear n3_)); clear HD HB hb2; have HD := n1_; have HB := n2_; clear n1_ n2_; (try clear cK); have cK := cell_of (i := 0) (v := .int .i64 3) HD.out rfl)
        | ((with_reducible first | refine at_load_ ?_ | refine at_load2_ ?_); refine wpList_load_one rfl 3 _ rfl D 0 rfl (dgr 3 nn ck nm sa da tg ep se sq pl th tr fi bo).cells _ _ HD.out _ rfl _ Tryz.underlying3 rfl ?_)
        | ((with_reducible first | refine at_bs_ ?_ | refine at_bs2_ ?_); refine wpList_buildSlice_v rfl 39 5 1 _ rfl Tryz.underlying39 [.int .u8 3] (by kernel_rfl) ?_; intro g w3 eg hg3 hb3' hz3; have hb3 := hb3'.out; have n1_ := Aside0.mk ((hb3.block D (blk_lt HD.out)).trans HD.out); have n2_ := Aside0.mk (Below.trans (by first | exact HB.out | exact below_drew1 HB.out) (hb3.mono HB.out.size)); (try (have n3_ := Aside0.mk ((hb3.block g (blk_lt HGR.out)).trans HGR.out); clear HGR; have HGR := n3_; clear n3_)); clear HD HB hb3; have HD := n1_; have HB := n2_; clear n1_ n2_; (try clear cK); have cK := cell_of (i := 0) (v := .int .i64 3) HD.out rfl; have HGR := Aside0.mk (show w3.heap[g]? = some (.cells [Value.int .u8 ((3 : UInt8).toNat : Int)].toArray 5 (0, 0)) from hg3.out); clear hg3 hb3' hz3 eg)
        | ((with_reducible first | refine at_conv_ ?_ | refine at_conv2_ ?_); refine wpList_string_of rfl _ _ 5 _ rfl (some ⟨g, 0, none⟩) 1 1 rfl [3] rfl (bytes_row1 (x := 3) HGR.out) Tryz.underlying39 (by kernel_rfl) Tryz.underlying5 ?_; clear HGR)
        | ((with_reducible first | refine at_add_ ?_ | refine at_add2_ ?_); refine wpList_cat rfl _ _ _ _ rfl _ _ rfl rfl (by simp only [List.length_append, List.length_cons, List.length_nil, List.length_replicate, len8_len]; have := HS.out; omega) ?_)
        | ((with_reducible first | refine at_load_ ?_ | refine at_load2_ ?_); refine wpList_load_one rfl 9 _ rfl D 1 rfl (dgr 3 nn ck nm sa da tg ep se sq pl th tr fi bo).cells _ _ HD.out _ rfl _ Tryz.underlying9 rfl ?_)
        | ((with_reducible first | refine at_load_ ?_ | refine at_load2_ ?_); refine wpList_load_one rfl 9 _ rfl D 14 rfl (dgr 3 nn ck nm sa da tg ep se sq pl th tr fi bo).cells _ _ HD.out _ rfl _ Tryz.underlying9 rfl ?_))
    obtain ⟨T, eT⟩ : ∃ T, T = str (74 :: 48 :: 49 :: 3 :: (nn ++ (len8 ep ++ (ck ++ u :: (nm ++ tg))))) := ⟨_, rfl⟩
    have hT : T.size ≤ 1200 := (by rw [eT, str_size]; exact (by simp only [List.length_append, List.length_cons, List.length_nil, List.length_replicate, len8_len]; have := HS.out; omega))
    have o1 : decide ((1200 : Int) < (T.size : Int)) = false := decide_eq_false (by omega)
    have o2 : ¬ ((1200 : Int) < (T.size : Int)) := (by omega)
    have o3 : ¬ (1200 < T.size) := (by omega)
    rw [← eT]
    have ET := Aside0.mk eT.symm
    clear eT hT
    go_wp2
    go_ret2
    refine ⟨?_, HB.out⟩
    rw [ET.out]
    rfl
  · refine step_of_wp rfl (wp_buildSlice_v 39 5 1 _ rfl Tryz.underlying39 [.int .u8 (IntKind.u8.wrap ((str nm).size : Int))] (by kernel_rfl) ?_)
    intro g w3 eg hg3 hb3' hz3
    have hb3 := hb3'.out
    have n1_ := Aside0.mk ((hb3.block D (blk_lt HD.out)).trans HD.out); have n2_ := Aside0.mk (Below.trans (by first | exact HB.out | exact below_drew1 HB.out) (hb3.mono HB.out.size)); (try (have n3_ := Aside0.mk ((hb3.block g (blk_lt HGR.out)).trans HGR.out); clear HGR; have HGR := n3_; clear n3_)); clear HD HB hb3; have HD := n1_; have HB := n2_; clear n1_ n2_; (try clear cK); have cK := cell_of (i := 0) (v := .int .i64 3) HD.out rfl
    have HGR := Aside0.mk (show w3.heap[g]? = some (.cells [Value.int .u8 ((u : UInt8).toNat : Int)].toArray 5 (0, 0)) from by rw [← EU.out]; exact hg3.out)
    clear hg3 hb3' hz3 eg
    refine hK.out _ _ (⟨cell_of HD.out rfl, cell_of HD.out rfl, cell_of HD.out rfl⟩) (fun hHeld => ?_)
    clear hK K
    refine norm_ (a' := ?_) ?_ ?_
    rotate_left
    · show Act.put _ (some 73) _ = _
      simp only [pS]
      rfl
    refine two_ (i := 3) (j := 13) (Ni := some 64) (Nj := some 74) #[true, true, true, true, false, true, true, false, true, true, true, true, true, false, false, true, true, false, false] #[true, true, true, false, false, true, true, false, true, true, true, true, true, true, false, true, true, false, false] rfl rfl rfl rfl (two_of HT_.out (by kernel_rfl)) (by decide) (by decide) (fun K hK => ?_) (fun K hK => ?_)
    · refine goes_ Tryz.func43 (by kernel_rfl) rfl #[.int .u64 ((ep : Nat) : Int)] (by rfl) rfl rfl (by (try simp only [List.map_toArray, List.map_cons, List.map_nil]); first | done | rfl) ?_
      with_reducible refine (length_calls ep HS.out.2.2.2.2 _).mono ?_
      rintro e w5 ⟨rfl, hb5⟩
      refine ⟨_, rfl, ?_⟩
      have n1_ := Aside0.mk ((hb5.block D (blk_lt HD.out)).trans HD.out); have n2_ := Aside0.mk (Below.trans (by first | exact HB.out | exact below_drew1 HB.out) (hb5.mono HB.out.size)); (try (have n3_ := Aside0.mk ((hb5.block g (blk_lt HGR.out)).trans HGR.out); clear HGR; have HGR := n3_; clear n3_)); clear HD HB hb5; have HD := n1_; have HB := n2_; clear n1_ n2_; (try clear cK); have cK := cell_of (i := 0) (v := .int .i64 3) HD.out rfl
      refine hK.out _ _ (⟨cell_of HD.out rfl, cell_of HD.out rfl, cell_of HD.out rfl⟩) (fun hHeld => ?_)
      clear hK K
      refine norm_ (a' := ?_) ?_ ?_
      rotate_left
      · show Act.put _ (some 64) _ = _
        simp only [pS]
        rfl
      refine pure_ (i := 4) (N := some 65) (a' := ?_) #[true, true, true, true, true, true, true, false, true, true, true, true, true, false, false, true, true, false, false] rfl rfl (any_of HT_.out (by kernel_rfl)) (fun _ _ _ h => h) (Or.inl ⟨by rfl, cat_yields _ _ _ _ (by rfl) _ _ (by rfl) (by rfl) (by simp only [List.length_append, List.length_cons, List.length_nil, List.length_replicate, len8_len]; have := HS.out; omega)⟩) ?_ ?_
      rotate_left
      · simp only [pS]
        rfl
      refine pure_ (i := 7) (N := some 68) (a' := ?_) #[true, true, true, true, true, true, true, true, true, true, true, true, true, false, false, true, true, false, false] rfl rfl (any_of HT_.out (by kernel_rfl)) (fun _ _ _ h => h) (Or.inl ⟨by rfl, cat_yields _ _ _ _ (by rfl) _ _ (by rfl) (by rfl) (by simp only [List.length_append, List.length_cons, List.length_nil, List.length_replicate, len8_len]; have := HS.out; omega)⟩) ?_ ?_
      rotate_left
      · simp only [pS]
        rfl
      refine one_ (i := 13) (N := some 74) #[true, true, true, true, true, true, true, true, true, true, true, true, true, true, false, true, true, false, false] rfl rfl (one_of HT_.out (by kernel_rfl)) (by decide) (fun K hK => ?_)
      refine step_of_wp rfl (wp_string_of _ _ 5 _ rfl (some ⟨g, 0, none⟩) 1 1 rfl [u] rfl (bytes_row1 (x := u) HGR.out) Tryz.underlying39 (by kernel_rfl) Tryz.underlying5 ?_)
      clear HGR
      refine hK.out _ _ hHeld (fun hHeld => ?_)
      clear hK K
      refine norm_ (a' := ?_) ?_ ?_
      rotate_left
      · show Act.put _ (some 74) _ = _
        simp only [pS]
        rfl
      refine pure_ (i := 14) (N := some 75) (a' := ?_) #[true, true, true, true, true, true, true, true, true, true, true, true, true, true, true, true, true, false, false] rfl rfl (any_of HT_.out (by kernel_rfl)) (fun _ _ _ h => h) (Or.inl ⟨by rfl, cat_yields _ _ _ _ (by rfl) _ _ (by rfl) (by rfl) (by simp only [List.length_append, List.length_cons, List.length_nil, List.length_replicate, len8_len]; have := HS.out; omega)⟩) ?_ ?_
      rotate_left
      · simp only [pS]
        rfl
      refine pure_ (i := 17) (N := some 78) (a' := ?_) #[true, true, true, true, true, true, true, true, true, true, true, true, true, true, true, true, true, true, false] rfl rfl (any_of HT_.out (by kernel_rfl)) (fun _ _ _ h => h) (Or.inl ⟨by rfl, cat_yields _ _ _ _ (by rfl) _ _ (by rfl) (by rfl) (by simp only [List.length_append, List.length_cons, List.length_nil, List.length_replicate, len8_len]; have := HS.out; omega)⟩) ?_ ?_
      rotate_left
      · simp only [pS]
        rfl
      refine pure_ (i := 18) (N := some 5) (v := ?_) (a' := ?_) #[true, true, true, true, true, true, true, true, true, true, true, true, true, true, true, true, true, true, true] rfl rfl (any_of HT_.out (by kernel_rfl)) (fun _ _ _ h => h) (Or.inl ⟨by rfl, ?_⟩) ?_ ?_
      rotate_left
      · intro w'
        go_simp
        with_reducible rfl
      rotate_left
      · simp only [pS]
        rfl
      refine done_ (done_of HT_.out (by kernel_rfl)) ?_
      clear HT_ HW_ hHeld
      go_upto_region 30 with (first
          | ((with_reducible first | refine at_box_ ?_ | refine at_box2_ ?_); refine wpList_box_v rfl 27 _ rfl (dgr 3 nn ck nm sa da tg ep se sq pl th tr fi bo).cells rfl (by kernel_rfl) ?_; intro D w1 eD hD1 hb1 hz1; have HD := Aside0.mk (show w1.heap[D]? = some (.cells (dgr 3 nn ck nm sa da tg ep se sq pl th tr fi bo).cells.toArray 27 (0, 0)) from hD1.out); have HB := Aside0.mk (show Below w.heap.size w w1 from hb1.out); clear hD1 hb1 hz1 eD; have cK := cell_of (i := 0) (v := .int .i64 3) HD.out rfl)
          | ((with_reducible first | refine at_load_ ?_ | refine at_load2_ ?_); refine wpList_load_agg rfl 27 _ rfl D 0 rfl (dgr 3 nn ck nm sa da tg ep se sq pl th tr fi bo).cells (load_all HD.out) _ Tryz.underlying27 rfl (by kernel_rfl) ?_)
          | (go_at_call 42; (with_reducible refine (FC.out _).mono ?_); rintro e w2 ⟨rfl, hb2⟩; have n1_ := Aside0.mk ((hb2.block D (blk_lt HD.out)).trans HD.out); have n2_ := Aside0.mk (Below.trans (by first | exact HB.out | exact below_drew1 HB.out) (hb2.mono HB.out.size)); (try (have n3_ := Aside0.mk ((hb2.block g (blk_lt HGR.out)).trans HGR.out); clear HGR; have HGR := n3_; clear n3_)); clear HD HB hb2; have HD := n1_; have HB := n2_; clear n1_ n2_; (try clear cK); have cK := cell_of (i := 0) (v := .int .i64 3) HD.out rfl)
          | ((with_reducible first | refine at_load_ ?_ | refine at_load2_ ?_); refine wpList_load_one rfl 3 _ rfl D 0 rfl (dgr 3 nn ck nm sa da tg ep se sq pl th tr fi bo).cells _ _ HD.out _ rfl _ Tryz.underlying3 rfl ?_)
          | ((with_reducible first | refine at_bs_ ?_ | refine at_bs2_ ?_); refine wpList_buildSlice_v rfl 39 5 1 _ rfl Tryz.underlying39 [.int .u8 3] (by kernel_rfl) ?_; intro g w3 eg hg3 hb3' hz3; have hb3 := hb3'.out; have n1_ := Aside0.mk ((hb3.block D (blk_lt HD.out)).trans HD.out); have n2_ := Aside0.mk (Below.trans (by first | exact HB.out | exact below_drew1 HB.out) (hb3.mono HB.out.size)); (try (have n3_ := Aside0.mk ((hb3.block g (blk_lt HGR.out)).trans HGR.out); clear HGR; have HGR := n3_; clear n3_)); clear HD HB hb3; have HD := n1_; have HB := n2_; clear n1_ n2_; (try clear cK); have cK := cell_of (i := 0) (v := .int .i64 3) HD.out rfl; have HGR := Aside0.mk (show w3.heap[g]? = some (.cells [Value.int .u8 ((3 : UInt8).toNat : Int)].toArray 5 (0, 0)) from hg3.out); clear hg3 hb3' hz3 eg)
          | ((with_reducible first | refine at_conv_ ?_ | refine at_conv2_ ?_); refine wpList_string_of rfl _ _ 5 _ rfl (some ⟨g, 0, none⟩) 1 1 rfl [3] rfl (bytes_row1 (x := 3) HGR.out) Tryz.underlying39 (by kernel_rfl) Tryz.underlying5 ?_; clear HGR)
          | ((with_reducible first | refine at_add_ ?_ | refine at_add2_ ?_); refine wpList_cat rfl _ _ _ _ rfl _ _ rfl rfl (by simp only [List.length_append, List.length_cons, List.length_nil, List.length_replicate, len8_len]; have := HS.out; omega) ?_)
          | ((with_reducible first | refine at_load_ ?_ | refine at_load2_ ?_); refine wpList_load_one rfl 9 _ rfl D 1 rfl (dgr 3 nn ck nm sa da tg ep se sq pl th tr fi bo).cells _ _ HD.out _ rfl _ Tryz.underlying9 rfl ?_)
          | ((with_reducible first | refine at_load_ ?_ | refine at_load2_ ?_); refine wpList_load_one rfl 9 _ rfl D 14 rfl (dgr 3 nn ck nm sa da tg ep se sq pl th tr fi bo).cells _ _ HD.out _ rfl _ Tryz.underlying9 rfl ?_))
      obtain ⟨T, eT⟩ : ∃ T, T = str (74 :: 48 :: 49 :: 3 :: (nn ++ (len8 ep ++ (ck ++ u :: (nm ++ tg))))) := ⟨_, rfl⟩
      have hT : T.size ≤ 1200 := (by rw [eT, str_size]; exact (by simp only [List.length_append, List.length_cons, List.length_nil, List.length_replicate, len8_len]; have := HS.out; omega))
      have o1 : decide ((1200 : Int) < (T.size : Int)) = false := decide_eq_false (by omega)
      have o2 : ¬ ((1200 : Int) < (T.size : Int)) := (by omega)
      have o3 : ¬ (1200 < T.size) := (by omega)
      rw [← eT]
      have ET := Aside0.mk eT.symm
      clear eT hT
      go_wp2
      go_ret2
      refine ⟨?_, HB.out⟩
      rw [ET.out]
      rfl
    · refine step_of_wp rfl (wp_string_of _ _ 5 _ rfl (some ⟨g, 0, none⟩) 1 1 rfl [u] rfl (bytes_row1 (x := u) HGR.out) Tryz.underlying39 (by kernel_rfl) Tryz.underlying5 ?_)
      clear HGR
      refine hK.out _ _ hHeld (fun hHeld => ?_)
      clear hK K
      refine norm_ (a' := ?_) ?_ ?_
      rotate_left
      · show Act.put _ (some 74) _ = _
        simp only [pS]
        rfl
      refine one_ (i := 3) (N := some 64) #[true, true, true, true, false, true, true, false, true, true, true, true, true, true, false, true, true, false, false] rfl rfl (one_of HT_.out (by kernel_rfl)) (by decide) (fun K hK => ?_)
      refine goes_ Tryz.func43 (by kernel_rfl) rfl #[.int .u64 ((ep : Nat) : Int)] (by rfl) rfl rfl (by (try simp only [List.map_toArray, List.map_cons, List.map_nil]); first | done | rfl) ?_
      with_reducible refine (length_calls ep HS.out.2.2.2.2 _).mono ?_
      rintro e w5 ⟨rfl, hb5⟩
      refine ⟨_, rfl, ?_⟩
      have n1_ := Aside0.mk ((hb5.block D (blk_lt HD.out)).trans HD.out); have n2_ := Aside0.mk (Below.trans (by first | exact HB.out | exact below_drew1 HB.out) (hb5.mono HB.out.size)); (try (have n3_ := Aside0.mk ((hb5.block g (blk_lt HGR.out)).trans HGR.out); clear HGR; have HGR := n3_; clear n3_)); clear HD HB hb5; have HD := n1_; have HB := n2_; clear n1_ n2_; (try clear cK); have cK := cell_of (i := 0) (v := .int .i64 3) HD.out rfl
      refine hK.out _ _ (⟨cell_of HD.out rfl, cell_of HD.out rfl, cell_of HD.out rfl⟩) (fun hHeld => ?_)
      clear hK K
      refine norm_ (a' := ?_) ?_ ?_
      rotate_left
      · show Act.put _ (some 64) _ = _
        simp only [pS]
        rfl
      refine pure_ (i := 4) (N := some 65) (a' := ?_) #[true, true, true, true, true, true, true, false, true, true, true, true, true, true, false, true, true, false, false] rfl rfl (any_of HT_.out (by kernel_rfl)) (fun _ _ _ h => h) (Or.inl ⟨by rfl, cat_yields _ _ _ _ (by rfl) _ _ (by rfl) (by rfl) (by simp only [List.length_append, List.length_cons, List.length_nil, List.length_replicate, len8_len]; have := HS.out; omega)⟩) ?_ ?_
      rotate_left
      · simp only [pS]
        rfl
      refine pure_ (i := 7) (N := some 68) (a' := ?_) #[true, true, true, true, true, true, true, true, true, true, true, true, true, true, false, true, true, false, false] rfl rfl (any_of HT_.out (by kernel_rfl)) (fun _ _ _ h => h) (Or.inl ⟨by rfl, cat_yields _ _ _ _ (by rfl) _ _ (by rfl) (by rfl) (by simp only [List.length_append, List.length_cons, List.length_nil, List.length_replicate, len8_len]; have := HS.out; omega)⟩) ?_ ?_
      rotate_left
      · simp only [pS]
        rfl
      refine pure_ (i := 14) (N := some 75) (a' := ?_) #[true, true, true, true, true, true, true, true, true, true, true, true, true, true, true, true, true, false, false] rfl rfl (any_of HT_.out (by kernel_rfl)) (fun _ _ _ h => h) (Or.inl ⟨by rfl, cat_yields _ _ _ _ (by rfl) _ _ (by rfl) (by rfl) (by simp only [List.length_append, List.length_cons, List.length_nil, List.length_replicate, len8_len]; have := HS.out; omega)⟩) ?_ ?_
      rotate_left
      · simp only [pS]
        rfl
      refine pure_ (i := 17) (N := some 78) (a' := ?_) #[true, true, true, true, true, true, true, true, true, true, true, true, true, true, true, true, true, true, false] rfl rfl (any_of HT_.out (by kernel_rfl)) (fun _ _ _ h => h) (Or.inl ⟨by rfl, cat_yields _ _ _ _ (by rfl) _ _ (by rfl) (by rfl) (by simp only [List.length_append, List.length_cons, List.length_nil, List.length_replicate, len8_len]; have := HS.out; omega)⟩) ?_ ?_
      rotate_left
      · simp only [pS]
        rfl
      refine pure_ (i := 18) (N := some 5) (v := ?_) (a' := ?_) #[true, true, true, true, true, true, true, true, true, true, true, true, true, true, true, true, true, true, true] rfl rfl (any_of HT_.out (by kernel_rfl)) (fun _ _ _ h => h) (Or.inl ⟨by rfl, ?_⟩) ?_ ?_
      rotate_left
      · intro w'
        go_simp
        with_reducible rfl
      rotate_left
      · simp only [pS]
        rfl
      refine done_ (done_of HT_.out (by kernel_rfl)) ?_
      clear HT_ HW_ hHeld
      go_upto_region 30 with (first
          | ((with_reducible first | refine at_box_ ?_ | refine at_box2_ ?_); refine wpList_box_v rfl 27 _ rfl (dgr 3 nn ck nm sa da tg ep se sq pl th tr fi bo).cells rfl (by kernel_rfl) ?_; intro D w1 eD hD1 hb1 hz1; have HD := Aside0.mk (show w1.heap[D]? = some (.cells (dgr 3 nn ck nm sa da tg ep se sq pl th tr fi bo).cells.toArray 27 (0, 0)) from hD1.out); have HB := Aside0.mk (show Below w.heap.size w w1 from hb1.out); clear hD1 hb1 hz1 eD; have cK := cell_of (i := 0) (v := .int .i64 3) HD.out rfl)
          | ((with_reducible first | refine at_load_ ?_ | refine at_load2_ ?_); refine wpList_load_agg rfl 27 _ rfl D 0 rfl (dgr 3 nn ck nm sa da tg ep se sq pl th tr fi bo).cells (load_all HD.out) _ Tryz.underlying27 rfl (by kernel_rfl) ?_)
          | (go_at_call 42; (with_reducible refine (FC.out _).mono ?_); rintro e w2 ⟨rfl, hb2⟩; have n1_ := Aside0.mk ((hb2.block D (blk_lt HD.out)).trans HD.out); have n2_ := Aside0.mk (Below.trans (by first | exact HB.out | exact below_drew1 HB.out) (hb2.mono HB.out.size)); (try (have n3_ := Aside0.mk ((hb2.block g (blk_lt HGR.out)).trans HGR.out); clear HGR; have HGR := n3_; clear n3_)); clear HD HB hb2; have HD := n1_; have HB := n2_; clear n1_ n2_; (try clear cK); have cK := cell_of (i := 0) (v := .int .i64 3) HD.out rfl)
          | ((with_reducible first | refine at_load_ ?_ | refine at_load2_ ?_); refine wpList_load_one rfl 3 _ rfl D 0 rfl (dgr 3 nn ck nm sa da tg ep se sq pl th tr fi bo).cells _ _ HD.out _ rfl _ Tryz.underlying3 rfl ?_)
          | ((with_reducible first | refine at_bs_ ?_ | refine at_bs2_ ?_); refine wpList_buildSlice_v rfl 39 5 1 _ rfl Tryz.underlying39 [.int .u8 3] (by kernel_rfl) ?_; intro g w3 eg hg3 hb3' hz3; have hb3 := hb3'.out; have n1_ := Aside0.mk ((hb3.block D (blk_lt HD.out)).trans HD.out); have n2_ := Aside0.mk (Below.trans (by first | exact HB.out | exact below_drew1 HB.out) (hb3.mono HB.out.size)); (try (have n3_ := Aside0.mk ((hb3.block g (blk_lt HGR.out)).trans HGR.out); clear HGR; have HGR := n3_; clear n3_)); clear HD HB hb3; have HD := n1_; have HB := n2_; clear n1_ n2_; (try clear cK); have cK := cell_of (i := 0) (v := .int .i64 3) HD.out rfl; have HGR := Aside0.mk (show w3.heap[g]? = some (.cells [Value.int .u8 ((3 : UInt8).toNat : Int)].toArray 5 (0, 0)) from hg3.out); clear hg3 hb3' hz3 eg)
          | ((with_reducible first | refine at_conv_ ?_ | refine at_conv2_ ?_); refine wpList_string_of rfl _ _ 5 _ rfl (some ⟨g, 0, none⟩) 1 1 rfl [3] rfl (bytes_row1 (x := 3) HGR.out) Tryz.underlying39 (by kernel_rfl) Tryz.underlying5 ?_; clear HGR)
          | ((with_reducible first | refine at_add_ ?_ | refine at_add2_ ?_); refine wpList_cat rfl _ _ _ _ rfl _ _ rfl rfl (by simp only [List.length_append, List.length_cons, List.length_nil, List.length_replicate, len8_len]; have := HS.out; omega) ?_)
          | ((with_reducible first | refine at_load_ ?_ | refine at_load2_ ?_); refine wpList_load_one rfl 9 _ rfl D 1 rfl (dgr 3 nn ck nm sa da tg ep se sq pl th tr fi bo).cells _ _ HD.out _ rfl _ Tryz.underlying9 rfl ?_)
          | ((with_reducible first | refine at_load_ ?_ | refine at_load2_ ?_); refine wpList_load_one rfl 9 _ rfl D 14 rfl (dgr 3 nn ck nm sa da tg ep se sq pl th tr fi bo).cells _ _ HD.out _ rfl _ Tryz.underlying9 rfl ?_))
      obtain ⟨T, eT⟩ : ∃ T, T = str (74 :: 48 :: 49 :: 3 :: (nn ++ (len8 ep ++ (ck ++ u :: (nm ++ tg))))) := ⟨_, rfl⟩
      have hT : T.size ≤ 1200 := (by rw [eT, str_size]; exact (by simp only [List.length_append, List.length_cons, List.length_nil, List.length_replicate, len8_len]; have := HS.out; omega))
      have o1 : decide ((1200 : Int) < (T.size : Int)) = false := decide_eq_false (by omega)
      have o2 : ¬ ((1200 : Int) < (T.size : Int)) := (by omega)
      have o3 : ¬ (1200 < T.size) := (by omega)
      rw [← eT]
      have ET := Aside0.mk eT.symm
      clear eT hT
      go_wp2
      go_ret2
      refine ⟨?_, HB.out⟩
      rw [ET.out]
      rfl
def T_17_18 : Bool × List (List Nat × List Nat) := (true, [([], []), ([], []), ([1], [1]), ([2], [2]), ([0, 3], [0, 3]), ([], []), ([5], [5]), ([6], [6]), ([7], [7]), ([8], [8]), ([4, 9], [4, 9]), ([], []), ([11], [11]), ([10, 12], [10, 12]), ([13, 3, 0, 1, 2, 3, 4, 5, 6, 7, 8, 9, 10, 11, 12, 13], [0, 13])])
def B_17_18 : List Nat := [0, 0, 2, 6, 15, 0, 32, 96, 224, 480, 1023, 0, 2048, 8191, 16383]
theorem tab_f17_18 : rtab .any (opsOf Tryz.f17 18) = T_17_18 := by kernel_rfl
theorem bits_f17_18 : waitsOk T_17_18.2 B_17_18 = true := by kernel_rfl
set_option maxHeartbeats 8000000 in
set_option maxRecDepth 100000 in
theorem renc_4 (nn ck nm sa da tg : List UInt8) (ep se sq : Nat) (pl th tr : Int) (fi bo : Bool) (hn : nn.length = 16) (hs : sa.length = 16) (ht : tg.length = 32) (he : se < 18446744073709551616) (u : UInt8) (hu : IntKind.u8.wrap pl = (u.toNat : Int)) (hf : ∀ w, Calls Tryz.prog 42 #[.agg (dgr 4 nn ck nm sa da tg ep se sq pl th tr fi bo).cells.toArray] w fun e w' => e = .returned (.bool true) ∧ Below w.heap.size w w') (w : World) :
    Calls Tryz.prog 17 #[.agg (dgr 4 nn ck nm sa da tg ep se sq pl th tr fi bo).cells.toArray] w fun e w' => e = .returned (.tuple #[.string (str ([74, 48, 49] ++ [4] ++ nn ++ len8 se ++ [u] ++ sa ++ tg)), .int .i64 0]) ∧ Below w.heap.size w w' := by
  have HS := Aside0.mk (show nn.length = 16 ∧ sa.length = 16 ∧ tg.length = 32 ∧ se < 18446744073709551616 from ⟨hn, hs, ht, he⟩)
  have FC := Aside0.mk hf
  clear hf
  have EU := Aside0.mk hu
  clear hn hs ht he hu
  go_enter Tryz.func17, Tryz.ntmps17
  go_upto_region 18 with (first
    | ((with_reducible first | refine at_box_ ?_ | refine at_box2_ ?_); refine wpList_box_v rfl 27 _ rfl (dgr 4 nn ck nm sa da tg ep se sq pl th tr fi bo).cells rfl (by kernel_rfl) ?_; intro D w1 eD hD1 hb1 hz1; have HD := Aside0.mk (show w1.heap[D]? = some (.cells (dgr 4 nn ck nm sa da tg ep se sq pl th tr fi bo).cells.toArray 27 (0, 0)) from hD1.out); have HB := Aside0.mk (show Below w.heap.size w w1 from hb1.out); clear hD1 hb1 hz1 eD; have cK := cell_of (i := 0) (v := .int .i64 4) HD.out rfl)
    | ((with_reducible first | refine at_load_ ?_ | refine at_load2_ ?_); refine wpList_load_agg rfl 27 _ rfl D 0 rfl (dgr 4 nn ck nm sa da tg ep se sq pl th tr fi bo).cells (load_all HD.out) _ Tryz.underlying27 rfl (by kernel_rfl) ?_)
    | (go_at_call 42; (with_reducible refine (FC.out _).mono ?_); rintro e w2 ⟨rfl, hb2⟩; have n1_ := Aside0.mk ((hb2.block D (blk_lt HD.out)).trans HD.out); have n2_ := Aside0.mk (Below.trans (by first | exact HB.out | exact below_drew1 HB.out) (hb2.mono HB.out.size)); (try (have n3_ := Aside0.mk ((hb2.block g (blk_lt HGR.out)).trans HGR.out); clear HGR; have HGR := n3_; clear n3_)); clear HD HB hb2; have HD := n1_; have HB := n2_; clear n1_ n2_; (try clear cK); have cK := cell_of (i := 0) (v := .int .i64 4) HD.out rfl)
    | ((with_reducible first | refine at_load_ ?_ | refine at_load2_ ?_); refine wpList_load_one rfl 3 _ rfl D 0 rfl (dgr 4 nn ck nm sa da tg ep se sq pl th tr fi bo).cells _ _ HD.out _ rfl _ Tryz.underlying3 rfl ?_)
    | ((with_reducible first | refine at_bs_ ?_ | refine at_bs2_ ?_); refine wpList_buildSlice_v rfl 39 5 1 _ rfl Tryz.underlying39 [.int .u8 4] (by kernel_rfl) ?_; intro g w3 eg hg3 hb3' hz3; have hb3 := hb3'.out; have n1_ := Aside0.mk ((hb3.block D (blk_lt HD.out)).trans HD.out); have n2_ := Aside0.mk (Below.trans (by first | exact HB.out | exact below_drew1 HB.out) (hb3.mono HB.out.size)); (try (have n3_ := Aside0.mk ((hb3.block g (blk_lt HGR.out)).trans HGR.out); clear HGR; have HGR := n3_; clear n3_)); clear HD HB hb3; have HD := n1_; have HB := n2_; clear n1_ n2_; (try clear cK); have cK := cell_of (i := 0) (v := .int .i64 4) HD.out rfl; have HGR := Aside0.mk (show w3.heap[g]? = some (.cells [Value.int .u8 ((4 : UInt8).toNat : Int)].toArray 5 (0, 0)) from hg3.out); clear hg3 hb3' hz3 eg)
    | ((with_reducible first | refine at_conv_ ?_ | refine at_conv2_ ?_); refine wpList_string_of rfl _ _ 5 _ rfl (some ⟨g, 0, none⟩) 1 1 rfl [4] rfl (bytes_row1 (x := 4) HGR.out) Tryz.underlying39 (by kernel_rfl) Tryz.underlying5 ?_; clear HGR)
    | ((with_reducible first | refine at_add_ ?_ | refine at_add2_ ?_); refine wpList_cat rfl _ _ _ _ rfl _ _ rfl rfl (by simp only [List.length_append, List.length_cons, List.length_nil, List.length_replicate, len8_len]; have := HS.out; omega) ?_)
    | ((with_reducible first | refine at_load_ ?_ | refine at_load2_ ?_); refine wpList_load_one rfl 9 _ rfl D 1 rfl (dgr 4 nn ck nm sa da tg ep se sq pl th tr fi bo).cells _ _ HD.out _ rfl _ Tryz.underlying9 rfl ?_)
    | ((with_reducible first | refine at_load_ ?_ | refine at_load2_ ?_); refine wpList_load_one rfl 9 _ rfl D 14 rfl (dgr 4 nn ck nm sa da tg ep se sq pl th tr fi bo).cells _ _ HD.out _ rfl _ Tryz.underlying9 rfl ?_))
  refine start_ (n := 15) (S := fun w' => w'.cell? ⟨D, 5, none⟩ = some (.int .u64 (se : Int)) ∧ w'.cell? ⟨D, 6, none⟩ = some (.int .i64 pl) ∧ w'.cell? ⟨D, 7, none⟩ = some (.string (str sa))) (ds := []) #[false, false, false, false, false, false, false, false, false, false, false, false, false, false, false] (by kernel_rfl) rfl rfl ⟨cell_of HD.out rfl, cell_of HD.out rfl, cell_of HD.out rfl⟩ (fun hHeld => ?_)
  refine with_tabW tab_f17_18 bits_f17_18 (fun HT_ HW_ => ?_)
  refine pure_ (i := 0) (N := some 81) (v := ?_) (a' := ?_) #[true, false, false, false, false, false, false, false, false, false, false, false, false, false, false] rfl rfl (any_of HT_.out (by kernel_rfl)) (fun _ _ _ h => h) (Or.inl ⟨by rfl, ?_⟩) ?_ ?_
  rotate_left
  · intro w'
    go_simp
    with_reducible rfl
  rotate_left
  · simp only [pS]
    rfl
  refine pure_ (i := 1) (N := some 82) (v := ?_) (a' := ?_) #[true, true, false, false, false, false, false, false, false, false, false, false, false, false, false] rfl rfl (any_of HT_.out (by kernel_rfl)) (fun _ _ _ h => h) (Or.inl ⟨by rfl, ?_⟩) ?_ ?_
  rotate_left
  · intro w'
    go_simp
    with_reducible rfl
  rotate_left
  · simp only [pS]
    rfl
  refine take_ (i := 2) (N := some 83) (v := ?_) (a' := ?_) #[true, true, true, false, false, false, false, false, false, false, false, false, false, false, false] rfl rfl (take_ofW HT_.out HW_.out (by kernel_rfl)) (fun _ _ _ h => h) (Or.inl ⟨by rfl, ?_⟩) hHeld ?_ ?_
  rotate_left
  · rintro w' ⟨s5, s6, s7⟩
    go_simp
    with_reducible rfl
  rotate_left
  · simp only [pS]
    rfl
  refine pure_ (i := 5) (N := some 86) (v := ?_) (a' := ?_) #[true, true, true, false, false, true, false, false, false, false, false, false, false, false, false] rfl rfl (any_of HT_.out (by kernel_rfl)) (fun _ _ _ h => h) (Or.inl ⟨by rfl, ?_⟩) ?_ ?_
  rotate_left
  · intro w'
    go_simp
    with_reducible rfl
  rotate_left
  · simp only [pS]
    rfl
  refine take_ (i := 6) (N := some 87) (v := ?_) (a' := ?_) #[true, true, true, false, false, true, true, false, false, false, false, false, false, false, false] rfl rfl (take_ofW HT_.out HW_.out (by kernel_rfl)) (fun _ _ _ h => h) (Or.inl ⟨by rfl, ?_⟩) hHeld ?_ ?_
  rotate_left
  · rintro w' ⟨s5, s6, s7⟩
    go_simp
    with_reducible rfl
  rotate_left
  · simp only [pS]
    rfl
  refine pure_ (i := 7) (N := some 88) (v := ?_) (a' := ?_) #[true, true, true, false, false, true, true, true, false, false, false, false, false, false, false] rfl rfl (any_of HT_.out (by kernel_rfl)) (fun _ _ _ h => h) (Or.inl ⟨by rfl, ?_⟩) ?_ ?_
  rotate_left
  · intro w'
    go_simp
    with_reducible rfl
  rotate_left
  · simp only [pS]
    rfl
  refine pure_ (i := 11) (N := some 92) (v := ?_) (a' := ?_) #[true, true, true, false, false, true, true, true, false, false, false, true, false, false, false] rfl rfl (any_of HT_.out (by kernel_rfl)) (fun _ _ _ h => h) (Or.inl ⟨by rfl, ?_⟩) ?_ ?_
  rotate_left
  · intro w'
    go_simp
    with_reducible rfl
  rotate_left
  · simp only [pS]
    rfl
  refine take_ (i := 12) (N := some 93) (v := ?_) (a' := ?_) #[true, true, true, false, false, true, true, true, false, false, false, true, true, false, false] rfl rfl (take_ofW HT_.out HW_.out (by kernel_rfl)) (fun _ _ _ h => h) (Or.inl ⟨by rfl, ?_⟩) hHeld ?_ ?_
  rotate_left
  · rintro w' ⟨s5, s6, s7⟩
    go_simp
    with_reducible rfl
  rotate_left
  · simp only [pS]
    rfl
  refine two_ (i := 3) (j := 8) (Ni := some 84) (Nj := some 89) #[true, true, true, true, false, true, true, true, false, false, false, true, true, false, false] #[true, true, true, false, false, true, true, true, true, false, false, true, true, false, false] rfl rfl rfl rfl (two_of HT_.out (by kernel_rfl)) (by decide) (by decide) (fun K hK => ?_) (fun K hK => ?_)
  · refine goes_ Tryz.func43 (by kernel_rfl) rfl #[.int .u64 ((se : Nat) : Int)] (by rfl) rfl rfl (by (try simp only [List.map_toArray, List.map_cons, List.map_nil]); first | done | rfl) ?_
    with_reducible refine (length_calls se HS.out.2.2.2 _).mono ?_
    rintro e w5 ⟨rfl, hb5⟩
    refine ⟨_, rfl, ?_⟩
    have n1_ := Aside0.mk ((hb5.block D (blk_lt HD.out)).trans HD.out); have n2_ := Aside0.mk (Below.trans (by first | exact HB.out | exact below_drew1 HB.out) (hb5.mono HB.out.size)); (try (have n3_ := Aside0.mk ((hb5.block g (blk_lt HGR.out)).trans HGR.out); clear HGR; have HGR := n3_; clear n3_)); clear HD HB hb5; have HD := n1_; have HB := n2_; clear n1_ n2_; (try clear cK); have cK := cell_of (i := 0) (v := .int .i64 4) HD.out rfl
    refine hK.out _ _ (⟨cell_of HD.out rfl, cell_of HD.out rfl, cell_of HD.out rfl⟩) (fun hHeld => ?_)
    clear hK K
    refine norm_ (a' := ?_) ?_ ?_
    rotate_left
    · show Act.put _ (some 84) _ = _
      simp only [pS]
      rfl
    refine pure_ (i := 4) (N := some 85) (a' := ?_) #[true, true, true, true, true, true, true, true, false, false, false, true, true, false, false] rfl rfl (any_of HT_.out (by kernel_rfl)) (fun _ _ _ h => h) (Or.inl ⟨by rfl, cat_yields _ _ _ _ (by rfl) _ _ (by rfl) (by rfl) (by simp only [List.length_append, List.length_cons, List.length_nil, List.length_replicate, len8_len]; have := HS.out; omega)⟩) ?_ ?_
    rotate_left
    · simp only [pS]
      rfl
    refine one_ (i := 8) (N := some 89) #[true, true, true, true, true, true, true, true, true, false, false, true, true, false, false] rfl rfl (one_of HT_.out (by kernel_rfl)) (by decide) (fun K hK => ?_)
    refine step_of_wp rfl (wp_buildSlice_v 39 5 1 _ rfl Tryz.underlying39 [.int .u8 (IntKind.u8.wrap pl)] (by kernel_rfl) ?_)
    intro g w3 eg hg3 hb3' hz3
    have hb3 := hb3'.out
    have n1_ := Aside0.mk ((hb3.block D (blk_lt HD.out)).trans HD.out); have n2_ := Aside0.mk (Below.trans (by first | exact HB.out | exact below_drew1 HB.out) (hb3.mono HB.out.size)); (try (have n3_ := Aside0.mk ((hb3.block g (blk_lt HGR.out)).trans HGR.out); clear HGR; have HGR := n3_; clear n3_)); clear HD HB hb3; have HD := n1_; have HB := n2_; clear n1_ n2_; (try clear cK); have cK := cell_of (i := 0) (v := .int .i64 4) HD.out rfl
    have HGR := Aside0.mk (show w3.heap[g]? = some (.cells [Value.int .u8 ((u : UInt8).toNat : Int)].toArray 5 (0, 0)) from by rw [← EU.out]; exact hg3.out)
    clear hg3 hb3' hz3 eg
    refine hK.out _ _ (⟨cell_of HD.out rfl, cell_of HD.out rfl, cell_of HD.out rfl⟩) (fun hHeld => ?_)
    clear hK K
    refine norm_ (a' := ?_) ?_ ?_
    rotate_left
    · show Act.put _ (some 89) _ = _
      simp only [pS]
      rfl
    refine one_ (i := 9) (N := some 90) #[true, true, true, true, true, true, true, true, true, true, false, true, true, false, false] rfl rfl (one_of HT_.out (by kernel_rfl)) (by decide) (fun K hK => ?_)
    refine step_of_wp rfl (wp_string_of _ _ 5 _ rfl (some ⟨g, 0, none⟩) 1 1 rfl [u] rfl (bytes_row1 (x := u) HGR.out) Tryz.underlying39 (by kernel_rfl) Tryz.underlying5 ?_)
    clear HGR
    refine hK.out _ _ hHeld (fun hHeld => ?_)
    clear hK K
    refine norm_ (a' := ?_) ?_ ?_
    rotate_left
    · show Act.put _ (some 90) _ = _
      simp only [pS]
      rfl
    refine pure_ (i := 10) (N := some 91) (a' := ?_) #[true, true, true, true, true, true, true, true, true, true, true, true, true, false, false] rfl rfl (any_of HT_.out (by kernel_rfl)) (fun _ _ _ h => h) (Or.inl ⟨by rfl, cat_yields _ _ _ _ (by rfl) _ _ (by rfl) (by rfl) (by simp only [List.length_append, List.length_cons, List.length_nil, List.length_replicate, len8_len]; have := HS.out; omega)⟩) ?_ ?_
    rotate_left
    · simp only [pS]
      rfl
    refine pure_ (i := 13) (N := some 94) (a' := ?_) #[true, true, true, true, true, true, true, true, true, true, true, true, true, true, false] rfl rfl (any_of HT_.out (by kernel_rfl)) (fun _ _ _ h => h) (Or.inl ⟨by rfl, cat_yields _ _ _ _ (by rfl) _ _ (by rfl) (by rfl) (by simp only [List.length_append, List.length_cons, List.length_nil, List.length_replicate, len8_len]; have := HS.out; omega)⟩) ?_ ?_
    rotate_left
    · simp only [pS]
      rfl
    refine pure_ (i := 14) (N := some 5) (v := ?_) (a' := ?_) #[true, true, true, true, true, true, true, true, true, true, true, true, true, true, true] rfl rfl (any_of HT_.out (by kernel_rfl)) (fun _ _ _ h => h) (Or.inl ⟨by rfl, ?_⟩) ?_ ?_
    rotate_left
    · intro w'
      go_simp
      with_reducible rfl
    rotate_left
    · simp only [pS]
      rfl
    refine done_ (done_of HT_.out (by kernel_rfl)) ?_
    clear HT_ HW_ hHeld
    go_upto_region 30 with (first
        | ((with_reducible first | refine at_box_ ?_ | refine at_box2_ ?_); refine wpList_box_v rfl 27 _ rfl (dgr 4 nn ck nm sa da tg ep se sq pl th tr fi bo).cells rfl (by kernel_rfl) ?_; intro D w1 eD hD1 hb1 hz1; have HD := Aside0.mk (show w1.heap[D]? = some (.cells (dgr 4 nn ck nm sa da tg ep se sq pl th tr fi bo).cells.toArray 27 (0, 0)) from hD1.out); have HB := Aside0.mk (show Below w.heap.size w w1 from hb1.out); clear hD1 hb1 hz1 eD; have cK := cell_of (i := 0) (v := .int .i64 4) HD.out rfl)
        | ((with_reducible first | refine at_load_ ?_ | refine at_load2_ ?_); refine wpList_load_agg rfl 27 _ rfl D 0 rfl (dgr 4 nn ck nm sa da tg ep se sq pl th tr fi bo).cells (load_all HD.out) _ Tryz.underlying27 rfl (by kernel_rfl) ?_)
        | (go_at_call 42; (with_reducible refine (FC.out _).mono ?_); rintro e w2 ⟨rfl, hb2⟩; have n1_ := Aside0.mk ((hb2.block D (blk_lt HD.out)).trans HD.out); have n2_ := Aside0.mk (Below.trans (by first | exact HB.out | exact below_drew1 HB.out) (hb2.mono HB.out.size)); (try (have n3_ := Aside0.mk ((hb2.block g (blk_lt HGR.out)).trans HGR.out); clear HGR; have HGR := n3_; clear n3_)); clear HD HB hb2; have HD := n1_; have HB := n2_; clear n1_ n2_; (try clear cK); have cK := cell_of (i := 0) (v := .int .i64 4) HD.out rfl)
        | ((with_reducible first | refine at_load_ ?_ | refine at_load2_ ?_); refine wpList_load_one rfl 3 _ rfl D 0 rfl (dgr 4 nn ck nm sa da tg ep se sq pl th tr fi bo).cells _ _ HD.out _ rfl _ Tryz.underlying3 rfl ?_)
        | ((with_reducible first | refine at_bs_ ?_ | refine at_bs2_ ?_); refine wpList_buildSlice_v rfl 39 5 1 _ rfl Tryz.underlying39 [.int .u8 4] (by kernel_rfl) ?_; intro g w3 eg hg3 hb3' hz3; have hb3 := hb3'.out; have n1_ := Aside0.mk ((hb3.block D (blk_lt HD.out)).trans HD.out); have n2_ := Aside0.mk (Below.trans (by first | exact HB.out | exact below_drew1 HB.out) (hb3.mono HB.out.size)); (try (have n3_ := Aside0.mk ((hb3.block g (blk_lt HGR.out)).trans HGR.out); clear HGR; have HGR := n3_; clear n3_)); clear HD HB hb3; have HD := n1_; have HB := n2_; clear n1_ n2_; (try clear cK); have cK := cell_of (i := 0) (v := .int .i64 4) HD.out rfl; have HGR := Aside0.mk (show w3.heap[g]? = some (.cells [Value.int .u8 ((4 : UInt8).toNat : Int)].toArray 5 (0, 0)) from hg3.out); clear hg3 hb3' hz3 eg)
        | ((with_reducible first | refine at_conv_ ?_ | refine at_conv2_ ?_); refine wpList_string_of rfl _ _ 5 _ rfl (some ⟨g, 0, none⟩) 1 1 rfl [4] rfl (bytes_row1 (x := 4) HGR.out) Tryz.underlying39 (by kernel_rfl) Tryz.underlying5 ?_; clear HGR)
        | ((with_reducible first | refine at_add_ ?_ | refine at_add2_ ?_); refine wpList_cat rfl _ _ _ _ rfl _ _ rfl rfl (by simp only [List.length_append, List.length_cons, List.length_nil, List.length_replicate, len8_len]; have := HS.out; omega) ?_)
        | ((with_reducible first | refine at_load_ ?_ | refine at_load2_ ?_); refine wpList_load_one rfl 9 _ rfl D 1 rfl (dgr 4 nn ck nm sa da tg ep se sq pl th tr fi bo).cells _ _ HD.out _ rfl _ Tryz.underlying9 rfl ?_)
        | ((with_reducible first | refine at_load_ ?_ | refine at_load2_ ?_); refine wpList_load_one rfl 9 _ rfl D 14 rfl (dgr 4 nn ck nm sa da tg ep se sq pl th tr fi bo).cells _ _ HD.out _ rfl _ Tryz.underlying9 rfl ?_))
    obtain ⟨T, eT⟩ : ∃ T, T = str (74 :: 48 :: 49 :: 4 :: (nn ++ (len8 se ++ u :: (sa ++ tg)))) := ⟨_, rfl⟩
    have hT : T.size ≤ 1200 := (by rw [eT, str_size]; exact (by simp only [List.length_append, List.length_cons, List.length_nil, List.length_replicate, len8_len]; have := HS.out; omega))
    have o1 : decide ((1200 : Int) < (T.size : Int)) = false := decide_eq_false (by omega)
    have o2 : ¬ ((1200 : Int) < (T.size : Int)) := (by omega)
    have o3 : ¬ (1200 < T.size) := (by omega)
    rw [← eT]
    have ET := Aside0.mk eT.symm
    clear eT hT
    go_wp2
    go_ret2
    refine ⟨?_, HB.out⟩
    rw [ET.out]
    rfl
  · refine step_of_wp rfl (wp_buildSlice_v 39 5 1 _ rfl Tryz.underlying39 [.int .u8 (IntKind.u8.wrap pl)] (by kernel_rfl) ?_)
    intro g w3 eg hg3 hb3' hz3
    have hb3 := hb3'.out
    have n1_ := Aside0.mk ((hb3.block D (blk_lt HD.out)).trans HD.out); have n2_ := Aside0.mk (Below.trans (by first | exact HB.out | exact below_drew1 HB.out) (hb3.mono HB.out.size)); (try (have n3_ := Aside0.mk ((hb3.block g (blk_lt HGR.out)).trans HGR.out); clear HGR; have HGR := n3_; clear n3_)); clear HD HB hb3; have HD := n1_; have HB := n2_; clear n1_ n2_; (try clear cK); have cK := cell_of (i := 0) (v := .int .i64 4) HD.out rfl
    have HGR := Aside0.mk (show w3.heap[g]? = some (.cells [Value.int .u8 ((u : UInt8).toNat : Int)].toArray 5 (0, 0)) from by rw [← EU.out]; exact hg3.out)
    clear hg3 hb3' hz3 eg
    refine hK.out _ _ (⟨cell_of HD.out rfl, cell_of HD.out rfl, cell_of HD.out rfl⟩) (fun hHeld => ?_)
    clear hK K
    refine norm_ (a' := ?_) ?_ ?_
    rotate_left
    · show Act.put _ (some 89) _ = _
      simp only [pS]
      rfl
    refine two_ (i := 3) (j := 9) (Ni := some 84) (Nj := some 90) #[true, true, true, true, false, true, true, true, true, false, false, true, true, false, false] #[true, true, true, false, false, true, true, true, true, true, false, true, true, false, false] rfl rfl rfl rfl (two_of HT_.out (by kernel_rfl)) (by decide) (by decide) (fun K hK => ?_) (fun K hK => ?_)
    · refine goes_ Tryz.func43 (by kernel_rfl) rfl #[.int .u64 ((se : Nat) : Int)] (by rfl) rfl rfl (by (try simp only [List.map_toArray, List.map_cons, List.map_nil]); first | done | rfl) ?_
      with_reducible refine (length_calls se HS.out.2.2.2 _).mono ?_
      rintro e w5 ⟨rfl, hb5⟩
      refine ⟨_, rfl, ?_⟩
      have n1_ := Aside0.mk ((hb5.block D (blk_lt HD.out)).trans HD.out); have n2_ := Aside0.mk (Below.trans (by first | exact HB.out | exact below_drew1 HB.out) (hb5.mono HB.out.size)); (try (have n3_ := Aside0.mk ((hb5.block g (blk_lt HGR.out)).trans HGR.out); clear HGR; have HGR := n3_; clear n3_)); clear HD HB hb5; have HD := n1_; have HB := n2_; clear n1_ n2_; (try clear cK); have cK := cell_of (i := 0) (v := .int .i64 4) HD.out rfl
      refine hK.out _ _ (⟨cell_of HD.out rfl, cell_of HD.out rfl, cell_of HD.out rfl⟩) (fun hHeld => ?_)
      clear hK K
      refine norm_ (a' := ?_) ?_ ?_
      rotate_left
      · show Act.put _ (some 84) _ = _
        simp only [pS]
        rfl
      refine pure_ (i := 4) (N := some 85) (a' := ?_) #[true, true, true, true, true, true, true, true, true, false, false, true, true, false, false] rfl rfl (any_of HT_.out (by kernel_rfl)) (fun _ _ _ h => h) (Or.inl ⟨by rfl, cat_yields _ _ _ _ (by rfl) _ _ (by rfl) (by rfl) (by simp only [List.length_append, List.length_cons, List.length_nil, List.length_replicate, len8_len]; have := HS.out; omega)⟩) ?_ ?_
      rotate_left
      · simp only [pS]
        rfl
      refine one_ (i := 9) (N := some 90) #[true, true, true, true, true, true, true, true, true, true, false, true, true, false, false] rfl rfl (one_of HT_.out (by kernel_rfl)) (by decide) (fun K hK => ?_)
      refine step_of_wp rfl (wp_string_of _ _ 5 _ rfl (some ⟨g, 0, none⟩) 1 1 rfl [u] rfl (bytes_row1 (x := u) HGR.out) Tryz.underlying39 (by kernel_rfl) Tryz.underlying5 ?_)
      clear HGR
      refine hK.out _ _ hHeld (fun hHeld => ?_)
      clear hK K
      refine norm_ (a' := ?_) ?_ ?_
      rotate_left
      · show Act.put _ (some 90) _ = _
        simp only [pS]
        rfl
      refine pure_ (i := 10) (N := some 91) (a' := ?_) #[true, true, true, true, true, true, true, true, true, true, true, true, true, false, false] rfl rfl (any_of HT_.out (by kernel_rfl)) (fun _ _ _ h => h) (Or.inl ⟨by rfl, cat_yields _ _ _ _ (by rfl) _ _ (by rfl) (by rfl) (by simp only [List.length_append, List.length_cons, List.length_nil, List.length_replicate, len8_len]; have := HS.out; omega)⟩) ?_ ?_
      rotate_left
      · simp only [pS]
        rfl
      refine pure_ (i := 13) (N := some 94) (a' := ?_) #[true, true, true, true, true, true, true, true, true, true, true, true, true, true, false] rfl rfl (any_of HT_.out (by kernel_rfl)) (fun _ _ _ h => h) (Or.inl ⟨by rfl, cat_yields _ _ _ _ (by rfl) _ _ (by rfl) (by rfl) (by simp only [List.length_append, List.length_cons, List.length_nil, List.length_replicate, len8_len]; have := HS.out; omega)⟩) ?_ ?_
      rotate_left
      · simp only [pS]
        rfl
      refine pure_ (i := 14) (N := some 5) (v := ?_) (a' := ?_) #[true, true, true, true, true, true, true, true, true, true, true, true, true, true, true] rfl rfl (any_of HT_.out (by kernel_rfl)) (fun _ _ _ h => h) (Or.inl ⟨by rfl, ?_⟩) ?_ ?_
      rotate_left
      · intro w'
        go_simp
        with_reducible rfl
      rotate_left
      · simp only [pS]
        rfl
      refine done_ (done_of HT_.out (by kernel_rfl)) ?_
      clear HT_ HW_ hHeld
      go_upto_region 30 with (first
          | ((with_reducible first | refine at_box_ ?_ | refine at_box2_ ?_); refine wpList_box_v rfl 27 _ rfl (dgr 4 nn ck nm sa da tg ep se sq pl th tr fi bo).cells rfl (by kernel_rfl) ?_; intro D w1 eD hD1 hb1 hz1; have HD := Aside0.mk (show w1.heap[D]? = some (.cells (dgr 4 nn ck nm sa da tg ep se sq pl th tr fi bo).cells.toArray 27 (0, 0)) from hD1.out); have HB := Aside0.mk (show Below w.heap.size w w1 from hb1.out); clear hD1 hb1 hz1 eD; have cK := cell_of (i := 0) (v := .int .i64 4) HD.out rfl)
          | ((with_reducible first | refine at_load_ ?_ | refine at_load2_ ?_); refine wpList_load_agg rfl 27 _ rfl D 0 rfl (dgr 4 nn ck nm sa da tg ep se sq pl th tr fi bo).cells (load_all HD.out) _ Tryz.underlying27 rfl (by kernel_rfl) ?_)
          | (go_at_call 42; (with_reducible refine (FC.out _).mono ?_); rintro e w2 ⟨rfl, hb2⟩; have n1_ := Aside0.mk ((hb2.block D (blk_lt HD.out)).trans HD.out); have n2_ := Aside0.mk (Below.trans (by first | exact HB.out | exact below_drew1 HB.out) (hb2.mono HB.out.size)); (try (have n3_ := Aside0.mk ((hb2.block g (blk_lt HGR.out)).trans HGR.out); clear HGR; have HGR := n3_; clear n3_)); clear HD HB hb2; have HD := n1_; have HB := n2_; clear n1_ n2_; (try clear cK); have cK := cell_of (i := 0) (v := .int .i64 4) HD.out rfl)
          | ((with_reducible first | refine at_load_ ?_ | refine at_load2_ ?_); refine wpList_load_one rfl 3 _ rfl D 0 rfl (dgr 4 nn ck nm sa da tg ep se sq pl th tr fi bo).cells _ _ HD.out _ rfl _ Tryz.underlying3 rfl ?_)
          | ((with_reducible first | refine at_bs_ ?_ | refine at_bs2_ ?_); refine wpList_buildSlice_v rfl 39 5 1 _ rfl Tryz.underlying39 [.int .u8 4] (by kernel_rfl) ?_; intro g w3 eg hg3 hb3' hz3; have hb3 := hb3'.out; have n1_ := Aside0.mk ((hb3.block D (blk_lt HD.out)).trans HD.out); have n2_ := Aside0.mk (Below.trans (by first | exact HB.out | exact below_drew1 HB.out) (hb3.mono HB.out.size)); (try (have n3_ := Aside0.mk ((hb3.block g (blk_lt HGR.out)).trans HGR.out); clear HGR; have HGR := n3_; clear n3_)); clear HD HB hb3; have HD := n1_; have HB := n2_; clear n1_ n2_; (try clear cK); have cK := cell_of (i := 0) (v := .int .i64 4) HD.out rfl; have HGR := Aside0.mk (show w3.heap[g]? = some (.cells [Value.int .u8 ((4 : UInt8).toNat : Int)].toArray 5 (0, 0)) from hg3.out); clear hg3 hb3' hz3 eg)
          | ((with_reducible first | refine at_conv_ ?_ | refine at_conv2_ ?_); refine wpList_string_of rfl _ _ 5 _ rfl (some ⟨g, 0, none⟩) 1 1 rfl [4] rfl (bytes_row1 (x := 4) HGR.out) Tryz.underlying39 (by kernel_rfl) Tryz.underlying5 ?_; clear HGR)
          | ((with_reducible first | refine at_add_ ?_ | refine at_add2_ ?_); refine wpList_cat rfl _ _ _ _ rfl _ _ rfl rfl (by simp only [List.length_append, List.length_cons, List.length_nil, List.length_replicate, len8_len]; have := HS.out; omega) ?_)
          | ((with_reducible first | refine at_load_ ?_ | refine at_load2_ ?_); refine wpList_load_one rfl 9 _ rfl D 1 rfl (dgr 4 nn ck nm sa da tg ep se sq pl th tr fi bo).cells _ _ HD.out _ rfl _ Tryz.underlying9 rfl ?_)
          | ((with_reducible first | refine at_load_ ?_ | refine at_load2_ ?_); refine wpList_load_one rfl 9 _ rfl D 14 rfl (dgr 4 nn ck nm sa da tg ep se sq pl th tr fi bo).cells _ _ HD.out _ rfl _ Tryz.underlying9 rfl ?_))
      obtain ⟨T, eT⟩ : ∃ T, T = str (74 :: 48 :: 49 :: 4 :: (nn ++ (len8 se ++ u :: (sa ++ tg)))) := ⟨_, rfl⟩
      have hT : T.size ≤ 1200 := (by rw [eT, str_size]; exact (by simp only [List.length_append, List.length_cons, List.length_nil, List.length_replicate, len8_len]; have := HS.out; omega))
      have o1 : decide ((1200 : Int) < (T.size : Int)) = false := decide_eq_false (by omega)
      have o2 : ¬ ((1200 : Int) < (T.size : Int)) := (by omega)
      have o3 : ¬ (1200 < T.size) := (by omega)
      rw [← eT]
      have ET := Aside0.mk eT.symm
      clear eT hT
      go_wp2
      go_ret2
      refine ⟨?_, HB.out⟩
      rw [ET.out]
      rfl
    · refine step_of_wp rfl (wp_string_of _ _ 5 _ rfl (some ⟨g, 0, none⟩) 1 1 rfl [u] rfl (bytes_row1 (x := u) HGR.out) Tryz.underlying39 (by kernel_rfl) Tryz.underlying5 ?_)
      clear HGR
      refine hK.out _ _ hHeld (fun hHeld => ?_)
      clear hK K
      refine norm_ (a' := ?_) ?_ ?_
      rotate_left
      · show Act.put _ (some 90) _ = _
        simp only [pS]
        rfl
      refine one_ (i := 3) (N := some 84) #[true, true, true, true, false, true, true, true, true, true, false, true, true, false, false] rfl rfl (one_of HT_.out (by kernel_rfl)) (by decide) (fun K hK => ?_)
      refine goes_ Tryz.func43 (by kernel_rfl) rfl #[.int .u64 ((se : Nat) : Int)] (by rfl) rfl rfl (by (try simp only [List.map_toArray, List.map_cons, List.map_nil]); first | done | rfl) ?_
      with_reducible refine (length_calls se HS.out.2.2.2 _).mono ?_
      rintro e w5 ⟨rfl, hb5⟩
      refine ⟨_, rfl, ?_⟩
      have n1_ := Aside0.mk ((hb5.block D (blk_lt HD.out)).trans HD.out); have n2_ := Aside0.mk (Below.trans (by first | exact HB.out | exact below_drew1 HB.out) (hb5.mono HB.out.size)); (try (have n3_ := Aside0.mk ((hb5.block g (blk_lt HGR.out)).trans HGR.out); clear HGR; have HGR := n3_; clear n3_)); clear HD HB hb5; have HD := n1_; have HB := n2_; clear n1_ n2_; (try clear cK); have cK := cell_of (i := 0) (v := .int .i64 4) HD.out rfl
      refine hK.out _ _ (⟨cell_of HD.out rfl, cell_of HD.out rfl, cell_of HD.out rfl⟩) (fun hHeld => ?_)
      clear hK K
      refine norm_ (a' := ?_) ?_ ?_
      rotate_left
      · show Act.put _ (some 84) _ = _
        simp only [pS]
        rfl
      refine pure_ (i := 4) (N := some 85) (a' := ?_) #[true, true, true, true, true, true, true, true, true, true, false, true, true, false, false] rfl rfl (any_of HT_.out (by kernel_rfl)) (fun _ _ _ h => h) (Or.inl ⟨by rfl, cat_yields _ _ _ _ (by rfl) _ _ (by rfl) (by rfl) (by simp only [List.length_append, List.length_cons, List.length_nil, List.length_replicate, len8_len]; have := HS.out; omega)⟩) ?_ ?_
      rotate_left
      · simp only [pS]
        rfl
      refine pure_ (i := 10) (N := some 91) (a' := ?_) #[true, true, true, true, true, true, true, true, true, true, true, true, true, false, false] rfl rfl (any_of HT_.out (by kernel_rfl)) (fun _ _ _ h => h) (Or.inl ⟨by rfl, cat_yields _ _ _ _ (by rfl) _ _ (by rfl) (by rfl) (by simp only [List.length_append, List.length_cons, List.length_nil, List.length_replicate, len8_len]; have := HS.out; omega)⟩) ?_ ?_
      rotate_left
      · simp only [pS]
        rfl
      refine pure_ (i := 13) (N := some 94) (a' := ?_) #[true, true, true, true, true, true, true, true, true, true, true, true, true, true, false] rfl rfl (any_of HT_.out (by kernel_rfl)) (fun _ _ _ h => h) (Or.inl ⟨by rfl, cat_yields _ _ _ _ (by rfl) _ _ (by rfl) (by rfl) (by simp only [List.length_append, List.length_cons, List.length_nil, List.length_replicate, len8_len]; have := HS.out; omega)⟩) ?_ ?_
      rotate_left
      · simp only [pS]
        rfl
      refine pure_ (i := 14) (N := some 5) (v := ?_) (a' := ?_) #[true, true, true, true, true, true, true, true, true, true, true, true, true, true, true] rfl rfl (any_of HT_.out (by kernel_rfl)) (fun _ _ _ h => h) (Or.inl ⟨by rfl, ?_⟩) ?_ ?_
      rotate_left
      · intro w'
        go_simp
        with_reducible rfl
      rotate_left
      · simp only [pS]
        rfl
      refine done_ (done_of HT_.out (by kernel_rfl)) ?_
      clear HT_ HW_ hHeld
      go_upto_region 30 with (first
          | ((with_reducible first | refine at_box_ ?_ | refine at_box2_ ?_); refine wpList_box_v rfl 27 _ rfl (dgr 4 nn ck nm sa da tg ep se sq pl th tr fi bo).cells rfl (by kernel_rfl) ?_; intro D w1 eD hD1 hb1 hz1; have HD := Aside0.mk (show w1.heap[D]? = some (.cells (dgr 4 nn ck nm sa da tg ep se sq pl th tr fi bo).cells.toArray 27 (0, 0)) from hD1.out); have HB := Aside0.mk (show Below w.heap.size w w1 from hb1.out); clear hD1 hb1 hz1 eD; have cK := cell_of (i := 0) (v := .int .i64 4) HD.out rfl)
          | ((with_reducible first | refine at_load_ ?_ | refine at_load2_ ?_); refine wpList_load_agg rfl 27 _ rfl D 0 rfl (dgr 4 nn ck nm sa da tg ep se sq pl th tr fi bo).cells (load_all HD.out) _ Tryz.underlying27 rfl (by kernel_rfl) ?_)
          | (go_at_call 42; (with_reducible refine (FC.out _).mono ?_); rintro e w2 ⟨rfl, hb2⟩; have n1_ := Aside0.mk ((hb2.block D (blk_lt HD.out)).trans HD.out); have n2_ := Aside0.mk (Below.trans (by first | exact HB.out | exact below_drew1 HB.out) (hb2.mono HB.out.size)); (try (have n3_ := Aside0.mk ((hb2.block g (blk_lt HGR.out)).trans HGR.out); clear HGR; have HGR := n3_; clear n3_)); clear HD HB hb2; have HD := n1_; have HB := n2_; clear n1_ n2_; (try clear cK); have cK := cell_of (i := 0) (v := .int .i64 4) HD.out rfl)
          | ((with_reducible first | refine at_load_ ?_ | refine at_load2_ ?_); refine wpList_load_one rfl 3 _ rfl D 0 rfl (dgr 4 nn ck nm sa da tg ep se sq pl th tr fi bo).cells _ _ HD.out _ rfl _ Tryz.underlying3 rfl ?_)
          | ((with_reducible first | refine at_bs_ ?_ | refine at_bs2_ ?_); refine wpList_buildSlice_v rfl 39 5 1 _ rfl Tryz.underlying39 [.int .u8 4] (by kernel_rfl) ?_; intro g w3 eg hg3 hb3' hz3; have hb3 := hb3'.out; have n1_ := Aside0.mk ((hb3.block D (blk_lt HD.out)).trans HD.out); have n2_ := Aside0.mk (Below.trans (by first | exact HB.out | exact below_drew1 HB.out) (hb3.mono HB.out.size)); (try (have n3_ := Aside0.mk ((hb3.block g (blk_lt HGR.out)).trans HGR.out); clear HGR; have HGR := n3_; clear n3_)); clear HD HB hb3; have HD := n1_; have HB := n2_; clear n1_ n2_; (try clear cK); have cK := cell_of (i := 0) (v := .int .i64 4) HD.out rfl; have HGR := Aside0.mk (show w3.heap[g]? = some (.cells [Value.int .u8 ((4 : UInt8).toNat : Int)].toArray 5 (0, 0)) from hg3.out); clear hg3 hb3' hz3 eg)
          | ((with_reducible first | refine at_conv_ ?_ | refine at_conv2_ ?_); refine wpList_string_of rfl _ _ 5 _ rfl (some ⟨g, 0, none⟩) 1 1 rfl [4] rfl (bytes_row1 (x := 4) HGR.out) Tryz.underlying39 (by kernel_rfl) Tryz.underlying5 ?_; clear HGR)
          | ((with_reducible first | refine at_add_ ?_ | refine at_add2_ ?_); refine wpList_cat rfl _ _ _ _ rfl _ _ rfl rfl (by simp only [List.length_append, List.length_cons, List.length_nil, List.length_replicate, len8_len]; have := HS.out; omega) ?_)
          | ((with_reducible first | refine at_load_ ?_ | refine at_load2_ ?_); refine wpList_load_one rfl 9 _ rfl D 1 rfl (dgr 4 nn ck nm sa da tg ep se sq pl th tr fi bo).cells _ _ HD.out _ rfl _ Tryz.underlying9 rfl ?_)
          | ((with_reducible first | refine at_load_ ?_ | refine at_load2_ ?_); refine wpList_load_one rfl 9 _ rfl D 14 rfl (dgr 4 nn ck nm sa da tg ep se sq pl th tr fi bo).cells _ _ HD.out _ rfl _ Tryz.underlying9 rfl ?_))
      obtain ⟨T, eT⟩ : ∃ T, T = str (74 :: 48 :: 49 :: 4 :: (nn ++ (len8 se ++ u :: (sa ++ tg)))) := ⟨_, rfl⟩
      have hT : T.size ≤ 1200 := (by rw [eT, str_size]; exact (by simp only [List.length_append, List.length_cons, List.length_nil, List.length_replicate, len8_len]; have := HS.out; omega))
      have o1 : decide ((1200 : Int) < (T.size : Int)) = false := decide_eq_false (by omega)
      have o2 : ¬ ((1200 : Int) < (T.size : Int)) := (by omega)
      have o3 : ¬ (1200 < T.size) := (by omega)
      rw [← eT]
      have ET := Aside0.mk eT.symm
      clear eT hT
      go_wp2
      go_ret2
      refine ⟨?_, HB.out⟩
      rw [ET.out]
      rfl
end Go.Proofs.YtniabkphbnimaaaGreatDoor.Sh
namespace Go.Proofs.YtniabkphbnimaaaGreatDoor.Sh
open Go Go.RowKit Go.Maps Go.Proofs.YtniabkphbnimaaaGreatDoorW.PrintWords Go.Proofs.YtniabkphbnimaaaGreatDoorW.PrintLast Go.Proofs.YtniabkphbnimaaaGreatDoor.Bs
set_option maxHeartbeats 8000000 in
set_option maxRecDepth 100000 in
theorem renc_5_00 (nn ck nm sa da tg : List UInt8) (ep se sq : Nat) (pl th tr : Int) (ht : tg.length = 32) (he : se < 18446744073709551616) (hq : sq < 18446744073709551616) (u v : UInt8) (e3 : IntKind.u8.wrap th = (u.toNat : Int) ∧ IntKind.u8.wrap tr = (v.toNat : Int) ∧ (0 : Int) = (((0 : UInt8)).toNat : Int)) (hf : ∀ w, Calls Tryz.prog 42 #[.agg (dgr 5 nn ck nm sa da tg ep se sq pl th tr false false).cells.toArray] w fun e w' => e = .returned (.bool true) ∧ Below w.heap.size w w') (w : World) :
    Calls Tryz.prog 17 #[.agg (dgr 5 nn ck nm sa da tg ep se sq pl th tr false false).cells.toArray] w fun e w' => e = .returned (.tuple #[.string (str ([74, 48, 49] ++ [5] ++ len8 se ++ len8 sq ++ [u, v, 0] ++ tg)), .int .i64 0]) ∧ Below w.heap.size w w' := by
  have HS := Aside0.mk (show tg.length = 32 ∧ se < 18446744073709551616 ∧ sq < 18446744073709551616 from ⟨ht, he, hq⟩)
  have FC := Aside0.mk hf
  clear hf
  have E3 := Aside0.mk e3
  clear ht he hq e3
  go_enter Tryz.func17, Tryz.ntmps17
  go_upto_region 10 with (first
    | ((with_reducible first | refine at_box_ ?_ | refine at_box2_ ?_); refine wpList_box_v rfl 27 _ rfl (dgr 5 nn ck nm sa da tg ep se sq pl th tr false false).cells rfl (by kernel_rfl) ?_; intro D w1 eD hD1 hb1 hz1; have HD := Aside0.mk (show w1.heap[D]? = some (.cells (dgr 5 nn ck nm sa da tg ep se sq pl th tr false false).cells.toArray 27 (0, 0)) from hD1.out); have HB := Aside0.mk (show Below w.heap.size w w1 from hb1.out); clear hD1 hb1 hz1 eD; have cK := cell_of (i := 0) (v := .int .i64 5) HD.out rfl)
    | ((with_reducible first | refine at_load_ ?_ | refine at_load2_ ?_); refine wpList_load_agg rfl 27 _ rfl D 0 rfl (dgr 5 nn ck nm sa da tg ep se sq pl th tr false false).cells (load_all HD.out) _ Tryz.underlying27 rfl (by kernel_rfl) ?_)
    | (go_at_call 42; (with_reducible refine (FC.out _).mono ?_); rintro e w2 ⟨rfl, hb2⟩; have n1_ := Aside0.mk ((hb2.block D (blk_lt HD.out)).trans HD.out); have n2_ := Aside0.mk (Below.trans (by first | exact HB.out | exact below_drew1 HB.out) (hb2.mono HB.out.size)); (try (have n3_ := Aside0.mk ((hb2.block g (blk_lt HGR.out)).trans HGR.out); clear HGR; have HGR := n3_; clear n3_)); clear HD HB hb2; have HD := n1_; have HB := n2_; clear n1_ n2_; (try clear cK); have cK := cell_of (i := 0) (v := .int .i64 5) HD.out rfl)
    | ((with_reducible first | refine at_load_ ?_ | refine at_load2_ ?_); refine wpList_load_one rfl 3 _ rfl D 0 rfl (dgr 5 nn ck nm sa da tg ep se sq pl th tr false false).cells _ _ HD.out _ rfl _ Tryz.underlying3 rfl ?_)
    | ((with_reducible first | refine at_bs_ ?_ | refine at_bs2_ ?_); refine wpList_buildSlice_v rfl 39 5 1 _ rfl Tryz.underlying39 [.int .u8 5] (by kernel_rfl) ?_; intro g w3 eg hg3 hb3' hz3; have hb3 := hb3'.out; have n1_ := Aside0.mk ((hb3.block D (blk_lt HD.out)).trans HD.out); have n2_ := Aside0.mk (Below.trans (by first | exact HB.out | exact below_drew1 HB.out) (hb3.mono HB.out.size)); (try (have n3_ := Aside0.mk ((hb3.block g (blk_lt HGR.out)).trans HGR.out); clear HGR; have HGR := n3_; clear n3_)); clear HD HB hb3; have HD := n1_; have HB := n2_; clear n1_ n2_; (try clear cK); have cK := cell_of (i := 0) (v := .int .i64 5) HD.out rfl; have HGR := Aside0.mk (show w3.heap[g]? = some (.cells [Value.int .u8 ((5 : UInt8).toNat : Int)].toArray 5 (0, 0)) from hg3.out); clear hg3 hb3' hz3 eg)
    | ((with_reducible first | refine at_conv_ ?_ | refine at_conv2_ ?_); refine wpList_string_of rfl _ _ 5 _ rfl (some ⟨g, 0, none⟩) 1 1 rfl [5] rfl (bytes_row1 (x := 5) HGR.out) Tryz.underlying39 (by kernel_rfl) Tryz.underlying5 ?_; clear HGR)
    | ((with_reducible first | refine at_add_ ?_ | refine at_add2_ ?_); refine wpList_cat rfl _ _ _ _ rfl _ _ rfl rfl (by simp only [List.length_append, List.length_cons, List.length_nil, List.length_replicate, len8_len]; have := HS.out; omega) ?_)
    | ((with_reducible first | refine at_load_ ?_ | refine at_load2_ ?_); refine wpList_load_one rfl 9 _ rfl D 14 rfl (dgr 5 nn ck nm sa da tg ep se sq pl th tr false false).cells _ _ HD.out _ rfl _ Tryz.underlying9 rfl ?_)
    | ((with_reducible first | refine at_load_ ?_ | refine at_load2_ ?_); refine wpList_load_one rfl 3 _ rfl D 9 rfl (dgr 5 nn ck nm sa da tg ep se sq pl th tr false false).cells _ _ HD.out _ rfl _ Tryz.underlying3 rfl ?_)
    | ((with_reducible first | refine at_load_ ?_ | refine at_load2_ ?_); refine wpList_load_one rfl 3 _ rfl D 10 rfl (dgr 5 nn ck nm sa da tg ep se sq pl th tr false false).cells _ _ HD.out _ rfl _ Tryz.underlying3 rfl ?_)
    | ((with_reducible first | refine at_load_ ?_ | refine at_load2_ ?_); refine wpList_load_one rfl 4 _ rfl D 11 rfl (dgr 5 nn ck nm sa da tg ep se sq pl th tr false false).cells _ _ HD.out _ rfl _ Tryz.underlying4 rfl ?_)
    | ((with_reducible first | refine at_load_ ?_ | refine at_load2_ ?_); refine wpList_load_one rfl 4 _ rfl D 12 rfl (dgr 5 nn ck nm sa da tg ep se sq pl th tr false false).cells _ _ HD.out _ rfl _ Tryz.underlying4 rfl ?_)
    | ((with_reducible first | refine at_bs_ ?_ | refine at_bs2_ ?_); refine wpList_buildSlice_v rfl 39 5 3 _ rfl Tryz.underlying39 [.int .u8 (IntKind.u8.wrap th), .int .u8 (IntKind.u8.wrap tr), .int .u8 0] (by kernel_rfl) ?_; intro g w3 eg hg3 hb3' hz3; have hb3 := hb3'.out; have n1_ := Aside0.mk ((hb3.block D (blk_lt HD.out)).trans HD.out); have n2_ := Aside0.mk (Below.trans (by first | exact HB.out | exact below_drew1 HB.out) (hb3.mono HB.out.size)); (try (have n3_ := Aside0.mk ((hb3.block g (blk_lt HGR.out)).trans HGR.out); clear HGR; have HGR := n3_; clear n3_)); clear HD HB hb3; have HD := n1_; have HB := n2_; clear n1_ n2_; (try clear cK); have cK := cell_of (i := 0) (v := .int .i64 5) HD.out rfl; have HGR := Aside0.mk (show w3.heap[g]? = some (.cells [Value.int .u8 ((u : UInt8).toNat : Int), Value.int .u8 ((v : UInt8).toNat : Int), Value.int .u8 ((0 : UInt8).toNat : Int)].toArray 5 (0, 0)) from by rw [← E3.out.1, ← E3.out.2.1, ← E3.out.2.2]; exact hg3.out); clear hg3 hb3' hz3 eg)
    | ((with_reducible first | refine at_conv_ ?_ | refine at_conv2_ ?_); refine wpList_string_of rfl _ _ 5 _ rfl (some ⟨g, 0, none⟩) 3 3 rfl [u, v, 0] rfl (bytes_row3 (x := u) (y := v) (z := 0) HGR.out) Tryz.underlying39 (by kernel_rfl) Tryz.underlying5 ?_; clear HGR))
  refine start_ (n := 10) (S := fun w' => w'.cell? ⟨D, 5, none⟩ = some (.int .u64 (se : Int)) ∧ w'.cell? ⟨D, 8, none⟩ = some (.int .u64 (sq : Int))) (ds := []) #[false, false, false, false, false, false, false, false, false, false] (by kernel_rfl) rfl rfl ⟨cell_of HD.out rfl, cell_of HD.out rfl⟩ (fun hHeld => ?_)
  refine with_tabW tab_f17_10 bits_f17_10 (fun HT_ HW_ => ?_)
  refine pure_ (i := 0) (N := some 34) (v := ?_) (a' := ?_) #[true, false, false, false, false, false, false, false, false, false] rfl rfl (any_of HT_.out (by kernel_rfl)) (fun _ _ _ h => h) (Or.inl ⟨by rfl, ?_⟩) ?_ ?_
  rotate_left
  · intro w'
    go_simp
    with_reducible rfl
  rotate_left
  · simp only [pS]
    rfl
  refine pure_ (i := 1) (N := some 35) (v := ?_) (a' := ?_) #[true, true, false, false, false, false, false, false, false, false] rfl rfl (any_of HT_.out (by kernel_rfl)) (fun _ _ _ h => h) (Or.inl ⟨by rfl, ?_⟩) ?_ ?_
  rotate_left
  · intro w'
    go_simp
    with_reducible rfl
  rotate_left
  · simp only [pS]
    rfl
  refine take_ (i := 2) (N := some 36) (v := ?_) (a' := ?_) #[true, true, true, false, false, false, false, false, false, false] rfl rfl (take_ofW HT_.out HW_.out (by kernel_rfl)) (fun _ _ _ h => h) (Or.inl ⟨by rfl, ?_⟩) hHeld ?_ ?_
  rotate_left
  · rintro w' ⟨s5, s8⟩
    go_simp
    with_reducible rfl
  rotate_left
  · simp only [pS]
    rfl
  refine pure_ (i := 5) (N := some 39) (v := ?_) (a' := ?_) #[true, true, true, false, false, true, false, false, false, false] rfl rfl (any_of HT_.out (by kernel_rfl)) (fun _ _ _ h => h) (Or.inl ⟨by rfl, ?_⟩) ?_ ?_
  rotate_left
  · intro w'
    go_simp
    with_reducible rfl
  rotate_left
  · simp only [pS]
    rfl
  refine take_ (i := 6) (N := some 40) (v := ?_) (a' := ?_) #[true, true, true, false, false, true, true, false, false, false] rfl rfl (take_ofW HT_.out HW_.out (by kernel_rfl)) (fun _ _ _ h => h) (Or.inl ⟨by rfl, ?_⟩) hHeld ?_ ?_
  rotate_left
  · rintro w' ⟨s5, s8⟩
    go_simp
    with_reducible rfl
  rotate_left
  · simp only [pS]
    rfl
  refine one_ (i := 3) (N := some 37) #[true, true, true, true, false, true, true, false, false, false] rfl rfl (one_of HT_.out (by kernel_rfl)) (by decide) (fun K hK => ?_)
  refine goes_ Tryz.func43 (by kernel_rfl) rfl #[.int .u64 ((se : Nat) : Int)] (by rfl) rfl rfl (by (try simp only [List.map_toArray, List.map_cons, List.map_nil]); first | done | rfl) ?_
  with_reducible refine (length_calls se HS.out.2.1 _).mono ?_
  rintro e w5 ⟨rfl, hb5⟩
  refine ⟨_, rfl, ?_⟩
  have n1_ := Aside0.mk ((hb5.block D (blk_lt HD.out)).trans HD.out); have n2_ := Aside0.mk (Below.trans (by first | exact HB.out | exact below_drew1 HB.out) (hb5.mono HB.out.size)); (try (have n3_ := Aside0.mk ((hb5.block g (blk_lt HGR.out)).trans HGR.out); clear HGR; have HGR := n3_; clear n3_)); clear HD HB hb5; have HD := n1_; have HB := n2_; clear n1_ n2_; (try clear cK); have cK := cell_of (i := 0) (v := .int .i64 5) HD.out rfl
  refine hK.out _ _ (⟨cell_of HD.out rfl, cell_of HD.out rfl⟩) (fun hHeld => ?_)
  clear hK K
  refine norm_ (a' := ?_) ?_ ?_
  rotate_left
  · show Act.put _ (some 37) _ = _
    simp only [pS]
    rfl
  refine pure_ (i := 4) (N := some 38) (a' := ?_) #[true, true, true, true, true, true, true, false, false, false] rfl rfl (any_of HT_.out (by kernel_rfl)) (fun _ _ _ h => h) (Or.inl ⟨by rfl, cat_yields _ _ _ _ (by rfl) _ _ (by rfl) (by rfl) (by simp only [List.length_append, List.length_cons, List.length_nil, List.length_replicate, len8_len]; have := HS.out; omega)⟩) ?_ ?_
  rotate_left
  · simp only [pS]
    rfl
  refine one_ (i := 7) (N := some 41) #[true, true, true, true, true, true, true, true, false, false] rfl rfl (one_of HT_.out (by kernel_rfl)) (by decide) (fun K hK => ?_)
  refine goes_ Tryz.func43 (by kernel_rfl) rfl #[.int .u64 ((sq : Nat) : Int)] (by rfl) rfl rfl (by (try simp only [List.map_toArray, List.map_cons, List.map_nil]); first | done | rfl) ?_
  with_reducible refine (length_calls sq HS.out.2.2 _).mono ?_
  rintro e w5 ⟨rfl, hb5⟩
  refine ⟨_, rfl, ?_⟩
  have n1_ := Aside0.mk ((hb5.block D (blk_lt HD.out)).trans HD.out); have n2_ := Aside0.mk (Below.trans (by first | exact HB.out | exact below_drew1 HB.out) (hb5.mono HB.out.size)); (try (have n3_ := Aside0.mk ((hb5.block g (blk_lt HGR.out)).trans HGR.out); clear HGR; have HGR := n3_; clear n3_)); clear HD HB hb5; have HD := n1_; have HB := n2_; clear n1_ n2_; (try clear cK); have cK := cell_of (i := 0) (v := .int .i64 5) HD.out rfl
  refine hK.out _ _ (⟨cell_of HD.out rfl, cell_of HD.out rfl⟩) (fun hHeld => ?_)
  clear hK K
  refine norm_ (a' := ?_) ?_ ?_
  rotate_left
  · show Act.put _ (some 41) _ = _
    simp only [pS]
    rfl
  refine pure_ (i := 8) (N := some 42) (a' := ?_) #[true, true, true, true, true, true, true, true, true, false] rfl rfl (any_of HT_.out (by kernel_rfl)) (fun _ _ _ h => h) (Or.inl ⟨by rfl, cat_yields _ _ _ _ (by rfl) _ _ (by rfl) (by rfl) (by simp only [List.length_append, List.length_cons, List.length_nil, List.length_replicate, len8_len]; have := HS.out; omega)⟩) ?_ ?_
  rotate_left
  · simp only [pS]
    rfl
  refine pure_ (i := 9) (N := some 5) (v := ?_) (a' := ?_) #[true, true, true, true, true, true, true, true, true, true] rfl rfl (any_of HT_.out (by kernel_rfl)) (fun _ _ _ h => h) (Or.inl ⟨by rfl, ?_⟩) ?_ ?_
  rotate_left
  · intro w'
    go_simp
    with_reducible rfl
  rotate_left
  · simp only [pS]
    rfl
  refine done_ (done_of HT_.out (by kernel_rfl)) ?_
  clear HT_ HW_ hHeld
  go_upto_region 30 with (first
    | ((with_reducible first | refine at_box_ ?_ | refine at_box2_ ?_); refine wpList_box_v rfl 27 _ rfl (dgr 5 nn ck nm sa da tg ep se sq pl th tr false false).cells rfl (by kernel_rfl) ?_; intro D w1 eD hD1 hb1 hz1; have HD := Aside0.mk (show w1.heap[D]? = some (.cells (dgr 5 nn ck nm sa da tg ep se sq pl th tr false false).cells.toArray 27 (0, 0)) from hD1.out); have HB := Aside0.mk (show Below w.heap.size w w1 from hb1.out); clear hD1 hb1 hz1 eD; have cK := cell_of (i := 0) (v := .int .i64 5) HD.out rfl)
    | ((with_reducible first | refine at_load_ ?_ | refine at_load2_ ?_); refine wpList_load_agg rfl 27 _ rfl D 0 rfl (dgr 5 nn ck nm sa da tg ep se sq pl th tr false false).cells (load_all HD.out) _ Tryz.underlying27 rfl (by kernel_rfl) ?_)
    | (go_at_call 42; (with_reducible refine (FC.out _).mono ?_); rintro e w2 ⟨rfl, hb2⟩; have n1_ := Aside0.mk ((hb2.block D (blk_lt HD.out)).trans HD.out); have n2_ := Aside0.mk (Below.trans (by first | exact HB.out | exact below_drew1 HB.out) (hb2.mono HB.out.size)); (try (have n3_ := Aside0.mk ((hb2.block g (blk_lt HGR.out)).trans HGR.out); clear HGR; have HGR := n3_; clear n3_)); clear HD HB hb2; have HD := n1_; have HB := n2_; clear n1_ n2_; (try clear cK); have cK := cell_of (i := 0) (v := .int .i64 5) HD.out rfl)
    | ((with_reducible first | refine at_load_ ?_ | refine at_load2_ ?_); refine wpList_load_one rfl 3 _ rfl D 0 rfl (dgr 5 nn ck nm sa da tg ep se sq pl th tr false false).cells _ _ HD.out _ rfl _ Tryz.underlying3 rfl ?_)
    | ((with_reducible first | refine at_bs_ ?_ | refine at_bs2_ ?_); refine wpList_buildSlice_v rfl 39 5 1 _ rfl Tryz.underlying39 [.int .u8 5] (by kernel_rfl) ?_; intro g w3 eg hg3 hb3' hz3; have hb3 := hb3'.out; have n1_ := Aside0.mk ((hb3.block D (blk_lt HD.out)).trans HD.out); have n2_ := Aside0.mk (Below.trans (by first | exact HB.out | exact below_drew1 HB.out) (hb3.mono HB.out.size)); (try (have n3_ := Aside0.mk ((hb3.block g (blk_lt HGR.out)).trans HGR.out); clear HGR; have HGR := n3_; clear n3_)); clear HD HB hb3; have HD := n1_; have HB := n2_; clear n1_ n2_; (try clear cK); have cK := cell_of (i := 0) (v := .int .i64 5) HD.out rfl; have HGR := Aside0.mk (show w3.heap[g]? = some (.cells [Value.int .u8 ((5 : UInt8).toNat : Int)].toArray 5 (0, 0)) from hg3.out); clear hg3 hb3' hz3 eg)
    | ((with_reducible first | refine at_conv_ ?_ | refine at_conv2_ ?_); refine wpList_string_of rfl _ _ 5 _ rfl (some ⟨g, 0, none⟩) 1 1 rfl [5] rfl (bytes_row1 (x := 5) HGR.out) Tryz.underlying39 (by kernel_rfl) Tryz.underlying5 ?_; clear HGR)
    | ((with_reducible first | refine at_add_ ?_ | refine at_add2_ ?_); refine wpList_cat rfl _ _ _ _ rfl _ _ rfl rfl (by simp only [List.length_append, List.length_cons, List.length_nil, List.length_replicate, len8_len]; have := HS.out; omega) ?_)
    | ((with_reducible first | refine at_load_ ?_ | refine at_load2_ ?_); refine wpList_load_one rfl 9 _ rfl D 14 rfl (dgr 5 nn ck nm sa da tg ep se sq pl th tr false false).cells _ _ HD.out _ rfl _ Tryz.underlying9 rfl ?_)
    | ((with_reducible first | refine at_load_ ?_ | refine at_load2_ ?_); refine wpList_load_one rfl 3 _ rfl D 9 rfl (dgr 5 nn ck nm sa da tg ep se sq pl th tr false false).cells _ _ HD.out _ rfl _ Tryz.underlying3 rfl ?_)
    | ((with_reducible first | refine at_load_ ?_ | refine at_load2_ ?_); refine wpList_load_one rfl 3 _ rfl D 10 rfl (dgr 5 nn ck nm sa da tg ep se sq pl th tr false false).cells _ _ HD.out _ rfl _ Tryz.underlying3 rfl ?_)
    | ((with_reducible first | refine at_load_ ?_ | refine at_load2_ ?_); refine wpList_load_one rfl 4 _ rfl D 11 rfl (dgr 5 nn ck nm sa da tg ep se sq pl th tr false false).cells _ _ HD.out _ rfl _ Tryz.underlying4 rfl ?_)
    | ((with_reducible first | refine at_load_ ?_ | refine at_load2_ ?_); refine wpList_load_one rfl 4 _ rfl D 12 rfl (dgr 5 nn ck nm sa da tg ep se sq pl th tr false false).cells _ _ HD.out _ rfl _ Tryz.underlying4 rfl ?_)
    | ((with_reducible first | refine at_bs_ ?_ | refine at_bs2_ ?_); refine wpList_buildSlice_v rfl 39 5 3 _ rfl Tryz.underlying39 [.int .u8 (IntKind.u8.wrap th), .int .u8 (IntKind.u8.wrap tr), .int .u8 0] (by kernel_rfl) ?_; intro g w3 eg hg3 hb3' hz3; have hb3 := hb3'.out; have n1_ := Aside0.mk ((hb3.block D (blk_lt HD.out)).trans HD.out); have n2_ := Aside0.mk (Below.trans (by first | exact HB.out | exact below_drew1 HB.out) (hb3.mono HB.out.size)); (try (have n3_ := Aside0.mk ((hb3.block g (blk_lt HGR.out)).trans HGR.out); clear HGR; have HGR := n3_; clear n3_)); clear HD HB hb3; have HD := n1_; have HB := n2_; clear n1_ n2_; (try clear cK); have cK := cell_of (i := 0) (v := .int .i64 5) HD.out rfl; have HGR := Aside0.mk (show w3.heap[g]? = some (.cells [Value.int .u8 ((u : UInt8).toNat : Int), Value.int .u8 ((v : UInt8).toNat : Int), Value.int .u8 ((0 : UInt8).toNat : Int)].toArray 5 (0, 0)) from by rw [← E3.out.1, ← E3.out.2.1, ← E3.out.2.2]; exact hg3.out); clear hg3 hb3' hz3 eg)
    | ((with_reducible first | refine at_conv_ ?_ | refine at_conv2_ ?_); refine wpList_string_of rfl _ _ 5 _ rfl (some ⟨g, 0, none⟩) 3 3 rfl [u, v, 0] rfl (bytes_row3 (x := u) (y := v) (z := 0) HGR.out) Tryz.underlying39 (by kernel_rfl) Tryz.underlying5 ?_; clear HGR))
  obtain ⟨T, eT⟩ : ∃ T, T = str (74 :: 48 :: 49 :: 5 :: (len8 se ++ (len8 sq ++ (u :: v :: 0 :: tg)))) := ⟨_, rfl⟩
  have hT : T.size ≤ 1200 := (by rw [eT, str_size]; exact (by simp only [List.length_append, List.length_cons, List.length_nil, List.length_replicate, len8_len]; have := HS.out; omega))
  have o1 : decide ((1200 : Int) < (T.size : Int)) = false := decide_eq_false (by omega)
  have o2 : ¬ ((1200 : Int) < (T.size : Int)) := (by omega)
  have o3 : ¬ (1200 < T.size) := (by omega)
  rw [← eT]
  have ET := Aside0.mk eT.symm
  clear eT hT
  go_wp2
  go_ret2
  refine ⟨?_, HB.out⟩
  rw [ET.out]
  rfl
set_option maxHeartbeats 8000000 in
set_option maxRecDepth 100000 in
theorem renc_5_01 (nn ck nm sa da tg : List UInt8) (ep se sq : Nat) (pl th tr : Int) (ht : tg.length = 32) (he : se < 18446744073709551616) (hq : sq < 18446744073709551616) (u v : UInt8) (e3 : IntKind.u8.wrap th = (u.toNat : Int) ∧ IntKind.u8.wrap tr = (v.toNat : Int) ∧ (2 : Int) = (((2 : UInt8)).toNat : Int)) (hf : ∀ w, Calls Tryz.prog 42 #[.agg (dgr 5 nn ck nm sa da tg ep se sq pl th tr false true).cells.toArray] w fun e w' => e = .returned (.bool true) ∧ Below w.heap.size w w') (w : World) :
    Calls Tryz.prog 17 #[.agg (dgr 5 nn ck nm sa da tg ep se sq pl th tr false true).cells.toArray] w fun e w' => e = .returned (.tuple #[.string (str ([74, 48, 49] ++ [5] ++ len8 se ++ len8 sq ++ [u, v, 2] ++ tg)), .int .i64 0]) ∧ Below w.heap.size w w' := by
  have HS := Aside0.mk (show tg.length = 32 ∧ se < 18446744073709551616 ∧ sq < 18446744073709551616 from ⟨ht, he, hq⟩)
  have FC := Aside0.mk hf
  clear hf
  have E3 := Aside0.mk e3
  clear ht he hq e3
  go_enter Tryz.func17, Tryz.ntmps17
  go_upto_region 10 with (first
    | ((with_reducible first | refine at_box_ ?_ | refine at_box2_ ?_); refine wpList_box_v rfl 27 _ rfl (dgr 5 nn ck nm sa da tg ep se sq pl th tr false true).cells rfl (by kernel_rfl) ?_; intro D w1 eD hD1 hb1 hz1; have HD := Aside0.mk (show w1.heap[D]? = some (.cells (dgr 5 nn ck nm sa da tg ep se sq pl th tr false true).cells.toArray 27 (0, 0)) from hD1.out); have HB := Aside0.mk (show Below w.heap.size w w1 from hb1.out); clear hD1 hb1 hz1 eD; have cK := cell_of (i := 0) (v := .int .i64 5) HD.out rfl)
    | ((with_reducible first | refine at_load_ ?_ | refine at_load2_ ?_); refine wpList_load_agg rfl 27 _ rfl D 0 rfl (dgr 5 nn ck nm sa da tg ep se sq pl th tr false true).cells (load_all HD.out) _ Tryz.underlying27 rfl (by kernel_rfl) ?_)
    | (go_at_call 42; (with_reducible refine (FC.out _).mono ?_); rintro e w2 ⟨rfl, hb2⟩; have n1_ := Aside0.mk ((hb2.block D (blk_lt HD.out)).trans HD.out); have n2_ := Aside0.mk (Below.trans (by first | exact HB.out | exact below_drew1 HB.out) (hb2.mono HB.out.size)); (try (have n3_ := Aside0.mk ((hb2.block g (blk_lt HGR.out)).trans HGR.out); clear HGR; have HGR := n3_; clear n3_)); clear HD HB hb2; have HD := n1_; have HB := n2_; clear n1_ n2_; (try clear cK); have cK := cell_of (i := 0) (v := .int .i64 5) HD.out rfl)
    | ((with_reducible first | refine at_load_ ?_ | refine at_load2_ ?_); refine wpList_load_one rfl 3 _ rfl D 0 rfl (dgr 5 nn ck nm sa da tg ep se sq pl th tr false true).cells _ _ HD.out _ rfl _ Tryz.underlying3 rfl ?_)
    | ((with_reducible first | refine at_bs_ ?_ | refine at_bs2_ ?_); refine wpList_buildSlice_v rfl 39 5 1 _ rfl Tryz.underlying39 [.int .u8 5] (by kernel_rfl) ?_; intro g w3 eg hg3 hb3' hz3; have hb3 := hb3'.out; have n1_ := Aside0.mk ((hb3.block D (blk_lt HD.out)).trans HD.out); have n2_ := Aside0.mk (Below.trans (by first | exact HB.out | exact below_drew1 HB.out) (hb3.mono HB.out.size)); (try (have n3_ := Aside0.mk ((hb3.block g (blk_lt HGR.out)).trans HGR.out); clear HGR; have HGR := n3_; clear n3_)); clear HD HB hb3; have HD := n1_; have HB := n2_; clear n1_ n2_; (try clear cK); have cK := cell_of (i := 0) (v := .int .i64 5) HD.out rfl; have HGR := Aside0.mk (show w3.heap[g]? = some (.cells [Value.int .u8 ((5 : UInt8).toNat : Int)].toArray 5 (0, 0)) from hg3.out); clear hg3 hb3' hz3 eg)
    | ((with_reducible first | refine at_conv_ ?_ | refine at_conv2_ ?_); refine wpList_string_of rfl _ _ 5 _ rfl (some ⟨g, 0, none⟩) 1 1 rfl [5] rfl (bytes_row1 (x := 5) HGR.out) Tryz.underlying39 (by kernel_rfl) Tryz.underlying5 ?_; clear HGR)
    | ((with_reducible first | refine at_add_ ?_ | refine at_add2_ ?_); refine wpList_cat rfl _ _ _ _ rfl _ _ rfl rfl (by simp only [List.length_append, List.length_cons, List.length_nil, List.length_replicate, len8_len]; have := HS.out; omega) ?_)
    | ((with_reducible first | refine at_load_ ?_ | refine at_load2_ ?_); refine wpList_load_one rfl 9 _ rfl D 14 rfl (dgr 5 nn ck nm sa da tg ep se sq pl th tr false true).cells _ _ HD.out _ rfl _ Tryz.underlying9 rfl ?_)
    | ((with_reducible first | refine at_load_ ?_ | refine at_load2_ ?_); refine wpList_load_one rfl 3 _ rfl D 9 rfl (dgr 5 nn ck nm sa da tg ep se sq pl th tr false true).cells _ _ HD.out _ rfl _ Tryz.underlying3 rfl ?_)
    | ((with_reducible first | refine at_load_ ?_ | refine at_load2_ ?_); refine wpList_load_one rfl 3 _ rfl D 10 rfl (dgr 5 nn ck nm sa da tg ep se sq pl th tr false true).cells _ _ HD.out _ rfl _ Tryz.underlying3 rfl ?_)
    | ((with_reducible first | refine at_load_ ?_ | refine at_load2_ ?_); refine wpList_load_one rfl 4 _ rfl D 11 rfl (dgr 5 nn ck nm sa da tg ep se sq pl th tr false true).cells _ _ HD.out _ rfl _ Tryz.underlying4 rfl ?_)
    | ((with_reducible first | refine at_load_ ?_ | refine at_load2_ ?_); refine wpList_load_one rfl 4 _ rfl D 12 rfl (dgr 5 nn ck nm sa da tg ep se sq pl th tr false true).cells _ _ HD.out _ rfl _ Tryz.underlying4 rfl ?_)
    | ((with_reducible first | refine at_bs_ ?_ | refine at_bs2_ ?_); refine wpList_buildSlice_v rfl 39 5 3 _ rfl Tryz.underlying39 [.int .u8 (IntKind.u8.wrap th), .int .u8 (IntKind.u8.wrap tr), .int .u8 2] (by kernel_rfl) ?_; intro g w3 eg hg3 hb3' hz3; have hb3 := hb3'.out; have n1_ := Aside0.mk ((hb3.block D (blk_lt HD.out)).trans HD.out); have n2_ := Aside0.mk (Below.trans (by first | exact HB.out | exact below_drew1 HB.out) (hb3.mono HB.out.size)); (try (have n3_ := Aside0.mk ((hb3.block g (blk_lt HGR.out)).trans HGR.out); clear HGR; have HGR := n3_; clear n3_)); clear HD HB hb3; have HD := n1_; have HB := n2_; clear n1_ n2_; (try clear cK); have cK := cell_of (i := 0) (v := .int .i64 5) HD.out rfl; have HGR := Aside0.mk (show w3.heap[g]? = some (.cells [Value.int .u8 ((u : UInt8).toNat : Int), Value.int .u8 ((v : UInt8).toNat : Int), Value.int .u8 ((2 : UInt8).toNat : Int)].toArray 5 (0, 0)) from by rw [← E3.out.1, ← E3.out.2.1, ← E3.out.2.2]; exact hg3.out); clear hg3 hb3' hz3 eg)
    | ((with_reducible first | refine at_conv_ ?_ | refine at_conv2_ ?_); refine wpList_string_of rfl _ _ 5 _ rfl (some ⟨g, 0, none⟩) 3 3 rfl [u, v, 2] rfl (bytes_row3 (x := u) (y := v) (z := 2) HGR.out) Tryz.underlying39 (by kernel_rfl) Tryz.underlying5 ?_; clear HGR))
  refine start_ (n := 10) (S := fun w' => w'.cell? ⟨D, 5, none⟩ = some (.int .u64 (se : Int)) ∧ w'.cell? ⟨D, 8, none⟩ = some (.int .u64 (sq : Int))) (ds := []) #[false, false, false, false, false, false, false, false, false, false] (by kernel_rfl) rfl rfl ⟨cell_of HD.out rfl, cell_of HD.out rfl⟩ (fun hHeld => ?_)
  refine with_tabW tab_f17_10 bits_f17_10 (fun HT_ HW_ => ?_)
  refine pure_ (i := 0) (N := some 34) (v := ?_) (a' := ?_) #[true, false, false, false, false, false, false, false, false, false] rfl rfl (any_of HT_.out (by kernel_rfl)) (fun _ _ _ h => h) (Or.inl ⟨by rfl, ?_⟩) ?_ ?_
  rotate_left
  · intro w'
    go_simp
    with_reducible rfl
  rotate_left
  · simp only [pS]
    rfl
  refine pure_ (i := 1) (N := some 35) (v := ?_) (a' := ?_) #[true, true, false, false, false, false, false, false, false, false] rfl rfl (any_of HT_.out (by kernel_rfl)) (fun _ _ _ h => h) (Or.inl ⟨by rfl, ?_⟩) ?_ ?_
  rotate_left
  · intro w'
    go_simp
    with_reducible rfl
  rotate_left
  · simp only [pS]
    rfl
  refine take_ (i := 2) (N := some 36) (v := ?_) (a' := ?_) #[true, true, true, false, false, false, false, false, false, false] rfl rfl (take_ofW HT_.out HW_.out (by kernel_rfl)) (fun _ _ _ h => h) (Or.inl ⟨by rfl, ?_⟩) hHeld ?_ ?_
  rotate_left
  · rintro w' ⟨s5, s8⟩
    go_simp
    with_reducible rfl
  rotate_left
  · simp only [pS]
    rfl
  refine pure_ (i := 5) (N := some 39) (v := ?_) (a' := ?_) #[true, true, true, false, false, true, false, false, false, false] rfl rfl (any_of HT_.out (by kernel_rfl)) (fun _ _ _ h => h) (Or.inl ⟨by rfl, ?_⟩) ?_ ?_
  rotate_left
  · intro w'
    go_simp
    with_reducible rfl
  rotate_left
  · simp only [pS]
    rfl
  refine take_ (i := 6) (N := some 40) (v := ?_) (a' := ?_) #[true, true, true, false, false, true, true, false, false, false] rfl rfl (take_ofW HT_.out HW_.out (by kernel_rfl)) (fun _ _ _ h => h) (Or.inl ⟨by rfl, ?_⟩) hHeld ?_ ?_
  rotate_left
  · rintro w' ⟨s5, s8⟩
    go_simp
    with_reducible rfl
  rotate_left
  · simp only [pS]
    rfl
  refine one_ (i := 3) (N := some 37) #[true, true, true, true, false, true, true, false, false, false] rfl rfl (one_of HT_.out (by kernel_rfl)) (by decide) (fun K hK => ?_)
  refine goes_ Tryz.func43 (by kernel_rfl) rfl #[.int .u64 ((se : Nat) : Int)] (by rfl) rfl rfl (by (try simp only [List.map_toArray, List.map_cons, List.map_nil]); first | done | rfl) ?_
  with_reducible refine (length_calls se HS.out.2.1 _).mono ?_
  rintro e w5 ⟨rfl, hb5⟩
  refine ⟨_, rfl, ?_⟩
  have n1_ := Aside0.mk ((hb5.block D (blk_lt HD.out)).trans HD.out); have n2_ := Aside0.mk (Below.trans (by first | exact HB.out | exact below_drew1 HB.out) (hb5.mono HB.out.size)); (try (have n3_ := Aside0.mk ((hb5.block g (blk_lt HGR.out)).trans HGR.out); clear HGR; have HGR := n3_; clear n3_)); clear HD HB hb5; have HD := n1_; have HB := n2_; clear n1_ n2_; (try clear cK); have cK := cell_of (i := 0) (v := .int .i64 5) HD.out rfl
  refine hK.out _ _ (⟨cell_of HD.out rfl, cell_of HD.out rfl⟩) (fun hHeld => ?_)
  clear hK K
  refine norm_ (a' := ?_) ?_ ?_
  rotate_left
  · show Act.put _ (some 37) _ = _
    simp only [pS]
    rfl
  refine pure_ (i := 4) (N := some 38) (a' := ?_) #[true, true, true, true, true, true, true, false, false, false] rfl rfl (any_of HT_.out (by kernel_rfl)) (fun _ _ _ h => h) (Or.inl ⟨by rfl, cat_yields _ _ _ _ (by rfl) _ _ (by rfl) (by rfl) (by simp only [List.length_append, List.length_cons, List.length_nil, List.length_replicate, len8_len]; have := HS.out; omega)⟩) ?_ ?_
  rotate_left
  · simp only [pS]
    rfl
  refine one_ (i := 7) (N := some 41) #[true, true, true, true, true, true, true, true, false, false] rfl rfl (one_of HT_.out (by kernel_rfl)) (by decide) (fun K hK => ?_)
  refine goes_ Tryz.func43 (by kernel_rfl) rfl #[.int .u64 ((sq : Nat) : Int)] (by rfl) rfl rfl (by (try simp only [List.map_toArray, List.map_cons, List.map_nil]); first | done | rfl) ?_
  with_reducible refine (length_calls sq HS.out.2.2 _).mono ?_
  rintro e w5 ⟨rfl, hb5⟩
  refine ⟨_, rfl, ?_⟩
  have n1_ := Aside0.mk ((hb5.block D (blk_lt HD.out)).trans HD.out); have n2_ := Aside0.mk (Below.trans (by first | exact HB.out | exact below_drew1 HB.out) (hb5.mono HB.out.size)); (try (have n3_ := Aside0.mk ((hb5.block g (blk_lt HGR.out)).trans HGR.out); clear HGR; have HGR := n3_; clear n3_)); clear HD HB hb5; have HD := n1_; have HB := n2_; clear n1_ n2_; (try clear cK); have cK := cell_of (i := 0) (v := .int .i64 5) HD.out rfl
  refine hK.out _ _ (⟨cell_of HD.out rfl, cell_of HD.out rfl⟩) (fun hHeld => ?_)
  clear hK K
  refine norm_ (a' := ?_) ?_ ?_
  rotate_left
  · show Act.put _ (some 41) _ = _
    simp only [pS]
    rfl
  refine pure_ (i := 8) (N := some 42) (a' := ?_) #[true, true, true, true, true, true, true, true, true, false] rfl rfl (any_of HT_.out (by kernel_rfl)) (fun _ _ _ h => h) (Or.inl ⟨by rfl, cat_yields _ _ _ _ (by rfl) _ _ (by rfl) (by rfl) (by simp only [List.length_append, List.length_cons, List.length_nil, List.length_replicate, len8_len]; have := HS.out; omega)⟩) ?_ ?_
  rotate_left
  · simp only [pS]
    rfl
  refine pure_ (i := 9) (N := some 5) (v := ?_) (a' := ?_) #[true, true, true, true, true, true, true, true, true, true] rfl rfl (any_of HT_.out (by kernel_rfl)) (fun _ _ _ h => h) (Or.inl ⟨by rfl, ?_⟩) ?_ ?_
  rotate_left
  · intro w'
    go_simp
    with_reducible rfl
  rotate_left
  · simp only [pS]
    rfl
  refine done_ (done_of HT_.out (by kernel_rfl)) ?_
  clear HT_ HW_ hHeld
  go_upto_region 30 with (first
    | ((with_reducible first | refine at_box_ ?_ | refine at_box2_ ?_); refine wpList_box_v rfl 27 _ rfl (dgr 5 nn ck nm sa da tg ep se sq pl th tr false true).cells rfl (by kernel_rfl) ?_; intro D w1 eD hD1 hb1 hz1; have HD := Aside0.mk (show w1.heap[D]? = some (.cells (dgr 5 nn ck nm sa da tg ep se sq pl th tr false true).cells.toArray 27 (0, 0)) from hD1.out); have HB := Aside0.mk (show Below w.heap.size w w1 from hb1.out); clear hD1 hb1 hz1 eD; have cK := cell_of (i := 0) (v := .int .i64 5) HD.out rfl)
    | ((with_reducible first | refine at_load_ ?_ | refine at_load2_ ?_); refine wpList_load_agg rfl 27 _ rfl D 0 rfl (dgr 5 nn ck nm sa da tg ep se sq pl th tr false true).cells (load_all HD.out) _ Tryz.underlying27 rfl (by kernel_rfl) ?_)
    | (go_at_call 42; (with_reducible refine (FC.out _).mono ?_); rintro e w2 ⟨rfl, hb2⟩; have n1_ := Aside0.mk ((hb2.block D (blk_lt HD.out)).trans HD.out); have n2_ := Aside0.mk (Below.trans (by first | exact HB.out | exact below_drew1 HB.out) (hb2.mono HB.out.size)); (try (have n3_ := Aside0.mk ((hb2.block g (blk_lt HGR.out)).trans HGR.out); clear HGR; have HGR := n3_; clear n3_)); clear HD HB hb2; have HD := n1_; have HB := n2_; clear n1_ n2_; (try clear cK); have cK := cell_of (i := 0) (v := .int .i64 5) HD.out rfl)
    | ((with_reducible first | refine at_load_ ?_ | refine at_load2_ ?_); refine wpList_load_one rfl 3 _ rfl D 0 rfl (dgr 5 nn ck nm sa da tg ep se sq pl th tr false true).cells _ _ HD.out _ rfl _ Tryz.underlying3 rfl ?_)
    | ((with_reducible first | refine at_bs_ ?_ | refine at_bs2_ ?_); refine wpList_buildSlice_v rfl 39 5 1 _ rfl Tryz.underlying39 [.int .u8 5] (by kernel_rfl) ?_; intro g w3 eg hg3 hb3' hz3; have hb3 := hb3'.out; have n1_ := Aside0.mk ((hb3.block D (blk_lt HD.out)).trans HD.out); have n2_ := Aside0.mk (Below.trans (by first | exact HB.out | exact below_drew1 HB.out) (hb3.mono HB.out.size)); (try (have n3_ := Aside0.mk ((hb3.block g (blk_lt HGR.out)).trans HGR.out); clear HGR; have HGR := n3_; clear n3_)); clear HD HB hb3; have HD := n1_; have HB := n2_; clear n1_ n2_; (try clear cK); have cK := cell_of (i := 0) (v := .int .i64 5) HD.out rfl; have HGR := Aside0.mk (show w3.heap[g]? = some (.cells [Value.int .u8 ((5 : UInt8).toNat : Int)].toArray 5 (0, 0)) from hg3.out); clear hg3 hb3' hz3 eg)
    | ((with_reducible first | refine at_conv_ ?_ | refine at_conv2_ ?_); refine wpList_string_of rfl _ _ 5 _ rfl (some ⟨g, 0, none⟩) 1 1 rfl [5] rfl (bytes_row1 (x := 5) HGR.out) Tryz.underlying39 (by kernel_rfl) Tryz.underlying5 ?_; clear HGR)
    | ((with_reducible first | refine at_add_ ?_ | refine at_add2_ ?_); refine wpList_cat rfl _ _ _ _ rfl _ _ rfl rfl (by simp only [List.length_append, List.length_cons, List.length_nil, List.length_replicate, len8_len]; have := HS.out; omega) ?_)
    | ((with_reducible first | refine at_load_ ?_ | refine at_load2_ ?_); refine wpList_load_one rfl 9 _ rfl D 14 rfl (dgr 5 nn ck nm sa da tg ep se sq pl th tr false true).cells _ _ HD.out _ rfl _ Tryz.underlying9 rfl ?_)
    | ((with_reducible first | refine at_load_ ?_ | refine at_load2_ ?_); refine wpList_load_one rfl 3 _ rfl D 9 rfl (dgr 5 nn ck nm sa da tg ep se sq pl th tr false true).cells _ _ HD.out _ rfl _ Tryz.underlying3 rfl ?_)
    | ((with_reducible first | refine at_load_ ?_ | refine at_load2_ ?_); refine wpList_load_one rfl 3 _ rfl D 10 rfl (dgr 5 nn ck nm sa da tg ep se sq pl th tr false true).cells _ _ HD.out _ rfl _ Tryz.underlying3 rfl ?_)
    | ((with_reducible first | refine at_load_ ?_ | refine at_load2_ ?_); refine wpList_load_one rfl 4 _ rfl D 11 rfl (dgr 5 nn ck nm sa da tg ep se sq pl th tr false true).cells _ _ HD.out _ rfl _ Tryz.underlying4 rfl ?_)
    | ((with_reducible first | refine at_load_ ?_ | refine at_load2_ ?_); refine wpList_load_one rfl 4 _ rfl D 12 rfl (dgr 5 nn ck nm sa da tg ep se sq pl th tr false true).cells _ _ HD.out _ rfl _ Tryz.underlying4 rfl ?_)
    | ((with_reducible first | refine at_bs_ ?_ | refine at_bs2_ ?_); refine wpList_buildSlice_v rfl 39 5 3 _ rfl Tryz.underlying39 [.int .u8 (IntKind.u8.wrap th), .int .u8 (IntKind.u8.wrap tr), .int .u8 2] (by kernel_rfl) ?_; intro g w3 eg hg3 hb3' hz3; have hb3 := hb3'.out; have n1_ := Aside0.mk ((hb3.block D (blk_lt HD.out)).trans HD.out); have n2_ := Aside0.mk (Below.trans (by first | exact HB.out | exact below_drew1 HB.out) (hb3.mono HB.out.size)); (try (have n3_ := Aside0.mk ((hb3.block g (blk_lt HGR.out)).trans HGR.out); clear HGR; have HGR := n3_; clear n3_)); clear HD HB hb3; have HD := n1_; have HB := n2_; clear n1_ n2_; (try clear cK); have cK := cell_of (i := 0) (v := .int .i64 5) HD.out rfl; have HGR := Aside0.mk (show w3.heap[g]? = some (.cells [Value.int .u8 ((u : UInt8).toNat : Int), Value.int .u8 ((v : UInt8).toNat : Int), Value.int .u8 ((2 : UInt8).toNat : Int)].toArray 5 (0, 0)) from by rw [← E3.out.1, ← E3.out.2.1, ← E3.out.2.2]; exact hg3.out); clear hg3 hb3' hz3 eg)
    | ((with_reducible first | refine at_conv_ ?_ | refine at_conv2_ ?_); refine wpList_string_of rfl _ _ 5 _ rfl (some ⟨g, 0, none⟩) 3 3 rfl [u, v, 2] rfl (bytes_row3 (x := u) (y := v) (z := 2) HGR.out) Tryz.underlying39 (by kernel_rfl) Tryz.underlying5 ?_; clear HGR))
  obtain ⟨T, eT⟩ : ∃ T, T = str (74 :: 48 :: 49 :: 5 :: (len8 se ++ (len8 sq ++ (u :: v :: 2 :: tg)))) := ⟨_, rfl⟩
  have hT : T.size ≤ 1200 := (by rw [eT, str_size]; exact (by simp only [List.length_append, List.length_cons, List.length_nil, List.length_replicate, len8_len]; have := HS.out; omega))
  have o1 : decide ((1200 : Int) < (T.size : Int)) = false := decide_eq_false (by omega)
  have o2 : ¬ ((1200 : Int) < (T.size : Int)) := (by omega)
  have o3 : ¬ (1200 < T.size) := (by omega)
  rw [← eT]
  have ET := Aside0.mk eT.symm
  clear eT hT
  go_wp2
  go_ret2
  refine ⟨?_, HB.out⟩
  rw [ET.out]
  rfl
set_option maxHeartbeats 8000000 in
set_option maxRecDepth 100000 in
theorem renc_5_10 (nn ck nm sa da tg : List UInt8) (ep se sq : Nat) (pl th tr : Int) (ht : tg.length = 32) (he : se < 18446744073709551616) (hq : sq < 18446744073709551616) (u v : UInt8) (e3 : IntKind.u8.wrap th = (u.toNat : Int) ∧ IntKind.u8.wrap tr = (v.toNat : Int) ∧ (1 : Int) = (((1 : UInt8)).toNat : Int)) (hf : ∀ w, Calls Tryz.prog 42 #[.agg (dgr 5 nn ck nm sa da tg ep se sq pl th tr true false).cells.toArray] w fun e w' => e = .returned (.bool true) ∧ Below w.heap.size w w') (w : World) :
    Calls Tryz.prog 17 #[.agg (dgr 5 nn ck nm sa da tg ep se sq pl th tr true false).cells.toArray] w fun e w' => e = .returned (.tuple #[.string (str ([74, 48, 49] ++ [5] ++ len8 se ++ len8 sq ++ [u, v, 1] ++ tg)), .int .i64 0]) ∧ Below w.heap.size w w' := by
  have HS := Aside0.mk (show tg.length = 32 ∧ se < 18446744073709551616 ∧ sq < 18446744073709551616 from ⟨ht, he, hq⟩)
  have FC := Aside0.mk hf
  clear hf
  have E3 := Aside0.mk e3
  clear ht he hq e3
  go_enter Tryz.func17, Tryz.ntmps17
  go_upto_region 10 with (first
    | ((with_reducible first | refine at_box_ ?_ | refine at_box2_ ?_); refine wpList_box_v rfl 27 _ rfl (dgr 5 nn ck nm sa da tg ep se sq pl th tr true false).cells rfl (by kernel_rfl) ?_; intro D w1 eD hD1 hb1 hz1; have HD := Aside0.mk (show w1.heap[D]? = some (.cells (dgr 5 nn ck nm sa da tg ep se sq pl th tr true false).cells.toArray 27 (0, 0)) from hD1.out); have HB := Aside0.mk (show Below w.heap.size w w1 from hb1.out); clear hD1 hb1 hz1 eD; have cK := cell_of (i := 0) (v := .int .i64 5) HD.out rfl)
    | ((with_reducible first | refine at_load_ ?_ | refine at_load2_ ?_); refine wpList_load_agg rfl 27 _ rfl D 0 rfl (dgr 5 nn ck nm sa da tg ep se sq pl th tr true false).cells (load_all HD.out) _ Tryz.underlying27 rfl (by kernel_rfl) ?_)
    | (go_at_call 42; (with_reducible refine (FC.out _).mono ?_); rintro e w2 ⟨rfl, hb2⟩; have n1_ := Aside0.mk ((hb2.block D (blk_lt HD.out)).trans HD.out); have n2_ := Aside0.mk (Below.trans (by first | exact HB.out | exact below_drew1 HB.out) (hb2.mono HB.out.size)); (try (have n3_ := Aside0.mk ((hb2.block g (blk_lt HGR.out)).trans HGR.out); clear HGR; have HGR := n3_; clear n3_)); clear HD HB hb2; have HD := n1_; have HB := n2_; clear n1_ n2_; (try clear cK); have cK := cell_of (i := 0) (v := .int .i64 5) HD.out rfl)
    | ((with_reducible first | refine at_load_ ?_ | refine at_load2_ ?_); refine wpList_load_one rfl 3 _ rfl D 0 rfl (dgr 5 nn ck nm sa da tg ep se sq pl th tr true false).cells _ _ HD.out _ rfl _ Tryz.underlying3 rfl ?_)
    | ((with_reducible first | refine at_bs_ ?_ | refine at_bs2_ ?_); refine wpList_buildSlice_v rfl 39 5 1 _ rfl Tryz.underlying39 [.int .u8 5] (by kernel_rfl) ?_; intro g w3 eg hg3 hb3' hz3; have hb3 := hb3'.out; have n1_ := Aside0.mk ((hb3.block D (blk_lt HD.out)).trans HD.out); have n2_ := Aside0.mk (Below.trans (by first | exact HB.out | exact below_drew1 HB.out) (hb3.mono HB.out.size)); (try (have n3_ := Aside0.mk ((hb3.block g (blk_lt HGR.out)).trans HGR.out); clear HGR; have HGR := n3_; clear n3_)); clear HD HB hb3; have HD := n1_; have HB := n2_; clear n1_ n2_; (try clear cK); have cK := cell_of (i := 0) (v := .int .i64 5) HD.out rfl; have HGR := Aside0.mk (show w3.heap[g]? = some (.cells [Value.int .u8 ((5 : UInt8).toNat : Int)].toArray 5 (0, 0)) from hg3.out); clear hg3 hb3' hz3 eg)
    | ((with_reducible first | refine at_conv_ ?_ | refine at_conv2_ ?_); refine wpList_string_of rfl _ _ 5 _ rfl (some ⟨g, 0, none⟩) 1 1 rfl [5] rfl (bytes_row1 (x := 5) HGR.out) Tryz.underlying39 (by kernel_rfl) Tryz.underlying5 ?_; clear HGR)
    | ((with_reducible first | refine at_add_ ?_ | refine at_add2_ ?_); refine wpList_cat rfl _ _ _ _ rfl _ _ rfl rfl (by simp only [List.length_append, List.length_cons, List.length_nil, List.length_replicate, len8_len]; have := HS.out; omega) ?_)
    | ((with_reducible first | refine at_load_ ?_ | refine at_load2_ ?_); refine wpList_load_one rfl 9 _ rfl D 14 rfl (dgr 5 nn ck nm sa da tg ep se sq pl th tr true false).cells _ _ HD.out _ rfl _ Tryz.underlying9 rfl ?_)
    | ((with_reducible first | refine at_load_ ?_ | refine at_load2_ ?_); refine wpList_load_one rfl 3 _ rfl D 9 rfl (dgr 5 nn ck nm sa da tg ep se sq pl th tr true false).cells _ _ HD.out _ rfl _ Tryz.underlying3 rfl ?_)
    | ((with_reducible first | refine at_load_ ?_ | refine at_load2_ ?_); refine wpList_load_one rfl 3 _ rfl D 10 rfl (dgr 5 nn ck nm sa da tg ep se sq pl th tr true false).cells _ _ HD.out _ rfl _ Tryz.underlying3 rfl ?_)
    | ((with_reducible first | refine at_load_ ?_ | refine at_load2_ ?_); refine wpList_load_one rfl 4 _ rfl D 11 rfl (dgr 5 nn ck nm sa da tg ep se sq pl th tr true false).cells _ _ HD.out _ rfl _ Tryz.underlying4 rfl ?_)
    | ((with_reducible first | refine at_load_ ?_ | refine at_load2_ ?_); refine wpList_load_one rfl 4 _ rfl D 12 rfl (dgr 5 nn ck nm sa da tg ep se sq pl th tr true false).cells _ _ HD.out _ rfl _ Tryz.underlying4 rfl ?_)
    | ((with_reducible first | refine at_bs_ ?_ | refine at_bs2_ ?_); refine wpList_buildSlice_v rfl 39 5 3 _ rfl Tryz.underlying39 [.int .u8 (IntKind.u8.wrap th), .int .u8 (IntKind.u8.wrap tr), .int .u8 1] (by kernel_rfl) ?_; intro g w3 eg hg3 hb3' hz3; have hb3 := hb3'.out; have n1_ := Aside0.mk ((hb3.block D (blk_lt HD.out)).trans HD.out); have n2_ := Aside0.mk (Below.trans (by first | exact HB.out | exact below_drew1 HB.out) (hb3.mono HB.out.size)); (try (have n3_ := Aside0.mk ((hb3.block g (blk_lt HGR.out)).trans HGR.out); clear HGR; have HGR := n3_; clear n3_)); clear HD HB hb3; have HD := n1_; have HB := n2_; clear n1_ n2_; (try clear cK); have cK := cell_of (i := 0) (v := .int .i64 5) HD.out rfl; have HGR := Aside0.mk (show w3.heap[g]? = some (.cells [Value.int .u8 ((u : UInt8).toNat : Int), Value.int .u8 ((v : UInt8).toNat : Int), Value.int .u8 ((1 : UInt8).toNat : Int)].toArray 5 (0, 0)) from by rw [← E3.out.1, ← E3.out.2.1, ← E3.out.2.2]; exact hg3.out); clear hg3 hb3' hz3 eg)
    | ((with_reducible first | refine at_conv_ ?_ | refine at_conv2_ ?_); refine wpList_string_of rfl _ _ 5 _ rfl (some ⟨g, 0, none⟩) 3 3 rfl [u, v, 1] rfl (bytes_row3 (x := u) (y := v) (z := 1) HGR.out) Tryz.underlying39 (by kernel_rfl) Tryz.underlying5 ?_; clear HGR))
  refine start_ (n := 10) (S := fun w' => w'.cell? ⟨D, 5, none⟩ = some (.int .u64 (se : Int)) ∧ w'.cell? ⟨D, 8, none⟩ = some (.int .u64 (sq : Int))) (ds := []) #[false, false, false, false, false, false, false, false, false, false] (by kernel_rfl) rfl rfl ⟨cell_of HD.out rfl, cell_of HD.out rfl⟩ (fun hHeld => ?_)
  refine with_tabW tab_f17_10 bits_f17_10 (fun HT_ HW_ => ?_)
  refine pure_ (i := 0) (N := some 34) (v := ?_) (a' := ?_) #[true, false, false, false, false, false, false, false, false, false] rfl rfl (any_of HT_.out (by kernel_rfl)) (fun _ _ _ h => h) (Or.inl ⟨by rfl, ?_⟩) ?_ ?_
  rotate_left
  · intro w'
    go_simp
    with_reducible rfl
  rotate_left
  · simp only [pS]
    rfl
  refine pure_ (i := 1) (N := some 35) (v := ?_) (a' := ?_) #[true, true, false, false, false, false, false, false, false, false] rfl rfl (any_of HT_.out (by kernel_rfl)) (fun _ _ _ h => h) (Or.inl ⟨by rfl, ?_⟩) ?_ ?_
  rotate_left
  · intro w'
    go_simp
    with_reducible rfl
  rotate_left
  · simp only [pS]
    rfl
  refine take_ (i := 2) (N := some 36) (v := ?_) (a' := ?_) #[true, true, true, false, false, false, false, false, false, false] rfl rfl (take_ofW HT_.out HW_.out (by kernel_rfl)) (fun _ _ _ h => h) (Or.inl ⟨by rfl, ?_⟩) hHeld ?_ ?_
  rotate_left
  · rintro w' ⟨s5, s8⟩
    go_simp
    with_reducible rfl
  rotate_left
  · simp only [pS]
    rfl
  refine pure_ (i := 5) (N := some 39) (v := ?_) (a' := ?_) #[true, true, true, false, false, true, false, false, false, false] rfl rfl (any_of HT_.out (by kernel_rfl)) (fun _ _ _ h => h) (Or.inl ⟨by rfl, ?_⟩) ?_ ?_
  rotate_left
  · intro w'
    go_simp
    with_reducible rfl
  rotate_left
  · simp only [pS]
    rfl
  refine take_ (i := 6) (N := some 40) (v := ?_) (a' := ?_) #[true, true, true, false, false, true, true, false, false, false] rfl rfl (take_ofW HT_.out HW_.out (by kernel_rfl)) (fun _ _ _ h => h) (Or.inl ⟨by rfl, ?_⟩) hHeld ?_ ?_
  rotate_left
  · rintro w' ⟨s5, s8⟩
    go_simp
    with_reducible rfl
  rotate_left
  · simp only [pS]
    rfl
  refine one_ (i := 3) (N := some 37) #[true, true, true, true, false, true, true, false, false, false] rfl rfl (one_of HT_.out (by kernel_rfl)) (by decide) (fun K hK => ?_)
  refine goes_ Tryz.func43 (by kernel_rfl) rfl #[.int .u64 ((se : Nat) : Int)] (by rfl) rfl rfl (by (try simp only [List.map_toArray, List.map_cons, List.map_nil]); first | done | rfl) ?_
  with_reducible refine (length_calls se HS.out.2.1 _).mono ?_
  rintro e w5 ⟨rfl, hb5⟩
  refine ⟨_, rfl, ?_⟩
  have n1_ := Aside0.mk ((hb5.block D (blk_lt HD.out)).trans HD.out); have n2_ := Aside0.mk (Below.trans (by first | exact HB.out | exact below_drew1 HB.out) (hb5.mono HB.out.size)); (try (have n3_ := Aside0.mk ((hb5.block g (blk_lt HGR.out)).trans HGR.out); clear HGR; have HGR := n3_; clear n3_)); clear HD HB hb5; have HD := n1_; have HB := n2_; clear n1_ n2_; (try clear cK); have cK := cell_of (i := 0) (v := .int .i64 5) HD.out rfl
  refine hK.out _ _ (⟨cell_of HD.out rfl, cell_of HD.out rfl⟩) (fun hHeld => ?_)
  clear hK K
  refine norm_ (a' := ?_) ?_ ?_
  rotate_left
  · show Act.put _ (some 37) _ = _
    simp only [pS]
    rfl
  refine pure_ (i := 4) (N := some 38) (a' := ?_) #[true, true, true, true, true, true, true, false, false, false] rfl rfl (any_of HT_.out (by kernel_rfl)) (fun _ _ _ h => h) (Or.inl ⟨by rfl, cat_yields _ _ _ _ (by rfl) _ _ (by rfl) (by rfl) (by simp only [List.length_append, List.length_cons, List.length_nil, List.length_replicate, len8_len]; have := HS.out; omega)⟩) ?_ ?_
  rotate_left
  · simp only [pS]
    rfl
  refine one_ (i := 7) (N := some 41) #[true, true, true, true, true, true, true, true, false, false] rfl rfl (one_of HT_.out (by kernel_rfl)) (by decide) (fun K hK => ?_)
  refine goes_ Tryz.func43 (by kernel_rfl) rfl #[.int .u64 ((sq : Nat) : Int)] (by rfl) rfl rfl (by (try simp only [List.map_toArray, List.map_cons, List.map_nil]); first | done | rfl) ?_
  with_reducible refine (length_calls sq HS.out.2.2 _).mono ?_
  rintro e w5 ⟨rfl, hb5⟩
  refine ⟨_, rfl, ?_⟩
  have n1_ := Aside0.mk ((hb5.block D (blk_lt HD.out)).trans HD.out); have n2_ := Aside0.mk (Below.trans (by first | exact HB.out | exact below_drew1 HB.out) (hb5.mono HB.out.size)); (try (have n3_ := Aside0.mk ((hb5.block g (blk_lt HGR.out)).trans HGR.out); clear HGR; have HGR := n3_; clear n3_)); clear HD HB hb5; have HD := n1_; have HB := n2_; clear n1_ n2_; (try clear cK); have cK := cell_of (i := 0) (v := .int .i64 5) HD.out rfl
  refine hK.out _ _ (⟨cell_of HD.out rfl, cell_of HD.out rfl⟩) (fun hHeld => ?_)
  clear hK K
  refine norm_ (a' := ?_) ?_ ?_
  rotate_left
  · show Act.put _ (some 41) _ = _
    simp only [pS]
    rfl
  refine pure_ (i := 8) (N := some 42) (a' := ?_) #[true, true, true, true, true, true, true, true, true, false] rfl rfl (any_of HT_.out (by kernel_rfl)) (fun _ _ _ h => h) (Or.inl ⟨by rfl, cat_yields _ _ _ _ (by rfl) _ _ (by rfl) (by rfl) (by simp only [List.length_append, List.length_cons, List.length_nil, List.length_replicate, len8_len]; have := HS.out; omega)⟩) ?_ ?_
  rotate_left
  · simp only [pS]
    rfl
  refine pure_ (i := 9) (N := some 5) (v := ?_) (a' := ?_) #[true, true, true, true, true, true, true, true, true, true] rfl rfl (any_of HT_.out (by kernel_rfl)) (fun _ _ _ h => h) (Or.inl ⟨by rfl, ?_⟩) ?_ ?_
  rotate_left
  · intro w'
    go_simp
    with_reducible rfl
  rotate_left
  · simp only [pS]
    rfl
  refine done_ (done_of HT_.out (by kernel_rfl)) ?_
  clear HT_ HW_ hHeld
  go_upto_region 30 with (first
    | ((with_reducible first | refine at_box_ ?_ | refine at_box2_ ?_); refine wpList_box_v rfl 27 _ rfl (dgr 5 nn ck nm sa da tg ep se sq pl th tr true false).cells rfl (by kernel_rfl) ?_; intro D w1 eD hD1 hb1 hz1; have HD := Aside0.mk (show w1.heap[D]? = some (.cells (dgr 5 nn ck nm sa da tg ep se sq pl th tr true false).cells.toArray 27 (0, 0)) from hD1.out); have HB := Aside0.mk (show Below w.heap.size w w1 from hb1.out); clear hD1 hb1 hz1 eD; have cK := cell_of (i := 0) (v := .int .i64 5) HD.out rfl)
    | ((with_reducible first | refine at_load_ ?_ | refine at_load2_ ?_); refine wpList_load_agg rfl 27 _ rfl D 0 rfl (dgr 5 nn ck nm sa da tg ep se sq pl th tr true false).cells (load_all HD.out) _ Tryz.underlying27 rfl (by kernel_rfl) ?_)
    | (go_at_call 42; (with_reducible refine (FC.out _).mono ?_); rintro e w2 ⟨rfl, hb2⟩; have n1_ := Aside0.mk ((hb2.block D (blk_lt HD.out)).trans HD.out); have n2_ := Aside0.mk (Below.trans (by first | exact HB.out | exact below_drew1 HB.out) (hb2.mono HB.out.size)); (try (have n3_ := Aside0.mk ((hb2.block g (blk_lt HGR.out)).trans HGR.out); clear HGR; have HGR := n3_; clear n3_)); clear HD HB hb2; have HD := n1_; have HB := n2_; clear n1_ n2_; (try clear cK); have cK := cell_of (i := 0) (v := .int .i64 5) HD.out rfl)
    | ((with_reducible first | refine at_load_ ?_ | refine at_load2_ ?_); refine wpList_load_one rfl 3 _ rfl D 0 rfl (dgr 5 nn ck nm sa da tg ep se sq pl th tr true false).cells _ _ HD.out _ rfl _ Tryz.underlying3 rfl ?_)
    | ((with_reducible first | refine at_bs_ ?_ | refine at_bs2_ ?_); refine wpList_buildSlice_v rfl 39 5 1 _ rfl Tryz.underlying39 [.int .u8 5] (by kernel_rfl) ?_; intro g w3 eg hg3 hb3' hz3; have hb3 := hb3'.out; have n1_ := Aside0.mk ((hb3.block D (blk_lt HD.out)).trans HD.out); have n2_ := Aside0.mk (Below.trans (by first | exact HB.out | exact below_drew1 HB.out) (hb3.mono HB.out.size)); (try (have n3_ := Aside0.mk ((hb3.block g (blk_lt HGR.out)).trans HGR.out); clear HGR; have HGR := n3_; clear n3_)); clear HD HB hb3; have HD := n1_; have HB := n2_; clear n1_ n2_; (try clear cK); have cK := cell_of (i := 0) (v := .int .i64 5) HD.out rfl; have HGR := Aside0.mk (show w3.heap[g]? = some (.cells [Value.int .u8 ((5 : UInt8).toNat : Int)].toArray 5 (0, 0)) from hg3.out); clear hg3 hb3' hz3 eg)
    | ((with_reducible first | refine at_conv_ ?_ | refine at_conv2_ ?_); refine wpList_string_of rfl _ _ 5 _ rfl (some ⟨g, 0, none⟩) 1 1 rfl [5] rfl (bytes_row1 (x := 5) HGR.out) Tryz.underlying39 (by kernel_rfl) Tryz.underlying5 ?_; clear HGR)
    | ((with_reducible first | refine at_add_ ?_ | refine at_add2_ ?_); refine wpList_cat rfl _ _ _ _ rfl _ _ rfl rfl (by simp only [List.length_append, List.length_cons, List.length_nil, List.length_replicate, len8_len]; have := HS.out; omega) ?_)
    | ((with_reducible first | refine at_load_ ?_ | refine at_load2_ ?_); refine wpList_load_one rfl 9 _ rfl D 14 rfl (dgr 5 nn ck nm sa da tg ep se sq pl th tr true false).cells _ _ HD.out _ rfl _ Tryz.underlying9 rfl ?_)
    | ((with_reducible first | refine at_load_ ?_ | refine at_load2_ ?_); refine wpList_load_one rfl 3 _ rfl D 9 rfl (dgr 5 nn ck nm sa da tg ep se sq pl th tr true false).cells _ _ HD.out _ rfl _ Tryz.underlying3 rfl ?_)
    | ((with_reducible first | refine at_load_ ?_ | refine at_load2_ ?_); refine wpList_load_one rfl 3 _ rfl D 10 rfl (dgr 5 nn ck nm sa da tg ep se sq pl th tr true false).cells _ _ HD.out _ rfl _ Tryz.underlying3 rfl ?_)
    | ((with_reducible first | refine at_load_ ?_ | refine at_load2_ ?_); refine wpList_load_one rfl 4 _ rfl D 11 rfl (dgr 5 nn ck nm sa da tg ep se sq pl th tr true false).cells _ _ HD.out _ rfl _ Tryz.underlying4 rfl ?_)
    | ((with_reducible first | refine at_load_ ?_ | refine at_load2_ ?_); refine wpList_load_one rfl 4 _ rfl D 12 rfl (dgr 5 nn ck nm sa da tg ep se sq pl th tr true false).cells _ _ HD.out _ rfl _ Tryz.underlying4 rfl ?_)
    | ((with_reducible first | refine at_bs_ ?_ | refine at_bs2_ ?_); refine wpList_buildSlice_v rfl 39 5 3 _ rfl Tryz.underlying39 [.int .u8 (IntKind.u8.wrap th), .int .u8 (IntKind.u8.wrap tr), .int .u8 1] (by kernel_rfl) ?_; intro g w3 eg hg3 hb3' hz3; have hb3 := hb3'.out; have n1_ := Aside0.mk ((hb3.block D (blk_lt HD.out)).trans HD.out); have n2_ := Aside0.mk (Below.trans (by first | exact HB.out | exact below_drew1 HB.out) (hb3.mono HB.out.size)); (try (have n3_ := Aside0.mk ((hb3.block g (blk_lt HGR.out)).trans HGR.out); clear HGR; have HGR := n3_; clear n3_)); clear HD HB hb3; have HD := n1_; have HB := n2_; clear n1_ n2_; (try clear cK); have cK := cell_of (i := 0) (v := .int .i64 5) HD.out rfl; have HGR := Aside0.mk (show w3.heap[g]? = some (.cells [Value.int .u8 ((u : UInt8).toNat : Int), Value.int .u8 ((v : UInt8).toNat : Int), Value.int .u8 ((1 : UInt8).toNat : Int)].toArray 5 (0, 0)) from by rw [← E3.out.1, ← E3.out.2.1, ← E3.out.2.2]; exact hg3.out); clear hg3 hb3' hz3 eg)
    | ((with_reducible first | refine at_conv_ ?_ | refine at_conv2_ ?_); refine wpList_string_of rfl _ _ 5 _ rfl (some ⟨g, 0, none⟩) 3 3 rfl [u, v, 1] rfl (bytes_row3 (x := u) (y := v) (z := 1) HGR.out) Tryz.underlying39 (by kernel_rfl) Tryz.underlying5 ?_; clear HGR))
  obtain ⟨T, eT⟩ : ∃ T, T = str (74 :: 48 :: 49 :: 5 :: (len8 se ++ (len8 sq ++ (u :: v :: 1 :: tg)))) := ⟨_, rfl⟩
  have hT : T.size ≤ 1200 := (by rw [eT, str_size]; exact (by simp only [List.length_append, List.length_cons, List.length_nil, List.length_replicate, len8_len]; have := HS.out; omega))
  have o1 : decide ((1200 : Int) < (T.size : Int)) = false := decide_eq_false (by omega)
  have o2 : ¬ ((1200 : Int) < (T.size : Int)) := (by omega)
  have o3 : ¬ (1200 < T.size) := (by omega)
  rw [← eT]
  have ET := Aside0.mk eT.symm
  clear eT hT
  go_wp2
  go_ret2
  refine ⟨?_, HB.out⟩
  rw [ET.out]
  rfl
set_option maxHeartbeats 8000000 in
set_option maxRecDepth 100000 in
theorem renc_5_11 (nn ck nm sa da tg : List UInt8) (ep se sq : Nat) (pl th tr : Int) (ht : tg.length = 32) (he : se < 18446744073709551616) (hq : sq < 18446744073709551616) (u v : UInt8) (e3 : IntKind.u8.wrap th = (u.toNat : Int) ∧ IntKind.u8.wrap tr = (v.toNat : Int) ∧ (3 : Int) = (((3 : UInt8)).toNat : Int)) (hf : ∀ w, Calls Tryz.prog 42 #[.agg (dgr 5 nn ck nm sa da tg ep se sq pl th tr true true).cells.toArray] w fun e w' => e = .returned (.bool true) ∧ Below w.heap.size w w') (w : World) :
    Calls Tryz.prog 17 #[.agg (dgr 5 nn ck nm sa da tg ep se sq pl th tr true true).cells.toArray] w fun e w' => e = .returned (.tuple #[.string (str ([74, 48, 49] ++ [5] ++ len8 se ++ len8 sq ++ [u, v, 3] ++ tg)), .int .i64 0]) ∧ Below w.heap.size w w' := by
  have HS := Aside0.mk (show tg.length = 32 ∧ se < 18446744073709551616 ∧ sq < 18446744073709551616 from ⟨ht, he, hq⟩)
  have FC := Aside0.mk hf
  clear hf
  have E3 := Aside0.mk e3
  clear ht he hq e3
  go_enter Tryz.func17, Tryz.ntmps17
  go_upto_region 10 with (first
    | ((with_reducible first | refine at_box_ ?_ | refine at_box2_ ?_); refine wpList_box_v rfl 27 _ rfl (dgr 5 nn ck nm sa da tg ep se sq pl th tr true true).cells rfl (by kernel_rfl) ?_; intro D w1 eD hD1 hb1 hz1; have HD := Aside0.mk (show w1.heap[D]? = some (.cells (dgr 5 nn ck nm sa da tg ep se sq pl th tr true true).cells.toArray 27 (0, 0)) from hD1.out); have HB := Aside0.mk (show Below w.heap.size w w1 from hb1.out); clear hD1 hb1 hz1 eD; have cK := cell_of (i := 0) (v := .int .i64 5) HD.out rfl)
    | ((with_reducible first | refine at_load_ ?_ | refine at_load2_ ?_); refine wpList_load_agg rfl 27 _ rfl D 0 rfl (dgr 5 nn ck nm sa da tg ep se sq pl th tr true true).cells (load_all HD.out) _ Tryz.underlying27 rfl (by kernel_rfl) ?_)
    | (go_at_call 42; (with_reducible refine (FC.out _).mono ?_); rintro e w2 ⟨rfl, hb2⟩; have n1_ := Aside0.mk ((hb2.block D (blk_lt HD.out)).trans HD.out); have n2_ := Aside0.mk (Below.trans (by first | exact HB.out | exact below_drew1 HB.out) (hb2.mono HB.out.size)); (try (have n3_ := Aside0.mk ((hb2.block g (blk_lt HGR.out)).trans HGR.out); clear HGR; have HGR := n3_; clear n3_)); clear HD HB hb2; have HD := n1_; have HB := n2_; clear n1_ n2_; (try clear cK); have cK := cell_of (i := 0) (v := .int .i64 5) HD.out rfl)
    | ((with_reducible first | refine at_load_ ?_ | refine at_load2_ ?_); refine wpList_load_one rfl 3 _ rfl D 0 rfl (dgr 5 nn ck nm sa da tg ep se sq pl th tr true true).cells _ _ HD.out _ rfl _ Tryz.underlying3 rfl ?_)
    | ((with_reducible first | refine at_bs_ ?_ | refine at_bs2_ ?_); refine wpList_buildSlice_v rfl 39 5 1 _ rfl Tryz.underlying39 [.int .u8 5] (by kernel_rfl) ?_; intro g w3 eg hg3 hb3' hz3; have hb3 := hb3'.out; have n1_ := Aside0.mk ((hb3.block D (blk_lt HD.out)).trans HD.out); have n2_ := Aside0.mk (Below.trans (by first | exact HB.out | exact below_drew1 HB.out) (hb3.mono HB.out.size)); (try (have n3_ := Aside0.mk ((hb3.block g (blk_lt HGR.out)).trans HGR.out); clear HGR; have HGR := n3_; clear n3_)); clear HD HB hb3; have HD := n1_; have HB := n2_; clear n1_ n2_; (try clear cK); have cK := cell_of (i := 0) (v := .int .i64 5) HD.out rfl; have HGR := Aside0.mk (show w3.heap[g]? = some (.cells [Value.int .u8 ((5 : UInt8).toNat : Int)].toArray 5 (0, 0)) from hg3.out); clear hg3 hb3' hz3 eg)
    | ((with_reducible first | refine at_conv_ ?_ | refine at_conv2_ ?_); refine wpList_string_of rfl _ _ 5 _ rfl (some ⟨g, 0, none⟩) 1 1 rfl [5] rfl (bytes_row1 (x := 5) HGR.out) Tryz.underlying39 (by kernel_rfl) Tryz.underlying5 ?_; clear HGR)
    | ((with_reducible first | refine at_add_ ?_ | refine at_add2_ ?_); refine wpList_cat rfl _ _ _ _ rfl _ _ rfl rfl (by simp only [List.length_append, List.length_cons, List.length_nil, List.length_replicate, len8_len]; have := HS.out; omega) ?_)
    | ((with_reducible first | refine at_load_ ?_ | refine at_load2_ ?_); refine wpList_load_one rfl 9 _ rfl D 14 rfl (dgr 5 nn ck nm sa da tg ep se sq pl th tr true true).cells _ _ HD.out _ rfl _ Tryz.underlying9 rfl ?_)
    | ((with_reducible first | refine at_load_ ?_ | refine at_load2_ ?_); refine wpList_load_one rfl 3 _ rfl D 9 rfl (dgr 5 nn ck nm sa da tg ep se sq pl th tr true true).cells _ _ HD.out _ rfl _ Tryz.underlying3 rfl ?_)
    | ((with_reducible first | refine at_load_ ?_ | refine at_load2_ ?_); refine wpList_load_one rfl 3 _ rfl D 10 rfl (dgr 5 nn ck nm sa da tg ep se sq pl th tr true true).cells _ _ HD.out _ rfl _ Tryz.underlying3 rfl ?_)
    | ((with_reducible first | refine at_load_ ?_ | refine at_load2_ ?_); refine wpList_load_one rfl 4 _ rfl D 11 rfl (dgr 5 nn ck nm sa da tg ep se sq pl th tr true true).cells _ _ HD.out _ rfl _ Tryz.underlying4 rfl ?_)
    | ((with_reducible first | refine at_load_ ?_ | refine at_load2_ ?_); refine wpList_load_one rfl 4 _ rfl D 12 rfl (dgr 5 nn ck nm sa da tg ep se sq pl th tr true true).cells _ _ HD.out _ rfl _ Tryz.underlying4 rfl ?_)
    | ((with_reducible first | refine at_bs_ ?_ | refine at_bs2_ ?_); refine wpList_buildSlice_v rfl 39 5 3 _ rfl Tryz.underlying39 [.int .u8 (IntKind.u8.wrap th), .int .u8 (IntKind.u8.wrap tr), .int .u8 3] (by kernel_rfl) ?_; intro g w3 eg hg3 hb3' hz3; have hb3 := hb3'.out; have n1_ := Aside0.mk ((hb3.block D (blk_lt HD.out)).trans HD.out); have n2_ := Aside0.mk (Below.trans (by first | exact HB.out | exact below_drew1 HB.out) (hb3.mono HB.out.size)); (try (have n3_ := Aside0.mk ((hb3.block g (blk_lt HGR.out)).trans HGR.out); clear HGR; have HGR := n3_; clear n3_)); clear HD HB hb3; have HD := n1_; have HB := n2_; clear n1_ n2_; (try clear cK); have cK := cell_of (i := 0) (v := .int .i64 5) HD.out rfl; have HGR := Aside0.mk (show w3.heap[g]? = some (.cells [Value.int .u8 ((u : UInt8).toNat : Int), Value.int .u8 ((v : UInt8).toNat : Int), Value.int .u8 ((3 : UInt8).toNat : Int)].toArray 5 (0, 0)) from by rw [← E3.out.1, ← E3.out.2.1, ← E3.out.2.2]; exact hg3.out); clear hg3 hb3' hz3 eg)
    | ((with_reducible first | refine at_conv_ ?_ | refine at_conv2_ ?_); refine wpList_string_of rfl _ _ 5 _ rfl (some ⟨g, 0, none⟩) 3 3 rfl [u, v, 3] rfl (bytes_row3 (x := u) (y := v) (z := 3) HGR.out) Tryz.underlying39 (by kernel_rfl) Tryz.underlying5 ?_; clear HGR))
  refine start_ (n := 10) (S := fun w' => w'.cell? ⟨D, 5, none⟩ = some (.int .u64 (se : Int)) ∧ w'.cell? ⟨D, 8, none⟩ = some (.int .u64 (sq : Int))) (ds := []) #[false, false, false, false, false, false, false, false, false, false] (by kernel_rfl) rfl rfl ⟨cell_of HD.out rfl, cell_of HD.out rfl⟩ (fun hHeld => ?_)
  refine with_tabW tab_f17_10 bits_f17_10 (fun HT_ HW_ => ?_)
  refine pure_ (i := 0) (N := some 34) (v := ?_) (a' := ?_) #[true, false, false, false, false, false, false, false, false, false] rfl rfl (any_of HT_.out (by kernel_rfl)) (fun _ _ _ h => h) (Or.inl ⟨by rfl, ?_⟩) ?_ ?_
  rotate_left
  · intro w'
    go_simp
    with_reducible rfl
  rotate_left
  · simp only [pS]
    rfl
  refine pure_ (i := 1) (N := some 35) (v := ?_) (a' := ?_) #[true, true, false, false, false, false, false, false, false, false] rfl rfl (any_of HT_.out (by kernel_rfl)) (fun _ _ _ h => h) (Or.inl ⟨by rfl, ?_⟩) ?_ ?_
  rotate_left
  · intro w'
    go_simp
    with_reducible rfl
  rotate_left
  · simp only [pS]
    rfl
  refine take_ (i := 2) (N := some 36) (v := ?_) (a' := ?_) #[true, true, true, false, false, false, false, false, false, false] rfl rfl (take_ofW HT_.out HW_.out (by kernel_rfl)) (fun _ _ _ h => h) (Or.inl ⟨by rfl, ?_⟩) hHeld ?_ ?_
  rotate_left
  · rintro w' ⟨s5, s8⟩
    go_simp
    with_reducible rfl
  rotate_left
  · simp only [pS]
    rfl
  refine pure_ (i := 5) (N := some 39) (v := ?_) (a' := ?_) #[true, true, true, false, false, true, false, false, false, false] rfl rfl (any_of HT_.out (by kernel_rfl)) (fun _ _ _ h => h) (Or.inl ⟨by rfl, ?_⟩) ?_ ?_
  rotate_left
  · intro w'
    go_simp
    with_reducible rfl
  rotate_left
  · simp only [pS]
    rfl
  refine take_ (i := 6) (N := some 40) (v := ?_) (a' := ?_) #[true, true, true, false, false, true, true, false, false, false] rfl rfl (take_ofW HT_.out HW_.out (by kernel_rfl)) (fun _ _ _ h => h) (Or.inl ⟨by rfl, ?_⟩) hHeld ?_ ?_
  rotate_left
  · rintro w' ⟨s5, s8⟩
    go_simp
    with_reducible rfl
  rotate_left
  · simp only [pS]
    rfl
  refine one_ (i := 3) (N := some 37) #[true, true, true, true, false, true, true, false, false, false] rfl rfl (one_of HT_.out (by kernel_rfl)) (by decide) (fun K hK => ?_)
  refine goes_ Tryz.func43 (by kernel_rfl) rfl #[.int .u64 ((se : Nat) : Int)] (by rfl) rfl rfl (by (try simp only [List.map_toArray, List.map_cons, List.map_nil]); first | done | rfl) ?_
  with_reducible refine (length_calls se HS.out.2.1 _).mono ?_
  rintro e w5 ⟨rfl, hb5⟩
  refine ⟨_, rfl, ?_⟩
  have n1_ := Aside0.mk ((hb5.block D (blk_lt HD.out)).trans HD.out); have n2_ := Aside0.mk (Below.trans (by first | exact HB.out | exact below_drew1 HB.out) (hb5.mono HB.out.size)); (try (have n3_ := Aside0.mk ((hb5.block g (blk_lt HGR.out)).trans HGR.out); clear HGR; have HGR := n3_; clear n3_)); clear HD HB hb5; have HD := n1_; have HB := n2_; clear n1_ n2_; (try clear cK); have cK := cell_of (i := 0) (v := .int .i64 5) HD.out rfl
  refine hK.out _ _ (⟨cell_of HD.out rfl, cell_of HD.out rfl⟩) (fun hHeld => ?_)
  clear hK K
  refine norm_ (a' := ?_) ?_ ?_
  rotate_left
  · show Act.put _ (some 37) _ = _
    simp only [pS]
    rfl
  refine pure_ (i := 4) (N := some 38) (a' := ?_) #[true, true, true, true, true, true, true, false, false, false] rfl rfl (any_of HT_.out (by kernel_rfl)) (fun _ _ _ h => h) (Or.inl ⟨by rfl, cat_yields _ _ _ _ (by rfl) _ _ (by rfl) (by rfl) (by simp only [List.length_append, List.length_cons, List.length_nil, List.length_replicate, len8_len]; have := HS.out; omega)⟩) ?_ ?_
  rotate_left
  · simp only [pS]
    rfl
  refine one_ (i := 7) (N := some 41) #[true, true, true, true, true, true, true, true, false, false] rfl rfl (one_of HT_.out (by kernel_rfl)) (by decide) (fun K hK => ?_)
  refine goes_ Tryz.func43 (by kernel_rfl) rfl #[.int .u64 ((sq : Nat) : Int)] (by rfl) rfl rfl (by (try simp only [List.map_toArray, List.map_cons, List.map_nil]); first | done | rfl) ?_
  with_reducible refine (length_calls sq HS.out.2.2 _).mono ?_
  rintro e w5 ⟨rfl, hb5⟩
  refine ⟨_, rfl, ?_⟩
  have n1_ := Aside0.mk ((hb5.block D (blk_lt HD.out)).trans HD.out); have n2_ := Aside0.mk (Below.trans (by first | exact HB.out | exact below_drew1 HB.out) (hb5.mono HB.out.size)); (try (have n3_ := Aside0.mk ((hb5.block g (blk_lt HGR.out)).trans HGR.out); clear HGR; have HGR := n3_; clear n3_)); clear HD HB hb5; have HD := n1_; have HB := n2_; clear n1_ n2_; (try clear cK); have cK := cell_of (i := 0) (v := .int .i64 5) HD.out rfl
  refine hK.out _ _ (⟨cell_of HD.out rfl, cell_of HD.out rfl⟩) (fun hHeld => ?_)
  clear hK K
  refine norm_ (a' := ?_) ?_ ?_
  rotate_left
  · show Act.put _ (some 41) _ = _
    simp only [pS]
    rfl
  refine pure_ (i := 8) (N := some 42) (a' := ?_) #[true, true, true, true, true, true, true, true, true, false] rfl rfl (any_of HT_.out (by kernel_rfl)) (fun _ _ _ h => h) (Or.inl ⟨by rfl, cat_yields _ _ _ _ (by rfl) _ _ (by rfl) (by rfl) (by simp only [List.length_append, List.length_cons, List.length_nil, List.length_replicate, len8_len]; have := HS.out; omega)⟩) ?_ ?_
  rotate_left
  · simp only [pS]
    rfl
  refine pure_ (i := 9) (N := some 5) (v := ?_) (a' := ?_) #[true, true, true, true, true, true, true, true, true, true] rfl rfl (any_of HT_.out (by kernel_rfl)) (fun _ _ _ h => h) (Or.inl ⟨by rfl, ?_⟩) ?_ ?_
  rotate_left
  · intro w'
    go_simp
    with_reducible rfl
  rotate_left
  · simp only [pS]
    rfl
  refine done_ (done_of HT_.out (by kernel_rfl)) ?_
  clear HT_ HW_ hHeld
  go_upto_region 30 with (first
    | ((with_reducible first | refine at_box_ ?_ | refine at_box2_ ?_); refine wpList_box_v rfl 27 _ rfl (dgr 5 nn ck nm sa da tg ep se sq pl th tr true true).cells rfl (by kernel_rfl) ?_; intro D w1 eD hD1 hb1 hz1; have HD := Aside0.mk (show w1.heap[D]? = some (.cells (dgr 5 nn ck nm sa da tg ep se sq pl th tr true true).cells.toArray 27 (0, 0)) from hD1.out); have HB := Aside0.mk (show Below w.heap.size w w1 from hb1.out); clear hD1 hb1 hz1 eD; have cK := cell_of (i := 0) (v := .int .i64 5) HD.out rfl)
    | ((with_reducible first | refine at_load_ ?_ | refine at_load2_ ?_); refine wpList_load_agg rfl 27 _ rfl D 0 rfl (dgr 5 nn ck nm sa da tg ep se sq pl th tr true true).cells (load_all HD.out) _ Tryz.underlying27 rfl (by kernel_rfl) ?_)
    | (go_at_call 42; (with_reducible refine (FC.out _).mono ?_); rintro e w2 ⟨rfl, hb2⟩; have n1_ := Aside0.mk ((hb2.block D (blk_lt HD.out)).trans HD.out); have n2_ := Aside0.mk (Below.trans (by first | exact HB.out | exact below_drew1 HB.out) (hb2.mono HB.out.size)); (try (have n3_ := Aside0.mk ((hb2.block g (blk_lt HGR.out)).trans HGR.out); clear HGR; have HGR := n3_; clear n3_)); clear HD HB hb2; have HD := n1_; have HB := n2_; clear n1_ n2_; (try clear cK); have cK := cell_of (i := 0) (v := .int .i64 5) HD.out rfl)
    | ((with_reducible first | refine at_load_ ?_ | refine at_load2_ ?_); refine wpList_load_one rfl 3 _ rfl D 0 rfl (dgr 5 nn ck nm sa da tg ep se sq pl th tr true true).cells _ _ HD.out _ rfl _ Tryz.underlying3 rfl ?_)
    | ((with_reducible first | refine at_bs_ ?_ | refine at_bs2_ ?_); refine wpList_buildSlice_v rfl 39 5 1 _ rfl Tryz.underlying39 [.int .u8 5] (by kernel_rfl) ?_; intro g w3 eg hg3 hb3' hz3; have hb3 := hb3'.out; have n1_ := Aside0.mk ((hb3.block D (blk_lt HD.out)).trans HD.out); have n2_ := Aside0.mk (Below.trans (by first | exact HB.out | exact below_drew1 HB.out) (hb3.mono HB.out.size)); (try (have n3_ := Aside0.mk ((hb3.block g (blk_lt HGR.out)).trans HGR.out); clear HGR; have HGR := n3_; clear n3_)); clear HD HB hb3; have HD := n1_; have HB := n2_; clear n1_ n2_; (try clear cK); have cK := cell_of (i := 0) (v := .int .i64 5) HD.out rfl; have HGR := Aside0.mk (show w3.heap[g]? = some (.cells [Value.int .u8 ((5 : UInt8).toNat : Int)].toArray 5 (0, 0)) from hg3.out); clear hg3 hb3' hz3 eg)
    | ((with_reducible first | refine at_conv_ ?_ | refine at_conv2_ ?_); refine wpList_string_of rfl _ _ 5 _ rfl (some ⟨g, 0, none⟩) 1 1 rfl [5] rfl (bytes_row1 (x := 5) HGR.out) Tryz.underlying39 (by kernel_rfl) Tryz.underlying5 ?_; clear HGR)
    | ((with_reducible first | refine at_add_ ?_ | refine at_add2_ ?_); refine wpList_cat rfl _ _ _ _ rfl _ _ rfl rfl (by simp only [List.length_append, List.length_cons, List.length_nil, List.length_replicate, len8_len]; have := HS.out; omega) ?_)
    | ((with_reducible first | refine at_load_ ?_ | refine at_load2_ ?_); refine wpList_load_one rfl 9 _ rfl D 14 rfl (dgr 5 nn ck nm sa da tg ep se sq pl th tr true true).cells _ _ HD.out _ rfl _ Tryz.underlying9 rfl ?_)
    | ((with_reducible first | refine at_load_ ?_ | refine at_load2_ ?_); refine wpList_load_one rfl 3 _ rfl D 9 rfl (dgr 5 nn ck nm sa da tg ep se sq pl th tr true true).cells _ _ HD.out _ rfl _ Tryz.underlying3 rfl ?_)
    | ((with_reducible first | refine at_load_ ?_ | refine at_load2_ ?_); refine wpList_load_one rfl 3 _ rfl D 10 rfl (dgr 5 nn ck nm sa da tg ep se sq pl th tr true true).cells _ _ HD.out _ rfl _ Tryz.underlying3 rfl ?_)
    | ((with_reducible first | refine at_load_ ?_ | refine at_load2_ ?_); refine wpList_load_one rfl 4 _ rfl D 11 rfl (dgr 5 nn ck nm sa da tg ep se sq pl th tr true true).cells _ _ HD.out _ rfl _ Tryz.underlying4 rfl ?_)
    | ((with_reducible first | refine at_load_ ?_ | refine at_load2_ ?_); refine wpList_load_one rfl 4 _ rfl D 12 rfl (dgr 5 nn ck nm sa da tg ep se sq pl th tr true true).cells _ _ HD.out _ rfl _ Tryz.underlying4 rfl ?_)
    | ((with_reducible first | refine at_bs_ ?_ | refine at_bs2_ ?_); refine wpList_buildSlice_v rfl 39 5 3 _ rfl Tryz.underlying39 [.int .u8 (IntKind.u8.wrap th), .int .u8 (IntKind.u8.wrap tr), .int .u8 3] (by kernel_rfl) ?_; intro g w3 eg hg3 hb3' hz3; have hb3 := hb3'.out; have n1_ := Aside0.mk ((hb3.block D (blk_lt HD.out)).trans HD.out); have n2_ := Aside0.mk (Below.trans (by first | exact HB.out | exact below_drew1 HB.out) (hb3.mono HB.out.size)); (try (have n3_ := Aside0.mk ((hb3.block g (blk_lt HGR.out)).trans HGR.out); clear HGR; have HGR := n3_; clear n3_)); clear HD HB hb3; have HD := n1_; have HB := n2_; clear n1_ n2_; (try clear cK); have cK := cell_of (i := 0) (v := .int .i64 5) HD.out rfl; have HGR := Aside0.mk (show w3.heap[g]? = some (.cells [Value.int .u8 ((u : UInt8).toNat : Int), Value.int .u8 ((v : UInt8).toNat : Int), Value.int .u8 ((3 : UInt8).toNat : Int)].toArray 5 (0, 0)) from by rw [← E3.out.1, ← E3.out.2.1, ← E3.out.2.2]; exact hg3.out); clear hg3 hb3' hz3 eg)
    | ((with_reducible first | refine at_conv_ ?_ | refine at_conv2_ ?_); refine wpList_string_of rfl _ _ 5 _ rfl (some ⟨g, 0, none⟩) 3 3 rfl [u, v, 3] rfl (bytes_row3 (x := u) (y := v) (z := 3) HGR.out) Tryz.underlying39 (by kernel_rfl) Tryz.underlying5 ?_; clear HGR))
  obtain ⟨T, eT⟩ : ∃ T, T = str (74 :: 48 :: 49 :: 5 :: (len8 se ++ (len8 sq ++ (u :: v :: 3 :: tg)))) := ⟨_, rfl⟩
  have hT : T.size ≤ 1200 := (by rw [eT, str_size]; exact (by simp only [List.length_append, List.length_cons, List.length_nil, List.length_replicate, len8_len]; have := HS.out; omega))
  have o1 : decide ((1200 : Int) < (T.size : Int)) = false := decide_eq_false (by omega)
  have o2 : ¬ ((1200 : Int) < (T.size : Int)) := (by omega)
  have o3 : ¬ (1200 < T.size) := (by omega)
  rw [← eT]
  have ET := Aside0.mk eT.symm
  clear eT hT
  go_wp2
  go_ret2
  refine ⟨?_, HB.out⟩
  rw [ET.out]
  rfl
end Go.Proofs.YtniabkphbnimaaaGreatDoor.Sh
namespace Go.Proofs.YtniabkphbnimaaaGreatDoor.Sh
open Go Go.RowKit Go.Maps Go.Proofs.YtniabkphbnimaaaGreatDoorW.PrintWords Go.Proofs.YtniabkphbnimaaaGreatDoorW.PrintLast Go.Proofs.YtniabkphbnimaaaGreatDoor.Bs
set_option maxHeartbeats 8000000 in
set_option maxRecDepth 100000 in
theorem renc_kind (d : Dg) (h17 : ¬ (1 ≤ d.kind ∧ d.kind ≤ 7)) (w : World) : Calls Tryz.prog 17 #[.agg d.cells.toArray] w fun e w' => e = .returned (.tuple #[.string ⟨#[]⟩, .int .i64 71]) ∧ Below w.heap.size w w' := by
  by_cases h1 : d.kind < 1
  · have o1 : decide (d.kind < 1) = true := decide_eq_true h1
    go_enter Tryz.func17, Tryz.ntmps17
    go_wp2_with ((with_reducible first | refine at_box_ ?_ | refine at_box2_ ?_); refine wpList_box_v rfl 27 _ rfl d.cells rfl (by kernel_rfl) ?_; intro D w1 eD hD1 hb1 hz1; have HD := Aside0.mk (show w1.heap[D]? = some (.cells d.cells.toArray 27 (0, 0)) from hD1.out); have HB := Aside0.mk (show Below w.heap.size w w1 from hb1.out); clear hD1 hb1 hz1 eD; have cK := cell_of (i := 0) (v := .int .i64 d.kind) HD.out rfl)
    go_ret2
    exact ⟨rfl, HB.out⟩
  · have h7 : d.kind > 7 := by omega
    have o1 : decide (d.kind < 1) = false := decide_eq_false h1
    have o2 : decide (7 < d.kind) = true := decide_eq_true h7
    go_enter Tryz.func17, Tryz.ntmps17
    go_wp2_with ((with_reducible first | refine at_box_ ?_ | refine at_box2_ ?_); refine wpList_box_v rfl 27 _ rfl d.cells rfl (by kernel_rfl) ?_; intro D w1 eD hD1 hb1 hz1; have HD := Aside0.mk (show w1.heap[D]? = some (.cells d.cells.toArray 27 (0, 0)) from hD1.out); have HB := Aside0.mk (show Below w.heap.size w w1 from hb1.out); clear hD1 hb1 hz1 eD; have cK := cell_of (i := 0) (v := .int .i64 d.kind) HD.out rfl)
    go_ret2
    exact ⟨rfl, HB.out⟩
set_option maxHeartbeats 8000000 in
set_option maxRecDepth 100000 in
theorem renc_unfit (d : Dg) (h17 : 1 ≤ d.kind ∧ d.kind ≤ 7) (hf : ¬ fitP d) (w : World) : Calls Tryz.prog 17 #[.agg d.cells.toArray] w fun e w' => e = .returned (.tuple #[.string ⟨#[]⟩, .int .i64 73]) ∧ Below w.heap.size w w' := by
  have FC := Aside0.mk (show ∀ w, Calls Tryz.prog 42 #[.agg d.cells.toArray] w fun e w' => e = .returned (.bool false) ∧ Below w.heap.size w w' from fun w => by
    have h := fits_calls d h17 w
    rw [decide_eq_false hf] at h
    exact h)
  have o1 : decide (d.kind < 1) = false := decide_eq_false (by omega)
  have o2 : decide (7 < d.kind) = false := decide_eq_false (by omega)
  clear h17 hf
  go_enter Tryz.func17, Tryz.ntmps17
  go_wp2_with (first
    | ((with_reducible first | refine at_box_ ?_ | refine at_box2_ ?_); refine wpList_box_v rfl 27 _ rfl d.cells rfl (by kernel_rfl) ?_; intro D w1 eD hD1 hb1 hz1; have HD := Aside0.mk (show w1.heap[D]? = some (.cells d.cells.toArray 27 (0, 0)) from hD1.out); have HB := Aside0.mk (show Below w.heap.size w w1 from hb1.out); clear hD1 hb1 hz1 eD; have cK := cell_of (i := 0) (v := .int .i64 d.kind) HD.out rfl)
    | ((with_reducible first | refine at_load_ ?_ | refine at_load2_ ?_); refine wpList_load_agg rfl 27 _ rfl D 0 rfl d.cells (load_all HD.out) _ Tryz.underlying27 rfl (by kernel_rfl) ?_)
    | (go_at_call 42; (with_reducible refine (FC.out _).mono ?_); rintro e w2 ⟨rfl, hb2⟩; have n2_ := Aside0.mk (HB.out.trans (hb2.mono HB.out.size)); clear HB hb2; have HB := n2_; clear n2_))
  go_ret2
  exact ⟨rfl, HB.out⟩
theorem u8_nat (n : Nat) (h : n < 256) : IntKind.u8.wrap (n : Int) = ((UInt8.ofNat n).toNat : Int) := by
  rw [wrap_u8]
  simp
theorem u8_sg (x : Int) : IntKind.u8.wrap x = ((sg x).toNat : Int) := by
  unfold sg
  rw [wrap_u8]
  simp
  omega
theorem rencode_fit (d : Dg) (hd : d.ok) (h17 : 1 ≤ d.kind ∧ d.kind ≤ 7) (hf : fitP d) (w : World) : Calls Tryz.prog 17 #[.agg d.cells.toArray] w fun e w' => e = .returned (.tuple #[.string (encK d).1, .int .i64 (encK d).2]) ∧ Below w.heap.size w w' := by
  have FC : ∀ w, Calls Tryz.prog 42 #[.agg d.cells.toArray] w fun e w' => e = .returned (.bool true) ∧ Below w.heap.size w w' := fun w => by
    have h := fits_calls d h17 w
    rw [decide_eq_true hf] at h
    exact h
  unfold encK
  rw [if_pos hf]
  obtain ⟨kind, nonce, epoch, cookie, name, session, player, salt, seq, thr, trn, fire, boost, data, tag⟩ := d
  simp only at h17
  unfold Dg.ok at hd
  unfold fitP at hf
  simp only at hd hf
  have hk : kind = 1 ∨ kind = 2 ∨ kind = 3 ∨ kind = 4 ∨ kind = 5 ∨ kind = 6 ∨ kind = 7 := by omega
  rcases hk with rfl | rfl | rfl | rfl | rfl | rfl | rfl
  · have h := renc_1 (bl nonce) (bl cookie) (bl name) (bl salt) (bl data) (bl tag) epoch session seq player thr trn fire boost (by rw [bl_len]; omega) FC w
    have e1 : encB ⟨1, nonce, epoch, cookie, name, session, player, salt, seq, thr, trn, fire, boost, data, tag⟩ = [74, 48, 49] ++ [1] ++ bl nonce ++ List.replicate 76 0 := rfl
    have e2 : nonce.size = 16 := by omega
    rw [e1, if_neg (by simp [bl_len, e2])]
    exact h
  · have h := renc_2 (bl nonce) (bl cookie) (bl name) (bl salt) (bl data) (bl tag) epoch session seq player thr trn fire boost (by rw [bl_len]; omega) (by rw [bl_len]; omega) (by omega) FC w
    have e1 : encB ⟨2, nonce, epoch, cookie, name, session, player, salt, seq, thr, trn, fire, boost, data, tag⟩ = [74, 48, 49] ++ [2] ++ bl nonce ++ len8 epoch ++ bl cookie := by simp [encB, tailB]
    have e2 : nonce.size = 16 := by omega
    have e3 : cookie.size = 32 := by omega
    rw [e1, if_neg (by simp [bl_len, len8_len, e2, e3])]
    exact h
  · have e2 : nonce.size = 16 := by omega
    have e3 : cookie.size = 32 := by omega
    have e4 : name.size ≤ 255 := by omega
    have e5 : tag.size = 32 := by omega
    have h := renc_3 (bl nonce) (bl cookie) (bl name) (bl salt) (bl data) (bl tag) epoch session seq player thr trn fire boost (by rw [bl_len]; omega) (by rw [bl_len]; omega) (by rw [bl_len]; omega) (by rw [bl_len]; omega) (by omega) (UInt8.ofNat name.size) (by rw [str_bl]; exact u8_nat _ (by omega)) FC w
    have e1 : encB ⟨3, nonce, epoch, cookie, name, session, player, salt, seq, thr, trn, fire, boost, data, tag⟩ = [74, 48, 49] ++ [3] ++ bl nonce ++ len8 epoch ++ bl cookie ++ [UInt8.ofNat name.size] ++ bl name ++ bl tag := by simp [encB, tailB]
    rw [e1, if_neg (by simp [bl_len, len8_len, e2, e3, e5]; omega)]
    exact h
  · have e2 : nonce.size = 16 := by omega
    have e3 : salt.size = 16 := by omega
    have e5 : tag.size = 32 := by omega
    have e6 : 0 ≤ player ∧ player ≤ 255 := by omega
    have h := renc_4 (bl nonce) (bl cookie) (bl name) (bl salt) (bl data) (bl tag) epoch session seq player thr trn fire boost (by rw [bl_len]; omega) (by rw [bl_len]; omega) (by rw [bl_len]; omega) (by omega) (UInt8.ofNat player.toNat) (by rw [← u8_nat _ (by omega)]; congr 1; omega) FC w
    have e1 : encB ⟨4, nonce, epoch, cookie, name, session, player, salt, seq, thr, trn, fire, boost, data, tag⟩ = [74, 48, 49] ++ [4] ++ bl nonce ++ len8 session ++ [UInt8.ofNat player.toNat] ++ bl salt ++ bl tag := by simp [encB, tailB]
    rw [e1, if_neg (by simp [bl_len, len8_len, e2, e3, e5])]
    exact h
  · have e5 : tag.size = 32 := by omega
    have e1 : encB ⟨5, nonce, epoch, cookie, name, session, player, salt, seq, thr, trn, fire, boost, data, tag⟩ = [74, 48, 49] ++ [5] ++ len8 session ++ len8 seq ++ [sg thr, sg trn, UInt8.ofNat (flags fire boost)] ++ bl tag := by simp [encB, tailB]
    rw [e1, if_neg (by simp [bl_len, len8_len, e5])]
    cases fire <;> cases boost
    · exact renc_5_00 (bl nonce) (bl cookie) (bl name) (bl salt) (bl data) (bl tag) epoch session seq player thr trn (by rw [bl_len]; omega) (by omega) (by omega) (sg thr) (sg trn) ⟨u8_sg _, u8_sg _, rfl⟩ FC w
    · exact renc_5_01 (bl nonce) (bl cookie) (bl name) (bl salt) (bl data) (bl tag) epoch session seq player thr trn (by rw [bl_len]; omega) (by omega) (by omega) (sg thr) (sg trn) ⟨u8_sg _, u8_sg _, rfl⟩ FC w
    · exact renc_5_10 (bl nonce) (bl cookie) (bl name) (bl salt) (bl data) (bl tag) epoch session seq player thr trn (by rw [bl_len]; omega) (by omega) (by omega) (sg thr) (sg trn) ⟨u8_sg _, u8_sg _, rfl⟩ FC w
    · exact renc_5_11 (bl nonce) (bl cookie) (bl name) (bl salt) (bl data) (bl tag) epoch session seq player thr trn (by rw [bl_len]; omega) (by omega) (by omega) (sg thr) (sg trn) ⟨u8_sg _, u8_sg _, rfl⟩ FC w
  · have e5 : tag.size = 32 := by omega
    have e1 : encB ⟨6, nonce, epoch, cookie, name, session, player, salt, seq, thr, trn, fire, boost, data, tag⟩ = [74, 48, 49] ++ [6] ++ len8 session ++ len8 seq ++ bl data ++ bl tag := by simp [encB, tailB]
    have e2 : ([74, 48, 49] ++ [6] ++ len8 session ++ len8 seq ++ bl data ++ bl tag : List UInt8).length = (bl data).length + 52 := by simp [bl_len, len8_len, e5]; omega
    rw [e1, e2]
    exact renc_6 (bl nonce) (bl cookie) (bl name) (bl salt) (bl data) (bl tag) epoch session seq player thr trn fire boost (by rw [bl_len]; omega) (by omega) (by omega) (by rw [bl_len]; omega) _ _ rfl FC w
  · have e5 : tag.size = 32 := by omega
    have e1 : encB ⟨7, nonce, epoch, cookie, name, session, player, salt, seq, thr, trn, fire, boost, data, tag⟩ = [74, 48, 49] ++ [7] ++ len8 session ++ len8 seq ++ bl tag := by simp [encB, tailB]
    rw [e1, if_neg (by simp [bl_len, len8_len, e5])]
    exact renc_7 (bl nonce) (bl cookie) (bl name) (bl salt) (bl data) (bl tag) epoch session seq player thr trn fire boost (by rw [bl_len]; omega) (by omega) (by omega) FC w
theorem rencode_calls (d : Dg) (hd : d.ok) (w : World) : Calls Tryz.prog 17 #[.agg d.cells.toArray] w fun e w' => e = .returned (.tuple #[.string (enc d).1, .int .i64 (enc d).2]) ∧ Below w.heap.size w w' := by
  by_cases h : 1 ≤ d.kind ∧ d.kind ≤ 7
  · rw [enc_k d h]
    by_cases hf : fitP d
    · exact rencode_fit d hd h hf w
    · unfold encK
      rw [if_neg hf]
      exact renc_unfit d h hf w
  · unfold enc
    rw [if_neg h]
    exact renc_kind d h w
end Go.Proofs.YtniabkphbnimaaaGreatDoor.Sh
namespace Go.Proofs.YtniabkphbnimaaaGreatDoor.Sh
open Go Go.RowKit Go.Maps Go.Proofs.YtniabkphbnimaaaGreatDoorW.PrintWords Go.Proofs.YtniabkphbnimaaaGreatDoorW.PrintLast Go.Proofs.YtniabkphbnimaaaGreatDoor.Bs
theorem streq_yields {P : Program} {o : Oper} {a : Act} (t t2 : TypeId) (x y : Operand) (ho : o.op = .binOp .eql t x y t2) (s r : ByteArray) (hx : a.eval x = .string s) (hy : a.eval y = .string r) (b : Bool) (hb : (s.toList == r.toList) = b) (w : World) :
    (execOp a.eval o).run P w = .ok (.value (.bool b)) w := by
  subst hb
  unfold execOp
  simp [ho, hx, hy, Sem.run_bind, eqGuard, binOp, Op.stringOp]
set_option maxHeartbeats 8000000 in
set_option maxRecDepth 100000 in
theorem rseal_calls (d : Dg) (k : ByteArray) (w : World) (hg : GR w) (hd : d.ok) (hk : k.size < 274877906944) : Calls Tryz.prog 19 #[.agg d.cells.toArray, .string k] w fun e w' => e = .returned (.tuple #[.string (sealB d (bl k)).1, .int .i64 (sealB d (bl k)).2]) ∧ Below w.heap.size w w' := by
  have HG := Aside0.mk hg
  by_cases h37 : 3 ≤ d.kind ∧ d.kind ≤ 7
  · obtain ⟨z, ez⟩ : ∃ z : List UInt8, z = List.replicate 32 0 := ⟨_, rfl⟩
    have HZ := Aside0.mk ez
    have HZL := Aside0.mk (show z.length = 32 by rw [ez, List.length_replicate])
    obtain ⟨d2, ed2⟩ : ∃ d2, d2 = { d with tag := str (List.replicate 32 0) } := ⟨_, rfl⟩
    obtain ⟨s, es⟩ : ∃ s, s = (enc d2).1 := ⟨_, rfl⟩
    obtain ⟨c, ec⟩ : ∃ c, c = (enc d2).2 := ⟨_, rfl⟩
    have hok : d2.ok := by rw [ed2]; unfold Dg.ok at hd ⊢; exact ⟨hd.1, hd.2.1, hd.2.2.1, hd.2.2.2.1, hd.2.2.2.2.1, hd.2.2.2.2.2.1, hd.2.2.2.2.2.2.1, by show (List.replicate 32 (0 : UInt8)).length < _; rw [List.length_replicate]; omega⟩
    have hrow : d.cells.set 14 (.string (str z)) = d2.cells := by rw [ed2, ez]; rfl
    have EC := Aside0.mk (show ∀ w, Calls Tryz.prog 17 #[.agg d2.cells.toArray] w fun e w' => e = .returned (.tuple #[.string s, .int .i64 c]) ∧ Below w.heap.size w w' from fun w => by rw [es, ec]; exact rencode_calls d2 hok w)
    have hss : s.size ≤ 1200 := by rw [es]; exact enc_size d2
    have ESB := Aside0.mk (show sealB d (bl k) = if c ≠ 0 then (⟨#[]⟩, c) else (str (bodyB (bl s) ++ hmac (bl k) (bodyB (bl s))), 0) from by unfold sealB; rw [if_pos h37, ← ed2, ← ec, ← es])
    have HROW := Aside0.mk hrow
    have p1 : decide (d.kind < 3) = false := decide_eq_false (by omega)
    have p2 : decide (7 < d.kind) = false := decide_eq_false (by omega)
    clear es ec ed2 hok hrow h37 ez
    obtain ⟨b, eb⟩ : ∃ b, b = str (bodyB (bl s)) := ⟨_, rfl⟩
    obtain ⟨m, em⟩ : ∃ m, m = str (hmac (bl k) (bodyB (bl s))) := ⟨_, rfl⟩
    have BC := Aside0.mk (show ∀ w, Calls Tryz.prog 13 #[.string s] w fun e w' => e = .returned (.string b) ∧ Below w.heap.size w w' from fun w => by
      have h := rbody_calls (bl s) (by rw [bl_len]; omega) w
      rw [str_bl, ← eb] at h
      exact h)
    have TC := Aside0.mk (show ∀ w, GR w → Calls Tryz.prog 37 #[.string k, .string b] w fun e w' => e = .returned (.string m) ∧ Below w.heap.size w w' from fun w hg => by
      have h := rtag_calls k b w hg (by omega) (by rw [eb]; have := body_len (bl s); rw [bl_len] at this; show (bodyB (bl s)).length < _; omega)
      rw [em]
      rw [show bl b = bodyB (bl s) by rw [eb]; rfl] at h
      exact h)
    have EBM := Aside0.mk (show str (bodyB (bl s) ++ hmac (bl k) (bodyB (bl s))) = b ++ m from by rw [eb, em]; apply ByteArray.ext; simp [str])
    have o3 : ¬ 9223372036854775807 < b.size + m.size := by
      have h1 : b.size ≤ s.size := by rw [eb]; have := body_len (bl s); rw [bl_len] at this; exact this
      have h2 : m.size = 32 := by rw [em]; exact length_sha _
      omega
    clear eb em hss hg hd hk
    by_cases hc : c = 0
    · have ES2 := Aside0.mk (show sealB d (bl k) = (b ++ m, 0) from by rw [ESB.out, if_neg (by rw [hc]; decide), EBM.out])
      subst hc
      go_enter Tryz.func19, Tryz.ntmps19
      go_wp2_with (first
        | ((with_reducible first | refine at_box_ ?_ | refine at_box2_ ?_); refine wpList_box_v rfl 27 _ rfl d.cells rfl (by kernel_rfl) ?_; intro D w1 eD hD1 hb1 hz1; have c0 : w1.cell? ⟨D, 0, none⟩ = some (.int .i64 d.kind) := cell_of hD1.out rfl)
        | ((with_reducible first | refine at_mk_ ?_ | refine at_mk2_ ?_); refine wpList_make_v rfl 39 5 _ _ rfl 32 rfl rfl Tryz.underlying39 (.int .u8 0) (by kernel_rfl) rfl (by decide) ?_; intro g w2 eg hg2 hb2 hz2; have HGR := Aside0.mk (show w2.heap[g]? = some (.cells (z.map vB).toArray 5 (0, 0)) from by rw [HZ.out, List.map_replicate]; exact hg2.out); have HB3 := Aside0.mk (hb1.out.trans (hb2.out.mono hb1.out.size)); have HD3 := Aside0.mk ((hb2.out.block D (blk_lt hD1.out)).trans hD1.out); have c14 : w2.cell? ⟨D, 14, none⟩ = some (.string d.tag) := cell_of HD3.out rfl; have f14 := Wd_thaw HD3.out 14; clear c0)
        | ((with_reducible first | refine at_conv_ ?_ | refine at_conv2_ ?_); refine wpList_string_of rfl _ _ 5 _ rfl (some ⟨g, 0, none⟩) 32 32 rfl z HZL.out (bytes_of_row HGR.out) Tryz.underlying39 (by kernel_rfl) Tryz.underlying5 ?_)
        | ((with_reducible first | refine at_load_ ?_ | refine at_load2_ ?_); refine wpList_load_agg rfl 27 _ rfl D 0 rfl d2.cells (load_all (HROW.out ▸ set_of HD3.out 14 (.string (str z)))) _ Tryz.underlying27 rfl (by kernel_rfl) ?_)
        | (go_at_call 17; (with_reducible refine (EC.out _).mono ?_); rintro e w4 ⟨rfl, hb4⟩; have HB4 := Aside0.mk (show Below w.heap.size w w4 from (below_set1 HB3.out (Nat.le_of_eq eD.out.symm) _).trans (hb4.mono (below_set1 HB3.out (Nat.le_of_eq eD.out.symm) _).size)); clear hb4)
        | (go_at_call 13; (with_reducible refine (BC.out _).mono ?_); rintro e w5 ⟨rfl, hb5⟩; have HB5 := Aside0.mk (HB4.out.trans (hb5.mono HB4.out.size)); clear hb5)
        | (go_at_call 37; (with_reducible refine (TC.out _ (GR.below HG.out HB5.out)).mono ?_); rintro e w6 ⟨rfl, hb6⟩; have HB6 := Aside0.mk (HB5.out.trans (hb6.mono HB5.out.size)); clear hb6))
      go_ret2
      rw [ES2.out]
      exact ⟨rfl, HB6.out⟩
    · have ES2 := Aside0.mk (show sealB d (bl k) = (⟨#[]⟩, c) from by rw [ESB.out, if_pos hc])
      have o1 : (c == 0) = false := beq_eq_false_iff_ne.mpr hc
      have o2 : (c != 0) = true := by simp [bne, o1]
      clear hc
      go_enter Tryz.func19, Tryz.ntmps19
      go_wp2_with (first
        | ((with_reducible first | refine at_box_ ?_ | refine at_box2_ ?_); refine wpList_box_v rfl 27 _ rfl d.cells rfl (by kernel_rfl) ?_; intro D w1 eD hD1 hb1 hz1; have c0 : w1.cell? ⟨D, 0, none⟩ = some (.int .i64 d.kind) := cell_of hD1.out rfl)
        | ((with_reducible first | refine at_mk_ ?_ | refine at_mk2_ ?_); refine wpList_make_v rfl 39 5 _ _ rfl 32 rfl rfl Tryz.underlying39 (.int .u8 0) (by kernel_rfl) rfl (by decide) ?_; intro g w2 eg hg2 hb2 hz2; have HGR := Aside0.mk (show w2.heap[g]? = some (.cells (z.map vB).toArray 5 (0, 0)) from by rw [HZ.out, List.map_replicate]; exact hg2.out); have HB3 := Aside0.mk (hb1.out.trans (hb2.out.mono hb1.out.size)); have HD3 := Aside0.mk ((hb2.out.block D (blk_lt hD1.out)).trans hD1.out); have c14 : w2.cell? ⟨D, 14, none⟩ = some (.string d.tag) := cell_of HD3.out rfl; have f14 := Wd_thaw HD3.out 14; clear c0)
        | ((with_reducible first | refine at_conv_ ?_ | refine at_conv2_ ?_); refine wpList_string_of rfl _ _ 5 _ rfl (some ⟨g, 0, none⟩) 32 32 rfl z HZL.out (bytes_of_row HGR.out) Tryz.underlying39 (by kernel_rfl) Tryz.underlying5 ?_)
        | ((with_reducible first | refine at_load_ ?_ | refine at_load2_ ?_); refine wpList_load_agg rfl 27 _ rfl D 0 rfl d2.cells (load_all (HROW.out ▸ set_of HD3.out 14 (.string (str z)))) _ Tryz.underlying27 rfl (by kernel_rfl) ?_)
        | (go_at_call 17; (with_reducible refine (EC.out _).mono ?_); rintro e w4 ⟨rfl, hb4⟩; have HB4 := Aside0.mk (show Below w.heap.size w w4 from (below_set1 HB3.out (Nat.le_of_eq eD.out.symm) _).trans (hb4.mono (below_set1 HB3.out (Nat.le_of_eq eD.out.symm) _).size)); clear hb4))
      go_ret2
      rw [ES2.out]
      exact ⟨rfl, HB4.out⟩
  · have ES2 := Aside0.mk (show sealB d (bl k) = (⟨#[]⟩, 71) from if_neg h37)
    clear hg hd hk
    by_cases h3 : d.kind < 3
    · have p1 : decide (d.kind < 3) = true := decide_eq_true h3
      clear h37
      go_enter Tryz.func19, Tryz.ntmps19
      go_wp2_with ((with_reducible first | refine at_box_ ?_ | refine at_box2_ ?_); refine wpList_box_v rfl 27 _ rfl d.cells rfl (by kernel_rfl) ?_; intro D w1 eD hD1 hb1 hz1; have c0 : w1.cell? ⟨D, 0, none⟩ = some (.int .i64 d.kind) := cell_of hD1.out rfl)
      go_ret2
      rw [ES2.out]
      exact ⟨rfl, hb1.out⟩
    · have p1 : decide (d.kind < 3) = false := decide_eq_false h3
      have h7 : 7 < d.kind := by omega
      have p2 : decide (7 < d.kind) = true := decide_eq_true h7
      clear h37
      go_enter Tryz.func19, Tryz.ntmps19
      go_wp2_with ((with_reducible first | refine at_box_ ?_ | refine at_box2_ ?_); refine wpList_box_v rfl 27 _ rfl d.cells rfl (by kernel_rfl) ?_; intro D w1 eD hD1 hb1 hz1; have c0 : w1.cell? ⟨D, 0, none⟩ = some (.int .i64 d.kind) := cell_of hD1.out rfl)
      go_ret2
      rw [ES2.out]
      exact ⟨rfl, hb1.out⟩
end Go.Proofs.YtniabkphbnimaaaGreatDoor.Sh
namespace Go.Proofs.YtniabkphbnimaaaGreatDoor.Sh
open Go Go.RowKit Go.Maps Go.Proofs.YtniabkphbnimaaaGreatDoorW.PrintWords Go.Proofs.YtniabkphbnimaaaGreatDoorW.PrintLast Go.Proofs.YtniabkphbnimaaaGreatDoor.Bs
theorem times_l (c : UInt8) (n : Nat) (hn : n < 4611686018427387904) : ∀ (m i k : Nat), m = n - i → i ≤ n → m < k →
    QQA.joustlaw07_times.l0 k (c.toNat : Int) (n : Int) (List.replicate i (c.toNat : Int) ++ List.replicate (n - i) 0) (i : Int) = some (strOfNums (List.replicate n (c.toNat : Int))) := by
  intro m
  induction m with
  | zero =>
    intro i k hm hi hk
    obtain ⟨k, rfl⟩ : ∃ j, k = j + 1 := ⟨k - 1, by omega⟩
    have : i = n := by omega
    subst this
    unfold QQA.joustlaw07_times.l0
    rw [if_neg (by omega)]
    simp
  | succ m ih =>
    intro i k hm hi hk
    obtain ⟨k, rfl⟩ : ∃ j, k = j + 1 := ⟨k - 1, by omega⟩
    have hz : wrap64 ((i : Int) + 1) = ((i + 1 : Nat) : Int) := by unfold wrap64; omega
    unfold QQA.joustlaw07_times.l0
    rw [if_pos (by omega), if_pos (by omega), if_pos (by simp; omega), hz]
    have e : (List.replicate i (c.toNat : Int) ++ List.replicate (n - i) 0).set ((i : Int)).toNat (c.toNat : Int) = List.replicate (i + 1) (c.toNat : Int) ++ List.replicate (n - (i + 1)) 0 := by
      rw [Int.toNat_natCast, List.set_append_right _ _ (by simp), List.length_replicate, Nat.sub_self, show n - i = (n - (i + 1)) + 1 by omega, List.replicate_succ, List.set_cons_zero, List.replicate_succ' (n := i), List.append_assoc]
      rfl
    rw [e]
    exact ih (i + 1) k (by omega) (by omega) (by omega)
theorem strOf_rep (c : UInt8) (n : Nat) : strOfNums (List.replicate n (c.toNat : Int)) = str (List.replicate n c) := by
  unfold strOfNums str
  simp
theorem times_f (c : UInt8) (n : Nat) (hn : n ≤ 281474976710656) : QQA.joustlaw07_times.f (n + 1) (c.toNat : Int) (n : Int) = some (str (List.replicate n c)) := by
  unfold QQA.joustlaw07_times.f
  rw [if_pos (by omega), if_pos (by omega)]
  have := times_l c n (by omega) n 0 (n + 1) (by omega) (by omega) (by omega)
  rw [strOf_rep] at this
  simpa using this
theorem times_calls (c : UInt8) (ci : Int) (hc : ci = (c.toNat : Int)) (n : Nat) (ni : Int) (hni : ni = (n : Int)) (hn : n ≤ 281474976710656) (w : World) : Calls Tryz.prog 21 #[.int .u8 ci, .int .i64 ni] w fun e w' => e = .returned (.string (str (List.replicate n c))) ∧ Below w.heap.size w w' := by
  subst hc hni
  exact (QQA.joustlaw07_times.calls _ _ _ _ w (times_f c n hn)).mono fun e w' hh => ⟨hh.1, hh.2⟩
def bA : List UInt8 := [74, 48, 49, 5, 0, 0, 0, 0, 0, 0, 0, 1, 0, 0, 0, 0, 0, 0, 0, 2, 255, 5, 1]
def tA : List UInt8 := List.replicate 32 116
def dA : Dg := ⟨5, ⟨#[]⟩, 0, ⟨#[]⟩, ⟨#[]⟩, 1, 0, ⟨#[]⟩, 2, -1, 5, true, false, ⟨#[]⟩, str tA⟩
def hA : List UInt8 := hmac [107] bA
theorem hA_len : hA.length = 32 := length_sha _
theorem enc_A : enc dA = (str (bA ++ tA), 0) := by kernel_rfl
theorem body_A (m : List UInt8) (hm : m.length = 32) : bodyB (bA ++ m) = bA := by
  have hl : (bA ++ m).length = 55 := by rw [List.length_append, hm]; rfl
  unfold bodyB
  rw [hl, if_pos ⟨rfl, by omega, by show 3 ≤ 5; omega, by show 5 ≤ 7; omega⟩]
  exact List.take_left (l₁ := bA) (l₂ := m)
theorem enc_A0 : enc { dA with tag := str (List.replicate 32 0) } = (str (bA ++ List.replicate 32 0), 0) := by kernel_rfl
theorem seal_A : sealB dA [107] = (str (bA ++ hA), 0) := by
  unfold sealB
  rw [if_pos (show 3 ≤ dA.kind ∧ dA.kind ≤ 7 by decide), enc_A0]
  rw [if_neg (show ¬ ((str (bA ++ List.replicate 32 (0 : UInt8)), (0 : Int)).2 ≠ 0) by simp)]
  show (str (bodyB (bA ++ List.replicate 32 0) ++ hmac [107] (bodyB (bA ++ List.replicate 32 0))), (0 : Int)) = _
  rw [body_A _ (by rw [List.length_replicate])]
  rfl
theorem dec_A : (dec (bA ++ hA)).1.seq = 2 ∧ (dec (bA ++ hA)).2 = 0 := by
  have hl := hA_len
  obtain ⟨t, et⟩ : ∃ t : List UInt8, t = [0, 0, 0, 0, 0, 0, 0, 1, 0, 0, 0, 0, 0, 0, 0, 2, 255, 5, 1] ++ hA := ⟨_, rfl⟩
  have e : bA ++ hA = 74 :: 48 :: 49 :: 5 :: t := by rw [et]; rfl
  have ht : t.length = 51 := by rw [et, List.length_append, hl]; rfl
  rw [e, dec_at 5 t (by simp only [List.length_cons]; omega) (by decide)]
  show (fin (getAll (fieldsOf 5) (dk 5, false, t))).1.seq = 2 ∧ _
  have h3 : ¬ 3 < (t.getD 18 0).toNat := by rw [et]; decide
  have hs : num ((t.drop 8).take 8) = 2 := by rw [et]; rfl
  have hd := dec5 t
  rw [if_pos ht, if_neg h3] at hd
  refine ⟨?_, ?_⟩
  · show (fin (getAll (fieldsOf 5) (dk 5, false, t))).1.seq = 2
    rw [hd]
    exact hs
  · show (fin (getAll (fieldsOf 5) (dk 5, false, t))).2 = 0
    rw [hd]
theorem seald_A (m k : List UInt8) (hm : m.length = 32) : sealedB (bA ++ m) k = decide (m = hmac k bA) := by
  unfold sealedB
  rw [body_A m hm]
  refine decide_eq_decide.mpr ⟨fun h => ?_, fun h => ⟨by decide, ?_⟩⟩
  · have := h.2
    rwa [List.drop_left] at this
  · rw [List.drop_left]
    exact h
theorem tags_0 : (hmac [107] bA).getD 0 0 ≠ (hmac [108] bA).getD 0 0 := by decide +kernel
theorem tags_1 : (hmac [107] bA).getD 0 0 ≠ 116 := by decide +kernel
theorem seald_1 : sealedB (bA ++ hA) [107] = true := by
  rw [seald_A _ _ hA_len]
  exact decide_eq_true rfl
theorem seald_2 : sealedB (bA ++ hA) [108] = false := by
  rw [seald_A _ _ hA_len]
  refine decide_eq_false (fun h => tags_0 ?_)
  exact congrArg (fun l : List UInt8 => l.getD 0 0) h
theorem seald_3 : sealedB (bA ++ tA) [107] = false := by
  rw [seald_A _ _ (by unfold tA; rw [List.length_replicate])]
  refine decide_eq_false (fun h => tags_1 ?_)
  have := congrArg (fun l : List UInt8 => l.getD 0 0) h
  exact this.symm
theorem dA_ok : dA.ok := by
  unfold Dg.ok
  decide
end Go.Proofs.YtniabkphbnimaaaGreatDoor.Sh
namespace Go.Proofs.YtniabkphbnimaaaGreatDoor.Sh
open Go Go.RowKit Go.Maps Go.Proofs.YtniabkphbnimaaaGreatDoorW.PrintWords Go.Proofs.YtniabkphbnimaaaGreatDoorW.PrintLast Go.Proofs.YtniabkphbnimaaaGreatDoor.Bs
def T_9_5 : Bool × List (List Nat × List Nat) := (true, [([], []), ([0], [0]), ([1], [1]), ([2], [2]), ([3], [3]), ([4, 3], [3, 4]), ([3, 5], [3, 5]), ([6, 3], [6]), ([7], [7]), ([8, 7], [7, 8]), ([7, 9], [7, 9]), ([10, 7], [10]), ([11], [11]), ([12, 11], [11, 12]), ([11, 13], [11, 13]), ([14, 11], [14]), ([15], [15]), ([15, 15], [15]), ([17, 15], [15, 17]), ([18, 15], [15, 18]), ([17, 15], [15]), ([19, 20, 15], [15, 19, 20]), ([21, 15], [15, 21]), ([20, 15], [15]), ([22, 23, 15], [15, 22, 23]), ([16, 24, 15], [15, 16, 24]), ([15, 25], [15, 25]), ([26, 23], [26]), ([27], [27]), ([28, 27], [27, 28]), ([29, 27], [27, 29]), ([27, 30], [27, 30]), ([31, 27], [31]), ([32], [32]), ([33, 32, 32], [32, 33]), ([32], [32]), ([35, 32], [32, 35]), ([34, 36, 32], [32, 34, 36]), ([32, 37], [32, 37]), ([38, 34], [38]), ([39], [39]), ([40, 39, 39], [39, 40]), ([39, 41], [39, 41]), ([42, 41], [42]), ([43], [43]), ([44, 43, 43], [43, 44]), ([45, 43], [43, 45]), ([43, 46], [43, 46]), ([47, 45], [47]), ([48], [48]), ([49, 48, 48], [48, 49]), ([50, 48], [48, 50]), ([48, 51], [48, 51]), ([52, 50, 0, 1, 2, 3, 4, 5, 6, 7, 8, 9, 10, 11, 12, 13, 14, 15, 16, 17, 18, 19, 20, 21, 22, 23, 24, 25, 26, 27, 28, 29, 30, 31, 32, 33, 34, 35, 36, 37, 38, 39, 40, 41, 42, 43, 44, 45, 46, 47, 48, 49, 50, 51, 52], [52])])
def B_9_5 : List Nat := [0, 1, 3, 7, 15, 31, 63, 127, 255, 511, 1023, 2047, 4095, 8191, 16383, 32767, 65535, 65535, 196607, 458751, 196607, 2031615, 4128767, 1245183, 16711679, 33554431, 67108863, 134217727, 268435455, 536870911, 1073741823, 2147483647, 4294967295, 8589934591, 17179869183, 8589934591, 42949672959, 137438953471, 274877906943, 549755813887, 1099511627775, 2199023255551, 4398046511103, 8796093022207, 17592186044415, 35184372088831, 70368744177663, 140737488355327, 281474976710655, 562949953421311, 1125899906842623, 2251799813685247, 4503599627370495, 9007199254740991]
theorem tab_f9_5 : rtab .any (opsOf Tryz.f9 5) = T_9_5 := by kernel_rfl
theorem bits_f9_5 : waitsOk T_9_5.2 B_9_5 = true := by kernel_rfl
set_option maxHeartbeats 8000000 in
set_option maxRecDepth 100000 in
theorem alive_calls (w : World) (hg : GL w) : Calls Tryz.prog 9 #[] w fun e w' => e = .returned (.bool true) ∧ Below w.heap.size w w' := by
  have HG := Aside0.mk hg
  obtain ⟨ta, eta⟩ : ∃ ta : List UInt8, ta = tA := ⟨_, rfl⟩
  have HTA := Aside0.mk (show ta.length = 32 by rw [eta]; rfl)
  obtain ⟨s, es⟩ : ∃ s, s = str (bA ++ tA) := ⟨_, rfl⟩
  obtain ⟨t, et⟩ : ∃ t, t = str (bA ++ hA) := ⟨_, rfl⟩
  obtain ⟨dB, edB⟩ : ∃ d : Dg, d = (dec (bA ++ hA)).1 := ⟨_, rfl⟩
  have TC32 := Aside0.mk (show ∀ w, Calls Tryz.prog 21 #[.int .u8 116, .int .i64 32] w fun e w' => e = .returned (.string (str ta)) ∧ Below w.heap.size w w' from fun w => by rw [eta]; exact times_calls 116 _ rfl 32 _ rfl (by omega) w)
  have TC7 := Aside0.mk (show ∀ w, Calls Tryz.prog 21 #[.int .u8 0, .int .i64 7] w fun e w' => e = .returned (.string (str [0, 0, 0, 0, 0, 0, 0])) ∧ Below w.heap.size w w' from fun w => times_calls 0 _ rfl 7 _ rfl (by omega) w)
  have EC := Aside0.mk (show ∀ w, Calls Tryz.prog 16 #[.agg dA.cells.toArray] w fun e w' => e = .returned (.tuple #[.string s, .int .i64 0]) ∧ Below w.heap.size w w' from fun w => by
    have h := encode_calls dA dA_ok (by decide) w
    rw [enc_A, ← es] at h
    exact h)
  have SC := Aside0.mk (show ∀ w, GL w → Calls Tryz.prog 18 #[.agg dA.cells.toArray, .string ⟨#[107]⟩] w fun e w' => e = .returned (.tuple #[.string t, .int .i64 0]) ∧ Below w.heap.size w w' from fun w hg => by
    have h := seal_calls dA ⟨#[107]⟩ w hg dA_ok (by decide) (by decide)
    rw [show sealB dA (bl ⟨#[107]⟩) = (str (bA ++ hA), 0) from seal_A, ← et] at h
    exact h)
  have DC := Aside0.mk (show ∀ w, Calls Tryz.prog 10 #[.string t] w fun e w' => e = .returned (.tuple #[.agg dB.cells.toArray, .int .i64 0]) ∧ Below w.heap.size w w' from fun w => by
    have h := decode_calls (bA ++ hA) w
    rw [dec_A.2, ← et, ← edB] at h
    exact h)
  have DAC := Aside0.mk (show Value.agg #[.int .i64 5, .string ⟨#[]⟩, .int .u64 0, .string ⟨#[]⟩, .string ⟨#[]⟩, .int .u64 1, .int .i64 0, .string ⟨#[]⟩, .int .u64 2, .int .i64 (-1), .int .i64 5, .bool true, .bool false, .string ⟨#[]⟩, .string (str ta)] = .agg dA.cells.toArray from by rw [eta]; rfl)
  have hts : s.size = 55 := by rw [es]; rfl
  have S8 := Aside0.mk (show dB.cells[8]? = some (.int .u64 2) from by
    show some (Value.int .u64 (dB.seq : Int)) = _
    rw [edB, dec_A.1]
    rfl)
  have BC := Aside0.mk (show ∀ w, Calls Tryz.prog 12 #[.string s] w fun e w' => e = .returned (.string (str bA)) ∧ Below w.heap.size w w' from fun w => by
    have h := body_calls (bA ++ tA) (by decide) w
    rw [body_A tA (by decide), ← es] at h
    exact h)
  have S1 := Aside0.mk (show ∀ w, GL w → Calls Tryz.prog 14 #[.string t, .string ⟨#[107]⟩] w fun e w' => e = .returned (.bool true) ∧ Below w.heap.size w w' from fun w hg => by
    have h := sealed_calls (bA ++ hA) ⟨#[107]⟩ w hg (by rw [List.length_append, hA_len]; decide) (by decide)
    rw [show sealedB (bA ++ hA) (bl ⟨#[107]⟩) = true from seald_1, ← et] at h
    exact h)
  have S2 := Aside0.mk (show ∀ w, GL w → Calls Tryz.prog 14 #[.string t, .string ⟨#[108]⟩] w fun e w' => e = .returned (.bool false) ∧ Below w.heap.size w w' from fun w hg => by
    have h := sealed_calls (bA ++ hA) ⟨#[108]⟩ w hg (by rw [List.length_append, hA_len]; decide) (by decide)
    rw [show sealedB (bA ++ hA) (bl ⟨#[108]⟩) = false from seald_2, ← et] at h
    exact h)
  have S3 := Aside0.mk (show ∀ w, GL w → Calls Tryz.prog 14 #[.string s, .string ⟨#[107]⟩] w fun e w' => e = .returned (.bool false) ∧ Below w.heap.size w w' from fun w hg => by
    have h := sealed_calls (bA ++ tA) ⟨#[107]⟩ w hg (by decide) (by decide)
    rw [show sealedB (bA ++ tA) (bl ⟨#[107]⟩) = false from seald_3, ← es] at h
    exact h)
  have EQ1 := Aside0.mk (show (s.toList == (str (((((([74, 48, 49, 5] : List UInt8) ++ [0, 0, 0, 0, 0, 0, 0]) ++ [1]) ++ [0, 0, 0, 0, 0, 0, 0]) ++ [2, 255, 5, 1]) ++ ta)).toList) = true from by
    rw [es, eta, str_list, str_list]
    exact beq_iff_eq.mpr rfl)
  have EQ2 := Aside0.mk (show ((str bA).toList == (s.extract 0 23).toList) = true from by
    rw [es, str_take, str_list, str_list]
    exact beq_iff_eq.mpr rfl)
  clear es et eta edB hg
  go_enter Tryz.func9, Tryz.ntmps9
  go_upto_region 4 with (first
    | (go_at_call 21; (with_reducible refine (TC32.out _).mono ?_); rintro e w1 ⟨rfl, hb1⟩; have HB := Aside0.mk hb1; clear hb1)
    | ((with_reducible first | refine at_alloc_ ?_ | refine at_alloc2_ ?_); refine wpList_alloc_v rfl 27 rfl Dg.zero.cells (by kernel_rfl) ?_; intro D w2 eD hD2 hb2 hz2; have HDD := Aside0.mk (show w.heap.size ≤ D from by have := eD.out; have := HB.out.size; omega); have n1_ := Aside0.mk (HB.out.trans (hb2.out.mono HB.out.size)); clear HB; have HB := n1_; clear n1_ hb2 hz2)
    | ((with_reducible first | refine at_store_ ?_ | refine at_store2_ ?_); refine wpList_store_agg rfl 27 _ _ rfl D 0 rfl dA.cells Dg.zero.cells (by exact DAC.out) _ hD2.out (by exact Nat.le_refl 15) (fun v hv => one_cells hv) (by kernel_rfl) ?_; intro w3 hD3 hm3 hz3; rw [splice_all Dg.zero.cells dA.cells rfl] at hD3; have HD := Aside0.mk hD3.out; have n1_ := Aside0.mk (toBelow' HB.out hm3.out HDD.out); clear HB; have HB := n1_; clear n1_ hD2 hD3 hm3 hz3)
    | ((with_reducible first | refine at_load_ ?_ | refine at_load2_ ?_); refine wpList_load_agg rfl 27 _ rfl D 0 rfl dA.cells (load_all HD.out) _ Tryz.underlying27 rfl (by kernel_rfl) ?_)
    | (go_at_call 16; (with_reducible refine (EC.out _).mono ?_); rintro e w4 ⟨rfl, hb4⟩; have n1_ := Aside0.mk (HB.out.trans (hb4.mono HB.out.size)); have n2_ := Aside0.mk ((hb4.block D (blk_lt HD.out)).trans HD.out); clear HB HD hb4; have HB := n1_; have HD := n2_; clear n1_ n2_)
    | (go_at_call 18; (with_reducible refine (SC.out _ (gl_below HG.out HB.out)).mono ?_); rintro e w5 ⟨rfl, hb5⟩; have n1_ := Aside0.mk (HB.out.trans (hb5.mono HB.out.size)); have n2_ := Aside0.mk ((hb5.block D (blk_lt HD.out)).trans HD.out); clear HB HD hb5; have HB := n1_; have HD := n2_; clear n1_ n2_))
  go_wp2_with (first
    | (go_at_call 10; (with_reducible refine (DC.out _).mono ?_); rintro e w6 ⟨rfl, hb6⟩; have n1_ := Aside0.mk (HB.out.trans (hb6.mono HB.out.size)); have n2_ := Aside0.mk ((hb6.block D (blk_lt HD.out)).trans HD.out); clear HB HD hb6; have HB := n1_; have HD := n2_; clear n1_ n2_)
    | ((with_reducible first | refine at_alloc_ ?_ | refine at_alloc2_ ?_); refine wpList_alloc_v rfl 27 rfl Dg.zero.cells (by kernel_rfl) ?_; intro E w7 eE hE7 hb7 hz7; have HEE := Aside0.mk (show w.heap.size ≤ E from by have := eE.out; have := HB.out.size; omega); have n1_ := Aside0.mk (HB.out.trans (hb7.out.mono HB.out.size)); clear HB; have HB := n1_; clear n1_ hb7 hz7)
    | ((with_reducible first | refine at_store_ ?_ | refine at_store2_ ?_); refine wpList_store_agg rfl 27 _ _ rfl E 0 rfl dB.cells Dg.zero.cells (by rfl) _ hE7.out (by exact Nat.le_refl 15) (fun v hv => one_cells hv) (by kernel_rfl) ?_; intro w8 hE8 hm8 hz8; rw [splice_all Dg.zero.cells dB.cells rfl] at hE8; have HE := Aside0.mk hE8.out; have n1_ := Aside0.mk (toBelow' HB.out hm8.out HEE.out); clear HB; have HB := n1_; clear n1_ hE7 hE8 hm8 hz8))
  refine start_ (n := 54) (S := fun w' => w'.cell? ⟨E, 8, none⟩ = some (.int .u64 2)) (ds := []) #[false, false, false, false, false, false, false, false, false, false, false, false, false, false, false, false, false, false, false, false, false, false, false, false, false, false, false, false, false, false, false, false, false, false, false, false, false, false, false, false, false, false, false, false, false, false, false, false, false, false, false, false, false, false] (by kernel_rfl) rfl rfl (cell_of HE.out S8.out) (fun hHeld => ?_)
  refine with_tabW tab_f9_5 bits_f9_5 (fun HT_ HW_ => ?_)
  refine pure_ (i := 0) (N := some 26) (v := ?_) (a' := ?_) #[true, false, false, false, false, false, false, false, false, false, false, false, false, false, false, false, false, false, false, false, false, false, false, false, false, false, false, false, false, false, false, false, false, false, false, false, false, false, false, false, false, false, false, false, false, false, false, false, false, false, false, false, false, false] rfl rfl (any_of HT_.out (by kernel_rfl)) (fun _ _ _ h => h) (Or.inl ⟨by rfl, ?_⟩) ?_ ?_
  rotate_left
  · intro w'
    go_simp
    with_reducible rfl
  rotate_left
  · simp only [pS]
    rfl
  refine pure_ (i := 1) (N := some 27) (v := ?_) (a' := ?_) #[true, true, false, false, false, false, false, false, false, false, false, false, false, false, false, false, false, false, false, false, false, false, false, false, false, false, false, false, false, false, false, false, false, false, false, false, false, false, false, false, false, false, false, false, false, false, false, false, false, false, false, false, false, false] rfl rfl (any_of HT_.out (by kernel_rfl)) (fun _ _ _ h => h) (Or.inl ⟨by rfl, ?_⟩) ?_ ?_
  rotate_left
  · intro w'
    go_simp
    with_reducible rfl
  rotate_left
  · simp only [pS]
    rfl
  refine pure_ (i := 2) (N := some 28) (v := ?_) (a' := ?_) #[true, true, true, false, false, false, false, false, false, false, false, false, false, false, false, false, false, false, false, false, false, false, false, false, false, false, false, false, false, false, false, false, false, false, false, false, false, false, false, false, false, false, false, false, false, false, false, false, false, false, false, false, false, false] rfl rfl (any_of HT_.out (by kernel_rfl)) (fun _ _ _ h => h) (Or.inl ⟨by rfl, ?_⟩) ?_ ?_
  rotate_left
  · intro w'
    go_simp
    with_reducible rfl
  rotate_left
  · simp only [pS]
    rfl
  refine pure_ (i := 3) (N := some 29) (v := ?_) (a' := ?_) #[true, true, true, true, false, false, false, false, false, false, false, false, false, false, false, false, false, false, false, false, false, false, false, false, false, false, false, false, false, false, false, false, false, false, false, false, false, false, false, false, false, false, false, false, false, false, false, false, false, false, false, false, false, false] rfl rfl (any_of HT_.out (by kernel_rfl)) (fun _ _ _ h => h) (Or.inl ⟨by rfl, ?_⟩) ?_ ?_
  rotate_left
  · intro w'
    go_simp
    with_reducible rfl
  rotate_left
  · simp only [pS]
    rfl
  refine pure_ (i := 4) (N := some 30) (v := ?_) (a' := ?_) #[true, true, true, true, true, false, false, false, false, false, false, false, false, false, false, false, false, false, false, false, false, false, false, false, false, false, false, false, false, false, false, false, false, false, false, false, false, false, false, false, false, false, false, false, false, false, false, false, false, false, false, false, false, false] rfl rfl (any_of HT_.out (by kernel_rfl)) (fun _ _ _ h => h) (Or.inl ⟨by rfl, ?_⟩) ?_ ?_
  rotate_left
  · intro w'
    go_simp
    with_reducible rfl
  rotate_left
  · simp only [pS]
    rfl
  refine pure_ (i := 5) (N := some 31) (v := ?_) (a' := ?_) #[true, true, true, true, true, true, false, false, false, false, false, false, false, false, false, false, false, false, false, false, false, false, false, false, false, false, false, false, false, false, false, false, false, false, false, false, false, false, false, false, false, false, false, false, false, false, false, false, false, false, false, false, false, false] rfl rfl (any_of HT_.out (by kernel_rfl)) (fun _ _ _ h => h) (Or.inl ⟨by rfl, ?_⟩) ?_ ?_
  rotate_left
  · intro w'
    go_simp
    with_reducible rfl
  rotate_left
  · simp only [pS]
    rfl
  refine pure_ (i := 6) (N := some 32) (v := ?_) (a' := ?_) #[true, true, true, true, true, true, true, false, false, false, false, false, false, false, false, false, false, false, false, false, false, false, false, false, false, false, false, false, false, false, false, false, false, false, false, false, false, false, false, false, false, false, false, false, false, false, false, false, false, false, false, false, false, false] rfl rfl (any_of HT_.out (by kernel_rfl)) (fun _ _ _ h => h) (Or.inl ⟨by rfl, ?_⟩) ?_ ?_
  rotate_left
  · intro w'
    go_simp
    with_reducible rfl
  rotate_left
  · simp only [pS]
    rfl
  refine pure_ (i := 7) (N := some 33) (v := ?_) (a' := ?_) #[true, true, true, true, true, true, true, true, false, false, false, false, false, false, false, false, false, false, false, false, false, false, false, false, false, false, false, false, false, false, false, false, false, false, false, false, false, false, false, false, false, false, false, false, false, false, false, false, false, false, false, false, false, false] rfl rfl (any_of HT_.out (by kernel_rfl)) (fun _ _ _ h => h) (Or.inl ⟨by rfl, ?_⟩) ?_ ?_
  rotate_left
  · intro w'
    go_simp
    with_reducible rfl
  rotate_left
  · simp only [pS]
    rfl
  refine pure_ (i := 8) (N := some 34) (v := ?_) (a' := ?_) #[true, true, true, true, true, true, true, true, true, false, false, false, false, false, false, false, false, false, false, false, false, false, false, false, false, false, false, false, false, false, false, false, false, false, false, false, false, false, false, false, false, false, false, false, false, false, false, false, false, false, false, false, false, false] rfl rfl (any_of HT_.out (by kernel_rfl)) (fun _ _ _ h => h) (Or.inl ⟨by rfl, ?_⟩) ?_ ?_
  rotate_left
  · intro w'
    go_simp
    with_reducible rfl
  rotate_left
  · simp only [pS]
    rfl
  refine pure_ (i := 9) (N := some 35) (v := ?_) (a' := ?_) #[true, true, true, true, true, true, true, true, true, true, false, false, false, false, false, false, false, false, false, false, false, false, false, false, false, false, false, false, false, false, false, false, false, false, false, false, false, false, false, false, false, false, false, false, false, false, false, false, false, false, false, false, false, false] rfl rfl (any_of HT_.out (by kernel_rfl)) (fun _ _ _ h => h) (Or.inl ⟨by rfl, ?_⟩) ?_ ?_
  rotate_left
  · intro w'
    go_simp
    with_reducible rfl
  rotate_left
  · simp only [pS]
    rfl
  refine pure_ (i := 10) (N := some 36) (v := ?_) (a' := ?_) #[true, true, true, true, true, true, true, true, true, true, true, false, false, false, false, false, false, false, false, false, false, false, false, false, false, false, false, false, false, false, false, false, false, false, false, false, false, false, false, false, false, false, false, false, false, false, false, false, false, false, false, false, false, false] rfl rfl (any_of HT_.out (by kernel_rfl)) (fun _ _ _ h => h) (Or.inl ⟨by rfl, ?_⟩) ?_ ?_
  rotate_left
  · intro w'
    go_simp
    with_reducible rfl
  rotate_left
  · simp only [pS]
    rfl
  refine pure_ (i := 11) (N := some 37) (v := ?_) (a' := ?_) #[true, true, true, true, true, true, true, true, true, true, true, true, false, false, false, false, false, false, false, false, false, false, false, false, false, false, false, false, false, false, false, false, false, false, false, false, false, false, false, false, false, false, false, false, false, false, false, false, false, false, false, false, false, false] rfl rfl (any_of HT_.out (by kernel_rfl)) (fun _ _ _ h => h) (Or.inl ⟨by rfl, ?_⟩) ?_ ?_
  rotate_left
  · intro w'
    go_simp
    with_reducible rfl
  rotate_left
  · simp only [pS]
    rfl
  refine pure_ (i := 12) (N := some 38) (v := ?_) (a' := ?_) #[true, true, true, true, true, true, true, true, true, true, true, true, true, false, false, false, false, false, false, false, false, false, false, false, false, false, false, false, false, false, false, false, false, false, false, false, false, false, false, false, false, false, false, false, false, false, false, false, false, false, false, false, false, false] rfl rfl (any_of HT_.out (by kernel_rfl)) (fun _ _ _ h => h) (Or.inl ⟨by rfl, ?_⟩) ?_ ?_
  rotate_left
  · intro w'
    go_simp
    with_reducible rfl
  rotate_left
  · simp only [pS]
    rfl
  refine pure_ (i := 13) (N := some 39) (v := ?_) (a' := ?_) #[true, true, true, true, true, true, true, true, true, true, true, true, true, true, false, false, false, false, false, false, false, false, false, false, false, false, false, false, false, false, false, false, false, false, false, false, false, false, false, false, false, false, false, false, false, false, false, false, false, false, false, false, false, false] rfl rfl (any_of HT_.out (by kernel_rfl)) (fun _ _ _ h => h) (Or.inl ⟨by rfl, ?_⟩) ?_ ?_
  rotate_left
  · intro w'
    go_simp
    with_reducible rfl
  rotate_left
  · simp only [pS]
    rfl
  refine pure_ (i := 14) (N := some 40) (v := ?_) (a' := ?_) #[true, true, true, true, true, true, true, true, true, true, true, true, true, true, true, false, false, false, false, false, false, false, false, false, false, false, false, false, false, false, false, false, false, false, false, false, false, false, false, false, false, false, false, false, false, false, false, false, false, false, false, false, false, false] rfl rfl (any_of HT_.out (by kernel_rfl)) (fun _ _ _ h => h) (Or.inl ⟨by rfl, ?_⟩) ?_ ?_
  rotate_left
  · intro w'
    go_simp
    with_reducible rfl
  rotate_left
  · simp only [pS]
    rfl
  refine pure_ (i := 15) (N := some 41) (v := ?_) (a' := ?_) #[true, true, true, true, true, true, true, true, true, true, true, true, true, true, true, true, false, false, false, false, false, false, false, false, false, false, false, false, false, false, false, false, false, false, false, false, false, false, false, false, false, false, false, false, false, false, false, false, false, false, false, false, false, false] rfl rfl (any_of HT_.out (by kernel_rfl)) (fun _ _ _ h => h) (Or.inl ⟨by rfl, ?_⟩) ?_ ?_
  rotate_left
  · intro w'
    go_simp
    with_reducible rfl
  rotate_left
  · simp only [pS]
    rfl
  refine pure_ (i := 16) (N := some 42) (v := ?_) (a' := ?_) #[true, true, true, true, true, true, true, true, true, true, true, true, true, true, true, true, true, false, false, false, false, false, false, false, false, false, false, false, false, false, false, false, false, false, false, false, false, false, false, false, false, false, false, false, false, false, false, false, false, false, false, false, false, false] rfl rfl (any_of HT_.out (by kernel_rfl)) (fun _ _ _ h => h) (Or.inl ⟨by rfl, ?_⟩) ?_ ?_
  rotate_left
  · intro w'
    go_simp
    with_reducible rfl
  rotate_left
  · simp only [pS]
    rfl
  refine one_ (i := 17) (N := some 43) #[true, true, true, true, true, true, true, true, true, true, true, true, true, true, true, true, true, true, false, false, false, false, false, false, false, false, false, false, false, false, false, false, false, false, false, false, false, false, false, false, false, false, false, false, false, false, false, false, false, false, false, false, false, false] rfl rfl (one_of HT_.out (by kernel_rfl)) (by decide) (fun K hK => ?_)
  refine goes_ Tryz.func21 (by kernel_rfl) rfl #[.int .u8 0, .int .i64 7] (by rfl) rfl rfl (by (try simp only [List.map_toArray, List.map_cons, List.map_nil]); first | done | rfl) ?_
  with_reducible refine (TC7.out _).mono ?_
  rintro e w9 ⟨rfl, hb9⟩
  refine ⟨_, rfl, ?_⟩
  have n1_ := Aside0.mk ((show Below w.heap.size w _ from by first | exact HB.out | exact below_drew1 HB.out).trans (hb9.mono HB.out.size)); have n2_ := Aside0.mk ((hb9.block E (blk_lt HE.out)).trans HE.out); clear HB HE hb9; have HB := n1_; have HE := n2_; clear n1_ n2_
  refine hK.out _ _ (cell_of HE.out S8.out) (fun hHeld => ?_)
  clear hK K
  refine norm_ (a' := ?_) ?_ ?_
  rotate_left
  · show Act.put _ (some 43) _ = _
    simp only [pS]
    rfl
  refine pure_ (i := 18) (N := some 44) (a' := ?_) #[true, true, true, true, true, true, true, true, true, true, true, true, true, true, true, true, true, true, true, false, false, false, false, false, false, false, false, false, false, false, false, false, false, false, false, false, false, false, false, false, false, false, false, false, false, false, false, false, false, false, false, false, false, false] rfl rfl (any_of HT_.out (by kernel_rfl)) (fun _ _ _ h => h) (Or.inl ⟨by rfl, cat_yields _ _ _ _ (by rfl) _ _ (by rfl) (by rfl) (by decide)⟩) ?_ ?_
  rotate_left
  · simp only [pS]
    rfl
  refine pure_ (i := 19) (N := some 45) (a' := ?_) #[true, true, true, true, true, true, true, true, true, true, true, true, true, true, true, true, true, true, true, true, false, false, false, false, false, false, false, false, false, false, false, false, false, false, false, false, false, false, false, false, false, false, false, false, false, false, false, false, false, false, false, false, false, false] rfl rfl (any_of HT_.out (by kernel_rfl)) (fun _ _ _ h => h) (Or.inl ⟨by rfl, cat_yields _ _ _ _ (by rfl) _ _ (by rfl) (by rfl) (by decide)⟩) ?_ ?_
  rotate_left
  · simp only [pS]
    rfl
  refine one_ (i := 20) (N := some 46) #[true, true, true, true, true, true, true, true, true, true, true, true, true, true, true, true, true, true, true, true, true, false, false, false, false, false, false, false, false, false, false, false, false, false, false, false, false, false, false, false, false, false, false, false, false, false, false, false, false, false, false, false, false, false] rfl rfl (one_of HT_.out (by kernel_rfl)) (by decide) (fun K hK => ?_)
  refine goes_ Tryz.func21 (by kernel_rfl) rfl #[.int .u8 0, .int .i64 7] (by rfl) rfl rfl (by (try simp only [List.map_toArray, List.map_cons, List.map_nil]); first | done | rfl) ?_
  with_reducible refine (TC7.out _).mono ?_
  rintro e w9 ⟨rfl, hb9⟩
  refine ⟨_, rfl, ?_⟩
  have n1_ := Aside0.mk ((show Below w.heap.size w _ from by first | exact HB.out | exact below_drew1 HB.out).trans (hb9.mono HB.out.size)); have n2_ := Aside0.mk ((hb9.block E (blk_lt HE.out)).trans HE.out); clear HB HE hb9; have HB := n1_; have HE := n2_; clear n1_ n2_
  refine hK.out _ _ (cell_of HE.out S8.out) (fun hHeld => ?_)
  clear hK K
  refine norm_ (a' := ?_) ?_ ?_
  rotate_left
  · show Act.put _ (some 46) _ = _
    simp only [pS]
    rfl
  refine pure_ (i := 21) (N := some 47) (a' := ?_) #[true, true, true, true, true, true, true, true, true, true, true, true, true, true, true, true, true, true, true, true, true, true, false, false, false, false, false, false, false, false, false, false, false, false, false, false, false, false, false, false, false, false, false, false, false, false, false, false, false, false, false, false, false, false] rfl rfl (any_of HT_.out (by kernel_rfl)) (fun _ _ _ h => h) (Or.inl ⟨by rfl, cat_yields _ _ _ _ (by rfl) _ _ (by rfl) (by rfl) (by decide)⟩) ?_ ?_
  rotate_left
  · simp only [pS]
    rfl
  refine pure_ (i := 22) (N := some 48) (a' := ?_) #[true, true, true, true, true, true, true, true, true, true, true, true, true, true, true, true, true, true, true, true, true, true, true, false, false, false, false, false, false, false, false, false, false, false, false, false, false, false, false, false, false, false, false, false, false, false, false, false, false, false, false, false, false, false] rfl rfl (any_of HT_.out (by kernel_rfl)) (fun _ _ _ h => h) (Or.inl ⟨by rfl, cat_yields _ _ _ _ (by rfl) _ _ (by rfl) (by rfl) (by decide)⟩) ?_ ?_
  rotate_left
  · simp only [pS]
    rfl
  refine one_ (i := 23) (N := some 49) #[true, true, true, true, true, true, true, true, true, true, true, true, true, true, true, true, true, true, true, true, true, true, true, true, false, false, false, false, false, false, false, false, false, false, false, false, false, false, false, false, false, false, false, false, false, false, false, false, false, false, false, false, false, false] rfl rfl (one_of HT_.out (by kernel_rfl)) (by decide) (fun K hK => ?_)
  refine goes_ Tryz.func21 (by kernel_rfl) rfl #[.int .u8 116, .int .i64 32] (by rfl) rfl rfl (by (try simp only [List.map_toArray, List.map_cons, List.map_nil]); first | done | rfl) ?_
  with_reducible refine (TC32.out _).mono ?_
  rintro e w9 ⟨rfl, hb9⟩
  refine ⟨_, rfl, ?_⟩
  have n1_ := Aside0.mk ((show Below w.heap.size w _ from by first | exact HB.out | exact below_drew1 HB.out).trans (hb9.mono HB.out.size)); have n2_ := Aside0.mk ((hb9.block E (blk_lt HE.out)).trans HE.out); clear HB HE hb9; have HB := n1_; have HE := n2_; clear n1_ n2_
  refine hK.out _ _ (cell_of HE.out S8.out) (fun hHeld => ?_)
  clear hK K
  refine norm_ (a' := ?_) ?_ ?_
  rotate_left
  · show Act.put _ (some 49) _ = _
    simp only [pS]
    rfl
  refine pure_ (i := 24) (N := some 50) (a' := ?_) #[true, true, true, true, true, true, true, true, true, true, true, true, true, true, true, true, true, true, true, true, true, true, true, true, true, false, false, false, false, false, false, false, false, false, false, false, false, false, false, false, false, false, false, false, false, false, false, false, false, false, false, false, false, false] rfl rfl (any_of HT_.out (by kernel_rfl)) (fun _ _ _ h => h) (Or.inl ⟨by rfl, cat_yields _ _ _ _ (by rfl) _ ta (by rfl) (by rfl) (by have := HTA.out; simp only [List.length_append, List.length_cons, List.length_nil]; omega)⟩) ?_ ?_
  rotate_left
  · simp only [pS]
    rfl
  refine pure_ (i := 25) (N := some 51) (a' := ?_) #[true, true, true, true, true, true, true, true, true, true, true, true, true, true, true, true, true, true, true, true, true, true, true, true, true, true, false, false, false, false, false, false, false, false, false, false, false, false, false, false, false, false, false, false, false, false, false, false, false, false, false, false, false, false] rfl rfl (any_of HT_.out (by kernel_rfl)) (fun _ _ _ h => h) (Or.inl ⟨by rfl, streq_yields _ _ _ _ (by rfl) _ _ (by rfl) (by rfl) true EQ1.out⟩) ?_ ?_
  rotate_left
  · simp only [pS]
    rfl
  refine pure_ (i := 26) (N := some 52) (v := ?_) (a' := ?_) #[true, true, true, true, true, true, true, true, true, true, true, true, true, true, true, true, true, true, true, true, true, true, true, true, true, true, true, false, false, false, false, false, false, false, false, false, false, false, false, false, false, false, false, false, false, false, false, false, false, false, false, false, false, false] rfl rfl (any_of HT_.out (by kernel_rfl)) (fun _ _ _ h => h) (Or.inl ⟨by rfl, ?_⟩) ?_ ?_
  rotate_left
  · intro w'
    go_simp
    with_reducible rfl
  rotate_left
  · simp only [pS]
    rfl
  refine pure_ (i := 27) (N := some 53) (v := ?_) (a' := ?_) #[true, true, true, true, true, true, true, true, true, true, true, true, true, true, true, true, true, true, true, true, true, true, true, true, true, true, true, true, false, false, false, false, false, false, false, false, false, false, false, false, false, false, false, false, false, false, false, false, false, false, false, false, false, false] rfl rfl (any_of HT_.out (by kernel_rfl)) (fun _ _ _ h => h) (Or.inl ⟨by rfl, ?_⟩) ?_ ?_
  rotate_left
  · intro w'
    go_simp
    with_reducible rfl
  rotate_left
  · simp only [pS]
    rfl
  refine pure_ (i := 28) (N := some 54) (v := ?_) (a' := ?_) #[true, true, true, true, true, true, true, true, true, true, true, true, true, true, true, true, true, true, true, true, true, true, true, true, true, true, true, true, true, false, false, false, false, false, false, false, false, false, false, false, false, false, false, false, false, false, false, false, false, false, false, false, false, false] rfl rfl (any_of HT_.out (by kernel_rfl)) (fun _ _ _ h => h) (Or.inl ⟨by rfl, ?_⟩) ?_ ?_
  rotate_left
  · intro w'
    go_simp
    with_reducible rfl
  rotate_left
  · simp only [pS]
    rfl
  refine take_ (i := 29) (N := some 55) (v := ?_) (a' := ?_) #[true, true, true, true, true, true, true, true, true, true, true, true, true, true, true, true, true, true, true, true, true, true, true, true, true, true, true, true, true, true, false, false, false, false, false, false, false, false, false, false, false, false, false, false, false, false, false, false, false, false, false, false, false, false] rfl rfl (take_ofW HT_.out HW_.out (by kernel_rfl)) (fun _ _ _ h => h) (Or.inl ⟨by rfl, ?_⟩) hHeld ?_ ?_
  rotate_left
  · rintro w' s8
    go_simp
    with_reducible rfl
  rotate_left
  · simp only [pS]
    rfl
  refine pure_ (i := 30) (N := some 56) (v := ?_) (a' := ?_) #[true, true, true, true, true, true, true, true, true, true, true, true, true, true, true, true, true, true, true, true, true, true, true, true, true, true, true, true, true, true, true, false, false, false, false, false, false, false, false, false, false, false, false, false, false, false, false, false, false, false, false, false, false, false] rfl rfl (any_of HT_.out (by kernel_rfl)) (fun _ _ _ h => h) (Or.inl ⟨by rfl, ?_⟩) ?_ ?_
  rotate_left
  · intro w'
    go_simp
    with_reducible rfl
  rotate_left
  · simp only [pS]
    rfl
  refine pure_ (i := 31) (N := some 57) (v := ?_) (a' := ?_) #[true, true, true, true, true, true, true, true, true, true, true, true, true, true, true, true, true, true, true, true, true, true, true, true, true, true, true, true, true, true, true, true, false, false, false, false, false, false, false, false, false, false, false, false, false, false, false, false, false, false, false, false, false, false] rfl rfl (any_of HT_.out (by kernel_rfl)) (fun _ _ _ h => h) (Or.inl ⟨by rfl, ?_⟩) ?_ ?_
  rotate_left
  · intro w'
    go_simp
    with_reducible rfl
  rotate_left
  · simp only [pS]
    rfl
  refine pure_ (i := 32) (N := some 58) (v := ?_) (a' := ?_) #[true, true, true, true, true, true, true, true, true, true, true, true, true, true, true, true, true, true, true, true, true, true, true, true, true, true, true, true, true, true, true, true, true, false, false, false, false, false, false, false, false, false, false, false, false, false, false, false, false, false, false, false, false, false] rfl rfl (any_of HT_.out (by kernel_rfl)) (fun _ _ _ h => h) (Or.inl ⟨by rfl, ?_⟩) ?_ ?_
  rotate_left
  · intro w'
    go_simp
    with_reducible rfl
  rotate_left
  · simp only [pS]
    rfl
  refine pure_ (i := 33) (N := some 59) (v := ?_) (a' := ?_) #[true, true, true, true, true, true, true, true, true, true, true, true, true, true, true, true, true, true, true, true, true, true, true, true, true, true, true, true, true, true, true, true, true, true, false, false, false, false, false, false, false, false, false, false, false, false, false, false, false, false, false, false, false, false] rfl rfl (any_of HT_.out (by kernel_rfl)) (fun _ _ _ h => h) (Or.inl ⟨by rfl, ?_⟩) ?_ ?_
  rotate_left
  · intro w'
    go_simp
    with_reducible rfl
  rotate_left
  · simp only [pS]
    rfl
  refine pure_ (i := 35) (N := some 61) (v := ?_) (a' := ?_) #[true, true, true, true, true, true, true, true, true, true, true, true, true, true, true, true, true, true, true, true, true, true, true, true, true, true, true, true, true, true, true, true, true, true, false, true, false, false, false, false, false, false, false, false, false, false, false, false, false, false, false, false, false, false] rfl rfl (any_of HT_.out (by kernel_rfl)) (fun _ _ _ h => h) (Or.inl ⟨by rfl, ?_⟩) ?_ ?_
  rotate_left
  · intro w'
    go_simp
    with_reducible rfl
  rotate_left
  · simp only [pS]
    rfl
  refine pure_ (i := 36) (N := some 62) (v := ?_) (a' := ?_) #[true, true, true, true, true, true, true, true, true, true, true, true, true, true, true, true, true, true, true, true, true, true, true, true, true, true, true, true, true, true, true, true, true, true, false, true, true, false, false, false, false, false, false, false, false, false, false, false, false, false, false, false, false, false] rfl rfl (any_of HT_.out (by kernel_rfl)) (fun _ _ _ h => h) (Or.inl ⟨by rfl, ?_⟩) ?_ ?_
  rotate_left
  · intro w'
    go_simp
    with_reducible rfl
  rotate_left
  · simp only [pS]
    rfl
  refine one_ (i := 34) (N := some 60) #[true, true, true, true, true, true, true, true, true, true, true, true, true, true, true, true, true, true, true, true, true, true, true, true, true, true, true, true, true, true, true, true, true, true, true, true, true, false, false, false, false, false, false, false, false, false, false, false, false, false, false, false, false, false] rfl rfl (one_of HT_.out (by kernel_rfl)) (by decide) (fun K hK => ?_)
  refine goes_ Tryz.func12 (by kernel_rfl) rfl #[.string s] (by rfl) rfl rfl (by (try simp only [List.map_toArray, List.map_cons, List.map_nil]); first | done | rfl) ?_
  with_reducible refine (BC.out _).mono ?_
  rintro e w9 ⟨rfl, hb9⟩
  refine ⟨_, rfl, ?_⟩
  have n1_ := Aside0.mk ((show Below w.heap.size w _ from by first | exact HB.out | exact below_drew1 HB.out).trans (hb9.mono HB.out.size)); have n2_ := Aside0.mk ((hb9.block E (blk_lt HE.out)).trans HE.out); clear HB HE hb9; have HB := n1_; have HE := n2_; clear n1_ n2_
  refine hK.out _ _ (cell_of HE.out S8.out) (fun hHeld => ?_)
  clear hK K
  refine norm_ (a' := ?_) ?_ ?_
  rotate_left
  · show Act.put _ (some 60) _ = _
    simp only [pS]
    rfl
  refine pure_ (i := 37) (N := some 63) (a' := ?_) #[true, true, true, true, true, true, true, true, true, true, true, true, true, true, true, true, true, true, true, true, true, true, true, true, true, true, true, true, true, true, true, true, true, true, true, true, true, true, false, false, false, false, false, false, false, false, false, false, false, false, false, false, false, false] rfl rfl (any_of HT_.out (by kernel_rfl)) (fun _ _ _ h => h) (Or.inl ⟨by rfl, streq_yields _ _ _ _ (by rfl) _ _ (by rfl) (by rfl) true EQ2.out⟩) ?_ ?_
  rotate_left
  · simp only [pS]
    rfl
  refine pure_ (i := 38) (N := some 64) (v := ?_) (a' := ?_) #[true, true, true, true, true, true, true, true, true, true, true, true, true, true, true, true, true, true, true, true, true, true, true, true, true, true, true, true, true, true, true, true, true, true, true, true, true, true, true, false, false, false, false, false, false, false, false, false, false, false, false, false, false, false] rfl rfl (any_of HT_.out (by kernel_rfl)) (fun _ _ _ h => h) (Or.inl ⟨by rfl, ?_⟩) ?_ ?_
  rotate_left
  · intro w'
    go_simp
    with_reducible rfl
  rotate_left
  · simp only [pS]
    rfl
  refine pure_ (i := 39) (N := some 65) (v := ?_) (a' := ?_) #[true, true, true, true, true, true, true, true, true, true, true, true, true, true, true, true, true, true, true, true, true, true, true, true, true, true, true, true, true, true, true, true, true, true, true, true, true, true, true, true, false, false, false, false, false, false, false, false, false, false, false, false, false, false] rfl rfl (any_of HT_.out (by kernel_rfl)) (fun _ _ _ h => h) (Or.inl ⟨by rfl, ?_⟩) ?_ ?_
  rotate_left
  · intro w'
    go_simp
    with_reducible rfl
  rotate_left
  · simp only [pS]
    rfl
  refine pure_ (i := 40) (N := some 66) (v := ?_) (a' := ?_) #[true, true, true, true, true, true, true, true, true, true, true, true, true, true, true, true, true, true, true, true, true, true, true, true, true, true, true, true, true, true, true, true, true, true, true, true, true, true, true, true, true, false, false, false, false, false, false, false, false, false, false, false, false, false] rfl rfl (any_of HT_.out (by kernel_rfl)) (fun _ _ _ h => h) (Or.inl ⟨by rfl, ?_⟩) ?_ ?_
  rotate_left
  · intro w'
    go_simp
    with_reducible rfl
  rotate_left
  · simp only [pS]
    rfl
  refine one_ (i := 41) (N := some 67) #[true, true, true, true, true, true, true, true, true, true, true, true, true, true, true, true, true, true, true, true, true, true, true, true, true, true, true, true, true, true, true, true, true, true, true, true, true, true, true, true, true, true, false, false, false, false, false, false, false, false, false, false, false, false] rfl rfl (one_of HT_.out (by kernel_rfl)) (by decide) (fun K hK => ?_)
  refine goes_ Tryz.func14 (by kernel_rfl) rfl #[.string t, .string ⟨#[107]⟩] (by rfl) rfl rfl (by (try simp only [List.map_toArray, List.map_cons, List.map_nil]); first | done | rfl) ?_
  with_reducible refine (S1.out _ (gl_below HG.out HB.out)).mono ?_
  rintro e w9 ⟨rfl, hb9⟩
  refine ⟨_, rfl, ?_⟩
  have n1_ := Aside0.mk ((show Below w.heap.size w _ from by first | exact HB.out | exact below_drew1 HB.out).trans (hb9.mono HB.out.size)); have n2_ := Aside0.mk ((hb9.block E (blk_lt HE.out)).trans HE.out); clear HB HE hb9; have HB := n1_; have HE := n2_; clear n1_ n2_
  refine hK.out _ _ (cell_of HE.out S8.out) (fun hHeld => ?_)
  clear hK K
  refine norm_ (a' := ?_) ?_ ?_
  rotate_left
  · show Act.put _ (some 67) _ = _
    simp only [pS]
    rfl
  refine pure_ (i := 42) (N := some 68) (v := ?_) (a' := ?_) #[true, true, true, true, true, true, true, true, true, true, true, true, true, true, true, true, true, true, true, true, true, true, true, true, true, true, true, true, true, true, true, true, true, true, true, true, true, true, true, true, true, true, true, false, false, false, false, false, false, false, false, false, false, false] rfl rfl (any_of HT_.out (by kernel_rfl)) (fun _ _ _ h => h) (Or.inl ⟨by rfl, ?_⟩) ?_ ?_
  rotate_left
  · intro w'
    go_simp
    with_reducible rfl
  rotate_left
  · simp only [pS]
    rfl
  refine pure_ (i := 43) (N := some 69) (v := ?_) (a' := ?_) #[true, true, true, true, true, true, true, true, true, true, true, true, true, true, true, true, true, true, true, true, true, true, true, true, true, true, true, true, true, true, true, true, true, true, true, true, true, true, true, true, true, true, true, true, false, false, false, false, false, false, false, false, false, false] rfl rfl (any_of HT_.out (by kernel_rfl)) (fun _ _ _ h => h) (Or.inl ⟨by rfl, ?_⟩) ?_ ?_
  rotate_left
  · intro w'
    go_simp
    with_reducible rfl
  rotate_left
  · simp only [pS]
    rfl
  refine pure_ (i := 44) (N := some 70) (v := ?_) (a' := ?_) #[true, true, true, true, true, true, true, true, true, true, true, true, true, true, true, true, true, true, true, true, true, true, true, true, true, true, true, true, true, true, true, true, true, true, true, true, true, true, true, true, true, true, true, true, true, false, false, false, false, false, false, false, false, false] rfl rfl (any_of HT_.out (by kernel_rfl)) (fun _ _ _ h => h) (Or.inl ⟨by rfl, ?_⟩) ?_ ?_
  rotate_left
  · intro w'
    go_simp
    with_reducible rfl
  rotate_left
  · simp only [pS]
    rfl
  refine one_ (i := 45) (N := some 71) #[true, true, true, true, true, true, true, true, true, true, true, true, true, true, true, true, true, true, true, true, true, true, true, true, true, true, true, true, true, true, true, true, true, true, true, true, true, true, true, true, true, true, true, true, true, true, false, false, false, false, false, false, false, false] rfl rfl (one_of HT_.out (by kernel_rfl)) (by decide) (fun K hK => ?_)
  refine goes_ Tryz.func14 (by kernel_rfl) rfl #[.string t, .string ⟨#[108]⟩] (by rfl) rfl rfl (by (try simp only [List.map_toArray, List.map_cons, List.map_nil]); first | done | rfl) ?_
  with_reducible refine (S2.out _ (gl_below HG.out HB.out)).mono ?_
  rintro e w9 ⟨rfl, hb9⟩
  refine ⟨_, rfl, ?_⟩
  have n1_ := Aside0.mk ((show Below w.heap.size w _ from by first | exact HB.out | exact below_drew1 HB.out).trans (hb9.mono HB.out.size)); have n2_ := Aside0.mk ((hb9.block E (blk_lt HE.out)).trans HE.out); clear HB HE hb9; have HB := n1_; have HE := n2_; clear n1_ n2_
  refine hK.out _ _ (cell_of HE.out S8.out) (fun hHeld => ?_)
  clear hK K
  refine norm_ (a' := ?_) ?_ ?_
  rotate_left
  · show Act.put _ (some 71) _ = _
    simp only [pS]
    rfl
  refine pure_ (i := 46) (N := some 72) (v := ?_) (a' := ?_) #[true, true, true, true, true, true, true, true, true, true, true, true, true, true, true, true, true, true, true, true, true, true, true, true, true, true, true, true, true, true, true, true, true, true, true, true, true, true, true, true, true, true, true, true, true, true, true, false, false, false, false, false, false, false] rfl rfl (any_of HT_.out (by kernel_rfl)) (fun _ _ _ h => h) (Or.inl ⟨by rfl, ?_⟩) ?_ ?_
  rotate_left
  · intro w'
    go_simp
    with_reducible rfl
  rotate_left
  · simp only [pS]
    rfl
  refine pure_ (i := 47) (N := some 73) (v := ?_) (a' := ?_) #[true, true, true, true, true, true, true, true, true, true, true, true, true, true, true, true, true, true, true, true, true, true, true, true, true, true, true, true, true, true, true, true, true, true, true, true, true, true, true, true, true, true, true, true, true, true, true, true, false, false, false, false, false, false] rfl rfl (any_of HT_.out (by kernel_rfl)) (fun _ _ _ h => h) (Or.inl ⟨by rfl, ?_⟩) ?_ ?_
  rotate_left
  · intro w'
    go_simp
    with_reducible rfl
  rotate_left
  · simp only [pS]
    rfl
  refine pure_ (i := 48) (N := some 74) (v := ?_) (a' := ?_) #[true, true, true, true, true, true, true, true, true, true, true, true, true, true, true, true, true, true, true, true, true, true, true, true, true, true, true, true, true, true, true, true, true, true, true, true, true, true, true, true, true, true, true, true, true, true, true, true, true, false, false, false, false, false] rfl rfl (any_of HT_.out (by kernel_rfl)) (fun _ _ _ h => h) (Or.inl ⟨by rfl, ?_⟩) ?_ ?_
  rotate_left
  · intro w'
    go_simp
    with_reducible rfl
  rotate_left
  · simp only [pS]
    rfl
  refine pure_ (i := 49) (N := some 75) (v := ?_) (a' := ?_) #[true, true, true, true, true, true, true, true, true, true, true, true, true, true, true, true, true, true, true, true, true, true, true, true, true, true, true, true, true, true, true, true, true, true, true, true, true, true, true, true, true, true, true, true, true, true, true, true, true, true, false, false, false, false] rfl rfl (any_of HT_.out (by kernel_rfl)) (fun _ _ _ h => h) (Or.inl ⟨by rfl, ?_⟩) ?_ ?_
  rotate_left
  · intro w'
    go_simp
    with_reducible rfl
  rotate_left
  · simp only [pS]
    rfl
  refine one_ (i := 50) (N := some 76) #[true, true, true, true, true, true, true, true, true, true, true, true, true, true, true, true, true, true, true, true, true, true, true, true, true, true, true, true, true, true, true, true, true, true, true, true, true, true, true, true, true, true, true, true, true, true, true, true, true, true, true, false, false, false] rfl rfl (one_of HT_.out (by kernel_rfl)) (by decide) (fun K hK => ?_)
  refine goes_ Tryz.func14 (by kernel_rfl) rfl #[.string s, .string ⟨#[107]⟩] (by rfl) rfl rfl (by (try simp only [List.map_toArray, List.map_cons, List.map_nil]); first | done | rfl) ?_
  with_reducible refine (S3.out _ (gl_below HG.out HB.out)).mono ?_
  rintro e w9 ⟨rfl, hb9⟩
  refine ⟨_, rfl, ?_⟩
  have n1_ := Aside0.mk ((show Below w.heap.size w _ from by first | exact HB.out | exact below_drew1 HB.out).trans (hb9.mono HB.out.size)); have n2_ := Aside0.mk ((hb9.block E (blk_lt HE.out)).trans HE.out); clear HB HE hb9; have HB := n1_; have HE := n2_; clear n1_ n2_
  refine hK.out _ _ (cell_of HE.out S8.out) (fun hHeld => ?_)
  clear hK K
  refine norm_ (a' := ?_) ?_ ?_
  rotate_left
  · show Act.put _ (some 76) _ = _
    simp only [pS]
    rfl
  refine pure_ (i := 51) (N := some 77) (v := ?_) (a' := ?_) #[true, true, true, true, true, true, true, true, true, true, true, true, true, true, true, true, true, true, true, true, true, true, true, true, true, true, true, true, true, true, true, true, true, true, true, true, true, true, true, true, true, true, true, true, true, true, true, true, true, true, true, true, false, false] rfl rfl (any_of HT_.out (by kernel_rfl)) (fun _ _ _ h => h) (Or.inl ⟨by rfl, ?_⟩) ?_ ?_
  rotate_left
  · intro w'
    go_simp
    with_reducible rfl
  rotate_left
  · simp only [pS]
    rfl
  refine pure_ (i := 52) (N := some 78) (v := ?_) (a' := ?_) #[true, true, true, true, true, true, true, true, true, true, true, true, true, true, true, true, true, true, true, true, true, true, true, true, true, true, true, true, true, true, true, true, true, true, true, true, true, true, true, true, true, true, true, true, true, true, true, true, true, true, true, true, true, false] rfl rfl (any_of HT_.out (by kernel_rfl)) (fun _ _ _ h => h) (Or.inl ⟨by rfl, ?_⟩) ?_ ?_
  rotate_left
  · intro w'
    go_simp
    with_reducible rfl
  rotate_left
  · simp only [pS]
    rfl
  refine pure_ (i := 53) (N := some 0) (v := ?_) (a' := ?_) #[true, true, true, true, true, true, true, true, true, true, true, true, true, true, true, true, true, true, true, true, true, true, true, true, true, true, true, true, true, true, true, true, true, true, true, true, true, true, true, true, true, true, true, true, true, true, true, true, true, true, true, true, true, true] rfl rfl (any_of HT_.out (by kernel_rfl)) (fun _ _ _ h => h) (Or.inl ⟨by rfl, ?_⟩) ?_ ?_
  rotate_left
  · intro w'
    go_simp
    with_reducible rfl
  rotate_left
  · simp only [pS]
    rfl
  refine done_ (done_of HT_.out (by kernel_rfl)) ?_
  clear HT_ HW_ hHeld
  go_wp2
  go_ret
  exact ⟨rfl, HB.out⟩
end Go.Proofs.YtniabkphbnimaaaGreatDoor.Sh
namespace Go.Proofs.YtniabkphbnimaaaGreatDoor.Sh
open Go Go.RowKit Go.Maps Go.Proofs.YtniabkphbnimaaaGreatDoorW.PrintWords Go.Proofs.YtniabkphbnimaaaGreatDoorW.PrintLast Go.Proofs.YtniabkphbnimaaaGreatDoor.Bs
set_option maxHeartbeats 8000000 in
set_option maxRecDepth 100000 in
theorem encodes_walk (d : Dg) (k : ByteArray) (w : World) (hg : GL w) (hr : GR w) (hd : d.ok) (hkd : -9223372036854775808 ≤ d.kind ∧ d.kind ≤ 9223372036854775807) (hk : k.size ≤ 1048576) : Calls Tryz.prog 4 #[.agg d.cells.toArray, .string k] w fun e w' => e = .returned (.bool true) ∧ Below w.heap.size w w' := by
  have HG := Aside0.mk hg
  have HR := Aside0.mk hr
  obtain ⟨s, es⟩ : ∃ s, s = (enc d).1 := ⟨_, rfl⟩
  obtain ⟨c, ec⟩ : ∃ c, c = (enc d).2 := ⟨_, rfl⟩
  obtain ⟨t, et⟩ : ∃ t, t = (sealB d (bl k)).1 := ⟨_, rfl⟩
  obtain ⟨g, eg⟩ : ∃ g, g = (sealB d (bl k)).2 := ⟨_, rfl⟩
  have AC := Aside0.mk alive_calls
  have EC := Aside0.mk (show ∀ w, Calls Tryz.prog 16 #[.agg d.cells.toArray] w fun e w' => e = .returned (.tuple #[.string s, .int .i64 c]) ∧ Below w.heap.size w w' from fun w => by rw [es, ec]; exact encode_calls d hd hkd w)
  have REC := Aside0.mk (show ∀ w, Calls Tryz.prog 17 #[.agg d.cells.toArray] w fun e w' => e = .returned (.tuple #[.string s, .int .i64 c]) ∧ Below w.heap.size w w' from fun w => by rw [es, ec]; exact rencode_calls d hd w)
  have SC := Aside0.mk (show ∀ w, GL w → Calls Tryz.prog 18 #[.agg d.cells.toArray, .string k] w fun e w' => e = .returned (.tuple #[.string t, .int .i64 g]) ∧ Below w.heap.size w w' from fun w hg => by rw [et, eg]; exact seal_calls d k w hg hd hkd (by omega))
  have RSC := Aside0.mk (show ∀ w, GR w → Calls Tryz.prog 19 #[.agg d.cells.toArray, .string k] w fun e w' => e = .returned (.tuple #[.string t, .int .i64 g]) ∧ Below w.heap.size w w' from fun w hg => by rw [et, eg]; exact rseal_calls d k w hg hd (by omega))
  clear es ec et eg hd hkd hg hr
  go_enter Tryz.func4, Tryz.ntmps4
  go_wp2_with (first
    | ((with_reducible first | refine at_box_ ?_ | refine at_box2_ ?_); refine wpList_box_v rfl 27 _ rfl d.cells rfl (by kernel_rfl) ?_; intro D w1 eD hD1 hb1 hz1; have HD := Aside0.mk (show w1.heap[D]? = some (.cells d.cells.toArray 27 (0, 0)) from hD1.out); have HB := Aside0.mk (show Below w.heap.size w w1 from hb1.out); clear hD1 hb1 hz1 eD)
    | (go_at_call 9; (with_reducible refine (AC.out _ (gl_below HG.out HB.out)).mono ?_); rintro e w9 ⟨rfl, hb9⟩; have n2_ := Aside0.mk ((hb9.block D (blk_lt HD.out)).trans HD.out); have n1_ := Aside0.mk (HB.out.trans (hb9.mono HB.out.size)); clear HB HD hb9; have HB := n1_; have HD := n2_; clear n1_ n2_)
    | ((with_reducible first | refine at_load_ ?_ | refine at_load2_ ?_); refine wpList_load_agg rfl 27 _ rfl D 0 rfl d.cells (load_all HD.out) _ Tryz.underlying27 rfl (by kernel_rfl) ?_)
    | (go_at_call 16; (with_reducible refine (EC.out _).mono ?_); rintro e w9 ⟨rfl, hb9⟩; have n2_ := Aside0.mk ((hb9.block D (blk_lt HD.out)).trans HD.out); have n1_ := Aside0.mk (HB.out.trans (hb9.mono HB.out.size)); clear HB HD hb9; have HB := n1_; have HD := n2_; clear n1_ n2_)
    | (go_at_call 17; (with_reducible refine (REC.out _).mono ?_); rintro e w9 ⟨rfl, hb9⟩; have n2_ := Aside0.mk ((hb9.block D (blk_lt HD.out)).trans HD.out); have n1_ := Aside0.mk (HB.out.trans (hb9.mono HB.out.size)); clear HB HD hb9; have HB := n1_; have HD := n2_; clear n1_ n2_)
    | (go_at_call 18; (with_reducible refine (SC.out _ (gl_below HG.out HB.out)).mono ?_); rintro e w9 ⟨rfl, hb9⟩; have n2_ := Aside0.mk ((hb9.block D (blk_lt HD.out)).trans HD.out); have n1_ := Aside0.mk (HB.out.trans (hb9.mono HB.out.size)); clear HB HD hb9; have HB := n1_; have HD := n2_; clear n1_ n2_)
    | (go_at_call 19; (with_reducible refine (RSC.out _ (GR.below HR.out HB.out)).mono ?_); rintro e w9 ⟨rfl, hb9⟩; have n2_ := Aside0.mk ((hb9.block D (blk_lt HD.out)).trans HD.out); have n1_ := Aside0.mk (HB.out.trans (hb9.mono HB.out.size)); clear HB HD hb9; have HB := n1_; have HD := n2_; clear n1_ n2_))
  go_ret
  exact ⟨rfl, HB.out⟩
end Go.Proofs.YtniabkphbnimaaaGreatDoor.Sh
namespace Go.Proofs.YtniabkphbnimaaaGreatDoor.Sh
open Go Go.RowKit Go.Maps
theorem gRounds : Tryz.prog.globalNamed "joust/sha.rounds" = some 0 := by kernel_rfl
theorem gRoots : Tryz.prog.globalNamed "joust/joustref01.roots" = some 1 := by kernel_rfl
theorem gCubes : Tryz.prog.globalNamed "joust/joustref01.cubes" = some 2 := by kernel_rfl
theorem tRounds : (Tryz.prog.globals[0]?).map (·.type) = some 130 := by kernel_rfl
theorem tRoots : (Tryz.prog.globals[1]?).map (·.type) = some 116 := by kernel_rfl
theorem tCubes : (Tryz.prog.globals[2]?).map (·.type) = some 130 := by kernel_rfl
def KSz : List Int := KS.map fun x => (x.toNat : Int)
def H0z : List Int := H0.l.map fun x => (x.toNat : Int)
theorem dRounds : (Rows.laid_joust_sha_rounds : DataW Unit) = Lib.tabData .u32 KSz := by kernel_rfl
theorem dRoots : (Rows.laid_joust_joustref01_roots : DataW Unit) = Lib.tabData .u32 H0z := by kernel_rfl
theorem dCubes : (Rows.laid_joust_joustref01_cubes : DataW Unit) = Lib.tabData .u32 KSz := by kernel_rfl
theorem ksz : (KSz.map fun z => Value.int .u32 z) = KS.map vW := by
  unfold KSz
  rw [List.map_map]
  rfl
theorem h0z : (H0z.map fun z => Value.int .u32 z) = H0.l.map vW := by
  unfold H0z
  rw [List.map_map]
  rfl
theorem heap_of_var {W : World} {name : String} {g : Nat} {cs : Array Value} (hg : Tryz.prog.globalNamed name = some g) (h : W.var? Tryz.prog name = some cs) : ∃ t fr, W.heap[g]? = some (.cells cs t fr) := by
  unfold World.var? at h
  rw [hg] at h
  simp only [Option.bind_some] at h
  split at h
  · rename_i c t fr hh
    cases h
    exact ⟨_, _, hh⟩
  · cases h
theorem tab_of {W : World} {name : String} {g : Nat} {t e : TypeId} {n : Nat} {zs : List Int} {d : DataW Unit} (hdz : d = Lib.tabData .u32 zs) (hg : Tryz.prog.globalNamed name = some g) (ht : Tryz.prog.underlying t = some (.array n e)) (he : Tryz.prog.underlying e = some (.int .u32)) (hce : Tryz.prog.cellsOf e = 1) (hct : Tryz.prog.cellsOf t = n)
    {enc : TypeId × Value → Unit} {base : Nat} {sp : Nat → Bool} {held : Bool} {fuel : Nat} {cs : Array Value} {p : List MemPlace} (hvar : W.var? Tryz.prog name = some cs) (hd : DataW.trod enc Tryz.prog W base sp held fuel t cs.toList = some (d, p)) : ∃ u fr, W.heap[g]? = some (.cells (zs.map fun z => Value.int .u32 z).toArray u fr) := by
  subst hdz
  have e1 := Lib.cells_of_tab ht he hce hct hd
  obtain ⟨u, fr, hh⟩ := heap_of_var hg hvar
  refine ⟨u, fr, ?_⟩
  rw [hh, ← e1]
theorem gs_of_laid {W : World} (h : laidMet Tryz.prog [("joust/joustref01.roots", Rows.laid_joust_joustref01_roots), ("joust/joustref01.cubes", Rows.laid_joust_joustref01_cubes), ("joust/sha.rounds", Rows.laid_joust_sha_rounds), ("unicode/utf8.acceptRanges", Rows.laid_unicode_utf8_acceptRanges), ("unicode/utf8.first", Rows.laid_unicode_utf8_first)] W) : GL W ∧ GR W := by
  obtain ⟨ps, ⟨g1, t1, cs1, fuel1, p1, q1, hg1, ht1, hvar1, hd1, ⟨g2, t2, cs2, fuel2, p2, q2, hg2, ht2, hvar2, hd2, ⟨g3, t3, cs3, fuel3, p3, q3, hg3, ht3, hvar3, hd3, _, _⟩, _⟩, _⟩, _⟩ := h
  obtain rfl := Option.some.inj (gRoots.symm.trans hg1)
  obtain rfl := Option.some.inj (tRoots.symm.trans ht1)
  obtain rfl := Option.some.inj (gCubes.symm.trans hg2)
  obtain rfl := Option.some.inj (tCubes.symm.trans ht2)
  obtain rfl := Option.some.inj (gRounds.symm.trans hg3)
  obtain rfl := Option.some.inj (tRounds.symm.trans ht3)
  obtain ⟨u1, fr1, hh1⟩ := tab_of dRoots gRoots Tryz.underlying116 Tryz.underlying110 (by kernel_rfl) (by kernel_rfl) hvar1 hd1
  obtain ⟨u2, fr2, hh2⟩ := tab_of dCubes gCubes Tryz.underlying130 Tryz.underlying110 (by kernel_rfl) (by kernel_rfl) hvar2 hd2
  obtain ⟨u3, fr3, hh3⟩ := tab_of dRounds gRounds Tryz.underlying130 Tryz.underlying110 (by kernel_rfl) (by kernel_rfl) hvar3 hd3
  rw [h0z] at hh1
  rw [ksz] at hh2 hh3
  exact ⟨⟨u3, fr3, hh3⟩, ⟨u1, fr1, hh1⟩, u2, fr2, hh2⟩
/-- The cells of the listed tables, for a witness. -/
def roundsC : Array Value := (KS.map vW).toArray
def rootsC : Array Value := (H0.l.map vW).toArray
def firstC : Array Value := (Pinned.utf8FirstZ.map fun z : Nat => Value.int .u8 (z : Int)).toArray
def acceptC : Array Value := #[.int .u8 128, .int .u8 191, .int .u8 160, .int .u8 191, .int .u8 128, .int .u8 159, .int .u8 144, .int .u8 191, .int .u8 128, .int .u8 143, .int .u8 0, .int .u8 0, .int .u8 0, .int .u8 0, .int .u8 0, .int .u8 0, .int .u8 0, .int .u8 0, .int .u8 0, .int .u8 0, .int .u8 0, .int .u8 0, .int .u8 0, .int .u8 0, .int .u8 0, .int .u8 0, .int .u8 0, .int .u8 0, .int .u8 0, .int .u8 0, .int .u8 0, .int .u8 0]
end Go.Proofs.YtniabkphbnimaaaGreatDoor.Sh
namespace Go.Proofs.YtniabkphbnimaaaGreatDoor.Sh
open Go Go.RowKit Go.WideShapes Go.Maps Go.Proofs.YtniabkphbnimaaaGreatDoorW.PrintWords Go.Proofs.YtniabkphbnimaaaGreatDoorW.PrintLast Go.Proofs.YtniabkphbnimaaaGreatDoor.Bs
theorem list_cmdc {α : Type} {l : List α} (h : l.length = 4) : ∃ c0 c1 c2 c3, l = [c0, c1, c2, c3] :=
  match l, h with
  | [c0, c1, c2, c3], _ => ⟨c0, c1, c2, c3, rfl⟩
theorem list_cmdf {α : Type} {l : List α} (h : l.length = 4) : ∃ y0 y1 y2 y3, l = [y0, y1, y2, y3] :=
  match l, h with
  | [y0, y1, y2, y3], _ => ⟨y0, y1, y2, y3, rfl⟩
theorem op_cmd {H : Type} {enc : TypeId × Value → H} {w : World} {base : Nat} {spare : Nat → Bool} {held : Bool} {fuel : Nat} {cs : List Value} {y : DataW H × List MemPlace} (h : DataW.trod enc Tryz.prog w base spare held fuel 25 cs = some y) :
    ∃ (x0 : Int) (x1 : Int) (x2 : Bool) (x3 : Bool), cs = [.int .i64 x0, .int .i64 x1, .bool x2, .bool x3] ∧ y = (.agg [.lit (.int .i64 x0), .lit (.int .i64 x1), .lit (.bool x2), .lit (.bool x3)], []) ∧ (Lit.int .i64 x0).wf = true ∧ (Lit.int .i64 x1).wf = true := by
  obtain ⟨xs, n, rfl, rfl, hl, hlen, hf⟩ := DataW.trod_struct Tryz.underlying25 h
  rw [show Tryz.prog.cellsOf 25 = 4 from by kernel_rfl] at hl
  obtain ⟨c0, c1, c2, c3, rfl⟩ := list_cmdc hl
  obtain ⟨y0, y1, y2, y3, rfl⟩ := list_cmdf hlen
  have e0 : DataW.trod enc Tryz.prog w base spare held n 3 [c0] = some y0 := by
    have e : DataW.trod enc Tryz.prog w base spare held n 3 (List.take (Tryz.prog.cellsOf 3) (List.drop 0 [c0, c1, c2, c3])) = some y0 := hf 0 _ rfl
    rw [show Tryz.prog.cellsOf 3 = 1 from by kernel_rfl] at e
    exact e
  have e1 : DataW.trod enc Tryz.prog w base spare held n 3 [c1] = some y1 := by
    have e : DataW.trod enc Tryz.prog w base spare held n 3 (List.take (Tryz.prog.cellsOf 3) (List.drop 1 [c0, c1, c2, c3])) = some y1 := hf 1 _ rfl
    rw [show Tryz.prog.cellsOf 3 = 1 from by kernel_rfl] at e
    exact e
  have e2 : DataW.trod enc Tryz.prog w base spare held n 4 [c2] = some y2 := by
    have e : DataW.trod enc Tryz.prog w base spare held n 4 (List.take (Tryz.prog.cellsOf 4) (List.drop 2 [c0, c1, c2, c3])) = some y2 := hf 2 _ rfl
    rw [show Tryz.prog.cellsOf 4 = 1 from by kernel_rfl] at e
    exact e
  have e3 : DataW.trod enc Tryz.prog w base spare held n 4 [c3] = some y3 := by
    have e : DataW.trod enc Tryz.prog w base spare held n 4 (List.take (Tryz.prog.cellsOf 4) (List.drop 3 [c0, c1, c2, c3])) = some y3 := hf 3 _ rfl
    rw [show Tryz.prog.cellsOf 4 = 1 from by kernel_rfl] at e
    exact e
  clear h hf hl hlen
  obtain ⟨x0, g0, rfl, w0⟩ := DataW.trod_int Tryz.underlying3 e0
  simp only [List.cons.injEq, and_true] at g0
  subst g0
  obtain ⟨x1, g1, rfl, w1⟩ := DataW.trod_int Tryz.underlying3 e1
  simp only [List.cons.injEq, and_true] at g1
  subst g1
  obtain ⟨x2, g2, rfl⟩ := DataW.trod_bool Tryz.underlying4 e2
  simp only [List.cons.injEq, and_true] at g2
  subst g2
  obtain ⟨x3, g3, rfl⟩ := DataW.trod_bool Tryz.underlying4 e3
  simp only [List.cons.injEq, and_true] at g3
  subst g3
  exact ⟨x0, x1, x2, x3, rfl, rfl, w0, w1⟩
theorem list_dgc {α : Type} {l : List α} (h : l.length = 15) : ∃ c0 c1 c2 c3 c4 c5 c6 c7 c8 c9 c10 c11 c12 c13 c14, l = [c0, c1, c2, c3, c4, c5, c6, c7, c8, c9, c10, c11, c12, c13, c14] :=
  match l, h with
  | [c0, c1, c2, c3, c4, c5, c6, c7, c8, c9, c10, c11, c12, c13, c14], _ => ⟨c0, c1, c2, c3, c4, c5, c6, c7, c8, c9, c10, c11, c12, c13, c14, rfl⟩
theorem list_dgf {α : Type} {l : List α} (h : l.length = 12) : ∃ y0 y1 y2 y3 y4 y5 y6 y7 y8 y9 y10 y11, l = [y0, y1, y2, y3, y4, y5, y6, y7, y8, y9, y10, y11] :=
  match l, h with
  | [y0, y1, y2, y3, y4, y5, y6, y7, y8, y9, y10, y11], _ => ⟨y0, y1, y2, y3, y4, y5, y6, y7, y8, y9, y10, y11, rfl⟩
theorem op_dg {H : Type} {enc : TypeId × Value → H} {w : World} {base : Nat} {spare : Nat → Bool} {held : Bool} {fuel : Nat} {cs : List Value} {y : DataW H × List MemPlace} (h : DataW.trod enc Tryz.prog w base spare held fuel 27 cs = some y) :
    ∃ (x0 : Int) (x1 : ByteArray) (x2 : Int) (x3 : ByteArray) (x4 : ByteArray) (x5 : Int) (x6 : Int) (x7 : ByteArray) (x8 : Int) (x9 : Int) (x10 : Int) (x11 : Bool) (x12 : Bool) (x13 : ByteArray) (x14 : ByteArray), cs = [.int .i64 x0, .string x1, .int .u64 x2, .string x3, .string x4, .int .u64 x5, .int .i64 x6, .string x7, .int .u64 x8, .int .i64 x9, .int .i64 x10, .bool x11, .bool x12, .string x13, .string x14] ∧ y = (.agg [.lit (.int .i64 x0), .lit (.string x1.data.toList), .lit (.int .u64 x2), .lit (.string x3.data.toList), .lit (.string x4.data.toList), .lit (.int .u64 x5), .lit (.int .i64 x6), .lit (.string x7.data.toList), .lit (.int .u64 x8), .agg [.lit (.int .i64 x9), .lit (.int .i64 x10), .lit (.bool x11), .lit (.bool x12)], .lit (.string x13.data.toList), .lit (.string x14.data.toList)], []) ∧ (Lit.int .i64 x0).wf = true ∧ x1.size ≤ maxLen ∧ (Lit.int .u64 x2).wf = true ∧ x3.size ≤ maxLen ∧ x4.size ≤ maxLen ∧ (Lit.int .u64 x5).wf = true ∧ (Lit.int .i64 x6).wf = true ∧ x7.size ≤ maxLen ∧ (Lit.int .u64 x8).wf = true ∧ (Lit.int .i64 x9).wf = true ∧ (Lit.int .i64 x10).wf = true ∧ x13.size ≤ maxLen ∧ x14.size ≤ maxLen := by
  obtain ⟨xs, n, rfl, rfl, hl, hlen, hf⟩ := DataW.trod_struct Tryz.underlying27 h
  rw [show Tryz.prog.cellsOf 27 = 15 from by kernel_rfl] at hl
  obtain ⟨c0, c1, c2, c3, c4, c5, c6, c7, c8, c9, c10, c11, c12, c13, c14, rfl⟩ := list_dgc hl
  obtain ⟨y0, y1, y2, y3, y4, y5, y6, y7, y8, y9, y10, y11, rfl⟩ := list_dgf hlen
  have e0 : DataW.trod enc Tryz.prog w base spare held n 3 [c0] = some y0 := by
    have e : DataW.trod enc Tryz.prog w base spare held n 3 (List.take (Tryz.prog.cellsOf 3) (List.drop 0 [c0, c1, c2, c3, c4, c5, c6, c7, c8, c9, c10, c11, c12, c13, c14])) = some y0 := hf 0 _ rfl
    rw [show Tryz.prog.cellsOf 3 = 1 from by kernel_rfl] at e
    exact e
  have e1 : DataW.trod enc Tryz.prog w base spare held n 9 [c1] = some y1 := by
    have e : DataW.trod enc Tryz.prog w base spare held n 9 (List.take (Tryz.prog.cellsOf 9) (List.drop 1 [c0, c1, c2, c3, c4, c5, c6, c7, c8, c9, c10, c11, c12, c13, c14])) = some y1 := hf 1 _ rfl
    rw [show Tryz.prog.cellsOf 9 = 1 from by kernel_rfl] at e
    exact e
  have e2 : DataW.trod enc Tryz.prog w base spare held n 23 [c2] = some y2 := by
    have e : DataW.trod enc Tryz.prog w base spare held n 23 (List.take (Tryz.prog.cellsOf 23) (List.drop 2 [c0, c1, c2, c3, c4, c5, c6, c7, c8, c9, c10, c11, c12, c13, c14])) = some y2 := hf 2 _ rfl
    rw [show Tryz.prog.cellsOf 23 = 1 from by kernel_rfl] at e
    exact e
  have e3 : DataW.trod enc Tryz.prog w base spare held n 9 [c3] = some y3 := by
    have e : DataW.trod enc Tryz.prog w base spare held n 9 (List.take (Tryz.prog.cellsOf 9) (List.drop 3 [c0, c1, c2, c3, c4, c5, c6, c7, c8, c9, c10, c11, c12, c13, c14])) = some y3 := hf 3 _ rfl
    rw [show Tryz.prog.cellsOf 9 = 1 from by kernel_rfl] at e
    exact e
  have e4 : DataW.trod enc Tryz.prog w base spare held n 9 [c4] = some y4 := by
    have e : DataW.trod enc Tryz.prog w base spare held n 9 (List.take (Tryz.prog.cellsOf 9) (List.drop 4 [c0, c1, c2, c3, c4, c5, c6, c7, c8, c9, c10, c11, c12, c13, c14])) = some y4 := hf 4 _ rfl
    rw [show Tryz.prog.cellsOf 9 = 1 from by kernel_rfl] at e
    exact e
  have e5 : DataW.trod enc Tryz.prog w base spare held n 23 [c5] = some y5 := by
    have e : DataW.trod enc Tryz.prog w base spare held n 23 (List.take (Tryz.prog.cellsOf 23) (List.drop 5 [c0, c1, c2, c3, c4, c5, c6, c7, c8, c9, c10, c11, c12, c13, c14])) = some y5 := hf 5 _ rfl
    rw [show Tryz.prog.cellsOf 23 = 1 from by kernel_rfl] at e
    exact e
  have e6 : DataW.trod enc Tryz.prog w base spare held n 3 [c6] = some y6 := by
    have e : DataW.trod enc Tryz.prog w base spare held n 3 (List.take (Tryz.prog.cellsOf 3) (List.drop 6 [c0, c1, c2, c3, c4, c5, c6, c7, c8, c9, c10, c11, c12, c13, c14])) = some y6 := hf 6 _ rfl
    rw [show Tryz.prog.cellsOf 3 = 1 from by kernel_rfl] at e
    exact e
  have e7 : DataW.trod enc Tryz.prog w base spare held n 9 [c7] = some y7 := by
    have e : DataW.trod enc Tryz.prog w base spare held n 9 (List.take (Tryz.prog.cellsOf 9) (List.drop 7 [c0, c1, c2, c3, c4, c5, c6, c7, c8, c9, c10, c11, c12, c13, c14])) = some y7 := hf 7 _ rfl
    rw [show Tryz.prog.cellsOf 9 = 1 from by kernel_rfl] at e
    exact e
  have e8 : DataW.trod enc Tryz.prog w base spare held n 23 [c8] = some y8 := by
    have e : DataW.trod enc Tryz.prog w base spare held n 23 (List.take (Tryz.prog.cellsOf 23) (List.drop 8 [c0, c1, c2, c3, c4, c5, c6, c7, c8, c9, c10, c11, c12, c13, c14])) = some y8 := hf 8 _ rfl
    rw [show Tryz.prog.cellsOf 23 = 1 from by kernel_rfl] at e
    exact e
  have e9 : DataW.trod enc Tryz.prog w base spare held n 25 [c9, c10, c11, c12] = some y9 := by
    have e : DataW.trod enc Tryz.prog w base spare held n 25 (List.take (Tryz.prog.cellsOf 25) (List.drop 9 [c0, c1, c2, c3, c4, c5, c6, c7, c8, c9, c10, c11, c12, c13, c14])) = some y9 := hf 9 _ rfl
    rw [show Tryz.prog.cellsOf 25 = 4 from by kernel_rfl] at e
    exact e
  have e10 : DataW.trod enc Tryz.prog w base spare held n 9 [c13] = some y10 := by
    have e : DataW.trod enc Tryz.prog w base spare held n 9 (List.take (Tryz.prog.cellsOf 9) (List.drop 13 [c0, c1, c2, c3, c4, c5, c6, c7, c8, c9, c10, c11, c12, c13, c14])) = some y10 := hf 10 _ rfl
    rw [show Tryz.prog.cellsOf 9 = 1 from by kernel_rfl] at e
    exact e
  have e11 : DataW.trod enc Tryz.prog w base spare held n 9 [c14] = some y11 := by
    have e : DataW.trod enc Tryz.prog w base spare held n 9 (List.take (Tryz.prog.cellsOf 9) (List.drop 14 [c0, c1, c2, c3, c4, c5, c6, c7, c8, c9, c10, c11, c12, c13, c14])) = some y11 := hf 11 _ rfl
    rw [show Tryz.prog.cellsOf 9 = 1 from by kernel_rfl] at e
    exact e
  clear h hf hl hlen
  obtain ⟨x0, g0, rfl, w0⟩ := DataW.trod_int Tryz.underlying3 e0
  simp only [List.cons.injEq, and_true] at g0
  subst g0
  obtain ⟨x1, g1, rfl, w1⟩ := DataW.trod_string Tryz.underlying9 e1
  simp only [List.cons.injEq, and_true] at g1
  subst g1
  obtain ⟨x2, g2, rfl, w2⟩ := DataW.trod_int Tryz.underlying23 e2
  simp only [List.cons.injEq, and_true] at g2
  subst g2
  obtain ⟨x3, g3, rfl, w3⟩ := DataW.trod_string Tryz.underlying9 e3
  simp only [List.cons.injEq, and_true] at g3
  subst g3
  obtain ⟨x4, g4, rfl, w4⟩ := DataW.trod_string Tryz.underlying9 e4
  simp only [List.cons.injEq, and_true] at g4
  subst g4
  obtain ⟨x5, g5, rfl, w5⟩ := DataW.trod_int Tryz.underlying23 e5
  simp only [List.cons.injEq, and_true] at g5
  subst g5
  obtain ⟨x6, g6, rfl, w6⟩ := DataW.trod_int Tryz.underlying3 e6
  simp only [List.cons.injEq, and_true] at g6
  subst g6
  obtain ⟨x7, g7, rfl, w7⟩ := DataW.trod_string Tryz.underlying9 e7
  simp only [List.cons.injEq, and_true] at g7
  subst g7
  obtain ⟨x8, g8, rfl, w8⟩ := DataW.trod_int Tryz.underlying23 e8
  simp only [List.cons.injEq, and_true] at g8
  subst g8
  obtain ⟨x9, x10, x11, x12, g9, rfl, w9, w10⟩ := op_cmd e9
  simp only [List.cons.injEq, and_true] at g9
  obtain ⟨rfl, rfl, rfl, rfl⟩ := g9
  obtain ⟨x13, g10, rfl, w13⟩ := DataW.trod_string Tryz.underlying9 e10
  simp only [List.cons.injEq, and_true] at g10
  subst g10
  obtain ⟨x14, g11, rfl, w14⟩ := DataW.trod_string Tryz.underlying9 e11
  simp only [List.cons.injEq, and_true] at g11
  subst g11
  exact ⟨x0, x1, x2, x3, x4, x5, x6, x7, x8, x9, x10, x11, x12, x13, x14, rfl, rfl, w0, w1, w2, w3, w4, w5, w6, w7, w8, w9, w10, w13, w14⟩
theorem wf_u64 {n : Int} (h : (Lit.int .u64 n).wf = true) : 0 ≤ n ∧ n < 18446744073709551616 := by
  unfold Lit.wf at h
  rw [Bool.and_eq_true, decide_eq_true_eq, decide_eq_true_eq] at h
  exact ⟨h.1, Int.lt_of_le_of_lt h.2 (by decide)⟩
theorem wf_i64 {n : Int} (h : (Lit.int .i64 n).wf = true) : -9223372036854775808 ≤ n ∧ n ≤ 9223372036854775807 := by
  unfold Lit.wf at h
  rw [Bool.and_eq_true, decide_eq_true_eq, decide_eq_true_eq] at h
  exact h
/-- The datum that a datagram reads as. -/
def Dg.dat (H : Type) (d : Dg) : DataW H := .agg [.lit (.int .i64 d.kind), .lit (.string d.nonce.data.toList), .lit (.int .u64 (d.epoch : Int)), .lit (.string d.cookie.data.toList), .lit (.string d.name.data.toList), .lit (.int .u64 (d.session : Int)), .lit (.int .i64 d.player), .lit (.string d.salt.data.toList), .lit (.int .u64 (d.seq : Int)), .agg [.lit (.int .i64 d.thr), .lit (.int .i64 d.trn), .lit (.bool d.fire), .lit (.bool d.boost)], .lit (.string d.data.data.toList), .lit (.string d.tag.data.toList)]
def Dg.small (d : Dg) (m : Nat) : Prop := d.nonce.size + d.cookie.size + d.name.size + d.salt.size + d.data.size + d.tag.size ≤ m
structure Dg.nums (d : Dg) : Prop where
  kind : -9223372036854775808 ≤ d.kind ∧ d.kind ≤ 9223372036854775807
  player : -9223372036854775808 ≤ d.player ∧ d.player ≤ 9223372036854775807
  thr : -9223372036854775808 ≤ d.thr ∧ d.thr ≤ 9223372036854775807
  trn : -9223372036854775808 ≤ d.trn ∧ d.trn ≤ 9223372036854775807
  u : d.epoch < 18446744073709551616 ∧ d.session < 18446744073709551616 ∧ d.seq < 18446744073709551616
theorem Dg.ok_of {d : Dg} (h : d.nums) (hs : d.small 1048576) : d.ok := by
  have h1 := h.player
  have h2 := h.u
  unfold Dg.small at hs
  unfold Dg.ok
  refine ⟨h2, h1, ?_, ?_, ?_, ?_, ?_, ?_⟩ <;> omega
set_option maxRecDepth 100000 in
theorem open_dg {H : Type} {enc : TypeId × Value → H} {w : World} {base b0 : Nat} {spare : Nat → Bool} {held : Bool} {r : Reach} {v : Value} {dat : DataW H} {p : List MemPlace} (hv : Value.okWide Tryz.prog w r b0 27 v) (h : DataW.Trod enc Tryz.prog w base spare held 27 v dat p) :
    ∃ d : Dg, v = .agg d.cells.toArray ∧ dat = d.dat H ∧ p = [] ∧ d.nums := by
  obtain ⟨cs, rfl, hsz⟩ := okWide_struct Tryz.underlying27 hv
  obtain ⟨fuel, hf⟩ := h
  obtain ⟨x0, x1, x2, x3, x4, x5, x6, x7, x8, x9, x10, x11, x12, x13, x14, hc, hy, w0, w1, w2, w3, w4, w5, w6, w7, w8, w9, w10, _⟩ := op_dg hf
  simp only [Prod.mk.injEq] at hy
  have u2 := wf_u64 w2
  have u5 := wf_u64 w5
  have u8 := wf_u64 w8
  obtain ⟨n2, rfl⟩ : ∃ n : Nat, x2 = (n : Int) := ⟨x2.toNat, by omega⟩
  obtain ⟨n5, rfl⟩ : ∃ n : Nat, x5 = (n : Int) := ⟨x5.toNat, by omega⟩
  obtain ⟨n8, rfl⟩ : ∃ n : Nat, x8 = (n : Int) := ⟨x8.toNat, by omega⟩
  refine ⟨⟨x0, x1, n2, x3, x4, n5, x6, x7, n8, x9, x10, x11, x12, x13, x14⟩, ?_, hy.1, hy.2, ⟨wf_i64 w0, wf_i64 w6, wf_i64 w9, wf_i64 w10, by simp only; omega⟩⟩
  have hc' : cs.toList = Dg.cells ⟨x0, x1, n2, x3, x4, n5, x6, x7, n8, x9, x10, x11, x12, x13, x14⟩ := hc
  rw [← hc']
end Go.Proofs.YtniabkphbnimaaaGreatDoor.Sh
