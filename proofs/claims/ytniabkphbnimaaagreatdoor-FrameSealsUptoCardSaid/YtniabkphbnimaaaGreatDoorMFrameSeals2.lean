/- What the statement FrameSeals leans on, part 2: words, walks and plain laws of this session's own. -/
import Derived.Test.YtniabkphbnimaaaGreatDoorProg
import Derived.Test.YtniabkphbnimaaaGreatDoorRows
import Derived.Test.YtniabkphbnimaaaGreatDoorMFrameSeals1
import Derived.ArgAppend
import Derived.Below
import Derived.BigQuiet
import Derived.ChangeOld
import Derived.ChangeSame
import Derived.Deep.AppendLies
import Derived.Deep.CutBlock
import Derived.Deep.DeepCutAuto
import Derived.Deep.Draws
import Derived.Deep.LoopGhost
import Derived.Deep.OwnRows
import Derived.Deep.QuietTactic
import Derived.Deep.RegionHeld3
import Derived.Deep.RegionLaw
import Derived.Deep.RegionWith
import Derived.Defers
import Derived.Great.Walk
import Derived.KernelRfl
import Derived.Laws.AppendOwn
import Derived.Laws.BitsLemmas
import Derived.Laws.BytesArg
import Derived.Laws.CopyOwn
import Derived.Laws.CopyRow
import Derived.Laws.IdiomCopy
import Derived.Laws.IdiomStrings
import Derived.Laws.MakeOwn
import Derived.Laws.OwnMore
import Derived.Laws.Rows
import Derived.Laws.Slices
import Derived.Lib.AppendStr
import Derived.Lib.ConvBytes
import Derived.Lib.LaidTab
import Derived.Maps.AppendAt
import Derived.Maps.OwnSet
import Derived.OpenShut
import Derived.OrdersHeld
import Derived.OwnWalk
import Derived.ProofKit
import Derived.Recover
import Derived.RowKit
import Derived.RowKit3
import Derived.Shelf.Strings.Repeat
import Derived.Shelf.Strings.Trim
import Derived.ShutString
import Derived.SizedLaws
import Derived.Tactics
import Derived.WalkKit
import Derived.WalkSmall
import Derived.WideLaws
set_option linter.unusedVariables false
set_option linter.unusedSimpArgs false
namespace Go.Proofs.YtniabkphbnimaaaGreatDoor.Sh
open Go Go.RowKit Go.Maps Go.Proofs.YtniabkphbnimaaaGreatDoorW.PrintWords Go.Proofs.YtniabkphbnimaaaGreatDoorW.PrintLast Go.Proofs.YtniabkphbnimaaaGreatDoor.Bs
theorem gl_below {w w' : World} (h : GL w) (hb : Below w.heap.size w w') : GL w' := by
  obtain ⟨t, fr, h⟩ := h
  exact ⟨t, fr, (hb.block _ (blk_lt h)).trans h⟩
def sealedB (l : List UInt8) (k : List UInt8) : Bool := decide (bodyB l ≠ [] ∧ l.drop (bodyB l).length = hmac k (bodyB l))
theorem body_len (l : List UInt8) : (bodyB l).length ≤ l.length := by
  unfold bodyB
  split
  · rw [List.length_take]; omega
  · exact Nat.zero_le _
def T_14_2 : Bool × List (List Nat × List Nat) := (true, [([], []), ([0], [0]), ([1], [1]), ([2], [2]), ([2], [2]), ([4, 2], [2, 4]), ([3, 5, 2], [2, 3, 5]), ([2], [2]), ([2], [2]), ([7, 8, 2, 2], [2, 7, 8]), ([6, 9, 9, 2], [2, 6, 9]), ([2, 10], [2, 10]), ([11, 10, 0, 1, 2, 3, 4, 5, 6, 7, 8, 9, 10, 11], [11])])
def B_14_2 : List Nat := [0, 1, 3, 7, 7, 23, 63, 7, 7, 391, 1023, 2047, 4095]
theorem tab_f14_2 : rtab .any (opsOf Tryz.f14 2) = T_14_2 := by kernel_rfl
theorem bits_f14_2 : waitsOk T_14_2.2 B_14_2 = true := by kernel_rfl
set_option maxHeartbeats 8000000 in
set_option maxRecDepth 100000 in
theorem sealed_calls (l : List UInt8) (k : ByteArray) (w : World) (hg : GL w) (hl : l.length < 1099511627776) (hk : k.size < 1099511627776) : Calls Tryz.prog 14 #[.string (str l), .string k] w fun e w' => e = .returned (.bool (sealedB l (bl k))) ∧ Below w.heap.size w w' := by
  have HG := Aside0.mk hg
  have HK := Aside0.mk hk
  have HL := Aside0.mk hl
  obtain ⟨t, et⟩ : ∃ t, t = str l := ⟨_, rfl⟩
  have hts : t.size = l.length := by rw [et]; rfl
  obtain ⟨b, eb⟩ : ∃ b, b = str (bodyB l) := ⟨_, rfl⟩
  have hbs : b.size = (bodyB l).length := by rw [eb]; rfl
  rw [← et]
  have BC := Aside0.mk (show ∀ w, Calls Tryz.prog 12 #[.string t] w fun e w' => e = .returned (.string b) ∧ Below w.heap.size w w' from fun w => by rw [et, eb]; exact body_calls l (by omega) w)
  by_cases hb : bodyB l = []
  · have o1 : b.toList = [] := by rw [eb, hb]; exact str_list []
    have o2 : b.toList.isEmpty = true := by rw [o1]; rfl
    have ES := Aside0.mk (show sealedB l (bl k) = false from decide_eq_false (fun h => h.1 hb))
    clear et eb hts hbs hb hg hk hl
    go_enter Tryz.func14, Tryz.ntmps14
    go_wp2_with (go_at_call 12; (with_reducible refine (BC.out w).mono ?_); rintro e w1 ⟨rfl, hb1⟩; have HB1 := Aside0.mk hb1; clear hb1)
    refine start_ (n := 13) (S := fun w' => True) (ds := []) #[false, false, false, false, false, false, false, false, false, false, false, false, false] (by kernel_rfl) rfl rfl trivial (fun hHeld => ?_)
    refine with_tabW tab_f14_2 bits_f14_2 (fun HT_ HW_ => ?_)
    refine pure_ (i := 0) (N := some 8) (v := ?_) (a' := ?_) #[true, false, false, false, false, false, false, false, false, false, false, false, false] rfl rfl (any_of HT_.out (by kernel_rfl)) (fun _ _ _ h => h) (Or.inl ⟨by rfl, ?_⟩) ?_ ?_
    rotate_left
    · intro w'
      go_simp
      with_reducible rfl
    rotate_left
    · simp only [pS]
      rfl
    refine pure_ (i := 1) (N := some 9) (v := ?_) (a' := ?_) #[true, true, false, false, false, false, false, false, false, false, false, false, false] rfl rfl (any_of HT_.out (by kernel_rfl)) (fun _ _ _ h => h) (Or.inl ⟨by rfl, ?_⟩) ?_ ?_
    rotate_left
    · intro w'
      go_simp
      with_reducible rfl
    rotate_left
    · simp only [pS]
      rfl
    refine pure_ (i := 2) (N := some 10) (v := ?_) (a' := ?_) #[true, true, true, false, false, false, false, false, false, false, false, false, false] rfl rfl (any_of HT_.out (by kernel_rfl)) (fun _ _ _ h => h) (Or.inl ⟨by rfl, ?_⟩) ?_ ?_
    rotate_left
    · intro w'
      go_simp
      with_reducible rfl
    rotate_left
    · simp only [pS]
      rfl
    refine pure_ (i := 3) (N := some 11) (v := undef) (a' := ?_) #[true, true, true, true, false, false, false, false, false, false, false, false, false] rfl rfl (any_of HT_.out (by kernel_rfl)) (fun _ _ _ h => h) (Or.inr ⟨by rfl, rfl⟩) ?_ ?_
    rotate_left
    · simp only [pS]
      rfl
    refine pure_ (i := 4) (N := some 12) (v := undef) (a' := ?_) #[true, true, true, true, true, false, false, false, false, false, false, false, false] rfl rfl (any_of HT_.out (by kernel_rfl)) (fun _ _ _ h => h) (Or.inr ⟨by rfl, rfl⟩) ?_ ?_
    rotate_left
    · simp only [pS]
      rfl
    refine pure_ (i := 5) (N := some 13) (v := undef) (a' := ?_) #[true, true, true, true, true, true, false, false, false, false, false, false, false] rfl rfl (any_of HT_.out (by kernel_rfl)) (fun _ _ _ h => h) (Or.inr ⟨by rfl, rfl⟩) ?_ ?_
    rotate_left
    · simp only [pS]
      rfl
    refine pure_ (i := 6) (N := some 14) (v := undef) (a' := ?_) #[true, true, true, true, true, true, true, false, false, false, false, false, false] rfl rfl (any_of HT_.out (by kernel_rfl)) (fun _ _ _ h => h) (Or.inr ⟨by rfl, rfl⟩) ?_ ?_
    rotate_left
    · simp only [pS]
      rfl
    refine pure_ (i := 7) (N := some 15) (v := undef) (a' := ?_) #[true, true, true, true, true, true, true, true, false, false, false, false, false] rfl rfl (any_of HT_.out (by kernel_rfl)) (fun _ _ _ h => h) (Or.inr ⟨by rfl, rfl⟩) ?_ ?_
    rotate_left
    · simp only [pS]
      rfl
    refine pure_ (i := 8) (N := some 16) (v := undef) (a' := ?_) #[true, true, true, true, true, true, true, true, true, false, false, false, false] rfl rfl (any_of HT_.out (by kernel_rfl)) (fun _ _ _ h => h) (Or.inr ⟨by rfl, rfl⟩) ?_ ?_
    rotate_left
    · simp only [pS]
      rfl
    refine pure_ (i := 9) (N := some 17) (v := undef) (a' := ?_) #[true, true, true, true, true, true, true, true, true, true, false, false, false] rfl rfl (any_of HT_.out (by kernel_rfl)) (fun _ _ _ h => h) (Or.inr ⟨by rfl, rfl⟩) ?_ ?_
    rotate_left
    · simp only [pS]
      rfl
    refine pure_ (i := 10) (N := some 18) (v := undef) (a' := ?_) #[true, true, true, true, true, true, true, true, true, true, true, false, false] rfl rfl (any_of HT_.out (by kernel_rfl)) (fun _ _ _ h => h) (Or.inr ⟨by rfl, rfl⟩) ?_ ?_
    rotate_left
    · simp only [pS]
      rfl
    refine pure_ (i := 11) (N := some 19) (v := ?_) (a' := ?_) #[true, true, true, true, true, true, true, true, true, true, true, true, false] rfl rfl (any_of HT_.out (by kernel_rfl)) (fun _ _ _ h => h) (Or.inl ⟨by rfl, ?_⟩) ?_ ?_
    rotate_left
    · intro w'
      go_simp
      with_reducible rfl
    rotate_left
    · simp only [pS]
      rfl
    refine pure_ (i := 12) (N := some 4) (v := ?_) (a' := ?_) #[true, true, true, true, true, true, true, true, true, true, true, true, true] rfl rfl (any_of HT_.out (by kernel_rfl)) (fun _ _ _ h => h) (Or.inl ⟨by rfl, ?_⟩) ?_ ?_
    rotate_left
    · intro w'
      go_simp
      with_reducible rfl
    rotate_left
    · simp only [pS]
      rfl
    refine done_ (done_of HT_.out (by kernel_rfl)) ?_
    clear HT_ HW_ hHeld
    go_wp2
    go_ret
    rw [ES.out]
    exact ⟨rfl, below_drew1 HB1.out⟩
  · have o1 : b.toList.isEmpty = false := by
      rw [eb, str_list]
      cases h : bodyB l with
      | nil => exact absurd h hb
      | cons x y => rfl
    have o2 : ¬ b.toList = [] := by rw [eb, str_list]; exact hb
    have o3 : b.size ≤ t.size := by rw [hbs, hts]; exact body_len l
    obtain ⟨m, em⟩ : ∃ m, m = str (hmac (bl k) (bodyB l)) := ⟨_, rfl⟩
    have TC := Aside0.mk (show ∀ w, GL w → Calls Tryz.prog 23 #[.string k, .string b] w fun e w' => e = .returned (.string m) ∧ Below w.heap.size w w' from fun w hg => by
      have h := tag_calls k b w hg hk (by rw [hbs]; exact Nat.lt_of_le_of_lt (body_len l) hl)
      rw [em]
      rw [show bl b = bodyB l by rw [eb]; rfl] at h
      exact h)
    have ES := Aside0.mk (show sealedB l (bl k) = decide (l.drop (bodyB l).length = hmac (bl k) (bodyB l)) from decide_eq_decide.mpr ⟨fun h => h.2, fun h => ⟨hb, h⟩⟩)
    have SC := Aside0.mk (show ∀ w, Calls Tryz.prog 36 #[.string (t.extract b.size t.size), .string m] w fun e w' => e = .returned (.bool (sealedB l (bl k))) ∧ Below w.heap.size w w' from fun w => by
      rw [ES.out, em, hbs, et, str_drop]
      exact same_calls _ _ (by rw [List.length_drop]; omega) w)
    clear et eb em hts hbs hb hg hk hl
    go_enter Tryz.func14, Tryz.ntmps14
    go_wp2_with (go_at_call 12; (with_reducible refine (BC.out w).mono ?_); rintro e w1 ⟨rfl, hb1⟩; have HB1 := Aside0.mk hb1; clear hb1)
    refine start_ (n := 13) (S := fun w' => True) (ds := []) #[false, false, false, false, false, false, false, false, false, false, false, false, false] (by kernel_rfl) rfl rfl trivial (fun hHeld => ?_)
    refine with_tabW tab_f14_2 bits_f14_2 (fun HT_ HW_ => ?_)
    refine pure_ (i := 0) (N := some 8) (v := ?_) (a' := ?_) #[true, false, false, false, false, false, false, false, false, false, false, false, false] rfl rfl (any_of HT_.out (by kernel_rfl)) (fun _ _ _ h => h) (Or.inl ⟨by rfl, ?_⟩) ?_ ?_
    rotate_left
    · intro w'
      go_simp
      with_reducible rfl
    rotate_left
    · simp only [pS]
      rfl
    refine pure_ (i := 1) (N := some 9) (v := ?_) (a' := ?_) #[true, true, false, false, false, false, false, false, false, false, false, false, false] rfl rfl (any_of HT_.out (by kernel_rfl)) (fun _ _ _ h => h) (Or.inl ⟨by rfl, ?_⟩) ?_ ?_
    rotate_left
    · intro w'
      go_simp
      with_reducible rfl
    rotate_left
    · simp only [pS]
      rfl
    refine pure_ (i := 2) (N := some 10) (v := ?_) (a' := ?_) #[true, true, true, false, false, false, false, false, false, false, false, false, false] rfl rfl (any_of HT_.out (by kernel_rfl)) (fun _ _ _ h => h) (Or.inl ⟨by rfl, ?_⟩) ?_ ?_
    rotate_left
    · intro w'
      go_simp
      with_reducible rfl
    rotate_left
    · simp only [pS]
      rfl
    refine pure_ (i := 3) (N := some 11) (v := ?_) (a' := ?_) #[true, true, true, true, false, false, false, false, false, false, false, false, false] rfl rfl (any_of HT_.out (by kernel_rfl)) (fun _ _ _ h => h) (Or.inl ⟨by rfl, ?_⟩) ?_ ?_
    rotate_left
    · intro w'
      go_simp
      with_reducible rfl
    rotate_left
    · simp only [pS]
      rfl
    refine pure_ (i := 4) (N := some 12) (v := ?_) (a' := ?_) #[true, true, true, true, true, false, false, false, false, false, false, false, false] rfl rfl (any_of HT_.out (by kernel_rfl)) (fun _ _ _ h => h) (Or.inl ⟨by rfl, ?_⟩) ?_ ?_
    rotate_left
    · intro w'
      go_simp
      with_reducible rfl
    rotate_left
    · simp only [pS]
      rfl
    refine pure_ (i := 5) (N := some 13) (v := ?_) (a' := ?_) #[true, true, true, true, true, true, false, false, false, false, false, false, false] rfl rfl (any_of HT_.out (by kernel_rfl)) (fun _ _ _ h => h) (Or.inl ⟨by rfl, ?_⟩) ?_ ?_
    rotate_left
    · intro w'
      go_simp
      with_reducible rfl
    rotate_left
    · simp only [pS]
      rfl
    refine pure_ (i := 6) (N := some 14) (v := ?_) (a' := ?_) #[true, true, true, true, true, true, true, false, false, false, false, false, false] rfl rfl (any_of HT_.out (by kernel_rfl)) (fun _ _ _ h => h) (Or.inl ⟨by rfl, ?_⟩) ?_ ?_
    rotate_left
    · intro w'
      go_simp
      with_reducible rfl
    rotate_left
    · simp only [pS]
      rfl
    refine pure_ (i := 7) (N := some 15) (v := ?_) (a' := ?_) #[true, true, true, true, true, true, true, true, false, false, false, false, false] rfl rfl (any_of HT_.out (by kernel_rfl)) (fun _ _ _ h => h) (Or.inl ⟨by rfl, ?_⟩) ?_ ?_
    rotate_left
    · intro w'
      go_simp
      with_reducible rfl
    rotate_left
    · simp only [pS]
      rfl
    refine pure_ (i := 8) (N := some 16) (v := ?_) (a' := ?_) #[true, true, true, true, true, true, true, true, true, false, false, false, false] rfl rfl (any_of HT_.out (by kernel_rfl)) (fun _ _ _ h => h) (Or.inl ⟨by rfl, ?_⟩) ?_ ?_
    rotate_left
    · intro w'
      go_simp
      with_reducible rfl
    rotate_left
    · simp only [pS]
      rfl
    refine one_ (i := 9) (N := some 17) #[true, true, true, true, true, true, true, true, true, true, false, false, false] rfl rfl (one_of HT_.out (by kernel_rfl)) (by decide) (fun K hK => ?_)
    refine goes_ Tryz.func23 (by kernel_rfl) rfl #[.string k, .string b] (by rfl) rfl rfl (by (try simp only [List.map_toArray, List.map_cons, List.map_nil]); first | done | rfl) ?_
    with_reducible refine (TC.out _ (gl_below HG.out (below_drew1 HB1.out))).mono ?_
    rintro e w2 ⟨rfl, hb2⟩
    refine ⟨_, rfl, ?_⟩
    have HB2 := Aside0.mk (show Below w.heap.size w w2 from (below_drew1 HB1.out).trans (hb2.mono HB1.out.size))
    refine hK.out _ _ trivial (fun hHeld => ?_)
    clear hK K
    refine norm_ (a' := ?_) ?_ ?_
    rotate_left
    · show Act.put _ (some 17) _ = _
      simp only [pS]
      rfl
    refine one_ (i := 10) (N := some 18) #[true, true, true, true, true, true, true, true, true, true, true, false, false] rfl rfl (one_of HT_.out (by kernel_rfl)) (by decide) (fun K hK => ?_)
    refine goes_ Tryz.func36 (by kernel_rfl) rfl #[.string (t.extract b.size t.size), .string m] (by rfl) rfl rfl (by (try simp only [List.map_toArray, List.map_cons, List.map_nil]); first | done | rfl) ?_
    with_reducible refine (SC.out _).mono ?_
    rintro e w3 ⟨rfl, hb3⟩
    refine ⟨_, rfl, ?_⟩
    have HB3 := Aside0.mk (HB2.out.trans (hb3.mono HB2.out.size))
    refine hK.out _ _ trivial (fun hHeld => ?_)
    clear hK K
    refine norm_ (a' := ?_) ?_ ?_
    rotate_left
    · show Act.put _ (some 18) _ = _
      simp only [pS]
      rfl
    refine pure_ (i := 11) (N := some 19) (v := ?_) (a' := ?_) #[true, true, true, true, true, true, true, true, true, true, true, true, false] rfl rfl (any_of HT_.out (by kernel_rfl)) (fun _ _ _ h => h) (Or.inl ⟨by rfl, ?_⟩) ?_ ?_
    rotate_left
    · intro w'
      go_simp
      with_reducible rfl
    rotate_left
    · simp only [pS]
      rfl
    refine pure_ (i := 12) (N := some 4) (v := ?_) (a' := ?_) #[true, true, true, true, true, true, true, true, true, true, true, true, true] rfl rfl (any_of HT_.out (by kernel_rfl)) (fun _ _ _ h => h) (Or.inl ⟨by rfl, ?_⟩) ?_ ?_
    rotate_left
    · intro w'
      go_simp
      with_reducible rfl
    rotate_left
    · simp only [pS]
      rfl
    refine done_ (done_of HT_.out (by kernel_rfl)) ?_
    clear HT_ HW_ hHeld
    go_wp2
    go_ret
    exact ⟨rfl, HB3.out⟩
def sealB (d : Dg) (k : List UInt8) : ByteArray × Int :=
  if 3 ≤ d.kind ∧ d.kind ≤ 7 then
    if (enc { d with tag := str (List.replicate 32 0) }).2 ≠ 0 then (⟨#[]⟩, (enc { d with tag := str (List.replicate 32 0) }).2)
    else (str (bodyB (bl (enc { d with tag := str (List.replicate 32 0) }).1) ++ hmac k (bodyB (bl (enc { d with tag := str (List.replicate 32 0) }).1))), 0)
  else (⟨#[]⟩, 71)
theorem enc_size (d : Dg) : (enc d).1.size ≤ 1200 := by
  unfold enc
  split
  · dsimp only
    split
    · exact Nat.zero_le _
    · split
      · exact Nat.zero_le _
      · rename_i h
        show ((putAll d (fieldsOf d.kind) (false, some ([74, 48, 49] ++ [UInt8.ofNat d.kind.toNat]))).2.getD []).length ≤ 1200
        omega
  · exact Nat.zero_le _
set_option maxHeartbeats 8000000 in
set_option maxRecDepth 100000 in
theorem seal_calls (d : Dg) (k : ByteArray) (w : World) (hg : GL w) (hd : d.ok) (hkd : -9223372036854775808 ≤ d.kind ∧ d.kind ≤ 9223372036854775807) (hk : k.size < 1099511627776) : Calls Tryz.prog 18 #[.agg d.cells.toArray, .string k] w fun e w' => e = .returned (.tuple #[.string (sealB d (bl k)).1, .int .i64 (sealB d (bl k)).2]) ∧ Below w.heap.size w w' := by
  have HG := Aside0.mk hg
  have HK := Aside0.mk hk
  have RC := Aside0.mk (show ∀ w, Calls Tryz.prog 44 #[.string ⟨#[0]⟩, .int .i64 32] w fun e w' => e = .returned (.string (str (List.replicate 32 0))) ∧ Below w.heap.size w w' from fun w => rep_calls 32 32 rfl (by omega) w)
  have TGC := Aside0.mk (show ∀ w, Calls Tryz.prog 35 #[.int .i64 d.kind] w fun e w' => e = .returned (.bool (decide (3 ≤ d.kind ∧ d.kind ≤ 7))) ∧ Below w.heap.size w w' from tagged_calls d.kind)
  by_cases h37 : 3 ≤ d.kind ∧ d.kind ≤ 7
  · obtain ⟨d2, ed2⟩ : ∃ d2, d2 = { d with tag := str (List.replicate 32 0) } := ⟨_, rfl⟩
    obtain ⟨s, es⟩ : ∃ s, s = (enc d2).1 := ⟨_, rfl⟩
    obtain ⟨c, ec⟩ : ∃ c, c = (enc d2).2 := ⟨_, rfl⟩
    have hok : d2.ok := by rw [ed2]; unfold Dg.ok at hd ⊢; exact ⟨hd.1, hd.2.1, hd.2.2.1, hd.2.2.2.1, hd.2.2.2.2.1, hd.2.2.2.2.2.1, hd.2.2.2.2.2.2.1, by show (List.replicate 32 (0 : UInt8)).length < _; rw [List.length_replicate]; omega⟩
    have hrow : d.cells.set 14 (.string (str (List.replicate 32 0))) = d2.cells := by rw [ed2]; rfl
    have EC := Aside0.mk (show ∀ w, Calls Tryz.prog 16 #[.agg d2.cells.toArray] w fun e w' => e = .returned (.tuple #[.string s, .int .i64 c]) ∧ Below w.heap.size w w' from fun w => by rw [es, ec]; exact encode_calls d2 hok (by rw [ed2]; exact hkd) w)
    have hss : s.size ≤ 1200 := by rw [es]; exact enc_size d2
    have ESB := Aside0.mk (show sealB d (bl k) = if c ≠ 0 then (⟨#[]⟩, c) else (str (bodyB (bl s) ++ hmac (bl k) (bodyB (bl s))), 0) from by unfold sealB; rw [if_pos h37, ← ed2, ← ec, ← es])
    rw [decide_eq_true h37] at TGC
    have HROW := Aside0.mk hrow
    clear es ec ed2 hok hrow h37
    obtain ⟨b, eb⟩ : ∃ b, b = str (bodyB (bl s)) := ⟨_, rfl⟩
    obtain ⟨m, em⟩ : ∃ m, m = str (hmac (bl k) (bodyB (bl s))) := ⟨_, rfl⟩
    have BC := Aside0.mk (show ∀ w, Calls Tryz.prog 12 #[.string s] w fun e w' => e = .returned (.string b) ∧ Below w.heap.size w w' from fun w => by
      have h := body_calls (bl s) (by rw [bl_len]; omega) w
      rw [str_bl, ← eb] at h
      exact h)
    have TC := Aside0.mk (show ∀ w, GL w → Calls Tryz.prog 23 #[.string k, .string b] w fun e w' => e = .returned (.string m) ∧ Below w.heap.size w w' from fun w hg => by
      have h := tag_calls k b w hg hk (by rw [eb]; have := body_len (bl s); rw [bl_len] at this; show (bodyB (bl s)).length < _; omega)
      rw [em]
      rw [show bl b = bodyB (bl s) by rw [eb]; rfl] at h
      exact h)
    have EBM := Aside0.mk (show str (bodyB (bl s) ++ hmac (bl k) (bodyB (bl s))) = b ++ m from by rw [eb, em]; apply ByteArray.ext; simp [str])
    have o3 : ¬ 9223372036854775807 < b.size + m.size := by
      have h1 : b.size ≤ s.size := by rw [eb]; have := body_len (bl s); rw [bl_len] at this; exact this
      have h2 : m.size = 32 := by rw [em]; exact length_sha _
      omega
    clear eb em hss hg hd hkd hk
    by_cases hc : c = 0
    · have ES2 := Aside0.mk (show sealB d (bl k) = (b ++ m, 0) from by rw [ESB.out, if_neg (by rw [hc]; decide), EBM.out])
      subst hc
      go_enter Tryz.func18, Tryz.ntmps18
      go_wp2_with (first
        | (refine wpList_box_v rfl 27 _ rfl d.cells rfl (by kernel_rfl) ?_; intro D w1 eD hD1 hb1 hz1; have c0 : w1.cell? ⟨D, 0, none⟩ = some (.int .i64 d.kind) := cell_of hD1.out rfl)
        | (go_at_call 35; (with_reducible refine (TGC.out w1).mono ?_); rintro e w2 ⟨rfl, hb2⟩; have HB2 := Aside0.mk (hb1.out.trans (hb2.mono hb1.out.size)); have HD2 := Aside0.mk ((hb2.block D (blk_lt hD1.out)).trans hD1.out); clear hb2)
        | (go_at_call 44; (with_reducible refine (RC.out _).mono ?_); rintro e w3 ⟨rfl, hb3⟩; have HB3 := Aside0.mk (HB2.out.trans (hb3.mono HB2.out.size)); have HD3 := Aside0.mk ((hb3.block D (blk_lt HD2.out)).trans HD2.out); have c14 : w3.cell? ⟨D, 14, none⟩ = some (.string d.tag) := cell_of HD3.out rfl; have f14 := Wd_thaw HD3.out 14; clear hb3)
        | (refine wpList_load_agg rfl 27 _ rfl D 0 rfl d2.cells (load_all (HROW.out ▸ set_of HD3.out 14 (.string (str (List.replicate 32 0))))) _ Tryz.underlying27 rfl (by kernel_rfl) ?_)
        | (go_at_call 16; (with_reducible refine (EC.out _).mono ?_); rintro e w4 ⟨rfl, hb4⟩; have HB4 := Aside0.mk (show Below w.heap.size w w4 from (below_set1 HB3.out (Nat.le_of_eq eD.out.symm) _).trans (hb4.mono (below_set1 HB3.out (Nat.le_of_eq eD.out.symm) _).size)); clear hb4)
        | (go_at_call 12; (with_reducible refine (BC.out _).mono ?_); rintro e w5 ⟨rfl, hb5⟩; have HB5 := Aside0.mk (HB4.out.trans (hb5.mono HB4.out.size)); clear hb5)
        | (go_at_call 23; (with_reducible refine (TC.out _ (gl_below HG.out HB5.out)).mono ?_); rintro e w6 ⟨rfl, hb6⟩; have HB6 := Aside0.mk (HB5.out.trans (hb6.mono HB5.out.size)); clear hb6))
      go_ret2
      rw [ES2.out]
      exact ⟨rfl, HB6.out⟩
    · have ES2 := Aside0.mk (show sealB d (bl k) = (⟨#[]⟩, c) from by rw [ESB.out, if_pos hc])
      have o1 : (c == 0) = false := beq_eq_false_iff_ne.mpr hc
      have o2 : (c != 0) = true := by simp [bne, o1]
      clear hc
      go_enter Tryz.func18, Tryz.ntmps18
      go_wp2_with (first
        | (refine wpList_box_v rfl 27 _ rfl d.cells rfl (by kernel_rfl) ?_; intro D w1 eD hD1 hb1 hz1; have c0 : w1.cell? ⟨D, 0, none⟩ = some (.int .i64 d.kind) := cell_of hD1.out rfl)
        | (go_at_call 35; (with_reducible refine (TGC.out w1).mono ?_); rintro e w2 ⟨rfl, hb2⟩; have HB2 := Aside0.mk (hb1.out.trans (hb2.mono hb1.out.size)); have HD2 := Aside0.mk ((hb2.block D (blk_lt hD1.out)).trans hD1.out); clear hb2)
        | (go_at_call 44; (with_reducible refine (RC.out _).mono ?_); rintro e w3 ⟨rfl, hb3⟩; have HB3 := Aside0.mk (HB2.out.trans (hb3.mono HB2.out.size)); have HD3 := Aside0.mk ((hb3.block D (blk_lt HD2.out)).trans HD2.out); have c14 : w3.cell? ⟨D, 14, none⟩ = some (.string d.tag) := cell_of HD3.out rfl; have f14 := Wd_thaw HD3.out 14; clear hb3)
        | (refine wpList_load_agg rfl 27 _ rfl D 0 rfl d2.cells (load_all (HROW.out ▸ set_of HD3.out 14 (.string (str (List.replicate 32 0))))) _ Tryz.underlying27 rfl (by kernel_rfl) ?_)
        | (go_at_call 16; (with_reducible refine (EC.out _).mono ?_); rintro e w4 ⟨rfl, hb4⟩; have HB4 := Aside0.mk (show Below w.heap.size w w4 from (below_set1 HB3.out (Nat.le_of_eq eD.out.symm) _).trans (hb4.mono (below_set1 HB3.out (Nat.le_of_eq eD.out.symm) _).size)); clear hb4))
      go_ret2
      rw [ES2.out]
      exact ⟨rfl, HB4.out⟩
  · have ES2 := Aside0.mk (show sealB d (bl k) = (⟨#[]⟩, 71) from if_neg h37)
    rw [decide_eq_false h37] at TGC
    clear h37 hg hd hkd hk
    go_enter Tryz.func18, Tryz.ntmps18
    go_wp2_with (first
      | (refine wpList_box_v rfl 27 _ rfl d.cells rfl (by kernel_rfl) ?_; intro D w1 eD hD1 hb1 hz1; have c0 : w1.cell? ⟨D, 0, none⟩ = some (.int .i64 d.kind) := cell_of hD1.out rfl)
      | (go_at_call 35; (with_reducible refine (TGC.out w1).mono ?_); rintro e w2 ⟨rfl, hb2⟩))
    go_ret2
    rw [ES2.out]
    exact ⟨rfl, hb1.out.trans (hb2.mono hb1.out.size)⟩
end Go.Proofs.YtniabkphbnimaaaGreatDoor.Sh
namespace Go.Proofs.YtniabkphbnimaaaGreatDoor.Sh
open Go Go.RowKit Go.Maps Go.Proofs.YtniabkphbnimaaaGreatDoorW.PrintWords Go.Proofs.YtniabkphbnimaaaGreatDoorW.PrintLast Go.Proofs.YtniabkphbnimaaaGreatDoor.Bs
theorem dw_nil {α : Type} (p : α → Bool) (l : List α) : l.dropWhile p = [] ↔ ∀ b ∈ l, p b = true := by
  induction l with
  | nil => simp
  | cons x l ih =>
    by_cases h : p x = true
    · rw [List.dropWhile_cons_of_pos h, ih]
      simp [h]
    · rw [List.dropWhile_cons_of_neg h]
      simp [h]
theorem trimB_nil (l : List UInt8) (c : UInt8) : Lib.trimB l c = [] ↔ ∀ b ∈ l, b = c := by
  have e1 : ∀ m : List UInt8, Lib.trimLeftB m c = [] ↔ ∀ b ∈ m, b = c := by
    intro m
    unfold Lib.trimLeftB
    rw [dw_nil]
    simp
  unfold Lib.trimB
  rw [e1]
  unfold Lib.trimRightB
  constructor
  · intro h
    have hn : l.reverse.dropWhile (· == c) = [] := by
      cases hy : l.reverse.dropWhile (· == c) with
      | nil => rfl
      | cons y ys =>
        exfalso
        have h1 := List.head?_dropWhile_not (· == c) l.reverse
        rw [hy] at h1
        have h2 := h y (by rw [hy]; simp)
        simp [h2] at h1
    intro b hb
    have := (dw_nil _ _).mp hn b (List.mem_reverse.mpr hb)
    simpa using this
  · intro h b hb
    have h2 : l.reverse.dropWhile (· == c) = [] := (dw_nil _ _).mpr (fun b hb => by simp [h b (List.mem_reverse.mp hb)])
    rw [h2] at hb
    cases hb
@[reducible] def dk (k : Nat) : Dg := { Dg.zero with kind := (k : Int) }
/-- What comes behind the fields. -/
def fin (o : Option (Dg × Bool × List UInt8)) : Dg × Int :=
  match o with
  | none => (.zero, 72)
  | some (d, bad, r) => if r ≠ [] then (.zero, 72) else if bad = true then (.zero, 73) else (d, 0)
theorem nil_drop (t : List UInt8) (n : Nat) : t.drop n ≠ [] ↔ n < t.length := by
  rw [Ne, List.drop_eq_nil_iff]
  omega
theorem dec1 (t : List UInt8) : fin (getAll (fieldsOf 1) (dk 1, false, t)) = if t.length = 92 then (if ∀ b ∈ t.drop 16, b = 0 then ({ dk 1 with nonce := str (t.take 16) }, 0) else (.zero, 73)) else (.zero, 72) := by
  show fin (getAll [.nonce, .zeros] (dk 1, false, t)) = _
  simp only [getAll, getF]
  by_cases h1 : 16 ≤ t.length
  · rw [if_pos h1]
    simp only [Option.bind_some, List.length_drop, List.drop_drop]
    by_cases h2 : 76 ≤ t.length - 16
    · rw [if_pos h2]
      simp only [Option.bind_some, fin]
      by_cases h3 : t.length = 92
      · rw [if_pos h3, if_neg (by rw [nil_drop]; omega), List.take_of_length_le (by rw [List.length_drop]; omega)]
        by_cases h4 : ∀ b ∈ t.drop 16, b = 0
        · rw [if_pos h4, if_neg (by simp only [decide_eq_true_eq]; exact fun h => h ((trimB_nil _ _).mpr h4))]
        · rw [if_neg h4, if_pos (decide_eq_true (p := Lib.trimB (t.drop 16) 0 ≠ []) (fun h => h4 ((trimB_nil _ _).mp h)))]
      · rw [if_neg h3, if_pos (by rw [nil_drop]; omega)]
    · rw [if_neg h2, if_neg (by omega)]
      rfl
  · rw [if_neg h1, if_neg (by omega)]
    rfl
theorem dec5 (t : List UInt8) : fin (getAll (fieldsOf 5) (dk 5, false, t)) = if t.length = 51 then (if 3 < (t.getD 18 0).toNat then (.zero, 73) else ({ dk 5 with session := num (t.take 8), seq := num ((t.drop 8).take 8), thr := sbyte (t.getD 16 0), trn := sbyte (t.getD 17 0), fire := bit0 (t.getD 18 0), boost := bit1 (t.getD 18 0), tag := str ((t.drop 19).take 32) }, 0)) else (.zero, 72) := by
  show fin (getAll [.session, .seq, .command, .tag] (dk 5, false, t)) = _
  simp only [getAll, getF]
  by_cases h1 : 8 ≤ t.length
  · rw [if_pos h1]
    simp only [Option.bind_some, List.length_drop, List.drop_drop]
    by_cases h2 : 8 ≤ t.length - 8
    · rw [if_pos h2]
      simp only [Option.bind_some, List.length_drop, List.drop_drop]
      by_cases h4 : 19 ≤ t.length
      · have e : t.drop (8 + 8) = t.getD 16 0 :: t.getD 17 0 :: t.getD 18 0 :: t.drop 19 := by
          rw [show 8 + 8 = 16 from rfl, List.drop_eq_getElem_cons (by omega), List.drop_eq_getElem_cons (i := 16 + 1) (by omega), List.drop_eq_getElem_cons (i := 16 + 1 + 1) (by omega)]
          simp only [List.getD_eq_getElem?_getD]
          rw [List.getElem?_eq_getElem (i := 16) (by omega), List.getElem?_eq_getElem (i := 17) (by omega), List.getElem?_eq_getElem (i := 18) (by omega)]
          rfl
        rw [e]
        simp only [Option.bind_some, List.length_drop, List.drop_drop]
        by_cases h5 : 32 ≤ t.length - 19
        · rw [if_pos h5]
          simp only [Option.bind_some, fin]
          by_cases h7 : t.length = 51
          · rw [if_pos h7, if_neg (by rw [nil_drop]; omega)]
            simp only [decide_eq_true_eq]
          · rw [if_neg h7, if_pos (by rw [nil_drop]; omega)]
        · rw [if_neg h5, if_neg (by omega)]
          rfl
      · have e : (match t.drop (8 + 8) with | a :: b :: c :: t => some (({ { { dk 5 with session := num (t.take 8) } with seq := num ((t.drop 8).take 8) } with thr := sbyte a, trn := sbyte b, fire := bit0 c, boost := bit1 c } : Dg), decide (3 < c.toNat), t) | _ => none) = none := by
          have hl : (t.drop (8 + 8)).length ≤ 2 := by rw [List.length_drop]; omega
          match h : t.drop (8 + 8), hl with
          | [], _ => rfl
          | [_], _ => rfl
          | [_, _], _ => rfl
        have hl : (t.drop (8 + 8)).length ≤ 2 := by rw [List.length_drop]; omega
        rw [if_neg (by omega)]
        match h : t.drop (8 + 8), hl with
        | [], _ => rfl
        | [_], _ => rfl
        | [_, _], _ => rfl
    · rw [if_neg h2, if_neg (by omega)]
      rfl
  · rw [if_neg h1, if_neg (by omega)]
    rfl
theorem dec_at (k : UInt8) (t : List UInt8) (h : (74 :: 48 :: 49 :: k :: t : List UInt8).length ≤ 1200) (hk : 1 ≤ k.toNat ∧ k.toNat ≤ 7) : dec (74 :: 48 :: 49 :: k :: t) = fin (getAll (fieldsOf (k.toNat : Int)) (dk k.toNat, false, t)) := by
  unfold dec
  rw [if_neg (by omega), if_pos (show List.take 3 (74 :: 48 :: 49 :: k :: t : List UInt8) = [74, 48, 49] from rfl)]
  show (if 1 ≤ (k.toNat : Int) ∧ (k.toNat : Int) ≤ 7 then _ else _) = _
  rw [if_pos (by omega)]
  rfl
end Go.Proofs.YtniabkphbnimaaaGreatDoor.Sh
namespace Go.Proofs.YtniabkphbnimaaaGreatDoor.Bs
open Go Go.RowKit Go.Maps Go.Proofs.YtniabkphbnimaaaGreatDoorW.PrintWords Go.Proofs.YtniabkphbnimaaaGreatDoorW.PrintLast Go.Proofs.YtniabkphbnimaaaGreatDoor.Sh
section
variable {P : Program} {ops : Array Oper} {rest : List Oper} {a : Act} {w : World} {Q : Exit → Act → World → Prop} {d : Option Tmp} {ty : TypeId} {pos : String} {af : Array Edge} {g : Option (Tmp × Bool)}
theorem at_load_ {t : TypeId} {x : Operand} (h : wpList P ops Q (⟨d, .load t x, ty, pos, af, g⟩ :: rest) a w) : wpList P ops Q (⟨d, .load t x, ty, pos, af, g⟩ :: rest) a w := h
theorem at_store_ {t : TypeId} {x y : Operand} (h : wpList P ops Q (⟨d, .store t x y, ty, pos, af, g⟩ :: rest) a w) : wpList P ops Q (⟨d, .store t x y, ty, pos, af, g⟩ :: rest) a w := h
theorem at_conv_ {t u : TypeId} {x : Operand} (h : wpList P ops Q (⟨d, .convert t u x, ty, pos, af, g⟩ :: rest) a w) : wpList P ops Q (⟨d, .convert t u x, ty, pos, af, g⟩ :: rest) a w := h
theorem at_box_ {t : TypeId} {x : Operand} (h : wpList P ops Q (⟨d, .box t x, ty, pos, af, g⟩ :: rest) a w) : wpList P ops Q (⟨d, .box t x, ty, pos, af, g⟩ :: rest) a w := h
theorem at_alloc_ {t : TypeId} (h : wpList P ops Q (⟨d, .alloc t, ty, pos, af, g⟩ :: rest) a w) : wpList P ops Q (⟨d, .alloc t, ty, pos, af, g⟩ :: rest) a w := h
end
section
variable {P : Program} {ops : Array Oper} {rest : List Oper} {o : Oper} {a : Act} {w : World} {Q : Exit → Act → World → Prop}
theorem str_cat (l m : List UInt8) : str l ++ str m = str (l ++ m) := by
  apply ByteArray.ext
  simp [str]
theorem cat_yields (t t2 : TypeId) (x y : Operand) (ho : o.op = .binOp .add t x y t2) (l m : List UInt8) (hx : a.eval x = .string (str l)) (hy : a.eval y = .string (str m)) (hs : l.length + m.length ≤ 9223372036854775807) (w : World) :
    (execOp a.eval o).run P w = .ok (.value (.string (str (l ++ m)))) w := by
  have hrun := run_string_add_sum (P := P) w (str l) (str m) hs
  unfold execOp
  simp only [ho, hx, hy, Sem.run_bind, eqGuard_add, binOp_string_add, hrun, Result.andThen_ok, Sem.run_pure, str_cat]
theorem run_load_one (w : World) (ty : TypeId) (g off : Nat) (cs : List Value) (t : TypeId) (fr : Nat × Nat) (hg : w.heap[g]? = some (.cells cs.toArray t fr)) (v : Value) (hv : cs[off]? = some v) (d : TypeDesc) (hu : P.underlying ty = some d) (hd : (match d with | .struct _ | .array _ _ => true | _ => false) = false) :
    (Instr.loadAt ty (.pointer (some ⟨g, off, none⟩))).run P w = .ok v w := by
  have hcell : w.cell? ⟨g, off, none⟩ = some v := by simp [World.cell?, hg, hv]
  have hagg : (isAgg ty).run P w = .ok false w := by
    unfold isAgg
    rw [Sem.run_bind, run_underlying hu w]
    cases d <;> simp_all
  have hl : (load (⟨g, off, none⟩ : Addr)).run P w = .ok v w := by rw [run_load, hcell]
  simp [Instr.loadAt, Instr.sureAddr, loadVar, Sem.run_bind, hagg, hcell]
theorem wp_load_one {K : Act → World → Prop} (ty : TypeId) (x : Operand) (ho : o.op = .load ty x) (g off : Nat) (hx : a.eval x = .pointer (some ⟨g, off, none⟩)) (cs : List Value) (t : TypeId) (fr : Nat × Nat) (hg : w.heap[g]? = some (.cells cs.toArray t fr)) (v : Value) (hv : cs[off]? = some v) (d : TypeDesc) (hu : P.underlying ty = some d) (hd : (match d with | .struct _ | .array _ _ => true | _ => false) = false)
    (h : K (a.put o.dst v) w) : Oper.wp P o a w K Q := by
  unfold Oper.wp execOp
  simp only [ho, hx, Sem.run_bind, run_load_one (P := P) w ty g off cs t fr hg v hv d hu hd, Result.andThen_ok, Sem.run_pure]
  exact h
theorem wpList_load_one (hgd : o.guard = none) (ty : TypeId) (x : Operand) (ho : o.op = .load ty x) (g off : Nat) (hx : a.eval x = .pointer (some ⟨g, off, none⟩)) (cs : List Value) (t : TypeId) (fr : Nat × Nat) (hg : w.heap[g]? = some (.cells cs.toArray t fr)) (v : Value) (hv : cs[off]? = some v) (d : TypeDesc) (hu : P.underlying ty = some d) (hd : (match d with | .struct _ | .array _ _ => true | _ => false) = false)
    (h : wpList P ops Q rest (a.put o.dst v) w) : wpList P ops Q (o :: rest) a w :=
  wpList_plain hgd fun K hK => wp_load_one ty x ho g off hx cs t fr hg v hv d hu hd (hK _ _ h)
end
end Go.Proofs.YtniabkphbnimaaaGreatDoor.Bs
namespace Go.Proofs.YtniabkphbnimaaaGreatDoor.Sh
open Go Go.RowKit Go.Maps Go.Proofs.YtniabkphbnimaaaGreatDoorW.PrintWords Go.Proofs.YtniabkphbnimaaaGreatDoorW.PrintLast Go.Proofs.YtniabkphbnimaaaGreatDoor.Bs
/-- Does each field that the kind has fit its place? -/
def fitP (d : Dg) : Prop := (d.kind ≤ 4 → d.nonce.size = 16) ∧ ((d.kind = 2 ∨ d.kind = 3) → d.cookie.size = 32) ∧ (d.kind = 3 → d.name.size ≤ 255) ∧ (d.kind = 4 → d.salt.size = 16 ∧ 0 ≤ d.player ∧ d.player ≤ 255) ∧ (d.kind = 5 → -128 ≤ d.thr ∧ d.thr ≤ 127 ∧ -128 ≤ d.trn ∧ d.trn ≤ 127) ∧ (3 ≤ d.kind → d.tag.size = 32)
instance (d : Dg) : Decidable (fitP d) := by unfold fitP; exact inferInstance
def sg (x : Int) : UInt8 := UInt8.ofNat (x % 256).toNat
/-- The bytes behind the head. -/
def tailB (d : Dg) : List UInt8 :=
  if d.kind = 1 then bl d.nonce ++ List.replicate 76 0
  else if d.kind = 2 then bl d.nonce ++ len8 d.epoch ++ bl d.cookie
  else if d.kind = 3 then bl d.nonce ++ len8 d.epoch ++ bl d.cookie ++ (UInt8.ofNat d.name.size :: bl d.name) ++ bl d.tag
  else if d.kind = 4 then bl d.nonce ++ len8 d.session ++ [UInt8.ofNat d.player.toNat] ++ bl d.salt ++ bl d.tag
  else if d.kind = 5 then len8 d.session ++ len8 d.seq ++ [sg d.thr, sg d.trn, UInt8.ofNat (flags d.fire d.boost)] ++ bl d.tag
  else if d.kind = 6 then len8 d.session ++ len8 d.seq ++ bl d.data ++ bl d.tag
  else len8 d.session ++ len8 d.seq ++ bl d.tag
def encB (d : Dg) : List UInt8 := 74 :: 48 :: 49 :: UInt8.ofNat d.kind.toNat :: tailB d
def encK (d : Dg) : ByteArray × Int := if fitP d then (if 1200 < (encB d).length then (⟨#[]⟩, 72) else (str (encB d), 0)) else (⟨#[]⟩, 73)
theorem enc_out (d : Dg) (b : Bool) (r : Option (List UInt8)) (h1 : 1 ≤ d.kind ∧ d.kind ≤ 7) (hr : putAll d (fieldsOf d.kind) (false, some ([74, 48, 49] ++ [UInt8.ofNat d.kind.toNat])) = (b, r)) (h : fitP d → b = false ∧ r = some (encB d)) (hn : ¬ fitP d → b = true ∨ r = none) : enc d = encK d := by
  unfold enc encK
  rw [if_pos h1, hr]
  dsimp only
  by_cases hf : fitP d
  · obtain ⟨rfl, rfl⟩ := h hf
    rw [if_pos hf, if_neg (by simp)]
    rfl
  · rw [if_neg hf, if_pos (by rcases hn hf with rfl | rfl <;> simp)]
theorem enc_k (d : Dg) (h1 : 1 ≤ d.kind ∧ d.kind ≤ 7) : enc d = encK d := by
  obtain ⟨kind, nonce, epoch, cookie, name, session, player, salt, seq, thr, trn, fire, boost, data, tag⟩ := d
  simp only at h1
  have hk : kind = 1 ∨ kind = 2 ∨ kind = 3 ∨ kind = 4 ∨ kind = 5 ∨ kind = 6 ∨ kind = 7 := by omega
  rcases hk with rfl | rfl | rfl | rfl | rfl | rfl | rfl
  · refine enc_out _ _ _ h1 rfl ?_ ?_
    · intro h
      have c1 : nonce.size = 16 := h.1 (by simp)
      refine ⟨by simp [putF, c1], ?_⟩
      simp [encB, tailB, putF]
    · intro h
      refine Or.inl ?_
      by_cases c1 : nonce.size = 16
      · exact absurd ⟨fun _ => c1, fun h => by simp at h, fun h => by simp at h, fun h => by simp at h, fun h => by simp at h, fun h => by simp at h⟩ h
      · simp [putF, c1]
  · refine enc_out _ _ _ h1 rfl ?_ ?_
    · intro h
      have c1 : nonce.size = 16 := h.1 (by simp)
      have c2 : cookie.size = 32 := h.2.1 (by simp)
      refine ⟨by simp [putF, c1, c2], ?_⟩
      simp [encB, tailB, putF]
    · intro h
      refine Or.inl ?_
      by_cases c1 : nonce.size = 16
      · by_cases c2 : cookie.size = 32
        · exact absurd ⟨fun _ => c1, fun _ => c2, fun h => by simp at h, fun h => by simp at h, fun h => by simp at h, fun h => by simp at h⟩ h
        · simp [putF, c2]
      · simp [putF, c1]
  · refine enc_out _ _ _ h1 rfl ?_ ?_
    · intro h
      have c1 : nonce.size = 16 := h.1 (by simp)
      have c2 : cookie.size = 32 := h.2.1 (by simp)
      have c3 : name.size ≤ 255 := h.2.2.1 rfl
      have c4 : tag.size = 32 := h.2.2.2.2.2 (by simp)
      refine ⟨by simp [putF, c1, c2, c4], ?_⟩
      simp [encB, tailB, putF, txt, bl_len, c3]
    · intro h
      by_cases c3 : name.size ≤ 255
      · refine Or.inl ?_
        by_cases c1 : nonce.size = 16
        · by_cases c2 : cookie.size = 32
          · by_cases c4 : tag.size = 32
            · exact absurd ⟨fun _ => c1, fun _ => c2, fun _ => c3, fun h => by simp at h, fun h => by simp at h, fun _ => c4⟩ h
            · simp [putF, c4]
          · simp [putF, c2]
        · simp [putF, c1]
      · refine Or.inr ?_
        simp [putF, txt, bl_len, c3]
  · refine enc_out _ _ _ h1 rfl ?_ ?_
    · intro h
      have c1 : nonce.size = 16 := h.1 (by simp)
      have c2 := h.2.2.2.1 rfl
      simp only at c2
      have c4 : tag.size = 32 := h.2.2.2.2.2 (by simp)
      refine ⟨by simp [putF, c1, c2.1, c4]; omega, ?_⟩
      simp [encB, tailB, putF, one, show 0 ≤ player ∧ player < 256 by omega]
    · intro h
      by_cases c3 : 0 ≤ player ∧ player < 256
      · refine Or.inl ?_
        by_cases c1 : nonce.size = 16
        · by_cases c2 : salt.size = 16
          · by_cases c4 : tag.size = 32
            · exact absurd ⟨fun _ => c1, fun h => by simp at h, fun h => by simp at h, fun _ => ⟨c2, c3.1, by show player ≤ 255; omega⟩, fun h => by simp at h, fun _ => c4⟩ h
            · simp [putF, c4]
          · simp [putF, c2]
        · simp [putF, c1]
      · refine Or.inr ?_
        simp [putF, one, c3]
  · refine enc_out _ _ _ h1 rfl ?_ ?_
    · intro h
      have c2 := h.2.2.2.2.1 rfl
      simp only at c2
      have c4 : tag.size = 32 := h.2.2.2.2.2 (by simp)
      refine ⟨by simp [putF, c4], ?_⟩
      simp [encB, tailB, putF, sgn, sg, show -128 ≤ thr ∧ thr ≤ 127 by omega, show -128 ≤ trn ∧ trn ≤ 127 by omega]
    · intro h
      by_cases c1 : -128 ≤ thr ∧ thr ≤ 127
      · by_cases c2 : -128 ≤ trn ∧ trn ≤ 127
        · refine Or.inl ?_
          by_cases c4 : tag.size = 32
          · exact absurd ⟨fun h => by simp at h, fun h => by simp at h, fun h => by simp at h, fun h => by simp at h, fun _ => ⟨c1.1, c1.2, c2.1, c2.2⟩, fun _ => c4⟩ h
          · simp [putF, c4]
        · refine Or.inr ?_
          simp [putF, sgn, c2]
      · refine Or.inr ?_
        simp [putF, sgn, c1]
  · refine enc_out _ _ _ h1 rfl ?_ ?_
    · intro h
      have c4 : tag.size = 32 := h.2.2.2.2.2 (by simp)
      refine ⟨by simp [putF, c4], ?_⟩
      simp [encB, tailB, putF]
    · intro h
      refine Or.inl ?_
      by_cases c4 : tag.size = 32
      · exact absurd ⟨fun h => by simp at h, fun h => by simp at h, fun h => by simp at h, fun h => by simp at h, fun h => by simp at h, fun _ => c4⟩ h
      · simp [putF, c4]
  · refine enc_out _ _ _ h1 rfl ?_ ?_
    · intro h
      have c4 : tag.size = 32 := h.2.2.2.2.2 (by simp)
      refine ⟨by simp [putF, c4], ?_⟩
      simp [encB, tailB, putF]
    · intro h
      refine Or.inl ?_
      by_cases c4 : tag.size = 32
      · exact absurd ⟨fun h => by simp at h, fun h => by simp at h, fun h => by simp at h, fun h => by simp at h, fun h => by simp at h, fun _ => c4⟩ h
      · simp [putF, c4]
end Go.Proofs.YtniabkphbnimaaaGreatDoor.Sh
namespace Go.Proofs.YtniabkphbnimaaaGreatDoor.Sh
open Go Go.RowKit Go.Maps Go.Proofs.YtniabkphbnimaaaGreatDoorW.PrintWords Go.Proofs.YtniabkphbnimaaaGreatDoorW.PrintLast Go.Proofs.YtniabkphbnimaaaGreatDoor.Bs
theorem streq_yields {P : Program} {o : Oper} {a : Act} (t t2 : TypeId) (x y : Operand) (ho : o.op = .binOp .eql t x y t2) (s r : ByteArray) (hx : a.eval x = .string s) (hy : a.eval y = .string r) (b : Bool) (hb : (s.toList == r.toList) = b) (w : World) :
    (execOp a.eval o).run P w = .ok (.value (.bool b)) w := by
  subst hb
  unfold execOp
  simp [ho, hx, hy, Sem.run_bind, eqGuard, binOp, Op.stringOp]
end Go.Proofs.YtniabkphbnimaaaGreatDoor.Sh
namespace Go.Proofs.YtniabkphbnimaaaGreatDoor.Sh
open Go Go.RowKit Go.Maps Go.Proofs.YtniabkphbnimaaaGreatDoorW.PrintWords Go.Proofs.YtniabkphbnimaaaGreatDoorW.PrintLast Go.Proofs.YtniabkphbnimaaaGreatDoor.Bs
theorem times_l (c : UInt8) (n : Nat) (hn : n < 4611686018427387904) : ∀ (m i k : Nat), m = n - i → i ≤ n → m < k →
    QQA.joustlaw07_times.l0 k (c.toNat : Int) (n : Int) (List.replicate i (c.toNat : Int) ++ List.replicate (n - i) 0) (i : Int) = some (strOfNums (List.replicate n (c.toNat : Int))) := by
  intro m
  induction m with
  | zero =>
    intro i k hm hi hk
    obtain ⟨k, rfl⟩ : ∃ j, k = j + 1 := ⟨k - 1, by omega⟩
    have : i = n := by omega
    subst this
    unfold QQA.joustlaw07_times.l0
    rw [if_neg (by omega)]
    simp
  | succ m ih =>
    intro i k hm hi hk
    obtain ⟨k, rfl⟩ : ∃ j, k = j + 1 := ⟨k - 1, by omega⟩
    have hz : wrap64 ((i : Int) + 1) = ((i + 1 : Nat) : Int) := by unfold wrap64; omega
    unfold QQA.joustlaw07_times.l0
    rw [if_pos (by omega), if_pos (by omega), if_pos (by simp; omega), hz]
    have e : (List.replicate i (c.toNat : Int) ++ List.replicate (n - i) 0).set ((i : Int)).toNat (c.toNat : Int) = List.replicate (i + 1) (c.toNat : Int) ++ List.replicate (n - (i + 1)) 0 := by
      rw [Int.toNat_natCast, List.set_append_right _ _ (by simp), List.length_replicate, Nat.sub_self, show n - i = (n - (i + 1)) + 1 by omega, List.replicate_succ, List.set_cons_zero, List.replicate_succ' (n := i), List.append_assoc]
      rfl
    rw [e]
    exact ih (i + 1) k (by omega) (by omega) (by omega)
theorem strOf_rep (c : UInt8) (n : Nat) : strOfNums (List.replicate n (c.toNat : Int)) = str (List.replicate n c) := by
  unfold strOfNums str
  simp
theorem times_f (c : UInt8) (n : Nat) (hn : n ≤ 281474976710656) : QQA.joustlaw07_times.f (n + 1) (c.toNat : Int) (n : Int) = some (str (List.replicate n c)) := by
  unfold QQA.joustlaw07_times.f
  rw [if_pos (by omega), if_pos (by omega)]
  have := times_l c n (by omega) n 0 (n + 1) (by omega) (by omega) (by omega)
  rw [strOf_rep] at this
  simpa using this
theorem times_calls (c : UInt8) (ci : Int) (hc : ci = (c.toNat : Int)) (n : Nat) (ni : Int) (hni : ni = (n : Int)) (hn : n ≤ 281474976710656) (w : World) : Calls Tryz.prog 21 #[.int .u8 ci, .int .i64 ni] w fun e w' => e = .returned (.string (str (List.replicate n c))) ∧ Below w.heap.size w w' := by
  subst hc hni
  exact (QQA.joustlaw07_times.calls _ _ _ _ w (times_f c n hn)).mono fun e w' hh => ⟨hh.1, hh.2⟩
def bA : List UInt8 := [74, 48, 49, 5, 0, 0, 0, 0, 0, 0, 0, 1, 0, 0, 0, 0, 0, 0, 0, 2, 255, 5, 1]
def tA : List UInt8 := List.replicate 32 116
def dA : Dg := ⟨5, ⟨#[]⟩, 0, ⟨#[]⟩, ⟨#[]⟩, 1, 0, ⟨#[]⟩, 2, -1, 5, true, false, ⟨#[]⟩, str tA⟩
def hA : List UInt8 := hmac [107] bA
theorem hA_len : hA.length = 32 := length_sha _
theorem enc_A : enc dA = (str (bA ++ tA), 0) := by kernel_rfl
theorem body_A (m : List UInt8) (hm : m.length = 32) : bodyB (bA ++ m) = bA := by
  have hl : (bA ++ m).length = 55 := by rw [List.length_append, hm]; rfl
  unfold bodyB
  rw [hl, if_pos ⟨rfl, by omega, by show 3 ≤ 5; omega, by show 5 ≤ 7; omega⟩]
  exact List.take_left (l₁ := bA) (l₂ := m)
theorem enc_A0 : enc { dA with tag := str (List.replicate 32 0) } = (str (bA ++ List.replicate 32 0), 0) := by kernel_rfl
theorem seal_A : sealB dA [107] = (str (bA ++ hA), 0) := by
  unfold sealB
  rw [if_pos (show 3 ≤ dA.kind ∧ dA.kind ≤ 7 by decide), enc_A0]
  rw [if_neg (show ¬ ((str (bA ++ List.replicate 32 (0 : UInt8)), (0 : Int)).2 ≠ 0) by simp)]
  show (str (bodyB (bA ++ List.replicate 32 0) ++ hmac [107] (bodyB (bA ++ List.replicate 32 0))), (0 : Int)) = _
  rw [body_A _ (by rw [List.length_replicate])]
  rfl
theorem dec_A : (dec (bA ++ hA)).1.seq = 2 ∧ (dec (bA ++ hA)).2 = 0 := by
  have hl := hA_len
  obtain ⟨t, et⟩ : ∃ t : List UInt8, t = [0, 0, 0, 0, 0, 0, 0, 1, 0, 0, 0, 0, 0, 0, 0, 2, 255, 5, 1] ++ hA := ⟨_, rfl⟩
  have e : bA ++ hA = 74 :: 48 :: 49 :: 5 :: t := by rw [et]; rfl
  have ht : t.length = 51 := by rw [et, List.length_append, hl]; rfl
  rw [e, dec_at 5 t (by simp only [List.length_cons]; omega) (by decide)]
  show (fin (getAll (fieldsOf 5) (dk 5, false, t))).1.seq = 2 ∧ _
  have h3 : ¬ 3 < (t.getD 18 0).toNat := by rw [et]; decide
  have hs : num ((t.drop 8).take 8) = 2 := by rw [et]; rfl
  have hd := dec5 t
  rw [if_pos ht, if_neg h3] at hd
  refine ⟨?_, ?_⟩
  · show (fin (getAll (fieldsOf 5) (dk 5, false, t))).1.seq = 2
    rw [hd]
    exact hs
  · show (fin (getAll (fieldsOf 5) (dk 5, false, t))).2 = 0
    rw [hd]
theorem seald_A (m k : List UInt8) (hm : m.length = 32) : sealedB (bA ++ m) k = decide (m = hmac k bA) := by
  unfold sealedB
  rw [body_A m hm]
  refine decide_eq_decide.mpr ⟨fun h => ?_, fun h => ⟨by decide, ?_⟩⟩
  · have := h.2
    rwa [List.drop_left] at this
  · rw [List.drop_left]
    exact h
theorem tags_0 : (hmac [107] bA).getD 0 0 ≠ (hmac [108] bA).getD 0 0 := by decide +kernel
theorem tags_1 : (hmac [107] bA).getD 0 0 ≠ 116 := by decide +kernel
theorem seald_1 : sealedB (bA ++ hA) [107] = true := by
  rw [seald_A _ _ hA_len]
  exact decide_eq_true rfl
theorem seald_2 : sealedB (bA ++ hA) [108] = false := by
  rw [seald_A _ _ hA_len]
  refine decide_eq_false (fun h => tags_0 ?_)
  exact congrArg (fun l : List UInt8 => l.getD 0 0) h
theorem seald_3 : sealedB (bA ++ tA) [107] = false := by
  rw [seald_A _ _ (by unfold tA; rw [List.length_replicate])]
  refine decide_eq_false (fun h => tags_1 ?_)
  have := congrArg (fun l : List UInt8 => l.getD 0 0) h
  exact this.symm
theorem dA_ok : dA.ok := by
  unfold Dg.ok
  decide
end Go.Proofs.YtniabkphbnimaaaGreatDoor.Sh
namespace Go.Proofs.YtniabkphbnimaaaGreatDoor.Sh
open Go Go.RowKit Go.Maps Go.Proofs.YtniabkphbnimaaaGreatDoorW.PrintWords Go.Proofs.YtniabkphbnimaaaGreatDoorW.PrintLast Go.Proofs.YtniabkphbnimaaaGreatDoor.Bs
def T_9_5 : Bool × List (List Nat × List Nat) := (true, [([], []), ([0], [0]), ([1], [1]), ([2], [2]), ([3], [3]), ([4, 3], [3, 4]), ([3, 5], [3, 5]), ([6, 3], [6]), ([7], [7]), ([8, 7], [7, 8]), ([7, 9], [7, 9]), ([10, 7], [10]), ([11], [11]), ([12, 11], [11, 12]), ([11, 13], [11, 13]), ([14, 11], [14]), ([15], [15]), ([15, 15], [15]), ([17, 15], [15, 17]), ([18, 15], [15, 18]), ([17, 15], [15]), ([19, 20, 15], [15, 19, 20]), ([21, 15], [15, 21]), ([20, 15], [15]), ([22, 23, 15], [15, 22, 23]), ([16, 24, 15], [15, 16, 24]), ([15, 25], [15, 25]), ([26, 23], [26]), ([27], [27]), ([28, 27], [27, 28]), ([29, 27], [27, 29]), ([27, 30], [27, 30]), ([31, 27], [31]), ([32], [32]), ([33, 32, 32], [32, 33]), ([32], [32]), ([35, 32], [32, 35]), ([34, 36, 32], [32, 34, 36]), ([32, 37], [32, 37]), ([38, 34], [38]), ([39], [39]), ([40, 39, 39], [39, 40]), ([39, 41], [39, 41]), ([42, 41], [42]), ([43], [43]), ([44, 43, 43], [43, 44]), ([45, 43], [43, 45]), ([43, 46], [43, 46]), ([47, 45], [47]), ([48], [48]), ([49, 48, 48], [48, 49]), ([50, 48], [48, 50]), ([48, 51], [48, 51]), ([52, 50, 0, 1, 2, 3, 4, 5, 6, 7, 8, 9, 10, 11, 12, 13, 14, 15, 16, 17, 18, 19, 20, 21, 22, 23, 24, 25, 26, 27, 28, 29, 30, 31, 32, 33, 34, 35, 36, 37, 38, 39, 40, 41, 42, 43, 44, 45, 46, 47, 48, 49, 50, 51, 52], [52])])
def B_9_5 : List Nat := [0, 1, 3, 7, 15, 31, 63, 127, 255, 511, 1023, 2047, 4095, 8191, 16383, 32767, 65535, 65535, 196607, 458751, 196607, 2031615, 4128767, 1245183, 16711679, 33554431, 67108863, 134217727, 268435455, 536870911, 1073741823, 2147483647, 4294967295, 8589934591, 17179869183, 8589934591, 42949672959, 137438953471, 274877906943, 549755813887, 1099511627775, 2199023255551, 4398046511103, 8796093022207, 17592186044415, 35184372088831, 70368744177663, 140737488355327, 281474976710655, 562949953421311, 1125899906842623, 2251799813685247, 4503599627370495, 9007199254740991]
theorem tab_f9_5 : rtab .any (opsOf Tryz.f9 5) = T_9_5 := by kernel_rfl
theorem bits_f9_5 : waitsOk T_9_5.2 B_9_5 = true := by kernel_rfl
set_option maxHeartbeats 8000000 in
set_option maxRecDepth 100000 in
theorem alive_calls (w : World) (hg : GL w) : Calls Tryz.prog 9 #[] w fun e w' => e = .returned (.bool true) ∧ Below w.heap.size w w' := by
  have HG := Aside0.mk hg
  obtain ⟨ta, eta⟩ : ∃ ta : List UInt8, ta = tA := ⟨_, rfl⟩
  have HTA := Aside0.mk (show ta.length = 32 by rw [eta]; rfl)
  obtain ⟨s, es⟩ : ∃ s, s = str (bA ++ tA) := ⟨_, rfl⟩
  obtain ⟨t, et⟩ : ∃ t, t = str (bA ++ hA) := ⟨_, rfl⟩
  obtain ⟨dB, edB⟩ : ∃ d : Dg, d = (dec (bA ++ hA)).1 := ⟨_, rfl⟩
  have TC32 := Aside0.mk (show ∀ w, Calls Tryz.prog 21 #[.int .u8 116, .int .i64 32] w fun e w' => e = .returned (.string (str ta)) ∧ Below w.heap.size w w' from fun w => by rw [eta]; exact times_calls 116 _ rfl 32 _ rfl (by omega) w)
  have TC7 := Aside0.mk (show ∀ w, Calls Tryz.prog 21 #[.int .u8 0, .int .i64 7] w fun e w' => e = .returned (.string (str [0, 0, 0, 0, 0, 0, 0])) ∧ Below w.heap.size w w' from fun w => times_calls 0 _ rfl 7 _ rfl (by omega) w)
  have EC := Aside0.mk (show ∀ w, Calls Tryz.prog 16 #[.agg dA.cells.toArray] w fun e w' => e = .returned (.tuple #[.string s, .int .i64 0]) ∧ Below w.heap.size w w' from fun w => by
    have h := encode_calls dA dA_ok (by decide) w
    rw [enc_A, ← es] at h
    exact h)
  have SC := Aside0.mk (show ∀ w, GL w → Calls Tryz.prog 18 #[.agg dA.cells.toArray, .string ⟨#[107]⟩] w fun e w' => e = .returned (.tuple #[.string t, .int .i64 0]) ∧ Below w.heap.size w w' from fun w hg => by
    have h := seal_calls dA ⟨#[107]⟩ w hg dA_ok (by decide) (by decide)
    rw [show sealB dA (bl ⟨#[107]⟩) = (str (bA ++ hA), 0) from seal_A, ← et] at h
    exact h)
  have DC := Aside0.mk (show ∀ w, Calls Tryz.prog 10 #[.string t] w fun e w' => e = .returned (.tuple #[.agg dB.cells.toArray, .int .i64 0]) ∧ Below w.heap.size w w' from fun w => by
    have h := decode_calls (bA ++ hA) w
    rw [dec_A.2, ← et, ← edB] at h
    exact h)
  have DAC := Aside0.mk (show Value.agg #[.int .i64 5, .string ⟨#[]⟩, .int .u64 0, .string ⟨#[]⟩, .string ⟨#[]⟩, .int .u64 1, .int .i64 0, .string ⟨#[]⟩, .int .u64 2, .int .i64 (-1), .int .i64 5, .bool true, .bool false, .string ⟨#[]⟩, .string (str ta)] = .agg dA.cells.toArray from by rw [eta]; rfl)
  have hts : s.size = 55 := by rw [es]; rfl
  have S8 := Aside0.mk (show dB.cells[8]? = some (.int .u64 2) from by
    show some (Value.int .u64 (dB.seq : Int)) = _
    rw [edB, dec_A.1]
    rfl)
  have BC := Aside0.mk (show ∀ w, Calls Tryz.prog 12 #[.string s] w fun e w' => e = .returned (.string (str bA)) ∧ Below w.heap.size w w' from fun w => by
    have h := body_calls (bA ++ tA) (by decide) w
    rw [body_A tA (by decide), ← es] at h
    exact h)
  have S1 := Aside0.mk (show ∀ w, GL w → Calls Tryz.prog 14 #[.string t, .string ⟨#[107]⟩] w fun e w' => e = .returned (.bool true) ∧ Below w.heap.size w w' from fun w hg => by
    have h := sealed_calls (bA ++ hA) ⟨#[107]⟩ w hg (by rw [List.length_append, hA_len]; decide) (by decide)
    rw [show sealedB (bA ++ hA) (bl ⟨#[107]⟩) = true from seald_1, ← et] at h
    exact h)
  have S2 := Aside0.mk (show ∀ w, GL w → Calls Tryz.prog 14 #[.string t, .string ⟨#[108]⟩] w fun e w' => e = .returned (.bool false) ∧ Below w.heap.size w w' from fun w hg => by
    have h := sealed_calls (bA ++ hA) ⟨#[108]⟩ w hg (by rw [List.length_append, hA_len]; decide) (by decide)
    rw [show sealedB (bA ++ hA) (bl ⟨#[108]⟩) = false from seald_2, ← et] at h
    exact h)
  have S3 := Aside0.mk (show ∀ w, GL w → Calls Tryz.prog 14 #[.string s, .string ⟨#[107]⟩] w fun e w' => e = .returned (.bool false) ∧ Below w.heap.size w w' from fun w hg => by
    have h := sealed_calls (bA ++ tA) ⟨#[107]⟩ w hg (by decide) (by decide)
    rw [show sealedB (bA ++ tA) (bl ⟨#[107]⟩) = false from seald_3, ← es] at h
    exact h)
  have EQ1 := Aside0.mk (show (s.toList == (str (((((([74, 48, 49, 5] : List UInt8) ++ [0, 0, 0, 0, 0, 0, 0]) ++ [1]) ++ [0, 0, 0, 0, 0, 0, 0]) ++ [2, 255, 5, 1]) ++ ta)).toList) = true from by
    rw [es, eta, str_list, str_list]
    exact beq_iff_eq.mpr rfl)
  have EQ2 := Aside0.mk (show ((str bA).toList == (s.extract 0 23).toList) = true from by
    rw [es, str_take, str_list, str_list]
    exact beq_iff_eq.mpr rfl)
  clear es et eta edB hg
  go_enter Tryz.func9, Tryz.ntmps9
  go_upto_region 4 with (first
    | (go_at_call 21; (with_reducible refine (TC32.out _).mono ?_); rintro e w1 ⟨rfl, hb1⟩; have HB := Aside0.mk hb1; clear hb1)
    | ((with_reducible first | refine at_alloc_ ?_ | refine at_alloc2_ ?_); refine wpList_alloc_v rfl 27 rfl Dg.zero.cells (by kernel_rfl) ?_; intro D w2 eD hD2 hb2 hz2; have HDD := Aside0.mk (show w.heap.size ≤ D from by have := eD.out; have := HB.out.size; omega); have n1_ := Aside0.mk (HB.out.trans (hb2.out.mono HB.out.size)); clear HB; have HB := n1_; clear n1_ hb2 hz2)
    | ((with_reducible first | refine at_store_ ?_ | refine at_store2_ ?_); refine wpList_store_agg rfl 27 _ _ rfl D 0 rfl dA.cells Dg.zero.cells (by exact DAC.out) _ hD2.out (by exact Nat.le_refl 15) (fun v hv => one_cells hv) (by kernel_rfl) ?_; intro w3 hD3 hm3 hz3; rw [splice_all Dg.zero.cells dA.cells rfl] at hD3; have HD := Aside0.mk hD3.out; have n1_ := Aside0.mk (toBelow' HB.out hm3.out HDD.out); clear HB; have HB := n1_; clear n1_ hD2 hD3 hm3 hz3)
    | ((with_reducible first | refine at_load_ ?_ | refine at_load2_ ?_); refine wpList_load_agg rfl 27 _ rfl D 0 rfl dA.cells (load_all HD.out) _ Tryz.underlying27 rfl (by kernel_rfl) ?_)
    | (go_at_call 16; (with_reducible refine (EC.out _).mono ?_); rintro e w4 ⟨rfl, hb4⟩; have n1_ := Aside0.mk (HB.out.trans (hb4.mono HB.out.size)); have n2_ := Aside0.mk ((hb4.block D (blk_lt HD.out)).trans HD.out); clear HB HD hb4; have HB := n1_; have HD := n2_; clear n1_ n2_)
    | (go_at_call 18; (with_reducible refine (SC.out _ (gl_below HG.out HB.out)).mono ?_); rintro e w5 ⟨rfl, hb5⟩; have n1_ := Aside0.mk (HB.out.trans (hb5.mono HB.out.size)); have n2_ := Aside0.mk ((hb5.block D (blk_lt HD.out)).trans HD.out); clear HB HD hb5; have HB := n1_; have HD := n2_; clear n1_ n2_))
  go_wp2_with (first
    | (go_at_call 10; (with_reducible refine (DC.out _).mono ?_); rintro e w6 ⟨rfl, hb6⟩; have n1_ := Aside0.mk (HB.out.trans (hb6.mono HB.out.size)); have n2_ := Aside0.mk ((hb6.block D (blk_lt HD.out)).trans HD.out); clear HB HD hb6; have HB := n1_; have HD := n2_; clear n1_ n2_)
    | ((with_reducible first | refine at_alloc_ ?_ | refine at_alloc2_ ?_); refine wpList_alloc_v rfl 27 rfl Dg.zero.cells (by kernel_rfl) ?_; intro E w7 eE hE7 hb7 hz7; have HEE := Aside0.mk (show w.heap.size ≤ E from by have := eE.out; have := HB.out.size; omega); have n1_ := Aside0.mk (HB.out.trans (hb7.out.mono HB.out.size)); clear HB; have HB := n1_; clear n1_ hb7 hz7)
    | ((with_reducible first | refine at_store_ ?_ | refine at_store2_ ?_); refine wpList_store_agg rfl 27 _ _ rfl E 0 rfl dB.cells Dg.zero.cells (by rfl) _ hE7.out (by exact Nat.le_refl 15) (fun v hv => one_cells hv) (by kernel_rfl) ?_; intro w8 hE8 hm8 hz8; rw [splice_all Dg.zero.cells dB.cells rfl] at hE8; have HE := Aside0.mk hE8.out; have n1_ := Aside0.mk (toBelow' HB.out hm8.out HEE.out); clear HB; have HB := n1_; clear n1_ hE7 hE8 hm8 hz8))
  refine start_ (n := 54) (S := fun w' => w'.cell? ⟨E, 8, none⟩ = some (.int .u64 2)) (ds := []) #[false, false, false, false, false, false, false, false, false, false, false, false, false, false, false, false, false, false, false, false, false, false, false, false, false, false, false, false, false, false, false, false, false, false, false, false, false, false, false, false, false, false, false, false, false, false, false, false, false, false, false, false, false, false] (by kernel_rfl) rfl rfl (cell_of HE.out S8.out) (fun hHeld => ?_)
  refine with_tabW tab_f9_5 bits_f9_5 (fun HT_ HW_ => ?_)
  refine pure_ (i := 0) (N := some 26) (v := ?_) (a' := ?_) #[true, false, false, false, false, false, false, false, false, false, false, false, false, false, false, false, false, false, false, false, false, false, false, false, false, false, false, false, false, false, false, false, false, false, false, false, false, false, false, false, false, false, false, false, false, false, false, false, false, false, false, false, false, false] rfl rfl (any_of HT_.out (by kernel_rfl)) (fun _ _ _ h => h) (Or.inl ⟨by rfl, ?_⟩) ?_ ?_
  rotate_left
  · intro w'
    go_simp
    with_reducible rfl
  rotate_left
  · simp only [pS]
    rfl
  refine pure_ (i := 1) (N := some 27) (v := ?_) (a' := ?_) #[true, true, false, false, false, false, false, false, false, false, false, false, false, false, false, false, false, false, false, false, false, false, false, false, false, false, false, false, false, false, false, false, false, false, false, false, false, false, false, false, false, false, false, false, false, false, false, false, false, false, false, false, false, false] rfl rfl (any_of HT_.out (by kernel_rfl)) (fun _ _ _ h => h) (Or.inl ⟨by rfl, ?_⟩) ?_ ?_
  rotate_left
  · intro w'
    go_simp
    with_reducible rfl
  rotate_left
  · simp only [pS]
    rfl
  refine pure_ (i := 2) (N := some 28) (v := ?_) (a' := ?_) #[true, true, true, false, false, false, false, false, false, false, false, false, false, false, false, false, false, false, false, false, false, false, false, false, false, false, false, false, false, false, false, false, false, false, false, false, false, false, false, false, false, false, false, false, false, false, false, false, false, false, false, false, false, false] rfl rfl (any_of HT_.out (by kernel_rfl)) (fun _ _ _ h => h) (Or.inl ⟨by rfl, ?_⟩) ?_ ?_
  rotate_left
  · intro w'
    go_simp
    with_reducible rfl
  rotate_left
  · simp only [pS]
    rfl
  refine pure_ (i := 3) (N := some 29) (v := ?_) (a' := ?_) #[true, true, true, true, false, false, false, false, false, false, false, false, false, false, false, false, false, false, false, false, false, false, false, false, false, false, false, false, false, false, false, false, false, false, false, false, false, false, false, false, false, false, false, false, false, false, false, false, false, false, false, false, false, false] rfl rfl (any_of HT_.out (by kernel_rfl)) (fun _ _ _ h => h) (Or.inl ⟨by rfl, ?_⟩) ?_ ?_
  rotate_left
  · intro w'
    go_simp
    with_reducible rfl
  rotate_left
  · simp only [pS]
    rfl
  refine pure_ (i := 4) (N := some 30) (v := ?_) (a' := ?_) #[true, true, true, true, true, false, false, false, false, false, false, false, false, false, false, false, false, false, false, false, false, false, false, false, false, false, false, false, false, false, false, false, false, false, false, false, false, false, false, false, false, false, false, false, false, false, false, false, false, false, false, false, false, false] rfl rfl (any_of HT_.out (by kernel_rfl)) (fun _ _ _ h => h) (Or.inl ⟨by rfl, ?_⟩) ?_ ?_
  rotate_left
  · intro w'
    go_simp
    with_reducible rfl
  rotate_left
  · simp only [pS]
    rfl
  refine pure_ (i := 5) (N := some 31) (v := ?_) (a' := ?_) #[true, true, true, true, true, true, false, false, false, false, false, false, false, false, false, false, false, false, false, false, false, false, false, false, false, false, false, false, false, false, false, false, false, false, false, false, false, false, false, false, false, false, false, false, false, false, false, false, false, false, false, false, false, false] rfl rfl (any_of HT_.out (by kernel_rfl)) (fun _ _ _ h => h) (Or.inl ⟨by rfl, ?_⟩) ?_ ?_
  rotate_left
  · intro w'
    go_simp
    with_reducible rfl
  rotate_left
  · simp only [pS]
    rfl
  refine pure_ (i := 6) (N := some 32) (v := ?_) (a' := ?_) #[true, true, true, true, true, true, true, false, false, false, false, false, false, false, false, false, false, false, false, false, false, false, false, false, false, false, false, false, false, false, false, false, false, false, false, false, false, false, false, false, false, false, false, false, false, false, false, false, false, false, false, false, false, false] rfl rfl (any_of HT_.out (by kernel_rfl)) (fun _ _ _ h => h) (Or.inl ⟨by rfl, ?_⟩) ?_ ?_
  rotate_left
  · intro w'
    go_simp
    with_reducible rfl
  rotate_left
  · simp only [pS]
    rfl
  refine pure_ (i := 7) (N := some 33) (v := ?_) (a' := ?_) #[true, true, true, true, true, true, true, true, false, false, false, false, false, false, false, false, false, false, false, false, false, false, false, false, false, false, false, false, false, false, false, false, false, false, false, false, false, false, false, false, false, false, false, false, false, false, false, false, false, false, false, false, false, false] rfl rfl (any_of HT_.out (by kernel_rfl)) (fun _ _ _ h => h) (Or.inl ⟨by rfl, ?_⟩) ?_ ?_
  rotate_left
  · intro w'
    go_simp
    with_reducible rfl
  rotate_left
  · simp only [pS]
    rfl
  refine pure_ (i := 8) (N := some 34) (v := ?_) (a' := ?_) #[true, true, true, true, true, true, true, true, true, false, false, false, false, false, false, false, false, false, false, false, false, false, false, false, false, false, false, false, false, false, false, false, false, false, false, false, false, false, false, false, false, false, false, false, false, false, false, false, false, false, false, false, false, false] rfl rfl (any_of HT_.out (by kernel_rfl)) (fun _ _ _ h => h) (Or.inl ⟨by rfl, ?_⟩) ?_ ?_
  rotate_left
  · intro w'
    go_simp
    with_reducible rfl
  rotate_left
  · simp only [pS]
    rfl
  refine pure_ (i := 9) (N := some 35) (v := ?_) (a' := ?_) #[true, true, true, true, true, true, true, true, true, true, false, false, false, false, false, false, false, false, false, false, false, false, false, false, false, false, false, false, false, false, false, false, false, false, false, false, false, false, false, false, false, false, false, false, false, false, false, false, false, false, false, false, false, false] rfl rfl (any_of HT_.out (by kernel_rfl)) (fun _ _ _ h => h) (Or.inl ⟨by rfl, ?_⟩) ?_ ?_
  rotate_left
  · intro w'
    go_simp
    with_reducible rfl
  rotate_left
  · simp only [pS]
    rfl
  refine pure_ (i := 10) (N := some 36) (v := ?_) (a' := ?_) #[true, true, true, true, true, true, true, true, true, true, true, false, false, false, false, false, false, false, false, false, false, false, false, false, false, false, false, false, false, false, false, false, false, false, false, false, false, false, false, false, false, false, false, false, false, false, false, false, false, false, false, false, false, false] rfl rfl (any_of HT_.out (by kernel_rfl)) (fun _ _ _ h => h) (Or.inl ⟨by rfl, ?_⟩) ?_ ?_
  rotate_left
  · intro w'
    go_simp
    with_reducible rfl
  rotate_left
  · simp only [pS]
    rfl
  refine pure_ (i := 11) (N := some 37) (v := ?_) (a' := ?_) #[true, true, true, true, true, true, true, true, true, true, true, true, false, false, false, false, false, false, false, false, false, false, false, false, false, false, false, false, false, false, false, false, false, false, false, false, false, false, false, false, false, false, false, false, false, false, false, false, false, false, false, false, false, false] rfl rfl (any_of HT_.out (by kernel_rfl)) (fun _ _ _ h => h) (Or.inl ⟨by rfl, ?_⟩) ?_ ?_
  rotate_left
  · intro w'
    go_simp
    with_reducible rfl
  rotate_left
  · simp only [pS]
    rfl
  refine pure_ (i := 12) (N := some 38) (v := ?_) (a' := ?_) #[true, true, true, true, true, true, true, true, true, true, true, true, true, false, false, false, false, false, false, false, false, false, false, false, false, false, false, false, false, false, false, false, false, false, false, false, false, false, false, false, false, false, false, false, false, false, false, false, false, false, false, false, false, false] rfl rfl (any_of HT_.out (by kernel_rfl)) (fun _ _ _ h => h) (Or.inl ⟨by rfl, ?_⟩) ?_ ?_
  rotate_left
  · intro w'
    go_simp
    with_reducible rfl
  rotate_left
  · simp only [pS]
    rfl
  refine pure_ (i := 13) (N := some 39) (v := ?_) (a' := ?_) #[true, true, true, true, true, true, true, true, true, true, true, true, true, true, false, false, false, false, false, false, false, false, false, false, false, false, false, false, false, false, false, false, false, false, false, false, false, false, false, false, false, false, false, false, false, false, false, false, false, false, false, false, false, false] rfl rfl (any_of HT_.out (by kernel_rfl)) (fun _ _ _ h => h) (Or.inl ⟨by rfl, ?_⟩) ?_ ?_
  rotate_left
  · intro w'
    go_simp
    with_reducible rfl
  rotate_left
  · simp only [pS]
    rfl
  refine pure_ (i := 14) (N := some 40) (v := ?_) (a' := ?_) #[true, true, true, true, true, true, true, true, true, true, true, true, true, true, true, false, false, false, false, false, false, false, false, false, false, false, false, false, false, false, false, false, false, false, false, false, false, false, false, false, false, false, false, false, false, false, false, false, false, false, false, false, false, false] rfl rfl (any_of HT_.out (by kernel_rfl)) (fun _ _ _ h => h) (Or.inl ⟨by rfl, ?_⟩) ?_ ?_
  rotate_left
  · intro w'
    go_simp
    with_reducible rfl
  rotate_left
  · simp only [pS]
    rfl
  refine pure_ (i := 15) (N := some 41) (v := ?_) (a' := ?_) #[true, true, true, true, true, true, true, true, true, true, true, true, true, true, true, true, false, false, false, false, false, false, false, false, false, false, false, false, false, false, false, false, false, false, false, false, false, false, false, false, false, false, false, false, false, false, false, false, false, false, false, false, false, false] rfl rfl (any_of HT_.out (by kernel_rfl)) (fun _ _ _ h => h) (Or.inl ⟨by rfl, ?_⟩) ?_ ?_
  rotate_left
  · intro w'
    go_simp
    with_reducible rfl
  rotate_left
  · simp only [pS]
    rfl
  refine pure_ (i := 16) (N := some 42) (v := ?_) (a' := ?_) #[true, true, true, true, true, true, true, true, true, true, true, true, true, true, true, true, true, false, false, false, false, false, false, false, false, false, false, false, false, false, false, false, false, false, false, false, false, false, false, false, false, false, false, false, false, false, false, false, false, false, false, false, false, false] rfl rfl (any_of HT_.out (by kernel_rfl)) (fun _ _ _ h => h) (Or.inl ⟨by rfl, ?_⟩) ?_ ?_
  rotate_left
  · intro w'
    go_simp
    with_reducible rfl
  rotate_left
  · simp only [pS]
    rfl
  refine one_ (i := 17) (N := some 43) #[true, true, true, true, true, true, true, true, true, true, true, true, true, true, true, true, true, true, false, false, false, false, false, false, false, false, false, false, false, false, false, false, false, false, false, false, false, false, false, false, false, false, false, false, false, false, false, false, false, false, false, false, false, false] rfl rfl (one_of HT_.out (by kernel_rfl)) (by decide) (fun K hK => ?_)
  refine goes_ Tryz.func21 (by kernel_rfl) rfl #[.int .u8 0, .int .i64 7] (by rfl) rfl rfl (by (try simp only [List.map_toArray, List.map_cons, List.map_nil]); first | done | rfl) ?_
  with_reducible refine (TC7.out _).mono ?_
  rintro e w9 ⟨rfl, hb9⟩
  refine ⟨_, rfl, ?_⟩
  have n1_ := Aside0.mk ((show Below w.heap.size w _ from by first | exact HB.out | exact below_drew1 HB.out).trans (hb9.mono HB.out.size)); have n2_ := Aside0.mk ((hb9.block E (blk_lt HE.out)).trans HE.out); clear HB HE hb9; have HB := n1_; have HE := n2_; clear n1_ n2_
  refine hK.out _ _ (cell_of HE.out S8.out) (fun hHeld => ?_)
  clear hK K
  refine norm_ (a' := ?_) ?_ ?_
  rotate_left
  · show Act.put _ (some 43) _ = _
    simp only [pS]
    rfl
  refine pure_ (i := 18) (N := some 44) (a' := ?_) #[true, true, true, true, true, true, true, true, true, true, true, true, true, true, true, true, true, true, true, false, false, false, false, false, false, false, false, false, false, false, false, false, false, false, false, false, false, false, false, false, false, false, false, false, false, false, false, false, false, false, false, false, false, false] rfl rfl (any_of HT_.out (by kernel_rfl)) (fun _ _ _ h => h) (Or.inl ⟨by rfl, cat_yields _ _ _ _ (by rfl) _ _ (by rfl) (by rfl) (by decide)⟩) ?_ ?_
  rotate_left
  · simp only [pS]
    rfl
  refine pure_ (i := 19) (N := some 45) (a' := ?_) #[true, true, true, true, true, true, true, true, true, true, true, true, true, true, true, true, true, true, true, true, false, false, false, false, false, false, false, false, false, false, false, false, false, false, false, false, false, false, false, false, false, false, false, false, false, false, false, false, false, false, false, false, false, false] rfl rfl (any_of HT_.out (by kernel_rfl)) (fun _ _ _ h => h) (Or.inl ⟨by rfl, cat_yields _ _ _ _ (by rfl) _ _ (by rfl) (by rfl) (by decide)⟩) ?_ ?_
  rotate_left
  · simp only [pS]
    rfl
  refine one_ (i := 20) (N := some 46) #[true, true, true, true, true, true, true, true, true, true, true, true, true, true, true, true, true, true, true, true, true, false, false, false, false, false, false, false, false, false, false, false, false, false, false, false, false, false, false, false, false, false, false, false, false, false, false, false, false, false, false, false, false, false] rfl rfl (one_of HT_.out (by kernel_rfl)) (by decide) (fun K hK => ?_)
  refine goes_ Tryz.func21 (by kernel_rfl) rfl #[.int .u8 0, .int .i64 7] (by rfl) rfl rfl (by (try simp only [List.map_toArray, List.map_cons, List.map_nil]); first | done | rfl) ?_
  with_reducible refine (TC7.out _).mono ?_
  rintro e w9 ⟨rfl, hb9⟩
  refine ⟨_, rfl, ?_⟩
  have n1_ := Aside0.mk ((show Below w.heap.size w _ from by first | exact HB.out | exact below_drew1 HB.out).trans (hb9.mono HB.out.size)); have n2_ := Aside0.mk ((hb9.block E (blk_lt HE.out)).trans HE.out); clear HB HE hb9; have HB := n1_; have HE := n2_; clear n1_ n2_
  refine hK.out _ _ (cell_of HE.out S8.out) (fun hHeld => ?_)
  clear hK K
  refine norm_ (a' := ?_) ?_ ?_
  rotate_left
  · show Act.put _ (some 46) _ = _
    simp only [pS]
    rfl
  refine pure_ (i := 21) (N := some 47) (a' := ?_) #[true, true, true, true, true, true, true, true, true, true, true, true, true, true, true, true, true, true, true, true, true, true, false, false, false, false, false, false, false, false, false, false, false, false, false, false, false, false, false, false, false, false, false, false, false, false, false, false, false, false, false, false, false, false] rfl rfl (any_of HT_.out (by kernel_rfl)) (fun _ _ _ h => h) (Or.inl ⟨by rfl, cat_yields _ _ _ _ (by rfl) _ _ (by rfl) (by rfl) (by decide)⟩) ?_ ?_
  rotate_left
  · simp only [pS]
    rfl
  refine pure_ (i := 22) (N := some 48) (a' := ?_) #[true, true, true, true, true, true, true, true, true, true, true, true, true, true, true, true, true, true, true, true, true, true, true, false, false, false, false, false, false, false, false, false, false, false, false, false, false, false, false, false, false, false, false, false, false, false, false, false, false, false, false, false, false, false] rfl rfl (any_of HT_.out (by kernel_rfl)) (fun _ _ _ h => h) (Or.inl ⟨by rfl, cat_yields _ _ _ _ (by rfl) _ _ (by rfl) (by rfl) (by decide)⟩) ?_ ?_
  rotate_left
  · simp only [pS]
    rfl
  refine one_ (i := 23) (N := some 49) #[true, true, true, true, true, true, true, true, true, true, true, true, true, true, true, true, true, true, true, true, true, true, true, true, false, false, false, false, false, false, false, false, false, false, false, false, false, false, false, false, false, false, false, false, false, false, false, false, false, false, false, false, false, false] rfl rfl (one_of HT_.out (by kernel_rfl)) (by decide) (fun K hK => ?_)
  refine goes_ Tryz.func21 (by kernel_rfl) rfl #[.int .u8 116, .int .i64 32] (by rfl) rfl rfl (by (try simp only [List.map_toArray, List.map_cons, List.map_nil]); first | done | rfl) ?_
  with_reducible refine (TC32.out _).mono ?_
  rintro e w9 ⟨rfl, hb9⟩
  refine ⟨_, rfl, ?_⟩
  have n1_ := Aside0.mk ((show Below w.heap.size w _ from by first | exact HB.out | exact below_drew1 HB.out).trans (hb9.mono HB.out.size)); have n2_ := Aside0.mk ((hb9.block E (blk_lt HE.out)).trans HE.out); clear HB HE hb9; have HB := n1_; have HE := n2_; clear n1_ n2_
  refine hK.out _ _ (cell_of HE.out S8.out) (fun hHeld => ?_)
  clear hK K
  refine norm_ (a' := ?_) ?_ ?_
  rotate_left
  · show Act.put _ (some 49) _ = _
    simp only [pS]
    rfl
  refine pure_ (i := 24) (N := some 50) (a' := ?_) #[true, true, true, true, true, true, true, true, true, true, true, true, true, true, true, true, true, true, true, true, true, true, true, true, true, false, false, false, false, false, false, false, false, false, false, false, false, false, false, false, false, false, false, false, false, false, false, false, false, false, false, false, false, false] rfl rfl (any_of HT_.out (by kernel_rfl)) (fun _ _ _ h => h) (Or.inl ⟨by rfl, cat_yields _ _ _ _ (by rfl) _ ta (by rfl) (by rfl) (by have := HTA.out; simp only [List.length_append, List.length_cons, List.length_nil]; omega)⟩) ?_ ?_
  rotate_left
  · simp only [pS]
    rfl
  refine pure_ (i := 25) (N := some 51) (a' := ?_) #[true, true, true, true, true, true, true, true, true, true, true, true, true, true, true, true, true, true, true, true, true, true, true, true, true, true, false, false, false, false, false, false, false, false, false, false, false, false, false, false, false, false, false, false, false, false, false, false, false, false, false, false, false, false] rfl rfl (any_of HT_.out (by kernel_rfl)) (fun _ _ _ h => h) (Or.inl ⟨by rfl, streq_yields _ _ _ _ (by rfl) _ _ (by rfl) (by rfl) true EQ1.out⟩) ?_ ?_
  rotate_left
  · simp only [pS]
    rfl
  refine pure_ (i := 26) (N := some 52) (v := ?_) (a' := ?_) #[true, true, true, true, true, true, true, true, true, true, true, true, true, true, true, true, true, true, true, true, true, true, true, true, true, true, true, false, false, false, false, false, false, false, false, false, false, false, false, false, false, false, false, false, false, false, false, false, false, false, false, false, false, false] rfl rfl (any_of HT_.out (by kernel_rfl)) (fun _ _ _ h => h) (Or.inl ⟨by rfl, ?_⟩) ?_ ?_
  rotate_left
  · intro w'
    go_simp
    with_reducible rfl
  rotate_left
  · simp only [pS]
    rfl
  refine pure_ (i := 27) (N := some 53) (v := ?_) (a' := ?_) #[true, true, true, true, true, true, true, true, true, true, true, true, true, true, true, true, true, true, true, true, true, true, true, true, true, true, true, true, false, false, false, false, false, false, false, false, false, false, false, false, false, false, false, false, false, false, false, false, false, false, false, false, false, false] rfl rfl (any_of HT_.out (by kernel_rfl)) (fun _ _ _ h => h) (Or.inl ⟨by rfl, ?_⟩) ?_ ?_
  rotate_left
  · intro w'
    go_simp
    with_reducible rfl
  rotate_left
  · simp only [pS]
    rfl
  refine pure_ (i := 28) (N := some 54) (v := ?_) (a' := ?_) #[true, true, true, true, true, true, true, true, true, true, true, true, true, true, true, true, true, true, true, true, true, true, true, true, true, true, true, true, true, false, false, false, false, false, false, false, false, false, false, false, false, false, false, false, false, false, false, false, false, false, false, false, false, false] rfl rfl (any_of HT_.out (by kernel_rfl)) (fun _ _ _ h => h) (Or.inl ⟨by rfl, ?_⟩) ?_ ?_
  rotate_left
  · intro w'
    go_simp
    with_reducible rfl
  rotate_left
  · simp only [pS]
    rfl
  refine take_ (i := 29) (N := some 55) (v := ?_) (a' := ?_) #[true, true, true, true, true, true, true, true, true, true, true, true, true, true, true, true, true, true, true, true, true, true, true, true, true, true, true, true, true, true, false, false, false, false, false, false, false, false, false, false, false, false, false, false, false, false, false, false, false, false, false, false, false, false] rfl rfl (take_ofW HT_.out HW_.out (by kernel_rfl)) (fun _ _ _ h => h) (Or.inl ⟨by rfl, ?_⟩) hHeld ?_ ?_
  rotate_left
  · rintro w' s8
    go_simp
    with_reducible rfl
  rotate_left
  · simp only [pS]
    rfl
  refine pure_ (i := 30) (N := some 56) (v := ?_) (a' := ?_) #[true, true, true, true, true, true, true, true, true, true, true, true, true, true, true, true, true, true, true, true, true, true, true, true, true, true, true, true, true, true, true, false, false, false, false, false, false, false, false, false, false, false, false, false, false, false, false, false, false, false, false, false, false, false] rfl rfl (any_of HT_.out (by kernel_rfl)) (fun _ _ _ h => h) (Or.inl ⟨by rfl, ?_⟩) ?_ ?_
  rotate_left
  · intro w'
    go_simp
    with_reducible rfl
  rotate_left
  · simp only [pS]
    rfl
  refine pure_ (i := 31) (N := some 57) (v := ?_) (a' := ?_) #[true, true, true, true, true, true, true, true, true, true, true, true, true, true, true, true, true, true, true, true, true, true, true, true, true, true, true, true, true, true, true, true, false, false, false, false, false, false, false, false, false, false, false, false, false, false, false, false, false, false, false, false, false, false] rfl rfl (any_of HT_.out (by kernel_rfl)) (fun _ _ _ h => h) (Or.inl ⟨by rfl, ?_⟩) ?_ ?_
  rotate_left
  · intro w'
    go_simp
    with_reducible rfl
  rotate_left
  · simp only [pS]
    rfl
  refine pure_ (i := 32) (N := some 58) (v := ?_) (a' := ?_) #[true, true, true, true, true, true, true, true, true, true, true, true, true, true, true, true, true, true, true, true, true, true, true, true, true, true, true, true, true, true, true, true, true, false, false, false, false, false, false, false, false, false, false, false, false, false, false, false, false, false, false, false, false, false] rfl rfl (any_of HT_.out (by kernel_rfl)) (fun _ _ _ h => h) (Or.inl ⟨by rfl, ?_⟩) ?_ ?_
  rotate_left
  · intro w'
    go_simp
    with_reducible rfl
  rotate_left
  · simp only [pS]
    rfl
  refine pure_ (i := 33) (N := some 59) (v := ?_) (a' := ?_) #[true, true, true, true, true, true, true, true, true, true, true, true, true, true, true, true, true, true, true, true, true, true, true, true, true, true, true, true, true, true, true, true, true, true, false, false, false, false, false, false, false, false, false, false, false, false, false, false, false, false, false, false, false, false] rfl rfl (any_of HT_.out (by kernel_rfl)) (fun _ _ _ h => h) (Or.inl ⟨by rfl, ?_⟩) ?_ ?_
  rotate_left
  · intro w'
    go_simp
    with_reducible rfl
  rotate_left
  · simp only [pS]
    rfl
  refine pure_ (i := 35) (N := some 61) (v := ?_) (a' := ?_) #[true, true, true, true, true, true, true, true, true, true, true, true, true, true, true, true, true, true, true, true, true, true, true, true, true, true, true, true, true, true, true, true, true, true, false, true, false, false, false, false, false, false, false, false, false, false, false, false, false, false, false, false, false, false] rfl rfl (any_of HT_.out (by kernel_rfl)) (fun _ _ _ h => h) (Or.inl ⟨by rfl, ?_⟩) ?_ ?_
  rotate_left
  · intro w'
    go_simp
    with_reducible rfl
  rotate_left
  · simp only [pS]
    rfl
  refine pure_ (i := 36) (N := some 62) (v := ?_) (a' := ?_) #[true, true, true, true, true, true, true, true, true, true, true, true, true, true, true, true, true, true, true, true, true, true, true, true, true, true, true, true, true, true, true, true, true, true, false, true, true, false, false, false, false, false, false, false, false, false, false, false, false, false, false, false, false, false] rfl rfl (any_of HT_.out (by kernel_rfl)) (fun _ _ _ h => h) (Or.inl ⟨by rfl, ?_⟩) ?_ ?_
  rotate_left
  · intro w'
    go_simp
    with_reducible rfl
  rotate_left
  · simp only [pS]
    rfl
  refine one_ (i := 34) (N := some 60) #[true, true, true, true, true, true, true, true, true, true, true, true, true, true, true, true, true, true, true, true, true, true, true, true, true, true, true, true, true, true, true, true, true, true, true, true, true, false, false, false, false, false, false, false, false, false, false, false, false, false, false, false, false, false] rfl rfl (one_of HT_.out (by kernel_rfl)) (by decide) (fun K hK => ?_)
  refine goes_ Tryz.func12 (by kernel_rfl) rfl #[.string s] (by rfl) rfl rfl (by (try simp only [List.map_toArray, List.map_cons, List.map_nil]); first | done | rfl) ?_
  with_reducible refine (BC.out _).mono ?_
  rintro e w9 ⟨rfl, hb9⟩
  refine ⟨_, rfl, ?_⟩
  have n1_ := Aside0.mk ((show Below w.heap.size w _ from by first | exact HB.out | exact below_drew1 HB.out).trans (hb9.mono HB.out.size)); have n2_ := Aside0.mk ((hb9.block E (blk_lt HE.out)).trans HE.out); clear HB HE hb9; have HB := n1_; have HE := n2_; clear n1_ n2_
  refine hK.out _ _ (cell_of HE.out S8.out) (fun hHeld => ?_)
  clear hK K
  refine norm_ (a' := ?_) ?_ ?_
  rotate_left
  · show Act.put _ (some 60) _ = _
    simp only [pS]
    rfl
  refine pure_ (i := 37) (N := some 63) (a' := ?_) #[true, true, true, true, true, true, true, true, true, true, true, true, true, true, true, true, true, true, true, true, true, true, true, true, true, true, true, true, true, true, true, true, true, true, true, true, true, true, false, false, false, false, false, false, false, false, false, false, false, false, false, false, false, false] rfl rfl (any_of HT_.out (by kernel_rfl)) (fun _ _ _ h => h) (Or.inl ⟨by rfl, streq_yields _ _ _ _ (by rfl) _ _ (by rfl) (by rfl) true EQ2.out⟩) ?_ ?_
  rotate_left
  · simp only [pS]
    rfl
  refine pure_ (i := 38) (N := some 64) (v := ?_) (a' := ?_) #[true, true, true, true, true, true, true, true, true, true, true, true, true, true, true, true, true, true, true, true, true, true, true, true, true, true, true, true, true, true, true, true, true, true, true, true, true, true, true, false, false, false, false, false, false, false, false, false, false, false, false, false, false, false] rfl rfl (any_of HT_.out (by kernel_rfl)) (fun _ _ _ h => h) (Or.inl ⟨by rfl, ?_⟩) ?_ ?_
  rotate_left
  · intro w'
    go_simp
    with_reducible rfl
  rotate_left
  · simp only [pS]
    rfl
  refine pure_ (i := 39) (N := some 65) (v := ?_) (a' := ?_) #[true, true, true, true, true, true, true, true, true, true, true, true, true, true, true, true, true, true, true, true, true, true, true, true, true, true, true, true, true, true, true, true, true, true, true, true, true, true, true, true, false, false, false, false, false, false, false, false, false, false, false, false, false, false] rfl rfl (any_of HT_.out (by kernel_rfl)) (fun _ _ _ h => h) (Or.inl ⟨by rfl, ?_⟩) ?_ ?_
  rotate_left
  · intro w'
    go_simp
    with_reducible rfl
  rotate_left
  · simp only [pS]
    rfl
  refine pure_ (i := 40) (N := some 66) (v := ?_) (a' := ?_) #[true, true, true, true, true, true, true, true, true, true, true, true, true, true, true, true, true, true, true, true, true, true, true, true, true, true, true, true, true, true, true, true, true, true, true, true, true, true, true, true, true, false, false, false, false, false, false, false, false, false, false, false, false, false] rfl rfl (any_of HT_.out (by kernel_rfl)) (fun _ _ _ h => h) (Or.inl ⟨by rfl, ?_⟩) ?_ ?_
  rotate_left
  · intro w'
    go_simp
    with_reducible rfl
  rotate_left
  · simp only [pS]
    rfl
  refine one_ (i := 41) (N := some 67) #[true, true, true, true, true, true, true, true, true, true, true, true, true, true, true, true, true, true, true, true, true, true, true, true, true, true, true, true, true, true, true, true, true, true, true, true, true, true, true, true, true, true, false, false, false, false, false, false, false, false, false, false, false, false] rfl rfl (one_of HT_.out (by kernel_rfl)) (by decide) (fun K hK => ?_)
  refine goes_ Tryz.func14 (by kernel_rfl) rfl #[.string t, .string ⟨#[107]⟩] (by rfl) rfl rfl (by (try simp only [List.map_toArray, List.map_cons, List.map_nil]); first | done | rfl) ?_
  with_reducible refine (S1.out _ (gl_below HG.out HB.out)).mono ?_
  rintro e w9 ⟨rfl, hb9⟩
  refine ⟨_, rfl, ?_⟩
  have n1_ := Aside0.mk ((show Below w.heap.size w _ from by first | exact HB.out | exact below_drew1 HB.out).trans (hb9.mono HB.out.size)); have n2_ := Aside0.mk ((hb9.block E (blk_lt HE.out)).trans HE.out); clear HB HE hb9; have HB := n1_; have HE := n2_; clear n1_ n2_
  refine hK.out _ _ (cell_of HE.out S8.out) (fun hHeld => ?_)
  clear hK K
  refine norm_ (a' := ?_) ?_ ?_
  rotate_left
  · show Act.put _ (some 67) _ = _
    simp only [pS]
    rfl
  refine pure_ (i := 42) (N := some 68) (v := ?_) (a' := ?_) #[true, true, true, true, true, true, true, true, true, true, true, true, true, true, true, true, true, true, true, true, true, true, true, true, true, true, true, true, true, true, true, true, true, true, true, true, true, true, true, true, true, true, true, false, false, false, false, false, false, false, false, false, false, false] rfl rfl (any_of HT_.out (by kernel_rfl)) (fun _ _ _ h => h) (Or.inl ⟨by rfl, ?_⟩) ?_ ?_
  rotate_left
  · intro w'
    go_simp
    with_reducible rfl
  rotate_left
  · simp only [pS]
    rfl
  refine pure_ (i := 43) (N := some 69) (v := ?_) (a' := ?_) #[true, true, true, true, true, true, true, true, true, true, true, true, true, true, true, true, true, true, true, true, true, true, true, true, true, true, true, true, true, true, true, true, true, true, true, true, true, true, true, true, true, true, true, true, false, false, false, false, false, false, false, false, false, false] rfl rfl (any_of HT_.out (by kernel_rfl)) (fun _ _ _ h => h) (Or.inl ⟨by rfl, ?_⟩) ?_ ?_
  rotate_left
  · intro w'
    go_simp
    with_reducible rfl
  rotate_left
  · simp only [pS]
    rfl
  refine pure_ (i := 44) (N := some 70) (v := ?_) (a' := ?_) #[true, true, true, true, true, true, true, true, true, true, true, true, true, true, true, true, true, true, true, true, true, true, true, true, true, true, true, true, true, true, true, true, true, true, true, true, true, true, true, true, true, true, true, true, true, false, false, false, false, false, false, false, false, false] rfl rfl (any_of HT_.out (by kernel_rfl)) (fun _ _ _ h => h) (Or.inl ⟨by rfl, ?_⟩) ?_ ?_
  rotate_left
  · intro w'
    go_simp
    with_reducible rfl
  rotate_left
  · simp only [pS]
    rfl
  refine one_ (i := 45) (N := some 71) #[true, true, true, true, true, true, true, true, true, true, true, true, true, true, true, true, true, true, true, true, true, true, true, true, true, true, true, true, true, true, true, true, true, true, true, true, true, true, true, true, true, true, true, true, true, true, false, false, false, false, false, false, false, false] rfl rfl (one_of HT_.out (by kernel_rfl)) (by decide) (fun K hK => ?_)
  refine goes_ Tryz.func14 (by kernel_rfl) rfl #[.string t, .string ⟨#[108]⟩] (by rfl) rfl rfl (by (try simp only [List.map_toArray, List.map_cons, List.map_nil]); first | done | rfl) ?_
  with_reducible refine (S2.out _ (gl_below HG.out HB.out)).mono ?_
  rintro e w9 ⟨rfl, hb9⟩
  refine ⟨_, rfl, ?_⟩
  have n1_ := Aside0.mk ((show Below w.heap.size w _ from by first | exact HB.out | exact below_drew1 HB.out).trans (hb9.mono HB.out.size)); have n2_ := Aside0.mk ((hb9.block E (blk_lt HE.out)).trans HE.out); clear HB HE hb9; have HB := n1_; have HE := n2_; clear n1_ n2_
  refine hK.out _ _ (cell_of HE.out S8.out) (fun hHeld => ?_)
  clear hK K
  refine norm_ (a' := ?_) ?_ ?_
  rotate_left
  · show Act.put _ (some 71) _ = _
    simp only [pS]
    rfl
  refine pure_ (i := 46) (N := some 72) (v := ?_) (a' := ?_) #[true, true, true, true, true, true, true, true, true, true, true, true, true, true, true, true, true, true, true, true, true, true, true, true, true, true, true, true, true, true, true, true, true, true, true, true, true, true, true, true, true, true, true, true, true, true, true, false, false, false, false, false, false, false] rfl rfl (any_of HT_.out (by kernel_rfl)) (fun _ _ _ h => h) (Or.inl ⟨by rfl, ?_⟩) ?_ ?_
  rotate_left
  · intro w'
    go_simp
    with_reducible rfl
  rotate_left
  · simp only [pS]
    rfl
  refine pure_ (i := 47) (N := some 73) (v := ?_) (a' := ?_) #[true, true, true, true, true, true, true, true, true, true, true, true, true, true, true, true, true, true, true, true, true, true, true, true, true, true, true, true, true, true, true, true, true, true, true, true, true, true, true, true, true, true, true, true, true, true, true, true, false, false, false, false, false, false] rfl rfl (any_of HT_.out (by kernel_rfl)) (fun _ _ _ h => h) (Or.inl ⟨by rfl, ?_⟩) ?_ ?_
  rotate_left
  · intro w'
    go_simp
    with_reducible rfl
  rotate_left
  · simp only [pS]
    rfl
  refine pure_ (i := 48) (N := some 74) (v := ?_) (a' := ?_) #[true, true, true, true, true, true, true, true, true, true, true, true, true, true, true, true, true, true, true, true, true, true, true, true, true, true, true, true, true, true, true, true, true, true, true, true, true, true, true, true, true, true, true, true, true, true, true, true, true, false, false, false, false, false] rfl rfl (any_of HT_.out (by kernel_rfl)) (fun _ _ _ h => h) (Or.inl ⟨by rfl, ?_⟩) ?_ ?_
  rotate_left
  · intro w'
    go_simp
    with_reducible rfl
  rotate_left
  · simp only [pS]
    rfl
  refine pure_ (i := 49) (N := some 75) (v := ?_) (a' := ?_) #[true, true, true, true, true, true, true, true, true, true, true, true, true, true, true, true, true, true, true, true, true, true, true, true, true, true, true, true, true, true, true, true, true, true, true, true, true, true, true, true, true, true, true, true, true, true, true, true, true, true, false, false, false, false] rfl rfl (any_of HT_.out (by kernel_rfl)) (fun _ _ _ h => h) (Or.inl ⟨by rfl, ?_⟩) ?_ ?_
  rotate_left
  · intro w'
    go_simp
    with_reducible rfl
  rotate_left
  · simp only [pS]
    rfl
  refine one_ (i := 50) (N := some 76) #[true, true, true, true, true, true, true, true, true, true, true, true, true, true, true, true, true, true, true, true, true, true, true, true, true, true, true, true, true, true, true, true, true, true, true, true, true, true, true, true, true, true, true, true, true, true, true, true, true, true, true, false, false, false] rfl rfl (one_of HT_.out (by kernel_rfl)) (by decide) (fun K hK => ?_)
  refine goes_ Tryz.func14 (by kernel_rfl) rfl #[.string s, .string ⟨#[107]⟩] (by rfl) rfl rfl (by (try simp only [List.map_toArray, List.map_cons, List.map_nil]); first | done | rfl) ?_
  with_reducible refine (S3.out _ (gl_below HG.out HB.out)).mono ?_
  rintro e w9 ⟨rfl, hb9⟩
  refine ⟨_, rfl, ?_⟩
  have n1_ := Aside0.mk ((show Below w.heap.size w _ from by first | exact HB.out | exact below_drew1 HB.out).trans (hb9.mono HB.out.size)); have n2_ := Aside0.mk ((hb9.block E (blk_lt HE.out)).trans HE.out); clear HB HE hb9; have HB := n1_; have HE := n2_; clear n1_ n2_
  refine hK.out _ _ (cell_of HE.out S8.out) (fun hHeld => ?_)
  clear hK K
  refine norm_ (a' := ?_) ?_ ?_
  rotate_left
  · show Act.put _ (some 76) _ = _
    simp only [pS]
    rfl
  refine pure_ (i := 51) (N := some 77) (v := ?_) (a' := ?_) #[true, true, true, true, true, true, true, true, true, true, true, true, true, true, true, true, true, true, true, true, true, true, true, true, true, true, true, true, true, true, true, true, true, true, true, true, true, true, true, true, true, true, true, true, true, true, true, true, true, true, true, true, false, false] rfl rfl (any_of HT_.out (by kernel_rfl)) (fun _ _ _ h => h) (Or.inl ⟨by rfl, ?_⟩) ?_ ?_
  rotate_left
  · intro w'
    go_simp
    with_reducible rfl
  rotate_left
  · simp only [pS]
    rfl
  refine pure_ (i := 52) (N := some 78) (v := ?_) (a' := ?_) #[true, true, true, true, true, true, true, true, true, true, true, true, true, true, true, true, true, true, true, true, true, true, true, true, true, true, true, true, true, true, true, true, true, true, true, true, true, true, true, true, true, true, true, true, true, true, true, true, true, true, true, true, true, false] rfl rfl (any_of HT_.out (by kernel_rfl)) (fun _ _ _ h => h) (Or.inl ⟨by rfl, ?_⟩) ?_ ?_
  rotate_left
  · intro w'
    go_simp
    with_reducible rfl
  rotate_left
  · simp only [pS]
    rfl
  refine pure_ (i := 53) (N := some 0) (v := ?_) (a' := ?_) #[true, true, true, true, true, true, true, true, true, true, true, true, true, true, true, true, true, true, true, true, true, true, true, true, true, true, true, true, true, true, true, true, true, true, true, true, true, true, true, true, true, true, true, true, true, true, true, true, true, true, true, true, true, true] rfl rfl (any_of HT_.out (by kernel_rfl)) (fun _ _ _ h => h) (Or.inl ⟨by rfl, ?_⟩) ?_ ?_
  rotate_left
  · intro w'
    go_simp
    with_reducible rfl
  rotate_left
  · simp only [pS]
    rfl
  refine done_ (done_of HT_.out (by kernel_rfl)) ?_
  clear HT_ HW_ hHeld
  go_wp2
  go_ret
  exact ⟨rfl, HB.out⟩
end Go.Proofs.YtniabkphbnimaaaGreatDoor.Sh
namespace Go.Proofs.YtniabkphbnimaaaGreatDoor.Sh
open Go Go.RowKit Go.Maps Go.Proofs.YtniabkphbnimaaaGreatDoorW.PrintWords Go.Proofs.YtniabkphbnimaaaGreatDoorW.PrintLast Go.Proofs.YtniabkphbnimaaaGreatDoor.Bs
theorem eqA25 (d : Nat) (w : World) (x0 y0 : Int) (x1 y1 : Int) (x2 y2 : Bool) (x3 y3 : Bool) :
    (Op.equalIn (d + 2) 25 (.agg #[.int .i64 x0, .int .i64 x1, .bool x2, .bool x3]) (.agg #[.int .i64 y0, .int .i64 y1, .bool y2, .bool y3])).run Tryz.prog w = .ok (x0 == y0 && (x1 == y1 && (x2 == y2 && (x3 == y3)))) w := by
  refine eqA_of Tryz.underlying25 (by kernel_rfl) ?_
  refine eqf_cons (by rfl) (by go_simp; rfl) (by go_simp; rfl) (by go_simp) ?_
  refine eqf_cons (by rfl) (by go_simp; rfl) (by go_simp; rfl) (by go_simp) ?_
  refine eqf_cons (by rfl) (by go_simp; rfl) (by go_simp; rfl) (by go_simp) ?_
  exact eqf_last (by rfl) (by go_simp; rfl) (by go_simp; rfl) (by go_simp)
theorem eqA27 (d : Nat) (w : World) (x0 y0 : Int) (x1 y1 : ByteArray) (x2 y2 : Int) (x3 y3 : ByteArray) (x4 y4 : ByteArray) (x5 y5 : Int) (x6 y6 : Int) (x7 y7 : ByteArray) (x8 y8 : Int) (x9 y9 : Int) (x10 y10 : Int) (x11 y11 : Bool) (x12 y12 : Bool) (x13 y13 : ByteArray) (x14 y14 : ByteArray) :
    (Op.equalIn (d + 3) 27 (.agg #[.int .i64 x0, .string x1, .int .u64 x2, .string x3, .string x4, .int .u64 x5, .int .i64 x6, .string x7, .int .u64 x8, .int .i64 x9, .int .i64 x10, .bool x11, .bool x12, .string x13, .string x14]) (.agg #[.int .i64 y0, .string y1, .int .u64 y2, .string y3, .string y4, .int .u64 y5, .int .i64 y6, .string y7, .int .u64 y8, .int .i64 y9, .int .i64 y10, .bool y11, .bool y12, .string y13, .string y14])).run Tryz.prog w = .ok (x0 == y0 && (x1.toList == y1.toList && (x2 == y2 && (x3.toList == y3.toList && (x4.toList == y4.toList && (x5 == y5 && (x6 == y6 && (x7.toList == y7.toList && (x8 == y8 && ((x9 == y9 && (x10 == y10 && (x11 == y11 && (x12 == y12)))) && (x13.toList == y13.toList && (x14.toList == y14.toList)))))))))))) w := by
  refine eqA_of Tryz.underlying27 (by kernel_rfl) ?_
  refine eqf_cons (by rfl) (by go_simp; rfl) (by go_simp; rfl) (by go_simp) ?_
  refine eqf_cons (by rfl) (by go_simp; rfl) (by go_simp; rfl) (by go_simp) ?_
  refine eqf_cons (by rfl) (by go_simp; rfl) (by go_simp; rfl) (by go_simp) ?_
  refine eqf_cons (by rfl) (by go_simp; rfl) (by go_simp; rfl) (by go_simp) ?_
  refine eqf_cons (by rfl) (by go_simp; rfl) (by go_simp; rfl) (by go_simp) ?_
  refine eqf_cons (by rfl) (by go_simp; rfl) (by go_simp; rfl) (by go_simp) ?_
  refine eqf_cons (by rfl) (by go_simp; rfl) (by go_simp; rfl) (by go_simp) ?_
  refine eqf_cons (by rfl) (by go_simp; rfl) (by go_simp; rfl) (by go_simp) ?_
  refine eqf_cons (by rfl) (by go_simp; rfl) (by go_simp; rfl) (by go_simp) ?_
  refine eqf_cons (by rfl) (by go_simp) (by go_simp) (eqA25 (d + 0) w _ _ _ _ _ _ _ _) ?_
  refine eqf_cons (by rfl) (by go_simp; rfl) (by go_simp; rfl) (by go_simp) ?_
  exact eqf_last (by rfl) (by go_simp; rfl) (by go_simp; rfl) (by go_simp)
section
variable {ops : Array Oper} {rest : List Oper} {o : Oper} {a : Act} {w : World} {Q : Exit → Act → World → Prop}
theorem run_dgeq (d : Dg) (w : World) : (Op.equalIn 10000 27 (.agg d.cells.toArray) (.agg d.cells.toArray)).run Tryz.prog w = .ok true w := by
  have h := eqA27 9997 w d.kind d.kind d.nonce d.nonce (d.epoch : Int) (d.epoch : Int) d.cookie d.cookie d.name d.name (d.session : Int) (d.session : Int) d.player d.player d.salt d.salt (d.seq : Int) (d.seq : Int) d.thr d.thr d.trn d.trn d.fire d.fire d.boost d.boost d.data d.data d.tag d.tag
  simp only [beq_self_eq_true, Bool.and_true] at h
  exact h
theorem wp_dgne {K : Act → World → Prop} (d e : Dg) (hde : d = e) (t2 : TypeId) (x y : Operand) (ho : o.op = .binOp .neq 27 x y t2) (hx : a.eval x = .agg d.cells.toArray) (hy : a.eval y = .agg e.cells.toArray)
    (h : K (a.put o.dst (.bool false)) w) : Oper.wp Tryz.prog o a w K Q := by
  subst hde
  unfold Oper.wp execOp
  simp only [ho, hx, hy, Sem.run_bind, run_eqGuard_agg (P := Tryz.prog) w .neq 27 x y _ _ (by kernel_rfl), run_neq_struct, run_dgeq, Result.andThen_ok, Sem.run_pure, Bool.not_true]
  exact h
end
end Go.Proofs.YtniabkphbnimaaaGreatDoor.Sh
namespace Go.Proofs.YtniabkphbnimaaaGreatDoor.Sh
open Go Go.RowKit Go.Maps
theorem gRounds : Tryz.prog.globalNamed "joust/sha.rounds" = some 0 := by kernel_rfl
theorem tRounds : (Tryz.prog.globals[0]?).map (·.type) = some 130 := by kernel_rfl
def KSz : List Int := KS.map fun x => (x.toNat : Int)
theorem dRounds : (Rows.laid_joust_sha_rounds : DataW Unit) = Lib.tabData .u32 KSz := by kernel_rfl
theorem ksz : (KSz.map fun z => Value.int .u32 z) = KS.map vW := by
  unfold KSz
  rw [List.map_map]
  rfl
theorem heap_of_var {W : World} {name : String} {g : Nat} {cs : Array Value} (hg : Tryz.prog.globalNamed name = some g) (h : W.var? Tryz.prog name = some cs) : ∃ t fr, W.heap[g]? = some (.cells cs t fr) := by
  unfold World.var? at h
  rw [hg] at h
  simp only [Option.bind_some] at h
  split at h
  · rename_i c t fr hh
    cases h
    exact ⟨_, _, hh⟩
  · cases h
theorem tab_of {W : World} {name : String} {g : Nat} {t e : TypeId} {n : Nat} {zs : List Int} {d : DataW Unit} (hdz : d = Lib.tabData .u32 zs) (hg : Tryz.prog.globalNamed name = some g) (ht : Tryz.prog.underlying t = some (.array n e)) (he : Tryz.prog.underlying e = some (.int .u32)) (hce : Tryz.prog.cellsOf e = 1) (hct : Tryz.prog.cellsOf t = n)
    {enc : TypeId × Value → Unit} {base : Nat} {sp : Nat → Bool} {held : Bool} {fuel : Nat} {cs : Array Value} {p : List MemPlace} (hvar : W.var? Tryz.prog name = some cs) (hd : DataW.trod enc Tryz.prog W base sp held fuel t cs.toList = some (d, p)) : ∃ u fr, W.heap[g]? = some (.cells (zs.map fun z => Value.int .u32 z).toArray u fr) := by
  subst hdz
  have e1 := Lib.cells_of_tab ht he hce hct hd
  obtain ⟨u, fr, hh⟩ := heap_of_var hg hvar
  refine ⟨u, fr, ?_⟩
  rw [hh, ← e1]
theorem gl_of_laid2 {W : World} (h : laidMet Tryz.prog [("joust/sha.rounds", Rows.laid_joust_sha_rounds), ("unicode/utf8.acceptRanges", Rows.laid_unicode_utf8_acceptRanges), ("unicode/utf8.first", Rows.laid_unicode_utf8_first)] W) : GL W := by
  obtain ⟨ps, ⟨g1, t1, cs1, fuel1, p1, q1, hg1, ht1, hvar1, hd1, _, _⟩, _⟩ := h
  obtain rfl := Option.some.inj (gRounds.symm.trans hg1)
  obtain rfl := Option.some.inj (tRounds.symm.trans ht1)
  obtain ⟨u, fr, hh⟩ := tab_of dRounds gRounds Tryz.underlying130 Tryz.underlying110 (by kernel_rfl) (by kernel_rfl) hvar1 hd1
  rw [ksz] at hh
  exact ⟨u, fr, hh⟩
/-- The cells of the listed tables, for a witness. -/
def roundsC : Array Value := (KS.map vW).toArray
def firstC : Array Value := (Pinned.utf8FirstZ.map fun z : Nat => Value.int .u8 (z : Int)).toArray
def acceptC : Array Value := #[.int .u8 128, .int .u8 191, .int .u8 160, .int .u8 191, .int .u8 128, .int .u8 159, .int .u8 144, .int .u8 191, .int .u8 128, .int .u8 143, .int .u8 0, .int .u8 0, .int .u8 0, .int .u8 0, .int .u8 0, .int .u8 0, .int .u8 0, .int .u8 0, .int .u8 0, .int .u8 0, .int .u8 0, .int .u8 0, .int .u8 0, .int .u8 0, .int .u8 0, .int .u8 0, .int .u8 0, .int .u8 0, .int .u8 0, .int .u8 0, .int .u8 0, .int .u8 0]
end Go.Proofs.YtniabkphbnimaaaGreatDoor.Sh
namespace Go.Proofs.YtniabkphbnimaaaGreatDoor.Sh
open Go Go.RowKit Go.WideShapes Go.Maps Go.Proofs.YtniabkphbnimaaaGreatDoorW.PrintWords Go.Proofs.YtniabkphbnimaaaGreatDoorW.PrintLast Go.Proofs.YtniabkphbnimaaaGreatDoor.Bs
theorem list_cmdc {α : Type} {l : List α} (h : l.length = 4) : ∃ c0 c1 c2 c3, l = [c0, c1, c2, c3] :=
  match l, h with
  | [c0, c1, c2, c3], _ => ⟨c0, c1, c2, c3, rfl⟩
theorem list_cmdf {α : Type} {l : List α} (h : l.length = 4) : ∃ y0 y1 y2 y3, l = [y0, y1, y2, y3] :=
  match l, h with
  | [y0, y1, y2, y3], _ => ⟨y0, y1, y2, y3, rfl⟩
theorem op_cmd {H : Type} {enc : TypeId × Value → H} {w : World} {base : Nat} {spare : Nat → Bool} {held : Bool} {fuel : Nat} {cs : List Value} {y : DataW H × List MemPlace} (h : DataW.trod enc Tryz.prog w base spare held fuel 25 cs = some y) :
    ∃ (x0 : Int) (x1 : Int) (x2 : Bool) (x3 : Bool), cs = [.int .i64 x0, .int .i64 x1, .bool x2, .bool x3] ∧ y = (.agg [.lit (.int .i64 x0), .lit (.int .i64 x1), .lit (.bool x2), .lit (.bool x3)], []) ∧ (Lit.int .i64 x0).wf = true ∧ (Lit.int .i64 x1).wf = true := by
  obtain ⟨xs, n, rfl, rfl, hl, hlen, hf⟩ := DataW.trod_struct Tryz.underlying25 h
  rw [show Tryz.prog.cellsOf 25 = 4 from by kernel_rfl] at hl
  obtain ⟨c0, c1, c2, c3, rfl⟩ := list_cmdc hl
  obtain ⟨y0, y1, y2, y3, rfl⟩ := list_cmdf hlen
  have e0 : DataW.trod enc Tryz.prog w base spare held n 3 [c0] = some y0 := by
    have e : DataW.trod enc Tryz.prog w base spare held n 3 (List.take (Tryz.prog.cellsOf 3) (List.drop 0 [c0, c1, c2, c3])) = some y0 := hf 0 _ rfl
    rw [show Tryz.prog.cellsOf 3 = 1 from by kernel_rfl] at e
    exact e
  have e1 : DataW.trod enc Tryz.prog w base spare held n 3 [c1] = some y1 := by
    have e : DataW.trod enc Tryz.prog w base spare held n 3 (List.take (Tryz.prog.cellsOf 3) (List.drop 1 [c0, c1, c2, c3])) = some y1 := hf 1 _ rfl
    rw [show Tryz.prog.cellsOf 3 = 1 from by kernel_rfl] at e
    exact e
  have e2 : DataW.trod enc Tryz.prog w base spare held n 4 [c2] = some y2 := by
    have e : DataW.trod enc Tryz.prog w base spare held n 4 (List.take (Tryz.prog.cellsOf 4) (List.drop 2 [c0, c1, c2, c3])) = some y2 := hf 2 _ rfl
    rw [show Tryz.prog.cellsOf 4 = 1 from by kernel_rfl] at e
    exact e
  have e3 : DataW.trod enc Tryz.prog w base spare held n 4 [c3] = some y3 := by
    have e : DataW.trod enc Tryz.prog w base spare held n 4 (List.take (Tryz.prog.cellsOf 4) (List.drop 3 [c0, c1, c2, c3])) = some y3 := hf 3 _ rfl
    rw [show Tryz.prog.cellsOf 4 = 1 from by kernel_rfl] at e
    exact e
  clear h hf hl hlen
  obtain ⟨x0, g0, rfl, w0⟩ := DataW.trod_int Tryz.underlying3 e0
  simp only [List.cons.injEq, and_true] at g0
  subst g0
  obtain ⟨x1, g1, rfl, w1⟩ := DataW.trod_int Tryz.underlying3 e1
  simp only [List.cons.injEq, and_true] at g1
  subst g1
  obtain ⟨x2, g2, rfl⟩ := DataW.trod_bool Tryz.underlying4 e2
  simp only [List.cons.injEq, and_true] at g2
  subst g2
  obtain ⟨x3, g3, rfl⟩ := DataW.trod_bool Tryz.underlying4 e3
  simp only [List.cons.injEq, and_true] at g3
  subst g3
  exact ⟨x0, x1, x2, x3, rfl, rfl, w0, w1⟩
theorem list_dgc {α : Type} {l : List α} (h : l.length = 15) : ∃ c0 c1 c2 c3 c4 c5 c6 c7 c8 c9 c10 c11 c12 c13 c14, l = [c0, c1, c2, c3, c4, c5, c6, c7, c8, c9, c10, c11, c12, c13, c14] :=
  match l, h with
  | [c0, c1, c2, c3, c4, c5, c6, c7, c8, c9, c10, c11, c12, c13, c14], _ => ⟨c0, c1, c2, c3, c4, c5, c6, c7, c8, c9, c10, c11, c12, c13, c14, rfl⟩
theorem list_dgf {α : Type} {l : List α} (h : l.length = 12) : ∃ y0 y1 y2 y3 y4 y5 y6 y7 y8 y9 y10 y11, l = [y0, y1, y2, y3, y4, y5, y6, y7, y8, y9, y10, y11] :=
  match l, h with
  | [y0, y1, y2, y3, y4, y5, y6, y7, y8, y9, y10, y11], _ => ⟨y0, y1, y2, y3, y4, y5, y6, y7, y8, y9, y10, y11, rfl⟩
theorem op_dg {H : Type} {enc : TypeId × Value → H} {w : World} {base : Nat} {spare : Nat → Bool} {held : Bool} {fuel : Nat} {cs : List Value} {y : DataW H × List MemPlace} (h : DataW.trod enc Tryz.prog w base spare held fuel 27 cs = some y) :
    ∃ (x0 : Int) (x1 : ByteArray) (x2 : Int) (x3 : ByteArray) (x4 : ByteArray) (x5 : Int) (x6 : Int) (x7 : ByteArray) (x8 : Int) (x9 : Int) (x10 : Int) (x11 : Bool) (x12 : Bool) (x13 : ByteArray) (x14 : ByteArray), cs = [.int .i64 x0, .string x1, .int .u64 x2, .string x3, .string x4, .int .u64 x5, .int .i64 x6, .string x7, .int .u64 x8, .int .i64 x9, .int .i64 x10, .bool x11, .bool x12, .string x13, .string x14] ∧ y = (.agg [.lit (.int .i64 x0), .lit (.string x1.data.toList), .lit (.int .u64 x2), .lit (.string x3.data.toList), .lit (.string x4.data.toList), .lit (.int .u64 x5), .lit (.int .i64 x6), .lit (.string x7.data.toList), .lit (.int .u64 x8), .agg [.lit (.int .i64 x9), .lit (.int .i64 x10), .lit (.bool x11), .lit (.bool x12)], .lit (.string x13.data.toList), .lit (.string x14.data.toList)], []) ∧ (Lit.int .i64 x0).wf = true ∧ x1.size ≤ maxLen ∧ (Lit.int .u64 x2).wf = true ∧ x3.size ≤ maxLen ∧ x4.size ≤ maxLen ∧ (Lit.int .u64 x5).wf = true ∧ (Lit.int .i64 x6).wf = true ∧ x7.size ≤ maxLen ∧ (Lit.int .u64 x8).wf = true ∧ (Lit.int .i64 x9).wf = true ∧ (Lit.int .i64 x10).wf = true ∧ x13.size ≤ maxLen ∧ x14.size ≤ maxLen := by
  obtain ⟨xs, n, rfl, rfl, hl, hlen, hf⟩ := DataW.trod_struct Tryz.underlying27 h
  rw [show Tryz.prog.cellsOf 27 = 15 from by kernel_rfl] at hl
  obtain ⟨c0, c1, c2, c3, c4, c5, c6, c7, c8, c9, c10, c11, c12, c13, c14, rfl⟩ := list_dgc hl
  obtain ⟨y0, y1, y2, y3, y4, y5, y6, y7, y8, y9, y10, y11, rfl⟩ := list_dgf hlen
  have e0 : DataW.trod enc Tryz.prog w base spare held n 3 [c0] = some y0 := by
    have e : DataW.trod enc Tryz.prog w base spare held n 3 (List.take (Tryz.prog.cellsOf 3) (List.drop 0 [c0, c1, c2, c3, c4, c5, c6, c7, c8, c9, c10, c11, c12, c13, c14])) = some y0 := hf 0 _ rfl
    rw [show Tryz.prog.cellsOf 3 = 1 from by kernel_rfl] at e
    exact e
  have e1 : DataW.trod enc Tryz.prog w base spare held n 9 [c1] = some y1 := by
    have e : DataW.trod enc Tryz.prog w base spare held n 9 (List.take (Tryz.prog.cellsOf 9) (List.drop 1 [c0, c1, c2, c3, c4, c5, c6, c7, c8, c9, c10, c11, c12, c13, c14])) = some y1 := hf 1 _ rfl
    rw [show Tryz.prog.cellsOf 9 = 1 from by kernel_rfl] at e
    exact e
  have e2 : DataW.trod enc Tryz.prog w base spare held n 23 [c2] = some y2 := by
    have e : DataW.trod enc Tryz.prog w base spare held n 23 (List.take (Tryz.prog.cellsOf 23) (List.drop 2 [c0, c1, c2, c3, c4, c5, c6, c7, c8, c9, c10, c11, c12, c13, c14])) = some y2 := hf 2 _ rfl
    rw [show Tryz.prog.cellsOf 23 = 1 from by kernel_rfl] at e
    exact e
  have e3 : DataW.trod enc Tryz.prog w base spare held n 9 [c3] = some y3 := by
    have e : DataW.trod enc Tryz.prog w base spare held n 9 (List.take (Tryz.prog.cellsOf 9) (List.drop 3 [c0, c1, c2, c3, c4, c5, c6, c7, c8, c9, c10, c11, c12, c13, c14])) = some y3 := hf 3 _ rfl
    rw [show Tryz.prog.cellsOf 9 = 1 from by kernel_rfl] at e
    exact e
  have e4 : DataW.trod enc Tryz.prog w base spare held n 9 [c4] = some y4 := by
    have e : DataW.trod enc Tryz.prog w base spare held n 9 (List.take (Tryz.prog.cellsOf 9) (List.drop 4 [c0, c1, c2, c3, c4, c5, c6, c7, c8, c9, c10, c11, c12, c13, c14])) = some y4 := hf 4 _ rfl
    rw [show Tryz.prog.cellsOf 9 = 1 from by kernel_rfl] at e
    exact e
  have e5 : DataW.trod enc Tryz.prog w base spare held n 23 [c5] = some y5 := by
    have e : DataW.trod enc Tryz.prog w base spare held n 23 (List.take (Tryz.prog.cellsOf 23) (List.drop 5 [c0, c1, c2, c3, c4, c5, c6, c7, c8, c9, c10, c11, c12, c13, c14])) = some y5 := hf 5 _ rfl
    rw [show Tryz.prog.cellsOf 23 = 1 from by kernel_rfl] at e
    exact e
  have e6 : DataW.trod enc Tryz.prog w base spare held n 3 [c6] = some y6 := by
    have e : DataW.trod enc Tryz.prog w base spare held n 3 (List.take (Tryz.prog.cellsOf 3) (List.drop 6 [c0, c1, c2, c3, c4, c5, c6, c7, c8, c9, c10, c11, c12, c13, c14])) = some y6 := hf 6 _ rfl
    rw [show Tryz.prog.cellsOf 3 = 1 from by kernel_rfl] at e
    exact e
  have e7 : DataW.trod enc Tryz.prog w base spare held n 9 [c7] = some y7 := by
    have e : DataW.trod enc Tryz.prog w base spare held n 9 (List.take (Tryz.prog.cellsOf 9) (List.drop 7 [c0, c1, c2, c3, c4, c5, c6, c7, c8, c9, c10, c11, c12, c13, c14])) = some y7 := hf 7 _ rfl
    rw [show Tryz.prog.cellsOf 9 = 1 from by kernel_rfl] at e
    exact e
  have e8 : DataW.trod enc Tryz.prog w base spare held n 23 [c8] = some y8 := by
    have e : DataW.trod enc Tryz.prog w base spare held n 23 (List.take (Tryz.prog.cellsOf 23) (List.drop 8 [c0, c1, c2, c3, c4, c5, c6, c7, c8, c9, c10, c11, c12, c13, c14])) = some y8 := hf 8 _ rfl
    rw [show Tryz.prog.cellsOf 23 = 1 from by kernel_rfl] at e
    exact e
  have e9 : DataW.trod enc Tryz.prog w base spare held n 25 [c9, c10, c11, c12] = some y9 := by
    have e : DataW.trod enc Tryz.prog w base spare held n 25 (List.take (Tryz.prog.cellsOf 25) (List.drop 9 [c0, c1, c2, c3, c4, c5, c6, c7, c8, c9, c10, c11, c12, c13, c14])) = some y9 := hf 9 _ rfl
    rw [show Tryz.prog.cellsOf 25 = 4 from by kernel_rfl] at e
    exact e
  have e10 : DataW.trod enc Tryz.prog w base spare held n 9 [c13] = some y10 := by
    have e : DataW.trod enc Tryz.prog w base spare held n 9 (List.take (Tryz.prog.cellsOf 9) (List.drop 13 [c0, c1, c2, c3, c4, c5, c6, c7, c8, c9, c10, c11, c12, c13, c14])) = some y10 := hf 10 _ rfl
    rw [show Tryz.prog.cellsOf 9 = 1 from by kernel_rfl] at e
    exact e
  have e11 : DataW.trod enc Tryz.prog w base spare held n 9 [c14] = some y11 := by
    have e : DataW.trod enc Tryz.prog w base spare held n 9 (List.take (Tryz.prog.cellsOf 9) (List.drop 14 [c0, c1, c2, c3, c4, c5, c6, c7, c8, c9, c10, c11, c12, c13, c14])) = some y11 := hf 11 _ rfl
    rw [show Tryz.prog.cellsOf 9 = 1 from by kernel_rfl] at e
    exact e
  clear h hf hl hlen
  obtain ⟨x0, g0, rfl, w0⟩ := DataW.trod_int Tryz.underlying3 e0
  simp only [List.cons.injEq, and_true] at g0
  subst g0
  obtain ⟨x1, g1, rfl, w1⟩ := DataW.trod_string Tryz.underlying9 e1
  simp only [List.cons.injEq, and_true] at g1
  subst g1
  obtain ⟨x2, g2, rfl, w2⟩ := DataW.trod_int Tryz.underlying23 e2
  simp only [List.cons.injEq, and_true] at g2
  subst g2
  obtain ⟨x3, g3, rfl, w3⟩ := DataW.trod_string Tryz.underlying9 e3
  simp only [List.cons.injEq, and_true] at g3
  subst g3
  obtain ⟨x4, g4, rfl, w4⟩ := DataW.trod_string Tryz.underlying9 e4
  simp only [List.cons.injEq, and_true] at g4
  subst g4
  obtain ⟨x5, g5, rfl, w5⟩ := DataW.trod_int Tryz.underlying23 e5
  simp only [List.cons.injEq, and_true] at g5
  subst g5
  obtain ⟨x6, g6, rfl, w6⟩ := DataW.trod_int Tryz.underlying3 e6
  simp only [List.cons.injEq, and_true] at g6
  subst g6
  obtain ⟨x7, g7, rfl, w7⟩ := DataW.trod_string Tryz.underlying9 e7
  simp only [List.cons.injEq, and_true] at g7
  subst g7
  obtain ⟨x8, g8, rfl, w8⟩ := DataW.trod_int Tryz.underlying23 e8
  simp only [List.cons.injEq, and_true] at g8
  subst g8
  obtain ⟨x9, x10, x11, x12, g9, rfl, w9, w10⟩ := op_cmd e9
  simp only [List.cons.injEq, and_true] at g9
  obtain ⟨rfl, rfl, rfl, rfl⟩ := g9
  obtain ⟨x13, g10, rfl, w13⟩ := DataW.trod_string Tryz.underlying9 e10
  simp only [List.cons.injEq, and_true] at g10
  subst g10
  obtain ⟨x14, g11, rfl, w14⟩ := DataW.trod_string Tryz.underlying9 e11
  simp only [List.cons.injEq, and_true] at g11
  subst g11
  exact ⟨x0, x1, x2, x3, x4, x5, x6, x7, x8, x9, x10, x11, x12, x13, x14, rfl, rfl, w0, w1, w2, w3, w4, w5, w6, w7, w8, w9, w10, w13, w14⟩
theorem wf_u64 {n : Int} (h : (Lit.int .u64 n).wf = true) : 0 ≤ n ∧ n < 18446744073709551616 := by
  unfold Lit.wf at h
  rw [Bool.and_eq_true, decide_eq_true_eq, decide_eq_true_eq] at h
  exact ⟨h.1, Int.lt_of_le_of_lt h.2 (by decide)⟩
theorem wf_i64 {n : Int} (h : (Lit.int .i64 n).wf = true) : -9223372036854775808 ≤ n ∧ n ≤ 9223372036854775807 := by
  unfold Lit.wf at h
  rw [Bool.and_eq_true, decide_eq_true_eq, decide_eq_true_eq] at h
  exact h
/-- The datum that a datagram reads as. -/
def Dg.dat (H : Type) (d : Dg) : DataW H := .agg [.lit (.int .i64 d.kind), .lit (.string d.nonce.data.toList), .lit (.int .u64 (d.epoch : Int)), .lit (.string d.cookie.data.toList), .lit (.string d.name.data.toList), .lit (.int .u64 (d.session : Int)), .lit (.int .i64 d.player), .lit (.string d.salt.data.toList), .lit (.int .u64 (d.seq : Int)), .agg [.lit (.int .i64 d.thr), .lit (.int .i64 d.trn), .lit (.bool d.fire), .lit (.bool d.boost)], .lit (.string d.data.data.toList), .lit (.string d.tag.data.toList)]
def Dg.small (d : Dg) (m : Nat) : Prop := d.nonce.size + d.cookie.size + d.name.size + d.salt.size + d.data.size + d.tag.size ≤ m
structure Dg.nums (d : Dg) : Prop where
  kind : -9223372036854775808 ≤ d.kind ∧ d.kind ≤ 9223372036854775807
  player : -9223372036854775808 ≤ d.player ∧ d.player ≤ 9223372036854775807
  thr : -9223372036854775808 ≤ d.thr ∧ d.thr ≤ 9223372036854775807
  trn : -9223372036854775808 ≤ d.trn ∧ d.trn ≤ 9223372036854775807
  u : d.epoch < 18446744073709551616 ∧ d.session < 18446744073709551616 ∧ d.seq < 18446744073709551616
theorem Dg.ok_of {d : Dg} (h : d.nums) (hs : d.small 1048576) : d.ok := by
  have h1 := h.player
  have h2 := h.u
  unfold Dg.small at hs
  unfold Dg.ok
  refine ⟨h2, h1, ?_, ?_, ?_, ?_, ?_, ?_⟩ <;> omega
set_option maxRecDepth 100000 in
theorem open_dg {H : Type} {enc : TypeId × Value → H} {w : World} {base b0 : Nat} {spare : Nat → Bool} {held : Bool} {r : Reach} {v : Value} {dat : DataW H} {p : List MemPlace} (hv : Value.okWide Tryz.prog w r b0 27 v) (h : DataW.Trod enc Tryz.prog w base spare held 27 v dat p) :
    ∃ d : Dg, v = .agg d.cells.toArray ∧ dat = d.dat H ∧ p = [] ∧ d.nums := by
  obtain ⟨cs, rfl, hsz⟩ := okWide_struct Tryz.underlying27 hv
  obtain ⟨fuel, hf⟩ := h
  obtain ⟨x0, x1, x2, x3, x4, x5, x6, x7, x8, x9, x10, x11, x12, x13, x14, hc, hy, w0, w1, w2, w3, w4, w5, w6, w7, w8, w9, w10, _⟩ := op_dg hf
  simp only [Prod.mk.injEq] at hy
  have u2 := wf_u64 w2
  have u5 := wf_u64 w5
  have u8 := wf_u64 w8
  obtain ⟨n2, rfl⟩ : ∃ n : Nat, x2 = (n : Int) := ⟨x2.toNat, by omega⟩
  obtain ⟨n5, rfl⟩ : ∃ n : Nat, x5 = (n : Int) := ⟨x5.toNat, by omega⟩
  obtain ⟨n8, rfl⟩ : ∃ n : Nat, x8 = (n : Int) := ⟨x8.toNat, by omega⟩
  refine ⟨⟨x0, x1, n2, x3, x4, n5, x6, x7, n8, x9, x10, x11, x12, x13, x14⟩, ?_, hy.1, hy.2, ⟨wf_i64 w0, wf_i64 w6, wf_i64 w9, wf_i64 w10, by simp only; omega⟩⟩
  have hc' : cs.toList = Dg.cells ⟨x0, x1, n2, x3, x4, n5, x6, x7, n8, x9, x10, x11, x12, x13, x14⟩ := hc
  rw [← hc']
end Go.Proofs.YtniabkphbnimaaaGreatDoor.Sh
namespace Go.Proofs.YtniabkphbnimaaaGreatDoor.Sh
open Go Go.RowKit Go.Maps Go.Proofs.YtniabkphbnimaaaGreatDoorW.PrintWords Go.Proofs.YtniabkphbnimaaaGreatDoorW.PrintLast Go.Proofs.YtniabkphbnimaaaGreatDoor.Bs
/-- Just the fields that the kind has. -/
def onlyD (d : Dg) : Dg :=
  { Dg.zero with
    kind := d.kind
    nonce := if d.kind ≤ 4 then d.nonce else ⟨#[]⟩
    epoch := if d.kind = 2 ∨ d.kind = 3 then d.epoch else 0
    cookie := if d.kind = 2 ∨ d.kind = 3 then d.cookie else ⟨#[]⟩
    tag := if 3 ≤ d.kind then d.tag else ⟨#[]⟩
    session := if 4 ≤ d.kind then d.session else 0
    seq := if 5 ≤ d.kind then d.seq else 0
    name := if d.kind = 3 then d.name else ⟨#[]⟩
    player := if d.kind = 4 then d.player else 0
    salt := if d.kind = 4 then d.salt else ⟨#[]⟩
    thr := if d.kind = 5 then d.thr else 0
    trn := if d.kind = 5 then d.trn else 0
    fire := if d.kind = 5 then d.fire else false
    boost := if d.kind = 5 then d.boost else false
    data := if d.kind = 6 then d.data else ⟨#[]⟩ }
theorem u8n (n : Nat) : (UInt8.ofNat n).toNat = n % 256 := by simp
theorem num_len8 (x : Nat) (h : x < 18446744073709551616) : num (len8 x) = x := by
  have e : ∀ a b c d e f g i : UInt8, num [a, b, c, d, e, f, g, i] = ((((((a.toNat * 256 + b.toNat) * 256 + c.toNat) * 256 + d.toNat) * 256 + e.toNat) * 256 + f.toNat) * 256 + g.toNat) * 256 + i.toNat := by
    intro a b c d e f g i
    have h0 := num_snoc [] a
    have h1 := num_snoc [a] b
    have h2 := num_snoc [a, b] c
    have h3 := num_snoc [a, b, c] d
    have h4 := num_snoc [a, b, c, d] e
    have h5 := num_snoc [a, b, c, d, e] f
    have h6 := num_snoc [a, b, c, d, e, f] g
    have h7 := num_snoc [a, b, c, d, e, f, g] i
    simp only [List.nil_append, List.cons_append] at h0 h1 h2 h3 h4 h5 h6 h7
    have hz : num [] = 0 := rfl
    rw [h7, h6, h5, h4, h3, h2, h1, h0, hz]
    omega
  unfold len8
  rw [e]
  simp only [Nat.shiftRight_eq_div_pow, u8n]
  omega
theorem sbyte_sg (x : Int) (h : -128 ≤ x ∧ x ≤ 127) : sbyte (sg x) = x := by
  unfold sbyte sg
  rw [u8n]
  have : (x % 256).toNat % 256 = (x % 256).toNat := by omega
  rw [this]
  split <;> omega
theorem bits_flags (f b : Bool) : bit0 (UInt8.ofNat (flags f b)) = f ∧ bit1 (UInt8.ofNat (flags f b)) = b ∧ (UInt8.ofNat (flags f b)).toNat ≤ 3 := by
  cases f <;> cases b <;> exact ⟨rfl, rfl, by decide⟩
section
variable (d : Dg) (bad : Bool) (x r : List UInt8)
theorem tk (n : Nat) (h : x.length = n) : (x ++ r).take n = x ∧ (x ++ r).drop n = r := by
  subst h
  exact ⟨List.take_left, List.drop_left⟩
theorem g_nonce (h : x.length = 16) : getF .nonce (d, bad, x ++ r) = some ({ d with nonce := str x }, bad, r) := by
  have e := tk x r 16 h
  show (if 16 ≤ (x ++ r).length then some (({ d with nonce := str ((x ++ r).take 16) } : Dg), bad, (x ++ r).drop 16) else none) = _
  rw [if_pos (by rw [List.length_append]; omega), e.1, e.2]
theorem g_salt (h : x.length = 16) : getF .salt (d, bad, x ++ r) = some ({ d with salt := str x }, bad, r) := by
  have e := tk x r 16 h
  show (if 16 ≤ (x ++ r).length then some (({ d with salt := str ((x ++ r).take 16) } : Dg), bad, (x ++ r).drop 16) else none) = _
  rw [if_pos (by rw [List.length_append]; omega), e.1, e.2]
theorem g_cookie (h : x.length = 32) : getF .cookie (d, bad, x ++ r) = some ({ d with cookie := str x }, bad, r) := by
  have e := tk x r 32 h
  show (if 32 ≤ (x ++ r).length then some (({ d with cookie := str ((x ++ r).take 32) } : Dg), bad, (x ++ r).drop 32) else none) = _
  rw [if_pos (by rw [List.length_append]; omega), e.1, e.2]
theorem g_tag (h : x.length = 32) : getF .tag (d, bad, x) = some ({ d with tag := str x }, bad, []) := by
  show (if 32 ≤ x.length then some (({ d with tag := str (x.take 32) } : Dg), bad, x.drop 32) else none) = _
  rw [if_pos (by omega), List.take_of_length_le (by omega), List.drop_of_length_le (by omega)]
theorem g_epoch (n : Nat) (hn : n < 18446744073709551616) : getF .epoch (d, bad, len8 n ++ r) = some ({ d with epoch := n }, bad, r) := by
  have e := tk (len8 n) r 8 rfl
  show (if 8 ≤ (len8 n ++ r).length then some (({ d with epoch := num ((len8 n ++ r).take 8) } : Dg), bad, (len8 n ++ r).drop 8) else none) = _
  rw [if_pos (by rw [List.length_append]; show 8 ≤ 8 + _; omega), e.1, e.2, num_len8 n hn]
theorem g_session (n : Nat) (hn : n < 18446744073709551616) : getF .session (d, bad, len8 n ++ r) = some ({ d with session := n }, bad, r) := by
  have e := tk (len8 n) r 8 rfl
  show (if 8 ≤ (len8 n ++ r).length then some (({ d with session := num ((len8 n ++ r).take 8) } : Dg), bad, (len8 n ++ r).drop 8) else none) = _
  rw [if_pos (by rw [List.length_append]; show 8 ≤ 8 + _; omega), e.1, e.2, num_len8 n hn]
theorem g_seq (n : Nat) (hn : n < 18446744073709551616) : getF .seq (d, bad, len8 n ++ r) = some ({ d with seq := n }, bad, r) := by
  have e := tk (len8 n) r 8 rfl
  show (if 8 ≤ (len8 n ++ r).length then some (({ d with seq := num ((len8 n ++ r).take 8) } : Dg), bad, (len8 n ++ r).drop 8) else none) = _
  rw [if_pos (by rw [List.length_append]; show 8 ≤ 8 + _; omega), e.1, e.2, num_len8 n hn]
theorem g_name (h : x.length ≤ 255) : getF .name (d, bad, UInt8.ofNat x.length :: (x ++ r)) = some ({ d with name := str x }, bad, r) := by
  have eb : (UInt8.ofNat x.length).toNat = x.length := by rw [u8n]; omega
  show (if (UInt8.ofNat x.length).toNat ≤ (x ++ r).length then some (({ d with name := str ((x ++ r).take (UInt8.ofNat x.length).toNat) } : Dg), bad, (x ++ r).drop (UInt8.ofNat x.length).toNat) else none) = _
  rw [eb, if_pos (by rw [List.length_append]; omega), (tk x r _ rfl).1, (tk x r _ rfl).2]
theorem g_data (h : r.length = 32) : getF .data (d, bad, x ++ r) = some ({ d with data := str x }, bad, r) := by
  have el : (x ++ r).length - 32 = x.length := by rw [List.length_append]; omega
  show (if 32 ≤ (x ++ r).length then some (({ d with data := str ((x ++ r).take ((x ++ r).length - 32)) } : Dg), bad, (x ++ r).drop ((x ++ r).length - 32)) else none) = _
  rw [if_pos (by rw [List.length_append]; omega), el, (tk x r _ rfl).1, (tk x r _ rfl).2]
end
theorem dec_encB (d : Dg) (hk : 1 ≤ d.kind ∧ d.kind ≤ 7) (hf : fitP d) (hn : d.epoch < 18446744073709551616 ∧ d.session < 18446744073709551616 ∧ d.seq < 18446744073709551616) (hl : (encB d).length ≤ 1200) : dec (encB d) = (onlyD d, 0) := by
  obtain ⟨kind, nonce, epoch, cookie, name, session, player, salt, seq, thr, trn, fire, boost, data, tag⟩ := d
  unfold fitP at hf
  simp only at hk hf hn
  have k7 : kind = 1 ∨ kind = 2 ∨ kind = 3 ∨ kind = 4 ∨ kind = 5 ∨ kind = 6 ∨ kind = 7 := by omega
  rcases k7 with rfl | rfl | rfl | rfl | rfl | rfl | rfl
  · have e1 : (bl nonce).length = 16 := by rw [bl_len]; omega
    refine (dec_at 1 _ hl (by decide)).trans ?_
    show fin (getAll (fieldsOf 1) (dk 1, false, bl nonce ++ List.replicate 76 0)) = _
    rw [dec1, if_pos (by rw [List.length_append, e1, List.length_replicate]), (tk _ _ 16 e1).1, (tk _ _ 16 e1).2, if_pos (fun b hb => (List.mem_replicate.mp hb).2)]
    rfl
  · have e1 : (bl nonce).length = 16 := by rw [bl_len]; omega
    have e2 : (bl cookie).length = 32 := by rw [bl_len]; omega
    refine (dec_at 2 _ hl (by decide)).trans ?_
    show fin (getAll [.nonce, .epoch, .cookie] (dk 2, false, bl nonce ++ len8 epoch ++ bl cookie)) = _
    rw [List.append_assoc, getAll_some (g_nonce _ _ _ _ e1), getAll_some (g_epoch _ _ _ _ hn.1), ← List.append_nil (bl cookie), getAll_some (g_cookie _ _ _ _ e2)]
    rfl
  · have e1 : (bl nonce).length = 16 := by rw [bl_len]; omega
    have e2 : (bl cookie).length = 32 := by rw [bl_len]; omega
    have e3 : (bl name).length ≤ 255 := by rw [bl_len]; omega
    have e4 : (bl tag).length = 32 := by rw [bl_len]; omega
    refine (dec_at 3 _ hl (by decide)).trans ?_
    show fin (getAll [.nonce, .epoch, .cookie, .name, .tag] (dk 3, false, bl nonce ++ len8 epoch ++ bl cookie ++ (UInt8.ofNat name.size :: bl name) ++ bl tag)) = _
    rw [List.append_assoc, List.append_assoc, List.append_assoc, getAll_some (g_nonce _ _ _ _ e1), getAll_some (g_epoch _ _ _ _ hn.1), getAll_some (g_cookie _ _ _ _ e2), ← bl_len name, List.cons_append, getAll_some (g_name _ _ _ _ e3), getAll_some (g_tag _ _ _ e4)]
    rfl
  · have e1 : (bl nonce).length = 16 := by rw [bl_len]; omega
    have e2 : (bl salt).length = 16 := by rw [bl_len]; omega
    have e4 : (bl tag).length = 32 := by rw [bl_len]; omega
    have e5 : ((UInt8.ofNat player.toNat).toNat : Int) = player := by rw [u8n]; omega
    refine (dec_at 4 _ hl (by decide)).trans ?_
    show fin (getAll [.nonce, .session, .player, .salt, .tag] (dk 4, false, bl nonce ++ len8 session ++ [UInt8.ofNat player.toNat] ++ bl salt ++ bl tag)) = _
    rw [List.append_assoc, List.append_assoc, List.append_assoc, getAll_some (g_nonce _ _ _ _ e1), getAll_some (g_session _ _ _ _ hn.2.1)]
    have e6 : ∀ (D : Dg) (t : List UInt8), getF .player (D, false, [UInt8.ofNat player.toNat] ++ t) = some ({ D with player := player }, false, t) := fun D t => by
      show some (({ D with player := ((UInt8.ofNat player.toNat).toNat : Int) } : Dg), false, t) = _
      rw [e5]
    rw [getAll_some (e6 _ _), getAll_some (g_salt _ _ _ _ e2), getAll_some (g_tag _ _ _ e4)]
    rfl
  · have e4 : (bl tag).length = 32 := by rw [bl_len]; omega
    have e5 := sbyte_sg thr (by omega)
    have e6 := sbyte_sg trn (by omega)
    have e7 := bits_flags fire boost
    refine (dec_at 5 _ hl (by decide)).trans ?_
    show fin (getAll [.session, .seq, .command, .tag] (dk 5, false, len8 session ++ len8 seq ++ [sg thr, sg trn, UInt8.ofNat (flags fire boost)] ++ bl tag)) = _
    rw [List.append_assoc, List.append_assoc, getAll_some (g_session _ _ _ _ hn.2.1), getAll_some (g_seq _ _ _ _ hn.2.2)]
    have e8 : ∀ (D : Dg) (t : List UInt8), getF .command (D, false, [sg thr, sg trn, UInt8.ofNat (flags fire boost)] ++ t) = some ({ D with thr := thr, trn := trn, fire := fire, boost := boost }, false, t) := fun D t => by
      show some (({ D with thr := sbyte (sg thr), trn := sbyte (sg trn), fire := bit0 (UInt8.ofNat (flags fire boost)), boost := bit1 (UInt8.ofNat (flags fire boost)) } : Dg), decide (3 < (UInt8.ofNat (flags fire boost)).toNat), t) = _
      rw [e5, e6, e7.1, e7.2.1, decide_eq_false (by omega)]
    rw [getAll_some (e8 _ _), getAll_some (g_tag _ _ _ e4)]
    rfl
  · have e4 : (bl tag).length = 32 := by rw [bl_len]; omega
    refine (dec_at 6 _ hl (by decide)).trans ?_
    show fin (getAll [.session, .seq, .data, .tag] (dk 6, false, len8 session ++ len8 seq ++ bl data ++ bl tag)) = _
    rw [List.append_assoc, List.append_assoc, getAll_some (g_session _ _ _ _ hn.2.1), getAll_some (g_seq _ _ _ _ hn.2.2), getAll_some (g_data _ _ _ _ e4), getAll_some (g_tag _ _ _ e4)]
    rfl
  · have e4 : (bl tag).length = 32 := by rw [bl_len]; omega
    refine (dec_at 7 _ hl (by decide)).trans ?_
    show fin (getAll [.session, .seq, .tag] (dk 7, false, len8 session ++ len8 seq ++ bl tag)) = _
    rw [List.append_assoc, getAll_some (g_session _ _ _ _ hn.2.1), getAll_some (g_seq _ _ _ _ hn.2.2), getAll_some (g_tag _ _ _ e4)]
    rfl
theorem enc_ok (d : Dg) (h : (enc d).2 = 0) : 1 ≤ d.kind ∧ d.kind ≤ 7 ∧ fitP d ∧ (encB d).length ≤ 1200 ∧ enc d = (str (encB d), 0) := by
  by_cases hk : 1 ≤ d.kind ∧ d.kind ≤ 7
  · rw [enc_k d hk] at h ⊢
    unfold encK at h ⊢
    by_cases hf : fitP d
    · rw [if_pos hf] at h ⊢
      by_cases hl : 1200 < (encB d).length
      · rw [if_pos hl] at h; cases h
      · rw [if_neg hl]
        exact ⟨hk.1, hk.2, hf, by omega, rfl⟩
    · rw [if_neg hf] at h; cases h
  · unfold enc at h
    rw [if_neg hk] at h
    cases h
end Go.Proofs.YtniabkphbnimaaaGreatDoor.Sh
namespace Go.Proofs.YtniabkphbnimaaaGreatDoor.Sh
open Go Go.RowKit Go.Maps Go.Proofs.YtniabkphbnimaaaGreatDoorW.PrintWords Go.Proofs.YtniabkphbnimaaaGreatDoorW.PrintLast Go.Proofs.YtniabkphbnimaaaGreatDoor.Bs
theorem results_only (tmps : Array Value) (w : World) (G : Nat) (d : Dg) (h2 : tmps.getD 2 undef = .pointer (some ⟨G, 0, none⟩)) (hG : w.heap[G]? = some (.cells d.cells.toArray 27 (0, 0))) :
    (results Tryz.f20 tmps).run Tryz.prog w = .ok (.agg d.cells.toArray) w := by
  have hr : (Tryz.f20).results = #[.cell 2 27] := rfl
  have p2 : tmps[2]?.getD undef = .pointer (some ⟨G, 0, none⟩) := by simpa using h2
  have hl := run_loadVar_row (P := Tryz.prog) w G 27 27 d.cells.toArray (0, 0) _ hG Tryz.underlying27 rfl (by kernel_rfl)
  simp [results, hr, p2, asAddr, hl]
structure Tri (w0 w : World) (D G O : Nat) (d : Dg) (cur : List Value) : Prop where
  hD : w.heap[D]? = some (.cells d.cells.toArray 27 (0, 0))
  hG : w.heap[G]? = some (.cells Dg.zero.cells.toArray 27 (0, 0))
  hO : w.heap[O]? = some (.cells cur.toArray 27 (0, 0))
  ne : D ≠ O ∧ G ≠ O ∧ w0.heap.size ≤ O ∧ w0.heap.size ≤ G
  hB : Below w0.heap.size w0 w
theorem Tri.put {w0 w w' : World} {D G O : Nat} {d : Dg} {cur cur' : List Value} (h : Tri w0 w D G O d cur) (hO : w'.heap[O]? = some (.cells cur'.toArray 27 (0, 0))) (hm : Mv w w' (fun k => k = O)) : Tri w0 w' D G O d cur' :=
  ⟨hm.blk h.hD h.ne.1, hm.blk h.hG h.ne.2.1, hO, h.ne, toBelow' h.hB hm h.ne.2.2.1⟩
set_option maxHeartbeats 8000000 in
set_option maxRecDepth 100000 in
theorem only_1 (nonce : ByteArray) (epoch : Nat) (cookie name : ByteArray) (session : Nat) (player : Int) (salt : ByteArray) (seq : Nat) (thr trn : Int) (fire boost : Bool) (data tag : ByteArray) (w : World) : Calls Tryz.prog 20 #[.agg (⟨1, nonce, epoch, cookie, name, session, player, salt, seq, thr, trn, fire, boost, data, tag⟩ : Dg).cells.toArray] w fun e w' => e = .returned (.agg (onlyD (⟨1, nonce, epoch, cookie, name, session, player, salt, seq, thr, trn, fire, boost, data, tag⟩ : Dg)).cells.toArray) ∧ Below w.heap.size w w' := by
  have MARK : True := trivial
  go_enter Tryz.func20, Tryz.ntmps20
  go_wp2_with (first
    | ((with_reducible first | refine at_box_ ?_ | refine at_box2_ ?_); refine wpList_box_v rfl 27 _ rfl (⟨1, nonce, epoch, cookie, name, session, player, salt, seq, thr, trn, fire, boost, data, tag⟩ : Dg).cells rfl (by kernel_rfl) ?_; intro D w1 eD hD1 hb1 hz1; have n1_ := Aside0.mk (hD1.out); have n2_ := Aside0.mk (hb1.out); have n3_ := Aside0.mk (eD.out); clear hD1 hb1 eD)
    | ((with_reducible first | refine at_alloc_ ?_ | refine at_alloc2_ ?_); clear MARK; have MARK2 : True := trivial; refine wpList_alloc_v rfl 27 rfl Dg.zero.cells (by kernel_rfl) ?_; intro G w2 eG hG2 hb2 hz2; have m1_ := Aside0.mk (hG2.out); have m2_ := Aside0.mk (n2_.out.trans (hb2.out.mono n2_.out.size)); have m3_ := Aside0.mk (eG.out); have m4_ := Aside0.mk ((hb2.out.block D (blk_lt n1_.out)).trans n1_.out); clear hG2 hb2 eG)
    | ((with_reducible first | refine at_alloc_ ?_ | refine at_alloc2_ ?_); clear MARK2; refine wpList_alloc_v rfl 27 rfl Dg.zero.cells (by kernel_rfl) ?_; intro O w3 eO hO3 hb3 hz3; have HT := Aside0.mk (show Tri w w3 D G O (⟨1, nonce, epoch, cookie, name, session, player, salt, seq, thr, trn, fire, boost, data, tag⟩ : Dg) Dg.zero.cells from ⟨(hb3.out.block D (blk_lt m4_.out)).trans m4_.out, (hb3.out.block G (blk_lt m1_.out)).trans m1_.out, hO3.out, by have := eO.out; have := blk_lt m4_.out; have := blk_lt m1_.out; have := m2_.out.size; have := n2_.out.size; have := m3_.out; exact ⟨by omega, by omega, by omega, by omega⟩, m2_.out.trans (hb3.out.mono m2_.out.size)⟩); clear hO3 hb3 eO m1_ m2_ m3_ m4_ n1_ n2_ n3_; have cK := cell_of (i := 0) (v := .int .i64 1) HT.out.hD rfl)
    | ((with_reducible first | refine at_store_ ?_ | refine at_store2_ ?_); refine wpList_store_agg rfl 27 _ _ rfl O 0 rfl (dk 1).cells _ (by rfl) _ HT.out.hO (by exact Nat.le_refl 15) (fun v hv => one_cells hv) (by kernel_rfl) ?_; intro w4 hO4 hm4 hz4; rw [splice_all Dg.zero.cells (dk 1).cells rfl] at hO4; have n_ := Aside0.mk (HT.out.put hO4.out hm4.out); clear HT hO4 hm4 hz4; have HT := n_; clear n_; (try clear cK); have cK := cell_of (i := 0) (v := .int .i64 1) HT.out.hD rfl)
    | ((with_reducible first | refine at_load_ ?_ | refine at_load2_ ?_); refine wpList_load_one rfl 3 _ rfl D 0 rfl (⟨1, nonce, epoch, cookie, name, session, player, salt, seq, thr, trn, fire, boost, data, tag⟩ : Dg).cells _ _ m4_.out _ rfl _ Tryz.underlying3 rfl ?_)
    | ((with_reducible first | refine at_load_ ?_ | refine at_load2_ ?_); refine wpList_load_one rfl 3 _ rfl D 0 rfl (⟨1, nonce, epoch, cookie, name, session, player, salt, seq, thr, trn, fire, boost, data, tag⟩ : Dg).cells _ _ HT.out.hD _ rfl _ Tryz.underlying3 rfl ?_)
    | ((with_reducible first | refine at_load_ ?_ | refine at_load2_ ?_); refine wpList_load_one rfl 9 _ rfl D 1 rfl (⟨1, nonce, epoch, cookie, name, session, player, salt, seq, thr, trn, fire, boost, data, tag⟩ : Dg).cells _ _ HT.out.hD _ rfl _ Tryz.underlying9 rfl ?_)
    | ((with_reducible first | refine at_store_ ?_ | refine at_store2_ ?_); refine wpList_store_cell rfl 9 _ _ rfl O 1 rfl _ rfl _ _ HT.out.hO (by exact (by decide : 1 < 15)) rfl (by kernel_rfl) ?_; intro w4 hO4 hm4 hz4; have n_ := Aside0.mk (HT.out.put hO4.out hm4.out); clear HT hO4 hm4 hz4; have HT := n_; clear n_; (try clear cK); have cK := cell_of (i := 0) (v := .int .i64 1) HT.out.hD rfl)
    | ((with_reducible first | refine at_load_ ?_ | refine at_load2_ ?_); refine wpList_load_agg rfl 27 _ rfl O 0 rfl (onlyD (⟨1, nonce, epoch, cookie, name, session, player, salt, seq, thr, trn, fire, boost, data, tag⟩ : Dg)).cells (load_all HT.out.hO) _ Tryz.underlying27 rfl (by kernel_rfl) ?_)
    | ((with_reducible first | refine at_store_ ?_ | refine at_store2_ ?_); refine wpList_store_agg rfl 27 _ _ rfl G 0 rfl (onlyD (⟨1, nonce, epoch, cookie, name, session, player, salt, seq, thr, trn, fire, boost, data, tag⟩ : Dg)).cells Dg.zero.cells rfl _ HT.out.hG (by exact Nat.le_refl 15) (fun v hv => one_cells hv) (by kernel_rfl) ?_; intro w9 hG9 hm9 hz9; have HG9 := Aside0.mk (show w9.heap[G]? = some (.cells (onlyD (⟨1, nonce, epoch, cookie, name, session, player, salt, seq, thr, trn, fire, boost, data, tag⟩ : Dg)).cells.toArray 27 (0, 0)) from hG9.out); have HM9 := Aside0.mk (show Below w.heap.size w w9 from toBelow' HT.out.hB hm9.out HT.out.ne.2.2.2)))
  refine bodyPost_ret (results_only _ _ G (onlyD (⟨1, nonce, epoch, cookie, name, session, player, salt, seq, thr, trn, fire, boost, data, tag⟩ : Dg)) rfl HG9.out) rfl ⟨rfl, HM9.out⟩
set_option maxHeartbeats 8000000 in
set_option maxRecDepth 100000 in
theorem only_2 (nonce : ByteArray) (epoch : Nat) (cookie name : ByteArray) (session : Nat) (player : Int) (salt : ByteArray) (seq : Nat) (thr trn : Int) (fire boost : Bool) (data tag : ByteArray) (w : World) : Calls Tryz.prog 20 #[.agg (⟨2, nonce, epoch, cookie, name, session, player, salt, seq, thr, trn, fire, boost, data, tag⟩ : Dg).cells.toArray] w fun e w' => e = .returned (.agg (onlyD (⟨2, nonce, epoch, cookie, name, session, player, salt, seq, thr, trn, fire, boost, data, tag⟩ : Dg)).cells.toArray) ∧ Below w.heap.size w w' := by
  have MARK : True := trivial
  go_enter Tryz.func20, Tryz.ntmps20
  go_wp2_with (first
    | ((with_reducible first | refine at_box_ ?_ | refine at_box2_ ?_); refine wpList_box_v rfl 27 _ rfl (⟨2, nonce, epoch, cookie, name, session, player, salt, seq, thr, trn, fire, boost, data, tag⟩ : Dg).cells rfl (by kernel_rfl) ?_; intro D w1 eD hD1 hb1 hz1; have n1_ := Aside0.mk (hD1.out); have n2_ := Aside0.mk (hb1.out); have n3_ := Aside0.mk (eD.out); clear hD1 hb1 eD)
    | ((with_reducible first | refine at_alloc_ ?_ | refine at_alloc2_ ?_); clear MARK; have MARK2 : True := trivial; refine wpList_alloc_v rfl 27 rfl Dg.zero.cells (by kernel_rfl) ?_; intro G w2 eG hG2 hb2 hz2; have m1_ := Aside0.mk (hG2.out); have m2_ := Aside0.mk (n2_.out.trans (hb2.out.mono n2_.out.size)); have m3_ := Aside0.mk (eG.out); have m4_ := Aside0.mk ((hb2.out.block D (blk_lt n1_.out)).trans n1_.out); clear hG2 hb2 eG)
    | ((with_reducible first | refine at_alloc_ ?_ | refine at_alloc2_ ?_); clear MARK2; refine wpList_alloc_v rfl 27 rfl Dg.zero.cells (by kernel_rfl) ?_; intro O w3 eO hO3 hb3 hz3; have HT := Aside0.mk (show Tri w w3 D G O (⟨2, nonce, epoch, cookie, name, session, player, salt, seq, thr, trn, fire, boost, data, tag⟩ : Dg) Dg.zero.cells from ⟨(hb3.out.block D (blk_lt m4_.out)).trans m4_.out, (hb3.out.block G (blk_lt m1_.out)).trans m1_.out, hO3.out, by have := eO.out; have := blk_lt m4_.out; have := blk_lt m1_.out; have := m2_.out.size; have := n2_.out.size; have := m3_.out; exact ⟨by omega, by omega, by omega, by omega⟩, m2_.out.trans (hb3.out.mono m2_.out.size)⟩); clear hO3 hb3 eO m1_ m2_ m3_ m4_ n1_ n2_ n3_; have cK := cell_of (i := 0) (v := .int .i64 2) HT.out.hD rfl)
    | ((with_reducible first | refine at_store_ ?_ | refine at_store2_ ?_); refine wpList_store_agg rfl 27 _ _ rfl O 0 rfl (dk 2).cells _ (by rfl) _ HT.out.hO (by exact Nat.le_refl 15) (fun v hv => one_cells hv) (by kernel_rfl) ?_; intro w4 hO4 hm4 hz4; rw [splice_all Dg.zero.cells (dk 2).cells rfl] at hO4; have n_ := Aside0.mk (HT.out.put hO4.out hm4.out); clear HT hO4 hm4 hz4; have HT := n_; clear n_; (try clear cK); have cK := cell_of (i := 0) (v := .int .i64 2) HT.out.hD rfl)
    | ((with_reducible first | refine at_load_ ?_ | refine at_load2_ ?_); refine wpList_load_one rfl 3 _ rfl D 0 rfl (⟨2, nonce, epoch, cookie, name, session, player, salt, seq, thr, trn, fire, boost, data, tag⟩ : Dg).cells _ _ m4_.out _ rfl _ Tryz.underlying3 rfl ?_)
    | ((with_reducible first | refine at_load_ ?_ | refine at_load2_ ?_); refine wpList_load_one rfl 3 _ rfl D 0 rfl (⟨2, nonce, epoch, cookie, name, session, player, salt, seq, thr, trn, fire, boost, data, tag⟩ : Dg).cells _ _ HT.out.hD _ rfl _ Tryz.underlying3 rfl ?_)
    | ((with_reducible first | refine at_load_ ?_ | refine at_load2_ ?_); refine wpList_load_one rfl 9 _ rfl D 1 rfl (⟨2, nonce, epoch, cookie, name, session, player, salt, seq, thr, trn, fire, boost, data, tag⟩ : Dg).cells _ _ HT.out.hD _ rfl _ Tryz.underlying9 rfl ?_)
    | ((with_reducible first | refine at_store_ ?_ | refine at_store2_ ?_); refine wpList_store_cell rfl 9 _ _ rfl O 1 rfl _ rfl _ _ HT.out.hO (by exact (by decide : 1 < 15)) rfl (by kernel_rfl) ?_; intro w4 hO4 hm4 hz4; have n_ := Aside0.mk (HT.out.put hO4.out hm4.out); clear HT hO4 hm4 hz4; have HT := n_; clear n_; (try clear cK); have cK := cell_of (i := 0) (v := .int .i64 2) HT.out.hD rfl)
    | ((with_reducible first | refine at_load_ ?_ | refine at_load2_ ?_); refine wpList_load_one rfl 23 _ rfl D 2 rfl (⟨2, nonce, epoch, cookie, name, session, player, salt, seq, thr, trn, fire, boost, data, tag⟩ : Dg).cells _ _ HT.out.hD _ rfl _ Tryz.underlying23 rfl ?_)
    | ((with_reducible first | refine at_store_ ?_ | refine at_store2_ ?_); refine wpList_store_cell rfl 23 _ _ rfl O 2 rfl _ rfl _ _ HT.out.hO (by exact (by decide : 2 < 15)) rfl (by kernel_rfl) ?_; intro w4 hO4 hm4 hz4; have n_ := Aside0.mk (HT.out.put hO4.out hm4.out); clear HT hO4 hm4 hz4; have HT := n_; clear n_; (try clear cK); have cK := cell_of (i := 0) (v := .int .i64 2) HT.out.hD rfl)
    | ((with_reducible first | refine at_load_ ?_ | refine at_load2_ ?_); refine wpList_load_one rfl 9 _ rfl D 3 rfl (⟨2, nonce, epoch, cookie, name, session, player, salt, seq, thr, trn, fire, boost, data, tag⟩ : Dg).cells _ _ HT.out.hD _ rfl _ Tryz.underlying9 rfl ?_)
    | ((with_reducible first | refine at_store_ ?_ | refine at_store2_ ?_); refine wpList_store_cell rfl 9 _ _ rfl O 3 rfl _ rfl _ _ HT.out.hO (by exact (by decide : 3 < 15)) rfl (by kernel_rfl) ?_; intro w4 hO4 hm4 hz4; have n_ := Aside0.mk (HT.out.put hO4.out hm4.out); clear HT hO4 hm4 hz4; have HT := n_; clear n_; (try clear cK); have cK := cell_of (i := 0) (v := .int .i64 2) HT.out.hD rfl)
    | ((with_reducible first | refine at_load_ ?_ | refine at_load2_ ?_); refine wpList_load_agg rfl 27 _ rfl O 0 rfl (onlyD (⟨2, nonce, epoch, cookie, name, session, player, salt, seq, thr, trn, fire, boost, data, tag⟩ : Dg)).cells (load_all HT.out.hO) _ Tryz.underlying27 rfl (by kernel_rfl) ?_)
    | ((with_reducible first | refine at_store_ ?_ | refine at_store2_ ?_); refine wpList_store_agg rfl 27 _ _ rfl G 0 rfl (onlyD (⟨2, nonce, epoch, cookie, name, session, player, salt, seq, thr, trn, fire, boost, data, tag⟩ : Dg)).cells Dg.zero.cells rfl _ HT.out.hG (by exact Nat.le_refl 15) (fun v hv => one_cells hv) (by kernel_rfl) ?_; intro w9 hG9 hm9 hz9; have HG9 := Aside0.mk (show w9.heap[G]? = some (.cells (onlyD (⟨2, nonce, epoch, cookie, name, session, player, salt, seq, thr, trn, fire, boost, data, tag⟩ : Dg)).cells.toArray 27 (0, 0)) from hG9.out); have HM9 := Aside0.mk (show Below w.heap.size w w9 from toBelow' HT.out.hB hm9.out HT.out.ne.2.2.2)))
  refine bodyPost_ret (results_only _ _ G (onlyD (⟨2, nonce, epoch, cookie, name, session, player, salt, seq, thr, trn, fire, boost, data, tag⟩ : Dg)) rfl HG9.out) rfl ⟨rfl, HM9.out⟩
set_option maxHeartbeats 8000000 in
set_option maxRecDepth 100000 in
theorem only_3 (nonce : ByteArray) (epoch : Nat) (cookie name : ByteArray) (session : Nat) (player : Int) (salt : ByteArray) (seq : Nat) (thr trn : Int) (fire boost : Bool) (data tag : ByteArray) (w : World) : Calls Tryz.prog 20 #[.agg (⟨3, nonce, epoch, cookie, name, session, player, salt, seq, thr, trn, fire, boost, data, tag⟩ : Dg).cells.toArray] w fun e w' => e = .returned (.agg (onlyD (⟨3, nonce, epoch, cookie, name, session, player, salt, seq, thr, trn, fire, boost, data, tag⟩ : Dg)).cells.toArray) ∧ Below w.heap.size w w' := by
  have MARK : True := trivial
  go_enter Tryz.func20, Tryz.ntmps20
  go_wp2_with (first
    | ((with_reducible first | refine at_box_ ?_ | refine at_box2_ ?_); refine wpList_box_v rfl 27 _ rfl (⟨3, nonce, epoch, cookie, name, session, player, salt, seq, thr, trn, fire, boost, data, tag⟩ : Dg).cells rfl (by kernel_rfl) ?_; intro D w1 eD hD1 hb1 hz1; have n1_ := Aside0.mk (hD1.out); have n2_ := Aside0.mk (hb1.out); have n3_ := Aside0.mk (eD.out); clear hD1 hb1 eD)
    | ((with_reducible first | refine at_alloc_ ?_ | refine at_alloc2_ ?_); clear MARK; have MARK2 : True := trivial; refine wpList_alloc_v rfl 27 rfl Dg.zero.cells (by kernel_rfl) ?_; intro G w2 eG hG2 hb2 hz2; have m1_ := Aside0.mk (hG2.out); have m2_ := Aside0.mk (n2_.out.trans (hb2.out.mono n2_.out.size)); have m3_ := Aside0.mk (eG.out); have m4_ := Aside0.mk ((hb2.out.block D (blk_lt n1_.out)).trans n1_.out); clear hG2 hb2 eG)
    | ((with_reducible first | refine at_alloc_ ?_ | refine at_alloc2_ ?_); clear MARK2; refine wpList_alloc_v rfl 27 rfl Dg.zero.cells (by kernel_rfl) ?_; intro O w3 eO hO3 hb3 hz3; have HT := Aside0.mk (show Tri w w3 D G O (⟨3, nonce, epoch, cookie, name, session, player, salt, seq, thr, trn, fire, boost, data, tag⟩ : Dg) Dg.zero.cells from ⟨(hb3.out.block D (blk_lt m4_.out)).trans m4_.out, (hb3.out.block G (blk_lt m1_.out)).trans m1_.out, hO3.out, by have := eO.out; have := blk_lt m4_.out; have := blk_lt m1_.out; have := m2_.out.size; have := n2_.out.size; have := m3_.out; exact ⟨by omega, by omega, by omega, by omega⟩, m2_.out.trans (hb3.out.mono m2_.out.size)⟩); clear hO3 hb3 eO m1_ m2_ m3_ m4_ n1_ n2_ n3_; have cK := cell_of (i := 0) (v := .int .i64 3) HT.out.hD rfl)
    | ((with_reducible first | refine at_store_ ?_ | refine at_store2_ ?_); refine wpList_store_agg rfl 27 _ _ rfl O 0 rfl (dk 3).cells _ (by rfl) _ HT.out.hO (by exact Nat.le_refl 15) (fun v hv => one_cells hv) (by kernel_rfl) ?_; intro w4 hO4 hm4 hz4; rw [splice_all Dg.zero.cells (dk 3).cells rfl] at hO4; have n_ := Aside0.mk (HT.out.put hO4.out hm4.out); clear HT hO4 hm4 hz4; have HT := n_; clear n_; (try clear cK); have cK := cell_of (i := 0) (v := .int .i64 3) HT.out.hD rfl)
    | ((with_reducible first | refine at_load_ ?_ | refine at_load2_ ?_); refine wpList_load_one rfl 3 _ rfl D 0 rfl (⟨3, nonce, epoch, cookie, name, session, player, salt, seq, thr, trn, fire, boost, data, tag⟩ : Dg).cells _ _ m4_.out _ rfl _ Tryz.underlying3 rfl ?_)
    | ((with_reducible first | refine at_load_ ?_ | refine at_load2_ ?_); refine wpList_load_one rfl 3 _ rfl D 0 rfl (⟨3, nonce, epoch, cookie, name, session, player, salt, seq, thr, trn, fire, boost, data, tag⟩ : Dg).cells _ _ HT.out.hD _ rfl _ Tryz.underlying3 rfl ?_)
    | ((with_reducible first | refine at_load_ ?_ | refine at_load2_ ?_); refine wpList_load_one rfl 9 _ rfl D 1 rfl (⟨3, nonce, epoch, cookie, name, session, player, salt, seq, thr, trn, fire, boost, data, tag⟩ : Dg).cells _ _ HT.out.hD _ rfl _ Tryz.underlying9 rfl ?_)
    | ((with_reducible first | refine at_store_ ?_ | refine at_store2_ ?_); refine wpList_store_cell rfl 9 _ _ rfl O 1 rfl _ rfl _ _ HT.out.hO (by exact (by decide : 1 < 15)) rfl (by kernel_rfl) ?_; intro w4 hO4 hm4 hz4; have n_ := Aside0.mk (HT.out.put hO4.out hm4.out); clear HT hO4 hm4 hz4; have HT := n_; clear n_; (try clear cK); have cK := cell_of (i := 0) (v := .int .i64 3) HT.out.hD rfl)
    | ((with_reducible first | refine at_load_ ?_ | refine at_load2_ ?_); refine wpList_load_one rfl 23 _ rfl D 2 rfl (⟨3, nonce, epoch, cookie, name, session, player, salt, seq, thr, trn, fire, boost, data, tag⟩ : Dg).cells _ _ HT.out.hD _ rfl _ Tryz.underlying23 rfl ?_)
    | ((with_reducible first | refine at_store_ ?_ | refine at_store2_ ?_); refine wpList_store_cell rfl 23 _ _ rfl O 2 rfl _ rfl _ _ HT.out.hO (by exact (by decide : 2 < 15)) rfl (by kernel_rfl) ?_; intro w4 hO4 hm4 hz4; have n_ := Aside0.mk (HT.out.put hO4.out hm4.out); clear HT hO4 hm4 hz4; have HT := n_; clear n_; (try clear cK); have cK := cell_of (i := 0) (v := .int .i64 3) HT.out.hD rfl)
    | ((with_reducible first | refine at_load_ ?_ | refine at_load2_ ?_); refine wpList_load_one rfl 9 _ rfl D 3 rfl (⟨3, nonce, epoch, cookie, name, session, player, salt, seq, thr, trn, fire, boost, data, tag⟩ : Dg).cells _ _ HT.out.hD _ rfl _ Tryz.underlying9 rfl ?_)
    | ((with_reducible first | refine at_store_ ?_ | refine at_store2_ ?_); refine wpList_store_cell rfl 9 _ _ rfl O 3 rfl _ rfl _ _ HT.out.hO (by exact (by decide : 3 < 15)) rfl (by kernel_rfl) ?_; intro w4 hO4 hm4 hz4; have n_ := Aside0.mk (HT.out.put hO4.out hm4.out); clear HT hO4 hm4 hz4; have HT := n_; clear n_; (try clear cK); have cK := cell_of (i := 0) (v := .int .i64 3) HT.out.hD rfl)
    | ((with_reducible first | refine at_load_ ?_ | refine at_load2_ ?_); refine wpList_load_one rfl 9 _ rfl D 14 rfl (⟨3, nonce, epoch, cookie, name, session, player, salt, seq, thr, trn, fire, boost, data, tag⟩ : Dg).cells _ _ HT.out.hD _ rfl _ Tryz.underlying9 rfl ?_)
    | ((with_reducible first | refine at_store_ ?_ | refine at_store2_ ?_); refine wpList_store_cell rfl 9 _ _ rfl O 14 rfl _ rfl _ _ HT.out.hO (by exact (by decide : 14 < 15)) rfl (by kernel_rfl) ?_; intro w4 hO4 hm4 hz4; have n_ := Aside0.mk (HT.out.put hO4.out hm4.out); clear HT hO4 hm4 hz4; have HT := n_; clear n_; (try clear cK); have cK := cell_of (i := 0) (v := .int .i64 3) HT.out.hD rfl)
    | ((with_reducible first | refine at_load_ ?_ | refine at_load2_ ?_); refine wpList_load_one rfl 9 _ rfl D 4 rfl (⟨3, nonce, epoch, cookie, name, session, player, salt, seq, thr, trn, fire, boost, data, tag⟩ : Dg).cells _ _ HT.out.hD _ rfl _ Tryz.underlying9 rfl ?_)
    | ((with_reducible first | refine at_store_ ?_ | refine at_store2_ ?_); refine wpList_store_cell rfl 9 _ _ rfl O 4 rfl _ rfl _ _ HT.out.hO (by exact (by decide : 4 < 15)) rfl (by kernel_rfl) ?_; intro w4 hO4 hm4 hz4; have n_ := Aside0.mk (HT.out.put hO4.out hm4.out); clear HT hO4 hm4 hz4; have HT := n_; clear n_; (try clear cK); have cK := cell_of (i := 0) (v := .int .i64 3) HT.out.hD rfl)
    | ((with_reducible first | refine at_load_ ?_ | refine at_load2_ ?_); refine wpList_load_agg rfl 27 _ rfl O 0 rfl (onlyD (⟨3, nonce, epoch, cookie, name, session, player, salt, seq, thr, trn, fire, boost, data, tag⟩ : Dg)).cells (load_all HT.out.hO) _ Tryz.underlying27 rfl (by kernel_rfl) ?_)
    | ((with_reducible first | refine at_store_ ?_ | refine at_store2_ ?_); refine wpList_store_agg rfl 27 _ _ rfl G 0 rfl (onlyD (⟨3, nonce, epoch, cookie, name, session, player, salt, seq, thr, trn, fire, boost, data, tag⟩ : Dg)).cells Dg.zero.cells rfl _ HT.out.hG (by exact Nat.le_refl 15) (fun v hv => one_cells hv) (by kernel_rfl) ?_; intro w9 hG9 hm9 hz9; have HG9 := Aside0.mk (show w9.heap[G]? = some (.cells (onlyD (⟨3, nonce, epoch, cookie, name, session, player, salt, seq, thr, trn, fire, boost, data, tag⟩ : Dg)).cells.toArray 27 (0, 0)) from hG9.out); have HM9 := Aside0.mk (show Below w.heap.size w w9 from toBelow' HT.out.hB hm9.out HT.out.ne.2.2.2)))
  refine bodyPost_ret (results_only _ _ G (onlyD (⟨3, nonce, epoch, cookie, name, session, player, salt, seq, thr, trn, fire, boost, data, tag⟩ : Dg)) rfl HG9.out) rfl ⟨rfl, HM9.out⟩
set_option maxHeartbeats 8000000 in
set_option maxRecDepth 100000 in
theorem only_4 (nonce : ByteArray) (epoch : Nat) (cookie name : ByteArray) (session : Nat) (player : Int) (salt : ByteArray) (seq : Nat) (thr trn : Int) (fire boost : Bool) (data tag : ByteArray) (w : World) : Calls Tryz.prog 20 #[.agg (⟨4, nonce, epoch, cookie, name, session, player, salt, seq, thr, trn, fire, boost, data, tag⟩ : Dg).cells.toArray] w fun e w' => e = .returned (.agg (onlyD (⟨4, nonce, epoch, cookie, name, session, player, salt, seq, thr, trn, fire, boost, data, tag⟩ : Dg)).cells.toArray) ∧ Below w.heap.size w w' := by
  have MARK : True := trivial
  go_enter Tryz.func20, Tryz.ntmps20
  go_wp2_with (first
    | ((with_reducible first | refine at_box_ ?_ | refine at_box2_ ?_); refine wpList_box_v rfl 27 _ rfl (⟨4, nonce, epoch, cookie, name, session, player, salt, seq, thr, trn, fire, boost, data, tag⟩ : Dg).cells rfl (by kernel_rfl) ?_; intro D w1 eD hD1 hb1 hz1; have n1_ := Aside0.mk (hD1.out); have n2_ := Aside0.mk (hb1.out); have n3_ := Aside0.mk (eD.out); clear hD1 hb1 eD)
    | ((with_reducible first | refine at_alloc_ ?_ | refine at_alloc2_ ?_); clear MARK; have MARK2 : True := trivial; refine wpList_alloc_v rfl 27 rfl Dg.zero.cells (by kernel_rfl) ?_; intro G w2 eG hG2 hb2 hz2; have m1_ := Aside0.mk (hG2.out); have m2_ := Aside0.mk (n2_.out.trans (hb2.out.mono n2_.out.size)); have m3_ := Aside0.mk (eG.out); have m4_ := Aside0.mk ((hb2.out.block D (blk_lt n1_.out)).trans n1_.out); clear hG2 hb2 eG)
    | ((with_reducible first | refine at_alloc_ ?_ | refine at_alloc2_ ?_); clear MARK2; refine wpList_alloc_v rfl 27 rfl Dg.zero.cells (by kernel_rfl) ?_; intro O w3 eO hO3 hb3 hz3; have HT := Aside0.mk (show Tri w w3 D G O (⟨4, nonce, epoch, cookie, name, session, player, salt, seq, thr, trn, fire, boost, data, tag⟩ : Dg) Dg.zero.cells from ⟨(hb3.out.block D (blk_lt m4_.out)).trans m4_.out, (hb3.out.block G (blk_lt m1_.out)).trans m1_.out, hO3.out, by have := eO.out; have := blk_lt m4_.out; have := blk_lt m1_.out; have := m2_.out.size; have := n2_.out.size; have := m3_.out; exact ⟨by omega, by omega, by omega, by omega⟩, m2_.out.trans (hb3.out.mono m2_.out.size)⟩); clear hO3 hb3 eO m1_ m2_ m3_ m4_ n1_ n2_ n3_; have cK := cell_of (i := 0) (v := .int .i64 4) HT.out.hD rfl)
    | ((with_reducible first | refine at_store_ ?_ | refine at_store2_ ?_); refine wpList_store_agg rfl 27 _ _ rfl O 0 rfl (dk 4).cells _ (by rfl) _ HT.out.hO (by exact Nat.le_refl 15) (fun v hv => one_cells hv) (by kernel_rfl) ?_; intro w4 hO4 hm4 hz4; rw [splice_all Dg.zero.cells (dk 4).cells rfl] at hO4; have n_ := Aside0.mk (HT.out.put hO4.out hm4.out); clear HT hO4 hm4 hz4; have HT := n_; clear n_; (try clear cK); have cK := cell_of (i := 0) (v := .int .i64 4) HT.out.hD rfl)
    | ((with_reducible first | refine at_load_ ?_ | refine at_load2_ ?_); refine wpList_load_one rfl 3 _ rfl D 0 rfl (⟨4, nonce, epoch, cookie, name, session, player, salt, seq, thr, trn, fire, boost, data, tag⟩ : Dg).cells _ _ m4_.out _ rfl _ Tryz.underlying3 rfl ?_)
    | ((with_reducible first | refine at_load_ ?_ | refine at_load2_ ?_); refine wpList_load_one rfl 3 _ rfl D 0 rfl (⟨4, nonce, epoch, cookie, name, session, player, salt, seq, thr, trn, fire, boost, data, tag⟩ : Dg).cells _ _ HT.out.hD _ rfl _ Tryz.underlying3 rfl ?_)
    | ((with_reducible first | refine at_load_ ?_ | refine at_load2_ ?_); refine wpList_load_one rfl 9 _ rfl D 1 rfl (⟨4, nonce, epoch, cookie, name, session, player, salt, seq, thr, trn, fire, boost, data, tag⟩ : Dg).cells _ _ HT.out.hD _ rfl _ Tryz.underlying9 rfl ?_)
    | ((with_reducible first | refine at_store_ ?_ | refine at_store2_ ?_); refine wpList_store_cell rfl 9 _ _ rfl O 1 rfl _ rfl _ _ HT.out.hO (by exact (by decide : 1 < 15)) rfl (by kernel_rfl) ?_; intro w4 hO4 hm4 hz4; have n_ := Aside0.mk (HT.out.put hO4.out hm4.out); clear HT hO4 hm4 hz4; have HT := n_; clear n_; (try clear cK); have cK := cell_of (i := 0) (v := .int .i64 4) HT.out.hD rfl)
    | ((with_reducible first | refine at_load_ ?_ | refine at_load2_ ?_); refine wpList_load_one rfl 9 _ rfl D 14 rfl (⟨4, nonce, epoch, cookie, name, session, player, salt, seq, thr, trn, fire, boost, data, tag⟩ : Dg).cells _ _ HT.out.hD _ rfl _ Tryz.underlying9 rfl ?_)
    | ((with_reducible first | refine at_store_ ?_ | refine at_store2_ ?_); refine wpList_store_cell rfl 9 _ _ rfl O 14 rfl _ rfl _ _ HT.out.hO (by exact (by decide : 14 < 15)) rfl (by kernel_rfl) ?_; intro w4 hO4 hm4 hz4; have n_ := Aside0.mk (HT.out.put hO4.out hm4.out); clear HT hO4 hm4 hz4; have HT := n_; clear n_; (try clear cK); have cK := cell_of (i := 0) (v := .int .i64 4) HT.out.hD rfl)
    | ((with_reducible first | refine at_load_ ?_ | refine at_load2_ ?_); refine wpList_load_one rfl 23 _ rfl D 5 rfl (⟨4, nonce, epoch, cookie, name, session, player, salt, seq, thr, trn, fire, boost, data, tag⟩ : Dg).cells _ _ HT.out.hD _ rfl _ Tryz.underlying23 rfl ?_)
    | ((with_reducible first | refine at_store_ ?_ | refine at_store2_ ?_); refine wpList_store_cell rfl 23 _ _ rfl O 5 rfl _ rfl _ _ HT.out.hO (by exact (by decide : 5 < 15)) rfl (by kernel_rfl) ?_; intro w4 hO4 hm4 hz4; have n_ := Aside0.mk (HT.out.put hO4.out hm4.out); clear HT hO4 hm4 hz4; have HT := n_; clear n_; (try clear cK); have cK := cell_of (i := 0) (v := .int .i64 4) HT.out.hD rfl)
    | ((with_reducible first | refine at_load_ ?_ | refine at_load2_ ?_); refine wpList_load_one rfl 3 _ rfl D 6 rfl (⟨4, nonce, epoch, cookie, name, session, player, salt, seq, thr, trn, fire, boost, data, tag⟩ : Dg).cells _ _ HT.out.hD _ rfl _ Tryz.underlying3 rfl ?_)
    | ((with_reducible first | refine at_store_ ?_ | refine at_store2_ ?_); refine wpList_store_cell rfl 3 _ _ rfl O 6 rfl _ rfl _ _ HT.out.hO (by exact (by decide : 6 < 15)) rfl (by kernel_rfl) ?_; intro w4 hO4 hm4 hz4; have n_ := Aside0.mk (HT.out.put hO4.out hm4.out); clear HT hO4 hm4 hz4; have HT := n_; clear n_; (try clear cK); have cK := cell_of (i := 0) (v := .int .i64 4) HT.out.hD rfl)
    | ((with_reducible first | refine at_load_ ?_ | refine at_load2_ ?_); refine wpList_load_one rfl 9 _ rfl D 7 rfl (⟨4, nonce, epoch, cookie, name, session, player, salt, seq, thr, trn, fire, boost, data, tag⟩ : Dg).cells _ _ HT.out.hD _ rfl _ Tryz.underlying9 rfl ?_)
    | ((with_reducible first | refine at_store_ ?_ | refine at_store2_ ?_); refine wpList_store_cell rfl 9 _ _ rfl O 7 rfl _ rfl _ _ HT.out.hO (by exact (by decide : 7 < 15)) rfl (by kernel_rfl) ?_; intro w4 hO4 hm4 hz4; have n_ := Aside0.mk (HT.out.put hO4.out hm4.out); clear HT hO4 hm4 hz4; have HT := n_; clear n_; (try clear cK); have cK := cell_of (i := 0) (v := .int .i64 4) HT.out.hD rfl)
    | ((with_reducible first | refine at_load_ ?_ | refine at_load2_ ?_); refine wpList_load_agg rfl 27 _ rfl O 0 rfl (onlyD (⟨4, nonce, epoch, cookie, name, session, player, salt, seq, thr, trn, fire, boost, data, tag⟩ : Dg)).cells (load_all HT.out.hO) _ Tryz.underlying27 rfl (by kernel_rfl) ?_)
    | ((with_reducible first | refine at_store_ ?_ | refine at_store2_ ?_); refine wpList_store_agg rfl 27 _ _ rfl G 0 rfl (onlyD (⟨4, nonce, epoch, cookie, name, session, player, salt, seq, thr, trn, fire, boost, data, tag⟩ : Dg)).cells Dg.zero.cells rfl _ HT.out.hG (by exact Nat.le_refl 15) (fun v hv => one_cells hv) (by kernel_rfl) ?_; intro w9 hG9 hm9 hz9; have HG9 := Aside0.mk (show w9.heap[G]? = some (.cells (onlyD (⟨4, nonce, epoch, cookie, name, session, player, salt, seq, thr, trn, fire, boost, data, tag⟩ : Dg)).cells.toArray 27 (0, 0)) from hG9.out); have HM9 := Aside0.mk (show Below w.heap.size w w9 from toBelow' HT.out.hB hm9.out HT.out.ne.2.2.2)))
  refine bodyPost_ret (results_only _ _ G (onlyD (⟨4, nonce, epoch, cookie, name, session, player, salt, seq, thr, trn, fire, boost, data, tag⟩ : Dg)) rfl HG9.out) rfl ⟨rfl, HM9.out⟩
set_option maxHeartbeats 8000000 in
set_option maxRecDepth 100000 in
theorem only_5 (nonce : ByteArray) (epoch : Nat) (cookie name : ByteArray) (session : Nat) (player : Int) (salt : ByteArray) (seq : Nat) (thr trn : Int) (fire boost : Bool) (data tag : ByteArray) (w : World) : Calls Tryz.prog 20 #[.agg (⟨5, nonce, epoch, cookie, name, session, player, salt, seq, thr, trn, fire, boost, data, tag⟩ : Dg).cells.toArray] w fun e w' => e = .returned (.agg (onlyD (⟨5, nonce, epoch, cookie, name, session, player, salt, seq, thr, trn, fire, boost, data, tag⟩ : Dg)).cells.toArray) ∧ Below w.heap.size w w' := by
  have MARK : True := trivial
  go_enter Tryz.func20, Tryz.ntmps20
  go_wp2_with (first
    | ((with_reducible first | refine at_box_ ?_ | refine at_box2_ ?_); refine wpList_box_v rfl 27 _ rfl (⟨5, nonce, epoch, cookie, name, session, player, salt, seq, thr, trn, fire, boost, data, tag⟩ : Dg).cells rfl (by kernel_rfl) ?_; intro D w1 eD hD1 hb1 hz1; have n1_ := Aside0.mk (hD1.out); have n2_ := Aside0.mk (hb1.out); have n3_ := Aside0.mk (eD.out); clear hD1 hb1 eD)
    | ((with_reducible first | refine at_alloc_ ?_ | refine at_alloc2_ ?_); clear MARK; have MARK2 : True := trivial; refine wpList_alloc_v rfl 27 rfl Dg.zero.cells (by kernel_rfl) ?_; intro G w2 eG hG2 hb2 hz2; have m1_ := Aside0.mk (hG2.out); have m2_ := Aside0.mk (n2_.out.trans (hb2.out.mono n2_.out.size)); have m3_ := Aside0.mk (eG.out); have m4_ := Aside0.mk ((hb2.out.block D (blk_lt n1_.out)).trans n1_.out); clear hG2 hb2 eG)
    | ((with_reducible first | refine at_alloc_ ?_ | refine at_alloc2_ ?_); clear MARK2; refine wpList_alloc_v rfl 27 rfl Dg.zero.cells (by kernel_rfl) ?_; intro O w3 eO hO3 hb3 hz3; have HT := Aside0.mk (show Tri w w3 D G O (⟨5, nonce, epoch, cookie, name, session, player, salt, seq, thr, trn, fire, boost, data, tag⟩ : Dg) Dg.zero.cells from ⟨(hb3.out.block D (blk_lt m4_.out)).trans m4_.out, (hb3.out.block G (blk_lt m1_.out)).trans m1_.out, hO3.out, by have := eO.out; have := blk_lt m4_.out; have := blk_lt m1_.out; have := m2_.out.size; have := n2_.out.size; have := m3_.out; exact ⟨by omega, by omega, by omega, by omega⟩, m2_.out.trans (hb3.out.mono m2_.out.size)⟩); clear hO3 hb3 eO m1_ m2_ m3_ m4_ n1_ n2_ n3_; have cK := cell_of (i := 0) (v := .int .i64 5) HT.out.hD rfl)
    | ((with_reducible first | refine at_store_ ?_ | refine at_store2_ ?_); refine wpList_store_agg rfl 27 _ _ rfl O 0 rfl (dk 5).cells _ (by rfl) _ HT.out.hO (by exact Nat.le_refl 15) (fun v hv => one_cells hv) (by kernel_rfl) ?_; intro w4 hO4 hm4 hz4; rw [splice_all Dg.zero.cells (dk 5).cells rfl] at hO4; have n_ := Aside0.mk (HT.out.put hO4.out hm4.out); clear HT hO4 hm4 hz4; have HT := n_; clear n_; (try clear cK); have cK := cell_of (i := 0) (v := .int .i64 5) HT.out.hD rfl)
    | ((with_reducible first | refine at_load_ ?_ | refine at_load2_ ?_); refine wpList_load_one rfl 3 _ rfl D 0 rfl (⟨5, nonce, epoch, cookie, name, session, player, salt, seq, thr, trn, fire, boost, data, tag⟩ : Dg).cells _ _ m4_.out _ rfl _ Tryz.underlying3 rfl ?_)
    | ((with_reducible first | refine at_load_ ?_ | refine at_load2_ ?_); refine wpList_load_one rfl 3 _ rfl D 0 rfl (⟨5, nonce, epoch, cookie, name, session, player, salt, seq, thr, trn, fire, boost, data, tag⟩ : Dg).cells _ _ HT.out.hD _ rfl _ Tryz.underlying3 rfl ?_)
    | ((with_reducible first | refine at_load_ ?_ | refine at_load2_ ?_); refine wpList_load_one rfl 9 _ rfl D 14 rfl (⟨5, nonce, epoch, cookie, name, session, player, salt, seq, thr, trn, fire, boost, data, tag⟩ : Dg).cells _ _ HT.out.hD _ rfl _ Tryz.underlying9 rfl ?_)
    | ((with_reducible first | refine at_store_ ?_ | refine at_store2_ ?_); refine wpList_store_cell rfl 9 _ _ rfl O 14 rfl _ rfl _ _ HT.out.hO (by exact (by decide : 14 < 15)) rfl (by kernel_rfl) ?_; intro w4 hO4 hm4 hz4; have n_ := Aside0.mk (HT.out.put hO4.out hm4.out); clear HT hO4 hm4 hz4; have HT := n_; clear n_; (try clear cK); have cK := cell_of (i := 0) (v := .int .i64 5) HT.out.hD rfl)
    | ((with_reducible first | refine at_load_ ?_ | refine at_load2_ ?_); refine wpList_load_one rfl 23 _ rfl D 5 rfl (⟨5, nonce, epoch, cookie, name, session, player, salt, seq, thr, trn, fire, boost, data, tag⟩ : Dg).cells _ _ HT.out.hD _ rfl _ Tryz.underlying23 rfl ?_)
    | ((with_reducible first | refine at_store_ ?_ | refine at_store2_ ?_); refine wpList_store_cell rfl 23 _ _ rfl O 5 rfl _ rfl _ _ HT.out.hO (by exact (by decide : 5 < 15)) rfl (by kernel_rfl) ?_; intro w4 hO4 hm4 hz4; have n_ := Aside0.mk (HT.out.put hO4.out hm4.out); clear HT hO4 hm4 hz4; have HT := n_; clear n_; (try clear cK); have cK := cell_of (i := 0) (v := .int .i64 5) HT.out.hD rfl)
    | ((with_reducible first | refine at_load_ ?_ | refine at_load2_ ?_); refine wpList_load_one rfl 23 _ rfl D 8 rfl (⟨5, nonce, epoch, cookie, name, session, player, salt, seq, thr, trn, fire, boost, data, tag⟩ : Dg).cells _ _ HT.out.hD _ rfl _ Tryz.underlying23 rfl ?_)
    | ((with_reducible first | refine at_store_ ?_ | refine at_store2_ ?_); refine wpList_store_cell rfl 23 _ _ rfl O 8 rfl _ rfl _ _ HT.out.hO (by exact (by decide : 8 < 15)) rfl (by kernel_rfl) ?_; intro w4 hO4 hm4 hz4; have n_ := Aside0.mk (HT.out.put hO4.out hm4.out); clear HT hO4 hm4 hz4; have HT := n_; clear n_; (try clear cK); have cK := cell_of (i := 0) (v := .int .i64 5) HT.out.hD rfl)
    | ((with_reducible first | refine at_load_ ?_ | refine at_load2_ ?_); refine wpList_load_agg rfl 25 _ rfl D 9 rfl [.int .i64 thr, .int .i64 trn, .bool fire, .bool boost] (fun j v hv => by match j, hv with | 0, hv => cases hv; exact cell_of HT.out.hD rfl | 1, hv => cases hv; exact cell_of HT.out.hD rfl | 2, hv => cases hv; exact cell_of HT.out.hD rfl | 3, hv => cases hv; exact cell_of HT.out.hD rfl) _ Tryz.underlying25 rfl (by kernel_rfl) ?_)
    | ((with_reducible first | refine at_store_ ?_ | refine at_store2_ ?_); refine wpList_store_agg rfl 25 _ _ rfl O 9 rfl [.int .i64 thr, .int .i64 trn, .bool fire, .bool boost] _ rfl _ HT.out.hO (by exact (by decide : 9 + 4 ≤ 15)) (fun v hv => by simp only [List.mem_cons, List.not_mem_nil, or_false] at hv; rcases hv with rfl | rfl | rfl | rfl <;> rfl) (by kernel_rfl) ?_; intro w4 hO4 hm4 hz4; have n_ := Aside0.mk (HT.out.put hO4.out hm4.out); clear HT hO4 hm4 hz4; have HT := n_; clear n_; (try clear cK); have cK := cell_of (i := 0) (v := .int .i64 5) HT.out.hD rfl)
    | ((with_reducible first | refine at_load_ ?_ | refine at_load2_ ?_); refine wpList_load_agg rfl 27 _ rfl O 0 rfl (onlyD (⟨5, nonce, epoch, cookie, name, session, player, salt, seq, thr, trn, fire, boost, data, tag⟩ : Dg)).cells (load_all HT.out.hO) _ Tryz.underlying27 rfl (by kernel_rfl) ?_)
    | ((with_reducible first | refine at_store_ ?_ | refine at_store2_ ?_); refine wpList_store_agg rfl 27 _ _ rfl G 0 rfl (onlyD (⟨5, nonce, epoch, cookie, name, session, player, salt, seq, thr, trn, fire, boost, data, tag⟩ : Dg)).cells Dg.zero.cells rfl _ HT.out.hG (by exact Nat.le_refl 15) (fun v hv => one_cells hv) (by kernel_rfl) ?_; intro w9 hG9 hm9 hz9; have HG9 := Aside0.mk (show w9.heap[G]? = some (.cells (onlyD (⟨5, nonce, epoch, cookie, name, session, player, salt, seq, thr, trn, fire, boost, data, tag⟩ : Dg)).cells.toArray 27 (0, 0)) from hG9.out); have HM9 := Aside0.mk (show Below w.heap.size w w9 from toBelow' HT.out.hB hm9.out HT.out.ne.2.2.2)))
  refine bodyPost_ret (results_only _ _ G (onlyD (⟨5, nonce, epoch, cookie, name, session, player, salt, seq, thr, trn, fire, boost, data, tag⟩ : Dg)) rfl HG9.out) rfl ⟨rfl, HM9.out⟩
set_option maxHeartbeats 8000000 in
set_option maxRecDepth 100000 in
theorem only_6 (nonce : ByteArray) (epoch : Nat) (cookie name : ByteArray) (session : Nat) (player : Int) (salt : ByteArray) (seq : Nat) (thr trn : Int) (fire boost : Bool) (data tag : ByteArray) (w : World) : Calls Tryz.prog 20 #[.agg (⟨6, nonce, epoch, cookie, name, session, player, salt, seq, thr, trn, fire, boost, data, tag⟩ : Dg).cells.toArray] w fun e w' => e = .returned (.agg (onlyD (⟨6, nonce, epoch, cookie, name, session, player, salt, seq, thr, trn, fire, boost, data, tag⟩ : Dg)).cells.toArray) ∧ Below w.heap.size w w' := by
  have MARK : True := trivial
  go_enter Tryz.func20, Tryz.ntmps20
  go_wp2_with (first
    | ((with_reducible first | refine at_box_ ?_ | refine at_box2_ ?_); refine wpList_box_v rfl 27 _ rfl (⟨6, nonce, epoch, cookie, name, session, player, salt, seq, thr, trn, fire, boost, data, tag⟩ : Dg).cells rfl (by kernel_rfl) ?_; intro D w1 eD hD1 hb1 hz1; have n1_ := Aside0.mk (hD1.out); have n2_ := Aside0.mk (hb1.out); have n3_ := Aside0.mk (eD.out); clear hD1 hb1 eD)
    | ((with_reducible first | refine at_alloc_ ?_ | refine at_alloc2_ ?_); clear MARK; have MARK2 : True := trivial; refine wpList_alloc_v rfl 27 rfl Dg.zero.cells (by kernel_rfl) ?_; intro G w2 eG hG2 hb2 hz2; have m1_ := Aside0.mk (hG2.out); have m2_ := Aside0.mk (n2_.out.trans (hb2.out.mono n2_.out.size)); have m3_ := Aside0.mk (eG.out); have m4_ := Aside0.mk ((hb2.out.block D (blk_lt n1_.out)).trans n1_.out); clear hG2 hb2 eG)
    | ((with_reducible first | refine at_alloc_ ?_ | refine at_alloc2_ ?_); clear MARK2; refine wpList_alloc_v rfl 27 rfl Dg.zero.cells (by kernel_rfl) ?_; intro O w3 eO hO3 hb3 hz3; have HT := Aside0.mk (show Tri w w3 D G O (⟨6, nonce, epoch, cookie, name, session, player, salt, seq, thr, trn, fire, boost, data, tag⟩ : Dg) Dg.zero.cells from ⟨(hb3.out.block D (blk_lt m4_.out)).trans m4_.out, (hb3.out.block G (blk_lt m1_.out)).trans m1_.out, hO3.out, by have := eO.out; have := blk_lt m4_.out; have := blk_lt m1_.out; have := m2_.out.size; have := n2_.out.size; have := m3_.out; exact ⟨by omega, by omega, by omega, by omega⟩, m2_.out.trans (hb3.out.mono m2_.out.size)⟩); clear hO3 hb3 eO m1_ m2_ m3_ m4_ n1_ n2_ n3_; have cK := cell_of (i := 0) (v := .int .i64 6) HT.out.hD rfl)
    | ((with_reducible first | refine at_store_ ?_ | refine at_store2_ ?_); refine wpList_store_agg rfl 27 _ _ rfl O 0 rfl (dk 6).cells _ (by rfl) _ HT.out.hO (by exact Nat.le_refl 15) (fun v hv => one_cells hv) (by kernel_rfl) ?_; intro w4 hO4 hm4 hz4; rw [splice_all Dg.zero.cells (dk 6).cells rfl] at hO4; have n_ := Aside0.mk (HT.out.put hO4.out hm4.out); clear HT hO4 hm4 hz4; have HT := n_; clear n_; (try clear cK); have cK := cell_of (i := 0) (v := .int .i64 6) HT.out.hD rfl)
    | ((with_reducible first | refine at_load_ ?_ | refine at_load2_ ?_); refine wpList_load_one rfl 3 _ rfl D 0 rfl (⟨6, nonce, epoch, cookie, name, session, player, salt, seq, thr, trn, fire, boost, data, tag⟩ : Dg).cells _ _ m4_.out _ rfl _ Tryz.underlying3 rfl ?_)
    | ((with_reducible first | refine at_load_ ?_ | refine at_load2_ ?_); refine wpList_load_one rfl 3 _ rfl D 0 rfl (⟨6, nonce, epoch, cookie, name, session, player, salt, seq, thr, trn, fire, boost, data, tag⟩ : Dg).cells _ _ HT.out.hD _ rfl _ Tryz.underlying3 rfl ?_)
    | ((with_reducible first | refine at_load_ ?_ | refine at_load2_ ?_); refine wpList_load_one rfl 9 _ rfl D 14 rfl (⟨6, nonce, epoch, cookie, name, session, player, salt, seq, thr, trn, fire, boost, data, tag⟩ : Dg).cells _ _ HT.out.hD _ rfl _ Tryz.underlying9 rfl ?_)
    | ((with_reducible first | refine at_store_ ?_ | refine at_store2_ ?_); refine wpList_store_cell rfl 9 _ _ rfl O 14 rfl _ rfl _ _ HT.out.hO (by exact (by decide : 14 < 15)) rfl (by kernel_rfl) ?_; intro w4 hO4 hm4 hz4; have n_ := Aside0.mk (HT.out.put hO4.out hm4.out); clear HT hO4 hm4 hz4; have HT := n_; clear n_; (try clear cK); have cK := cell_of (i := 0) (v := .int .i64 6) HT.out.hD rfl)
    | ((with_reducible first | refine at_load_ ?_ | refine at_load2_ ?_); refine wpList_load_one rfl 23 _ rfl D 5 rfl (⟨6, nonce, epoch, cookie, name, session, player, salt, seq, thr, trn, fire, boost, data, tag⟩ : Dg).cells _ _ HT.out.hD _ rfl _ Tryz.underlying23 rfl ?_)
    | ((with_reducible first | refine at_store_ ?_ | refine at_store2_ ?_); refine wpList_store_cell rfl 23 _ _ rfl O 5 rfl _ rfl _ _ HT.out.hO (by exact (by decide : 5 < 15)) rfl (by kernel_rfl) ?_; intro w4 hO4 hm4 hz4; have n_ := Aside0.mk (HT.out.put hO4.out hm4.out); clear HT hO4 hm4 hz4; have HT := n_; clear n_; (try clear cK); have cK := cell_of (i := 0) (v := .int .i64 6) HT.out.hD rfl)
    | ((with_reducible first | refine at_load_ ?_ | refine at_load2_ ?_); refine wpList_load_one rfl 23 _ rfl D 8 rfl (⟨6, nonce, epoch, cookie, name, session, player, salt, seq, thr, trn, fire, boost, data, tag⟩ : Dg).cells _ _ HT.out.hD _ rfl _ Tryz.underlying23 rfl ?_)
    | ((with_reducible first | refine at_store_ ?_ | refine at_store2_ ?_); refine wpList_store_cell rfl 23 _ _ rfl O 8 rfl _ rfl _ _ HT.out.hO (by exact (by decide : 8 < 15)) rfl (by kernel_rfl) ?_; intro w4 hO4 hm4 hz4; have n_ := Aside0.mk (HT.out.put hO4.out hm4.out); clear HT hO4 hm4 hz4; have HT := n_; clear n_; (try clear cK); have cK := cell_of (i := 0) (v := .int .i64 6) HT.out.hD rfl)
    | ((with_reducible first | refine at_load_ ?_ | refine at_load2_ ?_); refine wpList_load_one rfl 9 _ rfl D 13 rfl (⟨6, nonce, epoch, cookie, name, session, player, salt, seq, thr, trn, fire, boost, data, tag⟩ : Dg).cells _ _ HT.out.hD _ rfl _ Tryz.underlying9 rfl ?_)
    | ((with_reducible first | refine at_store_ ?_ | refine at_store2_ ?_); refine wpList_store_cell rfl 9 _ _ rfl O 13 rfl _ rfl _ _ HT.out.hO (by exact (by decide : 13 < 15)) rfl (by kernel_rfl) ?_; intro w4 hO4 hm4 hz4; have n_ := Aside0.mk (HT.out.put hO4.out hm4.out); clear HT hO4 hm4 hz4; have HT := n_; clear n_; (try clear cK); have cK := cell_of (i := 0) (v := .int .i64 6) HT.out.hD rfl)
    | ((with_reducible first | refine at_load_ ?_ | refine at_load2_ ?_); refine wpList_load_agg rfl 27 _ rfl O 0 rfl (onlyD (⟨6, nonce, epoch, cookie, name, session, player, salt, seq, thr, trn, fire, boost, data, tag⟩ : Dg)).cells (load_all HT.out.hO) _ Tryz.underlying27 rfl (by kernel_rfl) ?_)
    | ((with_reducible first | refine at_store_ ?_ | refine at_store2_ ?_); refine wpList_store_agg rfl 27 _ _ rfl G 0 rfl (onlyD (⟨6, nonce, epoch, cookie, name, session, player, salt, seq, thr, trn, fire, boost, data, tag⟩ : Dg)).cells Dg.zero.cells rfl _ HT.out.hG (by exact Nat.le_refl 15) (fun v hv => one_cells hv) (by kernel_rfl) ?_; intro w9 hG9 hm9 hz9; have HG9 := Aside0.mk (show w9.heap[G]? = some (.cells (onlyD (⟨6, nonce, epoch, cookie, name, session, player, salt, seq, thr, trn, fire, boost, data, tag⟩ : Dg)).cells.toArray 27 (0, 0)) from hG9.out); have HM9 := Aside0.mk (show Below w.heap.size w w9 from toBelow' HT.out.hB hm9.out HT.out.ne.2.2.2)))
  refine bodyPost_ret (results_only _ _ G (onlyD (⟨6, nonce, epoch, cookie, name, session, player, salt, seq, thr, trn, fire, boost, data, tag⟩ : Dg)) rfl HG9.out) rfl ⟨rfl, HM9.out⟩
set_option maxHeartbeats 8000000 in
set_option maxRecDepth 100000 in
theorem only_7 (nonce : ByteArray) (epoch : Nat) (cookie name : ByteArray) (session : Nat) (player : Int) (salt : ByteArray) (seq : Nat) (thr trn : Int) (fire boost : Bool) (data tag : ByteArray) (w : World) : Calls Tryz.prog 20 #[.agg (⟨7, nonce, epoch, cookie, name, session, player, salt, seq, thr, trn, fire, boost, data, tag⟩ : Dg).cells.toArray] w fun e w' => e = .returned (.agg (onlyD (⟨7, nonce, epoch, cookie, name, session, player, salt, seq, thr, trn, fire, boost, data, tag⟩ : Dg)).cells.toArray) ∧ Below w.heap.size w w' := by
  have MARK : True := trivial
  go_enter Tryz.func20, Tryz.ntmps20
  go_wp2_with (first
    | ((with_reducible first | refine at_box_ ?_ | refine at_box2_ ?_); refine wpList_box_v rfl 27 _ rfl (⟨7, nonce, epoch, cookie, name, session, player, salt, seq, thr, trn, fire, boost, data, tag⟩ : Dg).cells rfl (by kernel_rfl) ?_; intro D w1 eD hD1 hb1 hz1; have n1_ := Aside0.mk (hD1.out); have n2_ := Aside0.mk (hb1.out); have n3_ := Aside0.mk (eD.out); clear hD1 hb1 eD)
    | ((with_reducible first | refine at_alloc_ ?_ | refine at_alloc2_ ?_); clear MARK; have MARK2 : True := trivial; refine wpList_alloc_v rfl 27 rfl Dg.zero.cells (by kernel_rfl) ?_; intro G w2 eG hG2 hb2 hz2; have m1_ := Aside0.mk (hG2.out); have m2_ := Aside0.mk (n2_.out.trans (hb2.out.mono n2_.out.size)); have m3_ := Aside0.mk (eG.out); have m4_ := Aside0.mk ((hb2.out.block D (blk_lt n1_.out)).trans n1_.out); clear hG2 hb2 eG)
    | ((with_reducible first | refine at_alloc_ ?_ | refine at_alloc2_ ?_); clear MARK2; refine wpList_alloc_v rfl 27 rfl Dg.zero.cells (by kernel_rfl) ?_; intro O w3 eO hO3 hb3 hz3; have HT := Aside0.mk (show Tri w w3 D G O (⟨7, nonce, epoch, cookie, name, session, player, salt, seq, thr, trn, fire, boost, data, tag⟩ : Dg) Dg.zero.cells from ⟨(hb3.out.block D (blk_lt m4_.out)).trans m4_.out, (hb3.out.block G (blk_lt m1_.out)).trans m1_.out, hO3.out, by have := eO.out; have := blk_lt m4_.out; have := blk_lt m1_.out; have := m2_.out.size; have := n2_.out.size; have := m3_.out; exact ⟨by omega, by omega, by omega, by omega⟩, m2_.out.trans (hb3.out.mono m2_.out.size)⟩); clear hO3 hb3 eO m1_ m2_ m3_ m4_ n1_ n2_ n3_; have cK := cell_of (i := 0) (v := .int .i64 7) HT.out.hD rfl)
    | ((with_reducible first | refine at_store_ ?_ | refine at_store2_ ?_); refine wpList_store_agg rfl 27 _ _ rfl O 0 rfl (dk 7).cells _ (by rfl) _ HT.out.hO (by exact Nat.le_refl 15) (fun v hv => one_cells hv) (by kernel_rfl) ?_; intro w4 hO4 hm4 hz4; rw [splice_all Dg.zero.cells (dk 7).cells rfl] at hO4; have n_ := Aside0.mk (HT.out.put hO4.out hm4.out); clear HT hO4 hm4 hz4; have HT := n_; clear n_; (try clear cK); have cK := cell_of (i := 0) (v := .int .i64 7) HT.out.hD rfl)
    | ((with_reducible first | refine at_load_ ?_ | refine at_load2_ ?_); refine wpList_load_one rfl 3 _ rfl D 0 rfl (⟨7, nonce, epoch, cookie, name, session, player, salt, seq, thr, trn, fire, boost, data, tag⟩ : Dg).cells _ _ m4_.out _ rfl _ Tryz.underlying3 rfl ?_)
    | ((with_reducible first | refine at_load_ ?_ | refine at_load2_ ?_); refine wpList_load_one rfl 3 _ rfl D 0 rfl (⟨7, nonce, epoch, cookie, name, session, player, salt, seq, thr, trn, fire, boost, data, tag⟩ : Dg).cells _ _ HT.out.hD _ rfl _ Tryz.underlying3 rfl ?_)
    | ((with_reducible first | refine at_load_ ?_ | refine at_load2_ ?_); refine wpList_load_one rfl 9 _ rfl D 14 rfl (⟨7, nonce, epoch, cookie, name, session, player, salt, seq, thr, trn, fire, boost, data, tag⟩ : Dg).cells _ _ HT.out.hD _ rfl _ Tryz.underlying9 rfl ?_)
    | ((with_reducible first | refine at_store_ ?_ | refine at_store2_ ?_); refine wpList_store_cell rfl 9 _ _ rfl O 14 rfl _ rfl _ _ HT.out.hO (by exact (by decide : 14 < 15)) rfl (by kernel_rfl) ?_; intro w4 hO4 hm4 hz4; have n_ := Aside0.mk (HT.out.put hO4.out hm4.out); clear HT hO4 hm4 hz4; have HT := n_; clear n_; (try clear cK); have cK := cell_of (i := 0) (v := .int .i64 7) HT.out.hD rfl)
    | ((with_reducible first | refine at_load_ ?_ | refine at_load2_ ?_); refine wpList_load_one rfl 23 _ rfl D 5 rfl (⟨7, nonce, epoch, cookie, name, session, player, salt, seq, thr, trn, fire, boost, data, tag⟩ : Dg).cells _ _ HT.out.hD _ rfl _ Tryz.underlying23 rfl ?_)
    | ((with_reducible first | refine at_store_ ?_ | refine at_store2_ ?_); refine wpList_store_cell rfl 23 _ _ rfl O 5 rfl _ rfl _ _ HT.out.hO (by exact (by decide : 5 < 15)) rfl (by kernel_rfl) ?_; intro w4 hO4 hm4 hz4; have n_ := Aside0.mk (HT.out.put hO4.out hm4.out); clear HT hO4 hm4 hz4; have HT := n_; clear n_; (try clear cK); have cK := cell_of (i := 0) (v := .int .i64 7) HT.out.hD rfl)
    | ((with_reducible first | refine at_load_ ?_ | refine at_load2_ ?_); refine wpList_load_one rfl 23 _ rfl D 8 rfl (⟨7, nonce, epoch, cookie, name, session, player, salt, seq, thr, trn, fire, boost, data, tag⟩ : Dg).cells _ _ HT.out.hD _ rfl _ Tryz.underlying23 rfl ?_)
    | ((with_reducible first | refine at_store_ ?_ | refine at_store2_ ?_); refine wpList_store_cell rfl 23 _ _ rfl O 8 rfl _ rfl _ _ HT.out.hO (by exact (by decide : 8 < 15)) rfl (by kernel_rfl) ?_; intro w4 hO4 hm4 hz4; have n_ := Aside0.mk (HT.out.put hO4.out hm4.out); clear HT hO4 hm4 hz4; have HT := n_; clear n_; (try clear cK); have cK := cell_of (i := 0) (v := .int .i64 7) HT.out.hD rfl)
    | ((with_reducible first | refine at_load_ ?_ | refine at_load2_ ?_); refine wpList_load_agg rfl 27 _ rfl O 0 rfl (onlyD (⟨7, nonce, epoch, cookie, name, session, player, salt, seq, thr, trn, fire, boost, data, tag⟩ : Dg)).cells (load_all HT.out.hO) _ Tryz.underlying27 rfl (by kernel_rfl) ?_)
    | ((with_reducible first | refine at_store_ ?_ | refine at_store2_ ?_); refine wpList_store_agg rfl 27 _ _ rfl G 0 rfl (onlyD (⟨7, nonce, epoch, cookie, name, session, player, salt, seq, thr, trn, fire, boost, data, tag⟩ : Dg)).cells Dg.zero.cells rfl _ HT.out.hG (by exact Nat.le_refl 15) (fun v hv => one_cells hv) (by kernel_rfl) ?_; intro w9 hG9 hm9 hz9; have HG9 := Aside0.mk (show w9.heap[G]? = some (.cells (onlyD (⟨7, nonce, epoch, cookie, name, session, player, salt, seq, thr, trn, fire, boost, data, tag⟩ : Dg)).cells.toArray 27 (0, 0)) from hG9.out); have HM9 := Aside0.mk (show Below w.heap.size w w9 from toBelow' HT.out.hB hm9.out HT.out.ne.2.2.2)))
  refine bodyPost_ret (results_only _ _ G (onlyD (⟨7, nonce, epoch, cookie, name, session, player, salt, seq, thr, trn, fire, boost, data, tag⟩ : Dg)) rfl HG9.out) rfl ⟨rfl, HM9.out⟩
theorem only_calls (d : Dg) (h : 1 ≤ d.kind ∧ d.kind ≤ 7) (w : World) : Calls Tryz.prog 20 #[.agg d.cells.toArray] w fun e w' => e = .returned (.agg (onlyD d).cells.toArray) ∧ Below w.heap.size w w' := by
  obtain ⟨kind, nonce, epoch, cookie, name, session, player, salt, seq, thr, trn, fire, boost, data, tag⟩ := d
  simp only at h
  have hk : kind = 1 ∨ kind = 2 ∨ kind = 3 ∨ kind = 4 ∨ kind = 5 ∨ kind = 6 ∨ kind = 7 := by omega
  rcases hk with rfl | rfl | rfl | rfl | rfl | rfl | rfl
  · exact only_1 nonce epoch cookie name session player salt seq thr trn fire boost data tag w
  · exact only_2 nonce epoch cookie name session player salt seq thr trn fire boost data tag w
  · exact only_3 nonce epoch cookie name session player salt seq thr trn fire boost data tag w
  · exact only_4 nonce epoch cookie name session player salt seq thr trn fire boost data tag w
  · exact only_5 nonce epoch cookie name session player salt seq thr trn fire boost data tag w
  · exact only_6 nonce epoch cookie name session player salt seq thr trn fire boost data tag w
  · exact only_7 nonce epoch cookie name session player salt seq thr trn fire boost data tag w
end Go.Proofs.YtniabkphbnimaaaGreatDoor.Sh
namespace Go.Proofs.YtniabkphbnimaaaGreatDoor.Sh
open Go Go.RowKit Go.Maps Go.Proofs.YtniabkphbnimaaaGreatDoorW.PrintWords Go.Proofs.YtniabkphbnimaaaGreatDoorW.PrintLast Go.Proofs.YtniabkphbnimaaaGreatDoor.Bs
theorem step_w {P : Program} {ops : Array Oper} {oi : Oper} {a : Act} {w : World} {Q : Exit → Act → World → Prop} {K : Act → World → Prop} {E : Prop} (hw : Region.wanted oi (yielded ops a.tmps) = true) (h : Oper.wp P oi a w K Q) : if Region.wanted oi (yielded ops a.tmps) = true then Oper.wp P oi a w K Q else E := by
  rw [if_pos hw]
  exact h
theorem ldagg_yields {P : Program} {o : Oper} {a : Act} {w : World} (ty : TypeId) (x : Operand) (ho : o.op = .load ty x) (g off : Nat) (hx : a.eval x = .pointer (some ⟨g, off, none⟩)) (cs : List Value) (hc : ∀ j v, cs[j]? = some v → w.cell? ⟨g, off + j, none⟩ = some v) (d : TypeDesc) (hu : P.underlying ty = some d) (hd : (match d with | .struct _ | .array _ _ => true | _ => false) = true) (hi : (P.info? ty).map (·.size) = some cs.length) :
    (execOp a.eval o).run P w = .ok (.value (.agg cs.toArray)) w := by
  have hl : (loadCells ⟨g, off, none⟩ cs.length).run P w = .ok cs.toArray w :=
    run_loadCells_list (P := P) w ⟨g, off, none⟩ cs (fun j v hv => by
      have hadd : (⟨g, off, none⟩ : Addr).add j = ⟨g, off + j, none⟩ := by unfold Addr.add; split <;> simp_all
      rw [hadd]
      exact hc j v hv)
  have hrun : (loadVar ty ⟨g, off, none⟩).run P w = .ok (.agg cs.toArray) w := by
    cases hq : P.info? ty with
    | none => simp [hq] at hi
    | some i =>
      have hs : i.size = cs.length := by simpa [hq] using hi
      have hagg : (isAgg ty).run P w = .ok true w := by
        unfold isAgg
        rw [Sem.run_bind, run_underlying hu w]
        cases d <;> simp_all
      simp [loadVar, Sem.run_bind, hagg, sizeOf, typeInfo, hq, hs, hl]
  unfold execOp
  simp only [ho, hx, Instr.loadAt, Instr.sureAddr, Sem.run_bind, Sem.run_pure, Result.andThen_ok, hrun]
end Go.Proofs.YtniabkphbnimaaaGreatDoor.Sh
namespace Go.Proofs.YtniabkphbnimaaaGreatDoor.Sh
open Go Go.RowKit Go.Maps Go.Proofs.YtniabkphbnimaaaGreatDoorW.PrintWords Go.Proofs.YtniabkphbnimaaaGreatDoorW.PrintLast Go.Proofs.YtniabkphbnimaaaGreatDoor.Bs
/-- All but the tag. -/
def preB (d : Dg) : List UInt8 :=
  74 :: 48 :: 49 :: UInt8.ofNat d.kind.toNat ::
  (if d.kind = 3 then bl d.nonce ++ len8 d.epoch ++ bl d.cookie ++ (UInt8.ofNat d.name.size :: bl d.name)
  else if d.kind = 4 then bl d.nonce ++ len8 d.session ++ [UInt8.ofNat d.player.toNat] ++ bl d.salt
  else if d.kind = 5 then len8 d.session ++ len8 d.seq ++ [sg d.thr, sg d.trn, UInt8.ofNat (flags d.fire d.boost)]
  else if d.kind = 6 then len8 d.session ++ len8 d.seq ++ bl d.data
  else len8 d.session ++ len8 d.seq)
theorem encB_pre (d : Dg) (h : 3 ≤ d.kind ∧ d.kind ≤ 7) : encB d = preB d ++ bl d.tag := by
  obtain ⟨kind, nonce, epoch, cookie, name, session, player, salt, seq, thr, trn, fire, boost, data, tag⟩ := d
  simp only at h
  have hk : kind = 3 ∨ kind = 4 ∨ kind = 5 ∨ kind = 6 ∨ kind = 7 := by omega
  rcases hk with rfl | rfl | rfl | rfl | rfl <;> simp [encB, tailB, preB]
theorem pre_len (d : Dg) (h : 3 ≤ d.kind ∧ d.kind ≤ 7) : 4 ≤ (preB d).length := by
  unfold preB
  simp only [List.length_cons]
  omega
theorem pre_len20 (d : Dg) (h : 3 ≤ d.kind ∧ d.kind ≤ 7) (hf : d.kind ≤ 4 → d.nonce.size = 16) : 20 ≤ (preB d).length := by
  obtain ⟨kind, nonce, epoch, cookie, name, session, player, salt, seq, thr, trn, fire, boost, data, tag⟩ := d
  simp only at h hf
  have hk : kind = 3 ∨ kind = 4 ∨ kind = 5 ∨ kind = 6 ∨ kind = 7 := by omega
  rcases hk with rfl | rfl | rfl | rfl | rfl <;> simp [preB, len8, bl_len] <;> omega
theorem body_pre (d : Dg) (h : 3 ≤ d.kind ∧ d.kind ≤ 7) (x : List UInt8) (hx : x.length = 32) : bodyB (preB d ++ x) = preB d := by
  have hl := pre_len d h
  have e1 : (preB d ++ x).length = (preB d).length + 32 := by rw [List.length_append, hx]
  have e2 : (preB d ++ x).getD 3 0 = UInt8.ofNat d.kind.toNat := by unfold preB; rfl
  have e3 : (preB d ++ x).take 3 = [74, 48, 49] := by unfold preB; rfl
  have e4 : (UInt8.ofNat d.kind.toNat).toNat = d.kind.toNat := by rw [u8n]; omega
  unfold bodyB
  rw [e1, e2, e3, e4, if_pos ⟨rfl, by omega, by omega, by omega⟩, Nat.add_sub_cancel]
  exact List.take_left
/-- The same with another tag. -/
def tagged (d : Dg) (x : List UInt8) : Dg := { d with tag := str x }
theorem seal_ok (d : Dg) (k : List UInt8) (h : (sealB d k).2 = 0) : 3 ≤ d.kind ∧ d.kind ≤ 7 ∧ sealB d k = (str (preB d ++ hmac k (preB d)), 0) ∧ (∀ x : List UInt8, x.length = 32 → fitP (tagged d x) ∧ encB (tagged d x) = preB d ++ x ∧ (preB d ++ x).length ≤ 1200) := by
  unfold sealB at h
  by_cases h37 : 3 ≤ d.kind ∧ d.kind ≤ 7
  · rw [if_pos h37] at h
    by_cases he : (enc { d with tag := str (List.replicate 32 0) }).2 = 0
    · have h0 := enc_ok _ he
      have e1 : encB { d with tag := str (List.replicate 32 0) } = preB d ++ List.replicate 32 0 := encB_pre { d with tag := str (List.replicate 32 0) } h37
      refine ⟨h37.1, h37.2, ?_, fun x hx => ⟨?_, ?_, ?_⟩⟩
      · unfold sealB
        rw [if_pos h37, if_neg (by rw [he]; decide), h0.2.2.2.2, e1]
        show (str (bodyB (preB d ++ List.replicate 32 0) ++ hmac k (bodyB (preB d ++ List.replicate 32 0))), (0 : Int)) = _
        rw [body_pre d h37 _ (by rw [List.length_replicate])]
      · have hf := h0.2.2.1
        unfold fitP at hf ⊢
        exact ⟨hf.1, hf.2.1, hf.2.2.1, hf.2.2.2.1, hf.2.2.2.2.1, fun _ => hx⟩
      · exact encB_pre (tagged d x) h37
      · have h1 := h0.2.2.2.1
        rw [e1, List.length_append, List.length_replicate] at h1
        rw [List.length_append]
        omega
    · rw [if_pos he] at h
      exact absurd h he
  · rw [if_neg h37] at h
    cases h
theorem dec_seal (d : Dg) (k : List UInt8) (hn : d.epoch < 18446744073709551616 ∧ d.session < 18446744073709551616 ∧ d.seq < 18446744073709551616) (h : (sealB d k).2 = 0) : dec (bl (sealB d k).1) = (onlyD (tagged d (hmac k (preB d))), 0) := by
  have h0 := seal_ok d k h
  have h1 := h0.2.2.2 (hmac k (preB d)) (length_sha _)
  rw [h0.2.2.1]
  show dec (preB d ++ hmac k (preB d)) = _
  rw [← h1.2.1]
  exact dec_encB _ ⟨by show 1 ≤ d.kind; omega, h0.2.1⟩ h1.1 hn (by rw [h1.2.1]; exact h1.2.2)
end Go.Proofs.YtniabkphbnimaaaGreatDoor.Sh
namespace Go.Proofs.YtniabkphbnimaaaGreatDoor.Sh
open Go Go.RowKit Go.Maps Go.Proofs.YtniabkphbnimaaaGreatDoorW.PrintWords Go.Proofs.YtniabkphbnimaaaGreatDoorW.PrintLast Go.Proofs.YtniabkphbnimaaaGreatDoor.Bs
/-- The head of a datagram with a tag. -/
def headed (P : List UInt8) : Prop := 4 ≤ P.length ∧ P.take 3 = [74, 48, 49] ∧ 3 ≤ (P.getD 3 0).toNat ∧ (P.getD 3 0).toNat ≤ 7
theorem body_headed (P x : List UInt8) (h : headed P) (hx : x.length = 32) : bodyB (P ++ x) = P := by
  obtain ⟨h4, h3, ha, hb⟩ := h
  have e1 : (P ++ x).length = P.length + 32 := by rw [List.length_append, hx]
  have e2 : (P ++ x).getD 3 0 = P.getD 3 0 := by
    rw [List.getD_eq_getElem?_getD, List.getD_eq_getElem?_getD, List.getElem?_append_left (by omega)]
  have e3 : (P ++ x).take 3 = [74, 48, 49] := by rw [List.take_append_of_le_length (by omega), h3]
  unfold bodyB
  rw [e1, e2, e3, if_pos ⟨rfl, by omega, ha, hb⟩, Nat.add_sub_cancel]
  exact List.take_left
theorem sealed_headed (P x k : List UInt8) (h : headed P) (hx : x.length = 32) : sealedB (P ++ x) k = decide (x = hmac k P) := by
  unfold sealedB
  rw [body_headed P x h hx]
  refine decide_eq_decide.mpr ⟨fun h2 => ?_, fun h2 => ⟨fun e => ?_, ?_⟩⟩
  · have := h2.2
    rwa [List.drop_left] at this
  · have := h.1
    rw [e] at this
    simp at this
  · rw [List.drop_left]
    exact h2
theorem headed_pre (d : Dg) (h : 3 ≤ d.kind ∧ d.kind ≤ 7) : headed (preB d) := by
  have e : (preB d).getD 3 0 = UInt8.ofNat d.kind.toNat := by unfold preB; rfl
  refine ⟨pre_len d h, by unfold preB; rfl, ?_, ?_⟩
  · rw [e, u8n]; omega
  · rw [e, u8n]; omega
theorem headed_set (P : List UInt8) (h : headed P) (i : Nat) (hi : 4 ≤ i) (b : UInt8) : headed (P.set i b) := by
  obtain ⟨h4, h3, ha, hb⟩ := h
  have e2 : (P.set i b).getD 3 0 = P.getD 3 0 := by
    rw [List.getD_eq_getElem?_getD, List.getD_eq_getElem?_getD, List.getElem?_set_ne (by omega)]
  refine ⟨by rw [List.length_set]; exact h4, ?_, by rw [e2]; exact ha, by rw [e2]; exact hb⟩
  rw [List.take_set_of_le (by omega)]
  exact h3
theorem headed_take (P : List UInt8) (h : headed P) (i : Nat) (hi : 4 ≤ i) (hp : i ≤ P.length) : headed (P.take i) := by
  obtain ⟨h4, h3, ha, hb⟩ := h
  have e2 : (P.take i).getD 3 0 = P.getD 3 0 := by
    rw [List.getD_eq_getElem?_getD, List.getD_eq_getElem?_getD, List.getElem?_take_of_lt (by omega)]
  refine ⟨by rw [List.length_take]; omega, ?_, by rw [e2]; exact ha, by rw [e2]; exact hb⟩
  rw [List.take_take, Nat.min_eq_left (by omega)]
  exact h3
theorem xor_ne (x m : UInt8) (h : m ≠ 0) : x ^^^ m ≠ x := by
  intro e
  apply h
  have h2 : x ^^^ (x ^^^ m) = x ^^^ x := by rw [e]
  rw [← UInt8.xor_assoc, UInt8.xor_self, UInt8.zero_xor] at h2
  exact h2
/-- A byte of the tag turned: not sealed. -/
theorem flipped (P T k : List UInt8) (h : headed P) (hT : T = hmac k P) (i : Nat) (hi : i < 32) (m : UInt8) (hm : m ≠ 0) (b : UInt8) (hb : (P ++ T)[P.length + 31 - i]? = some b) : sealedB ((P ++ T).set (P.length + 31 - i) (b ^^^ m)) k = false := by
  have hl : T.length = 32 := by rw [hT]; exact length_sha _
  have e1 : (P ++ T).set (P.length + 31 - i) (b ^^^ m) = P ++ T.set (31 - i) (b ^^^ m) := by
    rw [List.set_append_right _ _ (by omega), show P.length + 31 - i - P.length = 31 - i by omega]
  have e2 : T[31 - i]? = some b := by
    rw [List.getElem?_append_right (by omega), show P.length + 31 - i - P.length = 31 - i by omega] at hb
    exact hb
  rw [e1, sealed_headed P _ k h (by rw [List.length_set]; exact hl)]
  refine decide_eq_false (fun h2 => ?_)
  rw [← hT] at h2
  have h3 : (T.set (31 - i) (b ^^^ m))[31 - i]? = some (b ^^^ m) := by rw [List.getElem?_set_self (by omega)]
  rw [h2, e2] at h3
  exact xor_ne b m hm (Option.some.inj h3).symm
/-- The last byte of the body turned. -/
theorem turned_body (P T k : List UInt8) (h : headed P) (h20 : 20 ≤ P.length) (hT : T.length = 32) (b : UInt8) : bodyB ((P ++ T).set (P.length - 1) b) = P.set (P.length - 1) b ∧ sealedB ((P ++ T).set (P.length - 1) b) k = decide (T = hmac k (P.set (P.length - 1) b)) := by
  have e1 : (P ++ T).set (P.length - 1) b = P.set (P.length - 1) b ++ T := List.set_append_left _ _ (by omega)
  have h2 := headed_set P h (P.length - 1) (by omega) b
  rw [e1]
  exact ⟨body_headed _ _ h2 hT, sealed_headed _ _ _ h2 hT⟩
/-- One byte less. -/
theorem less_body (P T k : List UInt8) (h : headed P) (h20 : 20 ≤ P.length) (hT : T.length = 32) : (P ++ T).take (P.length + 31) = P.take (P.length - 1) ++ (P ++ T.take 31).drop (P.length - 1) ∧ ((P ++ T.take 31).drop (P.length - 1)).length = 32 := by
  have e1 : (P ++ T).take (P.length + 31) = P ++ T.take 31 := by
    rw [List.take_append, List.take_of_length_le (by omega), show P.length + 31 - P.length = 31 by omega]
  refine ⟨?_, ?_⟩
  · rw [e1]
    have e2 : P.take (P.length - 1) = (P ++ T.take 31).take (P.length - 1) := (List.take_append_of_le_length (by omega)).symm
    rw [e2, List.take_append_drop]
  · rw [List.length_drop, List.length_append, List.length_take]
    omega
end Go.Proofs.YtniabkphbnimaaaGreatDoor.Sh
namespace Go.Proofs.YtniabkphbnimaaaGreatDoor.Sh
open Go Go.RowKit Go.Maps Go.Proofs.YtniabkphbnimaaaGreatDoorW.PrintWords Go.Proofs.YtniabkphbnimaaaGreatDoorW.PrintLast Go.Proofs.YtniabkphbnimaaaGreatDoor.Bs
def zeroed (d : Dg) : Dg := { d with tag := str (List.replicate 32 0) }
theorem seal_err (d : Dg) (k : List UInt8) (h : (sealB d k).2 ≠ 0) : (sealB d k).1 = ⟨#[]⟩ ∧ ((3 ≤ d.kind ∧ d.kind ≤ 7 ∧ (sealB d k).2 = (enc (zeroed d)).2 ∧ (enc (zeroed d)).2 ≠ 0 ∧ (enc d).2 ≠ 0) ∨ (d.kind < 3 ∧ (sealB d k).2 = 71) ∨ (7 < d.kind ∧ (sealB d k).2 = 71 ∧ (enc (zeroed d)).2 = 71 ∧ (enc d).2 = 71)) := by
  by_cases h37 : 3 ≤ d.kind ∧ d.kind ≤ 7
  · have e0 : sealB d k = if (enc (zeroed d)).2 ≠ 0 then (⟨#[]⟩, (enc (zeroed d)).2) else (str (bodyB (bl (enc (zeroed d)).1) ++ hmac k (bodyB (bl (enc (zeroed d)).1))), 0) := by
      unfold sealB
      rw [if_pos h37]
      rfl
    by_cases he : (enc (zeroed d)).2 ≠ 0
    · rw [if_pos he] at e0
      rw [e0]
      refine ⟨rfl, Or.inl ⟨h37.1, h37.2, rfl, he, fun hd => he ?_⟩⟩
      have h0 := enc_ok d hd
      have hk : 1 ≤ (zeroed d).kind ∧ (zeroed d).kind ≤ 7 := ⟨by show 1 ≤ d.kind; omega, h37.2⟩
      have hf : fitP (zeroed d) := by
        have hf := h0.2.2.1
        unfold fitP at hf ⊢
        exact ⟨hf.1, hf.2.1, hf.2.2.1, hf.2.2.2.1, hf.2.2.2.2.1, fun _ => by show (List.replicate 32 (0 : UInt8)).length = 32; rw [List.length_replicate]⟩
      have ht : d.tag.size = 32 := by have := h0.2.2.1.2.2.2.2.2; exact this h37.1
      have hl : (encB (zeroed d)).length = (encB d).length := by
        rw [encB_pre d h37, encB_pre (zeroed d) h37, List.length_append, List.length_append, bl_len, bl_len, ht]
        show (preB d).length + (List.replicate 32 (0 : UInt8)).length = _
        rw [List.length_replicate]
      rw [enc_k _ hk]
      unfold encK
      rw [if_pos hf, if_neg (by rw [hl]; have := h0.2.2.2.1; omega)]
    · rw [if_neg he] at e0
      rw [e0] at h
      exact absurd rfl h
  · have e0 : sealB d k = (⟨#[]⟩, 71) := by unfold sealB; rw [if_neg h37]
    rw [e0]
    refine ⟨rfl, Or.inr ?_⟩
    by_cases h3 : d.kind < 3
    · exact Or.inl ⟨h3, rfl⟩
    · have h7 : ¬ (1 ≤ d.kind ∧ d.kind ≤ 7) := by omega
      have h7' : ¬ (1 ≤ (zeroed d).kind ∧ (zeroed d).kind ≤ 7) := h7
      refine Or.inr ⟨by omega, rfl, ?_, ?_⟩
      · unfold enc
        rw [if_neg h7']
      · unfold enc
        rw [if_neg h7]
theorem zeroed_ok {d : Dg} (h : d.ok) : (zeroed d).ok := by
  unfold Dg.ok at h ⊢
  exact ⟨h.1, h.2.1, h.2.2.1, h.2.2.2.1, h.2.2.2.2.1, h.2.2.2.2.2.1, h.2.2.2.2.2.2.1, by show (List.replicate 32 (0 : UInt8)).length < _; rw [List.length_replicate]; omega⟩
set_option maxHeartbeats 8000000 in
set_option maxRecDepth 100000 in
theorem seals_bad (d : Dg) (k o : ByteArray) (w : World) (hg : GL w) (hd : d.ok) (hkd : -9223372036854775808 ≤ d.kind ∧ d.kind ≤ 9223372036854775807) (hk : k.size ≤ 1048576) (hs : (sealB d (bl k)).2 ≠ 0) : Calls Tryz.prog 7 #[.agg d.cells.toArray, .string k, .string o] w fun e w' => e = .returned (.bool true) ∧ Below w.heap.size w w' := by
  have HG := Aside0.mk hg
  obtain ⟨e0, ee⟩ : ∃ e, e = (sealB d (bl k)).2 := ⟨_, rfl⟩
  obtain ⟨s0, es⟩ : ∃ s, s = (enc d).1 := ⟨_, rfl⟩
  obtain ⟨f0, ef⟩ : ∃ e, e = (enc d).2 := ⟨_, rfl⟩
  obtain ⟨t0, et⟩ : ∃ s, s = (enc (zeroed d)).1 := ⟨_, rfl⟩
  obtain ⟨g0, eg⟩ : ∃ e, e = (enc (zeroed d)).2 := ⟨_, rfl⟩
  obtain ⟨z, ez⟩ : ∃ z, z = str (List.replicate 32 0) := ⟨_, rfl⟩
  have AC := Aside0.mk alive_calls
  have SC := Aside0.mk (show ∀ w, GL w → Calls Tryz.prog 18 #[.agg d.cells.toArray, .string k] w fun e w' => e = .returned (.tuple #[.string ⟨#[]⟩, .int .i64 e0]) ∧ Below w.heap.size w w' from fun w hg => by
    have h := seal_calls d k w hg hd hkd (by omega)
    rw [(seal_err d (bl k) hs).1, ← ee] at h
    exact h)
  have EC := Aside0.mk (show ∀ w, Calls Tryz.prog 16 #[.agg d.cells.toArray] w fun e w' => e = .returned (.tuple #[.string s0, .int .i64 f0]) ∧ Below w.heap.size w w' from fun w => by rw [es, ef]; exact encode_calls d hd hkd w)
  have ZC := Aside0.mk (show ∀ w, Calls Tryz.prog 16 #[.agg (zeroed d).cells.toArray] w fun e w' => e = .returned (.tuple #[.string t0, .int .i64 g0]) ∧ Below w.heap.size w w' from fun w => by rw [et, eg]; exact encode_calls (zeroed d) (zeroed_ok hd) hkd w)
  have TC := Aside0.mk (show ∀ w, Calls Tryz.prog 21 #[.int .u8 0, .int .i64 32] w fun e w' => e = .returned (.string z) ∧ Below w.heap.size w w' from fun w => by rw [ez]; exact times_calls 0 _ rfl 32 _ rfl (by omega) w)
  have HZD := Aside0.mk (show d.cells.set 14 (.string z) = (zeroed d).cells from by rw [ez]; rfl)
  have n1 : (e0 == 0) = false := beq_eq_false_iff_ne.mpr (by rw [ee]; exact hs)
  have n2 : (e0 != 0) = true := by simp [bne, n1]
  have hcase := (seal_err d (bl k) hs).2
  rw [← ee, ← eg, ← ef] at hcase
  clear ee es ef et eg ez hs hg hd hkd hk
  rcases hcase with ⟨h3, h7, he, hn, hf⟩ | ⟨h3, he⟩ | ⟨h7, he, hn, hf⟩
  · subst he
    have f1 : (f0 == 0) = false := beq_eq_false_iff_ne.mpr hf
    have f2 : (f0 != 0) = true := by simp [bne, f1]
    clear h3 h7 hn hf
    go_enter Tryz.func7, Tryz.ntmps7
    go_wp2_with (first
      | ((with_reducible first | refine at_box_ ?_ | refine at_box2_ ?_); refine wpList_box_v rfl 27 _ rfl d.cells rfl (by kernel_rfl) ?_; intro D w1 eD hD1 hb1 hz1; have HDD := Aside0.mk (show w.heap.size ≤ D from Nat.le_of_eq eD.out.symm); have HD := Aside0.mk (show w1.heap[D]? = some (.cells d.cells.toArray 27 (0, 0)) from hD1.out); have HB := Aside0.mk (show Below w.heap.size w w1 from hb1.out); clear hD1 hb1 hz1 eD)
      | (go_at_call 9; (with_reducible refine (AC.out _ (gl_below HG.out HB.out)).mono ?_); rintro e w9 ⟨rfl, hb9⟩; have n1_ := Aside0.mk (HB.out.trans (hb9.mono HB.out.size)); have n2_ := Aside0.mk ((hb9.block D (blk_lt HD.out)).trans HD.out); clear HB HD; have HB := n1_; have HD := n2_; clear n1_ n2_; (try clear cK); have cK := cell_of (i := 0) (v := .int .i64 d.kind) HD.out rfl; clear hb9)
      | ((with_reducible first | refine at_load_ ?_ | refine at_load2_ ?_); refine wpList_load_agg rfl 27 _ rfl D 0 rfl d.cells (load_all HD.out) _ Tryz.underlying27 rfl (by kernel_rfl) ?_)
      | (go_at_call 18; (with_reducible refine (SC.out _ (gl_below HG.out HB.out)).mono ?_); rintro e w9 ⟨rfl, hb9⟩; have n1_ := Aside0.mk (HB.out.trans (hb9.mono HB.out.size)); have n2_ := Aside0.mk ((hb9.block D (blk_lt HD.out)).trans HD.out); clear HB HD; have HB := n1_; have HD := n2_; clear n1_ n2_; (try clear cK); have cK := cell_of (i := 0) (v := .int .i64 d.kind) HD.out rfl; clear hb9)
      | (go_at_call 16; (with_reducible refine (EC.out _).mono ?_); rintro e w9 ⟨rfl, hb9⟩; have n1_ := Aside0.mk (HB.out.trans (hb9.mono HB.out.size)); have n2_ := Aside0.mk ((hb9.block D (blk_lt HD.out)).trans HD.out); clear HB HD; have HB := n1_; have HD := n2_; clear n1_ n2_; (try clear cK); have cK := cell_of (i := 0) (v := .int .i64 d.kind) HD.out rfl; clear hb9)
      | (go_at_call 21; (with_reducible refine (TC.out _).mono ?_); rintro e w9 ⟨rfl, hb9⟩; have n1_ := Aside0.mk (HB.out.trans (hb9.mono HB.out.size)); have n2_ := Aside0.mk ((hb9.block D (blk_lt HD.out)).trans HD.out); clear HB HD; have HB := n1_; have HD := n2_; clear n1_ n2_; (try clear cK); have cK := cell_of (i := 0) (v := .int .i64 d.kind) HD.out rfl; clear hb9)
      | ((with_reducible first | refine at_store_ ?_ | refine at_store2_ ?_); refine wpList_store_cell rfl 9 _ _ rfl D 14 rfl (.string z) rfl _ _ HD.out (by exact (by decide : 14 < 15)) rfl (by kernel_rfl) ?_; intro w4 hO4 hm4 hz4; have n2_ := Aside0.mk (show w4.heap[D]? = some (.cells (zeroed d).cells.toArray 27 (0, 0)) from by rw [← HZD.out]; exact hO4.out); have n1_ := Aside0.mk (toBelow' HB.out hm4.out HDD.out); clear HB HD hO4 hm4 hz4; have HB := n1_; have HD := n2_; clear n1_ n2_; (try clear cK); have cK := cell_of (i := 0) (v := .int .i64 d.kind) HD.out rfl)
      | ((with_reducible first | refine at_load_ ?_ | refine at_load2_ ?_); refine wpList_load_agg rfl 27 _ rfl D 0 rfl (zeroed d).cells (load_all HD.out) _ Tryz.underlying27 rfl (by kernel_rfl) ?_)
      | (go_at_call 16; (with_reducible refine (ZC.out _).mono ?_); rintro e w9 ⟨rfl, hb9⟩; have n1_ := Aside0.mk (HB.out.trans (hb9.mono HB.out.size)); have n2_ := Aside0.mk ((hb9.block D (blk_lt HD.out)).trans HD.out); clear HB HD; have HB := n1_; have HD := n2_; clear n1_ n2_; (try clear cK); have cK := cell_of (i := 0) (v := .int .i64 d.kind) HD.out rfl; clear hb9))
    go_ret
    exact ⟨rfl, HB.out⟩
  · subst he
    have k1 : decide (d.kind < 3) = true := decide_eq_true h3
    clear h3
    by_cases hg0 : g0 = 71
    · subst hg0
      by_cases hf : f0 = 0
      · subst hf
        go_enter Tryz.func7, Tryz.ntmps7
        go_wp2_with (first
          | ((with_reducible first | refine at_box_ ?_ | refine at_box2_ ?_); refine wpList_box_v rfl 27 _ rfl d.cells rfl (by kernel_rfl) ?_; intro D w1 eD hD1 hb1 hz1; have HDD := Aside0.mk (show w.heap.size ≤ D from Nat.le_of_eq eD.out.symm); have HD := Aside0.mk (show w1.heap[D]? = some (.cells d.cells.toArray 27 (0, 0)) from hD1.out); have HB := Aside0.mk (show Below w.heap.size w w1 from hb1.out); clear hD1 hb1 hz1 eD)
          | (go_at_call 9; (with_reducible refine (AC.out _ (gl_below HG.out HB.out)).mono ?_); rintro e w9 ⟨rfl, hb9⟩; have n1_ := Aside0.mk (HB.out.trans (hb9.mono HB.out.size)); have n2_ := Aside0.mk ((hb9.block D (blk_lt HD.out)).trans HD.out); clear HB HD; have HB := n1_; have HD := n2_; clear n1_ n2_; (try clear cK); have cK := cell_of (i := 0) (v := .int .i64 d.kind) HD.out rfl; clear hb9)
          | ((with_reducible first | refine at_load_ ?_ | refine at_load2_ ?_); refine wpList_load_agg rfl 27 _ rfl D 0 rfl d.cells (load_all HD.out) _ Tryz.underlying27 rfl (by kernel_rfl) ?_)
          | (go_at_call 18; (with_reducible refine (SC.out _ (gl_below HG.out HB.out)).mono ?_); rintro e w9 ⟨rfl, hb9⟩; have n1_ := Aside0.mk (HB.out.trans (hb9.mono HB.out.size)); have n2_ := Aside0.mk ((hb9.block D (blk_lt HD.out)).trans HD.out); clear HB HD; have HB := n1_; have HD := n2_; clear n1_ n2_; (try clear cK); have cK := cell_of (i := 0) (v := .int .i64 d.kind) HD.out rfl; clear hb9)
          | (go_at_call 16; (with_reducible refine (EC.out _).mono ?_); rintro e w9 ⟨rfl, hb9⟩; have n1_ := Aside0.mk (HB.out.trans (hb9.mono HB.out.size)); have n2_ := Aside0.mk ((hb9.block D (blk_lt HD.out)).trans HD.out); clear HB HD; have HB := n1_; have HD := n2_; clear n1_ n2_; (try clear cK); have cK := cell_of (i := 0) (v := .int .i64 d.kind) HD.out rfl; clear hb9)
          | (go_at_call 21; (with_reducible refine (TC.out _).mono ?_); rintro e w9 ⟨rfl, hb9⟩; have n1_ := Aside0.mk (HB.out.trans (hb9.mono HB.out.size)); have n2_ := Aside0.mk ((hb9.block D (blk_lt HD.out)).trans HD.out); clear HB HD; have HB := n1_; have HD := n2_; clear n1_ n2_; (try clear cK); have cK := cell_of (i := 0) (v := .int .i64 d.kind) HD.out rfl; clear hb9)
          | ((with_reducible first | refine at_store_ ?_ | refine at_store2_ ?_); refine wpList_store_cell rfl 9 _ _ rfl D 14 rfl (.string z) rfl _ _ HD.out (by exact (by decide : 14 < 15)) rfl (by kernel_rfl) ?_; intro w4 hO4 hm4 hz4; have n2_ := Aside0.mk (show w4.heap[D]? = some (.cells (zeroed d).cells.toArray 27 (0, 0)) from by rw [← HZD.out]; exact hO4.out); have n1_ := Aside0.mk (toBelow' HB.out hm4.out HDD.out); clear HB HD hO4 hm4 hz4; have HB := n1_; have HD := n2_; clear n1_ n2_; (try clear cK); have cK := cell_of (i := 0) (v := .int .i64 d.kind) HD.out rfl)
          | ((with_reducible first | refine at_load_ ?_ | refine at_load2_ ?_); refine wpList_load_agg rfl 27 _ rfl D 0 rfl (zeroed d).cells (load_all HD.out) _ Tryz.underlying27 rfl (by kernel_rfl) ?_)
          | (go_at_call 16; (with_reducible refine (ZC.out _).mono ?_); rintro e w9 ⟨rfl, hb9⟩; have n1_ := Aside0.mk (HB.out.trans (hb9.mono HB.out.size)); have n2_ := Aside0.mk ((hb9.block D (blk_lt HD.out)).trans HD.out); clear HB HD; have HB := n1_; have HD := n2_; clear n1_ n2_; (try clear cK); have cK := cell_of (i := 0) (v := .int .i64 d.kind) HD.out rfl; clear hb9))
        go_ret
        exact ⟨rfl, HB.out⟩
      · have f1 : (f0 == 0) = false := beq_eq_false_iff_ne.mpr hf
        have f2 : (f0 != 0) = true := by simp [bne, f1]
        clear hf
        go_enter Tryz.func7, Tryz.ntmps7
        go_wp2_with (first
          | ((with_reducible first | refine at_box_ ?_ | refine at_box2_ ?_); refine wpList_box_v rfl 27 _ rfl d.cells rfl (by kernel_rfl) ?_; intro D w1 eD hD1 hb1 hz1; have HDD := Aside0.mk (show w.heap.size ≤ D from Nat.le_of_eq eD.out.symm); have HD := Aside0.mk (show w1.heap[D]? = some (.cells d.cells.toArray 27 (0, 0)) from hD1.out); have HB := Aside0.mk (show Below w.heap.size w w1 from hb1.out); clear hD1 hb1 hz1 eD)
          | (go_at_call 9; (with_reducible refine (AC.out _ (gl_below HG.out HB.out)).mono ?_); rintro e w9 ⟨rfl, hb9⟩; have n1_ := Aside0.mk (HB.out.trans (hb9.mono HB.out.size)); have n2_ := Aside0.mk ((hb9.block D (blk_lt HD.out)).trans HD.out); clear HB HD; have HB := n1_; have HD := n2_; clear n1_ n2_; (try clear cK); have cK := cell_of (i := 0) (v := .int .i64 d.kind) HD.out rfl; clear hb9)
          | ((with_reducible first | refine at_load_ ?_ | refine at_load2_ ?_); refine wpList_load_agg rfl 27 _ rfl D 0 rfl d.cells (load_all HD.out) _ Tryz.underlying27 rfl (by kernel_rfl) ?_)
          | (go_at_call 18; (with_reducible refine (SC.out _ (gl_below HG.out HB.out)).mono ?_); rintro e w9 ⟨rfl, hb9⟩; have n1_ := Aside0.mk (HB.out.trans (hb9.mono HB.out.size)); have n2_ := Aside0.mk ((hb9.block D (blk_lt HD.out)).trans HD.out); clear HB HD; have HB := n1_; have HD := n2_; clear n1_ n2_; (try clear cK); have cK := cell_of (i := 0) (v := .int .i64 d.kind) HD.out rfl; clear hb9)
          | (go_at_call 16; (with_reducible refine (EC.out _).mono ?_); rintro e w9 ⟨rfl, hb9⟩; have n1_ := Aside0.mk (HB.out.trans (hb9.mono HB.out.size)); have n2_ := Aside0.mk ((hb9.block D (blk_lt HD.out)).trans HD.out); clear HB HD; have HB := n1_; have HD := n2_; clear n1_ n2_; (try clear cK); have cK := cell_of (i := 0) (v := .int .i64 d.kind) HD.out rfl; clear hb9)
          | (go_at_call 21; (with_reducible refine (TC.out _).mono ?_); rintro e w9 ⟨rfl, hb9⟩; have n1_ := Aside0.mk (HB.out.trans (hb9.mono HB.out.size)); have n2_ := Aside0.mk ((hb9.block D (blk_lt HD.out)).trans HD.out); clear HB HD; have HB := n1_; have HD := n2_; clear n1_ n2_; (try clear cK); have cK := cell_of (i := 0) (v := .int .i64 d.kind) HD.out rfl; clear hb9)
          | ((with_reducible first | refine at_store_ ?_ | refine at_store2_ ?_); refine wpList_store_cell rfl 9 _ _ rfl D 14 rfl (.string z) rfl _ _ HD.out (by exact (by decide : 14 < 15)) rfl (by kernel_rfl) ?_; intro w4 hO4 hm4 hz4; have n2_ := Aside0.mk (show w4.heap[D]? = some (.cells (zeroed d).cells.toArray 27 (0, 0)) from by rw [← HZD.out]; exact hO4.out); have n1_ := Aside0.mk (toBelow' HB.out hm4.out HDD.out); clear HB HD hO4 hm4 hz4; have HB := n1_; have HD := n2_; clear n1_ n2_; (try clear cK); have cK := cell_of (i := 0) (v := .int .i64 d.kind) HD.out rfl)
          | ((with_reducible first | refine at_load_ ?_ | refine at_load2_ ?_); refine wpList_load_agg rfl 27 _ rfl D 0 rfl (zeroed d).cells (load_all HD.out) _ Tryz.underlying27 rfl (by kernel_rfl) ?_)
          | (go_at_call 16; (with_reducible refine (ZC.out _).mono ?_); rintro e w9 ⟨rfl, hb9⟩; have n1_ := Aside0.mk (HB.out.trans (hb9.mono HB.out.size)); have n2_ := Aside0.mk ((hb9.block D (blk_lt HD.out)).trans HD.out); clear HB HD; have HB := n1_; have HD := n2_; clear n1_ n2_; (try clear cK); have cK := cell_of (i := 0) (v := .int .i64 d.kind) HD.out rfl; clear hb9))
        go_ret
        exact ⟨rfl, HB.out⟩
    · have g1 : ((71 : Int) == g0) = false := beq_eq_false_iff_ne.mpr (fun h => hg0 h.symm)
      by_cases hg1 : g0 = 0
      · subst hg1
        by_cases hf : f0 = 0
        · subst hf
          go_enter Tryz.func7, Tryz.ntmps7
          go_wp2_with (first
            | ((with_reducible first | refine at_box_ ?_ | refine at_box2_ ?_); refine wpList_box_v rfl 27 _ rfl d.cells rfl (by kernel_rfl) ?_; intro D w1 eD hD1 hb1 hz1; have HDD := Aside0.mk (show w.heap.size ≤ D from Nat.le_of_eq eD.out.symm); have HD := Aside0.mk (show w1.heap[D]? = some (.cells d.cells.toArray 27 (0, 0)) from hD1.out); have HB := Aside0.mk (show Below w.heap.size w w1 from hb1.out); clear hD1 hb1 hz1 eD)
            | (go_at_call 9; (with_reducible refine (AC.out _ (gl_below HG.out HB.out)).mono ?_); rintro e w9 ⟨rfl, hb9⟩; have n1_ := Aside0.mk (HB.out.trans (hb9.mono HB.out.size)); have n2_ := Aside0.mk ((hb9.block D (blk_lt HD.out)).trans HD.out); clear HB HD; have HB := n1_; have HD := n2_; clear n1_ n2_; (try clear cK); have cK := cell_of (i := 0) (v := .int .i64 d.kind) HD.out rfl; clear hb9)
            | ((with_reducible first | refine at_load_ ?_ | refine at_load2_ ?_); refine wpList_load_agg rfl 27 _ rfl D 0 rfl d.cells (load_all HD.out) _ Tryz.underlying27 rfl (by kernel_rfl) ?_)
            | (go_at_call 18; (with_reducible refine (SC.out _ (gl_below HG.out HB.out)).mono ?_); rintro e w9 ⟨rfl, hb9⟩; have n1_ := Aside0.mk (HB.out.trans (hb9.mono HB.out.size)); have n2_ := Aside0.mk ((hb9.block D (blk_lt HD.out)).trans HD.out); clear HB HD; have HB := n1_; have HD := n2_; clear n1_ n2_; (try clear cK); have cK := cell_of (i := 0) (v := .int .i64 d.kind) HD.out rfl; clear hb9)
            | (go_at_call 16; (with_reducible refine (EC.out _).mono ?_); rintro e w9 ⟨rfl, hb9⟩; have n1_ := Aside0.mk (HB.out.trans (hb9.mono HB.out.size)); have n2_ := Aside0.mk ((hb9.block D (blk_lt HD.out)).trans HD.out); clear HB HD; have HB := n1_; have HD := n2_; clear n1_ n2_; (try clear cK); have cK := cell_of (i := 0) (v := .int .i64 d.kind) HD.out rfl; clear hb9)
            | (go_at_call 21; (with_reducible refine (TC.out _).mono ?_); rintro e w9 ⟨rfl, hb9⟩; have n1_ := Aside0.mk (HB.out.trans (hb9.mono HB.out.size)); have n2_ := Aside0.mk ((hb9.block D (blk_lt HD.out)).trans HD.out); clear HB HD; have HB := n1_; have HD := n2_; clear n1_ n2_; (try clear cK); have cK := cell_of (i := 0) (v := .int .i64 d.kind) HD.out rfl; clear hb9)
            | ((with_reducible first | refine at_store_ ?_ | refine at_store2_ ?_); refine wpList_store_cell rfl 9 _ _ rfl D 14 rfl (.string z) rfl _ _ HD.out (by exact (by decide : 14 < 15)) rfl (by kernel_rfl) ?_; intro w4 hO4 hm4 hz4; have n2_ := Aside0.mk (show w4.heap[D]? = some (.cells (zeroed d).cells.toArray 27 (0, 0)) from by rw [← HZD.out]; exact hO4.out); have n1_ := Aside0.mk (toBelow' HB.out hm4.out HDD.out); clear HB HD hO4 hm4 hz4; have HB := n1_; have HD := n2_; clear n1_ n2_; (try clear cK); have cK := cell_of (i := 0) (v := .int .i64 d.kind) HD.out rfl)
            | ((with_reducible first | refine at_load_ ?_ | refine at_load2_ ?_); refine wpList_load_agg rfl 27 _ rfl D 0 rfl (zeroed d).cells (load_all HD.out) _ Tryz.underlying27 rfl (by kernel_rfl) ?_)
            | (go_at_call 16; (with_reducible refine (ZC.out _).mono ?_); rintro e w9 ⟨rfl, hb9⟩; have n1_ := Aside0.mk (HB.out.trans (hb9.mono HB.out.size)); have n2_ := Aside0.mk ((hb9.block D (blk_lt HD.out)).trans HD.out); clear HB HD; have HB := n1_; have HD := n2_; clear n1_ n2_; (try clear cK); have cK := cell_of (i := 0) (v := .int .i64 d.kind) HD.out rfl; clear hb9))
          go_ret
          exact ⟨rfl, HB.out⟩
        · have f1 : (f0 == 0) = false := beq_eq_false_iff_ne.mpr hf
          have f2 : (f0 != 0) = true := by simp [bne, f1]
          clear hf
          go_enter Tryz.func7, Tryz.ntmps7
          go_wp2_with (first
            | ((with_reducible first | refine at_box_ ?_ | refine at_box2_ ?_); refine wpList_box_v rfl 27 _ rfl d.cells rfl (by kernel_rfl) ?_; intro D w1 eD hD1 hb1 hz1; have HDD := Aside0.mk (show w.heap.size ≤ D from Nat.le_of_eq eD.out.symm); have HD := Aside0.mk (show w1.heap[D]? = some (.cells d.cells.toArray 27 (0, 0)) from hD1.out); have HB := Aside0.mk (show Below w.heap.size w w1 from hb1.out); clear hD1 hb1 hz1 eD)
            | (go_at_call 9; (with_reducible refine (AC.out _ (gl_below HG.out HB.out)).mono ?_); rintro e w9 ⟨rfl, hb9⟩; have n1_ := Aside0.mk (HB.out.trans (hb9.mono HB.out.size)); have n2_ := Aside0.mk ((hb9.block D (blk_lt HD.out)).trans HD.out); clear HB HD; have HB := n1_; have HD := n2_; clear n1_ n2_; (try clear cK); have cK := cell_of (i := 0) (v := .int .i64 d.kind) HD.out rfl; clear hb9)
            | ((with_reducible first | refine at_load_ ?_ | refine at_load2_ ?_); refine wpList_load_agg rfl 27 _ rfl D 0 rfl d.cells (load_all HD.out) _ Tryz.underlying27 rfl (by kernel_rfl) ?_)
            | (go_at_call 18; (with_reducible refine (SC.out _ (gl_below HG.out HB.out)).mono ?_); rintro e w9 ⟨rfl, hb9⟩; have n1_ := Aside0.mk (HB.out.trans (hb9.mono HB.out.size)); have n2_ := Aside0.mk ((hb9.block D (blk_lt HD.out)).trans HD.out); clear HB HD; have HB := n1_; have HD := n2_; clear n1_ n2_; (try clear cK); have cK := cell_of (i := 0) (v := .int .i64 d.kind) HD.out rfl; clear hb9)
            | (go_at_call 16; (with_reducible refine (EC.out _).mono ?_); rintro e w9 ⟨rfl, hb9⟩; have n1_ := Aside0.mk (HB.out.trans (hb9.mono HB.out.size)); have n2_ := Aside0.mk ((hb9.block D (blk_lt HD.out)).trans HD.out); clear HB HD; have HB := n1_; have HD := n2_; clear n1_ n2_; (try clear cK); have cK := cell_of (i := 0) (v := .int .i64 d.kind) HD.out rfl; clear hb9)
            | (go_at_call 21; (with_reducible refine (TC.out _).mono ?_); rintro e w9 ⟨rfl, hb9⟩; have n1_ := Aside0.mk (HB.out.trans (hb9.mono HB.out.size)); have n2_ := Aside0.mk ((hb9.block D (blk_lt HD.out)).trans HD.out); clear HB HD; have HB := n1_; have HD := n2_; clear n1_ n2_; (try clear cK); have cK := cell_of (i := 0) (v := .int .i64 d.kind) HD.out rfl; clear hb9)
            | ((with_reducible first | refine at_store_ ?_ | refine at_store2_ ?_); refine wpList_store_cell rfl 9 _ _ rfl D 14 rfl (.string z) rfl _ _ HD.out (by exact (by decide : 14 < 15)) rfl (by kernel_rfl) ?_; intro w4 hO4 hm4 hz4; have n2_ := Aside0.mk (show w4.heap[D]? = some (.cells (zeroed d).cells.toArray 27 (0, 0)) from by rw [← HZD.out]; exact hO4.out); have n1_ := Aside0.mk (toBelow' HB.out hm4.out HDD.out); clear HB HD hO4 hm4 hz4; have HB := n1_; have HD := n2_; clear n1_ n2_; (try clear cK); have cK := cell_of (i := 0) (v := .int .i64 d.kind) HD.out rfl)
            | ((with_reducible first | refine at_load_ ?_ | refine at_load2_ ?_); refine wpList_load_agg rfl 27 _ rfl D 0 rfl (zeroed d).cells (load_all HD.out) _ Tryz.underlying27 rfl (by kernel_rfl) ?_)
            | (go_at_call 16; (with_reducible refine (ZC.out _).mono ?_); rintro e w9 ⟨rfl, hb9⟩; have n1_ := Aside0.mk (HB.out.trans (hb9.mono HB.out.size)); have n2_ := Aside0.mk ((hb9.block D (blk_lt HD.out)).trans HD.out); clear HB HD; have HB := n1_; have HD := n2_; clear n1_ n2_; (try clear cK); have cK := cell_of (i := 0) (v := .int .i64 d.kind) HD.out rfl; clear hb9))
          go_ret
          exact ⟨rfl, HB.out⟩
      · have g2 : (g0 == 0) = false := beq_eq_false_iff_ne.mpr hg1
        have g3 : (g0 != 0) = true := by simp [bne, g2]
        clear hg0 hg1
        by_cases hf : f0 = 0
        · subst hf
          go_enter Tryz.func7, Tryz.ntmps7
          go_wp2_with (first
            | ((with_reducible first | refine at_box_ ?_ | refine at_box2_ ?_); refine wpList_box_v rfl 27 _ rfl d.cells rfl (by kernel_rfl) ?_; intro D w1 eD hD1 hb1 hz1; have HDD := Aside0.mk (show w.heap.size ≤ D from Nat.le_of_eq eD.out.symm); have HD := Aside0.mk (show w1.heap[D]? = some (.cells d.cells.toArray 27 (0, 0)) from hD1.out); have HB := Aside0.mk (show Below w.heap.size w w1 from hb1.out); clear hD1 hb1 hz1 eD)
            | (go_at_call 9; (with_reducible refine (AC.out _ (gl_below HG.out HB.out)).mono ?_); rintro e w9 ⟨rfl, hb9⟩; have n1_ := Aside0.mk (HB.out.trans (hb9.mono HB.out.size)); have n2_ := Aside0.mk ((hb9.block D (blk_lt HD.out)).trans HD.out); clear HB HD; have HB := n1_; have HD := n2_; clear n1_ n2_; (try clear cK); have cK := cell_of (i := 0) (v := .int .i64 d.kind) HD.out rfl; clear hb9)
            | ((with_reducible first | refine at_load_ ?_ | refine at_load2_ ?_); refine wpList_load_agg rfl 27 _ rfl D 0 rfl d.cells (load_all HD.out) _ Tryz.underlying27 rfl (by kernel_rfl) ?_)
            | (go_at_call 18; (with_reducible refine (SC.out _ (gl_below HG.out HB.out)).mono ?_); rintro e w9 ⟨rfl, hb9⟩; have n1_ := Aside0.mk (HB.out.trans (hb9.mono HB.out.size)); have n2_ := Aside0.mk ((hb9.block D (blk_lt HD.out)).trans HD.out); clear HB HD; have HB := n1_; have HD := n2_; clear n1_ n2_; (try clear cK); have cK := cell_of (i := 0) (v := .int .i64 d.kind) HD.out rfl; clear hb9)
            | (go_at_call 16; (with_reducible refine (EC.out _).mono ?_); rintro e w9 ⟨rfl, hb9⟩; have n1_ := Aside0.mk (HB.out.trans (hb9.mono HB.out.size)); have n2_ := Aside0.mk ((hb9.block D (blk_lt HD.out)).trans HD.out); clear HB HD; have HB := n1_; have HD := n2_; clear n1_ n2_; (try clear cK); have cK := cell_of (i := 0) (v := .int .i64 d.kind) HD.out rfl; clear hb9)
            | (go_at_call 21; (with_reducible refine (TC.out _).mono ?_); rintro e w9 ⟨rfl, hb9⟩; have n1_ := Aside0.mk (HB.out.trans (hb9.mono HB.out.size)); have n2_ := Aside0.mk ((hb9.block D (blk_lt HD.out)).trans HD.out); clear HB HD; have HB := n1_; have HD := n2_; clear n1_ n2_; (try clear cK); have cK := cell_of (i := 0) (v := .int .i64 d.kind) HD.out rfl; clear hb9)
            | ((with_reducible first | refine at_store_ ?_ | refine at_store2_ ?_); refine wpList_store_cell rfl 9 _ _ rfl D 14 rfl (.string z) rfl _ _ HD.out (by exact (by decide : 14 < 15)) rfl (by kernel_rfl) ?_; intro w4 hO4 hm4 hz4; have n2_ := Aside0.mk (show w4.heap[D]? = some (.cells (zeroed d).cells.toArray 27 (0, 0)) from by rw [← HZD.out]; exact hO4.out); have n1_ := Aside0.mk (toBelow' HB.out hm4.out HDD.out); clear HB HD hO4 hm4 hz4; have HB := n1_; have HD := n2_; clear n1_ n2_; (try clear cK); have cK := cell_of (i := 0) (v := .int .i64 d.kind) HD.out rfl)
            | ((with_reducible first | refine at_load_ ?_ | refine at_load2_ ?_); refine wpList_load_agg rfl 27 _ rfl D 0 rfl (zeroed d).cells (load_all HD.out) _ Tryz.underlying27 rfl (by kernel_rfl) ?_)
            | (go_at_call 16; (with_reducible refine (ZC.out _).mono ?_); rintro e w9 ⟨rfl, hb9⟩; have n1_ := Aside0.mk (HB.out.trans (hb9.mono HB.out.size)); have n2_ := Aside0.mk ((hb9.block D (blk_lt HD.out)).trans HD.out); clear HB HD; have HB := n1_; have HD := n2_; clear n1_ n2_; (try clear cK); have cK := cell_of (i := 0) (v := .int .i64 d.kind) HD.out rfl; clear hb9))
          go_ret
          exact ⟨rfl, HB.out⟩
        · have f1 : (f0 == 0) = false := beq_eq_false_iff_ne.mpr hf
          have f2 : (f0 != 0) = true := by simp [bne, f1]
          clear hf
          go_enter Tryz.func7, Tryz.ntmps7
          go_wp2_with (first
            | ((with_reducible first | refine at_box_ ?_ | refine at_box2_ ?_); refine wpList_box_v rfl 27 _ rfl d.cells rfl (by kernel_rfl) ?_; intro D w1 eD hD1 hb1 hz1; have HDD := Aside0.mk (show w.heap.size ≤ D from Nat.le_of_eq eD.out.symm); have HD := Aside0.mk (show w1.heap[D]? = some (.cells d.cells.toArray 27 (0, 0)) from hD1.out); have HB := Aside0.mk (show Below w.heap.size w w1 from hb1.out); clear hD1 hb1 hz1 eD)
            | (go_at_call 9; (with_reducible refine (AC.out _ (gl_below HG.out HB.out)).mono ?_); rintro e w9 ⟨rfl, hb9⟩; have n1_ := Aside0.mk (HB.out.trans (hb9.mono HB.out.size)); have n2_ := Aside0.mk ((hb9.block D (blk_lt HD.out)).trans HD.out); clear HB HD; have HB := n1_; have HD := n2_; clear n1_ n2_; (try clear cK); have cK := cell_of (i := 0) (v := .int .i64 d.kind) HD.out rfl; clear hb9)
            | ((with_reducible first | refine at_load_ ?_ | refine at_load2_ ?_); refine wpList_load_agg rfl 27 _ rfl D 0 rfl d.cells (load_all HD.out) _ Tryz.underlying27 rfl (by kernel_rfl) ?_)
            | (go_at_call 18; (with_reducible refine (SC.out _ (gl_below HG.out HB.out)).mono ?_); rintro e w9 ⟨rfl, hb9⟩; have n1_ := Aside0.mk (HB.out.trans (hb9.mono HB.out.size)); have n2_ := Aside0.mk ((hb9.block D (blk_lt HD.out)).trans HD.out); clear HB HD; have HB := n1_; have HD := n2_; clear n1_ n2_; (try clear cK); have cK := cell_of (i := 0) (v := .int .i64 d.kind) HD.out rfl; clear hb9)
            | (go_at_call 16; (with_reducible refine (EC.out _).mono ?_); rintro e w9 ⟨rfl, hb9⟩; have n1_ := Aside0.mk (HB.out.trans (hb9.mono HB.out.size)); have n2_ := Aside0.mk ((hb9.block D (blk_lt HD.out)).trans HD.out); clear HB HD; have HB := n1_; have HD := n2_; clear n1_ n2_; (try clear cK); have cK := cell_of (i := 0) (v := .int .i64 d.kind) HD.out rfl; clear hb9)
            | (go_at_call 21; (with_reducible refine (TC.out _).mono ?_); rintro e w9 ⟨rfl, hb9⟩; have n1_ := Aside0.mk (HB.out.trans (hb9.mono HB.out.size)); have n2_ := Aside0.mk ((hb9.block D (blk_lt HD.out)).trans HD.out); clear HB HD; have HB := n1_; have HD := n2_; clear n1_ n2_; (try clear cK); have cK := cell_of (i := 0) (v := .int .i64 d.kind) HD.out rfl; clear hb9)
            | ((with_reducible first | refine at_store_ ?_ | refine at_store2_ ?_); refine wpList_store_cell rfl 9 _ _ rfl D 14 rfl (.string z) rfl _ _ HD.out (by exact (by decide : 14 < 15)) rfl (by kernel_rfl) ?_; intro w4 hO4 hm4 hz4; have n2_ := Aside0.mk (show w4.heap[D]? = some (.cells (zeroed d).cells.toArray 27 (0, 0)) from by rw [← HZD.out]; exact hO4.out); have n1_ := Aside0.mk (toBelow' HB.out hm4.out HDD.out); clear HB HD hO4 hm4 hz4; have HB := n1_; have HD := n2_; clear n1_ n2_; (try clear cK); have cK := cell_of (i := 0) (v := .int .i64 d.kind) HD.out rfl)
            | ((with_reducible first | refine at_load_ ?_ | refine at_load2_ ?_); refine wpList_load_agg rfl 27 _ rfl D 0 rfl (zeroed d).cells (load_all HD.out) _ Tryz.underlying27 rfl (by kernel_rfl) ?_)
            | (go_at_call 16; (with_reducible refine (ZC.out _).mono ?_); rintro e w9 ⟨rfl, hb9⟩; have n1_ := Aside0.mk (HB.out.trans (hb9.mono HB.out.size)); have n2_ := Aside0.mk ((hb9.block D (blk_lt HD.out)).trans HD.out); clear HB HD; have HB := n1_; have HD := n2_; clear n1_ n2_; (try clear cK); have cK := cell_of (i := 0) (v := .int .i64 d.kind) HD.out rfl; clear hb9))
          go_ret
          exact ⟨rfl, HB.out⟩
  · subst he hn hf
    clear h7
    go_enter Tryz.func7, Tryz.ntmps7
    go_wp2_with (first
      | ((with_reducible first | refine at_box_ ?_ | refine at_box2_ ?_); refine wpList_box_v rfl 27 _ rfl d.cells rfl (by kernel_rfl) ?_; intro D w1 eD hD1 hb1 hz1; have HDD := Aside0.mk (show w.heap.size ≤ D from Nat.le_of_eq eD.out.symm); have HD := Aside0.mk (show w1.heap[D]? = some (.cells d.cells.toArray 27 (0, 0)) from hD1.out); have HB := Aside0.mk (show Below w.heap.size w w1 from hb1.out); clear hD1 hb1 hz1 eD)
      | (go_at_call 9; (with_reducible refine (AC.out _ (gl_below HG.out HB.out)).mono ?_); rintro e w9 ⟨rfl, hb9⟩; have n1_ := Aside0.mk (HB.out.trans (hb9.mono HB.out.size)); have n2_ := Aside0.mk ((hb9.block D (blk_lt HD.out)).trans HD.out); clear HB HD; have HB := n1_; have HD := n2_; clear n1_ n2_; (try clear cK); have cK := cell_of (i := 0) (v := .int .i64 d.kind) HD.out rfl; clear hb9)
      | ((with_reducible first | refine at_load_ ?_ | refine at_load2_ ?_); refine wpList_load_agg rfl 27 _ rfl D 0 rfl d.cells (load_all HD.out) _ Tryz.underlying27 rfl (by kernel_rfl) ?_)
      | (go_at_call 18; (with_reducible refine (SC.out _ (gl_below HG.out HB.out)).mono ?_); rintro e w9 ⟨rfl, hb9⟩; have n1_ := Aside0.mk (HB.out.trans (hb9.mono HB.out.size)); have n2_ := Aside0.mk ((hb9.block D (blk_lt HD.out)).trans HD.out); clear HB HD; have HB := n1_; have HD := n2_; clear n1_ n2_; (try clear cK); have cK := cell_of (i := 0) (v := .int .i64 d.kind) HD.out rfl; clear hb9)
      | (go_at_call 16; (with_reducible refine (EC.out _).mono ?_); rintro e w9 ⟨rfl, hb9⟩; have n1_ := Aside0.mk (HB.out.trans (hb9.mono HB.out.size)); have n2_ := Aside0.mk ((hb9.block D (blk_lt HD.out)).trans HD.out); clear HB HD; have HB := n1_; have HD := n2_; clear n1_ n2_; (try clear cK); have cK := cell_of (i := 0) (v := .int .i64 d.kind) HD.out rfl; clear hb9)
      | (go_at_call 21; (with_reducible refine (TC.out _).mono ?_); rintro e w9 ⟨rfl, hb9⟩; have n1_ := Aside0.mk (HB.out.trans (hb9.mono HB.out.size)); have n2_ := Aside0.mk ((hb9.block D (blk_lt HD.out)).trans HD.out); clear HB HD; have HB := n1_; have HD := n2_; clear n1_ n2_; (try clear cK); have cK := cell_of (i := 0) (v := .int .i64 d.kind) HD.out rfl; clear hb9)
      | ((with_reducible first | refine at_store_ ?_ | refine at_store2_ ?_); refine wpList_store_cell rfl 9 _ _ rfl D 14 rfl (.string z) rfl _ _ HD.out (by exact (by decide : 14 < 15)) rfl (by kernel_rfl) ?_; intro w4 hO4 hm4 hz4; have n2_ := Aside0.mk (show w4.heap[D]? = some (.cells (zeroed d).cells.toArray 27 (0, 0)) from by rw [← HZD.out]; exact hO4.out); have n1_ := Aside0.mk (toBelow' HB.out hm4.out HDD.out); clear HB HD hO4 hm4 hz4; have HB := n1_; have HD := n2_; clear n1_ n2_; (try clear cK); have cK := cell_of (i := 0) (v := .int .i64 d.kind) HD.out rfl)
      | ((with_reducible first | refine at_load_ ?_ | refine at_load2_ ?_); refine wpList_load_agg rfl 27 _ rfl D 0 rfl (zeroed d).cells (load_all HD.out) _ Tryz.underlying27 rfl (by kernel_rfl) ?_)
      | (go_at_call 16; (with_reducible refine (ZC.out _).mono ?_); rintro e w9 ⟨rfl, hb9⟩; have n1_ := Aside0.mk (HB.out.trans (hb9.mono HB.out.size)); have n2_ := Aside0.mk ((hb9.block D (blk_lt HD.out)).trans HD.out); clear HB HD; have HB := n1_; have HD := n2_; clear n1_ n2_; (try clear cK); have cK := cell_of (i := 0) (v := .int .i64 d.kind) HD.out rfl; clear hb9))
    go_ret
    exact ⟨rfl, HB.out⟩
end Go.Proofs.YtniabkphbnimaaaGreatDoor.Sh
namespace Go.Proofs.YtniabkphbnimaaaGreatDoor.Bs
open Go Go.RowKit Go.Maps Go.Proofs.YtniabkphbnimaaaGreatDoorW.PrintWords Go.Proofs.YtniabkphbnimaaaGreatDoorW.PrintLast Go.Proofs.YtniabkphbnimaaaGreatDoor.Sh
/-- A row that begins with the bytes l; what is marked in it lies beyond its cells. -/
def BRow (w : World) (g : Nat) (l : List UInt8) (e : TypeId) : Prop := ∃ cs : List Value, w.heap[g]? = some (.cells cs.toArray e (cs.length, cs.length + 1)) ∧ l.length ≤ cs.length ∧ ∀ (i : Nat) (v : UInt8), l[i]? = some v → cs[i]? = some (Value.int .u8 (v.toNat : Int))
theorem BRow.cell {w : World} {g : Nat} {l : List UInt8} {e : TypeId} (h : BRow w g l e) {i : Nat} {v : UInt8} (hv : l[i]? = some v) : w.cell? ⟨g, i, none⟩ = some (.int .u8 (v.toNat : Int)) := by
  obtain ⟨cs, h1, _, h3⟩ := h
  exact cell_of h1 (h3 i v hv)
theorem BRow.cells {w : World} {g : Nat} {l : List UInt8} {e : TypeId} (h : BRow w g l e) : ∀ (i : Nat) (v : UInt8), l[i]? = some v → w.cell? ⟨g, 0 + i, none⟩ = some (.int .u8 (v.toNat : Int)) := by
  intro i v hv
  rw [Nat.zero_add]
  exact h.cell hv
theorem BRow.keep {w w' : World} {g : Nat} {l : List UInt8} {e : TypeId} (h : BRow w g l e) (hb : w'.heap[g]? = w.heap[g]?) : BRow w' g l e := by
  obtain ⟨cs, h1, h2⟩ := h
  exact ⟨cs, hb.trans h1, h2⟩
theorem BRow.new (w : World) (e : TypeId) (s : ByteArray) : BRow (Lib.bytesWorld w e s) w.heap.size s.data.toList e := by
  refine ⟨(Lib.bytesCells w e s).toList, ?_, ?_, fun i v hv => ?_⟩
  · rw [Lib.bytesWorld_at_new]
    simp
  · simp [Lib.bytesCells]
  · have hi : i < s.data.size := by have := (List.getElem?_eq_some_iff.1 hv).1; simpa using this
    have hv2 : s.data[i]? = some v := by rw [← Array.getElem?_toList]; exact hv
    rw [Array.getElem?_toList]
    unfold Lib.bytesCells
    rw [Array.getElem?_append_left (by simpa using hi), Array.getElem?_map, hv2]
    rfl
section
variable {P : Program} {ops : Array Oper} {rest : List Oper} {o : Oper} {a : Act} {w : World} {Q : Exit → Act → World → Prop}
theorem wp_bytes_row {K : Act → World → Prop} (src dst e : TypeId) (x : Operand) (ho : o.op = .convert src dst x) (s : ByteArray) (hx : a.eval x = .string s) (hs : P.underlying src = some .string) (hd : P.underlying dst = some (.slice e)) (he : P.underlying e = some (.int .u8))
    (h : ∀ g c w', Hid (g = w.heap.size) → Hid (BRow w' g s.data.toList e) → Hid (Below w.heap.size w w') → Hid (w'.heap.size = g + 1) → Hid (s.size ≤ c) → K (a.put o.dst (.slice (some ⟨g, 0, none⟩) s.size c)) w') : Oper.wp P o a w K Q := by
  have hrun := Lib.run_convert_string_bytes (P := P) w src dst e s hs hd he
  unfold Oper.wp execOp
  simp only [ho, hx, Sem.run_bind, hrun, Result.andThen_ok, Sem.run_pure]
  refine h _ _ _ (show _ = _ from rfl) (show BRow _ _ _ _ from BRow.new w e s) ?_ ?_ ?_
  · exact ⟨rfl, rfl, rfl, by rw [Lib.bytesWorld_size]; omega, fun k hk => Lib.bytesWorld_at_old w e s k hk⟩
  · exact Lib.bytesWorld_size w e s
  · exact grownCap_ge w s.size 0 e
theorem wpList_bytes_row (hgd : o.guard = none) (src dst e : TypeId) (x : Operand) (ho : o.op = .convert src dst x) (s : ByteArray) (hx : a.eval x = .string s) (hs : P.underlying src = some .string) (hd : P.underlying dst = some (.slice e)) (he : P.underlying e = some (.int .u8))
    (h : ∀ g c w', Hid (g = w.heap.size) → Hid (BRow w' g s.data.toList e) → Hid (Below w.heap.size w w') → Hid (w'.heap.size = g + 1) → Hid (s.size ≤ c) → wpList P ops Q rest (a.put o.dst (.slice (some ⟨g, 0, none⟩) s.size c)) w') : wpList P ops Q (o :: rest) a w :=
  wpList_plain hgd fun K hK => wp_bytes_row src dst e x ho s hx hs hd he (fun g c w' h1 h2 h3 h4 h5 => hK _ _ (h g c w' h1 h2 h3 h4 h5))
theorem run_store_byte (w : World) (ty : TypeId) (g i : Nat) (v : UInt8) (l : List UInt8) (e : TypeId) (hg : BRow w g l e) (hi : i < l.length) (hs : (P.info? ty).map (·.size) = some 1) :
    (Instr.storeAt ty (.pointer (some ⟨g, i, none⟩)) (.int .u8 (v.toNat : Int))).run P w = .ok () (w.setCell ⟨g, i, none⟩ (.int .u8 (v.toNat : Int))) := by
  obtain ⟨cs, h1, h2, h3⟩ := hg
  cases hq : P.info? ty with
  | none => simp [hq] at hs
  | some inf =>
    have hs' : inf.size = 1 := by simpa [hq] using hs
    have hi2 : i < cs.length := by omega
    have hcell : w.cell? ⟨g, i, none⟩ = some cs[i] := by simp [World.cell?, h1, hi2]
    have hfro : w.frozen? ⟨g, i, none⟩ = false := by simp [World.frozen?, h1]; omega
    have ha : (⟨g, i, none⟩ : Addr).add 0 = ⟨g, i, none⟩ := by unfold Addr.add; split <;> simp_all
    have hst : (store ⟨g, i, none⟩ (.int .u8 (v.toNat : Int))).run P w = .ok () (w.setCell ⟨g, i, none⟩ (.int .u8 (v.toNat : Int))) := by
      rw [run_store P w _ _ _ rfl, hcell]
      simp [hfro]
    simp [Instr.storeAt, Instr.sureAddr, storeVar, sizeOf, typeInfo, hq, hs', Value.cells, storeCells, Sem.run_bind, ha, hst]
theorem BRow.set {w : World} {g : Nat} {l : List UInt8} {e : TypeId} (h : BRow w g l e) (i : Nat) (v : UInt8) (hi : i < l.length) : BRow (w.setCell ⟨g, i, none⟩ (.int .u8 (v.toNat : Int))) g (l.set i v) e := by
  obtain ⟨cs, h1, h2, h3⟩ := h
  refine ⟨cs.set i (.int .u8 (v.toNat : Int)), ?_, by rw [List.length_set, List.length_set]; exact h2, fun j u hj => ?_⟩
  · simp [World.setCell, Array.getElem?_modify, h1]
  · by_cases e : i = j
    · subst e
      rw [List.getElem?_set_self (by omega)] at hj ⊢
      cases hj
      rfl
    · rw [List.getElem?_set_ne e] at hj ⊢
      exact h3 j u hj
theorem wp_store_byte {K : Act → World → Prop} (ty : TypeId) (x y : Operand) (ho : o.op = .store ty x y) (g i : Nat) (hx : a.eval x = .pointer (some ⟨g, i, none⟩)) (v : UInt8) (hy : a.eval y = .int .u8 (v.toNat : Int)) (l : List UInt8) (e : TypeId) (hg : BRow w g l e) (hi : i < l.length) (hs : (P.info? ty).map (·.size) = some 1)
    (h : ∀ w', Hid (BRow w' g (l.set i v) e) → Hid (Mv w w' (fun k => k = g)) → Hid (w'.heap.size = w.heap.size) → K (a.put o.dst undef) w') : Oper.wp P o a w K Q := by
  unfold Oper.wp execOp
  simp only [ho, hx, hy, Sem.run_bind, run_store_byte (P := P) w ty g i v l e hg hi hs, Result.andThen_ok, Sem.run_pure]
  exact h _ (show BRow _ _ _ _ from hg.set i v hi) (show Mv _ _ _ from mv_set w g i _) (show _ = _ from by simp [World.setCell])
theorem wpList_store_byte (hgd : o.guard = none) (ty : TypeId) (x y : Operand) (ho : o.op = .store ty x y) (g i : Nat) (hx : a.eval x = .pointer (some ⟨g, i, none⟩)) (v : UInt8) (hy : a.eval y = .int .u8 (v.toNat : Int)) (l : List UInt8) (e : TypeId) (hg : BRow w g l e) (hi : i < l.length) (hs : (P.info? ty).map (·.size) = some 1)
    (h : ∀ w', Hid (BRow w' g (l.set i v) e) → Hid (Mv w w' (fun k => k = g)) → Hid (w'.heap.size = w.heap.size) → wpList P ops Q rest (a.put o.dst undef) w') : wpList P ops Q (o :: rest) a w :=
  wpList_plain hgd fun K hK => wp_store_byte ty x y ho g i hx v hy l e hg hi hs (fun w' h2 h3 h4 => hK _ _ (h w' h2 h3 h4))
end
end Go.Proofs.YtniabkphbnimaaaGreatDoor.Bs
namespace Go.Proofs.YtniabkphbnimaaaGreatDoor.Sh
open Go Go.RowKit Go.Maps Go.Proofs.YtniabkphbnimaaaGreatDoorW.PrintWords Go.Proofs.YtniabkphbnimaaaGreatDoorW.PrintLast Go.Proofs.YtniabkphbnimaaaGreatDoor.Bs
theorem cat_is_yields {P : Program} {o : Oper} {a : Act} (t t2 : TypeId) (x y : Operand) (ho : o.op = .binOp .add t x y t2) (p q r : ByteArray) (hx : a.eval x = .string p) (hy : a.eval y = .string q) (hr : p ++ q = r) (hs : p.size + q.size ≤ 9223372036854775807) (w : World) :
    (execOp a.eval o).run P w = .ok (.value (.string r)) w := by
  subst hr
  have hrun := run_string_add_sum (P := P) w p q hs
  unfold execOp
  simp only [ho, hx, hy, Sem.run_bind, eqGuard_add, binOp_string_add, hrun, Result.andThen_ok, Sem.run_pure]
theorem strne_yields {P : Program} {o : Oper} {a : Act} (t t2 : TypeId) (x y : Operand) (ho : o.op = .binOp .neq t x y t2) (s r : ByteArray) (hx : a.eval x = .string s) (hy : a.eval y = .string r) (b : Bool) (hb : (s.toList == r.toList) = !b) (w : World) :
    (execOp a.eval o).run P w = .ok (.value (.bool b)) w := by
  have hb2 : b = !(s.toList == r.toList) := by rw [hb, Bool.not_not]
  subst hb2
  unfold execOp
  simp [ho, hx, hy, Sem.run_bind, eqGuard, binOp, Op.stringOp]
theorem flip_m (r : Nat) (h : r < 8) : ∃ m : UInt8, m ≠ 0 ∧ IntKind.u8.wrap (1 * 2 ^ min (r : Int).toNat IntKind.u8.bits) = (m.toNat : Int) := by
  match r, h with
  | 0, _ => exact ⟨1, by decide, rfl⟩
  | 1, _ => exact ⟨2, by decide, rfl⟩
  | 2, _ => exact ⟨4, by decide, rfl⟩
  | 3, _ => exact ⟨8, by decide, rfl⟩
  | 4, _ => exact ⟨16, by decide, rfl⟩
  | 5, _ => exact ⟨32, by decide, rfl⟩
  | 6, _ => exact ⟨64, by decide, rfl⟩
  | 7, _ => exact ⟨128, by decide, rfl⟩
theorem shl_yields {P : Program} {o : Oper} {a : Act} (t t2 : TypeId) (x y : Operand) (ho : o.op = .binOp .shl t x y t2) (r : Nat) (m : UInt8) (hm : IntKind.u8.wrap (1 * 2 ^ min (r : Int).toNat IntKind.u8.bits) = (m.toNat : Int)) (hx : a.eval x = .int .u8 1) (hy : a.eval y = .int .i64 (r : Int)) (w : World) :
    (execOp a.eval o).run P w = .ok (.value (.int .u8 (m.toNat : Int))) w := by
  unfold execOp
  simp only [ho, hx, hy, binOp_shl, shift_shl_any _ _ _ _ (Int.natCast_nonneg r), hm]
  simp [Sem.run_bind, eqGuard]
theorem idx_facts {S n n1 i : Nat} (h1 : S = n + 32) (h2 : n1 = n + 31) (h3 : n + 32 ≤ 1200) (h4 : i < 32) : n1 - i < S ∧ wrap64 ((n1 : Int) - (i : Int)) = ((n1 - i : Nat) : Int) ∧ wrap64 ((i : Int) + 1) = ((i + 1 : Nat) : Int) ∧ n1 - i = n + 31 - i := by
  subst h1 h2
  have e : ((n + 31 - i : Nat) : Int) = (n : Int) + 31 - (i : Int) := by omega
  refine ⟨by omega, ?_, ?_, rfl⟩
  · rw [e]
    unfold wrap64
    omega
  · unfold wrap64
    omega
theorem idx_last {S B n : Nat} (h1 : S = n + 32) (h2 : B = n) (h3 : n + 32 ≤ 1200) (h4 : 20 ≤ n) : n - 1 < S ∧ wrap64 ((B : Int) - 1) = ((n - 1 : Nat) : Int) := by
  subst h1 h2
  have e : ((B - 1 : Nat) : Int) = (B : Int) - 1 := by omega
  refine ⟨by omega, ?_⟩
  rw [e]
  unfold wrap64
  omega
theorem len_one {S n n1 : Nat} (h1 : S = n + 32) (h2 : n1 = n + 31) (h3 : n + 32 ≤ 1200) : wrap64 ((S : Int) - 1) = (n1 : Int) ∧ n1 ≤ S := by
  subst h1 h2
  refine ⟨?_, by omega⟩
  unfold wrap64
  omega
theorem loop_less {i : Nat} (h : i < 32) : 32 - (intOf (.int .i64 (((i + 1 : Nat) : Int)))).toNat < 32 - (intOf (.int .i64 (i : Int))).toNat := by
  simp only [intOf]
  omega
theorem int_lt {a b : Nat} (h : a < b) : (a : Int) < (b : Int) := by omega
theorem int_le {a b : Nat} (h : a ≤ b) : (a : Int) ≤ (b : Int) := by omega
/-- What the last words of FrameSeals ask. -/
theorem seals_last (P T : List UInt8) (k o s b t tu : ByteArray) (n n1 j : Nat) (x : UInt8) (h : headed P ∧ 20 ≤ P.length ∧ P.length + 32 ≤ 1200 ∧ T = hmac (bl k) P ∧ T.length = 32 ∧ k.size ≤ 1048576 ∧ o.size ≤ 1048576 ∧ s = str (P ++ T) ∧ b = str P ∧ t = str T ∧ n = P.length) (hn1 : n1 = n + 31) (hj : j = n - 1) (hx : s.data.toList[j]? = some x) (htu : tu = ⟨(s.data.toList.set j (x ^^^ 1)).toArray⟩) :
    ∃ (v1 v2 v3 : Bool) (u1 b2 u2 x1 b3 u3 l3 : ByteArray),
      (∀ w, GL w → Calls Tryz.prog 14 #[.string s, .string o] w fun e w' => e = .returned (.bool v1) ∧ Below w.heap.size w w') ∧
      (∀ w, GL w → Calls Tryz.prog 23 #[.string o, .string b] w fun e w' => e = .returned (.string u1) ∧ Below w.heap.size w w') ∧
      (u1.toList == t.toList) = v1 ∧
      (∀ w, GL w → Calls Tryz.prog 14 #[.string tu, .string k] w fun e w' => e = .returned (.bool v2) ∧ Below w.heap.size w w') ∧
      (∀ w, Calls Tryz.prog 12 #[.string tu] w fun e w' => e = .returned (.string b2) ∧ Below w.heap.size w w') ∧
      (∀ w, GL w → Calls Tryz.prog 23 #[.string k, .string b2] w fun e w' => e = .returned (.string u2) ∧ Below w.heap.size w w') ∧
      (u2.toList == t.toList) = v2 ∧
      x1 = s.extract 0 n1 ∧
      (∀ w, GL w → Calls Tryz.prog 14 #[.string (s.extract 0 n1), .string (str (bl k ++ [1]))] w fun e w' => e = .returned (.bool v3) ∧ Below w.heap.size w w') ∧
      (∀ w, Calls Tryz.prog 12 #[.string (s.extract 0 n1)] w fun e w' => e = .returned (.string b3) ∧ Below w.heap.size w w') ∧
      (∀ w, GL w → Calls Tryz.prog 23 #[.string (str (bl k ++ [1])), .string b3] w fun e w' => e = .returned (.string u3) ∧ Below w.heap.size w w') ∧
      (∀ w, Calls Tryz.prog 24 #[.string (s.extract 0 n1)] w fun e w' => e = .returned (.string l3) ∧ Below w.heap.size w w') ∧
      (u3.toList == l3.toList) = v3 := by
  obtain ⟨hP, h20, hle, hT, hTl, hk, ho, es, eb, et, en⟩ := h
  have heq : ∀ A B : List UInt8, ((str A).toList == (str B).toList) = decide (B = A) := fun A B => by
    rw [str_list, str_list]
    by_cases h : A = B
    · subst h; rw [decide_eq_true rfl]; exact beq_self_eq_true _
    · rw [decide_eq_false (fun e => h e.symm)]; exact beq_eq_false_iff_ne.mpr h
  have hsl : s.data.toList = P ++ T := by rw [es]; rfl
  have hbl : bl b = P := by rw [eb]; rfl
  have hjj : j = P.length - 1 := by omega
  have htu2 : tu = str ((P ++ T).set (P.length - 1) (x ^^^ 1)) := by rw [htu, hsl, hjj]; rfl
  have ht2 := turned_body P T (bl k) hP h20 hTl (x ^^^ 1)
  have hlb := less_body P T (bl k) hP h20 hTl
  have hP3 := headed_take P hP (P.length - 1) (by omega) (by omega)
  have hx1 : s.extract 0 n1 = str (P.take (P.length - 1) ++ (P ++ T.take 31).drop (P.length - 1)) := by
    rw [es, hn1, en, str_take, hlb.1]
  obtain ⟨xx, exx⟩ : ∃ xx, xx = (P ++ T.take 31).drop (P.length - 1) := ⟨_, rfl⟩
  obtain ⟨P3, eP3⟩ : ∃ P3, P3 = P.take (P.length - 1) := ⟨_, rfl⟩
  have hP3l : P3.length = P.length - 1 := by rw [eP3, List.length_take]; omega
  rw [← exx] at hlb hx1
  rw [← eP3] at hP3 hx1 hlb
  have hxl : xx.length = 32 := hlb.2
  have hk1 : (str (bl k ++ [1])).size = k.size + 1 := by show (bl k ++ [1]).length = _; rw [List.length_append, bl_len]; rfl
  refine ⟨decide (T = hmac (bl o) P), decide (T = hmac (bl k) (P.set (P.length - 1) (x ^^^ 1))), decide (xx = hmac (bl k ++ [1]) P3), str (hmac (bl o) P), str (P.set (P.length - 1) (x ^^^ 1)), str (hmac (bl k) (P.set (P.length - 1) (x ^^^ 1))), s.extract 0 n1, str P3, str (hmac (bl k ++ [1]) P3), str xx, ?_, ?_, ?_, ?_, ?_, ?_, ?_, rfl, ?_, ?_, ?_, ?_, ?_⟩
  · intro w hg
    have h := sealed_calls (P ++ T) o w hg (by rw [List.length_append]; omega) (by omega)
    rw [sealed_headed P T (bl o) hP hTl, ← es] at h
    exact h
  · intro w hg
    have h := tag_calls o b w hg (by omega) (by rw [eb]; show P.length < _; omega)
    rw [hbl] at h
    exact h
  · rw [et]; exact heq _ _
  · intro w hg
    have h := sealed_calls ((P ++ T).set (P.length - 1) (x ^^^ 1)) k w hg (by rw [List.length_set, List.length_append]; omega) (by omega)
    rw [ht2.2, ← htu2] at h
    exact h
  · intro w
    have h := body_calls ((P ++ T).set (P.length - 1) (x ^^^ 1)) (by rw [List.length_set, List.length_append]; omega) w
    rw [ht2.1, ← htu2] at h
    exact h
  · intro w hg
    exact tag_calls k (str (P.set (P.length - 1) (x ^^^ 1))) w hg (by omega) (by show (P.set (P.length - 1) (x ^^^ 1)).length < _; rw [List.length_set]; omega)
  · rw [et]; exact heq _ _
  · intro w hg
    have h := sealed_calls (P3 ++ xx) (str (bl k ++ [1])) w hg (by rw [List.length_append]; omega) (by omega)
    rw [sealed_headed P3 xx _ hP3 hxl, ← hx1] at h
    exact h
  · intro w
    have h := body_calls (P3 ++ xx) (by rw [List.length_append]; omega) w
    rw [body_headed P3 xx hP3 hxl, ← hx1] at h
    exact h
  · intro w hg
    exact tag_calls (str (bl k ++ [1])) (str P3) w hg (by omega) (by show P3.length < _; omega)
  · intro w
    refine (QQA.joustlaw07_last.calls (s.extract 0 n1) (str xx) w ?_).mono fun e w' h => ⟨h.1, h.2.below⟩
    have hz : (s.extract 0 n1).size = P3.length + 32 := by rw [hx1]; show (P3 ++ xx).length = _; rw [List.length_append, hxl]
    unfold QQA.joustlaw07_last.f
    have hw : wrap64 (((s.extract 0 n1).size : Int) - 32) = (P3.length : Int) := by rw [hz]; unfold wrap64; omega
    rw [if_neg (by omega), hw, if_pos (by omega), if_pos (by omega), hx1]
    have hd := str_drop (P3 ++ xx) P3.length
    rw [List.drop_left] at hd
    exact congrArg some hd
  · exact heq _ _
end Go.Proofs.YtniabkphbnimaaaGreatDoor.Sh
