/- What the statement FrameSeals leans on, part 1: words, walks and plain laws of this session's own. -/
import Derived.Test.YtniabkphbnimaaaGreatDoorProg
import Derived.Test.YtniabkphbnimaaaGreatDoorMFrameSeals0
import Derived.ArgAppend
import Derived.Below
import Derived.BigQuiet
import Derived.Deep.AppendLies
import Derived.Deep.CutBlock
import Derived.Deep.DeepCutAuto
import Derived.Deep.Draws
import Derived.Deep.LoopGhost
import Derived.Deep.OwnRows
import Derived.Deep.QuietTactic
import Derived.Deep.RegionHeld3
import Derived.Deep.RegionLaw
import Derived.Deep.RegionWith
import Derived.Defers
import Derived.Great.Walk
import Derived.KernelRfl
import Derived.Laws.AppendOwn
import Derived.Laws.BitsLemmas
import Derived.Laws.BytesArg
import Derived.Laws.CopyOwn
import Derived.Laws.CopyRow
import Derived.Laws.IdiomCopy
import Derived.Laws.IdiomStrings
import Derived.Laws.MakeOwn
import Derived.Laws.OwnMore
import Derived.Laws.Rows
import Derived.Laws.Slices
import Derived.Lib.AppendStr
import Derived.Lib.ConvBytes
import Derived.Maps.AppendAt
import Derived.Maps.OwnSet
import Derived.OrdersHeld
import Derived.OwnWalk
import Derived.Recover
import Derived.RowKit
import Derived.RowKit3
import Derived.Shelf.Strings.Repeat
import Derived.Shelf.Strings.Trim
import Derived.Tactics
import Derived.WalkKit
import Derived.WalkSmall
import Derived.WideLaws
set_option linter.unusedVariables false
set_option linter.unusedSimpArgs false
namespace Go.Proofs.YtniabkphbnimaaaGreatDoor.Sh
open Go Go.RowKit Go.Maps Go.Proofs.YtniabkphbnimaaaGreatDoorW.PrintWords Go.Proofs.YtniabkphbnimaaaGreatDoorW.PrintLast Go.Proofs.YtniabkphbnimaaaGreatDoor.Bs
section
variable {P : Program} {ops : Array Oper} {Q : Exit → Act → World → Prop}
theorem goesv_ {oi : Oper} {N : Option Tmp} {a : Act} {w : World} {K : Act → World → Prop} {f : FuncId} {fn : Func} {x : Operand} {av : Array Operand} {ts : Array TypeId} {first caps : Array Value} (hf : P.funcs[f]? = some fn) (hname : (fn.name == "runtime.NumGoroutine") = false) (hb : fn.body.isSome = true) (args : Array Value)
    (hw : Region.wanted oi (yielded ops a.tmps) = true) (hN : oi.dst = N) (hop : oi.op = .call { callee := .value x, args := av, argTypes := ts }) (hx : a.eval x = .func (.func f) first caps) (hargs : first ++ av.map a.eval ++ caps = args)
    (h : Calls P f args w fun e w' => ∃ v, e = .returned v ∧ K (a.put N v) w') : if Region.wanted oi (yielded ops a.tmps) = true then Oper.wp P oi a w K Q else K (a.put N undef) w := by
  refine call_ f args hw hN ?_ h
  have he := enters_ hf hname hb args w
  unfold execOp
  simp [hop, resolve, Deferred.ofValue, invoke, hx, ← hargs] at he ⊢
  simp [he]
end
theorem wp_string_of {P : Program} {o : Oper} {a : Act} {w : World} {K : Act → World → Prop} {Q : Exit → Act → World → Prop} (src dst e : TypeId) (x : Operand) (ho : o.op = .convert src dst x) (A : Option Addr) (m c : Nat) (hx : a.eval x = .slice A m c) (l : List UInt8) (hl : l.length = m)
    (hc : l = [] ∨ ∃ b off, A = some ⟨b, off, none⟩ ∧ ∀ i v, l[i]? = some v → w.cell? ⟨b, off + i, none⟩ = some (.int .u8 (v.toNat : Int))) (hs : P.underlying src = some (.slice e)) (hd : P.underlying dst = some .string) (he : P.underlying e = some (.int .u8))
    (h : K (a.put o.dst (.string ⟨l.toArray⟩)) w) : Oper.wp P o a w K Q := by
  subst hl
  have hrun : (convert src dst (.slice A l.length c)).run P w = .ok (.string ⟨l.toArray⟩) w := by
    cases A with
    | none =>
      rcases hc with rfl | ⟨b, off, e, _⟩
      · exact run_convert_bytes_nil w src e hs he _ _ dst hd
      · cases e
    | some ad =>
      refine run_convert_bytes_back w src dst e ad c l hs he hd (fun j hj => ?_)
      rcases hc with rfl | ⟨b, off, e, hcell⟩
      · simp at hj
      · cases e
        have ea : (⟨b, off, none⟩ : Addr).add j = ⟨b, off + j, none⟩ := by unfold Addr.add; split <;> simp_all
        rw [ea]
        exact hcell j _ (List.getElem?_eq_getElem hj)
  unfold Oper.wp execOp
  simp only [ho, hx, Sem.run_bind, hrun, Result.andThen_ok, Sem.run_pure]
  exact h
theorem wr_lay {w : World} {p q base : Nat} {l : List UInt8} (H : WrAt w p q base (some l)) : w.cell? ⟨p, 2, none⟩ = some (.func (.func 76) #[] #[.pointer (some ⟨q, 0, none⟩)]) := by
  obtain ⟨_, _, _, _, v, h5, _⟩ := H
  exact cell_of h5 rfl
/-- Eight bytes, filled from behind. -/
def back8 (x i : Nat) : List UInt8 := List.replicate (8 - i) 0 ++ (len8 x).drop (8 - i)
theorem back8_set (x i : Nat) (hi : i < 8) : (back8 x i).set (7 - i) (UInt8.ofNat (x >>> (8 * i))) = back8 x (i + 1) := by
  match i, hi with
  | 0, _ => rfl
  | 1, _ => rfl
  | 2, _ => rfl
  | 3, _ => rfl
  | 4, _ => rfl
  | 5, _ => rfl
  | 6, _ => rfl
  | 7, _ => rfl
theorem back8_len (x i : Nat) (hi : i ≤ 8) : (back8 x i).length = 8 := by
  have : (len8 x).length = 8 := rfl
  unfold back8
  simp
  omega
theorem sized_calls (k : Int) (h : 1 ≤ k ∧ k ≤ 8) (w : World) : Calls Tryz.prog 77 #[.int .i64 k] w fun e w' => e = .returned (.bool true) ∧ w' = w := by
  have o1 : decide (1 ≤ k) = true := decide_eq_true h.1
  have o2 : decide (k ≤ 8) = true := decide_eq_true h.2
  go_enter Tryz.func77, Tryz.ntmps77
  go_wp2
  go_ret
  exact ⟨rfl, rfl⟩
def T_40_8 : Bool × List (List Nat × List Nat) := (true, [([], []), ([0], [0]), ([1], [1]), ([2], [2]), ([], []), ([4], [4]), ([5], [5]), ([3, 6], [3, 6])])
def B_40_8 : List Nat := [0, 1, 3, 7, 0, 16, 48, 127]
theorem tab_f40_8 : rtab .any (opsOf Tryz.f40 8) = T_40_8 := by kernel_rfl
theorem bits_f40_8 : waitsOk T_40_8.2 B_40_8 = true := by kernel_rfl
set_option maxHeartbeats 8000000 in
set_option maxRecDepth 100000 in
theorem number8_calls (w : World) (p q base x : Nat) (r : Option (List UInt8)) (H : WrAt w p q base r) (hx : x < 18446744073709551616) (hn : ∀ l, r = some l → l.length + 8 ≤ 140737488355328) :
    Calls Tryz.prog 40 #[.pointer (some ⟨p, 0, none⟩), .int .u64 (x : Int), .int .i64 8] w fun e w' => e = .returned (.tuple #[]) ∧ WrAt w' p q base (r.map (· ++ len8 x)) ∧ Pm w w' p base := by
  have HW0 := Aside0.mk H
  have HL := Aside0.mk (show p < base ∧ q < base ∧ p ≠ q ∧ base ≤ w.heap.size from ⟨H.1, H.2.1, H.2.2.1, H.2.2.2.1⟩)
  have HN0 := Aside0.mk hn
  clear H hn
  go_enter Tryz.func40, Tryz.ntmps40
  go_wp2_with (first
    | (go_at_call 77; (with_reducible refine (sized_calls 8 (by decide) w).mono ?_); rintro e w0 ⟨rfl, rfl⟩)
    | (refine wpList_alloc_v rfl 88 rfl ((back8 x 0).map vB) (by kernel_rfl) ?_; intro T w1 eT hT1 hb1 hz1))
  have HW1 := Aside0.mk (show WrAt w1 p q base r from HW0.out.mv (Mv.of_below hb1.out (fun _ => False)) (fun k hk => hk.elim))
  have hsz := Aside0.mk (show base ≤ T ∧ T < w1.heap.size ∧ p < T ∧ q < T by have := eT.out; have := HL.out; have := hz1.out; omega)
  go_loopw [25] (fun iv wq => ∃ i : Nat, iv = .int .i64 (i : Int) ∧ i ≤ 8 ∧ wq.heap[T]? = some (.cells ((back8 x i).map vB).toArray 88 (0, 0)) ∧ Mv w1 wq (fun k => k = T)) (fun iv _ => 8 - (intOf iv).toNat)
  case atStart => exact ⟨0, rfl, by omega, hT1.out, Mv.refl _ _⟩
  case round =>
    obtain ⟨i, rfl, hi, hT, hm⟩ := hrel
    have HT := Aside0.mk hT
    have HM := Aside0.mk hm
    clear hT hm
    by_cases hk2 : i < 8
    · have o1 : decide ((i : Int) < 8) = true := decide_eq_true (by omega)
      obtain ⟨j, ej⟩ : ∃ j, j = 7 - i := ⟨_, rfl⟩
      have q5 : ((j : Int) < 8) = True := eq_true (by omega)
      have q6 : (j < 8) = True := eq_true (by omega)
      obtain ⟨x0, d0⟩ := row_cell HT.out j (by rw [back8_len x i hi]; omega)
      have d1 := Wd_thaw HT.out j
      have zq : 7 - (i : Int) = (j : Int) := by omega
      have EJ := Aside0.mk ej
      clear ej
      go_wp2
      rw [byte_shr]
      refine ⟨⟨i + 1, rfl, by omega, ?_, HM.out.set j _ (Or.inl rfl)⟩, by simp only [intOf]; omega⟩
      rw [← back8_set x i hk2, ← EJ.out]
      exact put_row HT.out j _
    · have o1 : decide ((i : Int) < 8) = false := decide_eq_false (by omega)
      have BY := Aside0.mk (show BytesIn wr.drew (some ⟨T, 0, none⟩) (len8 x) from by
        have h := HT.out
        rw [show i = 8 by omega] at h
        exact (bytes_of_row (w := wr) h).mv (Mv.refl wr (fun _ => False)).drew (fun _ _ _ h => h))
      have HW := Aside0.mk (show WrAt wr.drew p q base r from (HW0.out.mv ((Mv.of_below hb1.out (fun k => w0.heap.size ≤ k)).then HM.out (fun k hk => Or.inl (by have := eT.out; omega))) (fun k hk => Or.inl hk)).mv (Mv.refl wr (fun _ => False)).drew (fun k hk => hk.elim))
      have hMr := Aside0.mk (show Mv w0 wr.drew (fun _ => False) from ((Mv.of_below hb1.out (fun _ => False)).then HM.out (fun k hk => Or.inr (by have := eT.out; omega))).drew)
      clear hk2 hi HM HT HW0 HW1 eT hT1 hb1 hz1
      cases r with
      | some l =>
        have HN := Aside0.mk (show l.length + (ByteArray.mk (len8 x).toArray).size ≤ 140737488355328 from HN0.out l rfl)
        obtain ⟨_, _, _, _, v, h5, _⟩ := HW.out
        have c2 : wr.cell? ⟨p, 2, none⟩ = some (.func (.func 76) #[] #[.pointer (some ⟨q, 0, none⟩)]) := cell_of (show wr.heap[p]? = _ from h5) rfl
        clear h5
        go_wp2
        refine start_ (n := 8) (S := fun w' => w'.cell? ⟨p, 2, none⟩ = some (.func (.func 76) #[] #[.pointer (some ⟨q, 0, none⟩)])) (ds := []) #[false, false, false, false, false, false, false, false] (by kernel_rfl) rfl rfl c2 (fun hHeld => ?_)
        refine with_tabW tab_f40_8 bits_f40_8 (fun HT_ HW_ => ?_)
        refine pure_ (i := 0) (N := some 39) (v := ?_) (a' := ?_) #[true, false, false, false, false, false, false, false] rfl rfl (any_of HT_.out (by kernel_rfl)) (fun _ _ _ h => h) (Or.inl ⟨by rfl, ?_⟩) ?_ ?_
        rotate_left
        · intro w'
          go_simp
          with_reducible rfl
        rotate_left
        · simp only [pS]
          rfl
        refine pure_ (i := 1) (N := some 40) (v := ?_) (a' := ?_) #[true, true, false, false, false, false, false, false] rfl rfl (any_of HT_.out (by kernel_rfl)) (fun _ _ _ h => h) (Or.inl ⟨by rfl, ?_⟩) ?_ ?_
        rotate_left
        · intro w'
          go_simp
          with_reducible rfl
        rotate_left
        · simp only [pS]
          rfl
        refine pure_ (i := 2) (N := some 41) (v := ?_) (a' := ?_) #[true, true, true, false, false, false, false, false] rfl rfl (any_of HT_.out (by kernel_rfl)) (fun _ _ _ h => h) (Or.inl ⟨by rfl, ?_⟩) ?_ ?_
        rotate_left
        · intro w'
          go_simp
          with_reducible rfl
        rotate_left
        · simp only [pS]
          rfl
        refine take_ (i := 3) (N := some 42) (v := ?_) (a' := ?_) #[true, true, true, true, false, false, false, false] rfl rfl (take_ofW HT_.out HW_.out (by kernel_rfl)) (fun _ _ _ h => h) (Or.inl ⟨by rfl, ?_⟩) hHeld ?_ ?_
        rotate_left
        · rintro w' s0
          go_simp
          with_reducible rfl
        rotate_left
        · simp only [pS]
          rfl
        refine pure_ (i := 4) (N := some 43) (v := ?_) (a' := ?_) #[true, true, true, true, true, false, false, false] rfl rfl (any_of HT_.out (by kernel_rfl)) (fun _ _ _ h => h) (Or.inl ⟨by rfl, ?_⟩) ?_ ?_
        rotate_left
        · intro w'
          go_simp
          with_reducible rfl
        rotate_left
        · simp only [pS]
          rfl
        refine pure_ (i := 5) (N := some 44) (v := ?_) (a' := ?_) #[true, true, true, true, true, true, false, false] rfl rfl (any_of HT_.out (by kernel_rfl)) (fun _ _ _ h => h) (Or.inl ⟨by rfl, ?_⟩) ?_ ?_
        rotate_left
        · intro w'
          go_simp
          with_reducible rfl
        rotate_left
        · simp only [pS]
          rfl
        refine one_ (i := 6) (N := some 45) #[true, true, true, true, true, true, true, false] rfl rfl (one_of HT_.out (by kernel_rfl)) (by decide) (fun K hK => ?_)
        refine step_of_wp rfl (wp_string_of 39 9 5 _ rfl (some ⟨T, 0, none⟩) 8 8 rfl (len8 x) rfl BY.out Tryz.underlying39 (by kernel_rfl) Tryz.underlying5 ?_)
        refine hK.out _ _ hHeld (fun hHeld => ?_)
        clear hK K
        refine norm_ (a' := ?_) ?_ ?_
        rotate_left
        · show Act.put _ (some 45) _ = _
          simp only [pS]
          rfl
        refine one_ (i := 7) (N := some 46) #[true, true, true, true, true, true, true, true] rfl rfl (one_of HT_.out (by kernel_rfl)) (by decide) (fun K hK => ?_)
        refine goesv_ Tryz.func76 (by kernel_rfl) rfl #[.string ⟨(len8 x).toArray⟩, .pointer (some ⟨q, 0, none⟩)] (by rfl) rfl rfl rfl (by simp [Act.eval]) ?_
        with_reducible refine (lay_calls _ p q base l ⟨(len8 x).toArray⟩ HW.out HN.out).mono ?_
        rintro e w9 ⟨rfl, hw9, hm9⟩
        refine ⟨_, rfl, ?_⟩
        refine hK.out _ _ (wr_lay hw9) (fun hHeld => ?_)
        clear hK K
        refine norm_ (a' := ?_) ?_ ?_
        rotate_left
        · show Act.put _ (some 46) _ = _
          simp only [pS]
          rfl
        refine done_ (done_of HT_.out (by kernel_rfl)) ?_
        go_wp2
        go_end0
        exact ⟨rfl, hw9, Pm.after hMr.out hm9⟩
      | none =>
        obtain ⟨_, _, _, _, v, h5⟩ := HW.out
        have c2 : wr.cell? ⟨p, 2, none⟩ = some (.func (.func 96) #[] #[]) := cell_of (show wr.heap[p]? = _ from h5) rfl
        clear h5
        go_wp2
        refine start_ (n := 8) (S := fun w' => w'.cell? ⟨p, 2, none⟩ = some (.func (.func 96) #[] #[])) (ds := []) #[false, false, false, false, false, false, false, false] (by kernel_rfl) rfl rfl c2 (fun hHeld => ?_)
        refine with_tabW tab_f40_8 bits_f40_8 (fun HT_ HW_ => ?_)
        refine pure_ (i := 0) (N := some 39) (v := ?_) (a' := ?_) #[true, false, false, false, false, false, false, false] rfl rfl (any_of HT_.out (by kernel_rfl)) (fun _ _ _ h => h) (Or.inl ⟨by rfl, ?_⟩) ?_ ?_
        rotate_left
        · intro w'
          go_simp
          with_reducible rfl
        rotate_left
        · simp only [pS]
          rfl
        refine pure_ (i := 1) (N := some 40) (v := ?_) (a' := ?_) #[true, true, false, false, false, false, false, false] rfl rfl (any_of HT_.out (by kernel_rfl)) (fun _ _ _ h => h) (Or.inl ⟨by rfl, ?_⟩) ?_ ?_
        rotate_left
        · intro w'
          go_simp
          with_reducible rfl
        rotate_left
        · simp only [pS]
          rfl
        refine pure_ (i := 2) (N := some 41) (v := ?_) (a' := ?_) #[true, true, true, false, false, false, false, false] rfl rfl (any_of HT_.out (by kernel_rfl)) (fun _ _ _ h => h) (Or.inl ⟨by rfl, ?_⟩) ?_ ?_
        rotate_left
        · intro w'
          go_simp
          with_reducible rfl
        rotate_left
        · simp only [pS]
          rfl
        refine take_ (i := 3) (N := some 42) (v := ?_) (a' := ?_) #[true, true, true, true, false, false, false, false] rfl rfl (take_ofW HT_.out HW_.out (by kernel_rfl)) (fun _ _ _ h => h) (Or.inl ⟨by rfl, ?_⟩) hHeld ?_ ?_
        rotate_left
        · rintro w' s0
          go_simp
          with_reducible rfl
        rotate_left
        · simp only [pS]
          rfl
        refine pure_ (i := 4) (N := some 43) (v := ?_) (a' := ?_) #[true, true, true, true, true, false, false, false] rfl rfl (any_of HT_.out (by kernel_rfl)) (fun _ _ _ h => h) (Or.inl ⟨by rfl, ?_⟩) ?_ ?_
        rotate_left
        · intro w'
          go_simp
          with_reducible rfl
        rotate_left
        · simp only [pS]
          rfl
        refine pure_ (i := 5) (N := some 44) (v := ?_) (a' := ?_) #[true, true, true, true, true, true, false, false] rfl rfl (any_of HT_.out (by kernel_rfl)) (fun _ _ _ h => h) (Or.inl ⟨by rfl, ?_⟩) ?_ ?_
        rotate_left
        · intro w'
          go_simp
          with_reducible rfl
        rotate_left
        · simp only [pS]
          rfl
        refine one_ (i := 6) (N := some 45) #[true, true, true, true, true, true, true, false] rfl rfl (one_of HT_.out (by kernel_rfl)) (by decide) (fun K hK => ?_)
        refine step_of_wp rfl (wp_string_of 39 9 5 _ rfl (some ⟨T, 0, none⟩) 8 8 rfl (len8 x) rfl BY.out Tryz.underlying39 (by kernel_rfl) Tryz.underlying5 ?_)
        refine hK.out _ _ hHeld (fun hHeld => ?_)
        clear hK K
        refine norm_ (a' := ?_) ?_ ?_
        rotate_left
        · show Act.put _ (some 45) _ = _
          simp only [pS]
          rfl
        refine one_ (i := 7) (N := some 46) #[true, true, true, true, true, true, true, true] rfl rfl (one_of HT_.out (by kernel_rfl)) (by decide) (fun K hK => ?_)
        refine goesv_ Tryz.func96 (by kernel_rfl) rfl #[.string ⟨(len8 x).toArray⟩] (by rfl) rfl rfl rfl (by simp [Act.eval]) ?_
        with_reducible refine (nolay_calls ⟨(len8 x).toArray⟩ _).mono ?_
        rintro e w9 ⟨rfl, rfl⟩
        refine ⟨_, rfl, ?_⟩
        refine hK.out _ _ hHeld (fun hHeld => ?_)
        clear hK K
        refine norm_ (a' := ?_) ?_ ?_
        rotate_left
        · show Act.put _ (some 46) _ = _
          simp only [pS]
          rfl
        refine done_ (done_of HT_.out (by kernel_rfl)) ?_
        go_wp2
        go_end0
        exact ⟨rfl, HW.out, Pm.after hMr.out (Pm.refl _ _ _)⟩
end Go.Proofs.YtniabkphbnimaaaGreatDoor.Sh
namespace Go.Proofs.YtniabkphbnimaaaGreatDoor.Sh
open Go Go.RowKit Go.Maps Go.Proofs.YtniabkphbnimaaaGreatDoorW.PrintWords Go.Proofs.YtniabkphbnimaaaGreatDoorW.PrintLast Go.Proofs.YtniabkphbnimaaaGreatDoor.Bs
/-- A Reader behind the address p that has not failed, and what it has still to read. -/
def RdAt (w : World) (p : Nat) (l : List UInt8) : Prop := w.heap[p]? = some (.cells [.string (str l), .int .i64 0, .func (.func 47) #[.pointer (some ⟨p, 0, none⟩)] #[]].toArray 82 (0, 0))
theorem str_take (l : List UInt8) (n : Nat) : (str l).extract 0 n = str (l.take n) := by
  apply ByteArray.ext
  simp [str]
theorem str_drop (l : List UInt8) (n : Nat) : (str l).extract n (str l).size = str (l.drop n) := by
  apply ByteArray.ext
  simp [str, ByteArray.size]
  rw [List.take_of_length_le (by simp)]
set_option maxHeartbeats 8000000 in
set_option maxRecDepth 100000 in
theorem newR_calls (w : World) (l : List UInt8) : Calls Tryz.prog 28 #[.string (str l)] w fun e w' => ∃ p, e = .returned (.pointer (some ⟨p, 0, none⟩)) ∧ p = w.heap.size ∧ w'.heap.size = p + 1 ∧ RdAt w' p l ∧ Below w.heap.size w w' := by
  go_enter Tryz.func28, Tryz.ntmps28
  go_wp2_with (refine wpList_store_cell rfl 80 _ _ rfl w.heap.size 2 rfl (.func (.func 47) #[.pointer (some ⟨w.heap.size, 0, none⟩)] #[]) rfl [.string (str l), .int .i64 0, .nilFunc] _ (heap_alloc_new w _) (by exact Nat.lt_succ_self 2) rfl (by kernel_rfl) ?_; intro w1 hp1 hm1 hz1)
  go_ret
  refine ⟨w.heap.size, rfl, rfl, ?_, hp1.out, Mv.toBelow (below_alloc (Below.refl _ _) _) hm1.out (fun k hk => by omega)⟩
  rw [hz1.out]
  show (w.heap.push _).size = _
  simp
set_option maxHeartbeats 8000000 in
theorem left_calls (w : World) (p : Nat) (l : List UInt8) (H : RdAt w p l) : Calls Tryz.prog 30 #[.pointer (some ⟨p, 0, none⟩)] w fun e w' => e = .returned (.int .i64 (l.length : Int)) ∧ w' = w := by
  have c0 : w.cell? ⟨p, 0, none⟩ = some (.string (str l)) := cell_of H rfl
  go_enter Tryz.func30, Tryz.ntmps30
  go_wp2
  go_ret
  exact ⟨rfl, rfl⟩
set_option maxHeartbeats 8000000 in
set_option maxRecDepth 100000 in
theorem next_calls (w : World) (p n : Nat) (l : List UInt8) (H : RdAt w p l) (hn : n ≤ l.length) : Calls Tryz.prog 47 #[.pointer (some ⟨p, 0, none⟩), .int .i64 (n : Int)] w fun e w' => e = .returned (.tuple #[.string (str (l.take n)), .bool true]) ∧ RdAt w' p (l.drop n) ∧ Mv w w' (fun k => k = p) := by
  have HR := Aside0.mk H
  obtain ⟨s, es⟩ : ∃ s, s = str l := ⟨_, rfl⟩
  have c0 : w.cell? ⟨p, 0, none⟩ = some (.string s) := by rw [es]; exact cell_of H rfl
  have f0 := Wd_thaw H 0
  have hsl : s.size = l.length := by rw [es]; rfl
  have o1 : decide ((s.size : Int) < (n : Int)) = false := decide_eq_false (by omega)
  have o2 : decide (s.size < n) = false := decide_eq_false (by omega)
  have q1 : ((n : Int) ≤ (s.size : Int)) = True := eq_true (by omega)
  have q2 : (n ≤ s.size) = True := eq_true (by omega)
  have q3 : (0 ≤ (n : Int)) = True := eq_true (by omega)
  have E1 := Aside0.mk (show s.extract 0 n = str (l.take n) by rw [es]; exact str_take l n)
  have E2 := Aside0.mk (show s.extract n s.size = str (l.drop n) by rw [es]; exact str_drop l n)
  clear es H hsl
  go_enter Tryz.func47, Tryz.ntmps47
  go_wp2
  go_ret2
  refine ⟨?_, ?_, mv_set w p 0 _⟩
  · rw [← E1.out]
    rfl
  · have h := set_of HR.out 0 (.string (s.extract n s.size))
    rw [E2.out] at h ⊢
    exact h
set_option maxHeartbeats 8000000 in
set_option maxRecDepth 100000 in
theorem rbytes_calls (w : World) (p n : Nat) (l : List UInt8) (H : RdAt w p l) (hn : n ≤ l.length) : Calls Tryz.prog 103 #[.pointer (some ⟨p, 0, none⟩), .int .i64 (n : Int)] w fun e w' => e = .returned (.string (str (l.take n))) ∧ RdAt w' p (l.drop n) ∧ Mv w w' (fun k => k = p) := by
  have HR := Aside0.mk H
  have HN := Aside0.mk hn
  have c2 : w.cell? ⟨p, 2, none⟩ = some (.func (.func 47) #[.pointer (some ⟨p, 0, none⟩)] #[]) := cell_of H rfl
  have o1 : decide ((n : Int) < 0) = false := decide_eq_false (by omega)
  clear H hn
  go_enter Tryz.func103, Tryz.ntmps103
  go_wp2_with (go_at_call 47; (with_reducible refine (next_calls w p n l HR.out HN.out).mono ?_); rintro e w2 ⟨rfl, hr2, hm2⟩)
  go_ret
  exact ⟨rfl, hr2, hm2⟩
/-- The number that bytes spell, the highest first. -/
def num : List UInt8 → Nat
  | [] => 0
  | b :: l => b.toNat * 256 ^ l.length + num l
theorem num_snoc (l : List UInt8) (b : UInt8) : num (l ++ [b]) = num l * 256 + b.toNat := by
  induction l with
  | nil => simp [num]
  | cons a l ih =>
    rw [List.cons_append, num, num, ih, List.length_append, List.length_singleton, Nat.pow_succ]
    generalize 256 ^ l.length = P
    rw [Nat.add_mul, Nat.mul_assoc, ← Nat.add_assoc]
theorem num_lt (l : List UInt8) : num l < 256 ^ l.length := by
  induction l with
  | nil => simp [num]
  | cons a l ih =>
    have := a.toNat_lt
    rw [num, List.length_cons, Nat.pow_succ]
    have h : a.toNat * 256 ^ l.length ≤ 255 * 256 ^ l.length := Nat.mul_le_mul_right _ (by omega)
    omega
theorem or_num (n : Nat) (b : UInt8) (h : n < 72057594037927936) : Go.bits .or .u64 ((n : Int) * 256) (b.toNat : Int) = ((n * 256 + b.toNat : Nat) : Int) := by
  show IntKind.u64.wrap ((BitVec.ofInt 64 ((n : Int) * 256) ||| BitVec.ofInt 64 (b.toNat : Int)).toNat : Int) = _
  have hb := b.toNat_lt
  have e1 : BitVec.ofInt 64 ((n : Int) * 256) = BitVec.ofNat 64 (n * 256) := by
    rw [show ((n : Int) * 256) = ((n * 256 : Nat) : Int) by omega]
    exact BitVec.ofInt_natCast ..
  have e2 : BitVec.ofInt 64 (b.toNat : Int) = BitVec.ofNat 64 b.toNat := BitVec.ofInt_natCast ..
  have e3 : n * 256 ||| b.toNat = n * 256 + b.toNat := by
    rw [show n * 256 = 2 ^ 8 * n by omega]
    exact (Nat.two_pow_add_eq_or_of_lt hb n).symm
  rw [e1, e2, BitVec.toNat_or, BitVec.toNat_ofNat, BitVec.toNat_ofNat, Nat.mod_eq_of_lt (by omega), Nat.mod_eq_of_lt (by omega), e3, wrap_u64]
  omega
set_option maxHeartbeats 8000000 in
set_option maxRecDepth 100000 in
theorem rnumber_calls (w : World) (p n : Nat) (l : List UInt8) (H : RdAt w p l) (h1 : 1 ≤ n) (h8 : n ≤ 8) (hn : n ≤ l.length) : Calls Tryz.prog 111 #[.pointer (some ⟨p, 0, none⟩), .int .i64 (n : Int)] w fun e w' => e = .returned (.int .u64 (num (l.take n) : Int)) ∧ RdAt w' p (l.drop n) ∧ Mv w w' (fun k => k = p) := by
  have HR := Aside0.mk H
  have HN := Aside0.mk hn
  have c2 : w.cell? ⟨p, 2, none⟩ = some (.func (.func 47) #[.pointer (some ⟨p, 0, none⟩)] #[]) := cell_of H rfl
  have HZ := Aside0.mk (show (1 : Int) ≤ (n : Int) ∧ (n : Int) ≤ 8 by omega)
  obtain ⟨t, et⟩ : ∃ t, t = l.take n := ⟨_, rfl⟩
  have htl : t.length = n := by rw [et, List.length_take]; omega
  obtain ⟨s, es⟩ : ∃ s, s = str t := ⟨_, rfl⟩
  have hsz : s.size = n := by rw [es]; exact htl
  have cn := Aside0.mk (show ∀ w, RdAt w p l → Calls Tryz.prog 47 #[.pointer (some ⟨p, 0, none⟩), .int .i64 (n : Int)] w fun e w' => e = .returned (.tuple #[.string s, .bool true]) ∧ RdAt w' p (l.drop n) ∧ Mv w w' (fun k => k = p) from fun w hw => by
    rw [es, et]
    exact next_calls w p n l hw HN.out)
  have ES := Aside0.mk (show (∀ (i : Nat) (h : i < s.size), t[i]? = some s[i]) from fun i h => by
    subst es
    exact List.getElem?_eq_getElem _)
  have ET := Aside0.mk et
  clear H hn et es
  go_enter Tryz.func111, Tryz.ntmps111
  go_wp2_with (first
    | (go_at_call 77; (with_reducible refine (sized_calls (n : Int) HZ.out w).mono ?_); rintro e w0 ⟨rfl, rfl⟩)
    | (go_at_call 47; (with_reducible refine (cn.out _ HR.out).mono ?_); rintro e w2 ⟨rfl, hr2, hm2⟩; have HR2 := Aside0.mk hr2; have HM2 := Aside0.mk hm2; clear hr2 hm2))
  go_loopw [7, 25] (fun xv iv wq => ∃ i : Nat, iv = .int .i64 (i : Int) ∧ i ≤ n ∧ xv = .int .u64 (num (t.take i) : Int) ∧ wq = w2) (fun _ iv _ => n - (intOf iv).toNat)
  case atStart => exact ⟨0, rfl, by omega, rfl, rfl⟩
  case round =>
    obtain ⟨i, rfl, hi, rfl, rfl⟩ := hrel
    by_cases hk : i < n
    · have o1 : decide ((i : Int) < (s.size : Int)) = true := decide_eq_true (by omega)
      have o2 : decide (i < s.size) = true := decide_eq_true (by omega)
      have q3 : (i < s.size) = True := eq_true (by omega)
      have hks : i < s.size := by omega
      obtain ⟨m, em⟩ : ∃ m, m = num (t.take i) := ⟨_, rfl⟩
      have hm : m < 72057594037927936 := by
        have h := num_lt (t.take i)
        rw [← em] at h
        have hl : (t.take i).length ≤ 7 := by rw [List.length_take]; omega
        have h2 : 256 ^ (t.take i).length ≤ 256 ^ 7 := Nat.pow_le_pow_right (by omega) hl
        exact Nat.lt_of_lt_of_le h h2
      have z1 : IntKind.u64.wrap ((m : Int) * 256) = (m : Int) * 256 := by rw [wrap_u64]; omega
      have HM := Aside0.mk hm
      have EM := Aside0.mk (show num (t.take (i + 1)) = m * 256 + s[i].toNat by
        rw [List.take_add_one, ES.out i hks, em]
        exact num_snoc _ _)
      rw [← em]
      clear em hm
      go_wp2
      have hw : IntKind.u64.wrap (s[i].toNat : Int) = (s[i].toNat : Int) := by rw [wrap_u64]; have := s[i].toNat_lt; clear z1; omega
      rw [hw, or_num m _ HM.out, ← EM.out]
      exact ⟨⟨i + 1, rfl, by clear z1 hw; omega, rfl, trivial⟩, by clear z1 hw; simp only [intOf]; omega⟩
    · have o1 : decide ((i : Int) < (s.size : Int)) = false := decide_eq_false (by omega)
      have o2 : decide (i < s.size) = false := decide_eq_false (by omega)
      have e : t.take i = t := List.take_of_length_le (by omega)
      rw [e]
      go_wp2
      go_ret
      rw [← ET.out]
      exact ⟨rfl, HR2.out, HM2.out⟩
theorem sb_key (b : UInt8) : wrap64 (IntKind.u64.wrap ((b.toNat : Int) * 72057594037927936)) / 72057594037927936 = if b.toNat > 127 then (b.toNat : Int) - 256 else (b.toNat : Int) := by
  have key : ∀ i : Fin 256, wrap64 (IntKind.u64.wrap ((i.val : Int) * 72057594037927936)) / 72057594037927936 = if i.val > 127 then (i.val : Int) - 256 else (i.val : Int) := by decide +kernel
  exact key ⟨b.toNat, b.toNat_lt⟩
def sbyte (b : UInt8) : Int := if b.toNat > 127 then (b.toNat : Int) - 256 else (b.toNat : Int)
set_option maxHeartbeats 8000000 in
set_option maxRecDepth 100000 in
theorem rsigned_calls (w : World) (p : Nat) (b : UInt8) (H : RdAt w p [b]) : Calls Tryz.prog 112 #[.pointer (some ⟨p, 0, none⟩), .int .i64 1] w fun e w' => e = .returned (.int .i64 (sbyte b)) ∧ Mv w w' (fun k => k = p) := by
  have HR := Aside0.mk H
  have cn := Aside0.mk (show ∀ w, RdAt w p [b] → Calls Tryz.prog 111 #[.pointer (some ⟨p, 0, none⟩), .int .i64 1] w fun e w' => e = .returned (.int .u64 (b.toNat : Int)) ∧ RdAt w' p [] ∧ Mv w w' (fun k => k = p) from fun w hw => by
    have h := rnumber_calls w p 1 [b] hw (by omega) (by omega) (by simp)
    rw [show num ([b].take 1) = b.toNat by simp [num]] at h
    exact h)
  clear H
  go_enter Tryz.func112, Tryz.ntmps112
  go_wp2_with (go_at_call 111; (with_reducible refine (cn.out _ HR.out).mono ?_); rintro e w2 ⟨rfl, hr2, hm2⟩; have c1 : w2.cell? ⟨p, 1, none⟩ = some (.int .i64 0) := cell_of hr2 rfl)
  go_ret
  unfold sbyte
  rw [← sb_key b]
  exact ⟨rfl, hm2⟩
end Go.Proofs.YtniabkphbnimaaaGreatDoor.Sh
namespace Go.Proofs.YtniabkphbnimaaaGreatDoor.Sh
open Go Go.RowKit Go.Maps Go.Proofs.YtniabkphbnimaaaGreatDoorW.PrintWords Go.Proofs.YtniabkphbnimaaaGreatDoorW.PrintLast Go.Proofs.YtniabkphbnimaaaGreatDoor.Bs
set_option maxHeartbeats 8000000 in
set_option maxRecDepth 100000 in
theorem number1_calls (w : World) (p q base x : Nat) (r : Option (List UInt8)) (H : WrAt w p q base r) (hx : x < 18446744073709551616) (hn : ∀ l, r = some l → l.length + 8 ≤ 140737488355328) :
    Calls Tryz.prog 40 #[.pointer (some ⟨p, 0, none⟩), .int .u64 (x : Int), .int .i64 1] w fun e w' => e = .returned (.tuple #[]) ∧ WrAt w' p q base (if x < 256 then r.map (· ++ [UInt8.ofNat x]) else none) ∧ Pm w w' p base := by
  have HW0 := Aside0.mk H
  have HL := Aside0.mk (show p < base ∧ q < base ∧ p ≠ q ∧ base ≤ w.heap.size from ⟨H.1, H.2.1, H.2.2.1, H.2.2.2.1⟩)
  have HN0 := Aside0.mk hn
  clear H hn
  obtain ⟨y, ey⟩ : ∃ y : Nat, y = x / 256 := ⟨_, rfl⟩
  have zy : (x : Int) / 2 ^ 8 = (y : Int) := by rw [ey]; rfl
  have zy2 : (x : Int) / 256 = (y : Int) := by rw [ey]; rfl
  by_cases hx2 : x < 256
  · rw [if_pos hx2]
    have hy : y = 0 := by omega
    have o0 : decide ((y : Int) = 0) = true := decide_eq_true (by omega)
    have o0b : ((y : Int) == 0) = true := by rw [hy]; rfl
    have o0c : ((y : Int) != 0) = false := by rw [hy]; rfl
    clear ey hy
    go_enter Tryz.func40, Tryz.ntmps40
    go_wp2_with (first
      | (go_at_call 77; (with_reducible refine (sized_calls 1 (by decide) w).mono ?_); rintro e w0 ⟨rfl, rfl⟩)
      | (refine wpList_alloc_v rfl 88 rfl ((back8 x 0).map vB) (by kernel_rfl) ?_; intro T w1 eT hT1 hb1 hz1))
    have HW1 := Aside0.mk (show WrAt w1 p q base r from HW0.out.mv (Mv.of_below hb1.out (fun _ => False)) (fun k hk => hk.elim))
    have hsz := Aside0.mk (show base ≤ T ∧ T < w1.heap.size ∧ p < T ∧ q < T by have := eT.out; have := HL.out; have := hz1.out; omega)
    go_loopw [25] (fun iv wq => (iv = .int .i64 0 ∧ wq = w1) ∨ (iv = .int .i64 1 ∧ wq.heap[T]? = some (.cells ((UInt8.ofNat x :: List.replicate 7 0).map vB).toArray 88 (0, 0)) ∧ Mv w1 wq (fun k => k = T))) (fun iv _ => 1 - (intOf iv).toNat)
    case atStart => exact Or.inl ⟨rfl, rfl⟩
    case round =>
      rcases hrel with ⟨rfl, ew⟩ | ⟨rfl, hT, hm⟩
      · have HT := Aside0.mk (show wr.heap[T]? = some (.cells ((back8 x 0).map vB).toArray 88 (0, 0)) from by rw [ew]; exact hT1.out)
        have EW := Aside0.mk ew
        clear ew
        obtain ⟨x0, d0⟩ := row_cell HT.out 0 (by rw [back8_len x 0 (by omega)]; omega)
        have d1 := Wd_thaw HT.out 0
        go_wp2
        have hb := byte_shr x 0
        rw [show ((2 : Int) ^ 0) = 1 from rfl, Int.ediv_one, Nat.shiftRight_zero] at hb
        have hb2 : (x : Int) = ((UInt8.ofNat x).toNat : Int) := by rw [← hb]; clear zy zy2; omega
        rw [hb2]
        refine ⟨Or.inr ⟨rfl, ?_, by rw [← EW.out]; exact mv_set wr T 0 _⟩, by simp only [intOf]; omega⟩
        exact put_row HT.out 0 (UInt8.ofNat x)
      · have HT := Aside0.mk hT
        have HM := Aside0.mk hm
        clear hT hm
        have BY := Aside0.mk (show BytesIn wr.drew (some ⟨T, 0, none⟩) [UInt8.ofNat x] from Or.inr ⟨T, 0, rfl, fun i v hv => by
          match i, hv with
          | 0, hv => cases hv; exact cell_of (show wr.heap[T]? = _ from HT.out) rfl⟩)
        have HW := Aside0.mk (show WrAt wr.drew p q base r from (HW0.out.mv ((Mv.of_below hb1.out (fun k => w0.heap.size ≤ k)).then HM.out (fun k hk => Or.inl (by have := eT.out; omega))) (fun k hk => Or.inl hk)).mv (Mv.refl wr (fun _ => False)).drew (fun k hk => hk.elim))
        have hMr := Aside0.mk (show Mv w0 wr.drew (fun _ => False) from ((Mv.of_below hb1.out (fun _ => False)).then HM.out (fun k hk => Or.inr (by have := eT.out; omega))).drew)
        clear HM HT HW0 HW1 eT hT1 hb1 hz1
        cases r with
        | some l =>
          have HN := Aside0.mk (show l.length + (ByteArray.mk ([UInt8.ofNat x]).toArray).size ≤ 140737488355328 from Nat.le_trans (by show l.length + 1 ≤ l.length + 8; omega) (HN0.out l rfl))
          obtain ⟨_, _, _, _, v, h5, _⟩ := HW.out
          have c2 : wr.cell? ⟨p, 2, none⟩ = some (.func (.func 76) #[] #[.pointer (some ⟨q, 0, none⟩)]) := cell_of (show wr.heap[p]? = _ from h5) rfl
          clear h5
          go_wp2
          refine start_ (n := 8) (S := fun w' => w'.cell? ⟨p, 2, none⟩ = some (.func (.func 76) #[] #[.pointer (some ⟨q, 0, none⟩)])) (ds := []) #[false, false, false, false, false, false, false, false] (by kernel_rfl) rfl rfl c2 (fun hHeld => ?_)
          refine with_tabW tab_f40_8 bits_f40_8 (fun HT_ HW_ => ?_)
          refine pure_ (i := 0) (N := some 39) (v := ?_) (a' := ?_) #[true, false, false, false, false, false, false, false] rfl rfl (any_of HT_.out (by kernel_rfl)) (fun _ _ _ h => h) (Or.inl ⟨by rfl, ?_⟩) ?_ ?_
          rotate_left
          · intro w'
            go_simp
            with_reducible rfl
          rotate_left
          · simp only [pS]
            rfl
          refine pure_ (i := 1) (N := some 40) (v := ?_) (a' := ?_) #[true, true, false, false, false, false, false, false] rfl rfl (any_of HT_.out (by kernel_rfl)) (fun _ _ _ h => h) (Or.inl ⟨by rfl, ?_⟩) ?_ ?_
          rotate_left
          · intro w'
            go_simp
            with_reducible rfl
          rotate_left
          · simp only [pS]
            rfl
          refine pure_ (i := 2) (N := some 41) (v := ?_) (a' := ?_) #[true, true, true, false, false, false, false, false] rfl rfl (any_of HT_.out (by kernel_rfl)) (fun _ _ _ h => h) (Or.inl ⟨by rfl, ?_⟩) ?_ ?_
          rotate_left
          · intro w'
            go_simp
            with_reducible rfl
          rotate_left
          · simp only [pS]
            rfl
          refine take_ (i := 3) (N := some 42) (v := ?_) (a' := ?_) #[true, true, true, true, false, false, false, false] rfl rfl (take_ofW HT_.out HW_.out (by kernel_rfl)) (fun _ _ _ h => h) (Or.inl ⟨by rfl, ?_⟩) hHeld ?_ ?_
          rotate_left
          · rintro w' s0
            go_simp
            with_reducible rfl
          rotate_left
          · simp only [pS]
            rfl
          refine pure_ (i := 4) (N := some 43) (v := ?_) (a' := ?_) #[true, true, true, true, true, false, false, false] rfl rfl (any_of HT_.out (by kernel_rfl)) (fun _ _ _ h => h) (Or.inl ⟨by rfl, ?_⟩) ?_ ?_
          rotate_left
          · intro w'
            go_simp
            with_reducible rfl
          rotate_left
          · simp only [pS]
            rfl
          refine pure_ (i := 5) (N := some 44) (v := ?_) (a' := ?_) #[true, true, true, true, true, true, false, false] rfl rfl (any_of HT_.out (by kernel_rfl)) (fun _ _ _ h => h) (Or.inl ⟨by rfl, ?_⟩) ?_ ?_
          rotate_left
          · intro w'
            go_simp
            with_reducible rfl
          rotate_left
          · simp only [pS]
            rfl
          refine one_ (i := 6) (N := some 45) #[true, true, true, true, true, true, true, false] rfl rfl (one_of HT_.out (by kernel_rfl)) (by decide) (fun K hK => ?_)
          refine step_of_wp rfl (wp_string_of 39 9 5 _ rfl (some ⟨T, 0, none⟩) 1 8 rfl ([UInt8.ofNat x]) rfl BY.out Tryz.underlying39 (by kernel_rfl) Tryz.underlying5 ?_)
          refine hK.out _ _ hHeld (fun hHeld => ?_)
          clear hK K
          refine norm_ (a' := ?_) ?_ ?_
          rotate_left
          · show Act.put _ (some 45) _ = _
            simp only [pS]
            rfl
          refine one_ (i := 7) (N := some 46) #[true, true, true, true, true, true, true, true] rfl rfl (one_of HT_.out (by kernel_rfl)) (by decide) (fun K hK => ?_)
          refine goesv_ Tryz.func76 (by kernel_rfl) rfl #[.string ⟨([UInt8.ofNat x]).toArray⟩, .pointer (some ⟨q, 0, none⟩)] (by rfl) rfl rfl rfl (by simp [Act.eval]) ?_
          with_reducible refine (lay_calls _ p q base l ⟨([UInt8.ofNat x]).toArray⟩ HW.out HN.out).mono ?_
          rintro e w9 ⟨rfl, hw9, hm9⟩
          refine ⟨_, rfl, ?_⟩
          refine hK.out _ _ (wr_lay hw9) (fun hHeld => ?_)
          clear hK K
          refine norm_ (a' := ?_) ?_ ?_
          rotate_left
          · show Act.put _ (some 46) _ = _
            simp only [pS]
            rfl
          refine done_ (done_of HT_.out (by kernel_rfl)) ?_
          go_wp2
          go_end0
          exact ⟨rfl, hw9, Pm.after hMr.out hm9⟩
        | none =>
          obtain ⟨_, _, _, _, v, h5⟩ := HW.out
          have c2 : wr.cell? ⟨p, 2, none⟩ = some (.func (.func 96) #[] #[]) := cell_of (show wr.heap[p]? = _ from h5) rfl
          clear h5
          go_wp2
          refine start_ (n := 8) (S := fun w' => w'.cell? ⟨p, 2, none⟩ = some (.func (.func 96) #[] #[])) (ds := []) #[false, false, false, false, false, false, false, false] (by kernel_rfl) rfl rfl c2 (fun hHeld => ?_)
          refine with_tabW tab_f40_8 bits_f40_8 (fun HT_ HW_ => ?_)
          refine pure_ (i := 0) (N := some 39) (v := ?_) (a' := ?_) #[true, false, false, false, false, false, false, false] rfl rfl (any_of HT_.out (by kernel_rfl)) (fun _ _ _ h => h) (Or.inl ⟨by rfl, ?_⟩) ?_ ?_
          rotate_left
          · intro w'
            go_simp
            with_reducible rfl
          rotate_left
          · simp only [pS]
            rfl
          refine pure_ (i := 1) (N := some 40) (v := ?_) (a' := ?_) #[true, true, false, false, false, false, false, false] rfl rfl (any_of HT_.out (by kernel_rfl)) (fun _ _ _ h => h) (Or.inl ⟨by rfl, ?_⟩) ?_ ?_
          rotate_left
          · intro w'
            go_simp
            with_reducible rfl
          rotate_left
          · simp only [pS]
            rfl
          refine pure_ (i := 2) (N := some 41) (v := ?_) (a' := ?_) #[true, true, true, false, false, false, false, false] rfl rfl (any_of HT_.out (by kernel_rfl)) (fun _ _ _ h => h) (Or.inl ⟨by rfl, ?_⟩) ?_ ?_
          rotate_left
          · intro w'
            go_simp
            with_reducible rfl
          rotate_left
          · simp only [pS]
            rfl
          refine take_ (i := 3) (N := some 42) (v := ?_) (a' := ?_) #[true, true, true, true, false, false, false, false] rfl rfl (take_ofW HT_.out HW_.out (by kernel_rfl)) (fun _ _ _ h => h) (Or.inl ⟨by rfl, ?_⟩) hHeld ?_ ?_
          rotate_left
          · rintro w' s0
            go_simp
            with_reducible rfl
          rotate_left
          · simp only [pS]
            rfl
          refine pure_ (i := 4) (N := some 43) (v := ?_) (a' := ?_) #[true, true, true, true, true, false, false, false] rfl rfl (any_of HT_.out (by kernel_rfl)) (fun _ _ _ h => h) (Or.inl ⟨by rfl, ?_⟩) ?_ ?_
          rotate_left
          · intro w'
            go_simp
            with_reducible rfl
          rotate_left
          · simp only [pS]
            rfl
          refine pure_ (i := 5) (N := some 44) (v := ?_) (a' := ?_) #[true, true, true, true, true, true, false, false] rfl rfl (any_of HT_.out (by kernel_rfl)) (fun _ _ _ h => h) (Or.inl ⟨by rfl, ?_⟩) ?_ ?_
          rotate_left
          · intro w'
            go_simp
            with_reducible rfl
          rotate_left
          · simp only [pS]
            rfl
          refine one_ (i := 6) (N := some 45) #[true, true, true, true, true, true, true, false] rfl rfl (one_of HT_.out (by kernel_rfl)) (by decide) (fun K hK => ?_)
          refine step_of_wp rfl (wp_string_of 39 9 5 _ rfl (some ⟨T, 0, none⟩) 1 8 rfl ([UInt8.ofNat x]) rfl BY.out Tryz.underlying39 (by kernel_rfl) Tryz.underlying5 ?_)
          refine hK.out _ _ hHeld (fun hHeld => ?_)
          clear hK K
          refine norm_ (a' := ?_) ?_ ?_
          rotate_left
          · show Act.put _ (some 45) _ = _
            simp only [pS]
            rfl
          refine one_ (i := 7) (N := some 46) #[true, true, true, true, true, true, true, true] rfl rfl (one_of HT_.out (by kernel_rfl)) (by decide) (fun K hK => ?_)
          refine goesv_ Tryz.func96 (by kernel_rfl) rfl #[.string ⟨([UInt8.ofNat x]).toArray⟩] (by rfl) rfl rfl rfl (by simp [Act.eval]) ?_
          with_reducible refine (nolay_calls ⟨([UInt8.ofNat x]).toArray⟩ _).mono ?_
          rintro e w9 ⟨rfl, rfl⟩
          refine ⟨_, rfl, ?_⟩
          refine hK.out _ _ hHeld (fun hHeld => ?_)
          clear hK K
          refine norm_ (a' := ?_) ?_ ?_
          rotate_left
          · show Act.put _ (some 46) _ = _
            simp only [pS]
            rfl
          refine done_ (done_of HT_.out (by kernel_rfl)) ?_
          go_wp2
          go_end0
          exact ⟨rfl, HW.out, Pm.after hMr.out (Pm.refl _ _ _)⟩
  · rw [if_neg hx2]
    have o0 : decide ((y : Int) = 0) = false := decide_eq_false (by omega)
    have o0b : ((y : Int) == 0) = false := by simp; omega
    have o0c : ((y : Int) != 0) = true := by simp; omega
    clear ey
    go_enter Tryz.func40, Tryz.ntmps40
    go_wp2_with (first
      | (go_at_call 77; (with_reducible refine (sized_calls 1 (by decide) w).mono ?_); rintro e w0 ⟨rfl, rfl⟩)
      | (go_at_call 78; (with_reducible refine (fail_calls _ p q base r HW0.out).mono ?_); rintro e w2 ⟨rfl, hw2, hm2⟩))
    refine bodyPost_ret (results_none rfl _ _ _) rfl ⟨rfl, hw2, hm2⟩
end Go.Proofs.YtniabkphbnimaaaGreatDoor.Sh
namespace Go.Proofs.YtniabkphbnimaaaGreatDoor.Sh
open Go Go.RowKit Go.Maps Go.Proofs.YtniabkphbnimaaaGreatDoorW.PrintWords Go.Proofs.YtniabkphbnimaaaGreatDoorW.PrintLast Go.Proofs.YtniabkphbnimaaaGreatDoor.Bs
def txt (r : Option (List UInt8)) (l : List UInt8) : Option (List UInt8) := if l.length ≤ 255 then r.map (· ++ (UInt8.ofNat l.length :: l)) else none
set_option maxHeartbeats 8000000 in
set_option maxRecDepth 100000 in
theorem text_calls (w : World) (p q base : Nat) (r : Option (List UInt8)) (s : ByteArray) (H : WrAt w p q base r) (hn : ∀ l, r = some l → l.length + 300 ≤ 140737488355328) (hs : s.size < 4611686018427387904) :
    Calls Tryz.prog 92 #[.pointer (some ⟨p, 0, none⟩), .string s] w fun e w' => e = .returned (.tuple #[]) ∧ WrAt w' p q base (txt r (bl s)) ∧ Pm w w' p base := by
  have HW0 := Aside0.mk H
  have HN0 := Aside0.mk hn
  have HS := Aside0.mk hs
  clear H hn hs
  by_cases h : s.size ≤ 255
  · have e : txt r (bl s) = (r.map (· ++ [UInt8.ofNat s.size])).map (· ++ bl s) := by
      unfold txt
      rw [bl_len, if_pos h]
      cases r <;> simp
    rw [e]
    have o1 : decide ((255 : Int) < (s.size : Int)) = false := decide_eq_false (by omega)
    have z1 : IntKind.u64.wrap (s.size : Int) = (s.size : Int) := by rw [wrap_u64]; omega
    cases r with
    | some l =>
      have c1 := Aside0.mk (show ∀ w, WrAt w p q base (some l) → Calls Tryz.prog 40 #[.pointer (some ⟨p, 0, none⟩), .int .u64 (s.size : Int), .int .i64 1] w fun e w' => e = .returned (.tuple #[]) ∧ WrAt w' p q base (some (l ++ [UInt8.ofNat s.size])) ∧ Pm w w' p base from fun w hw => by
        have := number1_calls w p q base s.size (some l) hw (by have := HS.out; omega) (fun l' e => by have := HN0.out l' e; omega)
        rw [if_pos (by omega)] at this
        exact this)
      have HN1 := Aside0.mk (show (l ++ [UInt8.ofNat s.size]).length + s.size ≤ 140737488355328 by have := HN0.out l rfl; simp; omega)
      go_enter Tryz.func92, Tryz.ntmps92
      go_wp2_with (first
        | (go_at_call 40; (with_reducible refine (c1.out w HW0.out).mono ?_); rintro e w2 ⟨rfl, hw2, hm2⟩; have HW2 := Aside0.mk hw2; have c2 := wr_lay hw2; clear hw2)
        | (go_at_call 76; (with_reducible refine (lay_calls w2 p q base _ s HW2.out HN1.out).mono ?_); rintro e w3 ⟨rfl, hw3, hm3⟩))
      go_end0
      exact ⟨rfl, hw3, Pm.then hm2 hm3⟩
    | none =>
      have c1 := Aside0.mk (show ∀ w, WrAt w p q base none → Calls Tryz.prog 40 #[.pointer (some ⟨p, 0, none⟩), .int .u64 (s.size : Int), .int .i64 1] w fun e w' => e = .returned (.tuple #[]) ∧ WrAt w' p q base none ∧ Pm w w' p base from fun w hw => by
        have := number1_calls w p q base s.size none hw (by have := HS.out; omega) (fun l' e => by cases e)
        rw [if_pos (by omega)] at this
        exact this)
      go_enter Tryz.func92, Tryz.ntmps92
      go_wp2_with (first
        | (go_at_call 40; (with_reducible refine (c1.out w HW0.out).mono ?_); rintro e w2 ⟨rfl, hw2, hm2⟩; have HW2 := Aside0.mk hw2; have c2 : w2.cell? ⟨p, 2, none⟩ = some (.func (.func 96) #[] #[]) := (by obtain ⟨_, _, _, _, v, h5⟩ := hw2; exact cell_of h5 rfl); clear hw2)
        | (go_at_call 96; (with_reducible refine (nolay_calls s w2).mono ?_); rintro e w3 ⟨rfl, rfl⟩))
      go_end0
      exact ⟨rfl, HW2.out, hm2⟩
  · have e : txt r (bl s) = none := by
      unfold txt
      rw [bl_len, if_neg h]
    rw [e]
    have o1 : decide ((255 : Int) < (s.size : Int)) = true := decide_eq_true (by omega)
    go_enter Tryz.func92, Tryz.ntmps92
    go_wp2_with (go_at_call 78; (with_reducible refine (fail_calls _ p q base r HW0.out).mono ?_); rintro e w2 ⟨rfl, hw2, hm2⟩)
    refine bodyPost_ret (results_none rfl _ _ _) rfl ⟨rfl, hw2, hm2⟩
def sgn (r : Option (List UInt8)) (x : Int) : Option (List UInt8) := if -128 ≤ x ∧ x ≤ 127 then r.map (· ++ [UInt8.ofNat (x % 256).toNat]) else none
theorem and255 (x : Int) (h : -128 ≤ x ∧ x ≤ 127) : Go.bits .and .u64 (IntKind.u64.wrap x) 255 = ((x % 256).toNat : Int) := by
  have key : ∀ i : Fin 256, Go.bits .and .u64 (IntKind.u64.wrap ((i.val : Int) - 128)) 255 = ((((i.val : Int) - 128) % 256).toNat : Int) := by decide +kernel
  have := key ⟨(x + 128).toNat, by omega⟩
  simp only at this
  rw [show (((x + 128).toNat : Nat) : Int) - 128 = x by omega] at this
  exact this
set_option maxHeartbeats 8000000 in
set_option maxRecDepth 100000 in
theorem signed_calls (w : World) (p q base : Nat) (r : Option (List UInt8)) (x : Int) (H : WrAt w p q base r) (hn : ∀ l, r = some l → l.length + 300 ≤ 140737488355328) :
    Calls Tryz.prog 94 #[.pointer (some ⟨p, 0, none⟩), .int .i64 x, .int .i64 1] w fun e w' => e = .returned (.tuple #[]) ∧ WrAt w' p q base (sgn r x) ∧ Pm w w' p base := by
  have HW0 := Aside0.mk H
  have HN0 := Aside0.mk hn
  clear H hn
  by_cases h : -128 ≤ x ∧ x ≤ 127
  · have o1 : decide (x < -128) = false := decide_eq_false (by omega)
    have o2 : decide (128 ≤ x) = false := decide_eq_false (by omega)
    have ZA := Aside0.mk (and255 x h)
    have c1 := Aside0.mk (show ∀ w, WrAt w p q base r → Calls Tryz.prog 40 #[.pointer (some ⟨p, 0, none⟩), .int .u64 (Go.bits .and .u64 (IntKind.u64.wrap x) 255), .int .i64 1] w fun e w' => e = .returned (.tuple #[]) ∧ WrAt w' p q base (sgn r x) ∧ Pm w w' p base from fun w hw => by
      have := number1_calls w p q base (x % 256).toNat r hw (by omega) (fun l' e => by have := HN0.out l' e; omega)
      rw [if_pos (by omega)] at this
      rw [ZA.out]
      unfold sgn
      rw [if_pos h]
      exact this)
    clear h
    go_enter Tryz.func94, Tryz.ntmps94
    go_wp2_with (first
      | (go_at_call 77; (with_reducible refine (sized_calls 1 (by decide) w).mono ?_); rintro e w0 ⟨rfl, rfl⟩)
      | (go_at_call 40; (with_reducible refine (c1.out _ HW0.out).mono ?_); rintro e w2 ⟨rfl, hw2, hm2⟩))
    go_end0
    exact ⟨rfl, hw2, hm2⟩
  · have e : sgn r x = none := by
      unfold sgn
      rw [if_neg h]
    rw [e]
    clear e
    by_cases h1 : x < -128
    · have o1 : decide (x < -128) = true := decide_eq_true h1
      go_enter Tryz.func94, Tryz.ntmps94
      go_wp2_with (first
        | (go_at_call 77; (with_reducible refine (sized_calls 1 (by decide) w).mono ?_); rintro e w0 ⟨rfl, rfl⟩)
        | (go_at_call 78; (with_reducible refine (fail_calls _ p q base r HW0.out).mono ?_); rintro e w2 ⟨rfl, hw2, hm2⟩))
      refine bodyPost_ret (results_none rfl _ _ _) rfl ⟨rfl, hw2, hm2⟩
    · have o1 : decide (x < -128) = false := decide_eq_false h1
      have o2 : decide (128 ≤ x) = true := decide_eq_true (by omega)
      go_enter Tryz.func94, Tryz.ntmps94
      go_wp2_with (first
        | (go_at_call 77; (with_reducible refine (sized_calls 1 (by decide) w).mono ?_); rintro e w0 ⟨rfl, rfl⟩)
        | (go_at_call 78; (with_reducible refine (fail_calls _ p q base r HW0.out).mono ?_); rintro e w2 ⟨rfl, hw2, hm2⟩))
      refine bodyPost_ret (results_none rfl _ _ _) rfl ⟨rfl, hw2, hm2⟩
end Go.Proofs.YtniabkphbnimaaaGreatDoor.Sh
namespace Go.Proofs
open Go.Shelf
def Tryz.lays160_ren : Go.Shelf.Ren := ⟨fun | 160 => 90 | 232 => 105 | 231 => 104 | 227 => 106 | 234 => 108 | 233 => 107 | 236 => 110 | 235 => 109 | 228 => 117 | 271 => 120 | 151 => 119 | 197 => 118 | 120 => 127 | 152 => 126 | 260 => 125 | 137 => 128 | 119 => 129 | 224 => 130 | 225 => 131 | 217 => 132 | 266 => 133 | n => n, fun | 9 => 9 | 4 => 4 | 3 => 3 | 5 => 5 | 117 => 121 | 116 => 120 | 0 => 0 | 124 => 124 | 21 => 21 | 105 => 134 | 46 => 38 | 119 => 140 | 139 => 143 | 138 => 142 | n => n, fun | 3 => 4 | 4 => 5 | n => n⟩
theorem Tryz.lays160 : Go.Proofs.Lays.n160 Tryz.prog Tryz.lays160_ren := {
  mixed := by kernel_rfl
  f119 := Tryz.func129.trans (congrArg some (by kernel_rfl))
  f120 := Tryz.func127.trans (congrArg some (by kernel_rfl))
  f137 := Tryz.func128.trans (congrArg some (by kernel_rfl))
  f151 := Tryz.func119.trans (congrArg some (by kernel_rfl))
  f152 := Tryz.func126.trans (congrArg some (by kernel_rfl))
  f160 := Tryz.func90.trans (congrArg some (by kernel_rfl))
  f197 := Tryz.func118.trans (congrArg some (by kernel_rfl))
  f217 := Tryz.func132.trans (congrArg some (by kernel_rfl))
  f224 := Tryz.func130.trans (congrArg some (by kernel_rfl))
  f225 := Tryz.func131.trans (congrArg some (by kernel_rfl))
  f227 := Tryz.func106.trans (congrArg some (by kernel_rfl))
  f228 := Tryz.func117.trans (congrArg some (by kernel_rfl))
  f231 := Tryz.func104.trans (congrArg some (by kernel_rfl))
  f232 := Tryz.func105.trans (congrArg some (by kernel_rfl))
  f233 := Tryz.func107.trans (congrArg some (by kernel_rfl))
  f234 := Tryz.func108.trans (congrArg some (by kernel_rfl))
  f235 := Tryz.func109.trans (congrArg some (by kernel_rfl))
  f236 := Tryz.func110.trans (congrArg some (by kernel_rfl))
  f260 := Tryz.func125.trans (congrArg some (by kernel_rfl))
  f266 := Tryz.func133.trans (congrArg some (by kernel_rfl))
  f271 := Tryz.func120.trans (congrArg some (by kernel_rfl))
  t0 := Tryz.underlying0
  a0 := Tryz.isAgg0
  z0 := Tryz.sizeOf0
  v0 := Tryz.zeroValue0
  t3 := Tryz.underlying3
  a3 := Tryz.isAgg3
  z3 := Tryz.sizeOf3
  v3 := Tryz.zeroValue3
  t4 := Tryz.underlying4
  a4 := Tryz.isAgg4
  z4 := Tryz.sizeOf4
  v4 := Tryz.zeroValue4
  t5 := Tryz.underlying5
  a5 := Tryz.isAgg5
  z5 := Tryz.sizeOf5
  v5 := Tryz.zeroValue5
  t9 := Tryz.underlying9
  a9 := Tryz.isAgg9
  z9 := Tryz.sizeOf9
  v9 := Tryz.zeroValue9
  t21 := Tryz.underlying21
  a21 := Tryz.isAgg21
  z21 := Tryz.sizeOf21
  v21 := Tryz.zeroValue21
  t46 := Tryz.underlying38
  a46 := Tryz.isAgg38
  z46 := Tryz.sizeOf38
  v46 := Tryz.zeroValue38
  t105 := Tryz.underlying134
  a105 := Tryz.isAgg134
  z105 := Tryz.sizeOf134
  v105 := Tryz.zeroValue134
  t116 := Tryz.underlying120
  a116 := Tryz.isAgg120
  z116 := Tryz.sizeOf120
  t117 := Tryz.underlying121
  a117 := Tryz.isAgg121
  z117 := Tryz.sizeOf121
  v117 := Tryz.zeroValue121
  t119 := Tryz.underlying140
  a119 := Tryz.isAgg140
  z119 := Tryz.sizeOf140
  t124 := Tryz.underlying124
  a124 := Tryz.isAgg124
  z124 := Tryz.sizeOf124
  v124 := Tryz.zeroValue124
  t138 := Tryz.underlying142
  a138 := Tryz.isAgg142
  z138 := Tryz.sizeOf142
  v138 := Tryz.zeroValue142
  t139 := Tryz.underlying143
  a139 := Tryz.isAgg143
  z139 := Tryz.sizeOf143
  v139 := Tryz.zeroValue143
  g3 := by kernel_rfl
  g4 := by kernel_rfl }
open Go.RowKit in
theorem Tryz.strings_Trim_one (s : ByteArray) (c : UInt8) (hc : c.toNat < 128) (w : World) (hs : s.size ≤ 9223372036854775807) :
    Calls Tryz.prog 90 #[.string s, .string ⟨#[c]⟩] w fun e w' => e = .returned (.string ⟨(Lib.trimB s.data.toList c).toArray⟩) ∧ (w' = w ∨ w' = w.drew) := Any.strings_Trim_one Tryz.lays160 s c hc w hs
def Tryz.lays105_ren : Go.Shelf.Ren := ⟨fun | 105 => 44 | 212 => 79 | 99 => 34 | 165 => 80 | 166 => 81 | 170 => 82 | 169 => 83 | 263 => 97 | 264 => 98 | 206 => 73 | 240 => 99 | 241 => 100 | 276 => 114 | 277 => 115 | n => n, fun | 9 => 9 | 3 => 3 | 4 => 4 | 20 => 20 | 0 => 0 | 46 => 38 | 109 => 89 | 5 => 5 | 72 => 93 | 76 => 97 | 51 => 110 | 146 => 111 | 53 => 23 | 148 => 113 | 70 => 91 | 37 => 39 | 75 => 96 | 127 => 115 | 164 => 127 | 80 => 99 | n => n, fun | n => n⟩
theorem Tryz.lays105 : Go.Proofs.Lays.n105 Tryz.prog Tryz.lays105_ren := {
  mixed := by kernel_rfl
  f99 := Tryz.func34.trans (congrArg some (by kernel_rfl))
  f105 := Tryz.func44.trans (congrArg some (by kernel_rfl))
  f165 := Tryz.func80.trans (congrArg some (by kernel_rfl))
  f166 := Tryz.func81.trans (congrArg some (by kernel_rfl))
  f169 := Tryz.func83.trans (congrArg some (by kernel_rfl))
  f170 := Tryz.func82.trans (congrArg some (by kernel_rfl))
  f206 := Tryz.func73.trans (congrArg some (by kernel_rfl))
  f212 := Tryz.func79.trans (congrArg some (by kernel_rfl))
  f240 := Tryz.func99.trans (congrArg some (by kernel_rfl))
  f241 := Tryz.func100.trans (congrArg some (by kernel_rfl))
  f263 := Tryz.func97.trans (congrArg some (by kernel_rfl))
  f264 := Tryz.func98.trans (congrArg some (by kernel_rfl))
  f276 := Tryz.func114.trans (congrArg some (by kernel_rfl))
  f277 := Tryz.func115.trans (congrArg some (by kernel_rfl))
  t0 := Tryz.underlying0
  a0 := Tryz.isAgg0
  z0 := Tryz.sizeOf0
  v0 := Tryz.zeroValue0
  t3 := Tryz.underlying3
  a3 := Tryz.isAgg3
  z3 := Tryz.sizeOf3
  v3 := Tryz.zeroValue3
  t4 := Tryz.underlying4
  a4 := Tryz.isAgg4
  z4 := Tryz.sizeOf4
  v4 := Tryz.zeroValue4
  t5 := Tryz.underlying5
  a5 := Tryz.isAgg5
  z5 := Tryz.sizeOf5
  v5 := Tryz.zeroValue5
  t9 := Tryz.underlying9
  a9 := Tryz.isAgg9
  z9 := Tryz.sizeOf9
  v9 := Tryz.zeroValue9
  t20 := Tryz.underlying20
  a20 := Tryz.isAgg20
  z20 := Tryz.sizeOf20
  v20 := Tryz.zeroValue20
  t37 := Tryz.underlying39
  a37 := Tryz.isAgg39
  z37 := Tryz.sizeOf39
  v37 := Tryz.zeroValue39
  t46 := Tryz.underlying38
  a46 := Tryz.isAgg38
  z46 := Tryz.sizeOf38
  v46 := Tryz.zeroValue38
  t51 := Tryz.underlying110
  a51 := Tryz.isAgg110
  z51 := Tryz.sizeOf110
  v51 := Tryz.zeroValue110
  t53 := Tryz.underlying23
  a53 := Tryz.isAgg23
  z53 := Tryz.sizeOf23
  v53 := Tryz.zeroValue23
  t70 := Tryz.underlying91
  a70 := Tryz.isAgg91
  z70 := Tryz.sizeOf91
  v70 := Tryz.zeroValue91
  t72 := Tryz.underlying93
  a72 := Tryz.isAgg93
  z72 := Tryz.sizeOf93
  v72 := Tryz.zeroValue93
  t75 := Tryz.underlying96
  a75 := Tryz.isAgg96
  z75 := Tryz.sizeOf96
  v75 := Tryz.zeroValue96
  t76 := Tryz.underlying97
  a76 := Tryz.isAgg97
  z76 := Tryz.sizeOf97
  v76 := Tryz.zeroValue97
  t109 := Tryz.underlying89
  a109 := Tryz.isAgg89
  z109 := Tryz.sizeOf89
  v109 := Tryz.zeroValue89
  t127 := Tryz.underlying115
  a127 := Tryz.isAgg115
  z127 := Tryz.sizeOf115
  v127 := Tryz.zeroValue115
  t146 := Tryz.underlying111
  a146 := Tryz.isAgg111
  z146 := Tryz.sizeOf111
  v146 := Tryz.zeroValue111
  t148 := Tryz.underlying113
  a148 := Tryz.isAgg113
  z148 := Tryz.sizeOf113
  v148 := Tryz.zeroValue113
  t164 := Tryz.underlying127
  a164 := Tryz.isAgg127
  z164 := Tryz.sizeOf127
  v164 := Tryz.zeroValue127 }
theorem Tryz.Builder_Extra_105 : Builder.Extra Tryz.prog Tryz.lays105_ren := {
  sizeBuilder := by kernel_rfl
  liesBuilder := by kernel_rfl
  t5 := Tryz.underlying5
  a5 := Tryz.isAgg5
  z5 := Tryz.sizeOf5
  v5 := Tryz.zeroValue5
  infoByte := by kernel_rfl
  cellsByte := by kernel_rfl
  sizeByte := by kernel_rfl
  neB5 := by decide }
open Go.RowKit Go.Lib in
theorem Tryz.strings_Repeat (s : ByteArray) (c : Nat) (w : World) (hc : c ≤ 9223372036854775807) (hlen : s.size * c ≤ 140737488355328) :
    Calls Tryz.prog 44 #[.string s, .int .i64 c] w fun e w' => e = .returned (.string ⟨(Lib.repeatL s.data.toList c).toArray⟩) ∧ Below w.heap.size w w' := Any.strings_Repeat Tryz.lays105 Tryz.Builder_Extra_105 s c w hc hlen
end Go.Proofs
namespace Go.Proofs.YtniabkphbnimaaaGreatDoor.Sh
open Go Go.RowKit Go.Maps Go.Proofs.YtniabkphbnimaaaGreatDoorW.PrintWords Go.Proofs.YtniabkphbnimaaaGreatDoorW.PrintLast Go.Proofs.YtniabkphbnimaaaGreatDoor.Bs
/-- A datagram. -/
structure Dg where
  kind : Int
  nonce : ByteArray
  epoch : Nat
  cookie : ByteArray
  name : ByteArray
  session : Nat
  player : Int
  salt : ByteArray
  seq : Nat
  thr : Int
  trn : Int
  fire : Bool
  boost : Bool
  data : ByteArray
  tag : ByteArray
def Dg.cells (d : Dg) : List Value := [.int .i64 d.kind, .string d.nonce, .int .u64 (d.epoch : Int), .string d.cookie, .string d.name, .int .u64 (d.session : Int), .int .i64 d.player, .string d.salt, .int .u64 (d.seq : Int), .int .i64 d.thr, .int .i64 d.trn, .bool d.fire, .bool d.boost, .string d.data, .string d.tag]
def Dg.row (d : Dg) (p : Nat) (bad : Bool) : List Value := .pointer (some ⟨p, 0, none⟩) :: (d.cells ++ [.bool bad])
/-- What a field of a machine's size and texts of a bound may be. -/
def Dg.ok (d : Dg) : Prop := (d.epoch < 18446744073709551616 ∧ d.session < 18446744073709551616 ∧ d.seq < 18446744073709551616) ∧ (-9223372036854775808 ≤ d.player ∧ d.player ≤ 9223372036854775807) ∧ d.nonce.size < 1099511627776 ∧ d.cookie.size < 1099511627776 ∧ d.name.size < 1099511627776 ∧ d.salt.size < 1099511627776 ∧ d.data.size < 1099511627776 ∧ d.tag.size < 1099511627776
def WgAt (w : World) (W p q base : Nat) (d : Dg) (bad : Bool) (r : Option (List UInt8)) : Prop :=
  (W < base ∧ W ≠ p ∧ W ≠ q) ∧ w.heap[W]? = some (.cells (d.row p bad).toArray 69 (0, 0)) ∧ WrAt w p q base r
def Sz (m : Nat) (r : Option (List UInt8)) : Prop := ∀ l, r = some l → l.length ≤ m * 2199023255552
theorem WgAt.mvW {w w' : World} {W p q base : Nat} {d : Dg} {bad : Bool} {r r' : Option (List UInt8)} (H : WgAt w W p q base d bad r) (hw : WrAt w' p q base r') (hm : Pm w w' p base) : WgAt w' W p q base d bad r' := by
  obtain ⟨h1, h2, h3⟩ := H
  exact ⟨h1, hm.old.blk h2 (by omega), hw⟩
theorem WgAt.wr {w : World} {W p q base : Nat} {d : Dg} {bad : Bool} {r : Option (List UInt8)} (H : WgAt w W p q base d bad r) : WrAt w p q base r := H.2.2
/-- From w to w': of what was there, nothing but the blocks W and p and rows of bytes from base on has turned. -/
def Gm (w w' : World) (W p base : Nat) : Prop := Mv w w' (fun k => k = W ∨ k = p ∨ (base ≤ k ∧ U8 w k))
theorem Gm.refl (w : World) (W p base : Nat) : Gm w w W p base := Mv.refl w _
theorem Gm.of {w w' : World} {W p base : Nat} (h : Pm w w' p base) : Gm w w' W p base := Mv.mono h (fun k hk => Or.inr hk)
theorem Gm.set (w : World) (W i : Nat) (v : Value) (p base : Nat) : Gm w (w.setCell ⟨W, i, none⟩ v) W p base := (mv_set w W i v).mono (fun k hk => Or.inl hk)
theorem Gm.below {w w' : World} {W p base : Nat} (h : Below w.heap.size w w') : Gm w w' W p base := Mv.of_below h _
theorem Gm.drew {w w' : World} {W p base : Nat} (h : Gm w w' W p base) : Gm w w'.drew W p base := Mv.drew h
theorem Gm.undrew {w w' : World} {W p base : Nat} (h : Gm w.drew w' W p base) : Gm w w' W p base := ⟨h.os, h.tape, h.output, h.size, h.block⟩
theorem Gm.then {w w1 w2 : World} {W p base : Nat} (h : Gm w w1 W p base) (k : Gm w1 w2 W p base) : Gm w w2 W p base :=
  Mv.then h k (fun j hj => by
    by_cases hs : w.heap.size ≤ j
    · exact Or.inr hs
    · by_cases hS : j = W ∨ j = p ∨ (base ≤ j ∧ U8 w j)
      · exact Or.inl hS
      · refine Or.inl (hj.elim Or.inl (fun h1 => Or.inr (h1.elim Or.inl (fun h2 => Or.inr ⟨h2.1, ?_⟩))))
        obtain ⟨cs, fr, e⟩ := h2.2
        rw [h.block j (by omega) hS] at e
        exact ⟨cs, fr, e⟩)
theorem Gm.blk {w w' : World} {W p base : Nat} (h : Gm w w' W p base) {k : Nat} {cs : Array Value} {t : TypeId} {fr : Nat × Nat} (hk : w.heap[k]? = some (.cells cs t fr)) (hW : k ≠ W) (hp : k ≠ p) (ht : t ≠ 5) : w'.heap[k]? = some (.cells cs t fr) :=
  Mv.blk h hk (fun hs => hs.elim hW (fun h1 => h1.elim hp (fun h2 => by
    obtain ⟨cs2, fr2, e⟩ := h2.2
    rw [hk] at e
    cases e
    exact ht rfl)))
theorem WgAt.setBad {w : World} {W p q base : Nat} {d : Dg} {bad : Bool} {r : Option (List UInt8)} (H : WgAt w W p q base d bad r) (b : Bool) : WgAt (w.setCell ⟨W, 16, none⟩ (.bool b)) W p q base d b r := by
  obtain ⟨h1, h2, h3⟩ := H
  refine ⟨h1, ?_, h3.mv (mv_set w W 16 _) (fun k hk => by subst hk; exact Or.inr h1)⟩
  have h := set_of h2 16 (.bool b)
  exact h
theorem WgAt.at_ {w : World} {W p q base : Nat} {d : Dg} {bad : Bool} {r : Option (List UInt8)} (H : WgAt w W p q base d bad r) {i : Nat} {v : Value} (h : (d.row p bad)[i]? = some v) : w.cell? ⟨W, i, none⟩ = some v := cell_of H.2.1 h
set_option maxHeartbeats 8000000 in
set_option maxRecDepth 100000 in
theorem exact_calls (w : World) (W p q base : Nat) (d : Dg) (bad : Bool) (r : Option (List UInt8)) (s : ByteArray) (n : Nat) (H : WgAt w W p q base d bad r) (hs : s.size < 1099511627776) (hn : n < 1099511627776) (hr : Sz 32 r) :
    Calls Tryz.prog 89 #[.pointer (some ⟨W, 0, none⟩), .string s, .int .i64 (n : Int)] w fun e w' => e = .returned (.tuple #[]) ∧ WgAt w' W p q base d (bad || decide (s.size ≠ n)) (r.map (· ++ bl s)) ∧ Gm w w' W p base := by
  have HW := Aside0.mk H
  have HR := Aside0.mk (show ∀ l, r = some l → l.length + s.size ≤ 140737488355328 from fun l e => by have := hr l e; omega)
  have c0 : w.cell? ⟨W, 0, none⟩ = some (.pointer (some ⟨p, 0, none⟩)) := H.at_ rfl
  have c16 : w.cell? ⟨W, 16, none⟩ = some (.bool bad) := H.at_ rfl
  have f16 := Wd_thaw H.2.1 16
  have o1 : ((s.size : Int) != (n : Int)) = decide (s.size ≠ n) := by
    by_cases h : s.size = n
    · simp [h]
    · have h2 : (s.size : Int) ≠ (n : Int) := by omega
      simp [h]
      omega
  obtain ⟨b, eb⟩ : ∃ b, b = decide (s.size ≠ n) := ⟨_, rfl⟩
  rw [← eb] at o1 ⊢
  clear eb H hr
  have hx : ∀ w2, WrAt w2 p q base (r.map (· ++ bl s)) → ∀ c, Pm (w.setCell ⟨W, 16, none⟩ (.bool c)) w2 p base → WgAt w2 W p q base d c (r.map (· ++ bl s)) ∧ Gm w w2 W p base := fun w2 hw2 c hm2 =>
    ⟨(HW.out.setBad c).mvW hw2 hm2, Gm.then (Gm.set w W 16 _ p base) (Gm.of hm2)⟩
  have HX := Aside0.mk hx
  clear hx
  cases bad with
  | true =>
    go_enter Tryz.func89, Tryz.ntmps89
    go_wp2_with (go_at_call 39; (with_reducible refine (bytes_calls _ p q base r s (HW.out.setBad true).wr HR.out).mono ?_); rintro e w2 ⟨rfl, hw2, hm2⟩)
    go_end0
    exact ⟨rfl, HX.out w2 hw2 true hm2⟩
  | false =>
    go_enter Tryz.func89, Tryz.ntmps89
    go_wp2_with (go_at_call 39; (with_reducible refine (bytes_calls _ p q base r s (HW.out.setBad b).wr HR.out).mono ?_); rintro e w2 ⟨rfl, hw2, hm2⟩)
    go_end0
    exact ⟨rfl, HX.out w2 hw2 b hm2⟩
end Go.Proofs.YtniabkphbnimaaaGreatDoor.Sh
namespace Go.Proofs.YtniabkphbnimaaaGreatDoor.Sh
open Go Go.RowKit Go.Maps Go.Proofs.YtniabkphbnimaaaGreatDoorW.PrintWords Go.Proofs.YtniabkphbnimaaaGreatDoorW.PrintLast Go.Proofs.YtniabkphbnimaaaGreatDoor.Bs
def RgAt (w : World) (R p : Nat) (d : Dg) (bad : Bool) (l : List UInt8) : Prop :=
  R ≠ p ∧ w.heap[R]? = some (.cells (d.row p bad).toArray 54 (0, 0)) ∧ RdAt w p l
/-- The panic of a datagram that is too short. -/
@[reducible] def short : Ending := .panicked [{ v := .iface 28 (.int .i64 72), recovered := false }]
theorem RgAt.rd {w : World} {R p : Nat} {d : Dg} {bad : Bool} {l : List UInt8} (H : RgAt w R p d bad l) : RdAt w p l := H.2.2
theorem RgAt.at_ {w : World} {R p : Nat} {d : Dg} {bad : Bool} {l : List UInt8} (H : RgAt w R p d bad l) {i : Nat} {v : Value} (h : (d.row p bad)[i]? = some v) : w.cell? ⟨R, i, none⟩ = some v := cell_of H.2.1 h
theorem RgAt.mvR {w w' : World} {R p : Nat} {d : Dg} {bad : Bool} {l l' : List UInt8} (H : RgAt w R p d bad l) (hr : RdAt w' p l') (hm : Mv w w' (fun k => k = p)) : RgAt w' R p d bad l' := ⟨H.1, hm.blk H.2.1 H.1, hr⟩
theorem RgAt.fresh {w w' : World} {R p : Nat} {d : Dg} {bad : Bool} {l : List UInt8} (H : RgAt w R p d bad l) (hm : Mv w w' (fun k => w.heap.size ≤ k)) : RgAt w' R p d bad l :=
  ⟨H.1, hm.blk H.2.1 (by have := blk_lt H.2.1; omega), hm.blk H.2.2 (by have := blk_lt H.2.2; omega)⟩
set_option maxHeartbeats 8000000 in
set_option maxRecDepth 100000 in
theorem text_ok (w : World) (R p n : Nat) (d : Dg) (bad : Bool) (l : List UInt8) (H : RgAt w R p d bad l) (hn : n ≤ l.length) : Calls Tryz.prog 88 #[.pointer (some ⟨R, 0, none⟩), .int .i64 (n : Int)] w fun e w' => e = .returned (.string (str (l.take n))) ∧ RgAt w' R p d bad (l.drop n) ∧ Mv w w' (fun k => k = p) := by
  have HR := Aside0.mk H
  have HN := Aside0.mk hn
  have c0 : w.cell? ⟨R, 0, none⟩ = some (.pointer (some ⟨p, 0, none⟩)) := H.at_ rfl
  have o1 : decide ((n : Int) < 0) = false := decide_eq_false (by omega)
  have o2 : decide ((l.length : Int) < (n : Int)) = false := decide_eq_false (by omega)
  have o3 : decide (l.length < n) = false := decide_eq_false (by omega)
  clear H hn
  go_enter Tryz.func88, Tryz.ntmps88
  go_wp2_with (first
    | (go_at_call 30; (with_reducible refine (left_calls w p l HR.out.rd).mono ?_); rintro e w1 ⟨rfl, rfl⟩)
    | (go_at_call 103; (with_reducible refine (rbytes_calls _ p n l HR.out.rd HN.out).mono ?_); rintro e w2 ⟨rfl, hr2, hm2⟩))
  go_ret
  exact ⟨rfl, HR.out.mvR hr2 hm2, hm2⟩
set_option maxHeartbeats 8000000 in
set_option maxRecDepth 100000 in
theorem text_short (w : World) (R p : Nat) (n : Int) (d : Dg) (bad : Bool) (l : List UInt8) (H : RgAt w R p d bad l) (hn : n < 0 ∨ (l.length : Int) < n) : Calls Tryz.prog 88 #[.pointer (some ⟨R, 0, none⟩), .int .i64 n] w fun e w' => e = short ∧ w' = w := by
  have HR := Aside0.mk H
  have c0 : w.cell? ⟨R, 0, none⟩ = some (.pointer (some ⟨p, 0, none⟩)) := H.at_ rfl
  clear H
  by_cases h0 : n < 0
  · have o1 : decide (n < 0) = true := decide_eq_true h0
    go_enter Tryz.func88, Tryz.ntmps88
    go_wp2
    exact ⟨rfl, rfl, rfl⟩
  · have o1 : decide (n < 0) = false := decide_eq_false h0
    have o2 : decide ((l.length : Int) < n) = true := decide_eq_true (by omega)
    go_enter Tryz.func88, Tryz.ntmps88
    go_wp2_with (go_at_call 30; (with_reducible refine (left_calls w p l HR.out.rd).mono ?_); rintro e w1 ⟨rfl, rfl⟩)
    exact ⟨rfl, rfl, rfl⟩
theorem Mv.new1 {w w1 w2 : World} (hb : Below w.heap.size w w1) (hm : Mv w1 w2 (fun k => k = w.heap.size)) : Mv w w2 (fun k => w.heap.size ≤ k) := (Mv.of_below hb _).then hm (fun k hk => Or.inl (by omega))
set_option maxHeartbeats 8000000 in
set_option maxRecDepth 100000 in
theorem number_ok (w : World) (R p n : Nat) (ni : Int) (hni : ni = (n : Int)) (d : Dg) (bad : Bool) (l : List UInt8) (H : RgAt w R p d bad l) (h1 : 1 ≤ n) (h8 : n ≤ 8) (hn : n ≤ l.length) : Calls Tryz.prog 91 #[.pointer (some ⟨R, 0, none⟩), .int .i64 ni] w fun e w' => e = .returned (.int .u64 (num (l.take n) : Int)) ∧ RgAt w' R p d bad (l.drop n) ∧ Mv w w' (fun k => k = p) := by
  subst hni
  have HR := Aside0.mk H
  have HN := Aside0.mk (show (1 ≤ n ∧ n ≤ 8 ∧ n ≤ l.length) ∧ n ≤ (l.take n).length ∧ (l.take n).take n = l.take n from ⟨⟨h1, h8, hn⟩, by rw [List.length_take]; omega, by rw [List.take_take, Nat.min_self]⟩)
  clear H h1 h8 hn
  go_enter Tryz.func91, Tryz.ntmps91
  go_wp2_with (first
    | (go_at_call 88; (with_reducible refine (text_ok w R p n d bad l HR.out HN.out.1.2.2).mono ?_); rintro e w2 ⟨rfl, hr2, hm2⟩; have HR2 := Aside0.mk hr2; have HM2 := Aside0.mk hm2; clear hr2 hm2)
    | (go_at_call 28; (with_reducible refine (newR_calls w2 (l.take n)).mono ?_); rintro e w3 ⟨p2, rfl, hp2, hz3, hr3, hb3⟩; have HR3 := Aside0.mk hr3; have HB3 := Aside0.mk (show p2 = w2.heap.size ∧ Below w2.heap.size w2 w3 from ⟨hp2, hb3⟩); clear hp2 hz3 hr3 hb3)
    | (go_at_call 111; (with_reducible refine (rnumber_calls w3 p2 n (l.take n) HR3.out HN.out.1.1 HN.out.1.2.1 HN.out.2.1).mono ?_); rintro e w4 ⟨rfl, hr4, hm4⟩; have HM4 := Aside0.mk hm4; clear hr4 hm4))
  go_ret
  have hm : Mv w2 w4 (fun k => w2.heap.size ≤ k) := Mv.new1 HB3.out.2 (HB3.out.1 ▸ HM4.out)
  rw [HN.out.2.2]
  exact ⟨rfl, HR2.out.fresh hm, HM2.out.then (hm.mono (fun k hk => hk)) (fun k hk => Or.inr (Nat.le_trans HM2.out.size hk))⟩
set_option maxHeartbeats 8000000 in
set_option maxRecDepth 100000 in
theorem number_short (w : World) (R p n : Nat) (ni : Int) (hni : ni = (n : Int)) (d : Dg) (bad : Bool) (l : List UInt8) (H : RgAt w R p d bad l) (hn : l.length < n) : Calls Tryz.prog 91 #[.pointer (some ⟨R, 0, none⟩), .int .i64 ni] w fun e w' => e = short ∧ w' = w := by
  subst hni
  have HR := Aside0.mk H
  have HN := Aside0.mk (show (n : Int) < 0 ∨ (l.length : Int) < (n : Int) from Or.inr (by omega))
  clear H hn
  go_enter Tryz.func91, Tryz.ntmps91
  go_wp2_with (go_at_call 88; (with_reducible refine (text_short w R p n d bad l HR.out HN.out).mono ?_); rintro e w2 ⟨rfl, rfl⟩)
  exact ⟨rfl, rfl, rfl⟩
set_option maxHeartbeats 8000000 in
set_option maxRecDepth 100000 in
theorem sig_ok (w : World) (R p : Nat) (d : Dg) (bad : Bool) (b : UInt8) (l : List UInt8) (H : RgAt w R p d bad (b :: l)) : Calls Tryz.prog 93 #[.pointer (some ⟨R, 0, none⟩)] w fun e w' => e = .returned (.int .i64 (sbyte b)) ∧ RgAt w' R p d bad l ∧ Mv w w' (fun k => k = p) := by
  have HR := Aside0.mk H
  have T1 := Aside0.mk (show ∀ w, RgAt w R p d bad (b :: l) → Calls Tryz.prog 88 #[.pointer (some ⟨R, 0, none⟩), .int .i64 1] w fun e w' => e = .returned (.string (str [b])) ∧ RgAt w' R p d bad l ∧ Mv w w' (fun k => k = p) from fun w hw => text_ok w R p 1 d bad (b :: l) hw (by simp))
  clear H
  go_enter Tryz.func93, Tryz.ntmps93
  go_wp2_with (first
    | (go_at_call 88; (with_reducible refine (T1.out w HR.out).mono ?_); rintro e w2 ⟨rfl, hr2, hm2⟩; have HR2 := Aside0.mk hr2; have HM2 := Aside0.mk hm2; clear hr2 hm2)
    | (go_at_call 28; (with_reducible refine (newR_calls w2 [b]).mono ?_); rintro e w3 ⟨p2, rfl, hp2, hz3, hr3, hb3⟩; have HR3 := Aside0.mk hr3; have HB3 := Aside0.mk (show p2 = w2.heap.size ∧ Below w2.heap.size w2 w3 from ⟨hp2, hb3⟩); clear hp2 hz3 hr3 hb3)
    | (go_at_call 112; (with_reducible refine (rsigned_calls w3 p2 b HR3.out).mono ?_); rintro e w4 ⟨rfl, hm4⟩; have HM4 := Aside0.mk hm4; clear hm4))
  go_ret
  have hm : Mv w2 w4 (fun k => w2.heap.size ≤ k) := Mv.new1 HB3.out.2 (HB3.out.1 ▸ HM4.out)
  exact ⟨rfl, HR2.out.fresh hm, HM2.out.then (hm.mono (fun k hk => hk)) (fun k hk => Or.inr (Nat.le_trans HM2.out.size hk))⟩
set_option maxHeartbeats 8000000 in
set_option maxRecDepth 100000 in
theorem sig_short (w : World) (R p : Nat) (d : Dg) (bad : Bool) (H : RgAt w R p d bad []) : Calls Tryz.prog 93 #[.pointer (some ⟨R, 0, none⟩)] w fun e w' => e = short ∧ w' = w := by
  have HR := Aside0.mk H
  clear H
  go_enter Tryz.func93, Tryz.ntmps93
  go_wp2_with (go_at_call 88; (with_reducible refine (text_short w R p 1 d bad [] HR.out (Or.inr (by decide))).mono ?_); rintro e w2 ⟨rfl, rfl⟩)
  exact ⟨rfl, rfl, rfl⟩
end Go.Proofs.YtniabkphbnimaaaGreatDoor.Sh
namespace Go.Proofs.YtniabkphbnimaaaGreatDoor.Sh
open Go Go.RowKit Go.Maps Go.Proofs.YtniabkphbnimaaaGreatDoorW.PrintWords Go.Proofs.YtniabkphbnimaaaGreatDoorW.PrintLast Go.Proofs.YtniabkphbnimaaaGreatDoor.Bs
theorem Sz.up {m : Nat} {r : Option (List UInt8)} (h : Sz m r) (hm : m ≤ 32) : Sz 32 r := fun l e => Nat.le_trans (h l e) (Nat.mul_le_mul_right _ hm)
theorem Sz.le {m : Nat} {r : Option (List UInt8)} (h : Sz m r) (hm : m ≤ 32) (k : Nat) (hk : k < 1099511627776) : ∀ l, r = some l → l.length + k ≤ 140737488355328 := fun l e => by
  have h1 := h l e
  have h2 : m * 2199023255552 ≤ 32 * 2199023255552 := Nat.mul_le_mul_right _ hm
  omega
theorem WgAt.drew {w : World} {W p q base : Nat} {d : Dg} {bad : Bool} {r : Option (List UInt8)} (H : WgAt w W p q base d bad r) : WgAt w.drew W p q base d bad r :=
  ⟨H.1, H.2.1, H.2.2.mv (Mv.refl w (fun _ => False)).drew (fun k hk => hk.elim)⟩
theorem WgAt.below {w w' : World} {W p q base : Nat} {d : Dg} {bad : Bool} {r : Option (List UInt8)} (H : WgAt w W p q base d bad r) (hb : Below w.heap.size w w') : WgAt w' W p q base d bad r :=
  ⟨H.1, (hb.block W (blk_lt H.2.1)).trans H.2.1, H.2.2.mv (Mv.of_below hb (fun _ => False)) (fun k hk => hk.elim)⟩
theorem zeros_eq (n : Nat) : Lib.repeatL [0] n = List.replicate n 0 := by
  induction n with
  | zero => rfl
  | succ n ih => rw [Lib.repeatL, ih, List.replicate_succ]; rfl
theorem rep_calls (n : Nat) (ni : Int) (hni : ni = (n : Int)) (hn : n ≤ 1000) (w : World) : Calls Tryz.prog 44 #[.string ⟨#[0]⟩, .int .i64 ni] w fun e w' => e = .returned (.string (str (List.replicate n 0))) ∧ Below w.heap.size w w' := by
  subst hni
  have h := Tryz.strings_Repeat ⟨#[0]⟩ n w (by omega) (by show 1 * n ≤ _; omega)
  rw [show (⟨(Lib.repeatL (ByteArray.mk #[0]).data.toList n).toArray⟩ : ByteArray) = str (List.replicate n 0) from congrArg str (zeros_eq n)] at h
  exact h
theorem exact2_calls (w : World) (W p q base : Nat) (d : Dg) (bad : Bool) (r : Option (List UInt8)) (s : ByteArray) (n : Nat) (ni : Int) (hni : ni = (n : Int)) (H : WgAt w W p q base d bad r) (hs : s.size < 1099511627776) (hn : n < 1099511627776) (hr : Sz 32 r) :
    Calls Tryz.prog 89 #[.pointer (some ⟨W, 0, none⟩), .string s, .int .i64 ni] w fun e w' => e = .returned (.tuple #[]) ∧ WgAt w' W p q base d (bad || decide (s.size ≠ n)) (r.map (· ++ bl s)) ∧ Gm w w' W p base :=
  hni ▸ exact_calls w W p q base d bad r s n H hs hn hr
set_option maxHeartbeats 8000000 in
set_option maxRecDepth 100000 in
theorem putNonce_calls (w : World) (W p q base : Nat) (d : Dg) (bad : Bool) (r : Option (List UInt8)) (m : Nat) (hm : m ≤ 32) (hd : d.ok) (H : WgAt w W p q base d bad r) (hr : Sz m r) :
    Calls Tryz.prog 49 #[.pointer (some ⟨W, 0, none⟩)] w fun e w' => e = .returned (.tuple #[]) ∧ WgAt w' W p q base d (bad || decide (d.nonce.size ≠ 16)) (r.map (· ++ bl d.nonce)) ∧ Gm w w' W p base := by
  have HW := Aside0.mk H
  have HR := Aside0.mk (show d.nonce.size < 1099511627776 ∧ Sz 32 r from ⟨by have := hd; unfold Dg.ok at this; omega, hr.up hm⟩)
  have c1 : w.cell? ⟨W, 2, none⟩ = some (.string d.nonce) := H.at_ rfl
  clear H hr hd
  go_enter Tryz.func49, Tryz.ntmps49
  go_wp2_with (go_at_call 89; (with_reducible refine (exact2_calls w W p q base d bad r d.nonce 16 16 rfl HW.out HR.out.1 (by decide) HR.out.2).mono ?_); rintro e w2 ⟨rfl, hw2, hm2⟩)
  go_end0
  exact ⟨rfl, hw2, hm2⟩
set_option maxHeartbeats 8000000 in
set_option maxRecDepth 100000 in
theorem putCookie_calls (w : World) (W p q base : Nat) (d : Dg) (bad : Bool) (r : Option (List UInt8)) (m : Nat) (hm : m ≤ 32) (hd : d.ok) (H : WgAt w W p q base d bad r) (hr : Sz m r) :
    Calls Tryz.prog 55 #[.pointer (some ⟨W, 0, none⟩)] w fun e w' => e = .returned (.tuple #[]) ∧ WgAt w' W p q base d (bad || decide (d.cookie.size ≠ 32)) (r.map (· ++ bl d.cookie)) ∧ Gm w w' W p base := by
  have HW := Aside0.mk H
  have HR := Aside0.mk (show d.cookie.size < 1099511627776 ∧ Sz 32 r from ⟨by have := hd; unfold Dg.ok at this; omega, hr.up hm⟩)
  have c1 : w.cell? ⟨W, 4, none⟩ = some (.string d.cookie) := H.at_ rfl
  clear H hr hd
  go_enter Tryz.func55, Tryz.ntmps55
  go_wp2_with (go_at_call 89; (with_reducible refine (exact2_calls w W p q base d bad r d.cookie 32 32 rfl HW.out HR.out.1 (by decide) HR.out.2).mono ?_); rintro e w2 ⟨rfl, hw2, hm2⟩)
  go_end0
  exact ⟨rfl, hw2, hm2⟩
set_option maxHeartbeats 8000000 in
set_option maxRecDepth 100000 in
theorem putTag_calls (w : World) (W p q base : Nat) (d : Dg) (bad : Bool) (r : Option (List UInt8)) (m : Nat) (hm : m ≤ 32) (hd : d.ok) (H : WgAt w W p q base d bad r) (hr : Sz m r) :
    Calls Tryz.prog 59 #[.pointer (some ⟨W, 0, none⟩)] w fun e w' => e = .returned (.tuple #[]) ∧ WgAt w' W p q base d (bad || decide (d.tag.size ≠ 32)) (r.map (· ++ bl d.tag)) ∧ Gm w w' W p base := by
  have HW := Aside0.mk H
  have HR := Aside0.mk (show d.tag.size < 1099511627776 ∧ Sz 32 r from ⟨by have := hd; unfold Dg.ok at this; omega, hr.up hm⟩)
  have c1 : w.cell? ⟨W, 15, none⟩ = some (.string d.tag) := H.at_ rfl
  clear H hr hd
  go_enter Tryz.func59, Tryz.ntmps59
  go_wp2_with (go_at_call 89; (with_reducible refine (exact2_calls w W p q base d bad r d.tag 32 32 rfl HW.out HR.out.1 (by decide) HR.out.2).mono ?_); rintro e w2 ⟨rfl, hw2, hm2⟩)
  go_end0
  exact ⟨rfl, hw2, hm2⟩
set_option maxHeartbeats 8000000 in
set_option maxRecDepth 100000 in
theorem putSalt_calls (w : World) (W p q base : Nat) (d : Dg) (bad : Bool) (r : Option (List UInt8)) (m : Nat) (hm : m ≤ 32) (hd : d.ok) (H : WgAt w W p q base d bad r) (hr : Sz m r) :
    Calls Tryz.prog 65 #[.pointer (some ⟨W, 0, none⟩)] w fun e w' => e = .returned (.tuple #[]) ∧ WgAt w' W p q base d (bad || decide (d.salt.size ≠ 16)) (r.map (· ++ bl d.salt)) ∧ Gm w w' W p base := by
  have HW := Aside0.mk H
  have HR := Aside0.mk (show d.salt.size < 1099511627776 ∧ Sz 32 r from ⟨by have := hd; unfold Dg.ok at this; omega, hr.up hm⟩)
  have c1 : w.cell? ⟨W, 8, none⟩ = some (.string d.salt) := H.at_ rfl
  clear H hr hd
  go_enter Tryz.func65, Tryz.ntmps65
  go_wp2_with (go_at_call 89; (with_reducible refine (exact2_calls w W p q base d bad r d.salt 16 16 rfl HW.out HR.out.1 (by decide) HR.out.2).mono ?_); rintro e w2 ⟨rfl, hw2, hm2⟩)
  go_end0
  exact ⟨rfl, hw2, hm2⟩
def T_53_0 : Bool × List (List Nat × List Nat) := (true, [([], []), ([0], [0]), ([1], [1]), ([2], [2]), ([], []), ([4], [4]), ([5], [5]), ([6], [6]), ([7], [7]), ([3, 8], [3, 8])])
def B_53_0 : List Nat := [0, 1, 3, 7, 0, 16, 48, 112, 240, 511]
theorem tab_f53_0 : rtab .any (opsOf Tryz.f53 0) = T_53_0 := by kernel_rfl
theorem bits_f53_0 : waitsOk T_53_0.2 B_53_0 = true := by kernel_rfl
set_option maxHeartbeats 8000000 in
set_option maxRecDepth 100000 in
theorem putEpoch_calls (w : World) (W p q base : Nat) (d : Dg) (bad : Bool) (r : Option (List UInt8)) (m : Nat) (hm : m ≤ 32) (hd : d.ok) (H : WgAt w W p q base d bad r) (hr : Sz m r) :
    Calls Tryz.prog 53 #[.pointer (some ⟨W, 0, none⟩)] w fun e w' => e = .returned (.tuple #[]) ∧ WgAt w' W p q base d bad (r.map (· ++ len8 d.epoch)) ∧ Gm w w' W p base := by
  have HW := Aside0.mk H
  have HD := Aside0.mk (show d.epoch < 18446744073709551616 by have := hd; unfold Dg.ok at this; omega)
  have HR := Aside0.mk (show ∀ l, r = some l → l.length + 8 ≤ 140737488355328 from hr.le hm _ (by have h2 := hd; unfold Dg.ok at h2; omega))
  have c0 : w.cell? ⟨W, 0, none⟩ = some (.pointer (some ⟨p, 0, none⟩)) := H.at_ rfl
  have c1 : w.cell? ⟨W, 3, none⟩ = some (.int .u64 (d.epoch : Int)) := H.at_ rfl
  clear H hr hd
  go_enter Tryz.func53, Tryz.ntmps53
  go_wp2
  refine start_ (n := 10) (S := fun w' => w'.cell? ⟨W, 0, none⟩ = some (.pointer (some ⟨p, 0, none⟩)) ∧ w'.cell? ⟨W, 3, none⟩ = some (.int .u64 (d.epoch : Int))) (ds := []) #[false, false, false, false, false, false, false, false, false, false] (by kernel_rfl) rfl rfl ⟨c0, c1⟩ (fun hHeld => ?_)
  refine with_tabW tab_f53_0 bits_f53_0 (fun HT_ HW_ => ?_)
  refine pure_ (i := 0) (N := some 2) (v := ?_) (a' := ?_) #[true, false, false, false, false, false, false, false, false, false] rfl rfl (any_of HT_.out (by kernel_rfl)) (fun _ _ _ h => h) (Or.inl ⟨by rfl, ?_⟩) ?_ ?_
  rotate_left
  · intro w'
    go_simp
    with_reducible rfl
  rotate_left
  · simp only [pS]
    rfl
  refine pure_ (i := 1) (N := some 3) (v := ?_) (a' := ?_) #[true, true, false, false, false, false, false, false, false, false] rfl rfl (any_of HT_.out (by kernel_rfl)) (fun _ _ _ h => h) (Or.inl ⟨by rfl, ?_⟩) ?_ ?_
  rotate_left
  · intro w'
    go_simp
    with_reducible rfl
  rotate_left
  · simp only [pS]
    rfl
  refine pure_ (i := 2) (N := some 4) (v := ?_) (a' := ?_) #[true, true, true, false, false, false, false, false, false, false] rfl rfl (any_of HT_.out (by kernel_rfl)) (fun _ _ _ h => h) (Or.inl ⟨by rfl, ?_⟩) ?_ ?_
  rotate_left
  · intro w'
    go_simp
    with_reducible rfl
  rotate_left
  · simp only [pS]
    rfl
  refine take_ (i := 3) (N := some 5) (v := ?_) (a' := ?_) #[true, true, true, true, false, false, false, false, false, false] rfl rfl (take_ofW HT_.out HW_.out (by kernel_rfl)) (fun _ _ _ h => h) (Or.inl ⟨by rfl, ?_⟩) hHeld ?_ ?_
  rotate_left
  · rintro w' ⟨s0, s1⟩
    go_simp
    with_reducible rfl
  rotate_left
  · simp only [pS]
    rfl
  refine pure_ (i := 4) (N := some 6) (v := ?_) (a' := ?_) #[true, true, true, true, true, false, false, false, false, false] rfl rfl (any_of HT_.out (by kernel_rfl)) (fun _ _ _ h => h) (Or.inl ⟨by rfl, ?_⟩) ?_ ?_
  rotate_left
  · intro w'
    go_simp
    with_reducible rfl
  rotate_left
  · simp only [pS]
    rfl
  refine pure_ (i := 5) (N := some 7) (v := ?_) (a' := ?_) #[true, true, true, true, true, true, false, false, false, false] rfl rfl (any_of HT_.out (by kernel_rfl)) (fun _ _ _ h => h) (Or.inl ⟨by rfl, ?_⟩) ?_ ?_
  rotate_left
  · intro w'
    go_simp
    with_reducible rfl
  rotate_left
  · simp only [pS]
    rfl
  refine pure_ (i := 6) (N := some 8) (v := ?_) (a' := ?_) #[true, true, true, true, true, true, true, false, false, false] rfl rfl (any_of HT_.out (by kernel_rfl)) (fun _ _ _ h => h) (Or.inl ⟨by rfl, ?_⟩) ?_ ?_
  rotate_left
  · intro w'
    go_simp
    with_reducible rfl
  rotate_left
  · simp only [pS]
    rfl
  refine pure_ (i := 7) (N := some 9) (v := ?_) (a' := ?_) #[true, true, true, true, true, true, true, true, false, false] rfl rfl (any_of HT_.out (by kernel_rfl)) (fun _ _ _ h => h) (Or.inl ⟨by rfl, ?_⟩) ?_ ?_
  rotate_left
  · intro w'
    go_simp
    with_reducible rfl
  rotate_left
  · simp only [pS]
    rfl
  refine take_ (i := 8) (N := some 10) (v := ?_) (a' := ?_) #[true, true, true, true, true, true, true, true, true, false] rfl rfl (take_ofW HT_.out HW_.out (by kernel_rfl)) (fun _ _ _ h => h) (Or.inl ⟨by rfl, ?_⟩) hHeld ?_ ?_
  rotate_left
  · rintro w' ⟨s0, s1⟩
    go_simp
    with_reducible rfl
  rotate_left
  · simp only [pS]
    rfl
  refine one_ (i := 9) (N := some 11) #[true, true, true, true, true, true, true, true, true, true] rfl rfl (one_of HT_.out (by kernel_rfl)) (by decide) (fun K hK => ?_)
  refine goes_ Tryz.func40 (by kernel_rfl) rfl #[.pointer (some ⟨p, 0, none⟩), .int .u64 (d.epoch : Int), .int .i64 8] (by rfl) rfl rfl (by (try simp only [List.map_toArray, List.map_cons, List.map_nil]); first | done | rfl) ?_
  with_reducible refine (number8_calls _ p q base d.epoch r HW.out.drew.wr HD.out HR.out).mono ?_
  rintro e w2 ⟨rfl, hw2, hm2⟩
  refine ⟨_, rfl, ?_⟩
  have G2 := Aside0.mk (HW.out.drew.mvW hw2 hm2)
  have M2 := Aside0.mk (Gm.undrew (Gm.of (W := W) hm2))
  refine hK.out _ _ ⟨G2.out.at_ rfl, G2.out.at_ rfl⟩ (fun hHeld => ?_)
  clear hK K
  refine norm_ (a' := ?_) ?_ ?_
  rotate_left
  · show Act.put _ (some 11) _ = _
    simp only [pS]
    rfl
  refine done_ (done_of HT_.out (by kernel_rfl)) ?_
  clear hHeld
  go_wp2
  go_end0
  exact ⟨rfl, G2.out, M2.out⟩
def T_61_0 : Bool × List (List Nat × List Nat) := (true, [([], []), ([0], [0]), ([1], [1]), ([2], [2]), ([], []), ([4], [4]), ([5], [5]), ([6], [6]), ([7], [7]), ([3, 8], [3, 8])])
def B_61_0 : List Nat := [0, 1, 3, 7, 0, 16, 48, 112, 240, 511]
theorem tab_f61_0 : rtab .any (opsOf Tryz.f61 0) = T_61_0 := by kernel_rfl
theorem bits_f61_0 : waitsOk T_61_0.2 B_61_0 = true := by kernel_rfl
set_option maxHeartbeats 8000000 in
set_option maxRecDepth 100000 in
theorem putSession_calls (w : World) (W p q base : Nat) (d : Dg) (bad : Bool) (r : Option (List UInt8)) (m : Nat) (hm : m ≤ 32) (hd : d.ok) (H : WgAt w W p q base d bad r) (hr : Sz m r) :
    Calls Tryz.prog 61 #[.pointer (some ⟨W, 0, none⟩)] w fun e w' => e = .returned (.tuple #[]) ∧ WgAt w' W p q base d bad (r.map (· ++ len8 d.session)) ∧ Gm w w' W p base := by
  have HW := Aside0.mk H
  have HD := Aside0.mk (show d.session < 18446744073709551616 by have := hd; unfold Dg.ok at this; omega)
  have HR := Aside0.mk (show ∀ l, r = some l → l.length + 8 ≤ 140737488355328 from hr.le hm _ (by have h2 := hd; unfold Dg.ok at h2; omega))
  have c0 : w.cell? ⟨W, 0, none⟩ = some (.pointer (some ⟨p, 0, none⟩)) := H.at_ rfl
  have c1 : w.cell? ⟨W, 6, none⟩ = some (.int .u64 (d.session : Int)) := H.at_ rfl
  clear H hr hd
  go_enter Tryz.func61, Tryz.ntmps61
  go_wp2
  refine start_ (n := 10) (S := fun w' => w'.cell? ⟨W, 0, none⟩ = some (.pointer (some ⟨p, 0, none⟩)) ∧ w'.cell? ⟨W, 6, none⟩ = some (.int .u64 (d.session : Int))) (ds := []) #[false, false, false, false, false, false, false, false, false, false] (by kernel_rfl) rfl rfl ⟨c0, c1⟩ (fun hHeld => ?_)
  refine with_tabW tab_f61_0 bits_f61_0 (fun HT_ HW_ => ?_)
  refine pure_ (i := 0) (N := some 2) (v := ?_) (a' := ?_) #[true, false, false, false, false, false, false, false, false, false] rfl rfl (any_of HT_.out (by kernel_rfl)) (fun _ _ _ h => h) (Or.inl ⟨by rfl, ?_⟩) ?_ ?_
  rotate_left
  · intro w'
    go_simp
    with_reducible rfl
  rotate_left
  · simp only [pS]
    rfl
  refine pure_ (i := 1) (N := some 3) (v := ?_) (a' := ?_) #[true, true, false, false, false, false, false, false, false, false] rfl rfl (any_of HT_.out (by kernel_rfl)) (fun _ _ _ h => h) (Or.inl ⟨by rfl, ?_⟩) ?_ ?_
  rotate_left
  · intro w'
    go_simp
    with_reducible rfl
  rotate_left
  · simp only [pS]
    rfl
  refine pure_ (i := 2) (N := some 4) (v := ?_) (a' := ?_) #[true, true, true, false, false, false, false, false, false, false] rfl rfl (any_of HT_.out (by kernel_rfl)) (fun _ _ _ h => h) (Or.inl ⟨by rfl, ?_⟩) ?_ ?_
  rotate_left
  · intro w'
    go_simp
    with_reducible rfl
  rotate_left
  · simp only [pS]
    rfl
  refine take_ (i := 3) (N := some 5) (v := ?_) (a' := ?_) #[true, true, true, true, false, false, false, false, false, false] rfl rfl (take_ofW HT_.out HW_.out (by kernel_rfl)) (fun _ _ _ h => h) (Or.inl ⟨by rfl, ?_⟩) hHeld ?_ ?_
  rotate_left
  · rintro w' ⟨s0, s1⟩
    go_simp
    with_reducible rfl
  rotate_left
  · simp only [pS]
    rfl
  refine pure_ (i := 4) (N := some 6) (v := ?_) (a' := ?_) #[true, true, true, true, true, false, false, false, false, false] rfl rfl (any_of HT_.out (by kernel_rfl)) (fun _ _ _ h => h) (Or.inl ⟨by rfl, ?_⟩) ?_ ?_
  rotate_left
  · intro w'
    go_simp
    with_reducible rfl
  rotate_left
  · simp only [pS]
    rfl
  refine pure_ (i := 5) (N := some 7) (v := ?_) (a' := ?_) #[true, true, true, true, true, true, false, false, false, false] rfl rfl (any_of HT_.out (by kernel_rfl)) (fun _ _ _ h => h) (Or.inl ⟨by rfl, ?_⟩) ?_ ?_
  rotate_left
  · intro w'
    go_simp
    with_reducible rfl
  rotate_left
  · simp only [pS]
    rfl
  refine pure_ (i := 6) (N := some 8) (v := ?_) (a' := ?_) #[true, true, true, true, true, true, true, false, false, false] rfl rfl (any_of HT_.out (by kernel_rfl)) (fun _ _ _ h => h) (Or.inl ⟨by rfl, ?_⟩) ?_ ?_
  rotate_left
  · intro w'
    go_simp
    with_reducible rfl
  rotate_left
  · simp only [pS]
    rfl
  refine pure_ (i := 7) (N := some 9) (v := ?_) (a' := ?_) #[true, true, true, true, true, true, true, true, false, false] rfl rfl (any_of HT_.out (by kernel_rfl)) (fun _ _ _ h => h) (Or.inl ⟨by rfl, ?_⟩) ?_ ?_
  rotate_left
  · intro w'
    go_simp
    with_reducible rfl
  rotate_left
  · simp only [pS]
    rfl
  refine take_ (i := 8) (N := some 10) (v := ?_) (a' := ?_) #[true, true, true, true, true, true, true, true, true, false] rfl rfl (take_ofW HT_.out HW_.out (by kernel_rfl)) (fun _ _ _ h => h) (Or.inl ⟨by rfl, ?_⟩) hHeld ?_ ?_
  rotate_left
  · rintro w' ⟨s0, s1⟩
    go_simp
    with_reducible rfl
  rotate_left
  · simp only [pS]
    rfl
  refine one_ (i := 9) (N := some 11) #[true, true, true, true, true, true, true, true, true, true] rfl rfl (one_of HT_.out (by kernel_rfl)) (by decide) (fun K hK => ?_)
  refine goes_ Tryz.func40 (by kernel_rfl) rfl #[.pointer (some ⟨p, 0, none⟩), .int .u64 (d.session : Int), .int .i64 8] (by rfl) rfl rfl (by (try simp only [List.map_toArray, List.map_cons, List.map_nil]); first | done | rfl) ?_
  with_reducible refine (number8_calls _ p q base d.session r HW.out.drew.wr HD.out HR.out).mono ?_
  rintro e w2 ⟨rfl, hw2, hm2⟩
  refine ⟨_, rfl, ?_⟩
  have G2 := Aside0.mk (HW.out.drew.mvW hw2 hm2)
  have M2 := Aside0.mk (Gm.undrew (Gm.of (W := W) hm2))
  refine hK.out _ _ ⟨G2.out.at_ rfl, G2.out.at_ rfl⟩ (fun hHeld => ?_)
  clear hK K
  refine norm_ (a' := ?_) ?_ ?_
  rotate_left
  · show Act.put _ (some 11) _ = _
    simp only [pS]
    rfl
  refine done_ (done_of HT_.out (by kernel_rfl)) ?_
  clear hHeld
  go_wp2
  go_end0
  exact ⟨rfl, G2.out, M2.out⟩
def T_67_0 : Bool × List (List Nat × List Nat) := (true, [([], []), ([0], [0]), ([1], [1]), ([2], [2]), ([], []), ([4], [4]), ([5], [5]), ([6], [6]), ([7], [7]), ([3, 8], [3, 8])])
def B_67_0 : List Nat := [0, 1, 3, 7, 0, 16, 48, 112, 240, 511]
theorem tab_f67_0 : rtab .any (opsOf Tryz.f67 0) = T_67_0 := by kernel_rfl
theorem bits_f67_0 : waitsOk T_67_0.2 B_67_0 = true := by kernel_rfl
set_option maxHeartbeats 8000000 in
set_option maxRecDepth 100000 in
theorem putSeq_calls (w : World) (W p q base : Nat) (d : Dg) (bad : Bool) (r : Option (List UInt8)) (m : Nat) (hm : m ≤ 32) (hd : d.ok) (H : WgAt w W p q base d bad r) (hr : Sz m r) :
    Calls Tryz.prog 67 #[.pointer (some ⟨W, 0, none⟩)] w fun e w' => e = .returned (.tuple #[]) ∧ WgAt w' W p q base d bad (r.map (· ++ len8 d.seq)) ∧ Gm w w' W p base := by
  have HW := Aside0.mk H
  have HD := Aside0.mk (show d.seq < 18446744073709551616 by have := hd; unfold Dg.ok at this; omega)
  have HR := Aside0.mk (show ∀ l, r = some l → l.length + 8 ≤ 140737488355328 from hr.le hm _ (by have h2 := hd; unfold Dg.ok at h2; omega))
  have c0 : w.cell? ⟨W, 0, none⟩ = some (.pointer (some ⟨p, 0, none⟩)) := H.at_ rfl
  have c1 : w.cell? ⟨W, 9, none⟩ = some (.int .u64 (d.seq : Int)) := H.at_ rfl
  clear H hr hd
  go_enter Tryz.func67, Tryz.ntmps67
  go_wp2
  refine start_ (n := 10) (S := fun w' => w'.cell? ⟨W, 0, none⟩ = some (.pointer (some ⟨p, 0, none⟩)) ∧ w'.cell? ⟨W, 9, none⟩ = some (.int .u64 (d.seq : Int))) (ds := []) #[false, false, false, false, false, false, false, false, false, false] (by kernel_rfl) rfl rfl ⟨c0, c1⟩ (fun hHeld => ?_)
  refine with_tabW tab_f67_0 bits_f67_0 (fun HT_ HW_ => ?_)
  refine pure_ (i := 0) (N := some 2) (v := ?_) (a' := ?_) #[true, false, false, false, false, false, false, false, false, false] rfl rfl (any_of HT_.out (by kernel_rfl)) (fun _ _ _ h => h) (Or.inl ⟨by rfl, ?_⟩) ?_ ?_
  rotate_left
  · intro w'
    go_simp
    with_reducible rfl
  rotate_left
  · simp only [pS]
    rfl
  refine pure_ (i := 1) (N := some 3) (v := ?_) (a' := ?_) #[true, true, false, false, false, false, false, false, false, false] rfl rfl (any_of HT_.out (by kernel_rfl)) (fun _ _ _ h => h) (Or.inl ⟨by rfl, ?_⟩) ?_ ?_
  rotate_left
  · intro w'
    go_simp
    with_reducible rfl
  rotate_left
  · simp only [pS]
    rfl
  refine pure_ (i := 2) (N := some 4) (v := ?_) (a' := ?_) #[true, true, true, false, false, false, false, false, false, false] rfl rfl (any_of HT_.out (by kernel_rfl)) (fun _ _ _ h => h) (Or.inl ⟨by rfl, ?_⟩) ?_ ?_
  rotate_left
  · intro w'
    go_simp
    with_reducible rfl
  rotate_left
  · simp only [pS]
    rfl
  refine take_ (i := 3) (N := some 5) (v := ?_) (a' := ?_) #[true, true, true, true, false, false, false, false, false, false] rfl rfl (take_ofW HT_.out HW_.out (by kernel_rfl)) (fun _ _ _ h => h) (Or.inl ⟨by rfl, ?_⟩) hHeld ?_ ?_
  rotate_left
  · rintro w' ⟨s0, s1⟩
    go_simp
    with_reducible rfl
  rotate_left
  · simp only [pS]
    rfl
  refine pure_ (i := 4) (N := some 6) (v := ?_) (a' := ?_) #[true, true, true, true, true, false, false, false, false, false] rfl rfl (any_of HT_.out (by kernel_rfl)) (fun _ _ _ h => h) (Or.inl ⟨by rfl, ?_⟩) ?_ ?_
  rotate_left
  · intro w'
    go_simp
    with_reducible rfl
  rotate_left
  · simp only [pS]
    rfl
  refine pure_ (i := 5) (N := some 7) (v := ?_) (a' := ?_) #[true, true, true, true, true, true, false, false, false, false] rfl rfl (any_of HT_.out (by kernel_rfl)) (fun _ _ _ h => h) (Or.inl ⟨by rfl, ?_⟩) ?_ ?_
  rotate_left
  · intro w'
    go_simp
    with_reducible rfl
  rotate_left
  · simp only [pS]
    rfl
  refine pure_ (i := 6) (N := some 8) (v := ?_) (a' := ?_) #[true, true, true, true, true, true, true, false, false, false] rfl rfl (any_of HT_.out (by kernel_rfl)) (fun _ _ _ h => h) (Or.inl ⟨by rfl, ?_⟩) ?_ ?_
  rotate_left
  · intro w'
    go_simp
    with_reducible rfl
  rotate_left
  · simp only [pS]
    rfl
  refine pure_ (i := 7) (N := some 9) (v := ?_) (a' := ?_) #[true, true, true, true, true, true, true, true, false, false] rfl rfl (any_of HT_.out (by kernel_rfl)) (fun _ _ _ h => h) (Or.inl ⟨by rfl, ?_⟩) ?_ ?_
  rotate_left
  · intro w'
    go_simp
    with_reducible rfl
  rotate_left
  · simp only [pS]
    rfl
  refine take_ (i := 8) (N := some 10) (v := ?_) (a' := ?_) #[true, true, true, true, true, true, true, true, true, false] rfl rfl (take_ofW HT_.out HW_.out (by kernel_rfl)) (fun _ _ _ h => h) (Or.inl ⟨by rfl, ?_⟩) hHeld ?_ ?_
  rotate_left
  · rintro w' ⟨s0, s1⟩
    go_simp
    with_reducible rfl
  rotate_left
  · simp only [pS]
    rfl
  refine one_ (i := 9) (N := some 11) #[true, true, true, true, true, true, true, true, true, true] rfl rfl (one_of HT_.out (by kernel_rfl)) (by decide) (fun K hK => ?_)
  refine goes_ Tryz.func40 (by kernel_rfl) rfl #[.pointer (some ⟨p, 0, none⟩), .int .u64 (d.seq : Int), .int .i64 8] (by rfl) rfl rfl (by (try simp only [List.map_toArray, List.map_cons, List.map_nil]); first | done | rfl) ?_
  with_reducible refine (number8_calls _ p q base d.seq r HW.out.drew.wr HD.out HR.out).mono ?_
  rintro e w2 ⟨rfl, hw2, hm2⟩
  refine ⟨_, rfl, ?_⟩
  have G2 := Aside0.mk (HW.out.drew.mvW hw2 hm2)
  have M2 := Aside0.mk (Gm.undrew (Gm.of (W := W) hm2))
  refine hK.out _ _ ⟨G2.out.at_ rfl, G2.out.at_ rfl⟩ (fun hHeld => ?_)
  clear hK K
  refine norm_ (a' := ?_) ?_ ?_
  rotate_left
  · show Act.put _ (some 11) _ = _
    simp only [pS]
    rfl
  refine done_ (done_of HT_.out (by kernel_rfl)) ?_
  clear hHeld
  go_wp2
  go_end0
  exact ⟨rfl, G2.out, M2.out⟩
def T_57_0 : Bool × List (List Nat × List Nat) := (true, [([], []), ([0], [0]), ([1], [1]), ([2], [2]), ([], []), ([4], [4]), ([5], [5]), ([6], [6]), ([7], [7]), ([3, 8], [3, 8])])
def B_57_0 : List Nat := [0, 1, 3, 7, 0, 16, 48, 112, 240, 511]
theorem tab_f57_0 : rtab .any (opsOf Tryz.f57 0) = T_57_0 := by kernel_rfl
theorem bits_f57_0 : waitsOk T_57_0.2 B_57_0 = true := by kernel_rfl
set_option maxHeartbeats 8000000 in
set_option maxRecDepth 100000 in
theorem putName_calls (w : World) (W p q base : Nat) (d : Dg) (bad : Bool) (r : Option (List UInt8)) (m : Nat) (hm : m ≤ 32) (hd : d.ok) (H : WgAt w W p q base d bad r) (hr : Sz m r) :
    Calls Tryz.prog 57 #[.pointer (some ⟨W, 0, none⟩)] w fun e w' => e = .returned (.tuple #[]) ∧ WgAt w' W p q base d bad (txt r (bl d.name)) ∧ Gm w w' W p base := by
  have HW := Aside0.mk H
  have HD := Aside0.mk (show d.name.size < 4611686018427387904 by have := hd; unfold Dg.ok at this; omega)
  have HR := Aside0.mk (show ∀ l, r = some l → l.length + 300 ≤ 140737488355328 from hr.le hm _ (by have h2 := hd; unfold Dg.ok at h2; omega))
  have c0 : w.cell? ⟨W, 0, none⟩ = some (.pointer (some ⟨p, 0, none⟩)) := H.at_ rfl
  have c1 : w.cell? ⟨W, 5, none⟩ = some (.string d.name) := H.at_ rfl
  clear H hr hd
  go_enter Tryz.func57, Tryz.ntmps57
  go_wp2
  refine start_ (n := 10) (S := fun w' => w'.cell? ⟨W, 0, none⟩ = some (.pointer (some ⟨p, 0, none⟩)) ∧ w'.cell? ⟨W, 5, none⟩ = some (.string d.name)) (ds := []) #[false, false, false, false, false, false, false, false, false, false] (by kernel_rfl) rfl rfl ⟨c0, c1⟩ (fun hHeld => ?_)
  refine with_tabW tab_f57_0 bits_f57_0 (fun HT_ HW_ => ?_)
  refine pure_ (i := 0) (N := some 2) (v := ?_) (a' := ?_) #[true, false, false, false, false, false, false, false, false, false] rfl rfl (any_of HT_.out (by kernel_rfl)) (fun _ _ _ h => h) (Or.inl ⟨by rfl, ?_⟩) ?_ ?_
  rotate_left
  · intro w'
    go_simp
    with_reducible rfl
  rotate_left
  · simp only [pS]
    rfl
  refine pure_ (i := 1) (N := some 3) (v := ?_) (a' := ?_) #[true, true, false, false, false, false, false, false, false, false] rfl rfl (any_of HT_.out (by kernel_rfl)) (fun _ _ _ h => h) (Or.inl ⟨by rfl, ?_⟩) ?_ ?_
  rotate_left
  · intro w'
    go_simp
    with_reducible rfl
  rotate_left
  · simp only [pS]
    rfl
  refine pure_ (i := 2) (N := some 4) (v := ?_) (a' := ?_) #[true, true, true, false, false, false, false, false, false, false] rfl rfl (any_of HT_.out (by kernel_rfl)) (fun _ _ _ h => h) (Or.inl ⟨by rfl, ?_⟩) ?_ ?_
  rotate_left
  · intro w'
    go_simp
    with_reducible rfl
  rotate_left
  · simp only [pS]
    rfl
  refine take_ (i := 3) (N := some 5) (v := ?_) (a' := ?_) #[true, true, true, true, false, false, false, false, false, false] rfl rfl (take_ofW HT_.out HW_.out (by kernel_rfl)) (fun _ _ _ h => h) (Or.inl ⟨by rfl, ?_⟩) hHeld ?_ ?_
  rotate_left
  · rintro w' ⟨s0, s1⟩
    go_simp
    with_reducible rfl
  rotate_left
  · simp only [pS]
    rfl
  refine pure_ (i := 4) (N := some 6) (v := ?_) (a' := ?_) #[true, true, true, true, true, false, false, false, false, false] rfl rfl (any_of HT_.out (by kernel_rfl)) (fun _ _ _ h => h) (Or.inl ⟨by rfl, ?_⟩) ?_ ?_
  rotate_left
  · intro w'
    go_simp
    with_reducible rfl
  rotate_left
  · simp only [pS]
    rfl
  refine pure_ (i := 5) (N := some 7) (v := ?_) (a' := ?_) #[true, true, true, true, true, true, false, false, false, false] rfl rfl (any_of HT_.out (by kernel_rfl)) (fun _ _ _ h => h) (Or.inl ⟨by rfl, ?_⟩) ?_ ?_
  rotate_left
  · intro w'
    go_simp
    with_reducible rfl
  rotate_left
  · simp only [pS]
    rfl
  refine pure_ (i := 6) (N := some 8) (v := ?_) (a' := ?_) #[true, true, true, true, true, true, true, false, false, false] rfl rfl (any_of HT_.out (by kernel_rfl)) (fun _ _ _ h => h) (Or.inl ⟨by rfl, ?_⟩) ?_ ?_
  rotate_left
  · intro w'
    go_simp
    with_reducible rfl
  rotate_left
  · simp only [pS]
    rfl
  refine pure_ (i := 7) (N := some 9) (v := ?_) (a' := ?_) #[true, true, true, true, true, true, true, true, false, false] rfl rfl (any_of HT_.out (by kernel_rfl)) (fun _ _ _ h => h) (Or.inl ⟨by rfl, ?_⟩) ?_ ?_
  rotate_left
  · intro w'
    go_simp
    with_reducible rfl
  rotate_left
  · simp only [pS]
    rfl
  refine take_ (i := 8) (N := some 10) (v := ?_) (a' := ?_) #[true, true, true, true, true, true, true, true, true, false] rfl rfl (take_ofW HT_.out HW_.out (by kernel_rfl)) (fun _ _ _ h => h) (Or.inl ⟨by rfl, ?_⟩) hHeld ?_ ?_
  rotate_left
  · rintro w' ⟨s0, s1⟩
    go_simp
    with_reducible rfl
  rotate_left
  · simp only [pS]
    rfl
  refine one_ (i := 9) (N := some 11) #[true, true, true, true, true, true, true, true, true, true] rfl rfl (one_of HT_.out (by kernel_rfl)) (by decide) (fun K hK => ?_)
  refine goes_ Tryz.func92 (by kernel_rfl) rfl #[.pointer (some ⟨p, 0, none⟩), .string d.name] (by rfl) rfl rfl (by (try simp only [List.map_toArray, List.map_cons, List.map_nil]); first | done | rfl) ?_
  with_reducible refine (text_calls _ p q base r d.name HW.out.drew.wr HR.out HD.out).mono ?_
  rintro e w2 ⟨rfl, hw2, hm2⟩
  refine ⟨_, rfl, ?_⟩
  have G2 := Aside0.mk (HW.out.drew.mvW hw2 hm2)
  have M2 := Aside0.mk (Gm.undrew (Gm.of (W := W) hm2))
  refine hK.out _ _ ⟨G2.out.at_ rfl, G2.out.at_ rfl⟩ (fun hHeld => ?_)
  clear hK K
  refine norm_ (a' := ?_) ?_ ?_
  rotate_left
  · show Act.put _ (some 11) _ = _
    simp only [pS]
    rfl
  refine done_ (done_of HT_.out (by kernel_rfl)) ?_
  clear hHeld
  go_wp2
  go_end0
  exact ⟨rfl, G2.out, M2.out⟩
def T_71_0 : Bool × List (List Nat × List Nat) := (true, [([], []), ([0], [0]), ([1], [1]), ([2], [2]), ([], []), ([4], [4]), ([5], [5]), ([6], [6]), ([7], [7]), ([3, 8], [3, 8])])
def B_71_0 : List Nat := [0, 1, 3, 7, 0, 16, 48, 112, 240, 511]
theorem tab_f71_0 : rtab .any (opsOf Tryz.f71 0) = T_71_0 := by kernel_rfl
theorem bits_f71_0 : waitsOk T_71_0.2 B_71_0 = true := by kernel_rfl
set_option maxHeartbeats 8000000 in
set_option maxRecDepth 100000 in
theorem putData_calls (w : World) (W p q base : Nat) (d : Dg) (bad : Bool) (r : Option (List UInt8)) (m : Nat) (hm : m ≤ 32) (hd : d.ok) (H : WgAt w W p q base d bad r) (hr : Sz m r) :
    Calls Tryz.prog 71 #[.pointer (some ⟨W, 0, none⟩)] w fun e w' => e = .returned (.tuple #[]) ∧ WgAt w' W p q base d bad (r.map (· ++ bl d.data)) ∧ Gm w w' W p base := by
  have HW := Aside0.mk H
  have HD := Aside0.mk (show d.data.size < 1099511627776 by have := hd; unfold Dg.ok at this; omega)
  have HR := Aside0.mk (show ∀ l, r = some l → l.length + d.data.size ≤ 140737488355328 from hr.le hm _ (by have h2 := hd; unfold Dg.ok at h2; omega))
  have c0 : w.cell? ⟨W, 0, none⟩ = some (.pointer (some ⟨p, 0, none⟩)) := H.at_ rfl
  have c1 : w.cell? ⟨W, 14, none⟩ = some (.string d.data) := H.at_ rfl
  clear H hr hd
  go_enter Tryz.func71, Tryz.ntmps71
  go_wp2
  refine start_ (n := 10) (S := fun w' => w'.cell? ⟨W, 0, none⟩ = some (.pointer (some ⟨p, 0, none⟩)) ∧ w'.cell? ⟨W, 14, none⟩ = some (.string d.data)) (ds := []) #[false, false, false, false, false, false, false, false, false, false] (by kernel_rfl) rfl rfl ⟨c0, c1⟩ (fun hHeld => ?_)
  refine with_tabW tab_f71_0 bits_f71_0 (fun HT_ HW_ => ?_)
  refine pure_ (i := 0) (N := some 2) (v := ?_) (a' := ?_) #[true, false, false, false, false, false, false, false, false, false] rfl rfl (any_of HT_.out (by kernel_rfl)) (fun _ _ _ h => h) (Or.inl ⟨by rfl, ?_⟩) ?_ ?_
  rotate_left
  · intro w'
    go_simp
    with_reducible rfl
  rotate_left
  · simp only [pS]
    rfl
  refine pure_ (i := 1) (N := some 3) (v := ?_) (a' := ?_) #[true, true, false, false, false, false, false, false, false, false] rfl rfl (any_of HT_.out (by kernel_rfl)) (fun _ _ _ h => h) (Or.inl ⟨by rfl, ?_⟩) ?_ ?_
  rotate_left
  · intro w'
    go_simp
    with_reducible rfl
  rotate_left
  · simp only [pS]
    rfl
  refine pure_ (i := 2) (N := some 4) (v := ?_) (a' := ?_) #[true, true, true, false, false, false, false, false, false, false] rfl rfl (any_of HT_.out (by kernel_rfl)) (fun _ _ _ h => h) (Or.inl ⟨by rfl, ?_⟩) ?_ ?_
  rotate_left
  · intro w'
    go_simp
    with_reducible rfl
  rotate_left
  · simp only [pS]
    rfl
  refine take_ (i := 3) (N := some 5) (v := ?_) (a' := ?_) #[true, true, true, true, false, false, false, false, false, false] rfl rfl (take_ofW HT_.out HW_.out (by kernel_rfl)) (fun _ _ _ h => h) (Or.inl ⟨by rfl, ?_⟩) hHeld ?_ ?_
  rotate_left
  · rintro w' ⟨s0, s1⟩
    go_simp
    with_reducible rfl
  rotate_left
  · simp only [pS]
    rfl
  refine pure_ (i := 4) (N := some 6) (v := ?_) (a' := ?_) #[true, true, true, true, true, false, false, false, false, false] rfl rfl (any_of HT_.out (by kernel_rfl)) (fun _ _ _ h => h) (Or.inl ⟨by rfl, ?_⟩) ?_ ?_
  rotate_left
  · intro w'
    go_simp
    with_reducible rfl
  rotate_left
  · simp only [pS]
    rfl
  refine pure_ (i := 5) (N := some 7) (v := ?_) (a' := ?_) #[true, true, true, true, true, true, false, false, false, false] rfl rfl (any_of HT_.out (by kernel_rfl)) (fun _ _ _ h => h) (Or.inl ⟨by rfl, ?_⟩) ?_ ?_
  rotate_left
  · intro w'
    go_simp
    with_reducible rfl
  rotate_left
  · simp only [pS]
    rfl
  refine pure_ (i := 6) (N := some 8) (v := ?_) (a' := ?_) #[true, true, true, true, true, true, true, false, false, false] rfl rfl (any_of HT_.out (by kernel_rfl)) (fun _ _ _ h => h) (Or.inl ⟨by rfl, ?_⟩) ?_ ?_
  rotate_left
  · intro w'
    go_simp
    with_reducible rfl
  rotate_left
  · simp only [pS]
    rfl
  refine pure_ (i := 7) (N := some 9) (v := ?_) (a' := ?_) #[true, true, true, true, true, true, true, true, false, false] rfl rfl (any_of HT_.out (by kernel_rfl)) (fun _ _ _ h => h) (Or.inl ⟨by rfl, ?_⟩) ?_ ?_
  rotate_left
  · intro w'
    go_simp
    with_reducible rfl
  rotate_left
  · simp only [pS]
    rfl
  refine take_ (i := 8) (N := some 10) (v := ?_) (a' := ?_) #[true, true, true, true, true, true, true, true, true, false] rfl rfl (take_ofW HT_.out HW_.out (by kernel_rfl)) (fun _ _ _ h => h) (Or.inl ⟨by rfl, ?_⟩) hHeld ?_ ?_
  rotate_left
  · rintro w' ⟨s0, s1⟩
    go_simp
    with_reducible rfl
  rotate_left
  · simp only [pS]
    rfl
  refine one_ (i := 9) (N := some 11) #[true, true, true, true, true, true, true, true, true, true] rfl rfl (one_of HT_.out (by kernel_rfl)) (by decide) (fun K hK => ?_)
  refine goes_ Tryz.func39 (by kernel_rfl) rfl #[.pointer (some ⟨p, 0, none⟩), .string d.data] (by rfl) rfl rfl (by (try simp only [List.map_toArray, List.map_cons, List.map_nil]); first | done | rfl) ?_
  with_reducible refine (bytes_calls _ p q base r d.data HW.out.drew.wr HR.out).mono ?_
  rintro e w2 ⟨rfl, hw2, hm2⟩
  refine ⟨_, rfl, ?_⟩
  have G2 := Aside0.mk (HW.out.drew.mvW hw2 hm2)
  have M2 := Aside0.mk (Gm.undrew (Gm.of (W := W) hm2))
  refine hK.out _ _ ⟨G2.out.at_ rfl, G2.out.at_ rfl⟩ (fun hHeld => ?_)
  clear hK K
  refine norm_ (a' := ?_) ?_ ?_
  rotate_left
  · show Act.put _ (some 11) _ = _
    simp only [pS]
    rfl
  refine done_ (done_of HT_.out (by kernel_rfl)) ?_
  clear hHeld
  go_wp2
  go_end0
  exact ⟨rfl, G2.out, M2.out⟩
def T_51_0 : Bool × List (List Nat × List Nat) := (true, [([], []), ([0], [0]), ([1], [1]), ([2], [2]), ([], []), ([3, 4, 4], [3, 4])])
def B_51_0 : List Nat := [0, 1, 3, 7, 0, 31]
theorem tab_f51_0 : rtab .any (opsOf Tryz.f51 0) = T_51_0 := by kernel_rfl
theorem bits_f51_0 : waitsOk T_51_0.2 B_51_0 = true := by kernel_rfl
set_option maxHeartbeats 8000000 in
set_option maxRecDepth 100000 in
theorem putZeros_calls (w : World) (W p q base : Nat) (d : Dg) (bad : Bool) (r : Option (List UInt8)) (m : Nat) (hm : m ≤ 32) (hd : d.ok) (H : WgAt w W p q base d bad r) (hr : Sz m r) :
    Calls Tryz.prog 51 #[.pointer (some ⟨W, 0, none⟩)] w fun e w' => e = .returned (.tuple #[]) ∧ WgAt w' W p q base d bad (r.map (· ++ List.replicate 76 0)) ∧ Gm w w' W p base := by
  have HW := Aside0.mk H
  have HR := Aside0.mk (show ∀ l, r = some l → l.length + (str (List.replicate 76 0)).size ≤ 140737488355328 from hr.le hm 76 (by omega))
  have c0 : w.cell? ⟨W, 0, none⟩ = some (.pointer (some ⟨p, 0, none⟩)) := H.at_ rfl
  clear H hr hd
  go_enter Tryz.func51, Tryz.ntmps51
  go_wp2
  refine start_ (n := 6) (S := fun w' => w'.cell? ⟨W, 0, none⟩ = some (.pointer (some ⟨p, 0, none⟩))) (ds := []) #[false, false, false, false, false, false] (by kernel_rfl) rfl rfl c0 (fun hHeld => ?_)
  refine with_tabW tab_f51_0 bits_f51_0 (fun HT_ HW_ => ?_)
  refine pure_ (i := 0) (N := some 2) (v := ?_) (a' := ?_) #[true, false, false, false, false, false] rfl rfl (any_of HT_.out (by kernel_rfl)) (fun _ _ _ h => h) (Or.inl ⟨by rfl, ?_⟩) ?_ ?_
  rotate_left
  · intro w'
    go_simp
    with_reducible rfl
  rotate_left
  · simp only [pS]
    rfl
  refine pure_ (i := 1) (N := some 3) (v := ?_) (a' := ?_) #[true, true, false, false, false, false] rfl rfl (any_of HT_.out (by kernel_rfl)) (fun _ _ _ h => h) (Or.inl ⟨by rfl, ?_⟩) ?_ ?_
  rotate_left
  · intro w'
    go_simp
    with_reducible rfl
  rotate_left
  · simp only [pS]
    rfl
  refine pure_ (i := 2) (N := some 4) (v := ?_) (a' := ?_) #[true, true, true, false, false, false] rfl rfl (any_of HT_.out (by kernel_rfl)) (fun _ _ _ h => h) (Or.inl ⟨by rfl, ?_⟩) ?_ ?_
  rotate_left
  · intro w'
    go_simp
    with_reducible rfl
  rotate_left
  · simp only [pS]
    rfl
  refine take_ (i := 3) (N := some 5) (v := ?_) (a' := ?_) #[true, true, true, true, false, false] rfl rfl (take_ofW HT_.out HW_.out (by kernel_rfl)) (fun _ _ _ h => h) (Or.inl ⟨by rfl, ?_⟩) hHeld ?_ ?_
  rotate_left
  · rintro w' s0
    go_simp
    with_reducible rfl
  rotate_left
  · simp only [pS]
    rfl
  refine one_ (i := 4) (N := some 6) #[true, true, true, true, true, false] rfl rfl (one_of HT_.out (by kernel_rfl)) (by decide) (fun K hK => ?_)
  refine goes_ Tryz.func44 (by kernel_rfl) rfl #[.string ⟨#[0]⟩, .int .i64 76] (by rfl) rfl rfl (by (try simp only [List.map_toArray, List.map_cons, List.map_nil]); first | done | rfl) ?_
  with_reducible refine (rep_calls 76 76 rfl (by decide) _).mono ?_
  rintro e w2 ⟨rfl, hb2⟩
  refine ⟨_, rfl, ?_⟩
  have G2 := Aside0.mk (HW.out.drew.below hb2)
  have M2 := Aside0.mk (Gm.undrew (Gm.below (W := W) (p := p) (base := base) hb2))
  clear hb2
  refine hK.out _ _ (G2.out.at_ rfl) (fun hHeld => ?_)
  clear hK K
  refine norm_ (a' := ?_) ?_ ?_
  rotate_left
  · show Act.put _ (some 6) _ = _
    simp only [pS]
    rfl
  refine one_ (i := 5) (N := some 7) #[true, true, true, true, true, true] rfl rfl (one_of HT_.out (by kernel_rfl)) (by decide) (fun K hK => ?_)
  refine goes_ Tryz.func39 (by kernel_rfl) rfl #[.pointer (some ⟨p, 0, none⟩), .string (str (List.replicate 76 0))] (by rfl) rfl rfl (by (try simp only [List.map_toArray, List.map_cons, List.map_nil]); first | done | rfl) ?_
  with_reducible refine (bytes_calls _ p q base r (str (List.replicate 76 0)) G2.out.wr HR.out).mono ?_
  rintro e w3 ⟨rfl, hw3, hm3⟩
  refine ⟨_, rfl, ?_⟩
  have G3 := Aside0.mk (G2.out.mvW hw3 hm3)
  have M3 := Aside0.mk (Gm.then M2.out (Gm.of hm3))
  refine hK.out _ _ (G3.out.at_ rfl) (fun hHeld => ?_)
  clear hK K
  refine norm_ (a' := ?_) ?_ ?_
  rotate_left
  · show Act.put _ (some 7) _ = _
    simp only [pS]
    rfl
  refine done_ (done_of HT_.out (by kernel_rfl)) ?_
  clear hHeld
  go_wp2
  go_end0
  exact ⟨rfl, G3.out, M3.out⟩
end Go.Proofs.YtniabkphbnimaaaGreatDoor.Sh
namespace Go.Proofs.YtniabkphbnimaaaGreatDoor.Sh
open Go Go.RowKit Go.Maps Go.Proofs.YtniabkphbnimaaaGreatDoorW.PrintWords Go.Proofs.YtniabkphbnimaaaGreatDoorW.PrintLast Go.Proofs.YtniabkphbnimaaaGreatDoor.Bs
def one (r : Option (List UInt8)) (x : Int) : Option (List UInt8) := if 0 ≤ x ∧ x < 256 then r.map (· ++ [UInt8.ofNat x.toNat]) else none
theorem one_calls (w : World) (p q base : Nat) (r : Option (List UInt8)) (x : Int) (hx : -9223372036854775808 ≤ x ∧ x ≤ 9223372036854775807) (H : WrAt w p q base r) (hn : ∀ l, r = some l → l.length + 8 ≤ 140737488355328) :
    Calls Tryz.prog 40 #[.pointer (some ⟨p, 0, none⟩), .int .u64 (IntKind.u64.wrap x), .int .i64 1] w fun e w' => e = .returned (.tuple #[]) ∧ WrAt w' p q base (one r x) ∧ Pm w w' p base := by
  have e : IntKind.u64.wrap x = ((x % 18446744073709551616).toNat : Int) := by rw [wrap_u64]; omega
  have h := number1_calls w p q base (x % 18446744073709551616).toNat r H (by omega) hn
  rw [← e] at h
  have e2 : one r x = if (x % 18446744073709551616).toNat < 256 then r.map (· ++ [UInt8.ofNat (x % 18446744073709551616).toNat]) else none := by
    unfold one
    by_cases h2 : 0 ≤ x ∧ x < 256
    · rw [if_pos h2, if_pos (by omega), show x % 18446744073709551616 = x by omega]
    · rw [if_neg h2, if_neg (by omega)]
  rw [e2]
  exact h
def T_63_1 : Bool × List (List Nat × List Nat) := (true, [([], []), ([0], [0]), ([1], [1]), ([2], [2]), ([], []), ([4], [4]), ([5], [5]), ([6], [6]), ([7], [7]), ([8], [8]), ([3, 9], [3, 9])])
def B_63_1 : List Nat := [0, 1, 3, 7, 0, 16, 48, 112, 240, 496, 1023]
theorem tab_f63_1 : rtab .any (opsOf Tryz.f63 1) = T_63_1 := by kernel_rfl
theorem bits_f63_1 : waitsOk T_63_1.2 B_63_1 = true := by kernel_rfl
set_option maxHeartbeats 8000000 in
set_option maxRecDepth 100000 in
theorem putPlayer_calls (w : World) (W p q base : Nat) (d : Dg) (bad : Bool) (r : Option (List UInt8)) (m : Nat) (hm : m ≤ 32) (hd : d.ok) (H : WgAt w W p q base d bad r) (hr : Sz m r) :
    Calls Tryz.prog 63 #[.pointer (some ⟨W, 0, none⟩)] w fun e w' => e = .returned (.tuple #[]) ∧ WgAt w' W p q base d (bad || decide (d.player < 0)) (one r d.player) ∧ Gm w w' W p base := by
  have HW := Aside0.mk H
  have HD := Aside0.mk (show -9223372036854775808 ≤ d.player ∧ d.player ≤ 9223372036854775807 by have := hd; unfold Dg.ok at this; omega)
  have HR := Aside0.mk (show ∀ l, r = some l → l.length + 8 ≤ 140737488355328 from hr.le hm 8 (by omega))
  have c16 : w.cell? ⟨W, 16, none⟩ = some (.bool bad) := H.at_ rfl
  have f16 := Wd_thaw H.2.1 16
  have c7 : w.cell? ⟨W, 7, none⟩ = some (.int .i64 d.player) := H.at_ rfl
  obtain ⟨b, eb⟩ : ∃ b, b = (bad || decide (d.player < 0)) := ⟨_, rfl⟩
  rw [← eb]
  have G1 := Aside0.mk (HW.out.setBad b)
  have M1 := Aside0.mk (Gm.set w W 16 (.bool b) p base)
  clear H hr hd
  go_enter Tryz.func63, Tryz.ntmps63
  go_upto_region 0 with fail
  go_cut [] (fun wc => wc = w.setCell ⟨W, 16, none⟩ (.bool b))
  case first =>
    cases bad with
    | true =>
      go_wp2
      go_meet
      rw [eb]
      rfl
    | false =>
      go_wp2
      go_meet
      rw [eb]
      rfl
  case rest =>
    subst hcut
    have c0 : (w.setCell ⟨W, 16, none⟩ (.bool b)).cell? ⟨W, 0, none⟩ = some (.pointer (some ⟨p, 0, none⟩)) := G1.out.at_ rfl
    have c7b : (w.setCell ⟨W, 16, none⟩ (.bool b)).cell? ⟨W, 7, none⟩ = some (.int .i64 d.player) := G1.out.at_ rfl
    clear c16 f16 c7
    go_wp2
    refine start_ (n := 11) (S := fun w' => w'.cell? ⟨W, 0, none⟩ = some (.pointer (some ⟨p, 0, none⟩)) ∧ w'.cell? ⟨W, 7, none⟩ = some (.int .i64 d.player)) (ds := []) #[false, false, false, false, false, false, false, false, false, false, false] (by kernel_rfl) rfl rfl ⟨c0, c7b⟩ (fun hHeld => ?_)
    refine with_tabW tab_f63_1 bits_f63_1 (fun HT_ HW_ => ?_)
    refine pure_ (i := 0) (N := some 17) (v := ?_) (a' := ?_) #[true, false, false, false, false, false, false, false, false, false, false] rfl rfl (any_of HT_.out (by kernel_rfl)) (fun _ _ _ h => h) (Or.inl ⟨by rfl, ?_⟩) ?_ ?_
    rotate_left
    · intro w'
      go_simp
      with_reducible rfl
    rotate_left
    · simp only [pS]
      rfl
    refine pure_ (i := 1) (N := some 18) (v := ?_) (a' := ?_) #[true, true, false, false, false, false, false, false, false, false, false] rfl rfl (any_of HT_.out (by kernel_rfl)) (fun _ _ _ h => h) (Or.inl ⟨by rfl, ?_⟩) ?_ ?_
    rotate_left
    · intro w'
      go_simp
      with_reducible rfl
    rotate_left
    · simp only [pS]
      rfl
    refine pure_ (i := 2) (N := some 19) (v := ?_) (a' := ?_) #[true, true, true, false, false, false, false, false, false, false, false] rfl rfl (any_of HT_.out (by kernel_rfl)) (fun _ _ _ h => h) (Or.inl ⟨by rfl, ?_⟩) ?_ ?_
    rotate_left
    · intro w'
      go_simp
      with_reducible rfl
    rotate_left
    · simp only [pS]
      rfl
    refine take_ (i := 3) (N := some 20) (v := ?_) (a' := ?_) #[true, true, true, true, false, false, false, false, false, false, false] rfl rfl (take_ofW HT_.out HW_.out (by kernel_rfl)) (fun _ _ _ h => h) (Or.inl ⟨by rfl, ?_⟩) hHeld ?_ ?_
    rotate_left
    · rintro w' ⟨s0, s1⟩
      go_simp
      with_reducible rfl
    rotate_left
    · simp only [pS]
      rfl
    refine pure_ (i := 4) (N := some 21) (v := ?_) (a' := ?_) #[true, true, true, true, true, false, false, false, false, false, false] rfl rfl (any_of HT_.out (by kernel_rfl)) (fun _ _ _ h => h) (Or.inl ⟨by rfl, ?_⟩) ?_ ?_
    rotate_left
    · intro w'
      go_simp
      with_reducible rfl
    rotate_left
    · simp only [pS]
      rfl
    refine pure_ (i := 5) (N := some 22) (v := ?_) (a' := ?_) #[true, true, true, true, true, true, false, false, false, false, false] rfl rfl (any_of HT_.out (by kernel_rfl)) (fun _ _ _ h => h) (Or.inl ⟨by rfl, ?_⟩) ?_ ?_
    rotate_left
    · intro w'
      go_simp
      with_reducible rfl
    rotate_left
    · simp only [pS]
      rfl
    refine pure_ (i := 6) (N := some 23) (v := ?_) (a' := ?_) #[true, true, true, true, true, true, true, false, false, false, false] rfl rfl (any_of HT_.out (by kernel_rfl)) (fun _ _ _ h => h) (Or.inl ⟨by rfl, ?_⟩) ?_ ?_
    rotate_left
    · intro w'
      go_simp
      with_reducible rfl
    rotate_left
    · simp only [pS]
      rfl
    refine pure_ (i := 7) (N := some 24) (v := ?_) (a' := ?_) #[true, true, true, true, true, true, true, true, false, false, false] rfl rfl (any_of HT_.out (by kernel_rfl)) (fun _ _ _ h => h) (Or.inl ⟨by rfl, ?_⟩) ?_ ?_
    rotate_left
    · intro w'
      go_simp
      with_reducible rfl
    rotate_left
    · simp only [pS]
      rfl
    refine take_ (i := 8) (N := some 25) (v := ?_) (a' := ?_) #[true, true, true, true, true, true, true, true, true, false, false] rfl rfl (take_ofW HT_.out HW_.out (by kernel_rfl)) (fun _ _ _ h => h) (Or.inl ⟨by rfl, ?_⟩) hHeld ?_ ?_
    rotate_left
    · rintro w' ⟨s0, s1⟩
      go_simp
      with_reducible rfl
    rotate_left
    · simp only [pS]
      rfl
    refine pure_ (i := 9) (N := some 26) (v := ?_) (a' := ?_) #[true, true, true, true, true, true, true, true, true, true, false] rfl rfl (any_of HT_.out (by kernel_rfl)) (fun _ _ _ h => h) (Or.inl ⟨by rfl, ?_⟩) ?_ ?_
    rotate_left
    · intro w'
      go_simp
      with_reducible rfl
    rotate_left
    · simp only [pS]
      rfl
    refine one_ (i := 10) (N := some 27) #[true, true, true, true, true, true, true, true, true, true, true] rfl rfl (one_of HT_.out (by kernel_rfl)) (by decide) (fun K hK => ?_)
    refine goes_ Tryz.func40 (by kernel_rfl) rfl #[.pointer (some ⟨p, 0, none⟩), .int .u64 (IntKind.u64.wrap d.player), .int .i64 1] (by rfl) rfl rfl (by (try simp only [List.map_toArray, List.map_cons, List.map_nil]); first | done | rfl) ?_
    with_reducible refine (one_calls _ p q base r d.player HD.out G1.out.drew.wr HR.out).mono ?_
    rintro e w2 ⟨rfl, hw2, hm2⟩
    refine ⟨_, rfl, ?_⟩
    have G2 := Aside0.mk (G1.out.drew.mvW hw2 hm2)
    have M2 := Aside0.mk (Gm.then M1.out.drew (Gm.of hm2))
    refine hK.out _ _ ⟨G2.out.at_ rfl, G2.out.at_ rfl⟩ (fun hHeld => ?_)
    clear hK K
    refine norm_ (a' := ?_) ?_ ?_
    rotate_left
    · show Act.put _ (some 27) _ = _
      simp only [pS]
      rfl
    refine done_ (done_of HT_.out (by kernel_rfl)) ?_
    clear hHeld
    go_wp2
    go_end0
    exact ⟨rfl, G2.out, M2.out⟩
end Go.Proofs.YtniabkphbnimaaaGreatDoor.Sh
namespace Go.Proofs.YtniabkphbnimaaaGreatDoor.Sh
open Go Go.RowKit Go.Maps Go.Proofs.YtniabkphbnimaaaGreatDoorW.PrintWords Go.Proofs.YtniabkphbnimaaaGreatDoorW.PrintLast Go.Proofs.YtniabkphbnimaaaGreatDoor.Bs
def flags (f b : Bool) : Nat := (if f = true then 1 else 0) + (if b = true then 2 else 0)
theorem number1b_calls (w : World) (p q base x : Nat) (xi : Int) (hxi : xi = (x : Int)) (r : Option (List UInt8)) (H : WrAt w p q base r) (hx : x < 256) (hn : ∀ l, r = some l → l.length + 8 ≤ 140737488355328) :
    Calls Tryz.prog 40 #[.pointer (some ⟨p, 0, none⟩), .int .u64 xi, .int .i64 1] w fun e w' => e = .returned (.tuple #[]) ∧ WrAt w' p q base (r.map (· ++ [UInt8.ofNat x])) ∧ Pm w w' p base := by
  subst hxi
  have h := number1_calls w p q base x r H (by omega) hn
  rw [if_pos hx] at h
  exact h
theorem sgn_le {m : Nat} {r : Option (List UInt8)} {x : Int} (h : Sz m r) : Sz (m + 1) (sgn r x) := by
  intro l e
  unfold sgn at e
  split at e
  · cases r with
    | none => cases e
    | some l0 =>
      cases e
      have := h l0 rfl
      simp
      omega
  · cases e
def T_69_1 : Bool × List (List Nat × List Nat) := (true, [([], []), ([0], [0]), ([1], [1]), ([2], [2]), ([], []), ([4], [4]), ([3, 5], [3, 5])])
def B_69_1 : List Nat := [0, 1, 3, 7, 0, 16, 63]
theorem tab_f69_1 : rtab .any (opsOf Tryz.f69 1) = T_69_1 := by kernel_rfl
theorem bits_f69_1 : waitsOk T_69_1.2 B_69_1 = true := by kernel_rfl
def T_69_2 : Bool × List (List Nat × List Nat) := (true, [([], []), ([0], [0]), ([1], [1]), ([2], [2]), ([], []), ([4], [4]), ([3, 5], [3, 5])])
def B_69_2 : List Nat := [0, 1, 3, 7, 0, 16, 63]
theorem tab_f69_2 : rtab .any (opsOf Tryz.f69 2) = T_69_2 := by kernel_rfl
theorem bits_f69_2 : waitsOk T_69_2.2 B_69_2 = true := by kernel_rfl
theorem one_C {thr trn : Int} {f b : Bool} {v : Value} (hv : v ∈ [Value.int .i64 thr, .int .i64 trn, .bool f, .bool b]) : v.oneCell' = true := by
  simp at hv
  rcases hv with rfl | rfl | rfl | rfl <;> rfl
set_option maxHeartbeats 8000000 in
set_option maxRecDepth 100000 in
theorem putCommand_calls (w : World) (W p q base : Nat) (d : Dg) (bad : Bool) (r : Option (List UInt8)) (m : Nat) (hm : m ≤ 29) (hd : d.ok) (H : WgAt w W p q base d bad r) (hr : Sz m r) :
    Calls Tryz.prog 69 #[.pointer (some ⟨W, 0, none⟩)] w fun e w' => e = .returned (.tuple #[]) ∧ WgAt w' W p q base d bad ((sgn (sgn r d.thr) d.trn).map (· ++ [UInt8.ofNat (flags d.fire d.boost)])) ∧ Gm w w' W p base := by
  have HW := Aside0.mk H
  have HR0 := Aside0.mk (show ∀ l, r = some l → l.length + 300 ≤ 140737488355328 from hr.le (by omega) 300 (by omega))
  have HR1 := Aside0.mk (show ∀ l, sgn r d.thr = some l → l.length + 300 ≤ 140737488355328 from (sgn_le hr).le (by omega) 300 (by omega))
  have HR2 := Aside0.mk (show ∀ l, sgn (sgn r d.thr) d.trn = some l → l.length + 8 ≤ 140737488355328 from (sgn_le (sgn_le hr)).le (by omega) 8 (by omega))
  clear H hr hd
  go_enter Tryz.func69, Tryz.ntmps69
  go_upto_region 1 with (first
    | (refine wpList_load_agg rfl 25 _ rfl W 10 rfl [.int .i64 d.thr, .int .i64 d.trn, .bool d.fire, .bool d.boost] (fun j v hj => HW.out.at_ (by match j, hj with | 0, hj => exact hj | 1, hj => exact hj | 2, hj => exact hj | 3, hj => exact hj)) _ Tryz.underlying25 rfl (by kernel_rfl) ?_)
    | (refine wpList_alloc_v rfl 25 rfl [.int .i64 0, .int .i64 0, .bool false, .bool false] (by kernel_rfl) ?_; intro C w1 eC hC1 hb1 hz1)
    | (refine wpList_store_agg rfl 25 _ _ rfl C 0 rfl [.int .i64 d.thr, .int .i64 d.trn, .bool d.fire, .bool d.boost] _ rfl _ hC1.out (by exact Nat.le_refl 4) (fun v hv => one_C hv) (by kernel_rfl) ?_; intro w2 hC2 hm2 hz2; rw [splice_all [.int .i64 0, .int .i64 0, .bool false, .bool false] [.int .i64 d.thr, .int .i64 d.trn, .bool d.fire, .bool d.boost] rfl] at hC2))
  have hC := Aside0.mk (show C = w.heap.size ∧ C ≠ p ∧ C ≠ W by have h1 := eC.out; have h2 := HW.out.1; have h3 := HW.out.wr.1; have h4 := HW.out.wr.2.2.2.1; omega)
  have HC2 := Aside0.mk hC2.out
  have MW := Aside0.mk (show Mv w w2 (fun k => w.heap.size ≤ k) from (Mv.of_below hb1.out (fun k => w.heap.size ≤ k)).then hm2.out (fun k hk => Or.inl (by have := hC.out; omega)))
  have G2 := Aside0.mk (show WgAt w2 W p q base d bad r from ⟨HW.out.1, MW.out.blk HW.out.2.1 (by have := blk_lt HW.out.2.1; omega), HW.out.2.2.mv MW.out (fun k hk => Or.inl hk)⟩)
  have M2 := Aside0.mk (show Gm w w2 W p base from Gm.below ⟨MW.out.os, MW.out.tape, MW.out.output, MW.out.size, fun k hk => MW.out.block k hk (by omega)⟩)
  have c0 : w2.cell? ⟨W, 0, none⟩ = some (.pointer (some ⟨p, 0, none⟩)) := G2.out.at_ rfl
  have k0 : w2.cell? ⟨C, 0, none⟩ = some (.int .i64 d.thr) := cell_of HC2.out rfl
  simp only [Act.put, List.setIfInBounds_toArray, List.set_cons_zero, List.set_cons_succ]
  go_wp2
  refine start_ (n := 7) (S := fun w' => w'.cell? ⟨W, 0, none⟩ = some (.pointer (some ⟨p, 0, none⟩)) ∧ w'.cell? ⟨C, 0, none⟩ = some (.int .i64 d.thr)) (ds := []) #[false, false, false, false, false, false, false] (by kernel_rfl) rfl rfl ⟨c0, k0⟩ (fun hHeld => ?_)
  refine with_tabW tab_f69_1 bits_f69_1 (fun HT_ HW_ => ?_)
  refine pure_ (i := 0) (N := some 9) (v := ?_) (a' := ?_) #[true, false, false, false, false, false, false] rfl rfl (any_of HT_.out (by kernel_rfl)) (fun _ _ _ h => h) (Or.inl ⟨by rfl, ?_⟩) ?_ ?_
  rotate_left
  · intro w'
    go_simp
    with_reducible rfl
  rotate_left
  · simp only [pS]
    rfl
  refine pure_ (i := 1) (N := some 10) (v := ?_) (a' := ?_) #[true, true, false, false, false, false, false] rfl rfl (any_of HT_.out (by kernel_rfl)) (fun _ _ _ h => h) (Or.inl ⟨by rfl, ?_⟩) ?_ ?_
  rotate_left
  · intro w'
    go_simp
    with_reducible rfl
  rotate_left
  · simp only [pS]
    rfl
  refine pure_ (i := 2) (N := some 11) (v := ?_) (a' := ?_) #[true, true, true, false, false, false, false] rfl rfl (any_of HT_.out (by kernel_rfl)) (fun _ _ _ h => h) (Or.inl ⟨by rfl, ?_⟩) ?_ ?_
  rotate_left
  · intro w'
    go_simp
    with_reducible rfl
  rotate_left
  · simp only [pS]
    rfl
  refine take_ (i := 3) (N := some 12) (v := ?_) (a' := ?_) #[true, true, true, true, false, false, false] rfl rfl (take_ofW HT_.out HW_.out (by kernel_rfl)) (fun _ _ _ h => h) (Or.inl ⟨by rfl, ?_⟩) hHeld ?_ ?_
  rotate_left
  · rintro w' ⟨s0, s1⟩
    go_simp
    with_reducible rfl
  rotate_left
  · simp only [pS]
    rfl
  refine pure_ (i := 4) (N := some 13) (v := ?_) (a' := ?_) #[true, true, true, true, true, false, false] rfl rfl (any_of HT_.out (by kernel_rfl)) (fun _ _ _ h => h) (Or.inl ⟨by rfl, ?_⟩) ?_ ?_
  rotate_left
  · intro w'
    go_simp
    with_reducible rfl
  rotate_left
  · simp only [pS]
    rfl
  refine take_ (i := 5) (N := some 14) (v := ?_) (a' := ?_) #[true, true, true, true, true, true, false] rfl rfl (take_ofW HT_.out HW_.out (by kernel_rfl)) (fun _ _ _ h => h) (Or.inl ⟨by rfl, ?_⟩) hHeld ?_ ?_
  rotate_left
  · rintro w' ⟨s0, s1⟩
    go_simp
    with_reducible rfl
  rotate_left
  · simp only [pS]
    rfl
  refine one_ (i := 6) (N := some 15) #[true, true, true, true, true, true, true] rfl rfl (one_of HT_.out (by kernel_rfl)) (by decide) (fun K hK => ?_)
  refine goes_ Tryz.func94 (by kernel_rfl) rfl #[.pointer (some ⟨p, 0, none⟩), .int .i64 d.thr, .int .i64 1] (by rfl) rfl rfl (by (try simp only [List.map_toArray, List.map_cons, List.map_nil]); first | done | rfl) ?_
  with_reducible refine (signed_calls _ p q base r d.thr G2.out.drew.wr HR0.out).mono ?_
  rintro e w3 ⟨rfl, hwA, hmA⟩
  refine ⟨_, rfl, ?_⟩
  have G3 := Aside0.mk (G2.out.drew.mvW hwA hmA)
  have M3 := Aside0.mk (Gm.then M2.out.drew (Gm.of hmA))
  have C3 := Aside0.mk (show w3.heap[C]? = _ from Pm.blk hmA (show w2.drew.heap[C]? = _ from HC2.out) hC.out.2.1 (by decide))
  refine hK.out _ _ ⟨G3.out.at_ rfl, cell_of C3.out rfl⟩ (fun hHeld => ?_)
  clear hK K
  refine norm_ (a' := ?_) ?_ ?_
  rotate_left
  · show Act.put _ (some 15) _ = _
    simp only [pS]
    rfl
  refine done_ (done_of HT_.out (by kernel_rfl)) ?_
  have c0b : w3.cell? ⟨W, 0, none⟩ = some (.pointer (some ⟨p, 0, none⟩)) := G3.out.at_ rfl
  have k1 : w3.cell? ⟨C, 1, none⟩ = some (.int .i64 d.trn) := cell_of C3.out rfl
  clear hHeld
  go_wp2
  refine start_ (n := 7) (S := fun w' => w'.cell? ⟨W, 0, none⟩ = some (.pointer (some ⟨p, 0, none⟩)) ∧ w'.cell? ⟨C, 1, none⟩ = some (.int .i64 d.trn)) (ds := []) #[false, false, false, false, false, false, false] (by kernel_rfl) rfl rfl ⟨c0b, k1⟩ (fun hHeld => ?_)
  refine with_tabW tab_f69_2 bits_f69_2 (fun HT_ HW_ => ?_)
  refine pure_ (i := 0) (N := some 16) (v := ?_) (a' := ?_) #[true, false, false, false, false, false, false] rfl rfl (any_of HT_.out (by kernel_rfl)) (fun _ _ _ h => h) (Or.inl ⟨by rfl, ?_⟩) ?_ ?_
  rotate_left
  · intro w'
    go_simp
    with_reducible rfl
  rotate_left
  · simp only [pS]
    rfl
  refine pure_ (i := 1) (N := some 17) (v := ?_) (a' := ?_) #[true, true, false, false, false, false, false] rfl rfl (any_of HT_.out (by kernel_rfl)) (fun _ _ _ h => h) (Or.inl ⟨by rfl, ?_⟩) ?_ ?_
  rotate_left
  · intro w'
    go_simp
    with_reducible rfl
  rotate_left
  · simp only [pS]
    rfl
  refine pure_ (i := 2) (N := some 18) (v := ?_) (a' := ?_) #[true, true, true, false, false, false, false] rfl rfl (any_of HT_.out (by kernel_rfl)) (fun _ _ _ h => h) (Or.inl ⟨by rfl, ?_⟩) ?_ ?_
  rotate_left
  · intro w'
    go_simp
    with_reducible rfl
  rotate_left
  · simp only [pS]
    rfl
  refine take_ (i := 3) (N := some 19) (v := ?_) (a' := ?_) #[true, true, true, true, false, false, false] rfl rfl (take_ofW HT_.out HW_.out (by kernel_rfl)) (fun _ _ _ h => h) (Or.inl ⟨by rfl, ?_⟩) hHeld ?_ ?_
  rotate_left
  · rintro w' ⟨s0, s1⟩
    go_simp
    with_reducible rfl
  rotate_left
  · simp only [pS]
    rfl
  refine pure_ (i := 4) (N := some 20) (v := ?_) (a' := ?_) #[true, true, true, true, true, false, false] rfl rfl (any_of HT_.out (by kernel_rfl)) (fun _ _ _ h => h) (Or.inl ⟨by rfl, ?_⟩) ?_ ?_
  rotate_left
  · intro w'
    go_simp
    with_reducible rfl
  rotate_left
  · simp only [pS]
    rfl
  refine take_ (i := 5) (N := some 21) (v := ?_) (a' := ?_) #[true, true, true, true, true, true, false] rfl rfl (take_ofW HT_.out HW_.out (by kernel_rfl)) (fun _ _ _ h => h) (Or.inl ⟨by rfl, ?_⟩) hHeld ?_ ?_
  rotate_left
  · rintro w' ⟨s0, s1⟩
    go_simp
    with_reducible rfl
  rotate_left
  · simp only [pS]
    rfl
  refine one_ (i := 6) (N := some 22) #[true, true, true, true, true, true, true] rfl rfl (one_of HT_.out (by kernel_rfl)) (by decide) (fun K hK => ?_)
  refine goes_ Tryz.func94 (by kernel_rfl) rfl #[.pointer (some ⟨p, 0, none⟩), .int .i64 d.trn, .int .i64 1] (by rfl) rfl rfl (by (try simp only [List.map_toArray, List.map_cons, List.map_nil]); first | done | rfl) ?_
  with_reducible refine (signed_calls _ p q base (sgn r d.thr) d.trn G3.out.drew.wr HR1.out).mono ?_
  rintro e w4 ⟨rfl, hwA, hmA⟩
  refine ⟨_, rfl, ?_⟩
  have G4 := Aside0.mk (G3.out.drew.mvW hwA hmA)
  have M4 := Aside0.mk (Gm.then M3.out.drew (Gm.of hmA))
  have C4 := Aside0.mk (show w4.heap[C]? = _ from Pm.blk hmA (show w3.drew.heap[C]? = _ from C3.out) hC.out.2.1 (by decide))
  refine hK.out _ _ ⟨G4.out.at_ rfl, cell_of C4.out rfl⟩ (fun hHeld => ?_)
  clear hK K
  refine norm_ (a' := ?_) ?_ ?_
  rotate_left
  · show Act.put _ (some 22) _ = _
    simp only [pS]
    rfl
  refine done_ (done_of HT_.out (by kernel_rfl)) ?_
  have c0c : w4.cell? ⟨W, 0, none⟩ = some (.pointer (some ⟨p, 0, none⟩)) := G4.out.at_ rfl
  have k2 : w4.cell? ⟨C, 2, none⟩ = some (.bool d.fire) := cell_of C4.out rfl
  have k3 : w4.cell? ⟨C, 3, none⟩ = some (.bool d.boost) := cell_of C4.out rfl
  clear hHeld c0 k0 c0b k1
  obtain ⟨f, ef⟩ : ∃ f, f = d.fire := ⟨_, rfl⟩
  obtain ⟨b, eb⟩ : ∃ b, b = d.boost := ⟨_, rfl⟩
  rw [← ef] at k2
  rw [← eb] at k3
  have EF := Aside0.mk ef
  have EB := Aside0.mk eb
  clear ef eb
  have z1 : Go.bits .or .u64 0 1 = 1 := by decide
  have z2 : Go.bits .or .u64 0 2 = 2 := by decide
  have z3 : Go.bits .or .u64 1 2 = 3 := by decide
  have HF := Aside0.mk (show (flags false false = 0 ∧ flags true false = 1) ∧ flags false true = 2 ∧ flags true true = 3 by decide)
  cases f <;> cases b <;> go_wp2_with (first
    | (go_at_call 40; (with_reducible refine (number1b_calls _ p q base 0 0 rfl _ G4.out.wr (by decide) HR2.out).mono ?_); rintro e w5 ⟨rfl, hw5, hm5⟩)
    | (go_at_call 40; (with_reducible refine (number1b_calls _ p q base 1 1 rfl _ G4.out.wr (by decide) HR2.out).mono ?_); rintro e w5 ⟨rfl, hw5, hm5⟩)
    | (go_at_call 40; (with_reducible refine (number1b_calls _ p q base 2 2 rfl _ G4.out.wr (by decide) HR2.out).mono ?_); rintro e w5 ⟨rfl, hw5, hm5⟩)
    | (go_at_call 40; (with_reducible refine (number1b_calls _ p q base 3 3 rfl _ G4.out.wr (by decide) HR2.out).mono ?_); rintro e w5 ⟨rfl, hw5, hm5⟩))
  all_goals go_end0
  all_goals rw [← EF.out, ← EB.out]
  all_goals exact ⟨rfl, G4.out.mvW hw5 hm5, Gm.then M4.out (Gm.of hm5)⟩
end Go.Proofs.YtniabkphbnimaaaGreatDoor.Sh
namespace Go.Proofs.YtniabkphbnimaaaGreatDoor.Sh
open Go Go.RowKit Go.Maps Go.Proofs.YtniabkphbnimaaaGreatDoorW.PrintWords Go.Proofs.YtniabkphbnimaaaGreatDoorW.PrintLast Go.Proofs.YtniabkphbnimaaaGreatDoor.Bs
inductive Fld
  | nonce
  | zeros
  | epoch
  | cookie
  | name
  | tag
  | session
  | player
  | salt
  | seq
  | command
  | data
def Fld.get : Fld → Nat
  | .nonce => 48
  | .zeros => 50
  | .epoch => 52
  | .cookie => 54
  | .name => 56
  | .tag => 58
  | .session => 60
  | .player => 62
  | .salt => 64
  | .seq => 66
  | .command => 68
  | .data => 70
def Fld.put : Fld → Nat
  | .nonce => 49
  | .zeros => 51
  | .epoch => 53
  | .cookie => 55
  | .name => 57
  | .tag => 59
  | .session => 61
  | .player => 63
  | .salt => 65
  | .seq => 67
  | .command => 69
  | .data => 71
def fieldsOf (k : Int) : List Fld :=
  if k = 1 then [.nonce, .zeros] else if k = 2 then [.nonce, .epoch, .cookie] else if k = 3 then [.nonce, .epoch, .cookie, .name, .tag] else if k = 4 then [.nonce, .session, .player, .salt, .tag] else if k = 5 then [.session, .seq, .command, .tag] else if k = 6 then [.session, .seq, .data, .tag] else [.session, .seq, .tag]
def Fld.vals (f : Fld) : List Value := [.func (.func f.get) #[] #[], .func (.func f.put) #[] #[]]
set_option maxHeartbeats 8000000 in
set_option maxRecDepth 100000 in
theorem fields_calls (k : Int) (w : World) : Calls Tryz.prog 29 #[.int .i64 k] w fun e w' => ∃ b, e = .returned (.slice (some ⟨b, 0, none⟩) (fieldsOf k).length (fieldsOf k).length) ∧ w.heap.size ≤ b ∧ w'.heap[b]? = some (.cells ((fieldsOf k).flatMap Fld.vals).toArray 60 (0, 0)) ∧ Below w.heap.size w w' := by
  by_cases h1 : k = 1
  · subst h1
    go_enter Tryz.func29, Tryz.ntmps29
    go_wp2_with (refine wpList_buildSlice_v rfl 55 60 2 _ rfl Tryz.underlying55 ((fieldsOf 1).flatMap Fld.vals) (by kernel_rfl) ?_; intro b w1 eb hb1 hbw hz1)
    go_ret
    exact ⟨b, rfl, Nat.le_of_eq eb.out.symm, hb1.out, hbw.out⟩
  by_cases h2 : k = 2
  · subst h2
    go_enter Tryz.func29, Tryz.ntmps29
    go_wp2_with (refine wpList_buildSlice_v rfl 55 60 3 _ rfl Tryz.underlying55 ((fieldsOf 2).flatMap Fld.vals) (by kernel_rfl) ?_; intro b w1 eb hb1 hbw hz1)
    go_ret
    exact ⟨b, rfl, Nat.le_of_eq eb.out.symm, hb1.out, hbw.out⟩
  by_cases h3 : k = 3
  · subst h3
    go_enter Tryz.func29, Tryz.ntmps29
    go_wp2_with (refine wpList_buildSlice_v rfl 55 60 5 _ rfl Tryz.underlying55 ((fieldsOf 3).flatMap Fld.vals) (by kernel_rfl) ?_; intro b w1 eb hb1 hbw hz1)
    go_ret
    exact ⟨b, rfl, Nat.le_of_eq eb.out.symm, hb1.out, hbw.out⟩
  by_cases h4 : k = 4
  · subst h4
    go_enter Tryz.func29, Tryz.ntmps29
    go_wp2_with (refine wpList_buildSlice_v rfl 55 60 5 _ rfl Tryz.underlying55 ((fieldsOf 4).flatMap Fld.vals) (by kernel_rfl) ?_; intro b w1 eb hb1 hbw hz1)
    go_ret
    exact ⟨b, rfl, Nat.le_of_eq eb.out.symm, hb1.out, hbw.out⟩
  by_cases h5 : k = 5
  · subst h5
    go_enter Tryz.func29, Tryz.ntmps29
    go_wp2_with (refine wpList_buildSlice_v rfl 55 60 4 _ rfl Tryz.underlying55 ((fieldsOf 5).flatMap Fld.vals) (by kernel_rfl) ?_; intro b w1 eb hb1 hbw hz1)
    go_ret
    exact ⟨b, rfl, Nat.le_of_eq eb.out.symm, hb1.out, hbw.out⟩
  by_cases h6 : k = 6
  · subst h6
    go_enter Tryz.func29, Tryz.ntmps29
    go_wp2_with (refine wpList_buildSlice_v rfl 55 60 4 _ rfl Tryz.underlying55 ((fieldsOf 6).flatMap Fld.vals) (by kernel_rfl) ?_; intro b w1 eb hb1 hbw hz1)
    go_ret
    exact ⟨b, rfl, Nat.le_of_eq eb.out.symm, hb1.out, hbw.out⟩
  have o1 : decide (k = 1) = false := decide_eq_false h1
  have o2 : decide (k = 2) = false := decide_eq_false h2
  have o3 : decide (k = 3) = false := decide_eq_false h3
  have o4 : decide (k = 4) = false := decide_eq_false h4
  have o5 : decide (k = 5) = false := decide_eq_false h5
  have o6 : decide (k = 6) = false := decide_eq_false h6
  have e : fieldsOf k = [.session, .seq, .tag] := by
    unfold fieldsOf
    rw [if_neg h1, if_neg h2, if_neg h3, if_neg h4, if_neg h5, if_neg h6]
  rw [e]
  clear e h1 h2 h3 h4 h5 h6
  have p1 : (k == 1) = false := by simpa using o1
  have p2 : (k == 2) = false := by simpa using o2
  have p3 : (k == 3) = false := by simpa using o3
  have p4 : (k == 4) = false := by simpa using o4
  have p5 : (k == 5) = false := by simpa using o5
  have p6 : (k == 6) = false := by simpa using o6
  go_enter Tryz.func29, Tryz.ntmps29
  go_wp2_with (refine wpList_buildSlice_v rfl 55 60 3 _ rfl Tryz.underlying55 ([Fld.session, .seq, .tag].flatMap Fld.vals) (by kernel_rfl) ?_; intro b w1 eb hb1 hbw hz1)
  go_ret
  exact ⟨b, rfl, Nat.le_of_eq eb.out.symm, hb1.out, hbw.out⟩
end Go.Proofs.YtniabkphbnimaaaGreatDoor.Sh
namespace Go.Proofs.YtniabkphbnimaaaGreatDoor.Sh
open Go Go.RowKit Go.Maps Go.Proofs.YtniabkphbnimaaaGreatDoorW.PrintWords Go.Proofs.YtniabkphbnimaaaGreatDoorW.PrintLast Go.Proofs.YtniabkphbnimaaaGreatDoor.Bs
theorem str_list (t : List UInt8) : (str t).toList = t := Go.ByteArray.toList_mk t
theorem str_empty (t : List UInt8) : (!(str t).toList.isEmpty) = decide (t ≠ []) := by
  rw [str_list]
  cases t <;> simp
theorem RgAt.setX {w : World} {R p : Nat} {d d' : Dg} {bad bad' : Bool} {l : List UInt8} (H : RgAt w R p d bad l) (i : Nat) (v : Value) (e : (d.row p bad).set i v = d'.row p bad') : RgAt (w.setCell ⟨R, i, none⟩ v) R p d' bad' l := by
  refine ⟨H.1, ?_, (mv_set w R i v).blk H.2.2 (fun e => H.1 e.symm)⟩
  have h := set_of H.2.1 i v
  rw [e] at h
  exact h
theorem Rm.set {w w' : World} {R p i : Nat} {v : Value} (h : Mv w w' (fun k => k = p)) : Mv w (w'.setCell ⟨R, i, none⟩ v) (fun k => k = R ∨ k = p) := Mv.set (h.mono (fun k hk => Or.inr hk)) i v (Or.inl (Or.inl rfl))
set_option maxHeartbeats 8000000 in
set_option maxRecDepth 100000 in
theorem getNonce_ok (w : World) (R p : Nat) (d : Dg) (bad : Bool) (l : List UInt8) (H : RgAt w R p d bad l) (hn : 16 ≤ l.length) : Calls Tryz.prog 48 #[.pointer (some ⟨R, 0, none⟩)] w fun e w' => e = .returned (.tuple #[]) ∧ RgAt w' R p { d with nonce := str (l.take 16) } bad (l.drop 16) ∧ Mv w w' (fun k => k = R ∨ k = p) := by
  have HR := Aside0.mk H
  have T1 := Aside0.mk (show Calls Tryz.prog 88 #[.pointer (some ⟨R, 0, none⟩), .int .i64 16] w fun e w' => e = .returned (.string (str (l.take 16))) ∧ RgAt w' R p d bad (l.drop 16) ∧ Mv w w' (fun k => k = p) from text_ok w R p 16 d bad l H hn)
  clear H hn
  go_enter Tryz.func48, Tryz.ntmps48
  go_wp2_with (go_at_call 88; (with_reducible refine T1.out.mono ?_); rintro e w2 ⟨rfl, hr2, hm2⟩; have HR2 := Aside0.mk hr2; have cR : w2.cell? ⟨R, 2, none⟩ = some (.string d.nonce) := hr2.at_ rfl; have fR := Wd_thaw hr2.2.1 2; clear hr2)
  go_end0
  exact ⟨rfl, HR2.out.setX 2 _ rfl, Rm.set hm2⟩
set_option maxHeartbeats 8000000 in
set_option maxRecDepth 100000 in
theorem getNonce_short (w : World) (R p : Nat) (d : Dg) (bad : Bool) (l : List UInt8) (H : RgAt w R p d bad l) (hn : l.length < 16) : Calls Tryz.prog 48 #[.pointer (some ⟨R, 0, none⟩)] w fun e w' => e = short ∧ Mv w w' (fun k => k = R ∨ k = p) := by
  have HR := Aside0.mk H
  have HN := Aside0.mk (show (16 : Int) < 0 ∨ (l.length : Int) < 16 from Or.inr (by omega))
  clear H hn
  go_enter Tryz.func48, Tryz.ntmps48
  go_wp2_with (go_at_call 88; (with_reducible refine (text_short w R p 16 d bad l HR.out HN.out).mono ?_); rintro e w2 ⟨rfl, rfl⟩)
  exact ⟨rfl, rfl, Mv.refl _ _⟩
set_option maxHeartbeats 8000000 in
set_option maxRecDepth 100000 in
theorem getCookie_ok (w : World) (R p : Nat) (d : Dg) (bad : Bool) (l : List UInt8) (H : RgAt w R p d bad l) (hn : 32 ≤ l.length) : Calls Tryz.prog 54 #[.pointer (some ⟨R, 0, none⟩)] w fun e w' => e = .returned (.tuple #[]) ∧ RgAt w' R p { d with cookie := str (l.take 32) } bad (l.drop 32) ∧ Mv w w' (fun k => k = R ∨ k = p) := by
  have HR := Aside0.mk H
  have T1 := Aside0.mk (show Calls Tryz.prog 88 #[.pointer (some ⟨R, 0, none⟩), .int .i64 32] w fun e w' => e = .returned (.string (str (l.take 32))) ∧ RgAt w' R p d bad (l.drop 32) ∧ Mv w w' (fun k => k = p) from text_ok w R p 32 d bad l H hn)
  clear H hn
  go_enter Tryz.func54, Tryz.ntmps54
  go_wp2_with (go_at_call 88; (with_reducible refine T1.out.mono ?_); rintro e w2 ⟨rfl, hr2, hm2⟩; have HR2 := Aside0.mk hr2; have cR : w2.cell? ⟨R, 4, none⟩ = some (.string d.cookie) := hr2.at_ rfl; have fR := Wd_thaw hr2.2.1 4; clear hr2)
  go_end0
  exact ⟨rfl, HR2.out.setX 4 _ rfl, Rm.set hm2⟩
set_option maxHeartbeats 8000000 in
set_option maxRecDepth 100000 in
theorem getCookie_short (w : World) (R p : Nat) (d : Dg) (bad : Bool) (l : List UInt8) (H : RgAt w R p d bad l) (hn : l.length < 32) : Calls Tryz.prog 54 #[.pointer (some ⟨R, 0, none⟩)] w fun e w' => e = short ∧ Mv w w' (fun k => k = R ∨ k = p) := by
  have HR := Aside0.mk H
  have HN := Aside0.mk (show (32 : Int) < 0 ∨ (l.length : Int) < 32 from Or.inr (by omega))
  clear H hn
  go_enter Tryz.func54, Tryz.ntmps54
  go_wp2_with (go_at_call 88; (with_reducible refine (text_short w R p 32 d bad l HR.out HN.out).mono ?_); rintro e w2 ⟨rfl, rfl⟩)
  exact ⟨rfl, rfl, Mv.refl _ _⟩
set_option maxHeartbeats 8000000 in
set_option maxRecDepth 100000 in
theorem getTag_ok (w : World) (R p : Nat) (d : Dg) (bad : Bool) (l : List UInt8) (H : RgAt w R p d bad l) (hn : 32 ≤ l.length) : Calls Tryz.prog 58 #[.pointer (some ⟨R, 0, none⟩)] w fun e w' => e = .returned (.tuple #[]) ∧ RgAt w' R p { d with tag := str (l.take 32) } bad (l.drop 32) ∧ Mv w w' (fun k => k = R ∨ k = p) := by
  have HR := Aside0.mk H
  have T1 := Aside0.mk (show Calls Tryz.prog 88 #[.pointer (some ⟨R, 0, none⟩), .int .i64 32] w fun e w' => e = .returned (.string (str (l.take 32))) ∧ RgAt w' R p d bad (l.drop 32) ∧ Mv w w' (fun k => k = p) from text_ok w R p 32 d bad l H hn)
  clear H hn
  go_enter Tryz.func58, Tryz.ntmps58
  go_wp2_with (go_at_call 88; (with_reducible refine T1.out.mono ?_); rintro e w2 ⟨rfl, hr2, hm2⟩; have HR2 := Aside0.mk hr2; have cR : w2.cell? ⟨R, 15, none⟩ = some (.string d.tag) := hr2.at_ rfl; have fR := Wd_thaw hr2.2.1 15; clear hr2)
  go_end0
  exact ⟨rfl, HR2.out.setX 15 _ rfl, Rm.set hm2⟩
set_option maxHeartbeats 8000000 in
set_option maxRecDepth 100000 in
theorem getTag_short (w : World) (R p : Nat) (d : Dg) (bad : Bool) (l : List UInt8) (H : RgAt w R p d bad l) (hn : l.length < 32) : Calls Tryz.prog 58 #[.pointer (some ⟨R, 0, none⟩)] w fun e w' => e = short ∧ Mv w w' (fun k => k = R ∨ k = p) := by
  have HR := Aside0.mk H
  have HN := Aside0.mk (show (32 : Int) < 0 ∨ (l.length : Int) < 32 from Or.inr (by omega))
  clear H hn
  go_enter Tryz.func58, Tryz.ntmps58
  go_wp2_with (go_at_call 88; (with_reducible refine (text_short w R p 32 d bad l HR.out HN.out).mono ?_); rintro e w2 ⟨rfl, rfl⟩)
  exact ⟨rfl, rfl, Mv.refl _ _⟩
set_option maxHeartbeats 8000000 in
set_option maxRecDepth 100000 in
theorem getSalt_ok (w : World) (R p : Nat) (d : Dg) (bad : Bool) (l : List UInt8) (H : RgAt w R p d bad l) (hn : 16 ≤ l.length) : Calls Tryz.prog 64 #[.pointer (some ⟨R, 0, none⟩)] w fun e w' => e = .returned (.tuple #[]) ∧ RgAt w' R p { d with salt := str (l.take 16) } bad (l.drop 16) ∧ Mv w w' (fun k => k = R ∨ k = p) := by
  have HR := Aside0.mk H
  have T1 := Aside0.mk (show Calls Tryz.prog 88 #[.pointer (some ⟨R, 0, none⟩), .int .i64 16] w fun e w' => e = .returned (.string (str (l.take 16))) ∧ RgAt w' R p d bad (l.drop 16) ∧ Mv w w' (fun k => k = p) from text_ok w R p 16 d bad l H hn)
  clear H hn
  go_enter Tryz.func64, Tryz.ntmps64
  go_wp2_with (go_at_call 88; (with_reducible refine T1.out.mono ?_); rintro e w2 ⟨rfl, hr2, hm2⟩; have HR2 := Aside0.mk hr2; have cR : w2.cell? ⟨R, 8, none⟩ = some (.string d.salt) := hr2.at_ rfl; have fR := Wd_thaw hr2.2.1 8; clear hr2)
  go_end0
  exact ⟨rfl, HR2.out.setX 8 _ rfl, Rm.set hm2⟩
set_option maxHeartbeats 8000000 in
set_option maxRecDepth 100000 in
theorem getSalt_short (w : World) (R p : Nat) (d : Dg) (bad : Bool) (l : List UInt8) (H : RgAt w R p d bad l) (hn : l.length < 16) : Calls Tryz.prog 64 #[.pointer (some ⟨R, 0, none⟩)] w fun e w' => e = short ∧ Mv w w' (fun k => k = R ∨ k = p) := by
  have HR := Aside0.mk H
  have HN := Aside0.mk (show (16 : Int) < 0 ∨ (l.length : Int) < 16 from Or.inr (by omega))
  clear H hn
  go_enter Tryz.func64, Tryz.ntmps64
  go_wp2_with (go_at_call 88; (with_reducible refine (text_short w R p 16 d bad l HR.out HN.out).mono ?_); rintro e w2 ⟨rfl, rfl⟩)
  exact ⟨rfl, rfl, Mv.refl _ _⟩
set_option maxHeartbeats 8000000 in
set_option maxRecDepth 100000 in
theorem getEpoch_ok (w : World) (R p : Nat) (d : Dg) (bad : Bool) (l : List UInt8) (H : RgAt w R p d bad l) (hn : 8 ≤ l.length) : Calls Tryz.prog 52 #[.pointer (some ⟨R, 0, none⟩)] w fun e w' => e = .returned (.tuple #[]) ∧ RgAt w' R p { d with epoch := num (l.take 8) } bad (l.drop 8) ∧ Mv w w' (fun k => k = R ∨ k = p) := by
  have HR := Aside0.mk H
  have HN := Aside0.mk hn
  clear H hn
  go_enter Tryz.func52, Tryz.ntmps52
  go_wp2_with (go_at_call 91; (with_reducible refine (number_ok w R p 8 8 rfl d bad l HR.out (by decide) (by decide) HN.out).mono ?_); rintro e w2 ⟨rfl, hr2, hm2⟩; have HR2 := Aside0.mk hr2; have cR : w2.cell? ⟨R, 3, none⟩ = some (.int .u64 (d.epoch : Int)) := hr2.at_ rfl; have fR := Wd_thaw hr2.2.1 3; clear hr2)
  go_end0
  exact ⟨rfl, HR2.out.setX 3 _ rfl, Rm.set hm2⟩
set_option maxHeartbeats 8000000 in
set_option maxRecDepth 100000 in
theorem getEpoch_short (w : World) (R p : Nat) (d : Dg) (bad : Bool) (l : List UInt8) (H : RgAt w R p d bad l) (hn : l.length < 8) : Calls Tryz.prog 52 #[.pointer (some ⟨R, 0, none⟩)] w fun e w' => e = short ∧ Mv w w' (fun k => k = R ∨ k = p) := by
  have HR := Aside0.mk H
  have HN := Aside0.mk hn
  clear H hn
  go_enter Tryz.func52, Tryz.ntmps52
  go_wp2_with (go_at_call 91; (with_reducible refine (number_short w R p 8 8 rfl d bad l HR.out HN.out).mono ?_); rintro e w2 ⟨rfl, rfl⟩)
  exact ⟨rfl, rfl, Mv.refl _ _⟩
set_option maxHeartbeats 8000000 in
set_option maxRecDepth 100000 in
theorem getSession_ok (w : World) (R p : Nat) (d : Dg) (bad : Bool) (l : List UInt8) (H : RgAt w R p d bad l) (hn : 8 ≤ l.length) : Calls Tryz.prog 60 #[.pointer (some ⟨R, 0, none⟩)] w fun e w' => e = .returned (.tuple #[]) ∧ RgAt w' R p { d with session := num (l.take 8) } bad (l.drop 8) ∧ Mv w w' (fun k => k = R ∨ k = p) := by
  have HR := Aside0.mk H
  have HN := Aside0.mk hn
  clear H hn
  go_enter Tryz.func60, Tryz.ntmps60
  go_wp2_with (go_at_call 91; (with_reducible refine (number_ok w R p 8 8 rfl d bad l HR.out (by decide) (by decide) HN.out).mono ?_); rintro e w2 ⟨rfl, hr2, hm2⟩; have HR2 := Aside0.mk hr2; have cR : w2.cell? ⟨R, 6, none⟩ = some (.int .u64 (d.session : Int)) := hr2.at_ rfl; have fR := Wd_thaw hr2.2.1 6; clear hr2)
  go_end0
  exact ⟨rfl, HR2.out.setX 6 _ rfl, Rm.set hm2⟩
set_option maxHeartbeats 8000000 in
set_option maxRecDepth 100000 in
theorem getSession_short (w : World) (R p : Nat) (d : Dg) (bad : Bool) (l : List UInt8) (H : RgAt w R p d bad l) (hn : l.length < 8) : Calls Tryz.prog 60 #[.pointer (some ⟨R, 0, none⟩)] w fun e w' => e = short ∧ Mv w w' (fun k => k = R ∨ k = p) := by
  have HR := Aside0.mk H
  have HN := Aside0.mk hn
  clear H hn
  go_enter Tryz.func60, Tryz.ntmps60
  go_wp2_with (go_at_call 91; (with_reducible refine (number_short w R p 8 8 rfl d bad l HR.out HN.out).mono ?_); rintro e w2 ⟨rfl, rfl⟩)
  exact ⟨rfl, rfl, Mv.refl _ _⟩
set_option maxHeartbeats 8000000 in
set_option maxRecDepth 100000 in
theorem getSeq_ok (w : World) (R p : Nat) (d : Dg) (bad : Bool) (l : List UInt8) (H : RgAt w R p d bad l) (hn : 8 ≤ l.length) : Calls Tryz.prog 66 #[.pointer (some ⟨R, 0, none⟩)] w fun e w' => e = .returned (.tuple #[]) ∧ RgAt w' R p { d with seq := num (l.take 8) } bad (l.drop 8) ∧ Mv w w' (fun k => k = R ∨ k = p) := by
  have HR := Aside0.mk H
  have HN := Aside0.mk hn
  clear H hn
  go_enter Tryz.func66, Tryz.ntmps66
  go_wp2_with (go_at_call 91; (with_reducible refine (number_ok w R p 8 8 rfl d bad l HR.out (by decide) (by decide) HN.out).mono ?_); rintro e w2 ⟨rfl, hr2, hm2⟩; have HR2 := Aside0.mk hr2; have cR : w2.cell? ⟨R, 9, none⟩ = some (.int .u64 (d.seq : Int)) := hr2.at_ rfl; have fR := Wd_thaw hr2.2.1 9; clear hr2)
  go_end0
  exact ⟨rfl, HR2.out.setX 9 _ rfl, Rm.set hm2⟩
set_option maxHeartbeats 8000000 in
set_option maxRecDepth 100000 in
theorem getSeq_short (w : World) (R p : Nat) (d : Dg) (bad : Bool) (l : List UInt8) (H : RgAt w R p d bad l) (hn : l.length < 8) : Calls Tryz.prog 66 #[.pointer (some ⟨R, 0, none⟩)] w fun e w' => e = short ∧ Mv w w' (fun k => k = R ∨ k = p) := by
  have HR := Aside0.mk H
  have HN := Aside0.mk hn
  clear H hn
  go_enter Tryz.func66, Tryz.ntmps66
  go_wp2_with (go_at_call 91; (with_reducible refine (number_short w R p 8 8 rfl d bad l HR.out HN.out).mono ?_); rintro e w2 ⟨rfl, rfl⟩)
  exact ⟨rfl, rfl, Mv.refl _ _⟩
theorem num1_ok (w : World) (R p : Nat) (d : Dg) (bad : Bool) (b : UInt8) (l : List UInt8) (H : RgAt w R p d bad (b :: l)) : Calls Tryz.prog 91 #[.pointer (some ⟨R, 0, none⟩), .int .i64 1] w fun e w' => e = .returned (.int .u64 (b.toNat : Int)) ∧ RgAt w' R p d bad l ∧ Mv w w' (fun k => k = p) := by
  have h := number_ok w R p 1 1 rfl d bad (b :: l) H (by omega) (by omega) (by simp)
  rw [show num ((b :: l).take 1) = b.toNat by simp [num]] at h
  exact h
set_option maxHeartbeats 8000000 in
set_option maxRecDepth 100000 in
theorem getPlayer_ok (w : World) (R p : Nat) (d : Dg) (bad : Bool) (b : UInt8) (l : List UInt8) (H : RgAt w R p d bad (b :: l)) : Calls Tryz.prog 62 #[.pointer (some ⟨R, 0, none⟩)] w fun e w' => e = .returned (.tuple #[]) ∧ RgAt w' R p { d with player := (b.toNat : Int) } bad l ∧ Mv w w' (fun k => k = R ∨ k = p) := by
  have HR := Aside0.mk H
  have T1 := Aside0.mk (show ∀ w, RgAt w R p d bad (b :: l) → Calls Tryz.prog 91 #[.pointer (some ⟨R, 0, none⟩), .int .i64 1] w fun e w' => e = .returned (.int .u64 (b.toNat : Int)) ∧ RgAt w' R p d bad l ∧ Mv w w' (fun k => k = p) from fun w hw => num1_ok w R p d bad b l hw)
  have zb : wrap64 (b.toNat : Int) = (b.toNat : Int) := by have := b.toNat_lt; unfold wrap64; omega
  clear H
  go_enter Tryz.func62, Tryz.ntmps62
  go_wp2_with (go_at_call 91; (with_reducible refine (T1.out w HR.out).mono ?_); rintro e w2 ⟨rfl, hr2, hm2⟩; have HR2 := Aside0.mk hr2; have HM2 := Aside0.mk hm2; have cR : w2.cell? ⟨R, 7, none⟩ = some (.int .i64 d.player) := hr2.at_ rfl; have fR := Wd_thaw hr2.2.1 7; clear hr2 hm2)
  go_end0
  exact ⟨rfl, HR2.out.setX 7 _ rfl, Rm.set HM2.out⟩
set_option maxHeartbeats 8000000 in
set_option maxRecDepth 100000 in
theorem getPlayer_short (w : World) (R p : Nat) (d : Dg) (bad : Bool) (l : List UInt8) (H : RgAt w R p d bad l) (hn : l = []) : Calls Tryz.prog 62 #[.pointer (some ⟨R, 0, none⟩)] w fun e w' => e = short ∧ Mv w w' (fun k => k = R ∨ k = p) := by
  have HR := Aside0.mk H
  subst hn
  clear H
  go_enter Tryz.func62, Tryz.ntmps62
  go_wp2_with (go_at_call 91; (with_reducible refine (number_short w R p 1 1 rfl d bad [] HR.out (by decide)).mono ?_); rintro e w2 ⟨rfl, rfl⟩)
  exact ⟨rfl, rfl, Mv.refl _ _⟩
set_option maxHeartbeats 8000000 in
set_option maxRecDepth 100000 in
theorem getName_ok (w : World) (R p : Nat) (d : Dg) (bad : Bool) (b : UInt8) (l : List UInt8) (H : RgAt w R p d bad (b :: l)) (hn : b.toNat ≤ l.length) : Calls Tryz.prog 56 #[.pointer (some ⟨R, 0, none⟩)] w fun e w' => e = .returned (.tuple #[]) ∧ RgAt w' R p { d with name := str (l.take b.toNat) } bad (l.drop b.toNat) ∧ Mv w w' (fun k => k = R ∨ k = p) := by
  have HR := Aside0.mk H
  have T1 := Aside0.mk (show ∀ w, RgAt w R p d bad (b :: l) → Calls Tryz.prog 91 #[.pointer (some ⟨R, 0, none⟩), .int .i64 1] w fun e w' => e = .returned (.int .u64 (b.toNat : Int)) ∧ RgAt w' R p d bad l ∧ Mv w w' (fun k => k = p) from fun w hw => num1_ok w R p d bad b l hw)
  have zb : wrap64 (b.toNat : Int) = (b.toNat : Int) := by have := b.toNat_lt; unfold wrap64; omega
  have HN := Aside0.mk hn
  clear H hn
  go_enter Tryz.func56, Tryz.ntmps56
  go_wp2_with (first
    | (go_at_call 91; (with_reducible refine (T1.out w HR.out).mono ?_); rintro e w2 ⟨rfl, hr2, hm2⟩; have HR2 := Aside0.mk hr2; have HM2 := Aside0.mk hm2; clear hr2 hm2)
    | (go_at_call 88; (with_reducible refine (text_ok w2 R p b.toNat d bad l HR2.out HN.out).mono ?_); rintro e w3 ⟨rfl, hr3, hm3⟩; have HR3 := Aside0.mk hr3; have cR : w3.cell? ⟨R, 5, none⟩ = some (.string d.name) := hr3.at_ rfl; have fR := Wd_thaw hr3.2.1 5; clear hr3))
  go_end0
  exact ⟨rfl, HR3.out.setX 5 _ rfl, Rm.set (HM2.out.then hm3 (fun k hk => Or.inl hk))⟩
set_option maxHeartbeats 8000000 in
set_option maxRecDepth 100000 in
theorem getName_short (w : World) (R p : Nat) (d : Dg) (bad : Bool) (l : List UInt8) (H : RgAt w R p d bad l) (hn : l = []) : Calls Tryz.prog 56 #[.pointer (some ⟨R, 0, none⟩)] w fun e w' => e = short ∧ Mv w w' (fun k => k = R ∨ k = p) := by
  have HR := Aside0.mk H
  subst hn
  clear H
  go_enter Tryz.func56, Tryz.ntmps56
  go_wp2_with (go_at_call 91; (with_reducible refine (number_short w R p 1 1 rfl d bad [] HR.out (by decide)).mono ?_); rintro e w2 ⟨rfl, rfl⟩)
  exact ⟨rfl, rfl, Mv.refl _ _⟩
set_option maxHeartbeats 8000000 in
set_option maxRecDepth 100000 in
theorem getName_short2 (w : World) (R p : Nat) (d : Dg) (bad : Bool) (b : UInt8) (l : List UInt8) (H : RgAt w R p d bad (b :: l)) (hn : l.length < b.toNat) : Calls Tryz.prog 56 #[.pointer (some ⟨R, 0, none⟩)] w fun e w' => e = short ∧ Mv w w' (fun k => k = R ∨ k = p) := by
  have HR := Aside0.mk H
  have T1 := Aside0.mk (show ∀ w, RgAt w R p d bad (b :: l) → Calls Tryz.prog 91 #[.pointer (some ⟨R, 0, none⟩), .int .i64 1] w fun e w' => e = .returned (.int .u64 (b.toNat : Int)) ∧ RgAt w' R p d bad l ∧ Mv w w' (fun k => k = p) from fun w hw => num1_ok w R p d bad b l hw)
  have zb : wrap64 (b.toNat : Int) = (b.toNat : Int) := by have := b.toNat_lt; unfold wrap64; omega
  have HN := Aside0.mk (show (b.toNat : Int) < 0 ∨ (l.length : Int) < (b.toNat : Int) from Or.inr (by clear zb; omega))
  clear H hn
  go_enter Tryz.func56, Tryz.ntmps56
  go_wp2_with (first
    | (go_at_call 91; (with_reducible refine (T1.out w HR.out).mono ?_); rintro e w2 ⟨rfl, hr2, hm2⟩; have HR2 := Aside0.mk hr2; have HM2 := Aside0.mk hm2; clear hr2 hm2)
    | (go_at_call 88; (with_reducible refine (text_short w2 R p b.toNat d bad l HR2.out HN.out).mono ?_); rintro e w3 ⟨rfl, rfl⟩))
  exact ⟨rfl, rfl, HM2.out.mono (fun k hk => Or.inr hk)⟩
set_option maxHeartbeats 8000000 in
set_option maxRecDepth 100000 in
theorem getData_ok (w : World) (R p : Nat) (d : Dg) (bad : Bool) (l : List UInt8) (H : RgAt w R p d bad l) (hn : 32 ≤ l.length) (hl : l.length < 4611686018427387904) : Calls Tryz.prog 70 #[.pointer (some ⟨R, 0, none⟩)] w fun e w' => e = .returned (.tuple #[]) ∧ RgAt w' R p { d with data := str (l.take (l.length - 32)) } bad (l.drop (l.length - 32)) ∧ Mv w w' (fun k => k = R ∨ k = p) := by
  have HR := Aside0.mk H
  obtain ⟨n, en⟩ : ∃ n, n = l.length - 32 := ⟨_, rfl⟩
  have zn : wrap64 ((l.length : Int) - 32) = (n : Int) := by rw [en]; unfold wrap64; omega
  have HN := Aside0.mk (show n ≤ l.length by clear zn; omega)
  have EN := Aside0.mk en
  have c0 : w.cell? ⟨R, 0, none⟩ = some (.pointer (some ⟨p, 0, none⟩)) := H.at_ rfl
  rw [← en]
  clear H hn en hl
  go_enter Tryz.func70, Tryz.ntmps70
  go_wp2_with (first
    | (go_at_call 30; (with_reducible refine (left_calls w p l HR.out.rd).mono ?_); rintro e w1 ⟨rfl, rfl⟩)
    | (go_at_call 88; (with_reducible refine (text_ok _ R p n d bad l HR.out HN.out).mono ?_); rintro e w3 ⟨rfl, hr3, hm3⟩; have HR3 := Aside0.mk hr3; have cR : w3.cell? ⟨R, 14, none⟩ = some (.string d.data) := hr3.at_ rfl; have fR := Wd_thaw hr3.2.1 14; clear hr3))
  go_end0
  exact ⟨rfl, HR3.out.setX 14 _ rfl, Rm.set hm3⟩
set_option maxHeartbeats 8000000 in
set_option maxRecDepth 100000 in
theorem getData_short (w : World) (R p : Nat) (d : Dg) (bad : Bool) (l : List UInt8) (H : RgAt w R p d bad l) (hn : l.length < 32) : Calls Tryz.prog 70 #[.pointer (some ⟨R, 0, none⟩)] w fun e w' => e = short ∧ Mv w w' (fun k => k = R ∨ k = p) := by
  have HR := Aside0.mk H
  obtain ⟨n, en⟩ : ∃ n : Int, n = (l.length : Int) - 32 := ⟨_, rfl⟩
  have zn : wrap64 ((l.length : Int) - 32) = n := by rw [en]; unfold wrap64; omega
  have HN := Aside0.mk (show n < 0 ∨ (l.length : Int) < n from Or.inl (by clear zn; omega))
  have c0 : w.cell? ⟨R, 0, none⟩ = some (.pointer (some ⟨p, 0, none⟩)) := H.at_ rfl
  clear H hn en
  go_enter Tryz.func70, Tryz.ntmps70
  go_wp2_with (first
    | (go_at_call 30; (with_reducible refine (left_calls w p l HR.out.rd).mono ?_); rintro e w1 ⟨rfl, rfl⟩)
    | (go_at_call 88; (with_reducible refine (text_short _ R p n d bad l HR.out HN.out).mono ?_); rintro e w3 ⟨rfl, rfl⟩))
  exact ⟨rfl, rfl, Mv.refl _ _⟩
set_option maxHeartbeats 8000000 in
set_option maxRecDepth 100000 in
theorem getZeros_ok (w : World) (R p : Nat) (d : Dg) (bad : Bool) (l : List UInt8) (H : RgAt w R p d bad l) (hn : 76 ≤ l.length) : Calls Tryz.prog 50 #[.pointer (some ⟨R, 0, none⟩)] w fun e w' => e = .returned (.tuple #[]) ∧ RgAt w' R p d (decide (Lib.trimB (l.take 76) 0 ≠ [])) (l.drop 76) ∧ Mv w w' (fun k => k = R ∨ k = p) := by
  have HR := Aside0.mk H
  have T1 := Aside0.mk (show Calls Tryz.prog 88 #[.pointer (some ⟨R, 0, none⟩), .int .i64 76] w fun e w' => e = .returned (.string (str (l.take 76))) ∧ RgAt w' R p d bad (l.drop 76) ∧ Mv w w' (fun k => k = p) from text_ok w R p 76 d bad l H hn)
  obtain ⟨t, et⟩ : ∃ t, t = Lib.trimB (l.take 76) 0 := ⟨_, rfl⟩
  have T2 := Aside0.mk (show ∀ w, Calls Tryz.prog 90 #[.string (str (l.take 76)), .string ⟨#[0]⟩] w fun e w' => e = .returned (.string (str t)) ∧ (w' = w ∨ w' = w.drew) from fun w => by
    rw [et]
    exact Tryz.strings_Trim_one (str (l.take 76)) 0 (by decide) w (by show (l.take 76).length ≤ _; rw [List.length_take]; omega))
  rw [← et]
  clear H hn et
  go_enter Tryz.func50, Tryz.ntmps50
  go_wp2_with (first
    | (go_at_call 88; (with_reducible refine T1.out.mono ?_); rintro e w2 ⟨rfl, hr2, hm2⟩; have HR2 := Aside0.mk hr2; have HM2 := Aside0.mk hm2; clear hr2 hm2)
    | (go_at_call 90; (with_reducible refine (T2.out w2).mono ?_); rintro e w3 ⟨rfl, hw3⟩; have HR3 := Aside0.mk (show RgAt w3 R p d bad (l.drop 76) ∧ Mv w2 w3 (fun _ => False) from by rcases hw3 with rfl | rfl; exact ⟨HR2.out, Mv.refl _ _⟩; exact ⟨HR2.out, (Mv.refl _ _).drew⟩); clear hw3; have cR : w3.cell? ⟨R, 16, none⟩ = some (.bool bad) := HR3.out.1.at_ rfl; have fR := Wd_thaw HR3.out.1.2.1 16))
  go_end0
  rw [str_empty]
  exact ⟨rfl, HR3.out.1.setX 16 _ rfl, Rm.set (HM2.out.then (HR3.out.2.mono (S' := fun k => k = p) (fun k h => h.elim)) (fun k hk => Or.inl hk))⟩
set_option maxHeartbeats 8000000 in
set_option maxRecDepth 100000 in
theorem getZeros_short (w : World) (R p : Nat) (d : Dg) (bad : Bool) (l : List UInt8) (H : RgAt w R p d bad l) (hn : l.length < 76) : Calls Tryz.prog 50 #[.pointer (some ⟨R, 0, none⟩)] w fun e w' => e = short ∧ Mv w w' (fun k => k = R ∨ k = p) := by
  have HR := Aside0.mk H
  have HN := Aside0.mk (show (76 : Int) < 0 ∨ (l.length : Int) < 76 from Or.inr (by omega))
  clear H hn
  go_enter Tryz.func50, Tryz.ntmps50
  go_wp2_with (go_at_call 88; (with_reducible refine (text_short w R p 76 d bad l HR.out HN.out).mono ?_); rintro e w2 ⟨rfl, rfl⟩)
  exact ⟨rfl, rfl, Mv.refl _ _⟩
end Go.Proofs.YtniabkphbnimaaaGreatDoor.Sh
namespace Go.Proofs.YtniabkphbnimaaaGreatDoor.Sh
open Go Go.RowKit Go.Maps Go.Proofs.YtniabkphbnimaaaGreatDoorW.PrintWords Go.Proofs.YtniabkphbnimaaaGreatDoorW.PrintLast Go.Proofs.YtniabkphbnimaaaGreatDoor.Bs
def bit0 (c : UInt8) : Bool := decide (c.toNat % 2 = 1)
def bit1 (c : UInt8) : Bool := decide (c.toNat / 2 % 2 = 1)
theorem bits_and1 (c : UInt8) : (Go.bits .and .u64 (c.toNat : Int) 1 != 0) = bit0 c := by
  have key : ∀ i : Fin 256, (Go.bits .and .u64 (i.val : Int) 1 != 0) = decide (i.val % 2 = 1) := by decide +kernel
  exact key ⟨c.toNat, c.toNat_lt⟩
theorem bits_and2 (c : UInt8) : (Go.bits .and .u64 (c.toNat : Int) 2 != 0) = bit1 c := by
  have key : ∀ i : Fin 256, (Go.bits .and .u64 (i.val : Int) 2 != 0) = decide (i.val / 2 % 2 = 1) := by decide +kernel
  exact key ⟨c.toNat, c.toNat_lt⟩
set_option maxHeartbeats 8000000 in
set_option maxRecDepth 100000 in
theorem getCommand_ok (w : World) (R p : Nat) (d : Dg) (bad : Bool) (a b c : UInt8) (l : List UInt8) (H : RgAt w R p d bad (a :: b :: c :: l)) : Calls Tryz.prog 68 #[.pointer (some ⟨R, 0, none⟩)] w fun e w' => e = .returned (.tuple #[]) ∧ RgAt w' R p { d with thr := sbyte a, trn := sbyte b, fire := bit0 c, boost := bit1 c } (decide (3 < c.toNat)) l ∧ Mv w w' (fun k => k = R ∨ k = p) := by
  have HR := Aside0.mk H
  have z1 := bits_and1 c
  have z2 := bits_and2 c
  clear H
  go_enter Tryz.func68, Tryz.ntmps68
  go_wp2_with (first
    | (go_at_call 93; (with_reducible refine (sig_ok w R p d bad a _ HR.out).mono ?_); rintro e w2 ⟨rfl, hr2, hm2⟩; have HR2 := Aside0.mk hr2; have HM2 := Aside0.mk hm2; have c10 : w2.cell? ⟨R, 10, none⟩ = some (.int .i64 d.thr) := hr2.at_ rfl; have f10 := Wd_thaw hr2.2.1 10; have HR3 := Aside0.mk (show RgAt (w2.setCell ⟨R, 10, none⟩ (.int .i64 (sbyte a))) R p { d with thr := sbyte a } bad _ from hr2.setX 10 _ rfl); have HM3 := Aside0.mk (show Mv w (w2.setCell ⟨R, 10, none⟩ (.int .i64 (sbyte a))) (fun k => k = R ∨ k = p) from Rm.set hm2); clear hr2 hm2)
    | (go_at_call 93; (with_reducible refine (sig_ok _ R p { d with thr := sbyte a } bad b _ HR3.out).mono ?_); rintro e w4 ⟨rfl, hr4, hm4⟩; have HR4 := Aside0.mk hr4; have HM4 := Aside0.mk hm4; have c11 : w4.cell? ⟨R, 11, none⟩ = some (.int .i64 d.trn) := hr4.at_ rfl; have f11 := Wd_thaw hr4.2.1 11; have HR5 := Aside0.mk (show RgAt (w4.setCell ⟨R, 11, none⟩ (.int .i64 (sbyte b))) R p { d with thr := sbyte a, trn := sbyte b } bad _ from hr4.setX 11 _ rfl); have HM5 := Aside0.mk (show Mv w (w4.setCell ⟨R, 11, none⟩ (.int .i64 (sbyte b))) (fun k => k = R ∨ k = p) from (HM3.out.then (hm4.mono (fun k hk => Or.inr hk)) (fun k hk => Or.inl hk)).set 11 _ (Or.inl (Or.inl rfl))); clear hr4 hm4)
    | (go_at_call 91; (with_reducible refine (num1_ok _ R p { d with thr := sbyte a, trn := sbyte b } bad c l HR5.out).mono ?_); rintro e w6 ⟨rfl, hr6, hm6⟩; have HR6 := Aside0.mk hr6; have HM6 := Aside0.mk hm6; have c12 : w6.cell? ⟨R, 12, none⟩ = some (.bool d.fire) := hr6.at_ rfl; have f12 := Wd_thaw hr6.2.1 12; have c13 : w6.cell? ⟨R, 13, none⟩ = some (.bool d.boost) := hr6.at_ rfl; have f13 := Wd_thaw hr6.2.1 13; have c16 : w6.cell? ⟨R, 16, none⟩ = some (.bool bad) := hr6.at_ rfl; have f16 := Wd_thaw hr6.2.1 16; clear hr6 hm6))
  go_end0
  have e3 : decide ((3 : Int) < (c.toNat : Int)) = decide (3 < c.toNat) := by
    by_cases h : 3 < c.toNat
    · rw [decide_eq_true h, decide_eq_true (by omega)]
    · rw [decide_eq_false h, decide_eq_false (by omega)]
  rw [e3]
  have h12 : RgAt (w6.setCell ⟨R, 12, none⟩ (.bool (bit0 c))) R p { d with thr := sbyte a, trn := sbyte b, fire := bit0 c } bad l := HR6.out.setX 12 _ rfl
  have h13 : RgAt ((w6.setCell ⟨R, 12, none⟩ (.bool (bit0 c))).setCell ⟨R, 13, none⟩ (.bool (bit1 c))) R p { d with thr := sbyte a, trn := sbyte b, fire := bit0 c, boost := bit1 c } bad l := h12.setX 13 _ rfl
  refine ⟨rfl, h13.setX 16 _ rfl, ?_⟩
  exact (((HM5.out.then (HM6.out.mono (fun k hk => Or.inr hk)) (fun k hk => Or.inl hk)).set 12 _ (Or.inl (Or.inl rfl))).set 13 _ (Or.inl (Or.inl rfl))).set 16 _ (Or.inl (Or.inl rfl))
set_option maxHeartbeats 8000000 in
set_option maxRecDepth 100000 in
theorem getCommand_short0 (w : World) (R p : Nat) (d : Dg) (bad : Bool) (H : RgAt w R p d bad []) : Calls Tryz.prog 68 #[.pointer (some ⟨R, 0, none⟩)] w fun e w' => e = short ∧ Mv w w' (fun k => k = R ∨ k = p) := by
  have HR := Aside0.mk H
  clear H
  go_enter Tryz.func68, Tryz.ntmps68
  go_wp2_with (go_at_call 93; (with_reducible refine (sig_short _ R p d bad HR.out).mono ?_); rintro e w2 ⟨rfl, rfl⟩)
  exact ⟨rfl, rfl, Mv.refl _ _⟩
set_option maxHeartbeats 8000000 in
set_option maxRecDepth 100000 in
theorem getCommand_short1 (w : World) (R p : Nat) (d : Dg) (bad : Bool) (a : UInt8) (H : RgAt w R p d bad [a]) : Calls Tryz.prog 68 #[.pointer (some ⟨R, 0, none⟩)] w fun e w' => e = short ∧ Mv w w' (fun k => k = R ∨ k = p) := by
  have HR := Aside0.mk H
  clear H
  go_enter Tryz.func68, Tryz.ntmps68
  go_wp2_with (first
    | (go_at_call 93; (with_reducible refine (sig_ok w R p d bad a _ HR.out).mono ?_); rintro e w2 ⟨rfl, hr2, hm2⟩; have HR2 := Aside0.mk hr2; have HM2 := Aside0.mk hm2; have c10 : w2.cell? ⟨R, 10, none⟩ = some (.int .i64 d.thr) := hr2.at_ rfl; have f10 := Wd_thaw hr2.2.1 10; have HR3 := Aside0.mk (show RgAt (w2.setCell ⟨R, 10, none⟩ (.int .i64 (sbyte a))) R p { d with thr := sbyte a } bad _ from hr2.setX 10 _ rfl); have HM3 := Aside0.mk (show Mv w (w2.setCell ⟨R, 10, none⟩ (.int .i64 (sbyte a))) (fun k => k = R ∨ k = p) from Rm.set hm2); clear hr2 hm2)
    | (go_at_call 93; (with_reducible refine (sig_short _ R p { d with thr := sbyte a } bad HR3.out).mono ?_); rintro e w4 ⟨rfl, rfl⟩))
  exact ⟨rfl, rfl, HM3.out⟩
set_option maxHeartbeats 8000000 in
set_option maxRecDepth 100000 in
theorem getCommand_short2 (w : World) (R p : Nat) (d : Dg) (bad : Bool) (a b : UInt8) (H : RgAt w R p d bad [a, b]) : Calls Tryz.prog 68 #[.pointer (some ⟨R, 0, none⟩)] w fun e w' => e = short ∧ Mv w w' (fun k => k = R ∨ k = p) := by
  have HR := Aside0.mk H
  clear H
  go_enter Tryz.func68, Tryz.ntmps68
  go_wp2_with (first
    | (go_at_call 93; (with_reducible refine (sig_ok w R p d bad a _ HR.out).mono ?_); rintro e w2 ⟨rfl, hr2, hm2⟩; have HR2 := Aside0.mk hr2; have HM2 := Aside0.mk hm2; have c10 : w2.cell? ⟨R, 10, none⟩ = some (.int .i64 d.thr) := hr2.at_ rfl; have f10 := Wd_thaw hr2.2.1 10; have HR3 := Aside0.mk (show RgAt (w2.setCell ⟨R, 10, none⟩ (.int .i64 (sbyte a))) R p { d with thr := sbyte a } bad _ from hr2.setX 10 _ rfl); have HM3 := Aside0.mk (show Mv w (w2.setCell ⟨R, 10, none⟩ (.int .i64 (sbyte a))) (fun k => k = R ∨ k = p) from Rm.set hm2); clear hr2 hm2)
    | (go_at_call 93; (with_reducible refine (sig_ok _ R p { d with thr := sbyte a } bad b _ HR3.out).mono ?_); rintro e w4 ⟨rfl, hr4, hm4⟩; have HR4 := Aside0.mk hr4; have HM4 := Aside0.mk hm4; have c11 : w4.cell? ⟨R, 11, none⟩ = some (.int .i64 d.trn) := hr4.at_ rfl; have f11 := Wd_thaw hr4.2.1 11; have HR5 := Aside0.mk (show RgAt (w4.setCell ⟨R, 11, none⟩ (.int .i64 (sbyte b))) R p { d with thr := sbyte a, trn := sbyte b } bad _ from hr4.setX 11 _ rfl); have HM5 := Aside0.mk (show Mv w (w4.setCell ⟨R, 11, none⟩ (.int .i64 (sbyte b))) (fun k => k = R ∨ k = p) from (HM3.out.then (hm4.mono (fun k hk => Or.inr hk)) (fun k hk => Or.inl hk)).set 11 _ (Or.inl (Or.inl rfl))); clear hr4 hm4)
    | (go_at_call 91; (with_reducible refine (number_short _ R p 1 1 rfl { d with thr := sbyte a, trn := sbyte b } bad [] HR5.out (by decide)).mono ?_); rintro e w6 ⟨rfl, rfl⟩))
  exact ⟨rfl, rfl, HM5.out⟩
/-- What getting a field does to the datagram, the mark and what is left; none: too short. -/
def getF (f : Fld) (s : Dg × Bool × List UInt8) : Option (Dg × Bool × List UInt8) :=
  let d := s.1
  let bad := s.2.1
  let l := s.2.2
  match f with
  | .nonce => if 16 ≤ l.length then some ({ d with nonce := str (l.take 16) }, bad, l.drop 16) else none
  | .zeros => if 76 ≤ l.length then some (d, decide (Lib.trimB (l.take 76) 0 ≠ []), l.drop 76) else none
  | .epoch => if 8 ≤ l.length then some ({ d with epoch := num (l.take 8) }, bad, l.drop 8) else none
  | .cookie => if 32 ≤ l.length then some ({ d with cookie := str (l.take 32) }, bad, l.drop 32) else none
  | .name => match l with
    | [] => none
    | b :: t => if b.toNat ≤ t.length then some ({ d with name := str (t.take b.toNat) }, bad, t.drop b.toNat) else none
  | .tag => if 32 ≤ l.length then some ({ d with tag := str (l.take 32) }, bad, l.drop 32) else none
  | .session => if 8 ≤ l.length then some ({ d with session := num (l.take 8) }, bad, l.drop 8) else none
  | .player => match l with
    | [] => none
    | b :: t => some ({ d with player := (b.toNat : Int) }, bad, t)
  | .salt => if 16 ≤ l.length then some ({ d with salt := str (l.take 16) }, bad, l.drop 16) else none
  | .seq => if 8 ≤ l.length then some ({ d with seq := num (l.take 8) }, bad, l.drop 8) else none
  | .command => match l with
    | a :: b :: c :: t => some ({ d with thr := sbyte a, trn := sbyte b, fire := bit0 c, boost := bit1 c }, decide (3 < c.toNat), t)
    | _ => none
  | .data => if 32 ≤ l.length then some ({ d with data := str (l.take (l.length - 32)) }, bad, l.drop (l.length - 32)) else none
theorem get_ok (f : Fld) (w : World) (R p : Nat) (s s' : Dg × Bool × List UInt8) (hl : s.2.2.length < 4611686018427387904) (H : RgAt w R p s.1 s.2.1 s.2.2) (h : getF f s = some s') : Calls Tryz.prog f.get #[.pointer (some ⟨R, 0, none⟩)] w fun e w' => e = .returned (.tuple #[]) ∧ RgAt w' R p s'.1 s'.2.1 s'.2.2 ∧ Mv w w' (fun k => k = R ∨ k = p) := by
  obtain ⟨d, bad, l⟩ := s
  simp only at hl H
  cases f with
  | nonce => simp only [getF] at h; split at h; (cases h; exact getNonce_ok w R p d bad l H (by assumption)); cases h
  | zeros => simp only [getF] at h; split at h; (cases h; exact getZeros_ok w R p d bad l H (by assumption)); cases h
  | epoch => simp only [getF] at h; split at h; (cases h; exact getEpoch_ok w R p d bad l H (by assumption)); cases h
  | cookie => simp only [getF] at h; split at h; (cases h; exact getCookie_ok w R p d bad l H (by assumption)); cases h
  | name =>
    cases l with
    | nil => cases h
    | cons b t => simp only [getF] at h; split at h; (cases h; exact getName_ok w R p d bad b t H (by assumption)); cases h
  | tag => simp only [getF] at h; split at h; (cases h; exact getTag_ok w R p d bad l H (by assumption)); cases h
  | session => simp only [getF] at h; split at h; (cases h; exact getSession_ok w R p d bad l H (by assumption)); cases h
  | player =>
    cases l with
    | nil => cases h
    | cons b t => cases h; exact getPlayer_ok w R p d bad b t H
  | salt => simp only [getF] at h; split at h; (cases h; exact getSalt_ok w R p d bad l H (by assumption)); cases h
  | seq => simp only [getF] at h; split at h; (cases h; exact getSeq_ok w R p d bad l H (by assumption)); cases h
  | command =>
    match l, H, h with
    | a :: b :: c :: t, H, h => cases h; exact getCommand_ok w R p d bad a b c t H
  | data => simp only [getF] at h; split at h; (cases h; exact getData_ok w R p d bad l H (by assumption) hl); cases h
theorem get_short (f : Fld) (w : World) (R p : Nat) (s : Dg × Bool × List UInt8) (H : RgAt w R p s.1 s.2.1 s.2.2) (h : getF f s = none) : Calls Tryz.prog f.get #[.pointer (some ⟨R, 0, none⟩)] w fun e w' => e = short ∧ Mv w w' (fun k => k = R ∨ k = p) := by
  obtain ⟨d, bad, l⟩ := s
  simp only at H
  cases f with
  | nonce => simp only [getF] at h; split at h; cases h; exact getNonce_short w R p d bad l H (by omega)
  | zeros => simp only [getF] at h; split at h; cases h; exact getZeros_short w R p d bad l H (by omega)
  | epoch => simp only [getF] at h; split at h; cases h; exact getEpoch_short w R p d bad l H (by omega)
  | cookie => simp only [getF] at h; split at h; cases h; exact getCookie_short w R p d bad l H (by omega)
  | name =>
    cases l with
    | nil => exact getName_short w R p d bad [] H rfl
    | cons b t => simp only [getF] at h; split at h; cases h; exact getName_short2 w R p d bad b t H (by omega)
  | tag => simp only [getF] at h; split at h; cases h; exact getTag_short w R p d bad l H (by omega)
  | session => simp only [getF] at h; split at h; cases h; exact getSession_short w R p d bad l H (by omega)
  | player =>
    cases l with
    | nil => exact getPlayer_short w R p d bad [] H rfl
    | cons b t => cases h
  | salt => simp only [getF] at h; split at h; cases h; exact getSalt_short w R p d bad l H (by omega)
  | seq => simp only [getF] at h; split at h; cases h; exact getSeq_short w R p d bad l H (by omega)
  | command =>
    match l, H, h with
    | [], H, h => exact getCommand_short0 w R p d bad H
    | [a], H, h => exact getCommand_short1 w R p d bad a H
    | [a, b], H, h => exact getCommand_short2 w R p d bad a b H
  | data => simp only [getF] at h; split at h; cases h; exact getData_short w R p d bad l H (by omega)
end Go.Proofs.YtniabkphbnimaaaGreatDoor.Sh
namespace Go.Proofs.YtniabkphbnimaaaGreatDoor.Sh
open Go Go.RowKit Go.Maps Go.Proofs.YtniabkphbnimaaaGreatDoorW.PrintWords Go.Proofs.YtniabkphbnimaaaGreatDoorW.PrintLast Go.Proofs.YtniabkphbnimaaaGreatDoor.Bs
/-- What putting a field does to the mark and to the bytes. -/
def putF (d : Dg) (f : Fld) (s : Bool × Option (List UInt8)) : Bool × Option (List UInt8) :=
  match f with
  | .nonce => (s.1 || decide (d.nonce.size ≠ 16), s.2.map (· ++ bl d.nonce))
  | .zeros => (s.1, s.2.map (· ++ List.replicate 76 0))
  | .epoch => (s.1, s.2.map (· ++ len8 d.epoch))
  | .cookie => (s.1 || decide (d.cookie.size ≠ 32), s.2.map (· ++ bl d.cookie))
  | .name => (s.1, txt s.2 (bl d.name))
  | .tag => (s.1 || decide (d.tag.size ≠ 32), s.2.map (· ++ bl d.tag))
  | .session => (s.1, s.2.map (· ++ len8 d.session))
  | .player => (s.1 || decide (d.player < 0), one s.2 d.player)
  | .salt => (s.1 || decide (d.salt.size ≠ 16), s.2.map (· ++ bl d.salt))
  | .seq => (s.1, s.2.map (· ++ len8 d.seq))
  | .command => (s.1, (sgn (sgn s.2 d.thr) d.trn).map (· ++ [UInt8.ofNat (flags d.fire d.boost)]))
  | .data => (s.1, s.2.map (· ++ bl d.data))
theorem put_calls (f : Fld) (w : World) (W p q base : Nat) (d : Dg) (s : Bool × Option (List UInt8)) (m : Nat) (hm : m ≤ 29) (hd : d.ok) (H : WgAt w W p q base d s.1 s.2) (hr : Sz m s.2) :
    Calls Tryz.prog f.put #[.pointer (some ⟨W, 0, none⟩)] w fun e w' => e = .returned (.tuple #[]) ∧ WgAt w' W p q base d (putF d f s).1 (putF d f s).2 ∧ Gm w w' W p base := by
  have hm2 : m ≤ 32 := by omega
  cases f with
  | nonce => exact putNonce_calls w W p q base d s.1 s.2 m hm2 hd H hr
  | zeros => exact putZeros_calls w W p q base d s.1 s.2 m hm2 hd H hr
  | epoch => exact putEpoch_calls w W p q base d s.1 s.2 m hm2 hd H hr
  | cookie => exact putCookie_calls w W p q base d s.1 s.2 m hm2 hd H hr
  | name => exact putName_calls w W p q base d s.1 s.2 m hm2 hd H hr
  | tag => exact putTag_calls w W p q base d s.1 s.2 m hm2 hd H hr
  | session => exact putSession_calls w W p q base d s.1 s.2 m hm2 hd H hr
  | player => exact putPlayer_calls w W p q base d s.1 s.2 m hm2 hd H hr
  | salt => exact putSalt_calls w W p q base d s.1 s.2 m hm2 hd H hr
  | seq => exact putSeq_calls w W p q base d s.1 s.2 m hm2 hd H hr
  | command => exact putCommand_calls w W p q base d s.1 s.2 m hm hd H hr
  | data => exact putData_calls w W p q base d s.1 s.2 m hm2 hd H hr
theorem Sz.map {m : Nat} {r : Option (List UInt8)} {x : List UInt8} (h : Sz m r) (hx : x.length ≤ 2199023255552) : Sz (m + 1) (r.map (· ++ x)) := by
  intro l e
  cases r with
  | none => cases e
  | some l0 =>
    cases e
    have := h l0 rfl
    rw [List.length_append]
    omega
theorem Sz.none (m : Nat) : Sz m none := fun l e => by cases e
theorem Sz.more {m n : Nat} {r : Option (List UInt8)} (h : Sz m r) (hn : m ≤ n) : Sz n r := fun l e => Nat.le_trans (h l e) (Nat.mul_le_mul_right _ hn)
theorem putF_sz (d : Dg) (hd : d.ok) (f : Fld) (s : Bool × Option (List UInt8)) (m : Nat) (h : Sz m s.2) : Sz (m + 3) (putF d f s).2 := by
  unfold Dg.ok at hd
  cases f with
  | nonce => exact (h.map (by rw [bl_len]; omega)).more (by omega)
  | zeros => exact (h.map (by rw [List.length_replicate]; omega)).more (by omega)
  | epoch => exact (h.map (by show 8 ≤ _; omega)).more (by omega)
  | cookie => exact (h.map (by rw [bl_len]; omega)).more (by omega)
  | name =>
    show Sz (m + 3) (txt s.2 (bl d.name))
    unfold txt
    split
    · exact (h.map (by rw [List.length_cons, bl_len]; omega)).more (by omega)
    · exact Sz.none _
  | tag => exact (h.map (by rw [bl_len]; omega)).more (by omega)
  | session => exact (h.map (by show 8 ≤ _; omega)).more (by omega)
  | player =>
    show Sz (m + 3) (one s.2 d.player)
    unfold one
    split
    · exact (h.map (by show 1 ≤ _; omega)).more (by omega)
    · exact Sz.none _
  | salt => exact (h.map (by rw [bl_len]; omega)).more (by omega)
  | seq => exact (h.map (by show 8 ≤ _; omega)).more (by omega)
  | command => exact (((sgn_le (sgn_le h)).map (by show 1 ≤ _; omega)).more (by omega))
  | data => exact (h.map (by rw [bl_len]; omega)).more (by omega)
def putAll (d : Dg) (fs : List Fld) (s : Bool × Option (List UInt8)) : Bool × Option (List UInt8) := fs.foldl (fun s f => putF d f s) s
theorem putAll_sz (d : Dg) (hd : d.ok) : ∀ (fs : List Fld) (s : Bool × Option (List UInt8)) (m : Nat), Sz m s.2 → Sz (m + 3 * fs.length) (putAll d fs s).2
  | [], s, m, h => h
  | f :: fs, s, m, h => by
    have := putAll_sz d hd fs (putF d f s) (m + 3) (putF_sz d hd f s m h)
    rw [show m + 3 * (f :: fs).length = m + 3 + 3 * fs.length by simp; omega]
    exact this
theorem putAll_snoc (d : Dg) (fs : List Fld) (s : Bool × Option (List UInt8)) (i : Nat) (f : Fld) (h : fs[i]? = some f) : putAll d (fs.take (i + 1)) s = putF d f (putAll d (fs.take i) s) := by
  unfold putAll
  rw [List.take_add_one, h, List.foldl_append]
  rfl
theorem fields_len (k : Int) : (fieldsOf k).length ≤ 5 := by
  unfold fieldsOf
  repeat' split
  all_goals decide
/-- What Encode answers. -/
def enc (d : Dg) : ByteArray × Int :=
  if 1 ≤ d.kind ∧ d.kind ≤ 7 then
    let r := putAll d (fieldsOf d.kind) (false, some ([74, 48, 49] ++ [UInt8.ofNat d.kind.toNat]))
    if r.1 = true ∨ r.2.isNone = true then (⟨#[]⟩, 73)
    else if 1200 < (r.2.getD []).length then (⟨#[]⟩, 72) else (str (r.2.getD []), 0)
  else (⟨#[]⟩, 71)
theorem known_calls (k : Int) (w : World) : Calls Tryz.prog 26 #[.int .i64 k] w fun e w' => e = .returned (.bool (decide (1 ≤ k ∧ k ≤ 7))) ∧ w' = w := by
  by_cases h1 : 1 ≤ k
  · have o1 : decide (1 ≤ k) = true := decide_eq_true h1
    have e : decide (1 ≤ k ∧ k ≤ 7) = decide (k ≤ 7) := by simp [h1]
    rw [e]
    go_enter Tryz.func26, Tryz.ntmps26
    go_wp2
    go_ret
    exact ⟨rfl, rfl⟩
  · have o1 : decide (1 ≤ k) = false := decide_eq_false h1
    have e : decide (1 ≤ k ∧ k ≤ 7) = false := by simp [h1]
    rw [e]
    go_enter Tryz.func26, Tryz.ntmps26
    go_wp2
    go_ret
    exact ⟨rfl, rfl⟩
end Go.Proofs.YtniabkphbnimaaaGreatDoor.Sh
namespace Go.Proofs.YtniabkphbnimaaaGreatDoor.Bs
open Go Go.RowKit Go.Maps Go.Proofs.YtniabkphbnimaaaGreatDoorW.PrintWords Go.Proofs.YtniabkphbnimaaaGreatDoorW.PrintLast
section
variable {P : Program} {ops : Array Oper} {rest : List Oper} {o : Oper} {a : Act} {w : World} {Q : Exit → Act → World → Prop}
theorem wp_box_v {K : Act → World → Prop} (ty : TypeId) (x : Operand) (ho : o.op = .box ty x) (cs : List Value) (hx : a.eval x = .agg cs.toArray) (hd : (P.underlying ty).isSome = true)
    (h : ∀ g w', Hid (g = w.heap.size) → Hid (w'.heap[g]? = some (.cells cs.toArray ty (0, 0))) → Hid (Below w.heap.size w w') → Hid (w'.heap.size = g + 1) → K (a.put o.dst (.pointer (some ⟨g, 0, none⟩))) w') : Oper.wp P o a w K Q := by
  unfold Oper.wp execOp
  simp [ho, hx, Instr.box, newVar, newRow, Value.cells, Sem.run_bind]
  exact h _ _ (show _ = _ from rfl) (Go.MapKept.heap_alloc w _).1 (below_alloc (Below.refl _ _) _) (by show (w.heap.push _).size = _; simp)
theorem wpList_box_v (hgd : o.guard = none) (ty : TypeId) (x : Operand) (ho : o.op = .box ty x) (cs : List Value) (hx : a.eval x = .agg cs.toArray) (hd : (P.underlying ty).isSome = true)
    (h : ∀ g w', Hid (g = w.heap.size) → Hid (w'.heap[g]? = some (.cells cs.toArray ty (0, 0))) → Hid (Below w.heap.size w w') → Hid (w'.heap.size = g + 1) → wpList P ops Q rest (a.put o.dst (.pointer (some ⟨g, 0, none⟩))) w') : wpList P ops Q (o :: rest) a w :=
  wpList_plain hgd fun K hK => wp_box_v ty x ho cs hx hd (fun g w' h1 h2 h3 h4 => hK _ _ (h g w' h1 h2 h3 h4))
theorem wp_load_agg {K : Act → World → Prop} (ty : TypeId) (x : Operand) (ho : o.op = .load ty x) (g off : Nat) (hx : a.eval x = .pointer (some ⟨g, off, none⟩)) (cs : List Value) (hc : ∀ j v, cs[j]? = some v → w.cell? ⟨g, off + j, none⟩ = some v) (d : TypeDesc) (hu : P.underlying ty = some d) (hd : (match d with | .struct _ | .array _ _ => true | _ => false) = true) (hi : (P.info? ty).map (·.size) = some cs.length)
    (h : K (a.put o.dst (.agg cs.toArray)) w) : Oper.wp P o a w K Q := by
  have hl : (loadCells ⟨g, off, none⟩ cs.length).run P w = .ok cs.toArray w :=
    run_loadCells_list (P := P) w ⟨g, off, none⟩ cs (fun j v hv => by
      have hadd : (⟨g, off, none⟩ : Addr).add j = ⟨g, off + j, none⟩ := by unfold Addr.add; split <;> simp_all
      rw [hadd]
      exact hc j v hv)
  have hrun : (loadVar ty ⟨g, off, none⟩).run P w = .ok (.agg cs.toArray) w := by
    cases hq : P.info? ty with
    | none => simp [hq] at hi
    | some i =>
      have hs : i.size = cs.length := by simpa [hq] using hi
      have hagg : (isAgg ty).run P w = .ok true w := by
        unfold isAgg
        rw [Sem.run_bind, run_underlying hu w]
        cases d <;> simp_all
      simp [loadVar, Sem.run_bind, hagg, sizeOf, typeInfo, hq, hs, hl]
  unfold Oper.wp execOp
  simp only [ho, hx, Instr.loadAt, Instr.sureAddr, Sem.run_bind, Sem.run_pure, Result.andThen_ok, hrun]
  exact h
/-- A call of a function value in a plain region. -/
theorem goesLv_ (N : Option Tmp) (hd : o.dst = N) (hg : o.guard = none) {f : FuncId} {x : Operand} {av : Array Operand} {ts : Array TypeId} {first caps : Array Value} (hf : ∃ fn : Func, P.funcs[f]? = some fn ∧ (fn.name == "runtime.NumGoroutine") = false ∧ fn.body.isSome = true) (args : Array Value)
    (hop : o.op = .call { callee := .value x, args := av, argTypes := ts }) (hx : a.eval x = .func (.func f) first caps) (hargs : first ++ av.map a.eval ++ caps = args)
    (h : Calls P f args w fun e w' => ∃ v, e = .returned v ∧ wpList P ops Q rest (a.put N v) w') : wpList P ops Q (o :: rest) a w := by
  obtain ⟨fn, h1, h2, h3⟩ := hf
  refine wpList_plain hg fun K hK => ?_
  have he := enters_ h1 h2 h3 args w
  have hrun : (execOp a.eval o).run P w = .ok (.enter f args) w := by
    unfold execOp
    simp [hop, resolve, Deferred.ofValue, invoke, hx, ← hargs] at he ⊢
    simp [he]
  subst hd
  unfold Oper.wp
  rw [hrun, Oper.upon_enter]
  refine h.mono fun e w'' hh => ?_
  obtain ⟨v, rfl, hk⟩ := hh
  exact hK _ _ hk
end
end Go.Proofs.YtniabkphbnimaaaGreatDoor.Bs
namespace Go.Proofs.YtniabkphbnimaaaGreatDoor.Sh
open Go Go.RowKit Go.Maps Go.Proofs.YtniabkphbnimaaaGreatDoorW.PrintWords Go.Proofs.YtniabkphbnimaaaGreatDoorW.PrintLast Go.Proofs.YtniabkphbnimaaaGreatDoor.Bs
theorem put_ok (f : Fld) : ∃ fn : Func, Tryz.prog.funcs[f.put]? = some fn ∧ (fn.name == "runtime.NumGoroutine") = false ∧ fn.body.isSome = true := by
  cases f with
  | nonce => exact ⟨_, Tryz.func49, by kernel_rfl, by kernel_rfl⟩
  | zeros => exact ⟨_, Tryz.func51, by kernel_rfl, by kernel_rfl⟩
  | epoch => exact ⟨_, Tryz.func53, by kernel_rfl, by kernel_rfl⟩
  | cookie => exact ⟨_, Tryz.func55, by kernel_rfl, by kernel_rfl⟩
  | name => exact ⟨_, Tryz.func57, by kernel_rfl, by kernel_rfl⟩
  | tag => exact ⟨_, Tryz.func59, by kernel_rfl, by kernel_rfl⟩
  | session => exact ⟨_, Tryz.func61, by kernel_rfl, by kernel_rfl⟩
  | player => exact ⟨_, Tryz.func63, by kernel_rfl, by kernel_rfl⟩
  | salt => exact ⟨_, Tryz.func65, by kernel_rfl, by kernel_rfl⟩
  | seq => exact ⟨_, Tryz.func67, by kernel_rfl, by kernel_rfl⟩
  | command => exact ⟨_, Tryz.func69, by kernel_rfl, by kernel_rfl⟩
  | data => exact ⟨_, Tryz.func71, by kernel_rfl, by kernel_rfl⟩
theorem one_cells {d : Dg} {v : Value} (hv : v ∈ d.cells) : v.oneCell' = true := by
  unfold Dg.cells at hv
  simp only [List.mem_cons, List.not_mem_nil, or_false] at hv
  rcases hv with rfl | rfl | rfl | rfl | rfl | rfl | rfl | rfl | rfl | rfl | rfl | rfl | rfl | rfl | rfl <;> rfl
def T_16_3 : Bool × List (List Nat × List Nat) := (true, [([], []), ([], []), ([0, 1], [0, 1]), ([2], [2]), ([3, 0, 0, 1, 2, 3], [3])])
def B_16_3 : List Nat := [0, 0, 3, 7, 15]
theorem tab_f16_3 : rtab .any (opsOf Tryz.f16 3) = T_16_3 := by kernel_rfl
theorem bits_f16_3 : waitsOk T_16_3.2 B_16_3 = true := by kernel_rfl
def T_16_5 : Bool × List (List Nat × List Nat) := (true, [([], []), ([0], [0]), ([1], [1]), ([2], [2]), ([], []), ([4], [4]), ([5], [5]), ([3, 6], [3, 6])])
def B_16_5 : List Nat := [0, 1, 3, 7, 0, 16, 48, 127]
theorem tab_f16_5 : rtab .any (opsOf Tryz.f16 5) = T_16_5 := by kernel_rfl
theorem bits_f16_5 : waitsOk T_16_5.2 B_16_5 = true := by kernel_rfl
theorem WgAt.fresh {w w' : World} {W p q base : Nat} {d : Dg} {bad : Bool} {r : Option (List UInt8)} (H : WgAt w W p q base d bad r) (hm : Mv w w' (fun k => w.heap.size ≤ k)) : WgAt w' W p q base d bad r :=
  ⟨H.1, hm.blk H.2.1 (by have := blk_lt H.2.1; omega), H.2.2.mv hm (fun k hk => Or.inl hk)⟩
theorem one_vals {f : Fld} {v : Value} (hv : v ∈ f.vals) : v.oneCell' = true := by
  unfold Fld.vals at hv
  simp only [List.mem_cons, List.not_mem_nil, or_false] at hv
  rcases hv with rfl | rfl <;> rfl
theorem vals_at (fs : List Fld) (i : Nat) (f : Fld) (h : fs[i]? = some f) : (fs.flatMap Fld.vals)[2 * i]? = some (.func (.func f.get) #[] #[]) ∧ (fs.flatMap Fld.vals)[2 * i + 1]? = some (.func (.func f.put) #[] #[]) := by
  induction fs generalizing i with
  | nil => cases h
  | cons g fs ih =>
    cases i with
    | zero => cases h; exact ⟨rfl, rfl⟩
    | succ i =>
      have := ih i h
      rw [show 2 * (i + 1) = 2 * i + 2 by omega, show 2 * i + 2 + 1 = (2 * i + 1) + 2 by omega]
      exact this
set_option maxHeartbeats 8000000 in
set_option maxRecDepth 100000 in
theorem encode_calls (d : Dg) (hd : d.ok) (hk : -9223372036854775808 ≤ d.kind ∧ d.kind ≤ 9223372036854775807) (w : World) : Calls Tryz.prog 16 #[.agg d.cells.toArray] w fun e w' => e = .returned (.tuple #[.string (enc d).1, .int .i64 (enc d).2]) ∧ Below w.heap.size w w' := by
  have HDO := Aside0.mk hd
  have HKK := Aside0.mk hk
  clear hd hk
  by_cases h17 : 1 ≤ d.kind ∧ d.kind ≤ 7
  · have H17 := Aside0.mk h17
    have KC := Aside0.mk (show ∀ w, Calls Tryz.prog 26 #[.int .i64 d.kind] w fun e w' => e = .returned (.bool true) ∧ w' = w from fun w => by
      have := known_calls d.kind w
      rw [decide_eq_true h17] at this
      exact this)
    clear h17
    go_enter Tryz.func16, Tryz.ntmps16
    go_upto_region 3 with (first
      | (refine wpList_box_v rfl 27 _ rfl d.cells rfl (by kernel_rfl) ?_; intro D w1 eD hD1 hb1 hz1; have c0 : w1.cell? ⟨D, 0, none⟩ = some (.int .i64 d.kind) := cell_of hD1.out rfl)
      | (go_at_call 26; (with_reducible refine (KC.out w1).mono ?_); rintro e w0 ⟨rfl, rfl⟩))
    rename World => w1
    have HD1 := Aside0.mk (show w1.drew.heap[D]? = some (.cells d.cells.toArray 27 (0, 0)) from hD1.out)
    have HB1 := Aside0.mk (show Below w.heap.size w w1.drew from below_drew1 hb1.out)
    have HDL := Aside0.mk (show D < w1.drew.heap.size from blk_lt HD1.out)
    have HDD := Aside0.mk (show w.heap.size ≤ D from Nat.le_of_eq eD.out.symm)
    clear hD1 hb1 hz1 eD
    go_cut [4] (fun v wc => ∃ W p q, v = .pointer (some ⟨W, 0, none⟩) ∧ WgAt wc W p q (W + 1) d false (some []) ∧ wc.heap[D]? = some (.cells d.cells.toArray 27 (0, 0)) ∧ (D < p ∧ D < W ∧ D ≠ q) ∧ Below w.heap.size w wc)
    case first =>
      refine start_ (n := 5) (S := fun w' => True) (ds := []) #[false, false, false, false, false] (by kernel_rfl) rfl rfl trivial (fun hHeld => ?_)
      refine with_tabW tab_f16_3 bits_f16_3 (fun HT_ HW_ => ?_)
      refine two_ (i := 0) (j := 1) (Ni := some 13) (Nj := some 14) #[true, false, false, false, false] #[false, true, false, false, false] rfl rfl rfl rfl (two_of HT_.out (by kernel_rfl)) (by decide) (by decide) (fun K hK => ?_) (fun K hK => ?_)
      · refine goes_ Tryz.func38 (by kernel_rfl) rfl #[] (by rfl) rfl rfl (by (try simp only [List.map_toArray, List.map_cons, List.map_nil]); first | done | rfl) ?_
        with_reducible refine (newW_calls _).mono ?_
        rintro e w2 ⟨p, q, rfl, hp1, hq1, hp2, hq2, hwr, hb2⟩
        refine ⟨_, rfl, ?_⟩
        have HP := Aside0.mk (show w1.drew.heap.size ≤ p ∧ w1.drew.heap.size ≤ q ∧ p < w2.heap.size ∧ q < w2.heap.size from ⟨hp1, hq1, hp2, hq2⟩)
        have HWR := Aside0.mk hwr
        have HB2 := Aside0.mk hb2
        have n0_ := Aside0.mk ((hb2.block D (blk_lt HD1.out)).trans HD1.out)
        clear HD1 hp1 hq1 hp2 hq2 hwr hb2
        have HD1 := n0_
        clear n0_
        refine hK.out _ _ trivial (fun hHeld => ?_)
        clear hK K
        refine norm_ (a' := ?_) ?_ ?_
        rotate_left
        · show Act.put _ (some 13) _ = _
          simp only [pS]
          rfl
        refine one_ (i := 1) (N := some 14) #[true, true, false, false, false] rfl rfl (one_of HT_.out (by kernel_rfl)) (by decide) (fun K hK => ?_)
        refine step_of_wp rfl (wp_load_agg 27 _ rfl D 0 rfl [.int .i64 d.kind, .string d.nonce, .int .u64 (d.epoch : Int), .string d.cookie, .string d.name, .int .u64 (d.session : Int), .int .i64 d.player, .string d.salt, .int .u64 (d.seq : Int), .int .i64 d.thr, .int .i64 d.trn, .bool d.fire, .bool d.boost, .string d.data, .string d.tag] (load_all HD1.out) _ Tryz.underlying27 rfl (by kernel_rfl) ?_)
        refine hK.out _ _ trivial (fun hHeld => ?_)
        clear hK K
        refine norm_ (a' := ?_) ?_ ?_
        rotate_left
        · show Act.put _ (some 14) _ = _
          simp only [pS]
          rfl
        refine pure_ (i := 2) (N := some 15) (v := ?_) (a' := ?_) #[true, true, true, false, false] rfl rfl (any_of HT_.out (by kernel_rfl)) (fun _ _ _ h => h) (Or.inl ⟨by rfl, ?_⟩) ?_ ?_
        rotate_left
        · intro w'
          go_simp
          with_reducible rfl
        rotate_left
        · simp only [pS]
          rfl
        refine one_ (i := 3) (N := some 16) #[true, true, true, true, false] rfl rfl (one_of HT_.out (by kernel_rfl)) (by decide) (fun K hK => ?_)
        refine step_of_wp rfl (wp_box_v 69 _ rfl (d.row p false) (by rfl) (by kernel_rfl) ?_)
        intro W w3 eW hW3 hb3 hz3
        refine hK.out _ _ trivial (fun hHeld => ?_)
        clear hK K
        refine norm_ (a' := ?_) ?_ ?_
        rotate_left
        · show Act.put _ (some 16) _ = _
          simp only [pS]
          rfl
        refine pure_ (i := 4) (N := some 4) (v := ?_) (a' := ?_) #[true, true, true, true, true] rfl rfl (any_of HT_.out (by kernel_rfl)) (fun _ _ _ h => h) (Or.inl ⟨by rfl, ?_⟩) ?_ ?_
        rotate_left
        · intro w'
          go_simp
          with_reducible rfl
        rotate_left
        · simp only [pS]
          rfl
        refine done_ (done_of HT_.out (by kernel_rfl)) ?_
        clear hHeld HT_ HW_
        (try go_wp2)
        go_meet
        have hsz := HP.out
        have h1_ := eW.out
        have h2_ := blk_lt HD1.out
        have h3_ := hz3.out
        have h4_ := HDL.out
        refine ⟨W, p, q, rfl, ⟨⟨by omega, by omega, by omega⟩, hW3.out, HWR.out _ _ hb3.out (by omega) (by omega)⟩, (hb3.out.block D h2_).trans HD1.out, by omega, ?_⟩
        exact HB1.out.trans ((HB2.out.trans (hb3.out.mono HB2.out.size)).mono HB1.out.size)
      · refine step_of_wp rfl (wp_load_agg 27 _ rfl D 0 rfl [.int .i64 d.kind, .string d.nonce, .int .u64 (d.epoch : Int), .string d.cookie, .string d.name, .int .u64 (d.session : Int), .int .i64 d.player, .string d.salt, .int .u64 (d.seq : Int), .int .i64 d.thr, .int .i64 d.trn, .bool d.fire, .bool d.boost, .string d.data, .string d.tag] (load_all HD1.out) _ Tryz.underlying27 rfl (by kernel_rfl) ?_)
        refine hK.out _ _ trivial (fun hHeld => ?_)
        clear hK K
        refine norm_ (a' := ?_) ?_ ?_
        rotate_left
        · show Act.put _ (some 14) _ = _
          simp only [pS]
          rfl
        refine one_ (i := 0) (N := some 13) #[true, true, false, false, false] rfl rfl (one_of HT_.out (by kernel_rfl)) (by decide) (fun K hK => ?_)
        refine goes_ Tryz.func38 (by kernel_rfl) rfl #[] (by rfl) rfl rfl (by (try simp only [List.map_toArray, List.map_cons, List.map_nil]); first | done | rfl) ?_
        with_reducible refine (newW_calls _).mono ?_
        rintro e w2 ⟨p, q, rfl, hp1, hq1, hp2, hq2, hwr, hb2⟩
        refine ⟨_, rfl, ?_⟩
        have HP := Aside0.mk (show w1.drew.heap.size ≤ p ∧ w1.drew.heap.size ≤ q ∧ p < w2.heap.size ∧ q < w2.heap.size from ⟨hp1, hq1, hp2, hq2⟩)
        have HWR := Aside0.mk hwr
        have HB2 := Aside0.mk hb2
        have n0_ := Aside0.mk ((hb2.block D (blk_lt HD1.out)).trans HD1.out)
        clear HD1 hp1 hq1 hp2 hq2 hwr hb2
        have HD1 := n0_
        clear n0_
        refine hK.out _ _ trivial (fun hHeld => ?_)
        clear hK K
        refine norm_ (a' := ?_) ?_ ?_
        rotate_left
        · show Act.put _ (some 13) _ = _
          simp only [pS]
          rfl
        refine pure_ (i := 2) (N := some 15) (v := ?_) (a' := ?_) #[true, true, true, false, false] rfl rfl (any_of HT_.out (by kernel_rfl)) (fun _ _ _ h => h) (Or.inl ⟨by rfl, ?_⟩) ?_ ?_
        rotate_left
        · intro w'
          go_simp
          with_reducible rfl
        rotate_left
        · simp only [pS]
          rfl
        refine one_ (i := 3) (N := some 16) #[true, true, true, true, false] rfl rfl (one_of HT_.out (by kernel_rfl)) (by decide) (fun K hK => ?_)
        refine step_of_wp rfl (wp_box_v 69 _ rfl (d.row p false) (by rfl) (by kernel_rfl) ?_)
        intro W w3 eW hW3 hb3 hz3
        refine hK.out _ _ trivial (fun hHeld => ?_)
        clear hK K
        refine norm_ (a' := ?_) ?_ ?_
        rotate_left
        · show Act.put _ (some 16) _ = _
          simp only [pS]
          rfl
        refine pure_ (i := 4) (N := some 4) (v := ?_) (a' := ?_) #[true, true, true, true, true] rfl rfl (any_of HT_.out (by kernel_rfl)) (fun _ _ _ h => h) (Or.inl ⟨by rfl, ?_⟩) ?_ ?_
        rotate_left
        · intro w'
          go_simp
          with_reducible rfl
        rotate_left
        · simp only [pS]
          rfl
        refine done_ (done_of HT_.out (by kernel_rfl)) ?_
        clear hHeld HT_ HW_
        (try go_wp2)
        go_meet
        have hsz := HP.out
        have h1_ := eW.out
        have h2_ := blk_lt HD1.out
        have h3_ := hz3.out
        have h4_ := HDL.out
        refine ⟨W, p, q, rfl, ⟨⟨by omega, by omega, by omega⟩, hW3.out, HWR.out _ _ hb3.out (by omega) (by omega)⟩, (hb3.out.block D h2_).trans HD1.out, by omega, ?_⟩
        exact HB1.out.trans ((HB2.out.trans (hb3.out.mono HB2.out.size)).mono HB1.out.size)
    case rest =>
      obtain ⟨W, p, q, rfl, hG, hD, hDs, hB⟩ := hcut
      have HG := Aside0.mk hG
      have HD2 := Aside0.mk hD
      have HDS := Aside0.mk hDs
      have HB := Aside0.mk hB
      have c0 : wc.cell? ⟨W, 0, none⟩ = some (.pointer (some ⟨p, 0, none⟩)) := hG.at_ rfl
      clear hG hD hDs hB HB1 HD1 HDL
      rename World => w3
      go_upto_region 5 with (go_at_call 39; (with_reducible refine (bytes_calls _ p q (W + 1) _ ⟨#[74, 48, 49]⟩ HG.out.wr ?hn).mono ?_); (case hn => intro l e; cases e; decide); rintro e w4 ⟨rfl, hw4, hm4⟩; have G4 := Aside0.mk (HG.out.mvW hw4 hm4); have M4 := Aside0.mk (Gm.of (W := W) hm4); have D4 := Aside0.mk (show w4.heap[D]? = _ from Pm.blk hm4 HD2.out (by have := HDS.out; omega) (by decide)); clear hw4 hm4)
      have HN4 := Aside0.mk (show ∀ l, (some ([] : List UInt8)).map (· ++ bl ⟨#[74, 48, 49]⟩) = some l → l.length + 8 ≤ 140737488355328 from fun l e => by cases e; decide)
      have k0 : w4.cell? ⟨W, 0, none⟩ = some (.pointer (some ⟨p, 0, none⟩)) := G4.out.at_ rfl
      have k1 : w4.cell? ⟨D, 0, none⟩ = some (.int .i64 d.kind) := cell_of D4.out rfl
      clear c0
      go_wp2
      refine start_ (n := 8) (S := fun w' => w'.cell? ⟨W, 0, none⟩ = some (.pointer (some ⟨p, 0, none⟩)) ∧ w'.cell? ⟨D, 0, none⟩ = some (.int .i64 d.kind)) (ds := []) #[false, false, false, false, false, false, false, false] (by kernel_rfl) rfl rfl ⟨k0, k1⟩ (fun hHeld => ?_)
      refine with_tabW tab_f16_5 bits_f16_5 (fun HT_ HW_ => ?_)
      refine pure_ (i := 0) (N := some 22) (v := ?_) (a' := ?_) #[true, false, false, false, false, false, false, false] rfl rfl (any_of HT_.out (by kernel_rfl)) (fun _ _ _ h => h) (Or.inl ⟨by rfl, ?_⟩) ?_ ?_
      rotate_left
      · intro w'
        go_simp
        with_reducible rfl
      rotate_left
      · simp only [pS]
        rfl
      refine pure_ (i := 1) (N := some 23) (v := ?_) (a' := ?_) #[true, true, false, false, false, false, false, false] rfl rfl (any_of HT_.out (by kernel_rfl)) (fun _ _ _ h => h) (Or.inl ⟨by rfl, ?_⟩) ?_ ?_
      rotate_left
      · intro w'
        go_simp
        with_reducible rfl
      rotate_left
      · simp only [pS]
        rfl
      refine pure_ (i := 2) (N := some 24) (v := ?_) (a' := ?_) #[true, true, true, false, false, false, false, false] rfl rfl (any_of HT_.out (by kernel_rfl)) (fun _ _ _ h => h) (Or.inl ⟨by rfl, ?_⟩) ?_ ?_
      rotate_left
      · intro w'
        go_simp
        with_reducible rfl
      rotate_left
      · simp only [pS]
        rfl
      refine take_ (i := 3) (N := some 25) (v := ?_) (a' := ?_) #[true, true, true, true, false, false, false, false] rfl rfl (take_ofW HT_.out HW_.out (by kernel_rfl)) (fun _ _ _ h => h) (Or.inl ⟨by rfl, ?_⟩) hHeld ?_ ?_
      rotate_left
      · rintro w' ⟨s0, s1⟩
        go_simp
        with_reducible rfl
      rotate_left
      · simp only [pS]
        rfl
      refine pure_ (i := 4) (N := some 26) (v := ?_) (a' := ?_) #[true, true, true, true, true, false, false, false] rfl rfl (any_of HT_.out (by kernel_rfl)) (fun _ _ _ h => h) (Or.inl ⟨by rfl, ?_⟩) ?_ ?_
      rotate_left
      · intro w'
        go_simp
        with_reducible rfl
      rotate_left
      · simp only [pS]
        rfl
      refine take_ (i := 5) (N := some 27) (v := ?_) (a' := ?_) #[true, true, true, true, true, true, false, false] rfl rfl (take_ofW HT_.out HW_.out (by kernel_rfl)) (fun _ _ _ h => h) (Or.inl ⟨by rfl, ?_⟩) hHeld ?_ ?_
      rotate_left
      · rintro w' ⟨s0, s1⟩
        go_simp
        with_reducible rfl
      rotate_left
      · simp only [pS]
        rfl
      refine pure_ (i := 6) (N := some 28) (v := ?_) (a' := ?_) #[true, true, true, true, true, true, true, false] rfl rfl (any_of HT_.out (by kernel_rfl)) (fun _ _ _ h => h) (Or.inl ⟨by rfl, ?_⟩) ?_ ?_
      rotate_left
      · intro w'
        go_simp
        with_reducible rfl
      rotate_left
      · simp only [pS]
        rfl
      refine one_ (i := 7) (N := some 29) #[true, true, true, true, true, true, true, true] rfl rfl (one_of HT_.out (by kernel_rfl)) (by decide) (fun K hK => ?_)
      refine goes_ Tryz.func40 (by kernel_rfl) rfl #[.pointer (some ⟨p, 0, none⟩), .int .u64 (IntKind.u64.wrap d.kind), .int .i64 1] (by rfl) rfl rfl (by (try simp only [List.map_toArray, List.map_cons, List.map_nil]); first | done | rfl) ?_
      with_reducible refine (one_calls _ p q (W + 1) _ d.kind HKK.out G4.out.drew.wr HN4.out).mono ?_
      rintro e w5 ⟨rfl, hw5, hm5⟩
      refine ⟨_, rfl, ?_⟩
      have G5 := Aside0.mk (G4.out.drew.mvW hw5 hm5)
      have M5 := Aside0.mk (Gm.then M4.out.drew (Gm.of hm5))
      have D5 := Aside0.mk (show w5.heap[D]? = _ from Pm.blk hm5 (show w4.drew.heap[D]? = _ from D4.out) (by have := HDS.out; omega) (by decide))
      refine hK.out _ _ ⟨G5.out.at_ rfl, cell_of D5.out rfl⟩ (fun hHeld => ?_)
      clear hK K
      refine norm_ (a' := ?_) ?_ ?_
      rotate_left
      · show Act.put _ (some 29) _ = _
        simp only [pS]
        rfl
      refine done_ (done_of HT_.out (by kernel_rfl)) ?_
      have k1b : w5.cell? ⟨D, 0, none⟩ = some (.int .i64 d.kind) := cell_of D5.out rfl
      clear hHeld k0 k1
      have hone := Aside0.mk (show one ((some ([] : List UInt8)).map (· ++ bl ⟨#[74, 48, 49]⟩)) d.kind = some ([74, 48, 49] ++ [UInt8.ofNat d.kind.toNat]) by unfold one; rw [if_pos (by have := H17.out; omega)]; rfl)
      go_wp2_with (go_at_call 29; (with_reducible refine (fields_calls d.kind w5).mono ?_); rintro e w6 ⟨b, rfl, hb6, hrow6, hbw6⟩)
      obtain ⟨fs, efs⟩ : ∃ fs, fs = fieldsOf d.kind := ⟨_, rfl⟩
      obtain ⟨n, en⟩ : ∃ n, n = fs.length := ⟨_, rfl⟩
      rw [← efs] at hrow6
      rw [← efs, ← en]
      obtain ⟨s0, es0⟩ : ∃ s0 : Bool × Option (List UInt8), s0 = (false, some ([74, 48, 49] ++ [UInt8.ofNat d.kind.toNat])) := ⟨_, rfl⟩
      have HROW := Aside0.mk hrow6
      have hG5w := G5.out.wr
      have HBN := Aside0.mk (show b ≠ W ∧ b ≠ p ∧ n ≤ 5 ∧ fs.length = n from by have h1 := blk_lt G5.out.2.1; have h2 := hG5w.1; have h3 := hG5w.2.2.2.1; exact ⟨by omega, by omega, by rw [en, efs]; exact fields_len _, en.symm⟩)
      have G6 := Aside0.mk (show WgAt w6 W p q (W + 1) d s0.1 s0.2 from by rw [es0]; have h := G5.out.below hbw6; rw [hone.out] at h; exact h)
      have SZ0 := Aside0.mk (show Sz 1 s0.2 from by rw [es0]; intro l e; cases e; show 4 ≤ 1 * 2199023255552; omega)
      have M6 := Aside0.mk (show Gm w3 w6 W p (W + 1) from Gm.then M5.out (Gm.below hbw6))
      have EFS := Aside0.mk efs
      have ES0 := Aside0.mk es0
      clear efs en es0 hG5w hrow6 hb6 hbw6 G4 M4 D4 HN4 G5 M5 D5 hone hw5 hm5 k1b HG HD2
      go_loopw [34] (fun iv wq => ∃ i : Nat, iv = .int .i64 (i : Int) ∧ i ≤ n ∧ WgAt wq W p q (W + 1) d (putAll d (fs.take i) s0).1 (putAll d (fs.take i) s0).2 ∧ Gm w6 wq W p (W + 1)) (fun iv _ => n - (intOf iv).toNat)
      case atStart => exact ⟨0, rfl, by omega, G6.out, Gm.refl _ _ _ _⟩
      case round =>
        obtain ⟨i, rfl, hi, hG, hM⟩ := hrel
        have GI := Aside0.mk hG
        have MI := Aside0.mk hM
        have RI := Aside0.mk (show wr.heap[b]? = _ from Gm.blk hM HROW.out HBN.out.1 HBN.out.2.1 (by decide))
        clear hG hM
        by_cases hk : i < n
        · have o1 : decide ((i : Int) < (n : Int)) = true := decide_eq_true (by omega)
          have o2 : decide (i < n) = true := decide_eq_true hk
          have q1 : ((i : Int) < (n : Int)) = True := eq_true (by omega)
          have q2 : (i < n) = True := eq_true hk
          obtain ⟨f, hf⟩ : ∃ f, fs[i]? = some f := ⟨_, List.getElem?_eq_getElem (by rw [HBN.out.2.2.2]; exact hk)⟩
          have HF := Aside0.mk hf
          have SZ := Aside0.mk (show Sz 16 (putAll d (fs.take i) s0).2 from (putAll_sz d HDO.out (fs.take i) s0 1 SZ0.out).more (by have h1 := HBN.out; have h2 : (fs.take i).length ≤ i := (by rw [List.length_take]; omega); omega))
          have ZI := Aside0.mk (show wrap64 ((i : Int) + 1) = ((i + 1 : Nat) : Int) by have := HBN.out; unfold wrap64; omega)
          clear hf
          go_wp2_with (first
            | (refine wpList_load_agg rfl 60 _ rfl b (i * 2) rfl f.vals (fun j v hv => cell_of RI.out (by have h := vals_at fs i f HF.out; rw [Nat.mul_comm i 2]; match j, hv with | 0, hv => cases hv; exact h.1 | 1, hv => cases hv; exact h.2)) _ Tryz.underlying60 rfl (by kernel_rfl) ?_)
            | (refine wpList_alloc_v rfl 60 rfl [.nilFunc, .nilFunc] (by kernel_rfl) ?_; intro F w8 eF hF8 hb8 hz8)
            | (refine wpList_store_agg rfl 60 _ _ rfl F 0 rfl f.vals _ rfl _ hF8.out (by exact Nat.le_refl 2) (fun v hv => one_vals hv) (by kernel_rfl) ?_; intro w9 hF9 hm9 hz9; rw [splice_all [.nilFunc, .nilFunc] f.vals rfl] at hF9; have cF : w9.cell? ⟨F, 1, none⟩ = some (.func (.func f.put) #[] #[]) := cell_of hF9.out rfl; have MV9 := Aside0.mk (show Mv wr w9 (fun k => wr.heap.size ≤ k) from (Mv.of_below hb8.out (fun k => wr.heap.size ≤ k)).then hm9.out (fun k hk => Or.inl (by have := eF.out; omega))); have G9 := Aside0.mk (GI.out.fresh MV9.out))
            | (refine goesLv_ (some 41) rfl rfl (put_ok f) #[.pointer (some ⟨W, 0, none⟩)] rfl rfl (by simp [Act.eval]) ?_; refine (put_calls f w9 W p q (W + 1) d _ 16 (by omega) HDO.out G9.out SZ.out).mono ?_; rintro e w10 ⟨rfl, hg10, hm10⟩; refine ⟨_, rfl, ?_⟩))
          have hmf : Gm wr w9 W p (W + 1) := Gm.below ⟨MV9.out.os, MV9.out.tape, MV9.out.output, MV9.out.size, fun k hk => MV9.out.block k hk (by omega)⟩
          rw [ZI.out]
          refine ⟨⟨i + 1, rfl, by omega, ?_, Gm.then MI.out (Gm.then hmf hm10)⟩, by simp only [intOf]; omega⟩
          rw [putAll_snoc d fs s0 i f HF.out]
          exact hg10
        · have o1 : decide ((i : Int) < (n : Int)) = false := decide_eq_false (by omega)
          have o2 : decide (i < n) = false := decide_eq_false hk
          have hall : fs.take i = fs := List.take_of_length_le (by have := HBN.out; omega)
          rw [hall] at GI
          obtain ⟨bad, eb⟩ : ∃ b, b = (putAll d fs s0).1 := ⟨_, rfl⟩
          obtain ⟨r, er⟩ : ∃ r, r = (putAll d fs s0).2 := ⟨_, rfl⟩
          rw [← eb, ← er] at GI
          have EE := Aside0.mk (show enc d = (if bad = true ∨ r.isNone = true then ((⟨#[]⟩ : ByteArray), (73 : Int)) else if 1200 < (r.getD []).length then (⟨#[]⟩, 72) else (str (r.getD []), 0)) from by
            unfold enc
            rw [if_pos H17.out, eb, er, ← EFS.out, ES0.out])
          have c0 : wr.cell? ⟨W, 0, none⟩ = some (.pointer (some ⟨p, 0, none⟩)) := GI.out.at_ rfl
          have BW := Aside0.mk (show Below w.heap.size w wr from Mv.toBelow HB.out (Gm.then M6.out MI.out) (fun k hk => by have h1 := HDS.out; have h2 := HDD.out; rcases hk with h | h | h <;> omega))
          clear eb er hall hk hi
          rename World => w7
          cases r with
          | none =>
            cases bad with
            | true =>
              go_wp2_with (go_at_call 41; (with_reducible refine (done_calls _ p q (W + 1) none GI.out.wr).mono ?_); rintro e w8 ⟨rfl, hb8⟩; have c16 : w8.cell? ⟨W, 16, none⟩ = some (.bool true) := (GI.out.below hb8).at_ rfl; have HB8 := Aside0.mk (BW.out.trans (hb8.mono BW.out.size)))
              go_ret2
              rw [show enc d = ((⟨#[]⟩ : ByteArray), (73 : Int)) by rw [EE.out]; simp]
              exact ⟨rfl, HB8.out⟩
            | false =>
              go_wp2_with (go_at_call 41; (with_reducible refine (done_calls _ p q (W + 1) none GI.out.wr).mono ?_); rintro e w8 ⟨rfl, hb8⟩; have c16 : w8.cell? ⟨W, 16, none⟩ = some (.bool false) := (GI.out.below hb8).at_ rfl; have HB8 := Aside0.mk (BW.out.trans (hb8.mono BW.out.size)))
              go_ret2
              rw [show enc d = ((⟨#[]⟩ : ByteArray), (73 : Int)) by rw [EE.out]; simp]
              exact ⟨rfl, HB8.out⟩
          | some l =>
            cases bad with
            | true =>
              go_wp2_with (go_at_call 41; (with_reducible refine (done_calls _ p q (W + 1) (some l) GI.out.wr).mono ?_); rintro e w8 ⟨rfl, hb8⟩; have c16 : w8.cell? ⟨W, 16, none⟩ = some (.bool true) := (GI.out.below hb8).at_ rfl; have HB8 := Aside0.mk (BW.out.trans (hb8.mono BW.out.size)))
              go_ret2
              rw [show enc d = ((⟨#[]⟩ : ByteArray), (73 : Int)) by rw [EE.out]; simp]
              exact ⟨rfl, HB8.out⟩
            | false =>
              obtain ⟨t, et⟩ : ∃ t, t = str l := ⟨_, rfl⟩
              have hts : t.size = l.length := by rw [et]; rfl
              have ET := Aside0.mk et
              have DC := Aside0.mk (show ∀ w, WrAt w p q (W + 1) (some l) → Calls Tryz.prog 41 #[.pointer (some ⟨p, 0, none⟩)] w fun e w' => e = .returned (.tuple #[.string t, .int .i64 0]) ∧ Below w.heap.size w w' from fun w hw => by
                rw [et]
                exact done_calls w p q (W + 1) (some l) hw)
              by_cases hl : 1200 < l.length
              · have o3 : decide ((1200 : Int) < (t.size : Int)) = true := decide_eq_true (by omega)
                clear et
                go_wp2_with (go_at_call 41; (with_reducible refine (DC.out _ GI.out.wr).mono ?_); rintro e w8 ⟨rfl, hb8⟩; have c16 : w8.cell? ⟨W, 16, none⟩ = some (.bool false) := (GI.out.below hb8).at_ rfl; have HB8 := Aside0.mk (BW.out.trans (hb8.mono BW.out.size)))
                go_ret2
                rw [show enc d = ((⟨#[]⟩ : ByteArray), (72 : Int)) by rw [EE.out, if_neg (by simp)]; exact if_pos hl]
                exact ⟨rfl, HB8.out⟩
              · have o3 : decide ((1200 : Int) < (t.size : Int)) = false := decide_eq_false (by omega)
                clear et
                go_wp2_with (go_at_call 41; (with_reducible refine (DC.out _ GI.out.wr).mono ?_); rintro e w8 ⟨rfl, hb8⟩; have c16 : w8.cell? ⟨W, 16, none⟩ = some (.bool false) := (GI.out.below hb8).at_ rfl; have HB8 := Aside0.mk (BW.out.trans (hb8.mono BW.out.size)))
                go_ret2
                rw [show enc d = (t, (0 : Int)) by rw [EE.out, if_neg (by simp), ET.out]; exact if_neg hl]
                exact ⟨rfl, HB8.out⟩
  · have KC := Aside0.mk (show ∀ w, Calls Tryz.prog 26 #[.int .i64 d.kind] w fun e w' => e = .returned (.bool false) ∧ w' = w from fun w => by
      have := known_calls d.kind w
      rw [decide_eq_false h17] at this
      exact this)
    have EE : enc d = ((⟨#[]⟩ : ByteArray), (71 : Int)) := by unfold enc; rw [if_neg h17]
    rw [EE]
    clear h17 EE
    go_enter Tryz.func16, Tryz.ntmps16
    go_wp2_with (first
      | (refine wpList_box_v rfl 27 _ rfl d.cells rfl (by kernel_rfl) ?_; intro D w1 eD hD1 hb1 hz1; have c0 : w1.cell? ⟨D, 0, none⟩ = some (.int .i64 d.kind) := cell_of hD1.out rfl)
      | (go_at_call 26; (with_reducible refine (KC.out w1).mono ?_); rintro e w0 ⟨rfl, rfl⟩))
    go_ret2
    exact ⟨rfl, hb1.out⟩
end Go.Proofs.YtniabkphbnimaaaGreatDoor.Sh
namespace Go.Proofs.YtniabkphbnimaaaGreatDoor.Sh
open Go Go.RowKit Go.Maps Go.Proofs.YtniabkphbnimaaaGreatDoorW.PrintWords Go.Proofs.YtniabkphbnimaaaGreatDoorW.PrintLast Go.Proofs.YtniabkphbnimaaaGreatDoor.Bs
def Dg.zero : Dg := ⟨0, ⟨#[]⟩, 0, ⟨#[]⟩, ⟨#[]⟩, 0, 0, ⟨#[]⟩, 0, 0, 0, false, false, ⟨#[]⟩, ⟨#[]⟩⟩
@[reducible] def tooShort (r : Bool) : PanicEntry := { v := .iface 28 (.int .i64 72), recovered := r }
set_option maxHeartbeats 8000000 in
set_option maxRecDepth 100000 in
theorem catch_idle (D E : Nat) (w : World) : CallsD Tryz.prog 27 #[.pointer (some ⟨D, 0, none⟩), .pointer (some ⟨E, 0, none⟩)] .returning w fun e u' w' => e = .returned (.tuple #[]) ∧ u' = .returning ∧ w' = w := by
  refine callsD_of_wpS Tryz.func27 rfl fun c₀ cs hu => ?_
  simp only [Tryz.ntmps27, List.size_toArray, List.length_cons, List.length_nil, Nat.reduceAdd, Nat.reduceSub, Array.replicate_succ, Array.replicate_zero, List.push_toArray, List.append_toArray, List.nil_append, List.cons_append]
  apply wpS_seq
  apply wpS_region
  simp [wpOpsS, go_sem, recoverD, hu, Exit.thenS]
  apply wpS_seq
  apply wpS_region
  simp [wpOpsS, go_sem, recoverD, hu, Exit.thenS]
  refine wpS_cond (t := false) (by simp [Act.eval]) ?_
  simp only [Bool.false_eq_true, if_false]
  refine wpS_of_wp (wp_skip ?_)
  cases c₀
  simp_all [bodyPostS, results, Tryz.results27]
set_option maxHeartbeats 8000000 in
set_option maxRecDepth 100000 in
theorem catch_short (D E : Nat) (w : World) (d : Dg) (e0 : Int) (hne : D ≠ E) (hD : w.heap[D]? = some (.cells d.cells.toArray 27 (0, 0))) (hE : w.heap[E]? = some (.cells [Value.int .i64 e0].toArray 28 (0, 0))) :
    CallsD Tryz.prog 27 #[.pointer (some ⟨D, 0, none⟩), .pointer (some ⟨E, 0, none⟩)] (.panicking [tooShort false]) w fun e u' w' => e = .returned (.tuple #[]) ∧ u' = .panicking [tooShort true] ∧ w'.heap[D]? = some (.cells Dg.zero.cells.toArray 27 (0, 0)) ∧ w'.heap[E]? = some (.cells [Value.int .i64 72].toArray 28 (0, 0)) ∧ Mv w w' (fun k => k = D ∨ k = E) := by
  have cE : w.cell? ⟨E, 0, none⟩ = some (.int .i64 e0) := cell_of hE rfl
  have HD := Aside0.mk hD
  have HE := Aside0.mk hE
  have hta : ∀ w, (Instr.typeAssert (.iface 28 (.int .i64 72)) 20 28 true).run Tryz.prog w = .ok (.tuple #[.int .i64 72, .bool true]) w := fun _ => by kernel_rfl
  refine callsD_of_wpS Tryz.func27 rfl fun c₀ cs hu => ?_
  simp only [Tryz.ntmps27, List.size_toArray, List.length_cons, List.length_nil, Nat.reduceAdd, Nat.reduceSub, Array.replicate_succ, Array.replicate_zero, List.push_toArray, List.append_toArray, List.nil_append, List.cons_append]
  apply wpS_seq
  apply wpS_region
  simp [wpOpsS, go_sem, recoverD, hu, Exit.thenS]
  refine wpS_of_wp ?_
  go_wp2_with (refine wpList_store_agg rfl 27 _ _ rfl D 0 rfl Dg.zero.cells d.cells rfl _ HD.out (by exact Nat.le_refl 15) (fun v hv => one_cells hv) (by kernel_rfl) ?_; intro w1 hD1 hm1 hz1; have HD1 := Aside0.mk (show w1.heap[D]? = some (.cells Dg.zero.cells.toArray 27 (0, 0)) from hD1.out); have HM1 := Aside0.mk (show Mv w w1 (fun k => k = D ∨ k = E) from ⟨hm1.out.os, hm1.out.tape, hm1.out.output, hm1.out.size, fun k hk hn => hm1.out.block k hk (fun e => hn (Or.inl e))⟩); have HE1 := Aside0.mk (show w1.heap[E]? = some (.cells [Value.int .i64 e0].toArray 28 (0, 0)) from hm1.out.blk HE.out (fun e => hne e.symm)); have fE := Wd_thaw HE1.out 0; have cE1 : w1.cell? ⟨E, 0, none⟩ = some (.int .i64 e0) := cell_of HE1.out rfl)
  refine ⟨rfl, _, rfl, _, results_none rfl _ _ _, rfl, rfl, ?_, ?_, ?_⟩
  · exact (mv_set w1 E 0 _).blk HD1.out (fun e => hne e)
  · exact set_of HE1.out 0 _
  · exact HM1.out.then ((mv_set w1 E 0 _).mono (fun k hk => hk)) (fun k hk => Or.inl (Or.inr hk))
end Go.Proofs.YtniabkphbnimaaaGreatDoor.Sh
namespace Go.Proofs.YtniabkphbnimaaaGreatDoor.Sh
open Go Go.RowKit Go.Maps Go.Proofs.YtniabkphbnimaaaGreatDoorW.PrintWords Go.Proofs.YtniabkphbnimaaaGreatDoorW.PrintLast Go.Proofs.YtniabkphbnimaaaGreatDoor.Bs
def getAll : List Fld → Dg × Bool × List UInt8 → Option (Dg × Bool × List UInt8)
  | [], s => some s
  | f :: fs, s => (getF f s).bind (getAll fs)
theorem getAll_some {fs : List Fld} {s s' : Dg × Bool × List UInt8} {f : Fld} (h : getF f s = some s') : getAll (f :: fs) s = getAll fs s' := by
  show (getF f s).bind (getAll fs) = _
  rw [h]
  rfl
theorem getAll_none {fs : List Fld} {s : Dg × Bool × List UInt8} {f : Fld} (h : getF f s = none) : getAll (f :: fs) s = none := by
  show (getF f s).bind (getAll fs) = _
  rw [h]
  rfl
/-- What Decode tells. -/
def dec (l : List UInt8) : Dg × Int :=
  if 1200 < l.length then (.zero, 72) else if l.take 3 = [74, 48, 49] then
    match l.drop 3 with
    | [] => (.zero, 71)
    | k :: t => if 1 ≤ (k.toNat : Int) ∧ (k.toNat : Int) ≤ 7 then
        match getAll (fieldsOf (k.toNat : Int)) ({ Dg.zero with kind := (k.toNat : Int) }, false, t) with
        | none => (.zero, 72)
        | some (d, bad, r) => if r ≠ [] then (.zero, 72) else if bad = true then (.zero, 73) else (d, 0)
      else (.zero, 71)
  else (.zero, 70)
theorem cutP_f (l : List UInt8) : QQA.strings_CutPrefix.f (str l) ⟨#[74, 48, 49]⟩ = some (if l.take 3 = [74, 48, 49] then (str (l.drop 3), true) else (str l, false)) := by
  have e3 : ((⟨#[74, 48, 49]⟩ : ByteArray).size : Int) = 3 := rfl
  have e4 : (3 : Int).toNat = 3 := rfl
  unfold QQA.strings_CutPrefix.f QQA.stringslite_CutPrefix.f QQA.stringslite_HasPrefix.f
  rw [e3, e4, str_take, str_list]
  by_cases h : l.take 3 = [74, 48, 49]
  · have hl : 3 ≤ l.length := by have := congrArg List.length h; rw [List.length_take] at this; simp at this; omega
    have hs : (3 : Int) ≤ ((str l).size : Int) := by show (3 : Int) ≤ (l.length : Int); omega
    rw [if_pos hs, if_pos (by decide), if_pos hs, h, if_pos rfl]
    have e5 : ([74, 48, 49] == (⟨#[74, 48, 49]⟩ : ByteArray).toList) = true := by rw [Go.ByteArray.toList_mk]; rfl
    simp only [Option.bind_some, e5, if_true]
    rw [if_pos (by decide), if_pos hs]
    simp only [Option.bind_some, str_drop]
  · rw [if_neg h]
    by_cases hs : (3 : Int) ≤ ((str l).size : Int)
    · rw [if_pos hs, if_pos (by decide), if_pos hs]
      have e5 : (l.take 3 == (⟨#[74, 48, 49]⟩ : ByteArray).toList) = false := by rw [Go.ByteArray.toList_mk]; exact beq_eq_false_iff_ne.mpr h
      simp only [Option.bind_some, e5]
      rfl
    · rw [if_neg hs]
      rfl
theorem cutP_calls (l : List UInt8) (w : World) : Calls Tryz.prog 25 #[.string (str l), .string ⟨#[74, 48, 49]⟩] w fun e w' => e = .returned (.tuple #[.string (if l.take 3 = [74, 48, 49] then str (l.drop 3) else str l), .bool (decide (l.take 3 = [74, 48, 49]))]) ∧ Below w.heap.size w w' := by
  by_cases h : l.take 3 = [74, 48, 49]
  · have hc := cutP_f l
    rw [if_pos h] at hc
    rw [if_pos h, decide_eq_true h]
    exact (QQA.strings_CutPrefix.calls _ _ _ _ w hc).mono fun e w' hh => ⟨hh.1, drawn_below hh.2⟩
  · have hc := cutP_f l
    rw [if_neg h] at hc
    rw [if_neg h, decide_eq_false h]
    exact (QQA.strings_CutPrefix.calls _ _ _ _ w hc).mono fun e w' hh => ⟨hh.1, drawn_below hh.2⟩
/-- The two results at the door. -/
theorem results_dec (tmps : Array Value) (w : World) (D E : Nat) (d : Dg) (e : Int) (h2 : tmps.getD 2 undef = .pointer (some ⟨D, 0, none⟩)) (h3 : tmps.getD 3 undef = .pointer (some ⟨E, 0, none⟩)) (hD : w.heap[D]? = some (.cells d.cells.toArray 27 (0, 0))) (hE : w.heap[E]? = some (.cells [Value.int .i64 e].toArray 28 (0, 0))) :
    (results Tryz.f10 tmps).run Tryz.prog w = .ok (.tuple #[.agg d.cells.toArray, .int .i64 e]) w := by
  have hr : (Tryz.f10).results = #[.cell 2 27, .cell 3 28] := rfl
  have p2 : tmps[2]?.getD undef = .pointer (some ⟨D, 0, none⟩) := by simpa using h2
  have p3 : tmps[3]?.getD undef = .pointer (some ⟨E, 0, none⟩) := by simpa using h3
  have hl := run_loadVar_row (P := Tryz.prog) w D 27 27 d.cells.toArray (0, 0) _ hD Tryz.underlying27 rfl (by kernel_rfl)
  have cE : w.cell? ⟨E, 0, none⟩ = some (.int .i64 e) := cell_of hE rfl
  have hlE : (loadVar 28 ⟨E, 0, none⟩).run Tryz.prog w = .ok (.int .i64 e) w := by simp [go_sem, cE]
  simp [results, hr, p2, p3, asAddr, hl, hlE]
theorem door_ret (tmps : Array Value) (w : World) (D E : Nat) (d : Dg) (e : Int) (R : Ending → World → Prop) (h2 : tmps.getD 2 undef = .pointer (some ⟨D, 0, none⟩)) (h3 : tmps.getD 3 undef = .pointer (some ⟨E, 0, none⟩)) (hD : w.heap[D]? = some (.cells d.cells.toArray 27 (0, 0))) (hE : w.heap[E]? = some (.cells [Value.int .i64 e].toArray 28 (0, 0)))
    (h : R (.returned (.tuple #[.agg d.cells.toArray, .int .i64 e])) w) : bodyPostD Tryz.prog Tryz.f10 R .ret { tmps := tmps, defers := [] } w :=
  ⟨_, results_dec tmps w D E d e h2 h3 hD hE, h⟩
/-- Through the deferred closure where all went well. -/
theorem door_ok (tmps : Array Value) (w : World) (D E : Nat) (d : Dg) (e : Int) (R : Ending → World → Prop) (h2 : tmps.getD 2 undef = .pointer (some ⟨D, 0, none⟩)) (h3 : tmps.getD 3 undef = .pointer (some ⟨E, 0, none⟩)) (hD : w.heap[D]? = some (.cells d.cells.toArray 27 (0, 0))) (hE : w.heap[E]? = some (.cells [Value.int .i64 e].toArray 28 (0, 0)))
    (h : R (.returned (.tuple #[.agg d.cells.toArray, .int .i64 e])) w) : bodyPostD Tryz.prog Tryz.f10 R .ret { tmps := tmps, defers := [{ target := .fn (.func 27) #[.pointer (some ⟨D, 0, none⟩), .pointer (some ⟨E, 0, none⟩)], args := #[] }] } w := by
  show Leaves Tryz.prog Tryz.f10 tmps R _ .returning w
  refine leaves_cons (f := 27) (args := #[.pointer (some ⟨D, 0, none⟩), .pointer (some ⟨E, 0, none⟩)]) (by simp) (by simp [go_sem]) ?_
  refine (catch_idle D E w).mono ?_
  rintro e2 u' w'' ⟨rfl, rfl, rfl⟩
  exact ⟨_, results_dec tmps _ D E d e h2 h3 hD hE, h⟩
/-- Through the deferred closure where a field was too short. -/
theorem door_short (tmps : Array Value) (w : World) (D E : Nat) (d : Dg) (e : Int) (R : Ending → World → Prop) (h2 : tmps.getD 2 undef = .pointer (some ⟨D, 0, none⟩)) (h3 : tmps.getD 3 undef = .pointer (some ⟨E, 0, none⟩)) (hne : D ≠ E) (hD : w.heap[D]? = some (.cells d.cells.toArray 27 (0, 0))) (hE : w.heap[E]? = some (.cells [Value.int .i64 e].toArray 28 (0, 0)))
    (h : ∀ w', Mv w w' (fun k => k = D ∨ k = E) → R (.returned (.tuple #[.agg Dg.zero.cells.toArray, .int .i64 72])) w') : bodyPostD Tryz.prog Tryz.f10 R (.panic [tooShort false]) { tmps := tmps, defers := [{ target := .fn (.func 27) #[.pointer (some ⟨D, 0, none⟩), .pointer (some ⟨E, 0, none⟩)], args := #[] }] } w := by
  show Leaves Tryz.prog Tryz.f10 tmps R _ (.panicking [tooShort false]) w
  refine leaves_cons (f := 27) (args := #[.pointer (some ⟨D, 0, none⟩), .pointer (some ⟨E, 0, none⟩)]) (by simp) (by simp [go_sem]) ?_
  refine (catch_short D E w d e hne hD hE).mono ?_
  rintro e2 u' w'' ⟨rfl, rfl, h1, h2', h3'⟩
  exact ⟨_, results_dec tmps _ D E Dg.zero 72 h2 h3 h1 h2', h _ h3'⟩
theorem get_fn (f : Fld) : ∃ fn : Func, Tryz.prog.funcs[f.get]? = some fn ∧ (fn.name == "runtime.NumGoroutine") = false ∧ fn.body.isSome = true := by
  cases f with
  | nonce => exact ⟨_, Tryz.func48, by kernel_rfl, by kernel_rfl⟩
  | zeros => exact ⟨_, Tryz.func50, by kernel_rfl, by kernel_rfl⟩
  | epoch => exact ⟨_, Tryz.func52, by kernel_rfl, by kernel_rfl⟩
  | cookie => exact ⟨_, Tryz.func54, by kernel_rfl, by kernel_rfl⟩
  | name => exact ⟨_, Tryz.func56, by kernel_rfl, by kernel_rfl⟩
  | tag => exact ⟨_, Tryz.func58, by kernel_rfl, by kernel_rfl⟩
  | session => exact ⟨_, Tryz.func60, by kernel_rfl, by kernel_rfl⟩
  | player => exact ⟨_, Tryz.func62, by kernel_rfl, by kernel_rfl⟩
  | salt => exact ⟨_, Tryz.func64, by kernel_rfl, by kernel_rfl⟩
  | seq => exact ⟨_, Tryz.func66, by kernel_rfl, by kernel_rfl⟩
  | command => exact ⟨_, Tryz.func68, by kernel_rfl, by kernel_rfl⟩
  | data => exact ⟨_, Tryz.func70, by kernel_rfl, by kernel_rfl⟩
theorem getF_len {f : Fld} {s s' : Dg × Bool × List UInt8} (h : getF f s = some s') : s'.2.2.length ≤ s.2.2.length := by
  obtain ⟨d, bad, l⟩ := s
  cases f with
  | name =>
    cases l with
    | nil => cases h
    | cons b t => simp only [getF] at h; split at h; (cases h; simp only [List.length_drop, List.length_cons]; omega); cases h
  | player =>
    cases l with
    | nil => cases h
    | cons b t => cases h; simp only [List.length_cons]; omega
  | command =>
    match l, h with
    | a :: b :: c :: t, h => cases h; simp only [List.length_cons]; omega
  | _ => simp only [getF] at h; split at h; (cases h; simp only [List.length_drop]; omega); cases h
theorem RgAt.load {w : World} {R p : Nat} {d : Dg} {bad : Bool} {l : List UInt8} (H : RgAt w R p d bad l) (j : Nat) (v : Value) (hj : d.cells[j]? = some v) : w.cell? ⟨R, 1 + j, none⟩ = some v := by
  refine H.at_ (i := 1 + j) ?_
  show (_ :: (d.cells ++ [Value.bool bad]))[1 + j]? = some v
  rw [Nat.add_comm, List.getElem?_cons_succ, List.getElem?_append_left (by have := (List.getElem?_eq_some_iff.mp hj).1; exact this)]
  exact hj
theorem two_mv {w w1 w2 : World} {S : Nat → Prop} (h : Mv w w1 (fun k => w.heap.size ≤ k)) (h2 : Mv w1 w2 S) : Mv w w2 (fun k => S k ∨ w.heap.size ≤ k) := (h.mono (fun k hk => Or.inr hk)).then h2 (fun k hk => Or.inl (Or.inl hk))
section
variable {P : Program} {ops : Array Oper} {rest : List Oper} {o : Oper} {a : Act} {w : World} {Q : Exit → Act → World → Prop}
/-- A call of a function value in a plain region, of one that panics. -/
theorem goesLp_ (hg : o.guard = none) {f : FuncId} {x : Operand} {av : Array Operand} {ts : Array TypeId} {first caps : Array Value} (hf : ∃ fn : Func, P.funcs[f]? = some fn ∧ (fn.name == "runtime.NumGoroutine") = false ∧ fn.body.isSome = true) (args : Array Value)
    (hop : o.op = .call { callee := .value x, args := av, argTypes := ts }) (hx : a.eval x = .func (.func f) first caps) (hargs : first ++ av.map a.eval ++ caps = args)
    (h : Calls P f args w fun e w' => ∃ c, e = .panicked c ∧ Q (.panic c) a w') : wpList P ops Q (o :: rest) a w := by
  obtain ⟨fn, h1, h2, h3⟩ := hf
  refine wpList_plain hg fun K hK => ?_
  have he := enters_ h1 h2 h3 args w
  have hrun : (execOp a.eval o).run P w = .ok (.enter f args) w := by
    unfold execOp
    simp [hop, resolve, Deferred.ofValue, invoke, hx, ← hargs] at he ⊢
    simp [he]
  unfold Oper.wp
  rw [hrun, Oper.upon_enter]
  refine h.mono fun e w'' hh => ?_
  obtain ⟨c, rfl, hk⟩ := hh
  exact hk
end
theorem toBelow' {w w1 w2 : World} {D : Nat} (hb : Below w.heap.size w w1) (h : Mv w1 w2 (fun k => k = D)) (hS : w.heap.size ≤ D) : Below w.heap.size w w2 := Mv.toBelow hb h (fun k hk => by omega)
set_option maxHeartbeats 8000000 in
set_option maxRecDepth 100000 in
theorem decode_calls (l : List UInt8) (w : World) : Calls Tryz.prog 10 #[.string (str l)] w fun e w' => e = .returned (.tuple #[.agg (dec l).1.cells.toArray, .int .i64 (dec l).2]) ∧ Below w.heap.size w w' := by
  obtain ⟨t, et⟩ : ∃ t, t = str l := ⟨_, rfl⟩
  have hts : t.size = l.length := by rw [et]; rfl
  have HCUT := Aside0.mk (show ∀ w, Calls Tryz.prog 25 #[.string t, .string ⟨#[74, 48, 49]⟩] w fun e w' => e = .returned (.tuple #[.string (if l.take 3 = [74, 48, 49] then str (l.drop 3) else str l), .bool (decide (l.take 3 = [74, 48, 49]))]) ∧ Below w.heap.size w w' from by rw [et]; exact cutP_calls l)
  rw [← et]
  clear et
  have hmf : ∀ (fn : Fn) (first cap : Array Value) (w : World), (Instr.makeFunc fn first cap).run Tryz.prog w = .ok (.func fn first cap) w := fun _ _ _ _ => rfl
  go_enter_defers Tryz.func10, Tryz.ntmps10
  go_upto_region 0 with fail
  go_cut [2, 3] from 2 to 3 (fun x y wc => ∃ D E, x = .pointer (some ⟨D, 0, none⟩) ∧ y = .pointer (some ⟨E, 0, none⟩) ∧ wc.heap[D]? = some (.cells Dg.zero.cells.toArray 27 (0, 0)) ∧ wc.heap[E]? = some (.cells [Value.int .i64 0].toArray 28 (0, 0)) ∧ (D ≠ E ∧ w.heap.size ≤ D ∧ w.heap.size ≤ E) ∧ Below w.heap.size w wc)
  case first =>
    go_wp2_with (refine wpList_alloc_v rfl 27 rfl Dg.zero.cells (by kernel_rfl) ?_; intro D w1 eD hD1 hb1 hz1)
    go_meet
    exact ⟨D, w1.heap.size, rfl, rfl, (heap_alloc_old w1 _ (by have := hz1.out; omega)).trans hD1.out, heap_alloc_new w1 _, ⟨by have := hz1.out; omega, by have := eD.out; omega, by have := hz1.out; have := eD.out; omega⟩, below_alloc hb1.out _⟩
  case rest =>
    obtain ⟨D, E, rfl, rfl, hD, hE, hne, hb⟩ := hcut
    have HD := Aside0.mk hD
    have HE := Aside0.mk hE
    have HNE := Aside0.mk hne
    have HB := Aside0.mk hb
    clear hD hE hne hb
    by_cases h1 : 1200 < l.length
    · have o1 : decide ((1200 : Int) < (t.size : Int)) = true := decide_eq_true (by omega)
      have EDEC := Aside0.mk (show dec l = (Dg.zero, 72) from if_pos h1)
      clear hts
      go_wp2_with (first
        | (refine wpList_load_agg rfl 27 _ rfl D 0 rfl Dg.zero.cells (load_all HD.out) _ Tryz.underlying27 rfl (by kernel_rfl) ?_)
        | (refine wpList_store_agg rfl 27 _ _ rfl D 0 rfl Dg.zero.cells Dg.zero.cells rfl _ HD.out (by exact Nat.le_refl 15) (fun v hv => one_cells hv) (by kernel_rfl) ?_; intro w9 hD9 hm9 hz9; have HD9 := Aside0.mk (show w9.heap[D]? = some (.cells (Dg.zero.cells).toArray 27 (0, 0)) from hD9.out); have HE9 := Aside0.mk (show w9.heap[E]? = some (.cells [Value.int .i64 0].toArray 28 (0, 0)) from hm9.out.blk HE.out (fun e => HNE.out.1 e.symm)); have fE9 := Wd_thaw HE9.out 0; have cE9 : w9.cell? ⟨E, 0, none⟩ = some (.int .i64 0) := cell_of HE9.out rfl; have HM9 := Aside0.mk (show Below w.heap.size w w9 from toBelow' HB.out hm9.out (by have := HNE.out; omega))))
      rw [EDEC.out]
      exact door_ret _ _ D E Dg.zero 72 _ rfl rfl ((mv_set w9 E 0 _).blk HD9.out HNE.out.1) (set_of HE9.out 0 _) ⟨rfl, below_set1 HM9.out HNE.out.2.2 _⟩
    have o1 : decide ((1200 : Int) < (t.size : Int)) = false := decide_eq_false (by omega)
    clear hts
    by_cases h2 : l.take 3 = [74, 48, 49]
    · rw [decide_eq_true h2, if_pos h2] at HCUT
      obtain ⟨m, em⟩ : ∃ m, m = l.drop 3 := ⟨_, rfl⟩
      rw [← em] at HCUT
      have edec : dec l = _ := (if_neg h1).trans (if_pos h2)
      rw [← em] at edec
      have hlen : m.length ≤ 1200 := by rw [em, List.length_drop]; omega
      cases m with
      | nil =>
        have EDEC := Aside0.mk (show dec l = (Dg.zero, 71) from edec)
        clear edec em
        have o3 : (str ([] : List UInt8)).toList = [] := str_list []
        go_wp2_with (first
          | (go_at_call 25; (with_reducible refine (HCUT.out wc).mono ?_); rintro e w3 ⟨rfl, hb3⟩; have HD3 := Aside0.mk ((hb3.block D (blk_lt HD.out)).trans HD.out); have HE3 := Aside0.mk ((hb3.block E (blk_lt HE.out)).trans HE.out); have HB3 := Aside0.mk (HB.out.trans (hb3.mono HB.out.size)); clear hb3; clear HD HE HB; have HD := HD3; have HE := HE3; have HB := HB3; clear HD3 HE3 HB3)
          | (refine wpList_load_agg rfl 27 _ rfl D 0 rfl Dg.zero.cells (load_all HD.out) _ Tryz.underlying27 rfl (by kernel_rfl) ?_)
          | (refine wpList_store_agg rfl 27 _ _ rfl D 0 rfl Dg.zero.cells Dg.zero.cells rfl _ HD.out (by exact Nat.le_refl 15) (fun v hv => one_cells hv) (by kernel_rfl) ?_; intro w9 hD9 hm9 hz9; have HD9 := Aside0.mk (show w9.heap[D]? = some (.cells (Dg.zero.cells).toArray 27 (0, 0)) from hD9.out); have HE9 := Aside0.mk (show w9.heap[E]? = some (.cells [Value.int .i64 0].toArray 28 (0, 0)) from hm9.out.blk HE.out (fun e => HNE.out.1 e.symm)); have fE9 := Wd_thaw HE9.out 0; have cE9 : w9.cell? ⟨E, 0, none⟩ = some (.int .i64 0) := cell_of HE9.out rfl; have HM9 := Aside0.mk (show Below w.heap.size w w9 from toBelow' HB.out hm9.out (by have := HNE.out; omega))))
        rw [EDEC.out]
        exact door_ret _ _ D E Dg.zero 71 _ rfl rfl ((mv_set w9 E 0 _).blk HD9.out HNE.out.1) (set_of HE9.out 0 _) ⟨rfl, below_set1 HM9.out HNE.out.2.2 _⟩
      | cons k r =>
        obtain ⟨bd, ebd⟩ : ∃ bd, bd = str (k :: r) := ⟨_, rfl⟩
        rw [← ebd] at HCUT
        have HBS := Aside0.mk (show bd.size = r.length + 1 from by rw [ebd]; rfl)
        have o3 : ¬ bd.toList = [] := by rw [ebd, str_list]; exact List.cons_ne_nil _ _
        have o4 : 0 < bd.size := by have := HBS.out; omega
        have o5 : bd.toList.isEmpty = false := by rw [ebd, str_list]; rfl
        have hk0 : ∀ h : 0 < bd.size, wrap64 ((bd[0]'h).toNat : Int) = (k.toNat : Int) := by
          intro h
          subst ebd
          show wrap64 (k.toNat : Int) = (k.toNat : Int)
          have := k.toNat_lt
          unfold wrap64
          omega
        have htl : bd.extract 1 bd.size = str r := by rw [ebd]; exact str_drop (k :: r) 1
        by_cases h3 : 1 ≤ (k.toNat : Int) ∧ (k.toNat : Int) ≤ 7
        · have KC := Aside0.mk (show ∀ (h : 0 < bd.size) w, Calls Tryz.prog 26 #[.int .i64 (wrap64 ((bd[0]'h).toNat : Int))] w fun e w' => e = .returned (.bool true) ∧ w' = w from fun h w => by
            have := known_calls (k.toNat : Int) w
            rw [decide_eq_true h3] at this
            rw [hk0 h]
            exact this)
          have NC := Aside0.mk (show ∀ w, Calls Tryz.prog 28 #[.string (bd.extract 1 bd.size)] w fun e w' => ∃ p, e = .returned (.pointer (some ⟨p, 0, none⟩)) ∧ p = w.heap.size ∧ w'.heap.size = p + 1 ∧ RdAt w' p r ∧ Below w.heap.size w w' from fun w => by rw [htl]; exact newR_calls w r)
          have FC := Aside0.mk (show ∀ (h : 0 < bd.size) w, Calls Tryz.prog 29 #[.int .i64 (wrap64 ((bd[0]'h).toNat : Int))] w fun e w' => ∃ b, e = .returned (.slice (some ⟨b, 0, none⟩) (fieldsOf (k.toNat : Int)).length (fieldsOf (k.toNat : Int)).length) ∧ w.heap.size ≤ b ∧ w'.heap[b]? = some (.cells ((fieldsOf (k.toNat : Int)).flatMap Fld.vals).toArray 60 (0, 0)) ∧ Below w.heap.size w w' from fun h w => by rw [hk0 h]; exact fields_calls (k.toNat : Int) w)
          have HK0 := Aside0.mk hk0
          have EDEC := Aside0.mk (edec.trans (if_pos h3))
          have HLEN := Aside0.mk hlen
          clear edec em ebd htl hk0 hlen
          go_upto_region 11 with (first
            | (go_at_call 25; (with_reducible refine (HCUT.out wc).mono ?_); rintro e w3 ⟨rfl, hb3⟩; have HD3 := Aside0.mk ((hb3.block D (blk_lt HD.out)).trans HD.out); have HE3 := Aside0.mk ((hb3.block E (blk_lt HE.out)).trans HE.out); have HB3 := Aside0.mk (HB.out.trans (hb3.mono HB.out.size)); clear hb3; clear HD HE HB; have HD := HD3; have HE := HE3; have HB := HB3; clear HD3 HE3 HB3)
            | (go_at_call 26; (with_reducible refine (KC.out _ w3).mono ?_); rintro e w0 ⟨rfl, rfl⟩)
            | (go_at_call 28; (with_reducible refine (NC.out _).mono ?_); rintro e w4 ⟨p, rfl, hp4, hz4, hr4, hb4⟩; have HP4 := Aside0.mk hp4; have HR4 := Aside0.mk hr4; have HB4 := Aside0.mk hb4; clear hp4 hz4 hr4 hb4)
            | (refine wpList_box_v rfl 54 _ rfl (Dg.zero.row p false) (by rfl) (by kernel_rfl) ?_; intro R w5 eR hR5 hb5 hz5; have c1 : w5.cell? ⟨R, 1, none⟩ = some (.int .i64 0) := cell_of hR5.out rfl; have f1 := Wd_thaw hR5.out 1))
          obtain ⟨w6, ew6⟩ : ∃ x, x = w5.setCell ⟨R, 1, none⟩ (.int .i64 (wrap64 ((bd[0]'o4).toNat : Int))) := ⟨_, rfl⟩
          have hR6 : RgAt w6 R p { Dg.zero with kind := (k.toNat : Int) } false r := by
            have h0 : RgAt w5 R p Dg.zero false r := ⟨by have := eR.out; have := blk_lt HR4.out; omega, hR5.out, (hb5.out.block p (blk_lt HR4.out)).trans HR4.out⟩
            rw [ew6, HK0.out o4]
            exact h0.setX 1 _ rfl
          have c6 : w6.cell? ⟨R, 1, none⟩ = some (.int .i64 (wrap64 ((bd[0]'o4).toNat : Int))) := by rw [HK0.out o4]; exact hR6.at_ rfl
          have hm6 : Mv w5 w6 (fun k => k = R) := by rw [ew6]; exact mv_set w5 R 1 _
          have HR6 := Aside0.mk hR6
          have HN6 := Aside0.mk (show (D ≠ R ∧ D ≠ p ∧ E ≠ R ∧ E ≠ p) ∧ w.heap.size ≤ R ∧ w.heap.size ≤ p from by
            have h1 := blk_lt HD.out; have h2 := blk_lt HE.out; have h3 := eR.out; have h4 := HP4.out; have h5 := HB4.out.size; have h6 := HB.out.size; have h7 := blk_lt HR4.out
            exact ⟨⟨by omega, by omega, by omega, by omega⟩, by omega, by omega⟩)
          have h45 : Below w0.heap.size w0 w5 := HB4.out.trans (hb5.out.mono HB4.out.size)
          have HD6 := Aside0.mk (hm6.blk ((h45.block D (blk_lt HD.out)).trans HD.out) HN6.out.1.1)
          have HE6 := Aside0.mk (hm6.blk ((h45.block E (blk_lt HE.out)).trans HE.out) HN6.out.1.2.2.1)
          have HB6 := Aside0.mk (show Below w.heap.size w w6 from Mv.toBelow (HB.out.trans (h45.mono HB.out.size)) hm6 (fun k hk => by have := HN6.out; omega))
          rw [← ew6]
          clear ew6 hR6 hm6 h45 HD HE HB HP4 HR4 HB4 eR hR5 hb5 hz5 c1 f1 KC NC HCUT o3 o5 h3
          go_wp2_with (go_at_call 29; (with_reducible refine (FC.out _ w6).mono ?_); rintro e w7 ⟨b, rfl, hb7, hrow7, hbw7⟩)
          obtain ⟨fs, efs⟩ : ∃ fs, fs = fieldsOf (k.toNat : Int) := ⟨_, rfl⟩
          obtain ⟨n, en⟩ : ∃ n, n = fs.length := ⟨_, rfl⟩
          obtain ⟨s0, es0⟩ : ∃ s0 : Dg × Bool × List UInt8, s0 = ({ Dg.zero with kind := (k.toNat : Int) }, false, r) := ⟨_, rfl⟩
          rw [← efs] at hrow7
          rw [← efs, ← en]
          have EDEC2 := Aside0.mk (show dec l = (match getAll fs s0 with | none => (Dg.zero, 72) | some (d, bad, r) => if r ≠ [] then (Dg.zero, 72) else if bad = true then (Dg.zero, 73) else (d, 0)) from by rw [efs, es0]; exact EDEC.out)
          have HROW := Aside0.mk hrow7
          have HBN := Aside0.mk (show b ≠ R ∧ b ≠ p ∧ n ≤ 5 ∧ fs.length = n from by have h1 := blk_lt HR6.out.2.1; have h2 := blk_lt HR6.out.2.2; exact ⟨by omega, by omega, by rw [en, efs]; exact fields_len _, en.symm⟩)
          have HR7 := Aside0.mk (show RgAt w7 R p s0.1 s0.2.1 s0.2.2 from by rw [es0]; exact HR6.out.fresh (Mv.of_below hbw7 _))
          have HL0 := Aside0.mk (show s0.2.2.length ≤ 1200 from by rw [es0]; have := HLEN.out; rw [List.length_cons] at this; show r.length ≤ 1200; omega)
          have HD7 := Aside0.mk ((hbw7.block D (blk_lt HD6.out)).trans HD6.out)
          have HE7 := Aside0.mk ((hbw7.block E (blk_lt HE6.out)).trans HE6.out)
          have HB7 := Aside0.mk (HB6.out.trans (hbw7.mono HB6.out.size))
          clear efs en es0 hrow7 hb7 hbw7 HR6 HD6 HE6 HB6 FC EDEC HK0 c6 HLEN
          go_loopw [51] (fun iv wq => ∃ (i : Nat) (s : Dg × Bool × List UInt8), iv = .int .i64 (i : Int) ∧ i ≤ n ∧ RgAt wq R p s.1 s.2.1 s.2.2 ∧ (getAll (fs.drop i) s = getAll fs s0 ∧ s.2.2.length ≤ 1200) ∧ Mv w7 wq (fun k => k = R ∨ k = p)) (fun iv _ => n - (intOf iv).toNat)
          case atStart => exact ⟨0, s0, rfl, by omega, HR7.out, ⟨rfl, HL0.out⟩, Mv.refl _ _⟩
          case round =>
            obtain ⟨i, s, rfl, hi, hG, hA, hM⟩ := hrel
            have GI := Aside0.mk hG
            have MI := Aside0.mk hM
            have AI := Aside0.mk hA
            have RI := Aside0.mk (show wr.heap[b]? = _ from hM.blk HROW.out (fun e => by rcases e with e | e; exact HBN.out.1 e; exact HBN.out.2.1 e))
            clear hG hM hA
            by_cases hk : i < n
            · have o1 : decide ((i : Int) < (n : Int)) = true := decide_eq_true (by omega)
              have o2 : decide (i < n) = true := decide_eq_true hk
              have q1 : ((i : Int) < (n : Int)) = True := eq_true (by omega)
              have q2 : (i < n) = True := eq_true hk
              obtain ⟨f, hf⟩ : ∃ f, fs[i]? = some f := ⟨_, List.getElem?_eq_getElem (by rw [HBN.out.2.2.2]; exact hk)⟩
              have HF := Aside0.mk hf
              have AF := Aside0.mk (show getAll (f :: fs.drop (i + 1)) s = getAll fs s0 from by
                have hin : i < fs.length := by rw [HBN.out.2.2.2]; exact hk
                have e : fs.drop i = f :: fs.drop (i + 1) := by rw [List.drop_eq_getElem_cons hin, Option.some.inj ((List.getElem?_eq_getElem hin).symm.trans hf)]
                rw [← AI.out.1, e])
              have ZI := Aside0.mk (show wrap64 ((i : Int) + 1) = ((i + 1 : Nat) : Int) by have := HBN.out; unfold wrap64; omega)
              clear hf
              cases hs : getF f s with
              | some s' =>
                have SG := Aside0.mk hs
                clear hs
                go_wp2_with (first
                  | (refine wpList_load_agg rfl 60 _ rfl b (i * 2) rfl f.vals (fun j v hv => cell_of RI.out (by have h := vals_at fs i f HF.out; rw [Nat.mul_comm i 2]; match j, hv with | 0, hv => cases hv; exact h.1 | 1, hv => cases hv; exact h.2)) _ Tryz.underlying60 rfl (by kernel_rfl) ?_)
                  | (refine wpList_alloc_v rfl 60 rfl [.nilFunc, .nilFunc] (by kernel_rfl) ?_; intro F w8 eF hF8 hb8 hz8)
                  | (refine wpList_store_agg rfl 60 _ _ rfl F 0 rfl f.vals _ rfl _ hF8.out (by exact Nat.le_refl 2) (fun v hv => one_vals hv) (by kernel_rfl) ?_; intro w9 hF9 hm9 hz9; rw [splice_all [.nilFunc, .nilFunc] f.vals rfl] at hF9; have cF : w9.cell? ⟨F, 0, none⟩ = some (.func (.func f.get) #[] #[]) := cell_of hF9.out rfl; have MV9 := Aside0.mk (show Mv wr w9 (fun k => wr.heap.size ≤ k) from (Mv.of_below hb8.out (fun k => wr.heap.size ≤ k)).then hm9.out (fun k hk => Or.inl (by have := eF.out; omega))); have G9 := Aside0.mk (GI.out.fresh MV9.out))
                  | (refine goesLv_ (some 58) rfl rfl (get_fn f) #[.pointer (some ⟨R, 0, none⟩)] rfl rfl (by simp [Act.eval]) ?_; refine (get_ok f w9 R p s s' (by have := AI.out.2; omega) G9.out SG.out).mono ?_; rintro e w10 ⟨rfl, hg10, hm10⟩; refine ⟨_, rfl, ?_⟩))
                rw [ZI.out]
                exact ⟨⟨i + 1, s', rfl, by omega, hg10, ⟨(getAll_some SG.out).symm.trans AF.out, Nat.le_trans (getF_len SG.out) AI.out.2⟩, MI.out.then (two_mv MV9.out hm10) (fun k hk => hk.imp id (fun h => Nat.le_trans MI.out.size h))⟩, by simp only [intOf]; omega⟩
              | none =>
                have SG := Aside0.mk hs
                clear hs
                have EZ := Aside0.mk (show dec l = (Dg.zero, 72) from by rw [EDEC2.out, ← AF.out, getAll_none SG.out])
                go_wp2_with (first
                  | (refine wpList_load_agg rfl 60 _ rfl b (i * 2) rfl f.vals (fun j v hv => cell_of RI.out (by have h := vals_at fs i f HF.out; rw [Nat.mul_comm i 2]; match j, hv with | 0, hv => cases hv; exact h.1 | 1, hv => cases hv; exact h.2)) _ Tryz.underlying60 rfl (by kernel_rfl) ?_)
                  | (refine wpList_alloc_v rfl 60 rfl [.nilFunc, .nilFunc] (by kernel_rfl) ?_; intro F w8 eF hF8 hb8 hz8)
                  | (refine wpList_store_agg rfl 60 _ _ rfl F 0 rfl f.vals _ rfl _ hF8.out (by exact Nat.le_refl 2) (fun v hv => one_vals hv) (by kernel_rfl) ?_; intro w9 hF9 hm9 hz9; rw [splice_all [.nilFunc, .nilFunc] f.vals rfl] at hF9; have cF : w9.cell? ⟨F, 0, none⟩ = some (.func (.func f.get) #[] #[]) := cell_of hF9.out rfl; have MV9 := Aside0.mk (show Mv wr w9 (fun k => wr.heap.size ≤ k) from (Mv.of_below hb8.out (fun k => wr.heap.size ≤ k)).then hm9.out (fun k hk => Or.inl (by have := eF.out; omega))); have G9 := Aside0.mk (GI.out.fresh MV9.out))
                  | (refine goesLp_ rfl (get_fn f) #[.pointer (some ⟨R, 0, none⟩)] rfl rfl (by simp [Act.eval]) ?_; refine (get_short f w9 R p s G9.out SG.out).mono ?_; rintro e w10 ⟨rfl, hm10⟩; refine ⟨_, rfl, ?_⟩))
                have M10 : Mv w7 w10 (fun k => k = R ∨ k = p) := MI.out.then (two_mv MV9.out hm10) (fun k hk => hk.imp id (fun h => Nat.le_trans MI.out.size h))
                have hN := HN6.out
                rw [EZ.out]
                exact door_short _ _ D E Dg.zero 0 _ rfl rfl HNE.out.1 (M10.blk HD7.out (by omega)) (M10.blk HE7.out (by omega)) (fun w' hm => ⟨rfl, Mv.toBelow (Mv.toBelow HB7.out M10 (fun k hk => by omega)) hm (fun k hk => by have := HNE.out; omega)⟩)
            · have o1 : decide ((i : Int) < (n : Int)) = false := decide_eq_false (by omega)
              have o2 : decide (i < n) = false := decide_eq_false hk
              have hall : fs.drop i = [] := List.drop_eq_nil_of_le (by have := HBN.out; omega)
              have EG := Aside0.mk (show getAll fs s0 = some s from by rw [← AI.out.1, hall]; rfl)
              have hN := HN6.out
              have HDr := Aside0.mk (MI.out.blk HD7.out (by omega))
              have HEr := Aside0.mk (MI.out.blk HE7.out (by omega))
              have HBr := Aside0.mk (Mv.toBelow HB7.out MI.out (fun k hk => by omega))
              have c0 : wr.cell? ⟨R, 0, none⟩ = some (.pointer (some ⟨p, 0, none⟩)) := GI.out.at_ rfl
              clear hall hN
              obtain ⟨d, bad, rest⟩ := s
              simp only at GI
              by_cases hr : rest = []
              · subst hr
                have LC := Aside0.mk (show ∀ w, RdAt w p [] → Calls Tryz.prog 30 #[.pointer (some ⟨p, 0, none⟩)] w fun e w' => e = .returned (.int .i64 0) ∧ w' = w from fun w hw => left_calls w p [] hw)
                cases bad with
                | true =>
                  have EZ := Aside0.mk (show dec l = (Dg.zero, 73) from by rw [EDEC2.out, EG.out]; rfl)
                  have c16 : wr.cell? ⟨R, 16, none⟩ = some (.bool true) := GI.out.at_ rfl
                  go_wp2_with (first
                    | (go_at_call 30; (with_reducible refine (LC.out wr GI.out.rd).mono ?_); rintro e w8 ⟨rfl, rfl⟩)
                    | (refine wpList_store_agg rfl 27 _ _ rfl D 0 rfl Dg.zero.cells Dg.zero.cells rfl _ HDr.out (by exact Nat.le_refl 15) (fun v hv => one_cells hv) (by kernel_rfl) ?_; intro w9 hD9 hm9 hz9; have HD9 := Aside0.mk (show w9.heap[D]? = some (.cells (Dg.zero.cells).toArray 27 (0, 0)) from hD9.out); have HE9 := Aside0.mk (show w9.heap[E]? = some (.cells [Value.int .i64 0].toArray 28 (0, 0)) from hm9.out.blk HEr.out (fun e => HNE.out.1 e.symm)); have fE9 := Wd_thaw HE9.out 0; have cE9 : w9.cell? ⟨E, 0, none⟩ = some (.int .i64 0) := cell_of HE9.out rfl; have HM9 := Aside0.mk (show Below w.heap.size w w9 from toBelow' HBr.out hm9.out (by have := HNE.out; omega))))
                  rw [EZ.out]
                  exact door_ok _ _ D E Dg.zero 73 _ rfl rfl ((mv_set w9 E 0 _).blk HD9.out HNE.out.1) (set_of HE9.out 0 _) ⟨rfl, below_set1 HM9.out HNE.out.2.2 _⟩
                | false =>
                  have EZ := Aside0.mk (show dec l = (d, 0) from by rw [EDEC2.out, EG.out]; rfl)
                  have c16 : wr.cell? ⟨R, 16, none⟩ = some (.bool false) := GI.out.at_ rfl
                  go_wp2_with (first
                    | (go_at_call 30; (with_reducible refine (LC.out wr GI.out.rd).mono ?_); rintro e w8 ⟨rfl, rfl⟩)
                    | (refine wpList_load_agg rfl 27 _ rfl R 1 rfl d.cells GI.out.load _ Tryz.underlying27 rfl (by kernel_rfl) ?_)
                    | (refine wpList_store_agg rfl 27 _ _ rfl D 0 rfl d.cells Dg.zero.cells rfl _ HDr.out (by exact Nat.le_refl 15) (fun v hv => one_cells hv) (by kernel_rfl) ?_; intro w9 hD9 hm9 hz9; have HD9 := Aside0.mk (show w9.heap[D]? = some (.cells (d.cells).toArray 27 (0, 0)) from hD9.out); have HE9 := Aside0.mk (show w9.heap[E]? = some (.cells [Value.int .i64 0].toArray 28 (0, 0)) from hm9.out.blk HEr.out (fun e => HNE.out.1 e.symm)); have fE9 := Wd_thaw HE9.out 0; have cE9 : w9.cell? ⟨E, 0, none⟩ = some (.int .i64 0) := cell_of HE9.out rfl; have HM9 := Aside0.mk (show Below w.heap.size w w9 from toBelow' HBr.out hm9.out (by have := HNE.out; omega))))
                  rw [EZ.out]
                  exact door_ok _ _ D E d 0 _ rfl rfl ((mv_set w9 E 0 _).blk HD9.out HNE.out.1) (set_of HE9.out 0 _) ⟨rfl, below_set1 HM9.out HNE.out.2.2 _⟩
              · have EZ := Aside0.mk (show dec l = (Dg.zero, 72) from by rw [EDEC2.out, EG.out]; exact if_pos hr)
                have hlr : 0 < rest.length := List.length_pos_iff.mpr hr
                have o3 : decide ((0 : Int) < (rest.length : Int)) = true := decide_eq_true (by omega)
                go_wp2_with (first
                  | (go_at_call 30; (with_reducible refine (left_calls wr p rest GI.out.rd).mono ?_); rintro e w8 ⟨rfl, rfl⟩)
                  | (refine wpList_store_agg rfl 27 _ _ rfl D 0 rfl Dg.zero.cells Dg.zero.cells rfl _ HDr.out (by exact Nat.le_refl 15) (fun v hv => one_cells hv) (by kernel_rfl) ?_; intro w9 hD9 hm9 hz9; have HD9 := Aside0.mk (show w9.heap[D]? = some (.cells (Dg.zero.cells).toArray 27 (0, 0)) from hD9.out); have HE9 := Aside0.mk (show w9.heap[E]? = some (.cells [Value.int .i64 0].toArray 28 (0, 0)) from hm9.out.blk HEr.out (fun e => HNE.out.1 e.symm)); have fE9 := Wd_thaw HE9.out 0; have cE9 : w9.cell? ⟨E, 0, none⟩ = some (.int .i64 0) := cell_of HE9.out rfl; have HM9 := Aside0.mk (show Below w.heap.size w w9 from toBelow' HBr.out hm9.out (by have := HNE.out; omega))))
                rw [EZ.out]
                exact door_ok _ _ D E Dg.zero 72 _ rfl rfl ((mv_set w9 E 0 _).blk HD9.out HNE.out.1) (set_of HE9.out 0 _) ⟨rfl, below_set1 HM9.out HNE.out.2.2 _⟩
        · have EDEC := Aside0.mk (show dec l = (Dg.zero, 71) from edec.trans (if_neg h3))
          have KC := Aside0.mk (show ∀ (h : 0 < bd.size) w, Calls Tryz.prog 26 #[.int .i64 (wrap64 ((bd[0]'h).toNat : Int))] w fun e w' => e = .returned (.bool false) ∧ w' = w from fun h w => by
            have := known_calls (k.toNat : Int) w
            rw [decide_eq_false h3] at this
            rw [hk0 h]
            exact this)
          clear edec em ebd hk0 htl
          go_wp2_with (first
            | (go_at_call 25; (with_reducible refine (HCUT.out wc).mono ?_); rintro e w3 ⟨rfl, hb3⟩; have HD3 := Aside0.mk ((hb3.block D (blk_lt HD.out)).trans HD.out); have HE3 := Aside0.mk ((hb3.block E (blk_lt HE.out)).trans HE.out); have HB3 := Aside0.mk (HB.out.trans (hb3.mono HB.out.size)); clear hb3; clear HD HE HB; have HD := HD3; have HE := HE3; have HB := HB3; clear HD3 HE3 HB3)
            | (go_at_call 26; (with_reducible refine (KC.out _ w3).mono ?_); rintro e w0 ⟨rfl, rfl⟩)
            | (refine wpList_load_agg rfl 27 _ rfl D 0 rfl Dg.zero.cells (load_all HD.out) _ Tryz.underlying27 rfl (by kernel_rfl) ?_)
            | (refine wpList_store_agg rfl 27 _ _ rfl D 0 rfl Dg.zero.cells Dg.zero.cells rfl _ HD.out (by exact Nat.le_refl 15) (fun v hv => one_cells hv) (by kernel_rfl) ?_; intro w9 hD9 hm9 hz9; have HD9 := Aside0.mk (show w9.heap[D]? = some (.cells (Dg.zero.cells).toArray 27 (0, 0)) from hD9.out); have HE9 := Aside0.mk (show w9.heap[E]? = some (.cells [Value.int .i64 0].toArray 28 (0, 0)) from hm9.out.blk HE.out (fun e => HNE.out.1 e.symm)); have fE9 := Wd_thaw HE9.out 0; have cE9 : w9.cell? ⟨E, 0, none⟩ = some (.int .i64 0) := cell_of HE9.out rfl; have HM9 := Aside0.mk (show Below w.heap.size w w9 from toBelow' HB.out hm9.out (by have := HNE.out; omega))))
          rw [EDEC.out]
          exact door_ret _ _ D E Dg.zero 71 _ rfl rfl ((mv_set w9 E 0 _).blk HD9.out HNE.out.1) (set_of HE9.out 0 _) ⟨rfl, below_set1 HM9.out HNE.out.2.2 _⟩
    · rw [decide_eq_false h2, if_neg h2] at HCUT
      have EDEC := Aside0.mk (show dec l = (Dg.zero, 70) from (if_neg h1).trans (if_neg h2))
      go_wp2_with (first
        | (go_at_call 25; (with_reducible refine (HCUT.out wc).mono ?_); rintro e w3 ⟨rfl, hb3⟩; have HD3 := Aside0.mk ((hb3.block D (blk_lt HD.out)).trans HD.out); have HE3 := Aside0.mk ((hb3.block E (blk_lt HE.out)).trans HE.out); have HB3 := Aside0.mk (HB.out.trans (hb3.mono HB.out.size)); clear hb3; clear HD HE HB; have HD := HD3; have HE := HE3; have HB := HB3; clear HD3 HE3 HB3)
        | (refine wpList_load_agg rfl 27 _ rfl D 0 rfl Dg.zero.cells (load_all HD.out) _ Tryz.underlying27 rfl (by kernel_rfl) ?_)
        | (refine wpList_store_agg rfl 27 _ _ rfl D 0 rfl Dg.zero.cells Dg.zero.cells rfl _ HD.out (by exact Nat.le_refl 15) (fun v hv => one_cells hv) (by kernel_rfl) ?_; intro w9 hD9 hm9 hz9; have HD9 := Aside0.mk (show w9.heap[D]? = some (.cells (Dg.zero.cells).toArray 27 (0, 0)) from hD9.out); have HE9 := Aside0.mk (show w9.heap[E]? = some (.cells [Value.int .i64 0].toArray 28 (0, 0)) from hm9.out.blk HE.out (fun e => HNE.out.1 e.symm)); have fE9 := Wd_thaw HE9.out 0; have cE9 : w9.cell? ⟨E, 0, none⟩ = some (.int .i64 0) := cell_of HE9.out rfl; have HM9 := Aside0.mk (show Below w.heap.size w w9 from toBelow' HB.out hm9.out (by have := HNE.out; omega))))
      rw [EDEC.out]
      exact door_ret _ _ D E Dg.zero 70 _ rfl rfl ((mv_set w9 E 0 _).blk HD9.out HNE.out.1) (set_of HE9.out 0 _) ⟨rfl, below_set1 HM9.out HNE.out.2.2 _⟩
end Go.Proofs.YtniabkphbnimaaaGreatDoor.Sh
namespace Go.Proofs.YtniabkphbnimaaaGreatDoor.Sh
open Go Go.RowKit Go.Maps Go.Proofs.YtniabkphbnimaaaGreatDoorW.PrintWords Go.Proofs.YtniabkphbnimaaaGreatDoorW.PrintLast Go.Proofs.YtniabkphbnimaaaGreatDoor.Bs
theorem bt_str (l : List UInt8) (i : Int) : bt (str l) i = ((l.getD i.toNat 0).toNat : Int) := by
  unfold bt
  by_cases h : i.toNat < (str l).size
  · have h' : i.toNat < l.length := h
    rw [dif_pos h, List.getD_eq_getElem?_getD, List.getElem?_eq_getElem h']
    show (((l.toArray)[i.toNat]).toNat : Int) = _
    simp
  · have h' : l.length ≤ i.toNat := Nat.le_of_not_lt h
    rw [dif_neg h, List.getD_eq_getElem?_getD, List.getElem?_eq_none h']
    rfl
theorem orx (c a b : UInt8) : Go.bits .or .u8 (c.toNat : Int) (Go.bits .xor .u8 (a.toNat : Int) (b.toNat : Int)) = ((c ||| (a ^^^ b)).toNat : Int) := by
  show IntKind.u8.wrap ((BitVec.ofInt 8 (c.toNat : Int) ||| BitVec.ofInt 8 (IntKind.u8.wrap ((BitVec.ofInt 8 (a.toNat : Int) ^^^ BitVec.ofInt 8 (b.toNat : Int)).toNat : Int))).toNat : Int) = _
  have e (x : UInt8) : BitVec.ofInt 8 (x.toNat : Int) = x.toBitVec := by
    rw [BitVec.ofInt_natCast]
    simp
  have e2 (x : BitVec 8) : IntKind.u8.wrap (x.toNat : Int) = (x.toNat : Int) := by
    have := x.isLt
    rw [wrap_u8]
    omega
  rw [e, e, e, e2, e2]
  rw [BitVec.ofInt_natCast]
  simp
theorem same_l (a b : List UInt8) (hl : a.length = b.length) (hs : a.length < 4611686018427387904) : ∀ (m i k : Nat) (c : UInt8), m = a.length - i → i ≤ a.length → m < k →
    QQA.mac_Same.l0 k (str a) (str b) (c.toNat : Int) (a.length : Int) (i : Int) = some (decide (c = 0 ∧ a.drop i = b.drop i)) := by
  intro m
  induction m with
  | zero =>
    intro i k c hm hi hk
    obtain ⟨k, rfl⟩ : ∃ j, k = j + 1 := ⟨k - 1, by omega⟩
    unfold QQA.mac_Same.l0
    rw [if_neg (by omega), List.drop_of_length_le (by omega), List.drop_of_length_le (by omega)]
    congr 1
    by_cases hc : c = 0
    · subst hc; rfl
    · have : ¬ ((c.toNat : Int) = 0) := fun h => hc (UInt8.toNat_inj.mp (by show c.toNat = 0; omega))
      rw [decide_eq_false (by intro h; exact hc h.1)]
      exact beq_eq_false_iff_ne.mpr this
  | succ m ih =>
    intro i k c hm hi hk
    obtain ⟨k, rfl⟩ : ∃ j, k = j + 1 := ⟨k - 1, by omega⟩
    have hz : wrap64 ((i : Int) + 1) = ((i + 1 : Nat) : Int) := by unfold wrap64; omega
    have s1 : ((str a).size : Int) = (a.length : Int) := rfl
    have s2 : ((str b).size : Int) = (b.length : Int) := rfl
    unfold QQA.mac_Same.l0
    rw [if_pos (by omega), if_pos (by omega), if_pos (by omega), if_pos (by omega), bt_str, bt_str, orx, hz]
    rw [ih (i + 1) k _ (by omega) (by omega) (by omega)]
    congr 1
    have ha : i < a.length := by omega
    have hb : i < b.length := by omega
    rw [List.drop_eq_getElem_cons ha, List.drop_eq_getElem_cons hb]
    have ga : a.getD ((i : Int)).toNat 0 = a[i] := by rw [Int.toNat_natCast, List.getD_eq_getElem?_getD, List.getElem?_eq_getElem ha]; rfl
    have gb : b.getD ((i : Int)).toNat 0 = b[i] := by rw [Int.toNat_natCast, List.getD_eq_getElem?_getD, List.getElem?_eq_getElem hb]; rfl
    rw [ga, gb]
    apply decide_eq_decide.mpr
    rw [UInt8.or_eq_zero_iff, UInt8.xor_eq_zero_iff, List.cons.injEq, and_assoc]
theorem same_f (a b : List UInt8) (hs : a.length < 4611686018427387904) : QQA.mac_Same.f (a.length + 1) (str a) (str b) = some (decide (a = b)) := by
  unfold QQA.mac_Same.f
  have s1 : ((str a).size : Int) = (a.length : Int) := rfl
  have s2 : ((str b).size : Int) = (b.length : Int) := rfl
  rw [s1, s2]
  by_cases h : a.length = b.length
  · rw [if_pos (by omega)]
    have := same_l a b h hs a.length 0 (a.length + 1) 0 (by omega) (by omega) (by omega)
    simpa using this
  · rw [if_neg (by omega), decide_eq_false (fun e => h (by rw [e]))]
theorem same_calls (a b : List UInt8) (hs : a.length < 4611686018427387904) (w : World) : Calls Tryz.prog 36 #[.string (str a), .string (str b)] w fun e w' => e = .returned (.bool (decide (a = b))) ∧ Below w.heap.size w w' :=
  (QQA.mac_Same.calls _ _ _ _ w (same_f a b hs)).mono fun e w' hh => ⟨hh.1, drawn_below hh.2⟩
/-- The bytes that a tag is over. -/
def bodyB (l : List UInt8) : List UInt8 := if l.take 3 = [74, 48, 49] ∧ 36 ≤ l.length ∧ 3 ≤ (l.getD 3 0).toNat ∧ (l.getD 3 0).toNat ≤ 7 then l.take (l.length - 32) else []
theorem hasP_f (l : List UInt8) : QQA.strings_HasPrefix.f (str l) ⟨#[74, 48, 49]⟩ = some (decide (l.take 3 = [74, 48, 49])) := by
  have e3 : ((⟨#[74, 48, 49]⟩ : ByteArray).size : Int) = 3 := rfl
  have e4 : (3 : Int).toNat = 3 := rfl
  unfold QQA.strings_HasPrefix.f QQA.stringslite_HasPrefix.f
  rw [e3, e4, str_take, str_list]
  by_cases hs : (3 : Int) ≤ ((str l).size : Int)
  · rw [if_pos hs, if_pos (by decide), if_pos hs, Go.ByteArray.toList_mk]
    by_cases h : l.take 3 = [74, 48, 49]
    · rw [h]; rfl
    · rw [decide_eq_false h]
      have e5 : (l.take 3 == [74, 48, 49]) = false := beq_eq_false_iff_ne.mpr h
      simp only [Option.bind_some]
      exact congrArg some e5
  · rw [if_neg hs]
    have h : ¬ l.take 3 = [74, 48, 49] := by
      intro h
      have := congrArg List.length h
      rw [List.length_take] at this
      have s1 : ((str l).size : Int) = (l.length : Int) := rfl
      simp at this
      omega
    rw [decide_eq_false h]
    rfl
theorem tagged_f (k : Int) : QQA.frame_tagged.f k = some (decide (3 ≤ k ∧ k ≤ 7)) := by
  unfold QQA.frame_tagged.f
  by_cases h : k ≥ 3
  · rw [if_pos h]
    congr 1
    exact decide_eq_decide.mpr ⟨fun h2 => ⟨h, h2⟩, fun h2 => h2.2⟩
  · rw [if_neg h, decide_eq_false (fun h2 => h h2.1)]
theorem tagged_calls (k : Int) (w : World) : Calls Tryz.prog 35 #[.int .i64 k] w fun e w' => e = .returned (.bool (decide (3 ≤ k ∧ k ≤ 7))) ∧ Below w.heap.size w w' :=
  (QQA.frame_tagged.calls _ _ w (tagged_f k)).mono fun e w' hh => ⟨hh.1, drawn_below hh.2⟩
theorem body_f (l : List UInt8) (hs : l.length < 4611686018427387904) : QQA.frame_Body.f (str l) = some (str (bodyB l)) := by
  have s1 : ((str l).size : Int) = (l.length : Int) := rfl
  have e3 : (3 : Int).toNat = 3 := rfl
  unfold QQA.frame_Body.f bodyB
  rw [hasP_f, s1]
  simp only [Option.bind_some]
  by_cases h1 : l.take 3 = [74, 48, 49]
  · rw [decide_eq_true h1, if_pos rfl]
    by_cases h2 : 36 ≤ l.length
    · have hb := (l.getD 3 0).toNat_lt
      have hz : wrap64 ((l.length : Int) - 32) = ((l.length - 32 : Nat) : Int) := by unfold wrap64; omega
      have hw : wrap64 ((l.getD 3 0).toNat : Int) = ((l.getD 3 0).toNat : Int) := by unfold wrap64; omega
      rw [if_neg (by omega), if_pos (by omega), bt_str, e3, hw, tagged_f]
      simp only [Option.bind_some]
      by_cases h3 : 3 ≤ (l.getD 3 0).toNat ∧ (l.getD 3 0).toNat ≤ 7
      · rw [decide_eq_true (show 3 ≤ ((l.getD 3 0).toNat : Int) ∧ ((l.getD 3 0).toNat : Int) ≤ 7 by omega), if_pos rfl, hz, if_pos (by omega), if_pos (by omega), if_pos ⟨h1, h2, h3⟩, Int.toNat_natCast, str_take]
      · rw [decide_eq_false (show ¬ (3 ≤ ((l.getD 3 0).toNat : Int) ∧ ((l.getD 3 0).toNat : Int) ≤ 7) by omega), if_neg (by decide), if_neg (fun h => h3 h.2.2)]
        rfl
    · rw [if_pos (by omega), if_neg (fun h => h2 h.2.1)]
      rfl
  · rw [decide_eq_false h1, if_neg (by decide), if_neg (fun h => h1 h.1)]
    rfl
theorem body_calls (l : List UInt8) (hs : l.length < 4611686018427387904) (w : World) : Calls Tryz.prog 12 #[.string (str l)] w fun e w' => e = .returned (.string (str (bodyB l))) ∧ Below w.heap.size w w' :=
  (QQA.frame_Body.calls _ _ w (body_f l hs)).mono fun e w' hh => ⟨hh.1, drawn_below hh.2⟩
end Go.Proofs.YtniabkphbnimaaaGreatDoor.Sh
namespace Go.Proofs.YtniabkphbnimaaaGreatDoor.Sh
open Go Go.RowKit Go.Maps Go.Proofs.YtniabkphbnimaaaGreatDoorW.PrintWords Go.Proofs.YtniabkphbnimaaaGreatDoorW.PrintLast Go.Proofs.YtniabkphbnimaaaGreatDoor.Bs
theorem str_bl (s : ByteArray) : str (bl s) = s := by
  cases s
  rfl
end Go.Proofs.YtniabkphbnimaaaGreatDoor.Sh
