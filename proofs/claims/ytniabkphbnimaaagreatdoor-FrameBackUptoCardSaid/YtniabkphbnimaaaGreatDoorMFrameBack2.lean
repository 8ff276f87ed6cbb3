/- What the statement FrameBack leans on, part 2: words, walks and plain laws of this session's own. -/
import Derived.Test.YtniabkphbnimaaaGreatDoorProg
import Derived.Test.YtniabkphbnimaaaGreatDoorRows
import Derived.Test.YtniabkphbnimaaaGreatDoorMFrameBack1
import Derived.ArgAppend
import Derived.Below
import Derived.BigQuiet
import Derived.ChangeOld
import Derived.ChangeSame
import Derived.Deep.AppendLies
import Derived.Deep.CutBlock
import Derived.Deep.DeepCutAuto
import Derived.Deep.Draws
import Derived.Deep.LoopGhost
import Derived.Deep.OwnRows
import Derived.Deep.QuietTactic
import Derived.Deep.RegionHeld3
import Derived.Deep.RegionLaw
import Derived.Deep.RegionWith
import Derived.Defers
import Derived.Great.Walk
import Derived.KernelRfl
import Derived.Laws.AppendOwn
import Derived.Laws.BitsLemmas
import Derived.Laws.BytesArg
import Derived.Laws.CopyOwn
import Derived.Laws.CopyRow
import Derived.Laws.IdiomCopy
import Derived.Laws.IdiomStrings
import Derived.Laws.MakeOwn
import Derived.Laws.OwnMore
import Derived.Laws.Rows
import Derived.Laws.Slices
import Derived.Lib.AppendStr
import Derived.Lib.ConvBytes
import Derived.Lib.LaidTab
import Derived.Maps.AppendAt
import Derived.Maps.OwnSet
import Derived.OpenShut
import Derived.OrdersHeld
import Derived.OwnWalk
import Derived.ProofKit
import Derived.Recover
import Derived.RowKit
import Derived.RowKit3
import Derived.Shelf.Strings.Repeat
import Derived.Shelf.Strings.Trim
import Derived.ShutString
import Derived.SizedLaws
import Derived.Tactics
import Derived.WalkKit
import Derived.WalkSmall
import Derived.WideLaws
set_option linter.unusedVariables false
set_option linter.unusedSimpArgs false
namespace Go.Proofs.YtniabkphbnimaaaGreatDoor.Sh
open Go Go.RowKit Go.Maps Go.Proofs.YtniabkphbnimaaaGreatDoorW.PrintWords Go.Proofs.YtniabkphbnimaaaGreatDoorW.PrintLast Go.Proofs.YtniabkphbnimaaaGreatDoor.Bs
def getAll : List Fld → Dg × Bool × List UInt8 → Option (Dg × Bool × List UInt8)
  | [], s => some s
  | f :: fs, s => (getF f s).bind (getAll fs)
theorem getAll_some {fs : List Fld} {s s' : Dg × Bool × List UInt8} {f : Fld} (h : getF f s = some s') : getAll (f :: fs) s = getAll fs s' := by
  show (getF f s).bind (getAll fs) = _
  rw [h]
  rfl
theorem getAll_none {fs : List Fld} {s : Dg × Bool × List UInt8} {f : Fld} (h : getF f s = none) : getAll (f :: fs) s = none := by
  show (getF f s).bind (getAll fs) = _
  rw [h]
  rfl
/-- What Decode tells. -/
def dec (l : List UInt8) : Dg × Int :=
  if 1200 < l.length then (.zero, 72) else if l.take 3 = [74, 48, 49] then
    match l.drop 3 with
    | [] => (.zero, 71)
    | k :: t => if 1 ≤ (k.toNat : Int) ∧ (k.toNat : Int) ≤ 7 then
        match getAll (fieldsOf (k.toNat : Int)) ({ Dg.zero with kind := (k.toNat : Int) }, false, t) with
        | none => (.zero, 72)
        | some (d, bad, r) => if r ≠ [] then (.zero, 72) else if bad = true then (.zero, 73) else (d, 0)
      else (.zero, 71)
  else (.zero, 70)
theorem cutP_f (l : List UInt8) : QQA.strings_CutPrefix.f (str l) ⟨#[74, 48, 49]⟩ = some (if l.take 3 = [74, 48, 49] then (str (l.drop 3), true) else (str l, false)) := by
  have e3 : ((⟨#[74, 48, 49]⟩ : ByteArray).size : Int) = 3 := rfl
  have e4 : (3 : Int).toNat = 3 := rfl
  unfold QQA.strings_CutPrefix.f QQA.stringslite_CutPrefix.f QQA.stringslite_HasPrefix.f
  rw [e3, e4, str_take, str_list]
  by_cases h : l.take 3 = [74, 48, 49]
  · have hl : 3 ≤ l.length := by have := congrArg List.length h; rw [List.length_take] at this; simp at this; omega
    have hs : (3 : Int) ≤ ((str l).size : Int) := by show (3 : Int) ≤ (l.length : Int); omega
    rw [if_pos hs, if_pos (by decide), if_pos hs, h, if_pos rfl]
    have e5 : ([74, 48, 49] == (⟨#[74, 48, 49]⟩ : ByteArray).toList) = true := by rw [Go.ByteArray.toList_mk]; rfl
    simp only [Option.bind_some, e5, if_true]
    rw [if_pos (by decide), if_pos hs]
    simp only [Option.bind_some, str_drop]
  · rw [if_neg h]
    by_cases hs : (3 : Int) ≤ ((str l).size : Int)
    · rw [if_pos hs, if_pos (by decide), if_pos hs]
      have e5 : (l.take 3 == (⟨#[74, 48, 49]⟩ : ByteArray).toList) = false := by rw [Go.ByteArray.toList_mk]; exact beq_eq_false_iff_ne.mpr h
      simp only [Option.bind_some, e5]
      rfl
    · rw [if_neg hs]
      rfl
theorem cutP_calls (l : List UInt8) (w : World) : Calls Tryz.prog 25 #[.string (str l), .string ⟨#[74, 48, 49]⟩] w fun e w' => e = .returned (.tuple #[.string (if l.take 3 = [74, 48, 49] then str (l.drop 3) else str l), .bool (decide (l.take 3 = [74, 48, 49]))]) ∧ Below w.heap.size w w' := by
  by_cases h : l.take 3 = [74, 48, 49]
  · have hc := cutP_f l
    rw [if_pos h] at hc
    rw [if_pos h, decide_eq_true h]
    exact (QQA.strings_CutPrefix.calls _ _ _ _ w hc).mono fun e w' hh => ⟨hh.1, drawn_below hh.2⟩
  · have hc := cutP_f l
    rw [if_neg h] at hc
    rw [if_neg h, decide_eq_false h]
    exact (QQA.strings_CutPrefix.calls _ _ _ _ w hc).mono fun e w' hh => ⟨hh.1, drawn_below hh.2⟩
/-- The two results at the door. -/
theorem results_dec (tmps : Array Value) (w : World) (D E : Nat) (d : Dg) (e : Int) (h2 : tmps.getD 2 undef = .pointer (some ⟨D, 0, none⟩)) (h3 : tmps.getD 3 undef = .pointer (some ⟨E, 0, none⟩)) (hD : w.heap[D]? = some (.cells d.cells.toArray 27 (0, 0))) (hE : w.heap[E]? = some (.cells [Value.int .i64 e].toArray 28 (0, 0))) :
    (results Tryz.f10 tmps).run Tryz.prog w = .ok (.tuple #[.agg d.cells.toArray, .int .i64 e]) w := by
  have hr : (Tryz.f10).results = #[.cell 2 27, .cell 3 28] := rfl
  have p2 : tmps[2]?.getD undef = .pointer (some ⟨D, 0, none⟩) := by simpa using h2
  have p3 : tmps[3]?.getD undef = .pointer (some ⟨E, 0, none⟩) := by simpa using h3
  have hl := run_loadVar_row (P := Tryz.prog) w D 27 27 d.cells.toArray (0, 0) _ hD Tryz.underlying27 rfl (by kernel_rfl)
  have cE : w.cell? ⟨E, 0, none⟩ = some (.int .i64 e) := cell_of hE rfl
  have hlE : (loadVar 28 ⟨E, 0, none⟩).run Tryz.prog w = .ok (.int .i64 e) w := by simp [go_sem, cE]
  simp [results, hr, p2, p3, asAddr, hl, hlE]
theorem door_ret (tmps : Array Value) (w : World) (D E : Nat) (d : Dg) (e : Int) (R : Ending → World → Prop) (h2 : tmps.getD 2 undef = .pointer (some ⟨D, 0, none⟩)) (h3 : tmps.getD 3 undef = .pointer (some ⟨E, 0, none⟩)) (hD : w.heap[D]? = some (.cells d.cells.toArray 27 (0, 0))) (hE : w.heap[E]? = some (.cells [Value.int .i64 e].toArray 28 (0, 0)))
    (h : R (.returned (.tuple #[.agg d.cells.toArray, .int .i64 e])) w) : bodyPostD Tryz.prog Tryz.f10 R .ret { tmps := tmps, defers := [] } w :=
  ⟨_, results_dec tmps w D E d e h2 h3 hD hE, h⟩
/-- Through the deferred closure where all went well. -/
theorem door_ok (tmps : Array Value) (w : World) (D E : Nat) (d : Dg) (e : Int) (R : Ending → World → Prop) (h2 : tmps.getD 2 undef = .pointer (some ⟨D, 0, none⟩)) (h3 : tmps.getD 3 undef = .pointer (some ⟨E, 0, none⟩)) (hD : w.heap[D]? = some (.cells d.cells.toArray 27 (0, 0))) (hE : w.heap[E]? = some (.cells [Value.int .i64 e].toArray 28 (0, 0)))
    (h : R (.returned (.tuple #[.agg d.cells.toArray, .int .i64 e])) w) : bodyPostD Tryz.prog Tryz.f10 R .ret { tmps := tmps, defers := [{ target := .fn (.func 27) #[.pointer (some ⟨D, 0, none⟩), .pointer (some ⟨E, 0, none⟩)], args := #[] }] } w := by
  show Leaves Tryz.prog Tryz.f10 tmps R _ .returning w
  refine leaves_cons (f := 27) (args := #[.pointer (some ⟨D, 0, none⟩), .pointer (some ⟨E, 0, none⟩)]) (by simp) (by simp [go_sem]) ?_
  refine (catch_idle D E w).mono ?_
  rintro e2 u' w'' ⟨rfl, rfl, rfl⟩
  exact ⟨_, results_dec tmps _ D E d e h2 h3 hD hE, h⟩
/-- Through the deferred closure where a field was too short. -/
theorem door_short (tmps : Array Value) (w : World) (D E : Nat) (d : Dg) (e : Int) (R : Ending → World → Prop) (h2 : tmps.getD 2 undef = .pointer (some ⟨D, 0, none⟩)) (h3 : tmps.getD 3 undef = .pointer (some ⟨E, 0, none⟩)) (hne : D ≠ E) (hD : w.heap[D]? = some (.cells d.cells.toArray 27 (0, 0))) (hE : w.heap[E]? = some (.cells [Value.int .i64 e].toArray 28 (0, 0)))
    (h : ∀ w', Mv w w' (fun k => k = D ∨ k = E) → R (.returned (.tuple #[.agg Dg.zero.cells.toArray, .int .i64 72])) w') : bodyPostD Tryz.prog Tryz.f10 R (.panic [tooShort false]) { tmps := tmps, defers := [{ target := .fn (.func 27) #[.pointer (some ⟨D, 0, none⟩), .pointer (some ⟨E, 0, none⟩)], args := #[] }] } w := by
  show Leaves Tryz.prog Tryz.f10 tmps R _ (.panicking [tooShort false]) w
  refine leaves_cons (f := 27) (args := #[.pointer (some ⟨D, 0, none⟩), .pointer (some ⟨E, 0, none⟩)]) (by simp) (by simp [go_sem]) ?_
  refine (catch_short D E w d e hne hD hE).mono ?_
  rintro e2 u' w'' ⟨rfl, rfl, h1, h2', h3'⟩
  exact ⟨_, results_dec tmps _ D E Dg.zero 72 h2 h3 h1 h2', h _ h3'⟩
theorem get_fn (f : Fld) : ∃ fn : Func, Tryz.prog.funcs[f.get]? = some fn ∧ (fn.name == "runtime.NumGoroutine") = false ∧ fn.body.isSome = true := by
  cases f with
  | nonce => exact ⟨_, Tryz.func48, by kernel_rfl, by kernel_rfl⟩
  | zeros => exact ⟨_, Tryz.func50, by kernel_rfl, by kernel_rfl⟩
  | epoch => exact ⟨_, Tryz.func52, by kernel_rfl, by kernel_rfl⟩
  | cookie => exact ⟨_, Tryz.func54, by kernel_rfl, by kernel_rfl⟩
  | name => exact ⟨_, Tryz.func56, by kernel_rfl, by kernel_rfl⟩
  | tag => exact ⟨_, Tryz.func58, by kernel_rfl, by kernel_rfl⟩
  | session => exact ⟨_, Tryz.func60, by kernel_rfl, by kernel_rfl⟩
  | player => exact ⟨_, Tryz.func62, by kernel_rfl, by kernel_rfl⟩
  | salt => exact ⟨_, Tryz.func64, by kernel_rfl, by kernel_rfl⟩
  | seq => exact ⟨_, Tryz.func66, by kernel_rfl, by kernel_rfl⟩
  | command => exact ⟨_, Tryz.func68, by kernel_rfl, by kernel_rfl⟩
  | data => exact ⟨_, Tryz.func70, by kernel_rfl, by kernel_rfl⟩
theorem getF_len {f : Fld} {s s' : Dg × Bool × List UInt8} (h : getF f s = some s') : s'.2.2.length ≤ s.2.2.length := by
  obtain ⟨d, bad, l⟩ := s
  cases f with
  | name =>
    cases l with
    | nil => cases h
    | cons b t => simp only [getF] at h; split at h; (cases h; simp only [List.length_drop, List.length_cons]; omega); cases h
  | player =>
    cases l with
    | nil => cases h
    | cons b t => cases h; simp only [List.length_cons]; omega
  | command =>
    match l, h with
    | a :: b :: c :: t, h => cases h; simp only [List.length_cons]; omega
  | _ => simp only [getF] at h; split at h; (cases h; simp only [List.length_drop]; omega); cases h
theorem RgAt.load {w : World} {R p : Nat} {d : Dg} {bad : Bool} {l : List UInt8} (H : RgAt w R p d bad l) (j : Nat) (v : Value) (hj : d.cells[j]? = some v) : w.cell? ⟨R, 1 + j, none⟩ = some v := by
  refine H.at_ (i := 1 + j) ?_
  show (_ :: (d.cells ++ [Value.bool bad]))[1 + j]? = some v
  rw [Nat.add_comm, List.getElem?_cons_succ, List.getElem?_append_left (by have := (List.getElem?_eq_some_iff.mp hj).1; exact this)]
  exact hj
theorem two_mv {w w1 w2 : World} {S : Nat → Prop} (h : Mv w w1 (fun k => w.heap.size ≤ k)) (h2 : Mv w1 w2 S) : Mv w w2 (fun k => S k ∨ w.heap.size ≤ k) := (h.mono (fun k hk => Or.inr hk)).then h2 (fun k hk => Or.inl (Or.inl hk))
section
variable {P : Program} {ops : Array Oper} {rest : List Oper} {o : Oper} {a : Act} {w : World} {Q : Exit → Act → World → Prop}
/-- A call of a function value in a plain region, of one that panics. -/
theorem goesLp_ (hg : o.guard = none) {f : FuncId} {x : Operand} {av : Array Operand} {ts : Array TypeId} {first caps : Array Value} (hf : ∃ fn : Func, P.funcs[f]? = some fn ∧ (fn.name == "runtime.NumGoroutine") = false ∧ fn.body.isSome = true) (args : Array Value)
    (hop : o.op = .call { callee := .value x, args := av, argTypes := ts }) (hx : a.eval x = .func (.func f) first caps) (hargs : first ++ av.map a.eval ++ caps = args)
    (h : Calls P f args w fun e w' => ∃ c, e = .panicked c ∧ Q (.panic c) a w') : wpList P ops Q (o :: rest) a w := by
  obtain ⟨fn, h1, h2, h3⟩ := hf
  refine wpList_plain hg fun K hK => ?_
  have he := enters_ h1 h2 h3 args w
  have hrun : (execOp a.eval o).run P w = .ok (.enter f args) w := by
    unfold execOp
    simp [hop, resolve, Deferred.ofValue, invoke, hx, ← hargs] at he ⊢
    simp [he]
  unfold Oper.wp
  rw [hrun, Oper.upon_enter]
  refine h.mono fun e w'' hh => ?_
  obtain ⟨c, rfl, hk⟩ := hh
  exact hk
end
theorem toBelow' {w w1 w2 : World} {D : Nat} (hb : Below w.heap.size w w1) (h : Mv w1 w2 (fun k => k = D)) (hS : w.heap.size ≤ D) : Below w.heap.size w w2 := Mv.toBelow hb h (fun k hk => by omega)
set_option maxHeartbeats 8000000 in
set_option maxRecDepth 100000 in
theorem decode_calls (l : List UInt8) (w : World) : Calls Tryz.prog 10 #[.string (str l)] w fun e w' => e = .returned (.tuple #[.agg (dec l).1.cells.toArray, .int .i64 (dec l).2]) ∧ Below w.heap.size w w' := by
  obtain ⟨t, et⟩ : ∃ t, t = str l := ⟨_, rfl⟩
  have hts : t.size = l.length := by rw [et]; rfl
  have HCUT := Aside0.mk (show ∀ w, Calls Tryz.prog 25 #[.string t, .string ⟨#[74, 48, 49]⟩] w fun e w' => e = .returned (.tuple #[.string (if l.take 3 = [74, 48, 49] then str (l.drop 3) else str l), .bool (decide (l.take 3 = [74, 48, 49]))]) ∧ Below w.heap.size w w' from by rw [et]; exact cutP_calls l)
  rw [← et]
  clear et
  have hmf : ∀ (fn : Fn) (first cap : Array Value) (w : World), (Instr.makeFunc fn first cap).run Tryz.prog w = .ok (.func fn first cap) w := fun _ _ _ _ => rfl
  go_enter_defers Tryz.func10, Tryz.ntmps10
  go_upto_region 0 with fail
  go_cut [2, 3] from 2 to 3 (fun x y wc => ∃ D E, x = .pointer (some ⟨D, 0, none⟩) ∧ y = .pointer (some ⟨E, 0, none⟩) ∧ wc.heap[D]? = some (.cells Dg.zero.cells.toArray 27 (0, 0)) ∧ wc.heap[E]? = some (.cells [Value.int .i64 0].toArray 28 (0, 0)) ∧ (D ≠ E ∧ w.heap.size ≤ D ∧ w.heap.size ≤ E) ∧ Below w.heap.size w wc)
  case first =>
    go_wp2_with (refine wpList_alloc_v rfl 27 rfl Dg.zero.cells (by kernel_rfl) ?_; intro D w1 eD hD1 hb1 hz1)
    go_meet
    exact ⟨D, w1.heap.size, rfl, rfl, (heap_alloc_old w1 _ (by have := hz1.out; omega)).trans hD1.out, heap_alloc_new w1 _, ⟨by have := hz1.out; omega, by have := eD.out; omega, by have := hz1.out; have := eD.out; omega⟩, below_alloc hb1.out _⟩
  case rest =>
    obtain ⟨D, E, rfl, rfl, hD, hE, hne, hb⟩ := hcut
    have HD := Aside0.mk hD
    have HE := Aside0.mk hE
    have HNE := Aside0.mk hne
    have HB := Aside0.mk hb
    clear hD hE hne hb
    by_cases h1 : 1200 < l.length
    · have o1 : decide ((1200 : Int) < (t.size : Int)) = true := decide_eq_true (by omega)
      have EDEC := Aside0.mk (show dec l = (Dg.zero, 72) from if_pos h1)
      clear hts
      go_wp2_with (first
        | (refine wpList_load_agg rfl 27 _ rfl D 0 rfl Dg.zero.cells (load_all HD.out) _ Tryz.underlying27 rfl (by kernel_rfl) ?_)
        | (refine wpList_store_agg rfl 27 _ _ rfl D 0 rfl Dg.zero.cells Dg.zero.cells rfl _ HD.out (by exact Nat.le_refl 15) (fun v hv => one_cells hv) (by kernel_rfl) ?_; intro w9 hD9 hm9 hz9; have HD9 := Aside0.mk (show w9.heap[D]? = some (.cells (Dg.zero.cells).toArray 27 (0, 0)) from hD9.out); have HE9 := Aside0.mk (show w9.heap[E]? = some (.cells [Value.int .i64 0].toArray 28 (0, 0)) from hm9.out.blk HE.out (fun e => HNE.out.1 e.symm)); have fE9 := Wd_thaw HE9.out 0; have cE9 : w9.cell? ⟨E, 0, none⟩ = some (.int .i64 0) := cell_of HE9.out rfl; have HM9 := Aside0.mk (show Below w.heap.size w w9 from toBelow' HB.out hm9.out (by have := HNE.out; omega))))
      rw [EDEC.out]
      exact door_ret _ _ D E Dg.zero 72 _ rfl rfl ((mv_set w9 E 0 _).blk HD9.out HNE.out.1) (set_of HE9.out 0 _) ⟨rfl, below_set1 HM9.out HNE.out.2.2 _⟩
    have o1 : decide ((1200 : Int) < (t.size : Int)) = false := decide_eq_false (by omega)
    clear hts
    by_cases h2 : l.take 3 = [74, 48, 49]
    · rw [decide_eq_true h2, if_pos h2] at HCUT
      obtain ⟨m, em⟩ : ∃ m, m = l.drop 3 := ⟨_, rfl⟩
      rw [← em] at HCUT
      have edec : dec l = _ := (if_neg h1).trans (if_pos h2)
      rw [← em] at edec
      have hlen : m.length ≤ 1200 := by rw [em, List.length_drop]; omega
      cases m with
      | nil =>
        have EDEC := Aside0.mk (show dec l = (Dg.zero, 71) from edec)
        clear edec em
        have o3 : (str ([] : List UInt8)).toList = [] := str_list []
        go_wp2_with (first
          | (go_at_call 25; (with_reducible refine (HCUT.out wc).mono ?_); rintro e w3 ⟨rfl, hb3⟩; have HD3 := Aside0.mk ((hb3.block D (blk_lt HD.out)).trans HD.out); have HE3 := Aside0.mk ((hb3.block E (blk_lt HE.out)).trans HE.out); have HB3 := Aside0.mk (HB.out.trans (hb3.mono HB.out.size)); clear hb3; clear HD HE HB; have HD := HD3; have HE := HE3; have HB := HB3; clear HD3 HE3 HB3)
          | (refine wpList_load_agg rfl 27 _ rfl D 0 rfl Dg.zero.cells (load_all HD.out) _ Tryz.underlying27 rfl (by kernel_rfl) ?_)
          | (refine wpList_store_agg rfl 27 _ _ rfl D 0 rfl Dg.zero.cells Dg.zero.cells rfl _ HD.out (by exact Nat.le_refl 15) (fun v hv => one_cells hv) (by kernel_rfl) ?_; intro w9 hD9 hm9 hz9; have HD9 := Aside0.mk (show w9.heap[D]? = some (.cells (Dg.zero.cells).toArray 27 (0, 0)) from hD9.out); have HE9 := Aside0.mk (show w9.heap[E]? = some (.cells [Value.int .i64 0].toArray 28 (0, 0)) from hm9.out.blk HE.out (fun e => HNE.out.1 e.symm)); have fE9 := Wd_thaw HE9.out 0; have cE9 : w9.cell? ⟨E, 0, none⟩ = some (.int .i64 0) := cell_of HE9.out rfl; have HM9 := Aside0.mk (show Below w.heap.size w w9 from toBelow' HB.out hm9.out (by have := HNE.out; omega))))
        rw [EDEC.out]
        exact door_ret _ _ D E Dg.zero 71 _ rfl rfl ((mv_set w9 E 0 _).blk HD9.out HNE.out.1) (set_of HE9.out 0 _) ⟨rfl, below_set1 HM9.out HNE.out.2.2 _⟩
      | cons k r =>
        obtain ⟨bd, ebd⟩ : ∃ bd, bd = str (k :: r) := ⟨_, rfl⟩
        rw [← ebd] at HCUT
        have HBS := Aside0.mk (show bd.size = r.length + 1 from by rw [ebd]; rfl)
        have o3 : ¬ bd.toList = [] := by rw [ebd, str_list]; exact List.cons_ne_nil _ _
        have o4 : 0 < bd.size := by have := HBS.out; omega
        have o5 : bd.toList.isEmpty = false := by rw [ebd, str_list]; rfl
        have hk0 : ∀ h : 0 < bd.size, wrap64 ((bd[0]'h).toNat : Int) = (k.toNat : Int) := by
          intro h
          subst ebd
          show wrap64 (k.toNat : Int) = (k.toNat : Int)
          have := k.toNat_lt
          unfold wrap64
          omega
        have htl : bd.extract 1 bd.size = str r := by rw [ebd]; exact str_drop (k :: r) 1
        by_cases h3 : 1 ≤ (k.toNat : Int) ∧ (k.toNat : Int) ≤ 7
        · have KC := Aside0.mk (show ∀ (h : 0 < bd.size) w, Calls Tryz.prog 26 #[.int .i64 (wrap64 ((bd[0]'h).toNat : Int))] w fun e w' => e = .returned (.bool true) ∧ w' = w from fun h w => by
            have := known_calls (k.toNat : Int) w
            rw [decide_eq_true h3] at this
            rw [hk0 h]
            exact this)
          have NC := Aside0.mk (show ∀ w, Calls Tryz.prog 28 #[.string (bd.extract 1 bd.size)] w fun e w' => ∃ p, e = .returned (.pointer (some ⟨p, 0, none⟩)) ∧ p = w.heap.size ∧ w'.heap.size = p + 1 ∧ RdAt w' p r ∧ Below w.heap.size w w' from fun w => by rw [htl]; exact newR_calls w r)
          have FC := Aside0.mk (show ∀ (h : 0 < bd.size) w, Calls Tryz.prog 29 #[.int .i64 (wrap64 ((bd[0]'h).toNat : Int))] w fun e w' => ∃ b, e = .returned (.slice (some ⟨b, 0, none⟩) (fieldsOf (k.toNat : Int)).length (fieldsOf (k.toNat : Int)).length) ∧ w.heap.size ≤ b ∧ w'.heap[b]? = some (.cells ((fieldsOf (k.toNat : Int)).flatMap Fld.vals).toArray 60 (0, 0)) ∧ Below w.heap.size w w' from fun h w => by rw [hk0 h]; exact fields_calls (k.toNat : Int) w)
          have HK0 := Aside0.mk hk0
          have EDEC := Aside0.mk (edec.trans (if_pos h3))
          have HLEN := Aside0.mk hlen
          clear edec em ebd htl hk0 hlen
          go_upto_region 11 with (first
            | (go_at_call 25; (with_reducible refine (HCUT.out wc).mono ?_); rintro e w3 ⟨rfl, hb3⟩; have HD3 := Aside0.mk ((hb3.block D (blk_lt HD.out)).trans HD.out); have HE3 := Aside0.mk ((hb3.block E (blk_lt HE.out)).trans HE.out); have HB3 := Aside0.mk (HB.out.trans (hb3.mono HB.out.size)); clear hb3; clear HD HE HB; have HD := HD3; have HE := HE3; have HB := HB3; clear HD3 HE3 HB3)
            | (go_at_call 26; (with_reducible refine (KC.out _ w3).mono ?_); rintro e w0 ⟨rfl, rfl⟩)
            | (go_at_call 28; (with_reducible refine (NC.out _).mono ?_); rintro e w4 ⟨p, rfl, hp4, hz4, hr4, hb4⟩; have HP4 := Aside0.mk hp4; have HR4 := Aside0.mk hr4; have HB4 := Aside0.mk hb4; clear hp4 hz4 hr4 hb4)
            | (refine wpList_box_v rfl 54 _ rfl (Dg.zero.row p false) (by rfl) (by kernel_rfl) ?_; intro R w5 eR hR5 hb5 hz5; have c1 : w5.cell? ⟨R, 1, none⟩ = some (.int .i64 0) := cell_of hR5.out rfl; have f1 := Wd_thaw hR5.out 1))
          obtain ⟨w6, ew6⟩ : ∃ x, x = w5.setCell ⟨R, 1, none⟩ (.int .i64 (wrap64 ((bd[0]'o4).toNat : Int))) := ⟨_, rfl⟩
          have hR6 : RgAt w6 R p { Dg.zero with kind := (k.toNat : Int) } false r := by
            have h0 : RgAt w5 R p Dg.zero false r := ⟨by have := eR.out; have := blk_lt HR4.out; omega, hR5.out, (hb5.out.block p (blk_lt HR4.out)).trans HR4.out⟩
            rw [ew6, HK0.out o4]
            exact h0.setX 1 _ rfl
          have c6 : w6.cell? ⟨R, 1, none⟩ = some (.int .i64 (wrap64 ((bd[0]'o4).toNat : Int))) := by rw [HK0.out o4]; exact hR6.at_ rfl
          have hm6 : Mv w5 w6 (fun k => k = R) := by rw [ew6]; exact mv_set w5 R 1 _
          have HR6 := Aside0.mk hR6
          have HN6 := Aside0.mk (show (D ≠ R ∧ D ≠ p ∧ E ≠ R ∧ E ≠ p) ∧ w.heap.size ≤ R ∧ w.heap.size ≤ p from by
            have h1 := blk_lt HD.out; have h2 := blk_lt HE.out; have h3 := eR.out; have h4 := HP4.out; have h5 := HB4.out.size; have h6 := HB.out.size; have h7 := blk_lt HR4.out
            exact ⟨⟨by omega, by omega, by omega, by omega⟩, by omega, by omega⟩)
          have h45 : Below w0.heap.size w0 w5 := HB4.out.trans (hb5.out.mono HB4.out.size)
          have HD6 := Aside0.mk (hm6.blk ((h45.block D (blk_lt HD.out)).trans HD.out) HN6.out.1.1)
          have HE6 := Aside0.mk (hm6.blk ((h45.block E (blk_lt HE.out)).trans HE.out) HN6.out.1.2.2.1)
          have HB6 := Aside0.mk (show Below w.heap.size w w6 from Mv.toBelow (HB.out.trans (h45.mono HB.out.size)) hm6 (fun k hk => by have := HN6.out; omega))
          rw [← ew6]
          clear ew6 hR6 hm6 h45 HD HE HB HP4 HR4 HB4 eR hR5 hb5 hz5 c1 f1 KC NC HCUT o3 o5 h3
          go_wp2_with (go_at_call 29; (with_reducible refine (FC.out _ w6).mono ?_); rintro e w7 ⟨b, rfl, hb7, hrow7, hbw7⟩)
          obtain ⟨fs, efs⟩ : ∃ fs, fs = fieldsOf (k.toNat : Int) := ⟨_, rfl⟩
          obtain ⟨n, en⟩ : ∃ n, n = fs.length := ⟨_, rfl⟩
          obtain ⟨s0, es0⟩ : ∃ s0 : Dg × Bool × List UInt8, s0 = ({ Dg.zero with kind := (k.toNat : Int) }, false, r) := ⟨_, rfl⟩
          rw [← efs] at hrow7
          rw [← efs, ← en]
          have EDEC2 := Aside0.mk (show dec l = (match getAll fs s0 with | none => (Dg.zero, 72) | some (d, bad, r) => if r ≠ [] then (Dg.zero, 72) else if bad = true then (Dg.zero, 73) else (d, 0)) from by rw [efs, es0]; exact EDEC.out)
          have HROW := Aside0.mk hrow7
          have HBN := Aside0.mk (show b ≠ R ∧ b ≠ p ∧ n ≤ 5 ∧ fs.length = n from by have h1 := blk_lt HR6.out.2.1; have h2 := blk_lt HR6.out.2.2; exact ⟨by omega, by omega, by rw [en, efs]; exact fields_len _, en.symm⟩)
          have HR7 := Aside0.mk (show RgAt w7 R p s0.1 s0.2.1 s0.2.2 from by rw [es0]; exact HR6.out.fresh (Mv.of_below hbw7 _))
          have HL0 := Aside0.mk (show s0.2.2.length ≤ 1200 from by rw [es0]; have := HLEN.out; rw [List.length_cons] at this; show r.length ≤ 1200; omega)
          have HD7 := Aside0.mk ((hbw7.block D (blk_lt HD6.out)).trans HD6.out)
          have HE7 := Aside0.mk ((hbw7.block E (blk_lt HE6.out)).trans HE6.out)
          have HB7 := Aside0.mk (HB6.out.trans (hbw7.mono HB6.out.size))
          clear efs en es0 hrow7 hb7 hbw7 HR6 HD6 HE6 HB6 FC EDEC HK0 c6 HLEN
          go_loopw [51] (fun iv wq => ∃ (i : Nat) (s : Dg × Bool × List UInt8), iv = .int .i64 (i : Int) ∧ i ≤ n ∧ RgAt wq R p s.1 s.2.1 s.2.2 ∧ (getAll (fs.drop i) s = getAll fs s0 ∧ s.2.2.length ≤ 1200) ∧ Mv w7 wq (fun k => k = R ∨ k = p)) (fun iv _ => n - (intOf iv).toNat)
          case atStart => exact ⟨0, s0, rfl, by omega, HR7.out, ⟨rfl, HL0.out⟩, Mv.refl _ _⟩
          case round =>
            obtain ⟨i, s, rfl, hi, hG, hA, hM⟩ := hrel
            have GI := Aside0.mk hG
            have MI := Aside0.mk hM
            have AI := Aside0.mk hA
            have RI := Aside0.mk (show wr.heap[b]? = _ from hM.blk HROW.out (fun e => by rcases e with e | e; exact HBN.out.1 e; exact HBN.out.2.1 e))
            clear hG hM hA
            by_cases hk : i < n
            · have o1 : decide ((i : Int) < (n : Int)) = true := decide_eq_true (by omega)
              have o2 : decide (i < n) = true := decide_eq_true hk
              have q1 : ((i : Int) < (n : Int)) = True := eq_true (by omega)
              have q2 : (i < n) = True := eq_true hk
              obtain ⟨f, hf⟩ : ∃ f, fs[i]? = some f := ⟨_, List.getElem?_eq_getElem (by rw [HBN.out.2.2.2]; exact hk)⟩
              have HF := Aside0.mk hf
              have AF := Aside0.mk (show getAll (f :: fs.drop (i + 1)) s = getAll fs s0 from by
                have hin : i < fs.length := by rw [HBN.out.2.2.2]; exact hk
                have e : fs.drop i = f :: fs.drop (i + 1) := by rw [List.drop_eq_getElem_cons hin, Option.some.inj ((List.getElem?_eq_getElem hin).symm.trans hf)]
                rw [← AI.out.1, e])
              have ZI := Aside0.mk (show wrap64 ((i : Int) + 1) = ((i + 1 : Nat) : Int) by have := HBN.out; unfold wrap64; omega)
              clear hf
              cases hs : getF f s with
              | some s' =>
                have SG := Aside0.mk hs
                clear hs
                go_wp2_with (first
                  | (refine wpList_load_agg rfl 60 _ rfl b (i * 2) rfl f.vals (fun j v hv => cell_of RI.out (by have h := vals_at fs i f HF.out; rw [Nat.mul_comm i 2]; match j, hv with | 0, hv => cases hv; exact h.1 | 1, hv => cases hv; exact h.2)) _ Tryz.underlying60 rfl (by kernel_rfl) ?_)
                  | (refine wpList_alloc_v rfl 60 rfl [.nilFunc, .nilFunc] (by kernel_rfl) ?_; intro F w8 eF hF8 hb8 hz8)
                  | (refine wpList_store_agg rfl 60 _ _ rfl F 0 rfl f.vals _ rfl _ hF8.out (by exact Nat.le_refl 2) (fun v hv => one_vals hv) (by kernel_rfl) ?_; intro w9 hF9 hm9 hz9; rw [splice_all [.nilFunc, .nilFunc] f.vals rfl] at hF9; have cF : w9.cell? ⟨F, 0, none⟩ = some (.func (.func f.get) #[] #[]) := cell_of hF9.out rfl; have MV9 := Aside0.mk (show Mv wr w9 (fun k => wr.heap.size ≤ k) from (Mv.of_below hb8.out (fun k => wr.heap.size ≤ k)).then hm9.out (fun k hk => Or.inl (by have := eF.out; omega))); have G9 := Aside0.mk (GI.out.fresh MV9.out))
                  | (refine goesLv_ (some 58) rfl rfl (get_fn f) #[.pointer (some ⟨R, 0, none⟩)] rfl rfl (by simp [Act.eval]) ?_; refine (get_ok f w9 R p s s' (by have := AI.out.2; omega) G9.out SG.out).mono ?_; rintro e w10 ⟨rfl, hg10, hm10⟩; refine ⟨_, rfl, ?_⟩))
                rw [ZI.out]
                exact ⟨⟨i + 1, s', rfl, by omega, hg10, ⟨(getAll_some SG.out).symm.trans AF.out, Nat.le_trans (getF_len SG.out) AI.out.2⟩, MI.out.then (two_mv MV9.out hm10) (fun k hk => hk.imp id (fun h => Nat.le_trans MI.out.size h))⟩, by simp only [intOf]; omega⟩
              | none =>
                have SG := Aside0.mk hs
                clear hs
                have EZ := Aside0.mk (show dec l = (Dg.zero, 72) from by rw [EDEC2.out, ← AF.out, getAll_none SG.out])
                go_wp2_with (first
                  | (refine wpList_load_agg rfl 60 _ rfl b (i * 2) rfl f.vals (fun j v hv => cell_of RI.out (by have h := vals_at fs i f HF.out; rw [Nat.mul_comm i 2]; match j, hv with | 0, hv => cases hv; exact h.1 | 1, hv => cases hv; exact h.2)) _ Tryz.underlying60 rfl (by kernel_rfl) ?_)
                  | (refine wpList_alloc_v rfl 60 rfl [.nilFunc, .nilFunc] (by kernel_rfl) ?_; intro F w8 eF hF8 hb8 hz8)
                  | (refine wpList_store_agg rfl 60 _ _ rfl F 0 rfl f.vals _ rfl _ hF8.out (by exact Nat.le_refl 2) (fun v hv => one_vals hv) (by kernel_rfl) ?_; intro w9 hF9 hm9 hz9; rw [splice_all [.nilFunc, .nilFunc] f.vals rfl] at hF9; have cF : w9.cell? ⟨F, 0, none⟩ = some (.func (.func f.get) #[] #[]) := cell_of hF9.out rfl; have MV9 := Aside0.mk (show Mv wr w9 (fun k => wr.heap.size ≤ k) from (Mv.of_below hb8.out (fun k => wr.heap.size ≤ k)).then hm9.out (fun k hk => Or.inl (by have := eF.out; omega))); have G9 := Aside0.mk (GI.out.fresh MV9.out))
                  | (refine goesLp_ rfl (get_fn f) #[.pointer (some ⟨R, 0, none⟩)] rfl rfl (by simp [Act.eval]) ?_; refine (get_short f w9 R p s G9.out SG.out).mono ?_; rintro e w10 ⟨rfl, hm10⟩; refine ⟨_, rfl, ?_⟩))
                have M10 : Mv w7 w10 (fun k => k = R ∨ k = p) := MI.out.then (two_mv MV9.out hm10) (fun k hk => hk.imp id (fun h => Nat.le_trans MI.out.size h))
                have hN := HN6.out
                rw [EZ.out]
                exact door_short _ _ D E Dg.zero 0 _ rfl rfl HNE.out.1 (M10.blk HD7.out (by omega)) (M10.blk HE7.out (by omega)) (fun w' hm => ⟨rfl, Mv.toBelow (Mv.toBelow HB7.out M10 (fun k hk => by omega)) hm (fun k hk => by have := HNE.out; omega)⟩)
            · have o1 : decide ((i : Int) < (n : Int)) = false := decide_eq_false (by omega)
              have o2 : decide (i < n) = false := decide_eq_false hk
              have hall : fs.drop i = [] := List.drop_eq_nil_of_le (by have := HBN.out; omega)
              have EG := Aside0.mk (show getAll fs s0 = some s from by rw [← AI.out.1, hall]; rfl)
              have hN := HN6.out
              have HDr := Aside0.mk (MI.out.blk HD7.out (by omega))
              have HEr := Aside0.mk (MI.out.blk HE7.out (by omega))
              have HBr := Aside0.mk (Mv.toBelow HB7.out MI.out (fun k hk => by omega))
              have c0 : wr.cell? ⟨R, 0, none⟩ = some (.pointer (some ⟨p, 0, none⟩)) := GI.out.at_ rfl
              clear hall hN
              obtain ⟨d, bad, rest⟩ := s
              simp only at GI
              by_cases hr : rest = []
              · subst hr
                have LC := Aside0.mk (show ∀ w, RdAt w p [] → Calls Tryz.prog 30 #[.pointer (some ⟨p, 0, none⟩)] w fun e w' => e = .returned (.int .i64 0) ∧ w' = w from fun w hw => left_calls w p [] hw)
                cases bad with
                | true =>
                  have EZ := Aside0.mk (show dec l = (Dg.zero, 73) from by rw [EDEC2.out, EG.out]; rfl)
                  have c16 : wr.cell? ⟨R, 16, none⟩ = some (.bool true) := GI.out.at_ rfl
                  go_wp2_with (first
                    | (go_at_call 30; (with_reducible refine (LC.out wr GI.out.rd).mono ?_); rintro e w8 ⟨rfl, rfl⟩)
                    | (refine wpList_store_agg rfl 27 _ _ rfl D 0 rfl Dg.zero.cells Dg.zero.cells rfl _ HDr.out (by exact Nat.le_refl 15) (fun v hv => one_cells hv) (by kernel_rfl) ?_; intro w9 hD9 hm9 hz9; have HD9 := Aside0.mk (show w9.heap[D]? = some (.cells (Dg.zero.cells).toArray 27 (0, 0)) from hD9.out); have HE9 := Aside0.mk (show w9.heap[E]? = some (.cells [Value.int .i64 0].toArray 28 (0, 0)) from hm9.out.blk HEr.out (fun e => HNE.out.1 e.symm)); have fE9 := Wd_thaw HE9.out 0; have cE9 : w9.cell? ⟨E, 0, none⟩ = some (.int .i64 0) := cell_of HE9.out rfl; have HM9 := Aside0.mk (show Below w.heap.size w w9 from toBelow' HBr.out hm9.out (by have := HNE.out; omega))))
                  rw [EZ.out]
                  exact door_ok _ _ D E Dg.zero 73 _ rfl rfl ((mv_set w9 E 0 _).blk HD9.out HNE.out.1) (set_of HE9.out 0 _) ⟨rfl, below_set1 HM9.out HNE.out.2.2 _⟩
                | false =>
                  have EZ := Aside0.mk (show dec l = (d, 0) from by rw [EDEC2.out, EG.out]; rfl)
                  have c16 : wr.cell? ⟨R, 16, none⟩ = some (.bool false) := GI.out.at_ rfl
                  go_wp2_with (first
                    | (go_at_call 30; (with_reducible refine (LC.out wr GI.out.rd).mono ?_); rintro e w8 ⟨rfl, rfl⟩)
                    | (refine wpList_load_agg rfl 27 _ rfl R 1 rfl d.cells GI.out.load _ Tryz.underlying27 rfl (by kernel_rfl) ?_)
                    | (refine wpList_store_agg rfl 27 _ _ rfl D 0 rfl d.cells Dg.zero.cells rfl _ HDr.out (by exact Nat.le_refl 15) (fun v hv => one_cells hv) (by kernel_rfl) ?_; intro w9 hD9 hm9 hz9; have HD9 := Aside0.mk (show w9.heap[D]? = some (.cells (d.cells).toArray 27 (0, 0)) from hD9.out); have HE9 := Aside0.mk (show w9.heap[E]? = some (.cells [Value.int .i64 0].toArray 28 (0, 0)) from hm9.out.blk HEr.out (fun e => HNE.out.1 e.symm)); have fE9 := Wd_thaw HE9.out 0; have cE9 : w9.cell? ⟨E, 0, none⟩ = some (.int .i64 0) := cell_of HE9.out rfl; have HM9 := Aside0.mk (show Below w.heap.size w w9 from toBelow' HBr.out hm9.out (by have := HNE.out; omega))))
                  rw [EZ.out]
                  exact door_ok _ _ D E d 0 _ rfl rfl ((mv_set w9 E 0 _).blk HD9.out HNE.out.1) (set_of HE9.out 0 _) ⟨rfl, below_set1 HM9.out HNE.out.2.2 _⟩
              · have EZ := Aside0.mk (show dec l = (Dg.zero, 72) from by rw [EDEC2.out, EG.out]; exact if_pos hr)
                have hlr : 0 < rest.length := List.length_pos_iff.mpr hr
                have o3 : decide ((0 : Int) < (rest.length : Int)) = true := decide_eq_true (by omega)
                go_wp2_with (first
                  | (go_at_call 30; (with_reducible refine (left_calls wr p rest GI.out.rd).mono ?_); rintro e w8 ⟨rfl, rfl⟩)
                  | (refine wpList_store_agg rfl 27 _ _ rfl D 0 rfl Dg.zero.cells Dg.zero.cells rfl _ HDr.out (by exact Nat.le_refl 15) (fun v hv => one_cells hv) (by kernel_rfl) ?_; intro w9 hD9 hm9 hz9; have HD9 := Aside0.mk (show w9.heap[D]? = some (.cells (Dg.zero.cells).toArray 27 (0, 0)) from hD9.out); have HE9 := Aside0.mk (show w9.heap[E]? = some (.cells [Value.int .i64 0].toArray 28 (0, 0)) from hm9.out.blk HEr.out (fun e => HNE.out.1 e.symm)); have fE9 := Wd_thaw HE9.out 0; have cE9 : w9.cell? ⟨E, 0, none⟩ = some (.int .i64 0) := cell_of HE9.out rfl; have HM9 := Aside0.mk (show Below w.heap.size w w9 from toBelow' HBr.out hm9.out (by have := HNE.out; omega))))
                rw [EZ.out]
                exact door_ok _ _ D E Dg.zero 72 _ rfl rfl ((mv_set w9 E 0 _).blk HD9.out HNE.out.1) (set_of HE9.out 0 _) ⟨rfl, below_set1 HM9.out HNE.out.2.2 _⟩
        · have EDEC := Aside0.mk (show dec l = (Dg.zero, 71) from edec.trans (if_neg h3))
          have KC := Aside0.mk (show ∀ (h : 0 < bd.size) w, Calls Tryz.prog 26 #[.int .i64 (wrap64 ((bd[0]'h).toNat : Int))] w fun e w' => e = .returned (.bool false) ∧ w' = w from fun h w => by
            have := known_calls (k.toNat : Int) w
            rw [decide_eq_false h3] at this
            rw [hk0 h]
            exact this)
          clear edec em ebd hk0 htl
          go_wp2_with (first
            | (go_at_call 25; (with_reducible refine (HCUT.out wc).mono ?_); rintro e w3 ⟨rfl, hb3⟩; have HD3 := Aside0.mk ((hb3.block D (blk_lt HD.out)).trans HD.out); have HE3 := Aside0.mk ((hb3.block E (blk_lt HE.out)).trans HE.out); have HB3 := Aside0.mk (HB.out.trans (hb3.mono HB.out.size)); clear hb3; clear HD HE HB; have HD := HD3; have HE := HE3; have HB := HB3; clear HD3 HE3 HB3)
            | (go_at_call 26; (with_reducible refine (KC.out _ w3).mono ?_); rintro e w0 ⟨rfl, rfl⟩)
            | (refine wpList_load_agg rfl 27 _ rfl D 0 rfl Dg.zero.cells (load_all HD.out) _ Tryz.underlying27 rfl (by kernel_rfl) ?_)
            | (refine wpList_store_agg rfl 27 _ _ rfl D 0 rfl Dg.zero.cells Dg.zero.cells rfl _ HD.out (by exact Nat.le_refl 15) (fun v hv => one_cells hv) (by kernel_rfl) ?_; intro w9 hD9 hm9 hz9; have HD9 := Aside0.mk (show w9.heap[D]? = some (.cells (Dg.zero.cells).toArray 27 (0, 0)) from hD9.out); have HE9 := Aside0.mk (show w9.heap[E]? = some (.cells [Value.int .i64 0].toArray 28 (0, 0)) from hm9.out.blk HE.out (fun e => HNE.out.1 e.symm)); have fE9 := Wd_thaw HE9.out 0; have cE9 : w9.cell? ⟨E, 0, none⟩ = some (.int .i64 0) := cell_of HE9.out rfl; have HM9 := Aside0.mk (show Below w.heap.size w w9 from toBelow' HB.out hm9.out (by have := HNE.out; omega))))
          rw [EDEC.out]
          exact door_ret _ _ D E Dg.zero 71 _ rfl rfl ((mv_set w9 E 0 _).blk HD9.out HNE.out.1) (set_of HE9.out 0 _) ⟨rfl, below_set1 HM9.out HNE.out.2.2 _⟩
    · rw [decide_eq_false h2, if_neg h2] at HCUT
      have EDEC := Aside0.mk (show dec l = (Dg.zero, 70) from (if_neg h1).trans (if_neg h2))
      go_wp2_with (first
        | (go_at_call 25; (with_reducible refine (HCUT.out wc).mono ?_); rintro e w3 ⟨rfl, hb3⟩; have HD3 := Aside0.mk ((hb3.block D (blk_lt HD.out)).trans HD.out); have HE3 := Aside0.mk ((hb3.block E (blk_lt HE.out)).trans HE.out); have HB3 := Aside0.mk (HB.out.trans (hb3.mono HB.out.size)); clear hb3; clear HD HE HB; have HD := HD3; have HE := HE3; have HB := HB3; clear HD3 HE3 HB3)
        | (refine wpList_load_agg rfl 27 _ rfl D 0 rfl Dg.zero.cells (load_all HD.out) _ Tryz.underlying27 rfl (by kernel_rfl) ?_)
        | (refine wpList_store_agg rfl 27 _ _ rfl D 0 rfl Dg.zero.cells Dg.zero.cells rfl _ HD.out (by exact Nat.le_refl 15) (fun v hv => one_cells hv) (by kernel_rfl) ?_; intro w9 hD9 hm9 hz9; have HD9 := Aside0.mk (show w9.heap[D]? = some (.cells (Dg.zero.cells).toArray 27 (0, 0)) from hD9.out); have HE9 := Aside0.mk (show w9.heap[E]? = some (.cells [Value.int .i64 0].toArray 28 (0, 0)) from hm9.out.blk HE.out (fun e => HNE.out.1 e.symm)); have fE9 := Wd_thaw HE9.out 0; have cE9 : w9.cell? ⟨E, 0, none⟩ = some (.int .i64 0) := cell_of HE9.out rfl; have HM9 := Aside0.mk (show Below w.heap.size w w9 from toBelow' HB.out hm9.out (by have := HNE.out; omega))))
      rw [EDEC.out]
      exact door_ret _ _ D E Dg.zero 70 _ rfl rfl ((mv_set w9 E 0 _).blk HD9.out HNE.out.1) (set_of HE9.out 0 _) ⟨rfl, below_set1 HM9.out HNE.out.2.2 _⟩
end Go.Proofs.YtniabkphbnimaaaGreatDoor.Sh
namespace Go.Proofs.YtniabkphbnimaaaGreatDoor.Sh
open Go Go.RowKit Go.Maps Go.Proofs.YtniabkphbnimaaaGreatDoorW.PrintWords Go.Proofs.YtniabkphbnimaaaGreatDoorW.PrintLast Go.Proofs.YtniabkphbnimaaaGreatDoor.Bs
theorem bt_str (l : List UInt8) (i : Int) : bt (str l) i = ((l.getD i.toNat 0).toNat : Int) := by
  unfold bt
  by_cases h : i.toNat < (str l).size
  · have h' : i.toNat < l.length := h
    rw [dif_pos h, List.getD_eq_getElem?_getD, List.getElem?_eq_getElem h']
    show (((l.toArray)[i.toNat]).toNat : Int) = _
    simp
  · have h' : l.length ≤ i.toNat := Nat.le_of_not_lt h
    rw [dif_neg h, List.getD_eq_getElem?_getD, List.getElem?_eq_none h']
    rfl
theorem orx (c a b : UInt8) : Go.bits .or .u8 (c.toNat : Int) (Go.bits .xor .u8 (a.toNat : Int) (b.toNat : Int)) = ((c ||| (a ^^^ b)).toNat : Int) := by
  show IntKind.u8.wrap ((BitVec.ofInt 8 (c.toNat : Int) ||| BitVec.ofInt 8 (IntKind.u8.wrap ((BitVec.ofInt 8 (a.toNat : Int) ^^^ BitVec.ofInt 8 (b.toNat : Int)).toNat : Int))).toNat : Int) = _
  have e (x : UInt8) : BitVec.ofInt 8 (x.toNat : Int) = x.toBitVec := by
    rw [BitVec.ofInt_natCast]
    simp
  have e2 (x : BitVec 8) : IntKind.u8.wrap (x.toNat : Int) = (x.toNat : Int) := by
    have := x.isLt
    rw [wrap_u8]
    omega
  rw [e, e, e, e2, e2]
  rw [BitVec.ofInt_natCast]
  simp
theorem same_l (a b : List UInt8) (hl : a.length = b.length) (hs : a.length < 4611686018427387904) : ∀ (m i k : Nat) (c : UInt8), m = a.length - i → i ≤ a.length → m < k →
    QQA.mac_Same.l0 k (str a) (str b) (c.toNat : Int) (a.length : Int) (i : Int) = some (decide (c = 0 ∧ a.drop i = b.drop i)) := by
  intro m
  induction m with
  | zero =>
    intro i k c hm hi hk
    obtain ⟨k, rfl⟩ : ∃ j, k = j + 1 := ⟨k - 1, by omega⟩
    unfold QQA.mac_Same.l0
    rw [if_neg (by omega), List.drop_of_length_le (by omega), List.drop_of_length_le (by omega)]
    congr 1
    by_cases hc : c = 0
    · subst hc; rfl
    · have : ¬ ((c.toNat : Int) = 0) := fun h => hc (UInt8.toNat_inj.mp (by show c.toNat = 0; omega))
      rw [decide_eq_false (by intro h; exact hc h.1)]
      exact beq_eq_false_iff_ne.mpr this
  | succ m ih =>
    intro i k c hm hi hk
    obtain ⟨k, rfl⟩ : ∃ j, k = j + 1 := ⟨k - 1, by omega⟩
    have hz : wrap64 ((i : Int) + 1) = ((i + 1 : Nat) : Int) := by unfold wrap64; omega
    have s1 : ((str a).size : Int) = (a.length : Int) := rfl
    have s2 : ((str b).size : Int) = (b.length : Int) := rfl
    unfold QQA.mac_Same.l0
    rw [if_pos (by omega), if_pos (by omega), if_pos (by omega), if_pos (by omega), bt_str, bt_str, orx, hz]
    rw [ih (i + 1) k _ (by omega) (by omega) (by omega)]
    congr 1
    have ha : i < a.length := by omega
    have hb : i < b.length := by omega
    rw [List.drop_eq_getElem_cons ha, List.drop_eq_getElem_cons hb]
    have ga : a.getD ((i : Int)).toNat 0 = a[i] := by rw [Int.toNat_natCast, List.getD_eq_getElem?_getD, List.getElem?_eq_getElem ha]; rfl
    have gb : b.getD ((i : Int)).toNat 0 = b[i] := by rw [Int.toNat_natCast, List.getD_eq_getElem?_getD, List.getElem?_eq_getElem hb]; rfl
    rw [ga, gb]
    apply decide_eq_decide.mpr
    rw [UInt8.or_eq_zero_iff, UInt8.xor_eq_zero_iff, List.cons.injEq, and_assoc]
theorem same_f (a b : List UInt8) (hs : a.length < 4611686018427387904) : QQA.mac_Same.f (a.length + 1) (str a) (str b) = some (decide (a = b)) := by
  unfold QQA.mac_Same.f
  have s1 : ((str a).size : Int) = (a.length : Int) := rfl
  have s2 : ((str b).size : Int) = (b.length : Int) := rfl
  rw [s1, s2]
  by_cases h : a.length = b.length
  · rw [if_pos (by omega)]
    have := same_l a b h hs a.length 0 (a.length + 1) 0 (by omega) (by omega) (by omega)
    simpa using this
  · rw [if_neg (by omega), decide_eq_false (fun e => h (by rw [e]))]
theorem same_calls (a b : List UInt8) (hs : a.length < 4611686018427387904) (w : World) : Calls Tryz.prog 36 #[.string (str a), .string (str b)] w fun e w' => e = .returned (.bool (decide (a = b))) ∧ Below w.heap.size w w' :=
  (QQA.mac_Same.calls _ _ _ _ w (same_f a b hs)).mono fun e w' hh => ⟨hh.1, drawn_below hh.2⟩
/-- The bytes that a tag is over. -/
def bodyB (l : List UInt8) : List UInt8 := if l.take 3 = [74, 48, 49] ∧ 36 ≤ l.length ∧ 3 ≤ (l.getD 3 0).toNat ∧ (l.getD 3 0).toNat ≤ 7 then l.take (l.length - 32) else []
theorem hasP_f (l : List UInt8) : QQA.strings_HasPrefix.f (str l) ⟨#[74, 48, 49]⟩ = some (decide (l.take 3 = [74, 48, 49])) := by
  have e3 : ((⟨#[74, 48, 49]⟩ : ByteArray).size : Int) = 3 := rfl
  have e4 : (3 : Int).toNat = 3 := rfl
  unfold QQA.strings_HasPrefix.f QQA.stringslite_HasPrefix.f
  rw [e3, e4, str_take, str_list]
  by_cases hs : (3 : Int) ≤ ((str l).size : Int)
  · rw [if_pos hs, if_pos (by decide), if_pos hs, Go.ByteArray.toList_mk]
    by_cases h : l.take 3 = [74, 48, 49]
    · rw [h]; rfl
    · rw [decide_eq_false h]
      have e5 : (l.take 3 == [74, 48, 49]) = false := beq_eq_false_iff_ne.mpr h
      simp only [Option.bind_some]
      exact congrArg some e5
  · rw [if_neg hs]
    have h : ¬ l.take 3 = [74, 48, 49] := by
      intro h
      have := congrArg List.length h
      rw [List.length_take] at this
      have s1 : ((str l).size : Int) = (l.length : Int) := rfl
      simp at this
      omega
    rw [decide_eq_false h]
    rfl
theorem tagged_f (k : Int) : QQA.frame_tagged.f k = some (decide (3 ≤ k ∧ k ≤ 7)) := by
  unfold QQA.frame_tagged.f
  by_cases h : k ≥ 3
  · rw [if_pos h]
    congr 1
    exact decide_eq_decide.mpr ⟨fun h2 => ⟨h, h2⟩, fun h2 => h2.2⟩
  · rw [if_neg h, decide_eq_false (fun h2 => h h2.1)]
theorem tagged_calls (k : Int) (w : World) : Calls Tryz.prog 35 #[.int .i64 k] w fun e w' => e = .returned (.bool (decide (3 ≤ k ∧ k ≤ 7))) ∧ Below w.heap.size w w' :=
  (QQA.frame_tagged.calls _ _ w (tagged_f k)).mono fun e w' hh => ⟨hh.1, drawn_below hh.2⟩
theorem body_f (l : List UInt8) (hs : l.length < 4611686018427387904) : QQA.frame_Body.f (str l) = some (str (bodyB l)) := by
  have s1 : ((str l).size : Int) = (l.length : Int) := rfl
  have e3 : (3 : Int).toNat = 3 := rfl
  unfold QQA.frame_Body.f bodyB
  rw [hasP_f, s1]
  simp only [Option.bind_some]
  by_cases h1 : l.take 3 = [74, 48, 49]
  · rw [decide_eq_true h1, if_pos rfl]
    by_cases h2 : 36 ≤ l.length
    · have hb := (l.getD 3 0).toNat_lt
      have hz : wrap64 ((l.length : Int) - 32) = ((l.length - 32 : Nat) : Int) := by unfold wrap64; omega
      have hw : wrap64 ((l.getD 3 0).toNat : Int) = ((l.getD 3 0).toNat : Int) := by unfold wrap64; omega
      rw [if_neg (by omega), if_pos (by omega), bt_str, e3, hw, tagged_f]
      simp only [Option.bind_some]
      by_cases h3 : 3 ≤ (l.getD 3 0).toNat ∧ (l.getD 3 0).toNat ≤ 7
      · rw [decide_eq_true (show 3 ≤ ((l.getD 3 0).toNat : Int) ∧ ((l.getD 3 0).toNat : Int) ≤ 7 by omega), if_pos rfl, hz, if_pos (by omega), if_pos (by omega), if_pos ⟨h1, h2, h3⟩, Int.toNat_natCast, str_take]
      · rw [decide_eq_false (show ¬ (3 ≤ ((l.getD 3 0).toNat : Int) ∧ ((l.getD 3 0).toNat : Int) ≤ 7) by omega), if_neg (by decide), if_neg (fun h => h3 h.2.2)]
        rfl
    · rw [if_pos (by omega), if_neg (fun h => h2 h.2.1)]
      rfl
  · rw [decide_eq_false h1, if_neg (by decide), if_neg (fun h => h1 h.1)]
    rfl
theorem body_calls (l : List UInt8) (hs : l.length < 4611686018427387904) (w : World) : Calls Tryz.prog 12 #[.string (str l)] w fun e w' => e = .returned (.string (str (bodyB l))) ∧ Below w.heap.size w w' :=
  (QQA.frame_Body.calls _ _ w (body_f l hs)).mono fun e w' hh => ⟨hh.1, drawn_below hh.2⟩
end Go.Proofs.YtniabkphbnimaaaGreatDoor.Sh
namespace Go.Proofs.YtniabkphbnimaaaGreatDoor.Sh
open Go Go.RowKit Go.Maps Go.Proofs.YtniabkphbnimaaaGreatDoorW.PrintWords Go.Proofs.YtniabkphbnimaaaGreatDoorW.PrintLast Go.Proofs.YtniabkphbnimaaaGreatDoor.Bs
theorem str_bl (s : ByteArray) : str (bl s) = s := by
  cases s
  rfl
end Go.Proofs.YtniabkphbnimaaaGreatDoor.Sh
namespace Go.Proofs.YtniabkphbnimaaaGreatDoor.Sh
open Go Go.RowKit Go.Maps Go.Proofs.YtniabkphbnimaaaGreatDoorW.PrintWords Go.Proofs.YtniabkphbnimaaaGreatDoorW.PrintLast Go.Proofs.YtniabkphbnimaaaGreatDoor.Bs
theorem gl_below {w w' : World} (h : GL w) (hb : Below w.heap.size w w') : GL w' := by
  obtain ⟨t, fr, h⟩ := h
  exact ⟨t, fr, (hb.block _ (blk_lt h)).trans h⟩
def sealedB (l : List UInt8) (k : List UInt8) : Bool := decide (bodyB l ≠ [] ∧ l.drop (bodyB l).length = hmac k (bodyB l))
theorem body_len (l : List UInt8) : (bodyB l).length ≤ l.length := by
  unfold bodyB
  split
  · rw [List.length_take]; omega
  · exact Nat.zero_le _
def T_14_2 : Bool × List (List Nat × List Nat) := (true, [([], []), ([0], [0]), ([1], [1]), ([2], [2]), ([2], [2]), ([4, 2], [2, 4]), ([3, 5, 2], [2, 3, 5]), ([2], [2]), ([2], [2]), ([7, 8, 2, 2], [2, 7, 8]), ([6, 9, 9, 2], [2, 6, 9]), ([2, 10], [2, 10]), ([11, 10, 0, 1, 2, 3, 4, 5, 6, 7, 8, 9, 10, 11], [11])])
def B_14_2 : List Nat := [0, 1, 3, 7, 7, 23, 63, 7, 7, 391, 1023, 2047, 4095]
theorem tab_f14_2 : rtab .any (opsOf Tryz.f14 2) = T_14_2 := by kernel_rfl
theorem bits_f14_2 : waitsOk T_14_2.2 B_14_2 = true := by kernel_rfl
set_option maxHeartbeats 8000000 in
set_option maxRecDepth 100000 in
theorem sealed_calls (l : List UInt8) (k : ByteArray) (w : World) (hg : GL w) (hl : l.length < 1099511627776) (hk : k.size < 1099511627776) : Calls Tryz.prog 14 #[.string (str l), .string k] w fun e w' => e = .returned (.bool (sealedB l (bl k))) ∧ Below w.heap.size w w' := by
  have HG := Aside0.mk hg
  have HK := Aside0.mk hk
  have HL := Aside0.mk hl
  obtain ⟨t, et⟩ : ∃ t, t = str l := ⟨_, rfl⟩
  have hts : t.size = l.length := by rw [et]; rfl
  obtain ⟨b, eb⟩ : ∃ b, b = str (bodyB l) := ⟨_, rfl⟩
  have hbs : b.size = (bodyB l).length := by rw [eb]; rfl
  rw [← et]
  have BC := Aside0.mk (show ∀ w, Calls Tryz.prog 12 #[.string t] w fun e w' => e = .returned (.string b) ∧ Below w.heap.size w w' from fun w => by rw [et, eb]; exact body_calls l (by omega) w)
  by_cases hb : bodyB l = []
  · have o1 : b.toList = [] := by rw [eb, hb]; exact str_list []
    have o2 : b.toList.isEmpty = true := by rw [o1]; rfl
    have ES := Aside0.mk (show sealedB l (bl k) = false from decide_eq_false (fun h => h.1 hb))
    clear et eb hts hbs hb hg hk hl
    go_enter Tryz.func14, Tryz.ntmps14
    go_wp2_with (go_at_call 12; (with_reducible refine (BC.out w).mono ?_); rintro e w1 ⟨rfl, hb1⟩; have HB1 := Aside0.mk hb1; clear hb1)
    refine start_ (n := 13) (S := fun w' => True) (ds := []) #[false, false, false, false, false, false, false, false, false, false, false, false, false] (by kernel_rfl) rfl rfl trivial (fun hHeld => ?_)
    refine with_tabW tab_f14_2 bits_f14_2 (fun HT_ HW_ => ?_)
    refine pure_ (i := 0) (N := some 8) (v := ?_) (a' := ?_) #[true, false, false, false, false, false, false, false, false, false, false, false, false] rfl rfl (any_of HT_.out (by kernel_rfl)) (fun _ _ _ h => h) (Or.inl ⟨by rfl, ?_⟩) ?_ ?_
    rotate_left
    · intro w'
      go_simp
      with_reducible rfl
    rotate_left
    · simp only [Act.put, List.setIfInBounds_toArray, List.set_cons_zero, List.set_cons_succ, i64_w, i32_w]
      rfl
    refine pure_ (i := 1) (N := some 9) (v := ?_) (a' := ?_) #[true, true, false, false, false, false, false, false, false, false, false, false, false] rfl rfl (any_of HT_.out (by kernel_rfl)) (fun _ _ _ h => h) (Or.inl ⟨by rfl, ?_⟩) ?_ ?_
    rotate_left
    · intro w'
      go_simp
      with_reducible rfl
    rotate_left
    · simp only [Act.put, List.setIfInBounds_toArray, List.set_cons_zero, List.set_cons_succ, i64_w, i32_w]
      rfl
    refine pure_ (i := 2) (N := some 10) (v := ?_) (a' := ?_) #[true, true, true, false, false, false, false, false, false, false, false, false, false] rfl rfl (any_of HT_.out (by kernel_rfl)) (fun _ _ _ h => h) (Or.inl ⟨by rfl, ?_⟩) ?_ ?_
    rotate_left
    · intro w'
      go_simp
      with_reducible rfl
    rotate_left
    · simp only [Act.put, List.setIfInBounds_toArray, List.set_cons_zero, List.set_cons_succ, i64_w, i32_w]
      rfl
    refine pure_ (i := 3) (N := some 11) (v := undef) (a' := ?_) #[true, true, true, true, false, false, false, false, false, false, false, false, false] rfl rfl (any_of HT_.out (by kernel_rfl)) (fun _ _ _ h => h) (Or.inr ⟨by rfl, rfl⟩) ?_ ?_
    rotate_left
    · simp only [Act.put, List.setIfInBounds_toArray, List.set_cons_zero, List.set_cons_succ, i64_w, i32_w]
      rfl
    refine pure_ (i := 4) (N := some 12) (v := undef) (a' := ?_) #[true, true, true, true, true, false, false, false, false, false, false, false, false] rfl rfl (any_of HT_.out (by kernel_rfl)) (fun _ _ _ h => h) (Or.inr ⟨by rfl, rfl⟩) ?_ ?_
    rotate_left
    · simp only [Act.put, List.setIfInBounds_toArray, List.set_cons_zero, List.set_cons_succ, i64_w, i32_w]
      rfl
    refine pure_ (i := 5) (N := some 13) (v := undef) (a' := ?_) #[true, true, true, true, true, true, false, false, false, false, false, false, false] rfl rfl (any_of HT_.out (by kernel_rfl)) (fun _ _ _ h => h) (Or.inr ⟨by rfl, rfl⟩) ?_ ?_
    rotate_left
    · simp only [Act.put, List.setIfInBounds_toArray, List.set_cons_zero, List.set_cons_succ, i64_w, i32_w]
      rfl
    refine pure_ (i := 6) (N := some 14) (v := undef) (a' := ?_) #[true, true, true, true, true, true, true, false, false, false, false, false, false] rfl rfl (any_of HT_.out (by kernel_rfl)) (fun _ _ _ h => h) (Or.inr ⟨by rfl, rfl⟩) ?_ ?_
    rotate_left
    · simp only [Act.put, List.setIfInBounds_toArray, List.set_cons_zero, List.set_cons_succ, i64_w, i32_w]
      rfl
    refine pure_ (i := 7) (N := some 15) (v := undef) (a' := ?_) #[true, true, true, true, true, true, true, true, false, false, false, false, false] rfl rfl (any_of HT_.out (by kernel_rfl)) (fun _ _ _ h => h) (Or.inr ⟨by rfl, rfl⟩) ?_ ?_
    rotate_left
    · simp only [Act.put, List.setIfInBounds_toArray, List.set_cons_zero, List.set_cons_succ, i64_w, i32_w]
      rfl
    refine pure_ (i := 8) (N := some 16) (v := undef) (a' := ?_) #[true, true, true, true, true, true, true, true, true, false, false, false, false] rfl rfl (any_of HT_.out (by kernel_rfl)) (fun _ _ _ h => h) (Or.inr ⟨by rfl, rfl⟩) ?_ ?_
    rotate_left
    · simp only [Act.put, List.setIfInBounds_toArray, List.set_cons_zero, List.set_cons_succ, i64_w, i32_w]
      rfl
    refine pure_ (i := 9) (N := some 17) (v := undef) (a' := ?_) #[true, true, true, true, true, true, true, true, true, true, false, false, false] rfl rfl (any_of HT_.out (by kernel_rfl)) (fun _ _ _ h => h) (Or.inr ⟨by rfl, rfl⟩) ?_ ?_
    rotate_left
    · simp only [Act.put, List.setIfInBounds_toArray, List.set_cons_zero, List.set_cons_succ, i64_w, i32_w]
      rfl
    refine pure_ (i := 10) (N := some 18) (v := undef) (a' := ?_) #[true, true, true, true, true, true, true, true, true, true, true, false, false] rfl rfl (any_of HT_.out (by kernel_rfl)) (fun _ _ _ h => h) (Or.inr ⟨by rfl, rfl⟩) ?_ ?_
    rotate_left
    · simp only [Act.put, List.setIfInBounds_toArray, List.set_cons_zero, List.set_cons_succ, i64_w, i32_w]
      rfl
    refine pure_ (i := 11) (N := some 19) (v := ?_) (a' := ?_) #[true, true, true, true, true, true, true, true, true, true, true, true, false] rfl rfl (any_of HT_.out (by kernel_rfl)) (fun _ _ _ h => h) (Or.inl ⟨by rfl, ?_⟩) ?_ ?_
    rotate_left
    · intro w'
      go_simp
      with_reducible rfl
    rotate_left
    · simp only [Act.put, List.setIfInBounds_toArray, List.set_cons_zero, List.set_cons_succ, i64_w, i32_w]
      rfl
    refine pure_ (i := 12) (N := some 4) (v := ?_) (a' := ?_) #[true, true, true, true, true, true, true, true, true, true, true, true, true] rfl rfl (any_of HT_.out (by kernel_rfl)) (fun _ _ _ h => h) (Or.inl ⟨by rfl, ?_⟩) ?_ ?_
    rotate_left
    · intro w'
      go_simp
      with_reducible rfl
    rotate_left
    · simp only [Act.put, List.setIfInBounds_toArray, List.set_cons_zero, List.set_cons_succ, i64_w, i32_w]
      rfl
    refine done_ (done_of HT_.out (by kernel_rfl)) ?_
    clear HT_ HW_ hHeld
    go_wp2
    go_ret
    rw [ES.out]
    exact ⟨rfl, below_drew1 HB1.out⟩
  · have o1 : b.toList.isEmpty = false := by
      rw [eb, str_list]
      cases h : bodyB l with
      | nil => exact absurd h hb
      | cons x y => rfl
    have o2 : ¬ b.toList = [] := by rw [eb, str_list]; exact hb
    have o3 : b.size ≤ t.size := by rw [hbs, hts]; exact body_len l
    obtain ⟨m, em⟩ : ∃ m, m = str (hmac (bl k) (bodyB l)) := ⟨_, rfl⟩
    have TC := Aside0.mk (show ∀ w, GL w → Calls Tryz.prog 23 #[.string k, .string b] w fun e w' => e = .returned (.string m) ∧ Below w.heap.size w w' from fun w hg => by
      have h := tag_calls k b w hg hk (by rw [hbs]; exact Nat.lt_of_le_of_lt (body_len l) hl)
      rw [em]
      rw [show bl b = bodyB l by rw [eb]; rfl] at h
      exact h)
    have ES := Aside0.mk (show sealedB l (bl k) = decide (l.drop (bodyB l).length = hmac (bl k) (bodyB l)) from decide_eq_decide.mpr ⟨fun h => h.2, fun h => ⟨hb, h⟩⟩)
    have SC := Aside0.mk (show ∀ w, Calls Tryz.prog 36 #[.string (t.extract b.size t.size), .string m] w fun e w' => e = .returned (.bool (sealedB l (bl k))) ∧ Below w.heap.size w w' from fun w => by
      rw [ES.out, em, hbs, et, str_drop]
      exact same_calls _ _ (by rw [List.length_drop]; omega) w)
    clear et eb em hts hbs hb hg hk hl
    go_enter Tryz.func14, Tryz.ntmps14
    go_wp2_with (go_at_call 12; (with_reducible refine (BC.out w).mono ?_); rintro e w1 ⟨rfl, hb1⟩; have HB1 := Aside0.mk hb1; clear hb1)
    refine start_ (n := 13) (S := fun w' => True) (ds := []) #[false, false, false, false, false, false, false, false, false, false, false, false, false] (by kernel_rfl) rfl rfl trivial (fun hHeld => ?_)
    refine with_tabW tab_f14_2 bits_f14_2 (fun HT_ HW_ => ?_)
    refine pure_ (i := 0) (N := some 8) (v := ?_) (a' := ?_) #[true, false, false, false, false, false, false, false, false, false, false, false, false] rfl rfl (any_of HT_.out (by kernel_rfl)) (fun _ _ _ h => h) (Or.inl ⟨by rfl, ?_⟩) ?_ ?_
    rotate_left
    · intro w'
      go_simp
      with_reducible rfl
    rotate_left
    · simp only [Act.put, List.setIfInBounds_toArray, List.set_cons_zero, List.set_cons_succ, i64_w, i32_w]
      rfl
    refine pure_ (i := 1) (N := some 9) (v := ?_) (a' := ?_) #[true, true, false, false, false, false, false, false, false, false, false, false, false] rfl rfl (any_of HT_.out (by kernel_rfl)) (fun _ _ _ h => h) (Or.inl ⟨by rfl, ?_⟩) ?_ ?_
    rotate_left
    · intro w'
      go_simp
      with_reducible rfl
    rotate_left
    · simp only [Act.put, List.setIfInBounds_toArray, List.set_cons_zero, List.set_cons_succ, i64_w, i32_w]
      rfl
    refine pure_ (i := 2) (N := some 10) (v := ?_) (a' := ?_) #[true, true, true, false, false, false, false, false, false, false, false, false, false] rfl rfl (any_of HT_.out (by kernel_rfl)) (fun _ _ _ h => h) (Or.inl ⟨by rfl, ?_⟩) ?_ ?_
    rotate_left
    · intro w'
      go_simp
      with_reducible rfl
    rotate_left
    · simp only [Act.put, List.setIfInBounds_toArray, List.set_cons_zero, List.set_cons_succ, i64_w, i32_w]
      rfl
    refine pure_ (i := 3) (N := some 11) (v := ?_) (a' := ?_) #[true, true, true, true, false, false, false, false, false, false, false, false, false] rfl rfl (any_of HT_.out (by kernel_rfl)) (fun _ _ _ h => h) (Or.inl ⟨by rfl, ?_⟩) ?_ ?_
    rotate_left
    · intro w'
      go_simp
      with_reducible rfl
    rotate_left
    · simp only [Act.put, List.setIfInBounds_toArray, List.set_cons_zero, List.set_cons_succ, i64_w, i32_w]
      rfl
    refine pure_ (i := 4) (N := some 12) (v := ?_) (a' := ?_) #[true, true, true, true, true, false, false, false, false, false, false, false, false] rfl rfl (any_of HT_.out (by kernel_rfl)) (fun _ _ _ h => h) (Or.inl ⟨by rfl, ?_⟩) ?_ ?_
    rotate_left
    · intro w'
      go_simp
      with_reducible rfl
    rotate_left
    · simp only [Act.put, List.setIfInBounds_toArray, List.set_cons_zero, List.set_cons_succ, i64_w, i32_w]
      rfl
    refine pure_ (i := 5) (N := some 13) (v := ?_) (a' := ?_) #[true, true, true, true, true, true, false, false, false, false, false, false, false] rfl rfl (any_of HT_.out (by kernel_rfl)) (fun _ _ _ h => h) (Or.inl ⟨by rfl, ?_⟩) ?_ ?_
    rotate_left
    · intro w'
      go_simp
      with_reducible rfl
    rotate_left
    · simp only [Act.put, List.setIfInBounds_toArray, List.set_cons_zero, List.set_cons_succ, i64_w, i32_w]
      rfl
    refine pure_ (i := 6) (N := some 14) (v := ?_) (a' := ?_) #[true, true, true, true, true, true, true, false, false, false, false, false, false] rfl rfl (any_of HT_.out (by kernel_rfl)) (fun _ _ _ h => h) (Or.inl ⟨by rfl, ?_⟩) ?_ ?_
    rotate_left
    · intro w'
      go_simp
      with_reducible rfl
    rotate_left
    · simp only [Act.put, List.setIfInBounds_toArray, List.set_cons_zero, List.set_cons_succ, i64_w, i32_w]
      rfl
    refine pure_ (i := 7) (N := some 15) (v := ?_) (a' := ?_) #[true, true, true, true, true, true, true, true, false, false, false, false, false] rfl rfl (any_of HT_.out (by kernel_rfl)) (fun _ _ _ h => h) (Or.inl ⟨by rfl, ?_⟩) ?_ ?_
    rotate_left
    · intro w'
      go_simp
      with_reducible rfl
    rotate_left
    · simp only [Act.put, List.setIfInBounds_toArray, List.set_cons_zero, List.set_cons_succ, i64_w, i32_w]
      rfl
    refine pure_ (i := 8) (N := some 16) (v := ?_) (a' := ?_) #[true, true, true, true, true, true, true, true, true, false, false, false, false] rfl rfl (any_of HT_.out (by kernel_rfl)) (fun _ _ _ h => h) (Or.inl ⟨by rfl, ?_⟩) ?_ ?_
    rotate_left
    · intro w'
      go_simp
      with_reducible rfl
    rotate_left
    · simp only [Act.put, List.setIfInBounds_toArray, List.set_cons_zero, List.set_cons_succ, i64_w, i32_w]
      rfl
    refine one_ (i := 9) (N := some 17) #[true, true, true, true, true, true, true, true, true, true, false, false, false] rfl rfl (one_of HT_.out (by kernel_rfl)) (by decide) (fun K hK => ?_)
    refine goes_ Tryz.func23 (by kernel_rfl) rfl #[.string k, .string b] (by rfl) rfl rfl (by (try simp only [List.map_toArray, List.map_cons, List.map_nil]); first | done | rfl) ?_
    with_reducible refine (TC.out _ (gl_below HG.out (below_drew1 HB1.out))).mono ?_
    rintro e w2 ⟨rfl, hb2⟩
    refine ⟨_, rfl, ?_⟩
    have HB2 := Aside0.mk (show Below w.heap.size w w2 from (below_drew1 HB1.out).trans (hb2.mono HB1.out.size))
    refine hK.out _ _ trivial (fun hHeld => ?_)
    clear hK K
    refine norm_ (a' := ?_) ?_ ?_
    rotate_left
    · show Act.put _ (some 17) _ = _
      simp only [Act.put, List.setIfInBounds_toArray, List.set_cons_zero, List.set_cons_succ, i64_w, i32_w]
      rfl
    refine one_ (i := 10) (N := some 18) #[true, true, true, true, true, true, true, true, true, true, true, false, false] rfl rfl (one_of HT_.out (by kernel_rfl)) (by decide) (fun K hK => ?_)
    refine goes_ Tryz.func36 (by kernel_rfl) rfl #[.string (t.extract b.size t.size), .string m] (by rfl) rfl rfl (by (try simp only [List.map_toArray, List.map_cons, List.map_nil]); first | done | rfl) ?_
    with_reducible refine (SC.out _).mono ?_
    rintro e w3 ⟨rfl, hb3⟩
    refine ⟨_, rfl, ?_⟩
    have HB3 := Aside0.mk (HB2.out.trans (hb3.mono HB2.out.size))
    refine hK.out _ _ trivial (fun hHeld => ?_)
    clear hK K
    refine norm_ (a' := ?_) ?_ ?_
    rotate_left
    · show Act.put _ (some 18) _ = _
      simp only [Act.put, List.setIfInBounds_toArray, List.set_cons_zero, List.set_cons_succ, i64_w, i32_w]
      rfl
    refine pure_ (i := 11) (N := some 19) (v := ?_) (a' := ?_) #[true, true, true, true, true, true, true, true, true, true, true, true, false] rfl rfl (any_of HT_.out (by kernel_rfl)) (fun _ _ _ h => h) (Or.inl ⟨by rfl, ?_⟩) ?_ ?_
    rotate_left
    · intro w'
      go_simp
      with_reducible rfl
    rotate_left
    · simp only [Act.put, List.setIfInBounds_toArray, List.set_cons_zero, List.set_cons_succ, i64_w, i32_w]
      rfl
    refine pure_ (i := 12) (N := some 4) (v := ?_) (a' := ?_) #[true, true, true, true, true, true, true, true, true, true, true, true, true] rfl rfl (any_of HT_.out (by kernel_rfl)) (fun _ _ _ h => h) (Or.inl ⟨by rfl, ?_⟩) ?_ ?_
    rotate_left
    · intro w'
      go_simp
      with_reducible rfl
    rotate_left
    · simp only [Act.put, List.setIfInBounds_toArray, List.set_cons_zero, List.set_cons_succ, i64_w, i32_w]
      rfl
    refine done_ (done_of HT_.out (by kernel_rfl)) ?_
    clear HT_ HW_ hHeld
    go_wp2
    go_ret
    exact ⟨rfl, HB3.out⟩
def sealB (d : Dg) (k : List UInt8) : ByteArray × Int :=
  if 3 ≤ d.kind ∧ d.kind ≤ 7 then
    if (enc { d with tag := str (List.replicate 32 0) }).2 ≠ 0 then (⟨#[]⟩, (enc { d with tag := str (List.replicate 32 0) }).2)
    else (str (bodyB (bl (enc { d with tag := str (List.replicate 32 0) }).1) ++ hmac k (bodyB (bl (enc { d with tag := str (List.replicate 32 0) }).1))), 0)
  else (⟨#[]⟩, 71)
theorem enc_size (d : Dg) : (enc d).1.size ≤ 1200 := by
  unfold enc
  split
  · dsimp only
    split
    · exact Nat.zero_le _
    · split
      · exact Nat.zero_le _
      · rename_i h
        show ((putAll d (fieldsOf d.kind) (false, some ([74, 48, 49] ++ [UInt8.ofNat d.kind.toNat]))).2.getD []).length ≤ 1200
        omega
  · exact Nat.zero_le _
set_option maxHeartbeats 8000000 in
set_option maxRecDepth 100000 in
theorem seal_calls (d : Dg) (k : ByteArray) (w : World) (hg : GL w) (hd : d.ok) (hkd : -9223372036854775808 ≤ d.kind ∧ d.kind ≤ 9223372036854775807) (hk : k.size < 1099511627776) : Calls Tryz.prog 18 #[.agg d.cells.toArray, .string k] w fun e w' => e = .returned (.tuple #[.string (sealB d (bl k)).1, .int .i64 (sealB d (bl k)).2]) ∧ Below w.heap.size w w' := by
  have HG := Aside0.mk hg
  have HK := Aside0.mk hk
  have RC := Aside0.mk (show ∀ w, Calls Tryz.prog 44 #[.string ⟨#[0]⟩, .int .i64 32] w fun e w' => e = .returned (.string (str (List.replicate 32 0))) ∧ Below w.heap.size w w' from fun w => rep_calls 32 32 rfl (by omega) w)
  have TGC := Aside0.mk (show ∀ w, Calls Tryz.prog 35 #[.int .i64 d.kind] w fun e w' => e = .returned (.bool (decide (3 ≤ d.kind ∧ d.kind ≤ 7))) ∧ Below w.heap.size w w' from tagged_calls d.kind)
  by_cases h37 : 3 ≤ d.kind ∧ d.kind ≤ 7
  · obtain ⟨d2, ed2⟩ : ∃ d2, d2 = { d with tag := str (List.replicate 32 0) } := ⟨_, rfl⟩
    obtain ⟨s, es⟩ : ∃ s, s = (enc d2).1 := ⟨_, rfl⟩
    obtain ⟨c, ec⟩ : ∃ c, c = (enc d2).2 := ⟨_, rfl⟩
    have hok : d2.ok := by rw [ed2]; unfold Dg.ok at hd ⊢; exact ⟨hd.1, hd.2.1, hd.2.2.1, hd.2.2.2.1, hd.2.2.2.2.1, hd.2.2.2.2.2.1, hd.2.2.2.2.2.2.1, by show (List.replicate 32 (0 : UInt8)).length < _; rw [List.length_replicate]; omega⟩
    have hrow : d.cells.set 14 (.string (str (List.replicate 32 0))) = d2.cells := by rw [ed2]; rfl
    have EC := Aside0.mk (show ∀ w, Calls Tryz.prog 16 #[.agg d2.cells.toArray] w fun e w' => e = .returned (.tuple #[.string s, .int .i64 c]) ∧ Below w.heap.size w w' from fun w => by rw [es, ec]; exact encode_calls d2 hok (by rw [ed2]; exact hkd) w)
    have hss : s.size ≤ 1200 := by rw [es]; exact enc_size d2
    have ESB := Aside0.mk (show sealB d (bl k) = if c ≠ 0 then (⟨#[]⟩, c) else (str (bodyB (bl s) ++ hmac (bl k) (bodyB (bl s))), 0) from by unfold sealB; rw [if_pos h37, ← ed2, ← ec, ← es])
    rw [decide_eq_true h37] at TGC
    have HROW := Aside0.mk hrow
    clear es ec ed2 hok hrow h37
    obtain ⟨b, eb⟩ : ∃ b, b = str (bodyB (bl s)) := ⟨_, rfl⟩
    obtain ⟨m, em⟩ : ∃ m, m = str (hmac (bl k) (bodyB (bl s))) := ⟨_, rfl⟩
    have BC := Aside0.mk (show ∀ w, Calls Tryz.prog 12 #[.string s] w fun e w' => e = .returned (.string b) ∧ Below w.heap.size w w' from fun w => by
      have h := body_calls (bl s) (by rw [bl_len]; omega) w
      rw [str_bl, ← eb] at h
      exact h)
    have TC := Aside0.mk (show ∀ w, GL w → Calls Tryz.prog 23 #[.string k, .string b] w fun e w' => e = .returned (.string m) ∧ Below w.heap.size w w' from fun w hg => by
      have h := tag_calls k b w hg hk (by rw [eb]; have := body_len (bl s); rw [bl_len] at this; show (bodyB (bl s)).length < _; omega)
      rw [em]
      rw [show bl b = bodyB (bl s) by rw [eb]; rfl] at h
      exact h)
    have EBM := Aside0.mk (show str (bodyB (bl s) ++ hmac (bl k) (bodyB (bl s))) = b ++ m from by rw [eb, em]; apply ByteArray.ext; simp [str])
    have o3 : ¬ 9223372036854775807 < b.size + m.size := by
      have h1 : b.size ≤ s.size := by rw [eb]; have := body_len (bl s); rw [bl_len] at this; exact this
      have h2 : m.size = 32 := by rw [em]; exact length_sha _
      omega
    clear eb em hss hg hd hkd hk
    by_cases hc : c = 0
    · have ES2 := Aside0.mk (show sealB d (bl k) = (b ++ m, 0) from by rw [ESB.out, if_neg (by rw [hc]; decide), EBM.out])
      subst hc
      go_enter Tryz.func18, Tryz.ntmps18
      go_wp2_with (first
        | (refine wpList_box_v rfl 27 _ rfl d.cells rfl (by kernel_rfl) ?_; intro D w1 eD hD1 hb1 hz1; have c0 : w1.cell? ⟨D, 0, none⟩ = some (.int .i64 d.kind) := cell_of hD1.out rfl)
        | (go_at_call 35; (with_reducible refine (TGC.out w1).mono ?_); rintro e w2 ⟨rfl, hb2⟩; have HB2 := Aside0.mk (hb1.out.trans (hb2.mono hb1.out.size)); have HD2 := Aside0.mk ((hb2.block D (blk_lt hD1.out)).trans hD1.out); clear hb2)
        | (go_at_call 44; (with_reducible refine (RC.out _).mono ?_); rintro e w3 ⟨rfl, hb3⟩; have HB3 := Aside0.mk (HB2.out.trans (hb3.mono HB2.out.size)); have HD3 := Aside0.mk ((hb3.block D (blk_lt HD2.out)).trans HD2.out); have c14 : w3.cell? ⟨D, 14, none⟩ = some (.string d.tag) := cell_of HD3.out rfl; have f14 := Wd_thaw HD3.out 14; clear hb3)
        | (refine wpList_load_agg rfl 27 _ rfl D 0 rfl d2.cells (load_all (HROW.out ▸ set_of HD3.out 14 (.string (str (List.replicate 32 0))))) _ Tryz.underlying27 rfl (by kernel_rfl) ?_)
        | (go_at_call 16; (with_reducible refine (EC.out _).mono ?_); rintro e w4 ⟨rfl, hb4⟩; have HB4 := Aside0.mk (show Below w.heap.size w w4 from (below_set1 HB3.out (Nat.le_of_eq eD.out.symm) _).trans (hb4.mono (below_set1 HB3.out (Nat.le_of_eq eD.out.symm) _).size)); clear hb4)
        | (go_at_call 12; (with_reducible refine (BC.out _).mono ?_); rintro e w5 ⟨rfl, hb5⟩; have HB5 := Aside0.mk (HB4.out.trans (hb5.mono HB4.out.size)); clear hb5)
        | (go_at_call 23; (with_reducible refine (TC.out _ (gl_below HG.out HB5.out)).mono ?_); rintro e w6 ⟨rfl, hb6⟩; have HB6 := Aside0.mk (HB5.out.trans (hb6.mono HB5.out.size)); clear hb6))
      go_ret2
      rw [ES2.out]
      exact ⟨rfl, HB6.out⟩
    · have ES2 := Aside0.mk (show sealB d (bl k) = (⟨#[]⟩, c) from by rw [ESB.out, if_pos hc])
      have o1 : (c == 0) = false := beq_eq_false_iff_ne.mpr hc
      have o2 : (c != 0) = true := by simp [bne, o1]
      clear hc
      go_enter Tryz.func18, Tryz.ntmps18
      go_wp2_with (first
        | (refine wpList_box_v rfl 27 _ rfl d.cells rfl (by kernel_rfl) ?_; intro D w1 eD hD1 hb1 hz1; have c0 : w1.cell? ⟨D, 0, none⟩ = some (.int .i64 d.kind) := cell_of hD1.out rfl)
        | (go_at_call 35; (with_reducible refine (TGC.out w1).mono ?_); rintro e w2 ⟨rfl, hb2⟩; have HB2 := Aside0.mk (hb1.out.trans (hb2.mono hb1.out.size)); have HD2 := Aside0.mk ((hb2.block D (blk_lt hD1.out)).trans hD1.out); clear hb2)
        | (go_at_call 44; (with_reducible refine (RC.out _).mono ?_); rintro e w3 ⟨rfl, hb3⟩; have HB3 := Aside0.mk (HB2.out.trans (hb3.mono HB2.out.size)); have HD3 := Aside0.mk ((hb3.block D (blk_lt HD2.out)).trans HD2.out); have c14 : w3.cell? ⟨D, 14, none⟩ = some (.string d.tag) := cell_of HD3.out rfl; have f14 := Wd_thaw HD3.out 14; clear hb3)
        | (refine wpList_load_agg rfl 27 _ rfl D 0 rfl d2.cells (load_all (HROW.out ▸ set_of HD3.out 14 (.string (str (List.replicate 32 0))))) _ Tryz.underlying27 rfl (by kernel_rfl) ?_)
        | (go_at_call 16; (with_reducible refine (EC.out _).mono ?_); rintro e w4 ⟨rfl, hb4⟩; have HB4 := Aside0.mk (show Below w.heap.size w w4 from (below_set1 HB3.out (Nat.le_of_eq eD.out.symm) _).trans (hb4.mono (below_set1 HB3.out (Nat.le_of_eq eD.out.symm) _).size)); clear hb4))
      go_ret2
      rw [ES2.out]
      exact ⟨rfl, HB4.out⟩
  · have ES2 := Aside0.mk (show sealB d (bl k) = (⟨#[]⟩, 71) from if_neg h37)
    rw [decide_eq_false h37] at TGC
    clear h37 hg hd hkd hk
    go_enter Tryz.func18, Tryz.ntmps18
    go_wp2_with (first
      | (refine wpList_box_v rfl 27 _ rfl d.cells rfl (by kernel_rfl) ?_; intro D w1 eD hD1 hb1 hz1; have c0 : w1.cell? ⟨D, 0, none⟩ = some (.int .i64 d.kind) := cell_of hD1.out rfl)
      | (go_at_call 35; (with_reducible refine (TGC.out w1).mono ?_); rintro e w2 ⟨rfl, hb2⟩))
    go_ret2
    rw [ES2.out]
    exact ⟨rfl, hb1.out.trans (hb2.mono hb1.out.size)⟩
end Go.Proofs.YtniabkphbnimaaaGreatDoor.Sh
namespace Go.Proofs.YtniabkphbnimaaaGreatDoor.Sh
open Go Go.RowKit Go.Maps Go.Proofs.YtniabkphbnimaaaGreatDoorW.PrintWords Go.Proofs.YtniabkphbnimaaaGreatDoorW.PrintLast Go.Proofs.YtniabkphbnimaaaGreatDoor.Bs
theorem dw_nil {α : Type} (p : α → Bool) (l : List α) : l.dropWhile p = [] ↔ ∀ b ∈ l, p b = true := by
  induction l with
  | nil => simp
  | cons x l ih =>
    by_cases h : p x = true
    · rw [List.dropWhile_cons_of_pos h, ih]
      simp [h]
    · rw [List.dropWhile_cons_of_neg h]
      simp [h]
theorem trimB_nil (l : List UInt8) (c : UInt8) : Lib.trimB l c = [] ↔ ∀ b ∈ l, b = c := by
  have e1 : ∀ m : List UInt8, Lib.trimLeftB m c = [] ↔ ∀ b ∈ m, b = c := by
    intro m
    unfold Lib.trimLeftB
    rw [dw_nil]
    simp
  unfold Lib.trimB
  rw [e1]
  unfold Lib.trimRightB
  constructor
  · intro h
    have hn : l.reverse.dropWhile (· == c) = [] := by
      cases hy : l.reverse.dropWhile (· == c) with
      | nil => rfl
      | cons y ys =>
        exfalso
        have h1 := List.head?_dropWhile_not (· == c) l.reverse
        rw [hy] at h1
        have h2 := h y (by rw [hy]; simp)
        simp [h2] at h1
    intro b hb
    have := (dw_nil _ _).mp hn b (List.mem_reverse.mpr hb)
    simpa using this
  · intro h b hb
    have h2 : l.reverse.dropWhile (· == c) = [] := (dw_nil _ _).mpr (fun b hb => by simp [h b (List.mem_reverse.mp hb)])
    rw [h2] at hb
    cases hb
@[reducible] def dk (k : Nat) : Dg := { Dg.zero with kind := (k : Int) }
/-- What comes behind the fields. -/
def fin (o : Option (Dg × Bool × List UInt8)) : Dg × Int :=
  match o with
  | none => (.zero, 72)
  | some (d, bad, r) => if r ≠ [] then (.zero, 72) else if bad = true then (.zero, 73) else (d, 0)
theorem nil_drop (t : List UInt8) (n : Nat) : t.drop n ≠ [] ↔ n < t.length := by
  rw [Ne, List.drop_eq_nil_iff]
  omega
theorem dec1 (t : List UInt8) : fin (getAll (fieldsOf 1) (dk 1, false, t)) = if t.length = 92 then (if ∀ b ∈ t.drop 16, b = 0 then ({ dk 1 with nonce := str (t.take 16) }, 0) else (.zero, 73)) else (.zero, 72) := by
  show fin (getAll [.nonce, .zeros] (dk 1, false, t)) = _
  simp only [getAll, getF]
  by_cases h1 : 16 ≤ t.length
  · rw [if_pos h1]
    simp only [Option.bind_some, List.length_drop, List.drop_drop]
    by_cases h2 : 76 ≤ t.length - 16
    · rw [if_pos h2]
      simp only [Option.bind_some, fin]
      by_cases h3 : t.length = 92
      · rw [if_pos h3, if_neg (by rw [nil_drop]; omega), List.take_of_length_le (by rw [List.length_drop]; omega)]
        by_cases h4 : ∀ b ∈ t.drop 16, b = 0
        · rw [if_pos h4, if_neg (by simp only [decide_eq_true_eq]; exact fun h => h ((trimB_nil _ _).mpr h4))]
        · rw [if_neg h4, if_pos (decide_eq_true (p := Lib.trimB (t.drop 16) 0 ≠ []) (fun h => h4 ((trimB_nil _ _).mp h)))]
      · rw [if_neg h3, if_pos (by rw [nil_drop]; omega)]
    · rw [if_neg h2, if_neg (by omega)]
      rfl
  · rw [if_neg h1, if_neg (by omega)]
    rfl
theorem dec2 (t : List UInt8) : fin (getAll (fieldsOf 2) (dk 2, false, t)) = if t.length = 56 then ({ dk 2 with nonce := str (t.take 16), epoch := num ((t.drop 16).take 8), cookie := str ((t.drop 24).take 32) }, 0) else (.zero, 72) := by
  show fin (getAll [.nonce, .epoch, .cookie] (dk 2, false, t)) = _
  simp only [getAll, getF]
  by_cases h1 : 16 ≤ t.length
  · rw [if_pos h1]
    simp only [Option.bind_some, List.length_drop, List.drop_drop]
    by_cases h2 : 8 ≤ t.length - 16
    · rw [if_pos h2]
      simp only [Option.bind_some, List.length_drop, List.drop_drop]
      by_cases h3 : 32 ≤ t.length - (16 + 8)
      · rw [if_pos h3]
        simp only [Option.bind_some, fin]
        by_cases h4 : t.length = 56
        · rw [if_pos h4, if_neg (by rw [nil_drop]; omega), if_neg (by decide)]
        · rw [if_neg h4, if_pos (by rw [nil_drop]; omega)]
      · rw [if_neg h3, if_neg (by omega)]
        rfl
    · rw [if_neg h2, if_neg (by omega)]
      rfl
  · rw [if_neg h1, if_neg (by omega)]
    rfl
theorem dec3 (t : List UInt8) : fin (getAll (fieldsOf 3) (dk 3, false, t)) = if 89 ≤ t.length ∧ t.length = 89 + (t.getD 56 0).toNat then ({ dk 3 with nonce := str (t.take 16), epoch := num ((t.drop 16).take 8), cookie := str ((t.drop 24).take 32), name := str ((t.drop 57).take (t.getD 56 0).toNat), tag := str ((t.drop (t.length - 32)).take 32) }, 0) else (.zero, 72) := by
  show fin (getAll [.nonce, .epoch, .cookie, .name, .tag] (dk 3, false, t)) = _
  simp only [getAll, getF]
  by_cases h1 : 16 ≤ t.length
  · rw [if_pos h1]
    simp only [Option.bind_some, List.length_drop, List.drop_drop]
    by_cases h2 : 8 ≤ t.length - 16
    · rw [if_pos h2]
      simp only [Option.bind_some, List.length_drop, List.drop_drop]
      by_cases h3 : 32 ≤ t.length - (16 + 8)
      · rw [if_pos h3]
        simp only [Option.bind_some]
        by_cases h4 : 57 ≤ t.length
        · have e : t.drop (16 + 8 + 32) = t.getD 56 0 :: t.drop 57 := by
            rw [show 16 + 8 + 32 = 56 from rfl, List.drop_eq_getElem_cons (by omega), List.getD_eq_getElem?_getD, List.getElem?_eq_getElem (by omega)]
            rfl
          rw [e]
          simp only [Option.bind_some, List.length_drop, List.drop_drop]
          by_cases h5 : (t.getD 56 0).toNat ≤ t.length - 57
          · rw [if_pos h5]
            simp only [Option.bind_some, List.length_drop, List.drop_drop]
            by_cases h6 : 32 ≤ t.length - (57 + (t.getD 56 0).toNat)
            · rw [if_pos h6]
              simp only [Option.bind_some, fin]
              by_cases h7 : t.length = 89 + (t.getD 56 0).toNat
              · rw [if_neg (by rw [nil_drop]; omega), if_neg (by decide), if_pos ⟨by omega, h7⟩, show 57 + (t.getD 56 0).toNat = t.length - 32 by omega]
              · rw [if_pos (by rw [nil_drop]; omega), if_neg (fun h => h7 h.2)]
            · rw [if_neg h6, if_neg (by omega)]
              rfl
          · rw [if_neg h5, if_neg (by omega)]
            rfl
        · rw [List.drop_of_length_le (by omega), if_neg (by omega)]
          rfl
      · rw [if_neg h3, if_neg (by omega)]
        rfl
    · rw [if_neg h2, if_neg (by omega)]
      rfl
  · rw [if_neg h1, if_neg (by omega)]
    rfl
theorem dec4 (t : List UInt8) : fin (getAll (fieldsOf 4) (dk 4, false, t)) = if t.length = 73 then ({ dk 4 with nonce := str (t.take 16), session := num ((t.drop 16).take 8), player := ((t.getD 24 0).toNat : Int), salt := str ((t.drop 25).take 16), tag := str ((t.drop 41).take 32) }, 0) else (.zero, 72) := by
  show fin (getAll [.nonce, .session, .player, .salt, .tag] (dk 4, false, t)) = _
  simp only [getAll, getF]
  by_cases h1 : 16 ≤ t.length
  · rw [if_pos h1]
    simp only [Option.bind_some, List.length_drop, List.drop_drop]
    by_cases h2 : 8 ≤ t.length - 16
    · rw [if_pos h2]
      simp only [Option.bind_some, List.length_drop, List.drop_drop]
      by_cases h4 : 25 ≤ t.length
      · have e : t.drop (16 + 8) = t.getD 24 0 :: t.drop 25 := by
          rw [show 16 + 8 = 24 from rfl, List.drop_eq_getElem_cons (by omega), List.getD_eq_getElem?_getD, List.getElem?_eq_getElem (by omega)]
          rfl
        rw [e]
        simp only [Option.bind_some, List.length_drop, List.drop_drop]
        by_cases h5 : 16 ≤ t.length - 25
        · rw [if_pos h5]
          simp only [Option.bind_some, List.length_drop, List.drop_drop]
          by_cases h6 : 32 ≤ t.length - (25 + 16)
          · rw [if_pos h6]
            simp only [Option.bind_some, fin]
            by_cases h7 : t.length = 73
            · rw [if_pos h7, if_neg (by rw [nil_drop]; omega), if_neg (by decide)]
            · rw [if_neg h7, if_pos (by rw [nil_drop]; omega)]
          · rw [if_neg h6, if_neg (by omega)]
            rfl
        · rw [if_neg h5, if_neg (by omega)]
          rfl
      · rw [List.drop_of_length_le (by omega), if_neg (by omega)]
        rfl
    · rw [if_neg h2, if_neg (by omega)]
      rfl
  · rw [if_neg h1, if_neg (by omega)]
    rfl
theorem dec5 (t : List UInt8) : fin (getAll (fieldsOf 5) (dk 5, false, t)) = if t.length = 51 then (if 3 < (t.getD 18 0).toNat then (.zero, 73) else ({ dk 5 with session := num (t.take 8), seq := num ((t.drop 8).take 8), thr := sbyte (t.getD 16 0), trn := sbyte (t.getD 17 0), fire := bit0 (t.getD 18 0), boost := bit1 (t.getD 18 0), tag := str ((t.drop 19).take 32) }, 0)) else (.zero, 72) := by
  show fin (getAll [.session, .seq, .command, .tag] (dk 5, false, t)) = _
  simp only [getAll, getF]
  by_cases h1 : 8 ≤ t.length
  · rw [if_pos h1]
    simp only [Option.bind_some, List.length_drop, List.drop_drop]
    by_cases h2 : 8 ≤ t.length - 8
    · rw [if_pos h2]
      simp only [Option.bind_some, List.length_drop, List.drop_drop]
      by_cases h4 : 19 ≤ t.length
      · have e : t.drop (8 + 8) = t.getD 16 0 :: t.getD 17 0 :: t.getD 18 0 :: t.drop 19 := by
          rw [show 8 + 8 = 16 from rfl, List.drop_eq_getElem_cons (by omega), List.drop_eq_getElem_cons (i := 16 + 1) (by omega), List.drop_eq_getElem_cons (i := 16 + 1 + 1) (by omega)]
          simp only [List.getD_eq_getElem?_getD]
          rw [List.getElem?_eq_getElem (i := 16) (by omega), List.getElem?_eq_getElem (i := 17) (by omega), List.getElem?_eq_getElem (i := 18) (by omega)]
          rfl
        rw [e]
        simp only [Option.bind_some, List.length_drop, List.drop_drop]
        by_cases h5 : 32 ≤ t.length - 19
        · rw [if_pos h5]
          simp only [Option.bind_some, fin]
          by_cases h7 : t.length = 51
          · rw [if_pos h7, if_neg (by rw [nil_drop]; omega)]
            simp only [decide_eq_true_eq]
          · rw [if_neg h7, if_pos (by rw [nil_drop]; omega)]
        · rw [if_neg h5, if_neg (by omega)]
          rfl
      · have e : (match t.drop (8 + 8) with | a :: b :: c :: t => some (({ { { dk 5 with session := num (t.take 8) } with seq := num ((t.drop 8).take 8) } with thr := sbyte a, trn := sbyte b, fire := bit0 c, boost := bit1 c } : Dg), decide (3 < c.toNat), t) | _ => none) = none := by
          have hl : (t.drop (8 + 8)).length ≤ 2 := by rw [List.length_drop]; omega
          match h : t.drop (8 + 8), hl with
          | [], _ => rfl
          | [_], _ => rfl
          | [_, _], _ => rfl
        have hl : (t.drop (8 + 8)).length ≤ 2 := by rw [List.length_drop]; omega
        rw [if_neg (by omega)]
        match h : t.drop (8 + 8), hl with
        | [], _ => rfl
        | [_], _ => rfl
        | [_, _], _ => rfl
    · rw [if_neg h2, if_neg (by omega)]
      rfl
  · rw [if_neg h1, if_neg (by omega)]
    rfl
theorem dec6 (t : List UInt8) : fin (getAll (fieldsOf 6) (dk 6, false, t)) = if 48 ≤ t.length then ({ dk 6 with session := num (t.take 8), seq := num ((t.drop 8).take 8), data := str ((t.drop 16).take (t.length - 48)), tag := str ((t.drop (t.length - 32)).take 32) }, 0) else (.zero, 72) := by
  show fin (getAll [.session, .seq, .data, .tag] (dk 6, false, t)) = _
  simp only [getAll, getF]
  by_cases h1 : 8 ≤ t.length
  · rw [if_pos h1]
    simp only [Option.bind_some, List.length_drop, List.drop_drop]
    by_cases h2 : 8 ≤ t.length - 8
    · rw [if_pos h2]
      simp only [Option.bind_some, List.length_drop, List.drop_drop]
      by_cases h4 : 32 ≤ t.length - (8 + 8)
      · rw [if_pos h4]
        simp only [Option.bind_some, List.length_drop, List.drop_drop]
        rw [if_pos (by omega)]
        simp only [Option.bind_some, fin]
        rw [if_neg (by rw [nil_drop]; omega), if_neg (by decide), if_pos (by omega), show t.length - (8 + 8) - 32 = t.length - 48 by omega, show 8 + 8 + (t.length - 48) = t.length - 32 by omega]
      · rw [if_neg h4, if_neg (by omega)]
        rfl
    · rw [if_neg h2, if_neg (by omega)]
      rfl
  · rw [if_neg h1, if_neg (by omega)]
    rfl
theorem dec7 (t : List UInt8) : fin (getAll (fieldsOf 7) (dk 7, false, t)) = if t.length = 48 then ({ dk 7 with session := num (t.take 8), seq := num ((t.drop 8).take 8), tag := str ((t.drop 16).take 32) }, 0) else (.zero, 72) := by
  show fin (getAll [.session, .seq, .tag] (dk 7, false, t)) = _
  simp only [getAll, getF]
  by_cases h1 : 8 ≤ t.length
  · rw [if_pos h1]
    simp only [Option.bind_some, List.length_drop, List.drop_drop]
    by_cases h2 : 8 ≤ t.length - 8
    · rw [if_pos h2]
      simp only [Option.bind_some, List.length_drop, List.drop_drop]
      by_cases h4 : 32 ≤ t.length - (8 + 8)
      · rw [if_pos h4]
        simp only [Option.bind_some, fin]
        by_cases h7 : t.length = 48
        · rw [if_pos h7, if_neg (by rw [nil_drop]; omega), if_neg (by decide)]
        · rw [if_neg h7, if_pos (by rw [nil_drop]; omega)]
      · rw [if_neg h4, if_neg (by omega)]
        rfl
    · rw [if_neg h2, if_neg (by omega)]
      rfl
  · rw [if_neg h1, if_neg (by omega)]
    rfl
theorem dec_at (k : UInt8) (t : List UInt8) (h : (74 :: 48 :: 49 :: k :: t : List UInt8).length ≤ 1200) (hk : 1 ≤ k.toNat ∧ k.toNat ≤ 7) : dec (74 :: 48 :: 49 :: k :: t) = fin (getAll (fieldsOf (k.toNat : Int)) (dk k.toNat, false, t)) := by
  unfold dec
  rw [if_neg (by omega), if_pos (show List.take 3 (74 :: 48 :: 49 :: k :: t : List UInt8) = [74, 48, 49] from rfl)]
  show (if 1 ≤ (k.toNat : Int) ∧ (k.toNat : Int) ≤ 7 then _ else _) = _
  rw [if_pos (by omega)]
  rfl
end Go.Proofs.YtniabkphbnimaaaGreatDoor.Sh
namespace Go.Proofs.YtniabkphbnimaaaGreatDoor.Sh
open Go Go.RowKit Go.Maps Go.Proofs.YtniabkphbnimaaaGreatDoorW.PrintWords Go.Proofs.YtniabkphbnimaaaGreatDoorW.PrintLast Go.Proofs.YtniabkphbnimaaaGreatDoor.Bs
theorem num_le (l : List UInt8) (h : l.length ≤ 8) : num l < 18446744073709551616 := by
  have h1 := num_lt l
  have h2 : 256 ^ l.length ≤ 256 ^ 8 := Nat.pow_le_pow_right (by decide) h
  have h3 : 256 ^ 8 = 18446744073709551616 := by decide
  omega
end Go.Proofs.YtniabkphbnimaaaGreatDoor.Sh
namespace Go.Proofs.YtniabkphbnimaaaGreatDoor.Bs
open Go Go.RowKit Go.Maps Go.Proofs.YtniabkphbnimaaaGreatDoorW.PrintWords Go.Proofs.YtniabkphbnimaaaGreatDoorW.PrintLast Go.Proofs.YtniabkphbnimaaaGreatDoor.Sh
section
variable {P : Program} {ops : Array Oper} {rest : List Oper} {a : Act} {w : World} {Q : Exit → Act → World → Prop} {d : Option Tmp} {ty : TypeId} {pos : String} {af : Array Edge} {g : Option (Tmp × Bool)}
theorem at_load_ {t : TypeId} {x : Operand} (h : wpList P ops Q (⟨d, .load t x, ty, pos, af, g⟩ :: rest) a w) : wpList P ops Q (⟨d, .load t x, ty, pos, af, g⟩ :: rest) a w := h
theorem at_store_ {t : TypeId} {x y : Operand} (h : wpList P ops Q (⟨d, .store t x y, ty, pos, af, g⟩ :: rest) a w) : wpList P ops Q (⟨d, .store t x y, ty, pos, af, g⟩ :: rest) a w := h
theorem at_box_ {t : TypeId} {x : Operand} (h : wpList P ops Q (⟨d, .box t x, ty, pos, af, g⟩ :: rest) a w) : wpList P ops Q (⟨d, .box t x, ty, pos, af, g⟩ :: rest) a w := h
theorem at_alloc_ {t : TypeId} (h : wpList P ops Q (⟨d, .alloc t, ty, pos, af, g⟩ :: rest) a w) : wpList P ops Q (⟨d, .alloc t, ty, pos, af, g⟩ :: rest) a w := h
end
section
variable {P : Program} {ops : Array Oper} {rest : List Oper} {o : Oper} {a : Act} {w : World} {Q : Exit → Act → World → Prop}
theorem str_cat (l m : List UInt8) : str l ++ str m = str (l ++ m) := by
  apply ByteArray.ext
  simp [str]
theorem cat_yields (t t2 : TypeId) (x y : Operand) (ho : o.op = .binOp .add t x y t2) (l m : List UInt8) (hx : a.eval x = .string (str l)) (hy : a.eval y = .string (str m)) (hs : l.length + m.length ≤ 9223372036854775807) (w : World) :
    (execOp a.eval o).run P w = .ok (.value (.string (str (l ++ m)))) w := by
  have hrun := run_string_add_sum (P := P) w (str l) (str m) hs
  unfold execOp
  simp only [ho, hx, hy, Sem.run_bind, eqGuard_add, binOp_string_add, hrun, Result.andThen_ok, Sem.run_pure, str_cat]
theorem run_load_one (w : World) (ty : TypeId) (g off : Nat) (cs : List Value) (t : TypeId) (fr : Nat × Nat) (hg : w.heap[g]? = some (.cells cs.toArray t fr)) (v : Value) (hv : cs[off]? = some v) (d : TypeDesc) (hu : P.underlying ty = some d) (hd : (match d with | .struct _ | .array _ _ => true | _ => false) = false) :
    (Instr.loadAt ty (.pointer (some ⟨g, off, none⟩))).run P w = .ok v w := by
  have hcell : w.cell? ⟨g, off, none⟩ = some v := by simp [World.cell?, hg, hv]
  have hagg : (isAgg ty).run P w = .ok false w := by
    unfold isAgg
    rw [Sem.run_bind, run_underlying hu w]
    cases d <;> simp_all
  have hl : (load (⟨g, off, none⟩ : Addr)).run P w = .ok v w := by rw [run_load, hcell]
  simp [Instr.loadAt, Instr.sureAddr, loadVar, Sem.run_bind, hagg, hcell]
theorem wp_load_one {K : Act → World → Prop} (ty : TypeId) (x : Operand) (ho : o.op = .load ty x) (g off : Nat) (hx : a.eval x = .pointer (some ⟨g, off, none⟩)) (cs : List Value) (t : TypeId) (fr : Nat × Nat) (hg : w.heap[g]? = some (.cells cs.toArray t fr)) (v : Value) (hv : cs[off]? = some v) (d : TypeDesc) (hu : P.underlying ty = some d) (hd : (match d with | .struct _ | .array _ _ => true | _ => false) = false)
    (h : K (a.put o.dst v) w) : Oper.wp P o a w K Q := by
  unfold Oper.wp execOp
  simp only [ho, hx, Sem.run_bind, run_load_one (P := P) w ty g off cs t fr hg v hv d hu hd, Result.andThen_ok, Sem.run_pure]
  exact h
theorem wpList_load_one (hgd : o.guard = none) (ty : TypeId) (x : Operand) (ho : o.op = .load ty x) (g off : Nat) (hx : a.eval x = .pointer (some ⟨g, off, none⟩)) (cs : List Value) (t : TypeId) (fr : Nat × Nat) (hg : w.heap[g]? = some (.cells cs.toArray t fr)) (v : Value) (hv : cs[off]? = some v) (d : TypeDesc) (hu : P.underlying ty = some d) (hd : (match d with | .struct _ | .array _ _ => true | _ => false) = false)
    (h : wpList P ops Q rest (a.put o.dst v) w) : wpList P ops Q (o :: rest) a w :=
  wpList_plain hgd fun K hK => wp_load_one ty x ho g off hx cs t fr hg v hv d hu hd (hK _ _ h)
end
end Go.Proofs.YtniabkphbnimaaaGreatDoor.Bs
namespace Go.Proofs.YtniabkphbnimaaaGreatDoor.Sh
open Go Go.RowKit Go.Maps Go.Proofs.YtniabkphbnimaaaGreatDoorW.PrintWords Go.Proofs.YtniabkphbnimaaaGreatDoorW.PrintLast Go.Proofs.YtniabkphbnimaaaGreatDoor.Bs
theorem fin_err (o : Option (Dg × Bool × List UInt8)) (h : (fin o).2 ≠ 0) : (fin o).1 = Dg.zero := by
  unfold fin at h ⊢
  split
  · rfl
  · rename_i d bad r
    simp only at h
    split
    · rfl
    · rename_i h1
      rw [if_neg h1] at h
      split
      · rfl
      · rename_i h2
        rw [if_neg h2] at h
        exact absurd rfl h
theorem dec_err (l : List UInt8) (h : (dec l).2 ≠ 0) : (dec l).1 = Dg.zero := by
  unfold dec at h ⊢
  split
  · rfl
  · rename_i h1
    rw [if_neg h1] at h
    split
    · rename_i h2
      rw [if_pos h2] at h
      split
      · rfl
      · rename_i k t h3
        rw [h3] at h
        simp only at h
        split
        · rename_i h4
          rw [if_pos h4] at h
          exact fin_err _ h
        · rfl
    · rfl
theorem dec_ok (l : List UInt8) (h : (dec l).2 = 0) : ∃ k t, l = 74 :: 48 :: 49 :: k :: t ∧ l.length ≤ 1200 ∧ 1 ≤ k.toNat ∧ k.toNat ≤ 7 := by
  unfold dec at h
  by_cases h1 : 1200 < l.length
  · rw [if_pos h1] at h; cases h
  rw [if_neg h1] at h
  by_cases h2 : l.take 3 = [74, 48, 49]
  · rw [if_pos h2] at h
    cases hd : l.drop 3 with
    | nil => rw [hd] at h; cases h
    | cons k t =>
      rw [hd] at h
      simp only at h
      refine ⟨k, t, ?_, by omega, ?_⟩
      · rw [← List.take_append_drop 3 l, h2, hd]; rfl
      · by_cases h3 : 1 ≤ (k.toNat : Int) ∧ (k.toNat : Int) ≤ 7
        · omega
        · rw [if_neg h3] at h; cases h
  · rw [if_neg h2] at h; cases h
end Go.Proofs.YtniabkphbnimaaaGreatDoor.Sh
namespace Go.Proofs.YtniabkphbnimaaaGreatDoor.Sh
open Go Go.RowKit Go.Maps Go.Proofs.YtniabkphbnimaaaGreatDoorW.PrintWords Go.Proofs.YtniabkphbnimaaaGreatDoorW.PrintLast Go.Proofs.YtniabkphbnimaaaGreatDoor.Bs
/-- Does each field that the kind has fit its place? -/
def fitP (d : Dg) : Prop := (d.kind ≤ 4 → d.nonce.size = 16) ∧ ((d.kind = 2 ∨ d.kind = 3) → d.cookie.size = 32) ∧ (d.kind = 3 → d.name.size ≤ 255) ∧ (d.kind = 4 → d.salt.size = 16 ∧ 0 ≤ d.player ∧ d.player ≤ 255) ∧ (d.kind = 5 → -128 ≤ d.thr ∧ d.thr ≤ 127 ∧ -128 ≤ d.trn ∧ d.trn ≤ 127) ∧ (3 ≤ d.kind → d.tag.size = 32)
instance (d : Dg) : Decidable (fitP d) := by unfold fitP; exact inferInstance
def sg (x : Int) : UInt8 := UInt8.ofNat (x % 256).toNat
/-- The bytes behind the head. -/
def tailB (d : Dg) : List UInt8 :=
  if d.kind = 1 then bl d.nonce ++ List.replicate 76 0
  else if d.kind = 2 then bl d.nonce ++ len8 d.epoch ++ bl d.cookie
  else if d.kind = 3 then bl d.nonce ++ len8 d.epoch ++ bl d.cookie ++ (UInt8.ofNat d.name.size :: bl d.name) ++ bl d.tag
  else if d.kind = 4 then bl d.nonce ++ len8 d.session ++ [UInt8.ofNat d.player.toNat] ++ bl d.salt ++ bl d.tag
  else if d.kind = 5 then len8 d.session ++ len8 d.seq ++ [sg d.thr, sg d.trn, UInt8.ofNat (flags d.fire d.boost)] ++ bl d.tag
  else if d.kind = 6 then len8 d.session ++ len8 d.seq ++ bl d.data ++ bl d.tag
  else len8 d.session ++ len8 d.seq ++ bl d.tag
def encB (d : Dg) : List UInt8 := 74 :: 48 :: 49 :: UInt8.ofNat d.kind.toNat :: tailB d
def encK (d : Dg) : ByteArray × Int := if fitP d then (if 1200 < (encB d).length then (⟨#[]⟩, 72) else (str (encB d), 0)) else (⟨#[]⟩, 73)
theorem enc_out (d : Dg) (b : Bool) (r : Option (List UInt8)) (h1 : 1 ≤ d.kind ∧ d.kind ≤ 7) (hr : putAll d (fieldsOf d.kind) (false, some ([74, 48, 49] ++ [UInt8.ofNat d.kind.toNat])) = (b, r)) (h : fitP d → b = false ∧ r = some (encB d)) (hn : ¬ fitP d → b = true ∨ r = none) : enc d = encK d := by
  unfold enc encK
  rw [if_pos h1, hr]
  dsimp only
  by_cases hf : fitP d
  · obtain ⟨rfl, rfl⟩ := h hf
    rw [if_pos hf, if_neg (by simp)]
    rfl
  · rw [if_neg hf, if_pos (by rcases hn hf with rfl | rfl <;> simp)]
theorem enc_k (d : Dg) (h1 : 1 ≤ d.kind ∧ d.kind ≤ 7) : enc d = encK d := by
  obtain ⟨kind, nonce, epoch, cookie, name, session, player, salt, seq, thr, trn, fire, boost, data, tag⟩ := d
  simp only at h1
  have hk : kind = 1 ∨ kind = 2 ∨ kind = 3 ∨ kind = 4 ∨ kind = 5 ∨ kind = 6 ∨ kind = 7 := by omega
  rcases hk with rfl | rfl | rfl | rfl | rfl | rfl | rfl
  · refine enc_out _ _ _ h1 rfl ?_ ?_
    · intro h
      have c1 : nonce.size = 16 := h.1 (by simp)
      refine ⟨by simp [putF, c1], ?_⟩
      simp [encB, tailB, putF]
    · intro h
      refine Or.inl ?_
      by_cases c1 : nonce.size = 16
      · exact absurd ⟨fun _ => c1, fun h => by simp at h, fun h => by simp at h, fun h => by simp at h, fun h => by simp at h, fun h => by simp at h⟩ h
      · simp [putF, c1]
  · refine enc_out _ _ _ h1 rfl ?_ ?_
    · intro h
      have c1 : nonce.size = 16 := h.1 (by simp)
      have c2 : cookie.size = 32 := h.2.1 (by simp)
      refine ⟨by simp [putF, c1, c2], ?_⟩
      simp [encB, tailB, putF]
    · intro h
      refine Or.inl ?_
      by_cases c1 : nonce.size = 16
      · by_cases c2 : cookie.size = 32
        · exact absurd ⟨fun _ => c1, fun _ => c2, fun h => by simp at h, fun h => by simp at h, fun h => by simp at h, fun h => by simp at h⟩ h
        · simp [putF, c2]
      · simp [putF, c1]
  · refine enc_out _ _ _ h1 rfl ?_ ?_
    · intro h
      have c1 : nonce.size = 16 := h.1 (by simp)
      have c2 : cookie.size = 32 := h.2.1 (by simp)
      have c3 : name.size ≤ 255 := h.2.2.1 rfl
      have c4 : tag.size = 32 := h.2.2.2.2.2 (by simp)
      refine ⟨by simp [putF, c1, c2, c4], ?_⟩
      simp [encB, tailB, putF, txt, bl_len, c3]
    · intro h
      by_cases c3 : name.size ≤ 255
      · refine Or.inl ?_
        by_cases c1 : nonce.size = 16
        · by_cases c2 : cookie.size = 32
          · by_cases c4 : tag.size = 32
            · exact absurd ⟨fun _ => c1, fun _ => c2, fun _ => c3, fun h => by simp at h, fun h => by simp at h, fun _ => c4⟩ h
            · simp [putF, c4]
          · simp [putF, c2]
        · simp [putF, c1]
      · refine Or.inr ?_
        simp [putF, txt, bl_len, c3]
  · refine enc_out _ _ _ h1 rfl ?_ ?_
    · intro h
      have c1 : nonce.size = 16 := h.1 (by simp)
      have c2 := h.2.2.2.1 rfl
      simp only at c2
      have c4 : tag.size = 32 := h.2.2.2.2.2 (by simp)
      refine ⟨by simp [putF, c1, c2.1, c4]; omega, ?_⟩
      simp [encB, tailB, putF, one, show 0 ≤ player ∧ player < 256 by omega]
    · intro h
      by_cases c3 : 0 ≤ player ∧ player < 256
      · refine Or.inl ?_
        by_cases c1 : nonce.size = 16
        · by_cases c2 : salt.size = 16
          · by_cases c4 : tag.size = 32
            · exact absurd ⟨fun _ => c1, fun h => by simp at h, fun h => by simp at h, fun _ => ⟨c2, c3.1, by show player ≤ 255; omega⟩, fun h => by simp at h, fun _ => c4⟩ h
            · simp [putF, c4]
          · simp [putF, c2]
        · simp [putF, c1]
      · refine Or.inr ?_
        simp [putF, one, c3]
  · refine enc_out _ _ _ h1 rfl ?_ ?_
    · intro h
      have c2 := h.2.2.2.2.1 rfl
      simp only at c2
      have c4 : tag.size = 32 := h.2.2.2.2.2 (by simp)
      refine ⟨by simp [putF, c4], ?_⟩
      simp [encB, tailB, putF, sgn, sg, show -128 ≤ thr ∧ thr ≤ 127 by omega, show -128 ≤ trn ∧ trn ≤ 127 by omega]
    · intro h
      by_cases c1 : -128 ≤ thr ∧ thr ≤ 127
      · by_cases c2 : -128 ≤ trn ∧ trn ≤ 127
        · refine Or.inl ?_
          by_cases c4 : tag.size = 32
          · exact absurd ⟨fun h => by simp at h, fun h => by simp at h, fun h => by simp at h, fun h => by simp at h, fun _ => ⟨c1.1, c1.2, c2.1, c2.2⟩, fun _ => c4⟩ h
          · simp [putF, c4]
        · refine Or.inr ?_
          simp [putF, sgn, c2]
      · refine Or.inr ?_
        simp [putF, sgn, c1]
  · refine enc_out _ _ _ h1 rfl ?_ ?_
    · intro h
      have c4 : tag.size = 32 := h.2.2.2.2.2 (by simp)
      refine ⟨by simp [putF, c4], ?_⟩
      simp [encB, tailB, putF]
    · intro h
      refine Or.inl ?_
      by_cases c4 : tag.size = 32
      · exact absurd ⟨fun h => by simp at h, fun h => by simp at h, fun h => by simp at h, fun h => by simp at h, fun h => by simp at h, fun _ => c4⟩ h
      · simp [putF, c4]
  · refine enc_out _ _ _ h1 rfl ?_ ?_
    · intro h
      have c4 : tag.size = 32 := h.2.2.2.2.2 (by simp)
      refine ⟨by simp [putF, c4], ?_⟩
      simp [encB, tailB, putF]
    · intro h
      refine Or.inl ?_
      by_cases c4 : tag.size = 32
      · exact absurd ⟨fun h => by simp at h, fun h => by simp at h, fun h => by simp at h, fun h => by simp at h, fun h => by simp at h, fun _ => c4⟩ h
      · simp [putF, c4]
end Go.Proofs.YtniabkphbnimaaaGreatDoor.Sh
namespace Go.Proofs.YtniabkphbnimaaaGreatDoor.Sh
open Go Go.RowKit Go.Maps Go.Proofs.YtniabkphbnimaaaGreatDoorW.PrintWords Go.Proofs.YtniabkphbnimaaaGreatDoorW.PrintLast Go.Proofs.YtniabkphbnimaaaGreatDoor.Bs
theorem streq_yields {P : Program} {o : Oper} {a : Act} (t t2 : TypeId) (x y : Operand) (ho : o.op = .binOp .eql t x y t2) (s r : ByteArray) (hx : a.eval x = .string s) (hy : a.eval y = .string r) (b : Bool) (hb : (s.toList == r.toList) = b) (w : World) :
    (execOp a.eval o).run P w = .ok (.value (.bool b)) w := by
  subst hb
  unfold execOp
  simp [ho, hx, hy, Sem.run_bind, eqGuard, binOp, Op.stringOp]
end Go.Proofs.YtniabkphbnimaaaGreatDoor.Sh
namespace Go.Proofs.YtniabkphbnimaaaGreatDoor.Sh
open Go Go.RowKit Go.Maps Go.Proofs.YtniabkphbnimaaaGreatDoorW.PrintWords Go.Proofs.YtniabkphbnimaaaGreatDoorW.PrintLast Go.Proofs.YtniabkphbnimaaaGreatDoor.Bs
theorem times_l (c : UInt8) (n : Nat) (hn : n < 4611686018427387904) : ∀ (m i k : Nat), m = n - i → i ≤ n → m < k →
    QQA.joustlaw07_times.l0 k (c.toNat : Int) (n : Int) (List.replicate i (c.toNat : Int) ++ List.replicate (n - i) 0) (i : Int) = some (strOfNums (List.replicate n (c.toNat : Int))) := by
  intro m
  induction m with
  | zero =>
    intro i k hm hi hk
    obtain ⟨k, rfl⟩ : ∃ j, k = j + 1 := ⟨k - 1, by omega⟩
    have : i = n := by omega
    subst this
    unfold QQA.joustlaw07_times.l0
    rw [if_neg (by omega)]
    simp
  | succ m ih =>
    intro i k hm hi hk
    obtain ⟨k, rfl⟩ : ∃ j, k = j + 1 := ⟨k - 1, by omega⟩
    have hz : wrap64 ((i : Int) + 1) = ((i + 1 : Nat) : Int) := by unfold wrap64; omega
    unfold QQA.joustlaw07_times.l0
    rw [if_pos (by omega), if_pos (by omega), if_pos (by simp; omega), hz]
    have e : (List.replicate i (c.toNat : Int) ++ List.replicate (n - i) 0).set ((i : Int)).toNat (c.toNat : Int) = List.replicate (i + 1) (c.toNat : Int) ++ List.replicate (n - (i + 1)) 0 := by
      rw [Int.toNat_natCast, List.set_append_right _ _ (by simp), List.length_replicate, Nat.sub_self, show n - i = (n - (i + 1)) + 1 by omega, List.replicate_succ, List.set_cons_zero, List.replicate_succ' (n := i), List.append_assoc]
      rfl
    rw [e]
    exact ih (i + 1) k (by omega) (by omega) (by omega)
theorem strOf_rep (c : UInt8) (n : Nat) : strOfNums (List.replicate n (c.toNat : Int)) = str (List.replicate n c) := by
  unfold strOfNums str
  simp
theorem times_f (c : UInt8) (n : Nat) (hn : n ≤ 281474976710656) : QQA.joustlaw07_times.f (n + 1) (c.toNat : Int) (n : Int) = some (str (List.replicate n c)) := by
  unfold QQA.joustlaw07_times.f
  rw [if_pos (by omega), if_pos (by omega)]
  have := times_l c n (by omega) n 0 (n + 1) (by omega) (by omega) (by omega)
  rw [strOf_rep] at this
  simpa using this
theorem times_calls (c : UInt8) (ci : Int) (hc : ci = (c.toNat : Int)) (n : Nat) (ni : Int) (hni : ni = (n : Int)) (hn : n ≤ 281474976710656) (w : World) : Calls Tryz.prog 21 #[.int .u8 ci, .int .i64 ni] w fun e w' => e = .returned (.string (str (List.replicate n c))) ∧ Below w.heap.size w w' := by
  subst hc hni
  exact (QQA.joustlaw07_times.calls _ _ _ _ w (times_f c n hn)).mono fun e w' hh => ⟨hh.1, hh.2⟩
def bA : List UInt8 := [74, 48, 49, 5, 0, 0, 0, 0, 0, 0, 0, 1, 0, 0, 0, 0, 0, 0, 0, 2, 255, 5, 1]
def tA : List UInt8 := List.replicate 32 116
def dA : Dg := ⟨5, ⟨#[]⟩, 0, ⟨#[]⟩, ⟨#[]⟩, 1, 0, ⟨#[]⟩, 2, -1, 5, true, false, ⟨#[]⟩, str tA⟩
def hA : List UInt8 := hmac [107] bA
theorem hA_len : hA.length = 32 := length_sha _
theorem enc_A : enc dA = (str (bA ++ tA), 0) := by kernel_rfl
theorem body_A (m : List UInt8) (hm : m.length = 32) : bodyB (bA ++ m) = bA := by
  have hl : (bA ++ m).length = 55 := by rw [List.length_append, hm]; rfl
  unfold bodyB
  rw [hl, if_pos ⟨rfl, by omega, by show 3 ≤ 5; omega, by show 5 ≤ 7; omega⟩]
  exact List.take_left (l₁ := bA) (l₂ := m)
theorem enc_A0 : enc { dA with tag := str (List.replicate 32 0) } = (str (bA ++ List.replicate 32 0), 0) := by kernel_rfl
theorem seal_A : sealB dA [107] = (str (bA ++ hA), 0) := by
  unfold sealB
  rw [if_pos (show 3 ≤ dA.kind ∧ dA.kind ≤ 7 by decide), enc_A0]
  rw [if_neg (show ¬ ((str (bA ++ List.replicate 32 (0 : UInt8)), (0 : Int)).2 ≠ 0) by simp)]
  show (str (bodyB (bA ++ List.replicate 32 0) ++ hmac [107] (bodyB (bA ++ List.replicate 32 0))), (0 : Int)) = _
  rw [body_A _ (by rw [List.length_replicate])]
  rfl
theorem dec_A : (dec (bA ++ hA)).1.seq = 2 ∧ (dec (bA ++ hA)).2 = 0 := by
  have hl := hA_len
  obtain ⟨t, et⟩ : ∃ t : List UInt8, t = [0, 0, 0, 0, 0, 0, 0, 1, 0, 0, 0, 0, 0, 0, 0, 2, 255, 5, 1] ++ hA := ⟨_, rfl⟩
  have e : bA ++ hA = 74 :: 48 :: 49 :: 5 :: t := by rw [et]; rfl
  have ht : t.length = 51 := by rw [et, List.length_append, hl]; rfl
  rw [e, dec_at 5 t (by simp only [List.length_cons]; omega) (by decide)]
  show (fin (getAll (fieldsOf 5) (dk 5, false, t))).1.seq = 2 ∧ _
  have h3 : ¬ 3 < (t.getD 18 0).toNat := by rw [et]; decide
  have hs : num ((t.drop 8).take 8) = 2 := by rw [et]; rfl
  have hd := dec5 t
  rw [if_pos ht, if_neg h3] at hd
  refine ⟨?_, ?_⟩
  · show (fin (getAll (fieldsOf 5) (dk 5, false, t))).1.seq = 2
    rw [hd]
    exact hs
  · show (fin (getAll (fieldsOf 5) (dk 5, false, t))).2 = 0
    rw [hd]
theorem seald_A (m k : List UInt8) (hm : m.length = 32) : sealedB (bA ++ m) k = decide (m = hmac k bA) := by
  unfold sealedB
  rw [body_A m hm]
  refine decide_eq_decide.mpr ⟨fun h => ?_, fun h => ⟨by decide, ?_⟩⟩
  · have := h.2
    rwa [List.drop_left] at this
  · rw [List.drop_left]
    exact h
theorem tags_0 : (hmac [107] bA).getD 0 0 ≠ (hmac [108] bA).getD 0 0 := by decide +kernel
theorem tags_1 : (hmac [107] bA).getD 0 0 ≠ 116 := by decide +kernel
theorem seald_1 : sealedB (bA ++ hA) [107] = true := by
  rw [seald_A _ _ hA_len]
  exact decide_eq_true rfl
theorem seald_2 : sealedB (bA ++ hA) [108] = false := by
  rw [seald_A _ _ hA_len]
  refine decide_eq_false (fun h => tags_0 ?_)
  exact congrArg (fun l : List UInt8 => l.getD 0 0) h
theorem seald_3 : sealedB (bA ++ tA) [107] = false := by
  rw [seald_A _ _ (by unfold tA; rw [List.length_replicate])]
  refine decide_eq_false (fun h => tags_1 ?_)
  have := congrArg (fun l : List UInt8 => l.getD 0 0) h
  exact this.symm
theorem dA_ok : dA.ok := by
  unfold Dg.ok
  decide
end Go.Proofs.YtniabkphbnimaaaGreatDoor.Sh
namespace Go.Proofs.YtniabkphbnimaaaGreatDoor.Sh
open Go Go.RowKit Go.Maps Go.Proofs.YtniabkphbnimaaaGreatDoorW.PrintWords Go.Proofs.YtniabkphbnimaaaGreatDoorW.PrintLast Go.Proofs.YtniabkphbnimaaaGreatDoor.Bs
def T_9_5 : Bool × List (List Nat × List Nat) := (true, [([], []), ([0], [0]), ([1], [1]), ([2], [2]), ([3], [3]), ([4, 3], [3, 4]), ([3, 5], [3, 5]), ([6, 3], [6]), ([7], [7]), ([8, 7], [7, 8]), ([7, 9], [7, 9]), ([10, 7], [10]), ([11], [11]), ([12, 11], [11, 12]), ([11, 13], [11, 13]), ([14, 11], [14]), ([15], [15]), ([15, 15], [15]), ([17, 15], [15, 17]), ([18, 15], [15, 18]), ([17, 15], [15]), ([19, 20, 15], [15, 19, 20]), ([21, 15], [15, 21]), ([20, 15], [15]), ([22, 23, 15], [15, 22, 23]), ([16, 24, 15], [15, 16, 24]), ([15, 25], [15, 25]), ([26, 23], [26]), ([27], [27]), ([28, 27], [27, 28]), ([29, 27], [27, 29]), ([27, 30], [27, 30]), ([31, 27], [31]), ([32], [32]), ([33, 32, 32], [32, 33]), ([32], [32]), ([35, 32], [32, 35]), ([34, 36, 32], [32, 34, 36]), ([32, 37], [32, 37]), ([38, 34], [38]), ([39], [39]), ([40, 39, 39], [39, 40]), ([39, 41], [39, 41]), ([42, 41], [42]), ([43], [43]), ([44, 43, 43], [43, 44]), ([45, 43], [43, 45]), ([43, 46], [43, 46]), ([47, 45], [47]), ([48], [48]), ([49, 48, 48], [48, 49]), ([50, 48], [48, 50]), ([48, 51], [48, 51]), ([52, 50, 0, 1, 2, 3, 4, 5, 6, 7, 8, 9, 10, 11, 12, 13, 14, 15, 16, 17, 18, 19, 20, 21, 22, 23, 24, 25, 26, 27, 28, 29, 30, 31, 32, 33, 34, 35, 36, 37, 38, 39, 40, 41, 42, 43, 44, 45, 46, 47, 48, 49, 50, 51, 52], [52])])
def B_9_5 : List Nat := [0, 1, 3, 7, 15, 31, 63, 127, 255, 511, 1023, 2047, 4095, 8191, 16383, 32767, 65535, 65535, 196607, 458751, 196607, 2031615, 4128767, 1245183, 16711679, 33554431, 67108863, 134217727, 268435455, 536870911, 1073741823, 2147483647, 4294967295, 8589934591, 17179869183, 8589934591, 42949672959, 137438953471, 274877906943, 549755813887, 1099511627775, 2199023255551, 4398046511103, 8796093022207, 17592186044415, 35184372088831, 70368744177663, 140737488355327, 281474976710655, 562949953421311, 1125899906842623, 2251799813685247, 4503599627370495, 9007199254740991]
theorem tab_f9_5 : rtab .any (opsOf Tryz.f9 5) = T_9_5 := by kernel_rfl
theorem bits_f9_5 : waitsOk T_9_5.2 B_9_5 = true := by kernel_rfl
set_option maxHeartbeats 8000000 in
set_option maxRecDepth 100000 in
theorem alive_calls (w : World) (hg : GL w) : Calls Tryz.prog 9 #[] w fun e w' => e = .returned (.bool true) ∧ Below w.heap.size w w' := by
  have HG := Aside0.mk hg
  obtain ⟨ta, eta⟩ : ∃ ta : List UInt8, ta = tA := ⟨_, rfl⟩
  have HTA := Aside0.mk (show ta.length = 32 by rw [eta]; rfl)
  obtain ⟨s, es⟩ : ∃ s, s = str (bA ++ tA) := ⟨_, rfl⟩
  obtain ⟨t, et⟩ : ∃ t, t = str (bA ++ hA) := ⟨_, rfl⟩
  obtain ⟨dB, edB⟩ : ∃ d : Dg, d = (dec (bA ++ hA)).1 := ⟨_, rfl⟩
  have TC32 := Aside0.mk (show ∀ w, Calls Tryz.prog 21 #[.int .u8 116, .int .i64 32] w fun e w' => e = .returned (.string (str ta)) ∧ Below w.heap.size w w' from fun w => by rw [eta]; exact times_calls 116 _ rfl 32 _ rfl (by omega) w)
  have TC7 := Aside0.mk (show ∀ w, Calls Tryz.prog 21 #[.int .u8 0, .int .i64 7] w fun e w' => e = .returned (.string (str [0, 0, 0, 0, 0, 0, 0])) ∧ Below w.heap.size w w' from fun w => times_calls 0 _ rfl 7 _ rfl (by omega) w)
  have EC := Aside0.mk (show ∀ w, Calls Tryz.prog 16 #[.agg dA.cells.toArray] w fun e w' => e = .returned (.tuple #[.string s, .int .i64 0]) ∧ Below w.heap.size w w' from fun w => by
    have h := encode_calls dA dA_ok (by decide) w
    rw [enc_A, ← es] at h
    exact h)
  have SC := Aside0.mk (show ∀ w, GL w → Calls Tryz.prog 18 #[.agg dA.cells.toArray, .string ⟨#[107]⟩] w fun e w' => e = .returned (.tuple #[.string t, .int .i64 0]) ∧ Below w.heap.size w w' from fun w hg => by
    have h := seal_calls dA ⟨#[107]⟩ w hg dA_ok (by decide) (by decide)
    rw [show sealB dA (bl ⟨#[107]⟩) = (str (bA ++ hA), 0) from seal_A, ← et] at h
    exact h)
  have DC := Aside0.mk (show ∀ w, Calls Tryz.prog 10 #[.string t] w fun e w' => e = .returned (.tuple #[.agg dB.cells.toArray, .int .i64 0]) ∧ Below w.heap.size w w' from fun w => by
    have h := decode_calls (bA ++ hA) w
    rw [dec_A.2, ← et, ← edB] at h
    exact h)
  have DAC := Aside0.mk (show Value.agg #[.int .i64 5, .string ⟨#[]⟩, .int .u64 0, .string ⟨#[]⟩, .string ⟨#[]⟩, .int .u64 1, .int .i64 0, .string ⟨#[]⟩, .int .u64 2, .int .i64 (-1), .int .i64 5, .bool true, .bool false, .string ⟨#[]⟩, .string (str ta)] = .agg dA.cells.toArray from by rw [eta]; rfl)
  have hts : s.size = 55 := by rw [es]; rfl
  have S8 := Aside0.mk (show dB.cells[8]? = some (.int .u64 2) from by
    show some (Value.int .u64 (dB.seq : Int)) = _
    rw [edB, dec_A.1]
    rfl)
  have BC := Aside0.mk (show ∀ w, Calls Tryz.prog 12 #[.string s] w fun e w' => e = .returned (.string (str bA)) ∧ Below w.heap.size w w' from fun w => by
    have h := body_calls (bA ++ tA) (by decide) w
    rw [body_A tA (by decide), ← es] at h
    exact h)
  have S1 := Aside0.mk (show ∀ w, GL w → Calls Tryz.prog 14 #[.string t, .string ⟨#[107]⟩] w fun e w' => e = .returned (.bool true) ∧ Below w.heap.size w w' from fun w hg => by
    have h := sealed_calls (bA ++ hA) ⟨#[107]⟩ w hg (by rw [List.length_append, hA_len]; decide) (by decide)
    rw [show sealedB (bA ++ hA) (bl ⟨#[107]⟩) = true from seald_1, ← et] at h
    exact h)
  have S2 := Aside0.mk (show ∀ w, GL w → Calls Tryz.prog 14 #[.string t, .string ⟨#[108]⟩] w fun e w' => e = .returned (.bool false) ∧ Below w.heap.size w w' from fun w hg => by
    have h := sealed_calls (bA ++ hA) ⟨#[108]⟩ w hg (by rw [List.length_append, hA_len]; decide) (by decide)
    rw [show sealedB (bA ++ hA) (bl ⟨#[108]⟩) = false from seald_2, ← et] at h
    exact h)
  have S3 := Aside0.mk (show ∀ w, GL w → Calls Tryz.prog 14 #[.string s, .string ⟨#[107]⟩] w fun e w' => e = .returned (.bool false) ∧ Below w.heap.size w w' from fun w hg => by
    have h := sealed_calls (bA ++ tA) ⟨#[107]⟩ w hg (by decide) (by decide)
    rw [show sealedB (bA ++ tA) (bl ⟨#[107]⟩) = false from seald_3, ← es] at h
    exact h)
  have EQ1 := Aside0.mk (show (s.toList == (str (((((([74, 48, 49, 5] : List UInt8) ++ [0, 0, 0, 0, 0, 0, 0]) ++ [1]) ++ [0, 0, 0, 0, 0, 0, 0]) ++ [2, 255, 5, 1]) ++ ta)).toList) = true from by
    rw [es, eta, str_list, str_list]
    exact beq_iff_eq.mpr rfl)
  have EQ2 := Aside0.mk (show ((str bA).toList == (s.extract 0 23).toList) = true from by
    rw [es, str_take, str_list, str_list]
    exact beq_iff_eq.mpr rfl)
  clear es et eta edB hg
  go_enter Tryz.func9, Tryz.ntmps9
  go_upto_region 4 with (first
    | (go_at_call 21; (with_reducible refine (TC32.out _).mono ?_); rintro e w1 ⟨rfl, hb1⟩; have HB := Aside0.mk hb1; clear hb1)
    | ((with_reducible first | refine at_alloc_ ?_ | refine at_alloc2_ ?_); refine wpList_alloc_v rfl 27 rfl Dg.zero.cells (by kernel_rfl) ?_; intro D w2 eD hD2 hb2 hz2; have HDD := Aside0.mk (show w.heap.size ≤ D from by have := eD.out; have := HB.out.size; omega); have n1_ := Aside0.mk (HB.out.trans (hb2.out.mono HB.out.size)); clear HB; have HB := n1_; clear n1_ hb2 hz2)
    | ((with_reducible first | refine at_store_ ?_ | refine at_store2_ ?_); refine wpList_store_agg rfl 27 _ _ rfl D 0 rfl dA.cells Dg.zero.cells (by exact DAC.out) _ hD2.out (by exact Nat.le_refl 15) (fun v hv => one_cells hv) (by kernel_rfl) ?_; intro w3 hD3 hm3 hz3; rw [splice_all Dg.zero.cells dA.cells rfl] at hD3; have HD := Aside0.mk hD3.out; have n1_ := Aside0.mk (toBelow' HB.out hm3.out HDD.out); clear HB; have HB := n1_; clear n1_ hD2 hD3 hm3 hz3)
    | ((with_reducible first | refine at_load_ ?_ | refine at_load2_ ?_); refine wpList_load_agg rfl 27 _ rfl D 0 rfl dA.cells (load_all HD.out) _ Tryz.underlying27 rfl (by kernel_rfl) ?_)
    | (go_at_call 16; (with_reducible refine (EC.out _).mono ?_); rintro e w4 ⟨rfl, hb4⟩; have n1_ := Aside0.mk (HB.out.trans (hb4.mono HB.out.size)); have n2_ := Aside0.mk ((hb4.block D (blk_lt HD.out)).trans HD.out); clear HB HD hb4; have HB := n1_; have HD := n2_; clear n1_ n2_)
    | (go_at_call 18; (with_reducible refine (SC.out _ (gl_below HG.out HB.out)).mono ?_); rintro e w5 ⟨rfl, hb5⟩; have n1_ := Aside0.mk (HB.out.trans (hb5.mono HB.out.size)); have n2_ := Aside0.mk ((hb5.block D (blk_lt HD.out)).trans HD.out); clear HB HD hb5; have HB := n1_; have HD := n2_; clear n1_ n2_))
  go_wp2_with (first
    | (go_at_call 10; (with_reducible refine (DC.out _).mono ?_); rintro e w6 ⟨rfl, hb6⟩; have n1_ := Aside0.mk (HB.out.trans (hb6.mono HB.out.size)); have n2_ := Aside0.mk ((hb6.block D (blk_lt HD.out)).trans HD.out); clear HB HD hb6; have HB := n1_; have HD := n2_; clear n1_ n2_)
    | ((with_reducible first | refine at_alloc_ ?_ | refine at_alloc2_ ?_); refine wpList_alloc_v rfl 27 rfl Dg.zero.cells (by kernel_rfl) ?_; intro E w7 eE hE7 hb7 hz7; have HEE := Aside0.mk (show w.heap.size ≤ E from by have := eE.out; have := HB.out.size; omega); have n1_ := Aside0.mk (HB.out.trans (hb7.out.mono HB.out.size)); clear HB; have HB := n1_; clear n1_ hb7 hz7)
    | ((with_reducible first | refine at_store_ ?_ | refine at_store2_ ?_); refine wpList_store_agg rfl 27 _ _ rfl E 0 rfl dB.cells Dg.zero.cells (by rfl) _ hE7.out (by exact Nat.le_refl 15) (fun v hv => one_cells hv) (by kernel_rfl) ?_; intro w8 hE8 hm8 hz8; rw [splice_all Dg.zero.cells dB.cells rfl] at hE8; have HE := Aside0.mk hE8.out; have n1_ := Aside0.mk (toBelow' HB.out hm8.out HEE.out); clear HB; have HB := n1_; clear n1_ hE7 hE8 hm8 hz8))
  refine start_ (n := 54) (S := fun w' => w'.cell? ⟨E, 8, none⟩ = some (.int .u64 2)) (ds := []) #[false, false, false, false, false, false, false, false, false, false, false, false, false, false, false, false, false, false, false, false, false, false, false, false, false, false, false, false, false, false, false, false, false, false, false, false, false, false, false, false, false, false, false, false, false, false, false, false, false, false, false, false, false, false] (by kernel_rfl) rfl rfl (cell_of HE.out S8.out) (fun hHeld => ?_)
  refine with_tabW tab_f9_5 bits_f9_5 (fun HT_ HW_ => ?_)
  refine pure_ (i := 0) (N := some 26) (v := ?_) (a' := ?_) #[true, false, false, false, false, false, false, false, false, false, false, false, false, false, false, false, false, false, false, false, false, false, false, false, false, false, false, false, false, false, false, false, false, false, false, false, false, false, false, false, false, false, false, false, false, false, false, false, false, false, false, false, false, false] rfl rfl (any_of HT_.out (by kernel_rfl)) (fun _ _ _ h => h) (Or.inl ⟨by rfl, ?_⟩) ?_ ?_
  rotate_left
  · intro w'
    go_simp
    with_reducible rfl
  rotate_left
  · simp only [Act.put, List.setIfInBounds_toArray, List.set_cons_zero, List.set_cons_succ, i64_w, i32_w]
    rfl
  refine pure_ (i := 1) (N := some 27) (v := ?_) (a' := ?_) #[true, true, false, false, false, false, false, false, false, false, false, false, false, false, false, false, false, false, false, false, false, false, false, false, false, false, false, false, false, false, false, false, false, false, false, false, false, false, false, false, false, false, false, false, false, false, false, false, false, false, false, false, false, false] rfl rfl (any_of HT_.out (by kernel_rfl)) (fun _ _ _ h => h) (Or.inl ⟨by rfl, ?_⟩) ?_ ?_
  rotate_left
  · intro w'
    go_simp
    with_reducible rfl
  rotate_left
  · simp only [Act.put, List.setIfInBounds_toArray, List.set_cons_zero, List.set_cons_succ, i64_w, i32_w]
    rfl
  refine pure_ (i := 2) (N := some 28) (v := ?_) (a' := ?_) #[true, true, true, false, false, false, false, false, false, false, false, false, false, false, false, false, false, false, false, false, false, false, false, false, false, false, false, false, false, false, false, false, false, false, false, false, false, false, false, false, false, false, false, false, false, false, false, false, false, false, false, false, false, false] rfl rfl (any_of HT_.out (by kernel_rfl)) (fun _ _ _ h => h) (Or.inl ⟨by rfl, ?_⟩) ?_ ?_
  rotate_left
  · intro w'
    go_simp
    with_reducible rfl
  rotate_left
  · simp only [Act.put, List.setIfInBounds_toArray, List.set_cons_zero, List.set_cons_succ, i64_w, i32_w]
    rfl
  refine pure_ (i := 3) (N := some 29) (v := ?_) (a' := ?_) #[true, true, true, true, false, false, false, false, false, false, false, false, false, false, false, false, false, false, false, false, false, false, false, false, false, false, false, false, false, false, false, false, false, false, false, false, false, false, false, false, false, false, false, false, false, false, false, false, false, false, false, false, false, false] rfl rfl (any_of HT_.out (by kernel_rfl)) (fun _ _ _ h => h) (Or.inl ⟨by rfl, ?_⟩) ?_ ?_
  rotate_left
  · intro w'
    go_simp
    with_reducible rfl
  rotate_left
  · simp only [Act.put, List.setIfInBounds_toArray, List.set_cons_zero, List.set_cons_succ, i64_w, i32_w]
    rfl
  refine pure_ (i := 4) (N := some 30) (v := ?_) (a' := ?_) #[true, true, true, true, true, false, false, false, false, false, false, false, false, false, false, false, false, false, false, false, false, false, false, false, false, false, false, false, false, false, false, false, false, false, false, false, false, false, false, false, false, false, false, false, false, false, false, false, false, false, false, false, false, false] rfl rfl (any_of HT_.out (by kernel_rfl)) (fun _ _ _ h => h) (Or.inl ⟨by rfl, ?_⟩) ?_ ?_
  rotate_left
  · intro w'
    go_simp
    with_reducible rfl
  rotate_left
  · simp only [Act.put, List.setIfInBounds_toArray, List.set_cons_zero, List.set_cons_succ, i64_w, i32_w]
    rfl
  refine pure_ (i := 5) (N := some 31) (v := ?_) (a' := ?_) #[true, true, true, true, true, true, false, false, false, false, false, false, false, false, false, false, false, false, false, false, false, false, false, false, false, false, false, false, false, false, false, false, false, false, false, false, false, false, false, false, false, false, false, false, false, false, false, false, false, false, false, false, false, false] rfl rfl (any_of HT_.out (by kernel_rfl)) (fun _ _ _ h => h) (Or.inl ⟨by rfl, ?_⟩) ?_ ?_
  rotate_left
  · intro w'
    go_simp
    with_reducible rfl
  rotate_left
  · simp only [Act.put, List.setIfInBounds_toArray, List.set_cons_zero, List.set_cons_succ, i64_w, i32_w]
    rfl
  refine pure_ (i := 6) (N := some 32) (v := ?_) (a' := ?_) #[true, true, true, true, true, true, true, false, false, false, false, false, false, false, false, false, false, false, false, false, false, false, false, false, false, false, false, false, false, false, false, false, false, false, false, false, false, false, false, false, false, false, false, false, false, false, false, false, false, false, false, false, false, false] rfl rfl (any_of HT_.out (by kernel_rfl)) (fun _ _ _ h => h) (Or.inl ⟨by rfl, ?_⟩) ?_ ?_
  rotate_left
  · intro w'
    go_simp
    with_reducible rfl
  rotate_left
  · simp only [Act.put, List.setIfInBounds_toArray, List.set_cons_zero, List.set_cons_succ, i64_w, i32_w]
    rfl
  refine pure_ (i := 7) (N := some 33) (v := ?_) (a' := ?_) #[true, true, true, true, true, true, true, true, false, false, false, false, false, false, false, false, false, false, false, false, false, false, false, false, false, false, false, false, false, false, false, false, false, false, false, false, false, false, false, false, false, false, false, false, false, false, false, false, false, false, false, false, false, false] rfl rfl (any_of HT_.out (by kernel_rfl)) (fun _ _ _ h => h) (Or.inl ⟨by rfl, ?_⟩) ?_ ?_
  rotate_left
  · intro w'
    go_simp
    with_reducible rfl
  rotate_left
  · simp only [Act.put, List.setIfInBounds_toArray, List.set_cons_zero, List.set_cons_succ, i64_w, i32_w]
    rfl
  refine pure_ (i := 8) (N := some 34) (v := ?_) (a' := ?_) #[true, true, true, true, true, true, true, true, true, false, false, false, false, false, false, false, false, false, false, false, false, false, false, false, false, false, false, false, false, false, false, false, false, false, false, false, false, false, false, false, false, false, false, false, false, false, false, false, false, false, false, false, false, false] rfl rfl (any_of HT_.out (by kernel_rfl)) (fun _ _ _ h => h) (Or.inl ⟨by rfl, ?_⟩) ?_ ?_
  rotate_left
  · intro w'
    go_simp
    with_reducible rfl
  rotate_left
  · simp only [Act.put, List.setIfInBounds_toArray, List.set_cons_zero, List.set_cons_succ, i64_w, i32_w]
    rfl
  refine pure_ (i := 9) (N := some 35) (v := ?_) (a' := ?_) #[true, true, true, true, true, true, true, true, true, true, false, false, false, false, false, false, false, false, false, false, false, false, false, false, false, false, false, false, false, false, false, false, false, false, false, false, false, false, false, false, false, false, false, false, false, false, false, false, false, false, false, false, false, false] rfl rfl (any_of HT_.out (by kernel_rfl)) (fun _ _ _ h => h) (Or.inl ⟨by rfl, ?_⟩) ?_ ?_
  rotate_left
  · intro w'
    go_simp
    with_reducible rfl
  rotate_left
  · simp only [Act.put, List.setIfInBounds_toArray, List.set_cons_zero, List.set_cons_succ, i64_w, i32_w]
    rfl
  refine pure_ (i := 10) (N := some 36) (v := ?_) (a' := ?_) #[true, true, true, true, true, true, true, true, true, true, true, false, false, false, false, false, false, false, false, false, false, false, false, false, false, false, false, false, false, false, false, false, false, false, false, false, false, false, false, false, false, false, false, false, false, false, false, false, false, false, false, false, false, false] rfl rfl (any_of HT_.out (by kernel_rfl)) (fun _ _ _ h => h) (Or.inl ⟨by rfl, ?_⟩) ?_ ?_
  rotate_left
  · intro w'
    go_simp
    with_reducible rfl
  rotate_left
  · simp only [Act.put, List.setIfInBounds_toArray, List.set_cons_zero, List.set_cons_succ, i64_w, i32_w]
    rfl
  refine pure_ (i := 11) (N := some 37) (v := ?_) (a' := ?_) #[true, true, true, true, true, true, true, true, true, true, true, true, false, false, false, false, false, false, false, false, false, false, false, false, false, false, false, false, false, false, false, false, false, false, false, false, false, false, false, false, false, false, false, false, false, false, false, false, false, false, false, false, false, false] rfl rfl (any_of HT_.out (by kernel_rfl)) (fun _ _ _ h => h) (Or.inl ⟨by rfl, ?_⟩) ?_ ?_
  rotate_left
  · intro w'
    go_simp
    with_reducible rfl
  rotate_left
  · simp only [Act.put, List.setIfInBounds_toArray, List.set_cons_zero, List.set_cons_succ, i64_w, i32_w]
    rfl
  refine pure_ (i := 12) (N := some 38) (v := ?_) (a' := ?_) #[true, true, true, true, true, true, true, true, true, true, true, true, true, false, false, false, false, false, false, false, false, false, false, false, false, false, false, false, false, false, false, false, false, false, false, false, false, false, false, false, false, false, false, false, false, false, false, false, false, false, false, false, false, false] rfl rfl (any_of HT_.out (by kernel_rfl)) (fun _ _ _ h => h) (Or.inl ⟨by rfl, ?_⟩) ?_ ?_
  rotate_left
  · intro w'
    go_simp
    with_reducible rfl
  rotate_left
  · simp only [Act.put, List.setIfInBounds_toArray, List.set_cons_zero, List.set_cons_succ, i64_w, i32_w]
    rfl
  refine pure_ (i := 13) (N := some 39) (v := ?_) (a' := ?_) #[true, true, true, true, true, true, true, true, true, true, true, true, true, true, false, false, false, false, false, false, false, false, false, false, false, false, false, false, false, false, false, false, false, false, false, false, false, false, false, false, false, false, false, false, false, false, false, false, false, false, false, false, false, false] rfl rfl (any_of HT_.out (by kernel_rfl)) (fun _ _ _ h => h) (Or.inl ⟨by rfl, ?_⟩) ?_ ?_
  rotate_left
  · intro w'
    go_simp
    with_reducible rfl
  rotate_left
  · simp only [Act.put, List.setIfInBounds_toArray, List.set_cons_zero, List.set_cons_succ, i64_w, i32_w]
    rfl
  refine pure_ (i := 14) (N := some 40) (v := ?_) (a' := ?_) #[true, true, true, true, true, true, true, true, true, true, true, true, true, true, true, false, false, false, false, false, false, false, false, false, false, false, false, false, false, false, false, false, false, false, false, false, false, false, false, false, false, false, false, false, false, false, false, false, false, false, false, false, false, false] rfl rfl (any_of HT_.out (by kernel_rfl)) (fun _ _ _ h => h) (Or.inl ⟨by rfl, ?_⟩) ?_ ?_
  rotate_left
  · intro w'
    go_simp
    with_reducible rfl
  rotate_left
  · simp only [Act.put, List.setIfInBounds_toArray, List.set_cons_zero, List.set_cons_succ, i64_w, i32_w]
    rfl
  refine pure_ (i := 15) (N := some 41) (v := ?_) (a' := ?_) #[true, true, true, true, true, true, true, true, true, true, true, true, true, true, true, true, false, false, false, false, false, false, false, false, false, false, false, false, false, false, false, false, false, false, false, false, false, false, false, false, false, false, false, false, false, false, false, false, false, false, false, false, false, false] rfl rfl (any_of HT_.out (by kernel_rfl)) (fun _ _ _ h => h) (Or.inl ⟨by rfl, ?_⟩) ?_ ?_
  rotate_left
  · intro w'
    go_simp
    with_reducible rfl
  rotate_left
  · simp only [Act.put, List.setIfInBounds_toArray, List.set_cons_zero, List.set_cons_succ, i64_w, i32_w]
    rfl
  refine pure_ (i := 16) (N := some 42) (v := ?_) (a' := ?_) #[true, true, true, true, true, true, true, true, true, true, true, true, true, true, true, true, true, false, false, false, false, false, false, false, false, false, false, false, false, false, false, false, false, false, false, false, false, false, false, false, false, false, false, false, false, false, false, false, false, false, false, false, false, false] rfl rfl (any_of HT_.out (by kernel_rfl)) (fun _ _ _ h => h) (Or.inl ⟨by rfl, ?_⟩) ?_ ?_
  rotate_left
  · intro w'
    go_simp
    with_reducible rfl
  rotate_left
  · simp only [Act.put, List.setIfInBounds_toArray, List.set_cons_zero, List.set_cons_succ, i64_w, i32_w]
    rfl
  refine one_ (i := 17) (N := some 43) #[true, true, true, true, true, true, true, true, true, true, true, true, true, true, true, true, true, true, false, false, false, false, false, false, false, false, false, false, false, false, false, false, false, false, false, false, false, false, false, false, false, false, false, false, false, false, false, false, false, false, false, false, false, false] rfl rfl (one_of HT_.out (by kernel_rfl)) (by decide) (fun K hK => ?_)
  refine goes_ Tryz.func21 (by kernel_rfl) rfl #[.int .u8 0, .int .i64 7] (by rfl) rfl rfl (by (try simp only [List.map_toArray, List.map_cons, List.map_nil]); first | done | rfl) ?_
  with_reducible refine (TC7.out _).mono ?_
  rintro e w9 ⟨rfl, hb9⟩
  refine ⟨_, rfl, ?_⟩
  have n1_ := Aside0.mk ((show Below w.heap.size w _ from by first | exact HB.out | exact below_drew1 HB.out).trans (hb9.mono HB.out.size)); have n2_ := Aside0.mk ((hb9.block E (blk_lt HE.out)).trans HE.out); clear HB HE hb9; have HB := n1_; have HE := n2_; clear n1_ n2_
  refine hK.out _ _ (cell_of HE.out S8.out) (fun hHeld => ?_)
  clear hK K
  refine norm_ (a' := ?_) ?_ ?_
  rotate_left
  · show Act.put _ (some 43) _ = _
    simp only [Act.put, List.setIfInBounds_toArray, List.set_cons_zero, List.set_cons_succ, i64_w, i32_w]
    rfl
  refine pure_ (i := 18) (N := some 44) (a' := ?_) #[true, true, true, true, true, true, true, true, true, true, true, true, true, true, true, true, true, true, true, false, false, false, false, false, false, false, false, false, false, false, false, false, false, false, false, false, false, false, false, false, false, false, false, false, false, false, false, false, false, false, false, false, false, false] rfl rfl (any_of HT_.out (by kernel_rfl)) (fun _ _ _ h => h) (Or.inl ⟨by rfl, cat_yields _ _ _ _ (by rfl) _ _ (by rfl) (by rfl) (by decide)⟩) ?_ ?_
  rotate_left
  · simp only [Act.put, List.setIfInBounds_toArray, List.set_cons_zero, List.set_cons_succ, i64_w, i32_w]
    rfl
  refine pure_ (i := 19) (N := some 45) (a' := ?_) #[true, true, true, true, true, true, true, true, true, true, true, true, true, true, true, true, true, true, true, true, false, false, false, false, false, false, false, false, false, false, false, false, false, false, false, false, false, false, false, false, false, false, false, false, false, false, false, false, false, false, false, false, false, false] rfl rfl (any_of HT_.out (by kernel_rfl)) (fun _ _ _ h => h) (Or.inl ⟨by rfl, cat_yields _ _ _ _ (by rfl) _ _ (by rfl) (by rfl) (by decide)⟩) ?_ ?_
  rotate_left
  · simp only [Act.put, List.setIfInBounds_toArray, List.set_cons_zero, List.set_cons_succ, i64_w, i32_w]
    rfl
  refine one_ (i := 20) (N := some 46) #[true, true, true, true, true, true, true, true, true, true, true, true, true, true, true, true, true, true, true, true, true, false, false, false, false, false, false, false, false, false, false, false, false, false, false, false, false, false, false, false, false, false, false, false, false, false, false, false, false, false, false, false, false, false] rfl rfl (one_of HT_.out (by kernel_rfl)) (by decide) (fun K hK => ?_)
  refine goes_ Tryz.func21 (by kernel_rfl) rfl #[.int .u8 0, .int .i64 7] (by rfl) rfl rfl (by (try simp only [List.map_toArray, List.map_cons, List.map_nil]); first | done | rfl) ?_
  with_reducible refine (TC7.out _).mono ?_
  rintro e w9 ⟨rfl, hb9⟩
  refine ⟨_, rfl, ?_⟩
  have n1_ := Aside0.mk ((show Below w.heap.size w _ from by first | exact HB.out | exact below_drew1 HB.out).trans (hb9.mono HB.out.size)); have n2_ := Aside0.mk ((hb9.block E (blk_lt HE.out)).trans HE.out); clear HB HE hb9; have HB := n1_; have HE := n2_; clear n1_ n2_
  refine hK.out _ _ (cell_of HE.out S8.out) (fun hHeld => ?_)
  clear hK K
  refine norm_ (a' := ?_) ?_ ?_
  rotate_left
  · show Act.put _ (some 46) _ = _
    simp only [Act.put, List.setIfInBounds_toArray, List.set_cons_zero, List.set_cons_succ, i64_w, i32_w]
    rfl
  refine pure_ (i := 21) (N := some 47) (a' := ?_) #[true, true, true, true, true, true, true, true, true, true, true, true, true, true, true, true, true, true, true, true, true, true, false, false, false, false, false, false, false, false, false, false, false, false, false, false, false, false, false, false, false, false, false, false, false, false, false, false, false, false, false, false, false, false] rfl rfl (any_of HT_.out (by kernel_rfl)) (fun _ _ _ h => h) (Or.inl ⟨by rfl, cat_yields _ _ _ _ (by rfl) _ _ (by rfl) (by rfl) (by decide)⟩) ?_ ?_
  rotate_left
  · simp only [Act.put, List.setIfInBounds_toArray, List.set_cons_zero, List.set_cons_succ, i64_w, i32_w]
    rfl
  refine pure_ (i := 22) (N := some 48) (a' := ?_) #[true, true, true, true, true, true, true, true, true, true, true, true, true, true, true, true, true, true, true, true, true, true, true, false, false, false, false, false, false, false, false, false, false, false, false, false, false, false, false, false, false, false, false, false, false, false, false, false, false, false, false, false, false, false] rfl rfl (any_of HT_.out (by kernel_rfl)) (fun _ _ _ h => h) (Or.inl ⟨by rfl, cat_yields _ _ _ _ (by rfl) _ _ (by rfl) (by rfl) (by decide)⟩) ?_ ?_
  rotate_left
  · simp only [Act.put, List.setIfInBounds_toArray, List.set_cons_zero, List.set_cons_succ, i64_w, i32_w]
    rfl
  refine one_ (i := 23) (N := some 49) #[true, true, true, true, true, true, true, true, true, true, true, true, true, true, true, true, true, true, true, true, true, true, true, true, false, false, false, false, false, false, false, false, false, false, false, false, false, false, false, false, false, false, false, false, false, false, false, false, false, false, false, false, false, false] rfl rfl (one_of HT_.out (by kernel_rfl)) (by decide) (fun K hK => ?_)
  refine goes_ Tryz.func21 (by kernel_rfl) rfl #[.int .u8 116, .int .i64 32] (by rfl) rfl rfl (by (try simp only [List.map_toArray, List.map_cons, List.map_nil]); first | done | rfl) ?_
  with_reducible refine (TC32.out _).mono ?_
  rintro e w9 ⟨rfl, hb9⟩
  refine ⟨_, rfl, ?_⟩
  have n1_ := Aside0.mk ((show Below w.heap.size w _ from by first | exact HB.out | exact below_drew1 HB.out).trans (hb9.mono HB.out.size)); have n2_ := Aside0.mk ((hb9.block E (blk_lt HE.out)).trans HE.out); clear HB HE hb9; have HB := n1_; have HE := n2_; clear n1_ n2_
  refine hK.out _ _ (cell_of HE.out S8.out) (fun hHeld => ?_)
  clear hK K
  refine norm_ (a' := ?_) ?_ ?_
  rotate_left
  · show Act.put _ (some 49) _ = _
    simp only [Act.put, List.setIfInBounds_toArray, List.set_cons_zero, List.set_cons_succ, i64_w, i32_w]
    rfl
  refine pure_ (i := 24) (N := some 50) (a' := ?_) #[true, true, true, true, true, true, true, true, true, true, true, true, true, true, true, true, true, true, true, true, true, true, true, true, true, false, false, false, false, false, false, false, false, false, false, false, false, false, false, false, false, false, false, false, false, false, false, false, false, false, false, false, false, false] rfl rfl (any_of HT_.out (by kernel_rfl)) (fun _ _ _ h => h) (Or.inl ⟨by rfl, cat_yields _ _ _ _ (by rfl) _ ta (by rfl) (by rfl) (by have := HTA.out; simp only [List.length_append, List.length_cons, List.length_nil]; omega)⟩) ?_ ?_
  rotate_left
  · simp only [Act.put, List.setIfInBounds_toArray, List.set_cons_zero, List.set_cons_succ, i64_w, i32_w]
    rfl
  refine pure_ (i := 25) (N := some 51) (a' := ?_) #[true, true, true, true, true, true, true, true, true, true, true, true, true, true, true, true, true, true, true, true, true, true, true, true, true, true, false, false, false, false, false, false, false, false, false, false, false, false, false, false, false, false, false, false, false, false, false, false, false, false, false, false, false, false] rfl rfl (any_of HT_.out (by kernel_rfl)) (fun _ _ _ h => h) (Or.inl ⟨by rfl, streq_yields _ _ _ _ (by rfl) _ _ (by rfl) (by rfl) true EQ1.out⟩) ?_ ?_
  rotate_left
  · simp only [Act.put, List.setIfInBounds_toArray, List.set_cons_zero, List.set_cons_succ, i64_w, i32_w]
    rfl
  refine pure_ (i := 26) (N := some 52) (v := ?_) (a' := ?_) #[true, true, true, true, true, true, true, true, true, true, true, true, true, true, true, true, true, true, true, true, true, true, true, true, true, true, true, false, false, false, false, false, false, false, false, false, false, false, false, false, false, false, false, false, false, false, false, false, false, false, false, false, false, false] rfl rfl (any_of HT_.out (by kernel_rfl)) (fun _ _ _ h => h) (Or.inl ⟨by rfl, ?_⟩) ?_ ?_
  rotate_left
  · intro w'
    go_simp
    with_reducible rfl
  rotate_left
  · simp only [Act.put, List.setIfInBounds_toArray, List.set_cons_zero, List.set_cons_succ, i64_w, i32_w]
    rfl
  refine pure_ (i := 27) (N := some 53) (v := ?_) (a' := ?_) #[true, true, true, true, true, true, true, true, true, true, true, true, true, true, true, true, true, true, true, true, true, true, true, true, true, true, true, true, false, false, false, false, false, false, false, false, false, false, false, false, false, false, false, false, false, false, false, false, false, false, false, false, false, false] rfl rfl (any_of HT_.out (by kernel_rfl)) (fun _ _ _ h => h) (Or.inl ⟨by rfl, ?_⟩) ?_ ?_
  rotate_left
  · intro w'
    go_simp
    with_reducible rfl
  rotate_left
  · simp only [Act.put, List.setIfInBounds_toArray, List.set_cons_zero, List.set_cons_succ, i64_w, i32_w]
    rfl
  refine pure_ (i := 28) (N := some 54) (v := ?_) (a' := ?_) #[true, true, true, true, true, true, true, true, true, true, true, true, true, true, true, true, true, true, true, true, true, true, true, true, true, true, true, true, true, false, false, false, false, false, false, false, false, false, false, false, false, false, false, false, false, false, false, false, false, false, false, false, false, false] rfl rfl (any_of HT_.out (by kernel_rfl)) (fun _ _ _ h => h) (Or.inl ⟨by rfl, ?_⟩) ?_ ?_
  rotate_left
  · intro w'
    go_simp
    with_reducible rfl
  rotate_left
  · simp only [Act.put, List.setIfInBounds_toArray, List.set_cons_zero, List.set_cons_succ, i64_w, i32_w]
    rfl
  refine take_ (i := 29) (N := some 55) (v := ?_) (a' := ?_) #[true, true, true, true, true, true, true, true, true, true, true, true, true, true, true, true, true, true, true, true, true, true, true, true, true, true, true, true, true, true, false, false, false, false, false, false, false, false, false, false, false, false, false, false, false, false, false, false, false, false, false, false, false, false] rfl rfl (take_ofW HT_.out HW_.out (by kernel_rfl)) (fun _ _ _ h => h) (Or.inl ⟨by rfl, ?_⟩) hHeld ?_ ?_
  rotate_left
  · rintro w' s8
    go_simp
    with_reducible rfl
  rotate_left
  · simp only [Act.put, List.setIfInBounds_toArray, List.set_cons_zero, List.set_cons_succ, i64_w, i32_w]
    rfl
  refine pure_ (i := 30) (N := some 56) (v := ?_) (a' := ?_) #[true, true, true, true, true, true, true, true, true, true, true, true, true, true, true, true, true, true, true, true, true, true, true, true, true, true, true, true, true, true, true, false, false, false, false, false, false, false, false, false, false, false, false, false, false, false, false, false, false, false, false, false, false, false] rfl rfl (any_of HT_.out (by kernel_rfl)) (fun _ _ _ h => h) (Or.inl ⟨by rfl, ?_⟩) ?_ ?_
  rotate_left
  · intro w'
    go_simp
    with_reducible rfl
  rotate_left
  · simp only [Act.put, List.setIfInBounds_toArray, List.set_cons_zero, List.set_cons_succ, i64_w, i32_w]
    rfl
  refine pure_ (i := 31) (N := some 57) (v := ?_) (a' := ?_) #[true, true, true, true, true, true, true, true, true, true, true, true, true, true, true, true, true, true, true, true, true, true, true, true, true, true, true, true, true, true, true, true, false, false, false, false, false, false, false, false, false, false, false, false, false, false, false, false, false, false, false, false, false, false] rfl rfl (any_of HT_.out (by kernel_rfl)) (fun _ _ _ h => h) (Or.inl ⟨by rfl, ?_⟩) ?_ ?_
  rotate_left
  · intro w'
    go_simp
    with_reducible rfl
  rotate_left
  · simp only [Act.put, List.setIfInBounds_toArray, List.set_cons_zero, List.set_cons_succ, i64_w, i32_w]
    rfl
  refine pure_ (i := 32) (N := some 58) (v := ?_) (a' := ?_) #[true, true, true, true, true, true, true, true, true, true, true, true, true, true, true, true, true, true, true, true, true, true, true, true, true, true, true, true, true, true, true, true, true, false, false, false, false, false, false, false, false, false, false, false, false, false, false, false, false, false, false, false, false, false] rfl rfl (any_of HT_.out (by kernel_rfl)) (fun _ _ _ h => h) (Or.inl ⟨by rfl, ?_⟩) ?_ ?_
  rotate_left
  · intro w'
    go_simp
    with_reducible rfl
  rotate_left
  · simp only [Act.put, List.setIfInBounds_toArray, List.set_cons_zero, List.set_cons_succ, i64_w, i32_w]
    rfl
  refine pure_ (i := 33) (N := some 59) (v := ?_) (a' := ?_) #[true, true, true, true, true, true, true, true, true, true, true, true, true, true, true, true, true, true, true, true, true, true, true, true, true, true, true, true, true, true, true, true, true, true, false, false, false, false, false, false, false, false, false, false, false, false, false, false, false, false, false, false, false, false] rfl rfl (any_of HT_.out (by kernel_rfl)) (fun _ _ _ h => h) (Or.inl ⟨by rfl, ?_⟩) ?_ ?_
  rotate_left
  · intro w'
    go_simp
    with_reducible rfl
  rotate_left
  · simp only [Act.put, List.setIfInBounds_toArray, List.set_cons_zero, List.set_cons_succ, i64_w, i32_w]
    rfl
  refine pure_ (i := 35) (N := some 61) (v := ?_) (a' := ?_) #[true, true, true, true, true, true, true, true, true, true, true, true, true, true, true, true, true, true, true, true, true, true, true, true, true, true, true, true, true, true, true, true, true, true, false, true, false, false, false, false, false, false, false, false, false, false, false, false, false, false, false, false, false, false] rfl rfl (any_of HT_.out (by kernel_rfl)) (fun _ _ _ h => h) (Or.inl ⟨by rfl, ?_⟩) ?_ ?_
  rotate_left
  · intro w'
    go_simp
    with_reducible rfl
  rotate_left
  · simp only [Act.put, List.setIfInBounds_toArray, List.set_cons_zero, List.set_cons_succ, i64_w, i32_w]
    rfl
  refine pure_ (i := 36) (N := some 62) (v := ?_) (a' := ?_) #[true, true, true, true, true, true, true, true, true, true, true, true, true, true, true, true, true, true, true, true, true, true, true, true, true, true, true, true, true, true, true, true, true, true, false, true, true, false, false, false, false, false, false, false, false, false, false, false, false, false, false, false, false, false] rfl rfl (any_of HT_.out (by kernel_rfl)) (fun _ _ _ h => h) (Or.inl ⟨by rfl, ?_⟩) ?_ ?_
  rotate_left
  · intro w'
    go_simp
    with_reducible rfl
  rotate_left
  · simp only [Act.put, List.setIfInBounds_toArray, List.set_cons_zero, List.set_cons_succ, i64_w, i32_w]
    rfl
  refine one_ (i := 34) (N := some 60) #[true, true, true, true, true, true, true, true, true, true, true, true, true, true, true, true, true, true, true, true, true, true, true, true, true, true, true, true, true, true, true, true, true, true, true, true, true, false, false, false, false, false, false, false, false, false, false, false, false, false, false, false, false, false] rfl rfl (one_of HT_.out (by kernel_rfl)) (by decide) (fun K hK => ?_)
  refine goes_ Tryz.func12 (by kernel_rfl) rfl #[.string s] (by rfl) rfl rfl (by (try simp only [List.map_toArray, List.map_cons, List.map_nil]); first | done | rfl) ?_
  with_reducible refine (BC.out _).mono ?_
  rintro e w9 ⟨rfl, hb9⟩
  refine ⟨_, rfl, ?_⟩
  have n1_ := Aside0.mk ((show Below w.heap.size w _ from by first | exact HB.out | exact below_drew1 HB.out).trans (hb9.mono HB.out.size)); have n2_ := Aside0.mk ((hb9.block E (blk_lt HE.out)).trans HE.out); clear HB HE hb9; have HB := n1_; have HE := n2_; clear n1_ n2_
  refine hK.out _ _ (cell_of HE.out S8.out) (fun hHeld => ?_)
  clear hK K
  refine norm_ (a' := ?_) ?_ ?_
  rotate_left
  · show Act.put _ (some 60) _ = _
    simp only [Act.put, List.setIfInBounds_toArray, List.set_cons_zero, List.set_cons_succ, i64_w, i32_w]
    rfl
  refine pure_ (i := 37) (N := some 63) (a' := ?_) #[true, true, true, true, true, true, true, true, true, true, true, true, true, true, true, true, true, true, true, true, true, true, true, true, true, true, true, true, true, true, true, true, true, true, true, true, true, true, false, false, false, false, false, false, false, false, false, false, false, false, false, false, false, false] rfl rfl (any_of HT_.out (by kernel_rfl)) (fun _ _ _ h => h) (Or.inl ⟨by rfl, streq_yields _ _ _ _ (by rfl) _ _ (by rfl) (by rfl) true EQ2.out⟩) ?_ ?_
  rotate_left
  · simp only [Act.put, List.setIfInBounds_toArray, List.set_cons_zero, List.set_cons_succ, i64_w, i32_w]
    rfl
  refine pure_ (i := 38) (N := some 64) (v := ?_) (a' := ?_) #[true, true, true, true, true, true, true, true, true, true, true, true, true, true, true, true, true, true, true, true, true, true, true, true, true, true, true, true, true, true, true, true, true, true, true, true, true, true, true, false, false, false, false, false, false, false, false, false, false, false, false, false, false, false] rfl rfl (any_of HT_.out (by kernel_rfl)) (fun _ _ _ h => h) (Or.inl ⟨by rfl, ?_⟩) ?_ ?_
  rotate_left
  · intro w'
    go_simp
    with_reducible rfl
  rotate_left
  · simp only [Act.put, List.setIfInBounds_toArray, List.set_cons_zero, List.set_cons_succ, i64_w, i32_w]
    rfl
  refine pure_ (i := 39) (N := some 65) (v := ?_) (a' := ?_) #[true, true, true, true, true, true, true, true, true, true, true, true, true, true, true, true, true, true, true, true, true, true, true, true, true, true, true, true, true, true, true, true, true, true, true, true, true, true, true, true, false, false, false, false, false, false, false, false, false, false, false, false, false, false] rfl rfl (any_of HT_.out (by kernel_rfl)) (fun _ _ _ h => h) (Or.inl ⟨by rfl, ?_⟩) ?_ ?_
  rotate_left
  · intro w'
    go_simp
    with_reducible rfl
  rotate_left
  · simp only [Act.put, List.setIfInBounds_toArray, List.set_cons_zero, List.set_cons_succ, i64_w, i32_w]
    rfl
  refine pure_ (i := 40) (N := some 66) (v := ?_) (a' := ?_) #[true, true, true, true, true, true, true, true, true, true, true, true, true, true, true, true, true, true, true, true, true, true, true, true, true, true, true, true, true, true, true, true, true, true, true, true, true, true, true, true, true, false, false, false, false, false, false, false, false, false, false, false, false, false] rfl rfl (any_of HT_.out (by kernel_rfl)) (fun _ _ _ h => h) (Or.inl ⟨by rfl, ?_⟩) ?_ ?_
  rotate_left
  · intro w'
    go_simp
    with_reducible rfl
  rotate_left
  · simp only [Act.put, List.setIfInBounds_toArray, List.set_cons_zero, List.set_cons_succ, i64_w, i32_w]
    rfl
  refine one_ (i := 41) (N := some 67) #[true, true, true, true, true, true, true, true, true, true, true, true, true, true, true, true, true, true, true, true, true, true, true, true, true, true, true, true, true, true, true, true, true, true, true, true, true, true, true, true, true, true, false, false, false, false, false, false, false, false, false, false, false, false] rfl rfl (one_of HT_.out (by kernel_rfl)) (by decide) (fun K hK => ?_)
  refine goes_ Tryz.func14 (by kernel_rfl) rfl #[.string t, .string ⟨#[107]⟩] (by rfl) rfl rfl (by (try simp only [List.map_toArray, List.map_cons, List.map_nil]); first | done | rfl) ?_
  with_reducible refine (S1.out _ (gl_below HG.out HB.out)).mono ?_
  rintro e w9 ⟨rfl, hb9⟩
  refine ⟨_, rfl, ?_⟩
  have n1_ := Aside0.mk ((show Below w.heap.size w _ from by first | exact HB.out | exact below_drew1 HB.out).trans (hb9.mono HB.out.size)); have n2_ := Aside0.mk ((hb9.block E (blk_lt HE.out)).trans HE.out); clear HB HE hb9; have HB := n1_; have HE := n2_; clear n1_ n2_
  refine hK.out _ _ (cell_of HE.out S8.out) (fun hHeld => ?_)
  clear hK K
  refine norm_ (a' := ?_) ?_ ?_
  rotate_left
  · show Act.put _ (some 67) _ = _
    simp only [Act.put, List.setIfInBounds_toArray, List.set_cons_zero, List.set_cons_succ, i64_w, i32_w]
    rfl
  refine pure_ (i := 42) (N := some 68) (v := ?_) (a' := ?_) #[true, true, true, true, true, true, true, true, true, true, true, true, true, true, true, true, true, true, true, true, true, true, true, true, true, true, true, true, true, true, true, true, true, true, true, true, true, true, true, true, true, true, true, false, false, false, false, false, false, false, false, false, false, false] rfl rfl (any_of HT_.out (by kernel_rfl)) (fun _ _ _ h => h) (Or.inl ⟨by rfl, ?_⟩) ?_ ?_
  rotate_left
  · intro w'
    go_simp
    with_reducible rfl
  rotate_left
  · simp only [Act.put, List.setIfInBounds_toArray, List.set_cons_zero, List.set_cons_succ, i64_w, i32_w]
    rfl
  refine pure_ (i := 43) (N := some 69) (v := ?_) (a' := ?_) #[true, true, true, true, true, true, true, true, true, true, true, true, true, true, true, true, true, true, true, true, true, true, true, true, true, true, true, true, true, true, true, true, true, true, true, true, true, true, true, true, true, true, true, true, false, false, false, false, false, false, false, false, false, false] rfl rfl (any_of HT_.out (by kernel_rfl)) (fun _ _ _ h => h) (Or.inl ⟨by rfl, ?_⟩) ?_ ?_
  rotate_left
  · intro w'
    go_simp
    with_reducible rfl
  rotate_left
  · simp only [Act.put, List.setIfInBounds_toArray, List.set_cons_zero, List.set_cons_succ, i64_w, i32_w]
    rfl
  refine pure_ (i := 44) (N := some 70) (v := ?_) (a' := ?_) #[true, true, true, true, true, true, true, true, true, true, true, true, true, true, true, true, true, true, true, true, true, true, true, true, true, true, true, true, true, true, true, true, true, true, true, true, true, true, true, true, true, true, true, true, true, false, false, false, false, false, false, false, false, false] rfl rfl (any_of HT_.out (by kernel_rfl)) (fun _ _ _ h => h) (Or.inl ⟨by rfl, ?_⟩) ?_ ?_
  rotate_left
  · intro w'
    go_simp
    with_reducible rfl
  rotate_left
  · simp only [Act.put, List.setIfInBounds_toArray, List.set_cons_zero, List.set_cons_succ, i64_w, i32_w]
    rfl
  refine one_ (i := 45) (N := some 71) #[true, true, true, true, true, true, true, true, true, true, true, true, true, true, true, true, true, true, true, true, true, true, true, true, true, true, true, true, true, true, true, true, true, true, true, true, true, true, true, true, true, true, true, true, true, true, false, false, false, false, false, false, false, false] rfl rfl (one_of HT_.out (by kernel_rfl)) (by decide) (fun K hK => ?_)
  refine goes_ Tryz.func14 (by kernel_rfl) rfl #[.string t, .string ⟨#[108]⟩] (by rfl) rfl rfl (by (try simp only [List.map_toArray, List.map_cons, List.map_nil]); first | done | rfl) ?_
  with_reducible refine (S2.out _ (gl_below HG.out HB.out)).mono ?_
  rintro e w9 ⟨rfl, hb9⟩
  refine ⟨_, rfl, ?_⟩
  have n1_ := Aside0.mk ((show Below w.heap.size w _ from by first | exact HB.out | exact below_drew1 HB.out).trans (hb9.mono HB.out.size)); have n2_ := Aside0.mk ((hb9.block E (blk_lt HE.out)).trans HE.out); clear HB HE hb9; have HB := n1_; have HE := n2_; clear n1_ n2_
  refine hK.out _ _ (cell_of HE.out S8.out) (fun hHeld => ?_)
  clear hK K
  refine norm_ (a' := ?_) ?_ ?_
  rotate_left
  · show Act.put _ (some 71) _ = _
    simp only [Act.put, List.setIfInBounds_toArray, List.set_cons_zero, List.set_cons_succ, i64_w, i32_w]
    rfl
  refine pure_ (i := 46) (N := some 72) (v := ?_) (a' := ?_) #[true, true, true, true, true, true, true, true, true, true, true, true, true, true, true, true, true, true, true, true, true, true, true, true, true, true, true, true, true, true, true, true, true, true, true, true, true, true, true, true, true, true, true, true, true, true, true, false, false, false, false, false, false, false] rfl rfl (any_of HT_.out (by kernel_rfl)) (fun _ _ _ h => h) (Or.inl ⟨by rfl, ?_⟩) ?_ ?_
  rotate_left
  · intro w'
    go_simp
    with_reducible rfl
  rotate_left
  · simp only [Act.put, List.setIfInBounds_toArray, List.set_cons_zero, List.set_cons_succ, i64_w, i32_w]
    rfl
  refine pure_ (i := 47) (N := some 73) (v := ?_) (a' := ?_) #[true, true, true, true, true, true, true, true, true, true, true, true, true, true, true, true, true, true, true, true, true, true, true, true, true, true, true, true, true, true, true, true, true, true, true, true, true, true, true, true, true, true, true, true, true, true, true, true, false, false, false, false, false, false] rfl rfl (any_of HT_.out (by kernel_rfl)) (fun _ _ _ h => h) (Or.inl ⟨by rfl, ?_⟩) ?_ ?_
  rotate_left
  · intro w'
    go_simp
    with_reducible rfl
  rotate_left
  · simp only [Act.put, List.setIfInBounds_toArray, List.set_cons_zero, List.set_cons_succ, i64_w, i32_w]
    rfl
  refine pure_ (i := 48) (N := some 74) (v := ?_) (a' := ?_) #[true, true, true, true, true, true, true, true, true, true, true, true, true, true, true, true, true, true, true, true, true, true, true, true, true, true, true, true, true, true, true, true, true, true, true, true, true, true, true, true, true, true, true, true, true, true, true, true, true, false, false, false, false, false] rfl rfl (any_of HT_.out (by kernel_rfl)) (fun _ _ _ h => h) (Or.inl ⟨by rfl, ?_⟩) ?_ ?_
  rotate_left
  · intro w'
    go_simp
    with_reducible rfl
  rotate_left
  · simp only [Act.put, List.setIfInBounds_toArray, List.set_cons_zero, List.set_cons_succ, i64_w, i32_w]
    rfl
  refine pure_ (i := 49) (N := some 75) (v := ?_) (a' := ?_) #[true, true, true, true, true, true, true, true, true, true, true, true, true, true, true, true, true, true, true, true, true, true, true, true, true, true, true, true, true, true, true, true, true, true, true, true, true, true, true, true, true, true, true, true, true, true, true, true, true, true, false, false, false, false] rfl rfl (any_of HT_.out (by kernel_rfl)) (fun _ _ _ h => h) (Or.inl ⟨by rfl, ?_⟩) ?_ ?_
  rotate_left
  · intro w'
    go_simp
    with_reducible rfl
  rotate_left
  · simp only [Act.put, List.setIfInBounds_toArray, List.set_cons_zero, List.set_cons_succ, i64_w, i32_w]
    rfl
  refine one_ (i := 50) (N := some 76) #[true, true, true, true, true, true, true, true, true, true, true, true, true, true, true, true, true, true, true, true, true, true, true, true, true, true, true, true, true, true, true, true, true, true, true, true, true, true, true, true, true, true, true, true, true, true, true, true, true, true, true, false, false, false] rfl rfl (one_of HT_.out (by kernel_rfl)) (by decide) (fun K hK => ?_)
  refine goes_ Tryz.func14 (by kernel_rfl) rfl #[.string s, .string ⟨#[107]⟩] (by rfl) rfl rfl (by (try simp only [List.map_toArray, List.map_cons, List.map_nil]); first | done | rfl) ?_
  with_reducible refine (S3.out _ (gl_below HG.out HB.out)).mono ?_
  rintro e w9 ⟨rfl, hb9⟩
  refine ⟨_, rfl, ?_⟩
  have n1_ := Aside0.mk ((show Below w.heap.size w _ from by first | exact HB.out | exact below_drew1 HB.out).trans (hb9.mono HB.out.size)); have n2_ := Aside0.mk ((hb9.block E (blk_lt HE.out)).trans HE.out); clear HB HE hb9; have HB := n1_; have HE := n2_; clear n1_ n2_
  refine hK.out _ _ (cell_of HE.out S8.out) (fun hHeld => ?_)
  clear hK K
  refine norm_ (a' := ?_) ?_ ?_
  rotate_left
  · show Act.put _ (some 76) _ = _
    simp only [Act.put, List.setIfInBounds_toArray, List.set_cons_zero, List.set_cons_succ, i64_w, i32_w]
    rfl
  refine pure_ (i := 51) (N := some 77) (v := ?_) (a' := ?_) #[true, true, true, true, true, true, true, true, true, true, true, true, true, true, true, true, true, true, true, true, true, true, true, true, true, true, true, true, true, true, true, true, true, true, true, true, true, true, true, true, true, true, true, true, true, true, true, true, true, true, true, true, false, false] rfl rfl (any_of HT_.out (by kernel_rfl)) (fun _ _ _ h => h) (Or.inl ⟨by rfl, ?_⟩) ?_ ?_
  rotate_left
  · intro w'
    go_simp
    with_reducible rfl
  rotate_left
  · simp only [Act.put, List.setIfInBounds_toArray, List.set_cons_zero, List.set_cons_succ, i64_w, i32_w]
    rfl
  refine pure_ (i := 52) (N := some 78) (v := ?_) (a' := ?_) #[true, true, true, true, true, true, true, true, true, true, true, true, true, true, true, true, true, true, true, true, true, true, true, true, true, true, true, true, true, true, true, true, true, true, true, true, true, true, true, true, true, true, true, true, true, true, true, true, true, true, true, true, true, false] rfl rfl (any_of HT_.out (by kernel_rfl)) (fun _ _ _ h => h) (Or.inl ⟨by rfl, ?_⟩) ?_ ?_
  rotate_left
  · intro w'
    go_simp
    with_reducible rfl
  rotate_left
  · simp only [Act.put, List.setIfInBounds_toArray, List.set_cons_zero, List.set_cons_succ, i64_w, i32_w]
    rfl
  refine pure_ (i := 53) (N := some 0) (v := ?_) (a' := ?_) #[true, true, true, true, true, true, true, true, true, true, true, true, true, true, true, true, true, true, true, true, true, true, true, true, true, true, true, true, true, true, true, true, true, true, true, true, true, true, true, true, true, true, true, true, true, true, true, true, true, true, true, true, true, true] rfl rfl (any_of HT_.out (by kernel_rfl)) (fun _ _ _ h => h) (Or.inl ⟨by rfl, ?_⟩) ?_ ?_
  rotate_left
  · intro w'
    go_simp
    with_reducible rfl
  rotate_left
  · simp only [Act.put, List.setIfInBounds_toArray, List.set_cons_zero, List.set_cons_succ, i64_w, i32_w]
    rfl
  refine done_ (done_of HT_.out (by kernel_rfl)) ?_
  clear HT_ HW_ hHeld
  go_wp2
  go_ret
  exact ⟨rfl, HB.out⟩
end Go.Proofs.YtniabkphbnimaaaGreatDoor.Sh
namespace Go.Proofs.YtniabkphbnimaaaGreatDoor.Sh
open Go Go.RowKit Go.Maps Go.Proofs.YtniabkphbnimaaaGreatDoorW.PrintWords Go.Proofs.YtniabkphbnimaaaGreatDoorW.PrintLast Go.Proofs.YtniabkphbnimaaaGreatDoor.Bs
theorem eqA25 (d : Nat) (w : World) (x0 y0 : Int) (x1 y1 : Int) (x2 y2 : Bool) (x3 y3 : Bool) :
    (Op.equalIn (d + 2) 25 (.agg #[.int .i64 x0, .int .i64 x1, .bool x2, .bool x3]) (.agg #[.int .i64 y0, .int .i64 y1, .bool y2, .bool y3])).run Tryz.prog w = .ok (x0 == y0 && (x1 == y1 && (x2 == y2 && (x3 == y3)))) w := by
  refine eqA_of Tryz.underlying25 (by kernel_rfl) ?_
  refine eqf_cons (by rfl) (by go_simp; rfl) (by go_simp; rfl) (by go_simp) ?_
  refine eqf_cons (by rfl) (by go_simp; rfl) (by go_simp; rfl) (by go_simp) ?_
  refine eqf_cons (by rfl) (by go_simp; rfl) (by go_simp; rfl) (by go_simp) ?_
  exact eqf_last (by rfl) (by go_simp; rfl) (by go_simp; rfl) (by go_simp)
theorem eqA27 (d : Nat) (w : World) (x0 y0 : Int) (x1 y1 : ByteArray) (x2 y2 : Int) (x3 y3 : ByteArray) (x4 y4 : ByteArray) (x5 y5 : Int) (x6 y6 : Int) (x7 y7 : ByteArray) (x8 y8 : Int) (x9 y9 : Int) (x10 y10 : Int) (x11 y11 : Bool) (x12 y12 : Bool) (x13 y13 : ByteArray) (x14 y14 : ByteArray) :
    (Op.equalIn (d + 3) 27 (.agg #[.int .i64 x0, .string x1, .int .u64 x2, .string x3, .string x4, .int .u64 x5, .int .i64 x6, .string x7, .int .u64 x8, .int .i64 x9, .int .i64 x10, .bool x11, .bool x12, .string x13, .string x14]) (.agg #[.int .i64 y0, .string y1, .int .u64 y2, .string y3, .string y4, .int .u64 y5, .int .i64 y6, .string y7, .int .u64 y8, .int .i64 y9, .int .i64 y10, .bool y11, .bool y12, .string y13, .string y14])).run Tryz.prog w = .ok (x0 == y0 && (x1.toList == y1.toList && (x2 == y2 && (x3.toList == y3.toList && (x4.toList == y4.toList && (x5 == y5 && (x6 == y6 && (x7.toList == y7.toList && (x8 == y8 && ((x9 == y9 && (x10 == y10 && (x11 == y11 && (x12 == y12)))) && (x13.toList == y13.toList && (x14.toList == y14.toList)))))))))))) w := by
  refine eqA_of Tryz.underlying27 (by kernel_rfl) ?_
  refine eqf_cons (by rfl) (by go_simp; rfl) (by go_simp; rfl) (by go_simp) ?_
  refine eqf_cons (by rfl) (by go_simp; rfl) (by go_simp; rfl) (by go_simp) ?_
  refine eqf_cons (by rfl) (by go_simp; rfl) (by go_simp; rfl) (by go_simp) ?_
  refine eqf_cons (by rfl) (by go_simp; rfl) (by go_simp; rfl) (by go_simp) ?_
  refine eqf_cons (by rfl) (by go_simp; rfl) (by go_simp; rfl) (by go_simp) ?_
  refine eqf_cons (by rfl) (by go_simp; rfl) (by go_simp; rfl) (by go_simp) ?_
  refine eqf_cons (by rfl) (by go_simp; rfl) (by go_simp; rfl) (by go_simp) ?_
  refine eqf_cons (by rfl) (by go_simp; rfl) (by go_simp; rfl) (by go_simp) ?_
  refine eqf_cons (by rfl) (by go_simp; rfl) (by go_simp; rfl) (by go_simp) ?_
  refine eqf_cons (by rfl) (by go_simp) (by go_simp) (eqA25 (d + 0) w _ _ _ _ _ _ _ _) ?_
  refine eqf_cons (by rfl) (by go_simp; rfl) (by go_simp; rfl) (by go_simp) ?_
  exact eqf_last (by rfl) (by go_simp; rfl) (by go_simp; rfl) (by go_simp)
section
variable {ops : Array Oper} {rest : List Oper} {o : Oper} {a : Act} {w : World} {Q : Exit → Act → World → Prop}
theorem run_dgeq (d : Dg) (w : World) : (Op.equalIn 10000 27 (.agg d.cells.toArray) (.agg d.cells.toArray)).run Tryz.prog w = .ok true w := by
  have h := eqA27 9997 w d.kind d.kind d.nonce d.nonce (d.epoch : Int) (d.epoch : Int) d.cookie d.cookie d.name d.name (d.session : Int) (d.session : Int) d.player d.player d.salt d.salt (d.seq : Int) (d.seq : Int) d.thr d.thr d.trn d.trn d.fire d.fire d.boost d.boost d.data d.data d.tag d.tag
  simp only [beq_self_eq_true, Bool.and_true] at h
  exact h
theorem wp_dgeq {K : Act → World → Prop} (d e : Dg) (hde : d = e) (t2 : TypeId) (x y : Operand) (ho : o.op = .binOp .eql 27 x y t2) (hx : a.eval x = .agg d.cells.toArray) (hy : a.eval y = .agg e.cells.toArray)
    (h : K (a.put o.dst (.bool true)) w) : Oper.wp Tryz.prog o a w K Q := by
  subst hde
  unfold Oper.wp execOp
  simp only [ho, hx, hy, Sem.run_bind, run_eqGuard_agg (P := Tryz.prog) w .eql 27 x y _ _ (by kernel_rfl), run_eql_struct, run_dgeq, Result.andThen_ok, Sem.run_pure]
  exact h
theorem wp_dgne {K : Act → World → Prop} (d e : Dg) (hde : d = e) (t2 : TypeId) (x y : Operand) (ho : o.op = .binOp .neq 27 x y t2) (hx : a.eval x = .agg d.cells.toArray) (hy : a.eval y = .agg e.cells.toArray)
    (h : K (a.put o.dst (.bool false)) w) : Oper.wp Tryz.prog o a w K Q := by
  subst hde
  unfold Oper.wp execOp
  simp only [ho, hx, hy, Sem.run_bind, run_eqGuard_agg (P := Tryz.prog) w .neq 27 x y _ _ (by kernel_rfl), run_neq_struct, run_dgeq, Result.andThen_ok, Sem.run_pure, Bool.not_true]
  exact h
theorem wpList_dgeq (hgd : o.guard = none) (d e : Dg) (hde : d = e) (t2 : TypeId) (x y : Operand) (ho : o.op = .binOp .eql 27 x y t2) (hx : a.eval x = .agg d.cells.toArray) (hy : a.eval y = .agg e.cells.toArray)
    (h : wpList Tryz.prog ops Q rest (a.put o.dst (.bool true)) w) : wpList Tryz.prog ops Q (o :: rest) a w :=
  wpList_plain hgd fun K hK => wp_dgeq d e hde t2 x y ho hx hy (hK _ _ h)
end
section
variable {P : Program} {ops : Array Oper} {rest : List Oper} {a : Act} {w : World} {Q : Exit → Act → World → Prop} {d : Option Tmp} {ty : TypeId} {pos : String} {af : Array Edge} {g : Option (Tmp × Bool)}
theorem at_eqdg_ {x y : Operand} {t2 : TypeId} (h : wpList P ops Q (⟨d, .binOp .eql 27 x y t2, ty, pos, af, g⟩ :: rest) a w) : wpList P ops Q (⟨d, .binOp .eql 27 x y t2, ty, pos, af, g⟩ :: rest) a w := h
end
end Go.Proofs.YtniabkphbnimaaaGreatDoor.Sh
namespace Go.Proofs.YtniabkphbnimaaaGreatDoor.Sh
open Go Go.RowKit Go.Maps
theorem gRounds : Tryz.prog.globalNamed "joust/sha.rounds" = some 0 := by kernel_rfl
theorem tRounds : (Tryz.prog.globals[0]?).map (·.type) = some 130 := by kernel_rfl
def KSz : List Int := KS.map fun x => (x.toNat : Int)
theorem dRounds : (Rows.laid_joust_sha_rounds : DataW Unit) = Lib.tabData .u32 KSz := by kernel_rfl
theorem ksz : (KSz.map fun z => Value.int .u32 z) = KS.map vW := by
  unfold KSz
  rw [List.map_map]
  rfl
theorem heap_of_var {W : World} {name : String} {g : Nat} {cs : Array Value} (hg : Tryz.prog.globalNamed name = some g) (h : W.var? Tryz.prog name = some cs) : ∃ t fr, W.heap[g]? = some (.cells cs t fr) := by
  unfold World.var? at h
  rw [hg] at h
  simp only [Option.bind_some] at h
  split at h
  · rename_i c t fr hh
    cases h
    exact ⟨_, _, hh⟩
  · cases h
theorem tab_of {W : World} {name : String} {g : Nat} {t e : TypeId} {n : Nat} {zs : List Int} {d : DataW Unit} (hdz : d = Lib.tabData .u32 zs) (hg : Tryz.prog.globalNamed name = some g) (ht : Tryz.prog.underlying t = some (.array n e)) (he : Tryz.prog.underlying e = some (.int .u32)) (hce : Tryz.prog.cellsOf e = 1) (hct : Tryz.prog.cellsOf t = n)
    {enc : TypeId × Value → Unit} {base : Nat} {sp : Nat → Bool} {held : Bool} {fuel : Nat} {cs : Array Value} {p : List MemPlace} (hvar : W.var? Tryz.prog name = some cs) (hd : DataW.trod enc Tryz.prog W base sp held fuel t cs.toList = some (d, p)) : ∃ u fr, W.heap[g]? = some (.cells (zs.map fun z => Value.int .u32 z).toArray u fr) := by
  subst hdz
  have e1 := Lib.cells_of_tab ht he hce hct hd
  obtain ⟨u, fr, hh⟩ := heap_of_var hg hvar
  refine ⟨u, fr, ?_⟩
  rw [hh, ← e1]
theorem gl_of_laid2 {W : World} (h : laidMet Tryz.prog [("joust/sha.rounds", Rows.laid_joust_sha_rounds), ("unicode/utf8.acceptRanges", Rows.laid_unicode_utf8_acceptRanges), ("unicode/utf8.first", Rows.laid_unicode_utf8_first)] W) : GL W := by
  obtain ⟨ps, ⟨g1, t1, cs1, fuel1, p1, q1, hg1, ht1, hvar1, hd1, _, _⟩, _⟩ := h
  obtain rfl := Option.some.inj (gRounds.symm.trans hg1)
  obtain rfl := Option.some.inj (tRounds.symm.trans ht1)
  obtain ⟨u, fr, hh⟩ := tab_of dRounds gRounds Tryz.underlying130 Tryz.underlying110 (by kernel_rfl) (by kernel_rfl) hvar1 hd1
  rw [ksz] at hh
  exact ⟨u, fr, hh⟩
/-- The cells of the listed tables, for a witness. -/
def roundsC : Array Value := (KS.map vW).toArray
def firstC : Array Value := (Pinned.utf8FirstZ.map fun z : Nat => Value.int .u8 (z : Int)).toArray
def acceptC : Array Value := #[.int .u8 128, .int .u8 191, .int .u8 160, .int .u8 191, .int .u8 128, .int .u8 159, .int .u8 144, .int .u8 191, .int .u8 128, .int .u8 143, .int .u8 0, .int .u8 0, .int .u8 0, .int .u8 0, .int .u8 0, .int .u8 0, .int .u8 0, .int .u8 0, .int .u8 0, .int .u8 0, .int .u8 0, .int .u8 0, .int .u8 0, .int .u8 0, .int .u8 0, .int .u8 0, .int .u8 0, .int .u8 0, .int .u8 0, .int .u8 0, .int .u8 0, .int .u8 0]
end Go.Proofs.YtniabkphbnimaaaGreatDoor.Sh
namespace Go.Proofs.YtniabkphbnimaaaGreatDoor.Sh
open Go Go.RowKit Go.WideShapes Go.Maps Go.Proofs.YtniabkphbnimaaaGreatDoorW.PrintWords Go.Proofs.YtniabkphbnimaaaGreatDoorW.PrintLast Go.Proofs.YtniabkphbnimaaaGreatDoor.Bs
theorem list_cmdc {α : Type} {l : List α} (h : l.length = 4) : ∃ c0 c1 c2 c3, l = [c0, c1, c2, c3] :=
  match l, h with
  | [c0, c1, c2, c3], _ => ⟨c0, c1, c2, c3, rfl⟩
theorem list_cmdf {α : Type} {l : List α} (h : l.length = 4) : ∃ y0 y1 y2 y3, l = [y0, y1, y2, y3] :=
  match l, h with
  | [y0, y1, y2, y3], _ => ⟨y0, y1, y2, y3, rfl⟩
theorem op_cmd {H : Type} {enc : TypeId × Value → H} {w : World} {base : Nat} {spare : Nat → Bool} {held : Bool} {fuel : Nat} {cs : List Value} {y : DataW H × List MemPlace} (h : DataW.trod enc Tryz.prog w base spare held fuel 25 cs = some y) :
    ∃ (x0 : Int) (x1 : Int) (x2 : Bool) (x3 : Bool), cs = [.int .i64 x0, .int .i64 x1, .bool x2, .bool x3] ∧ y = (.agg [.lit (.int .i64 x0), .lit (.int .i64 x1), .lit (.bool x2), .lit (.bool x3)], []) ∧ (Lit.int .i64 x0).wf = true ∧ (Lit.int .i64 x1).wf = true := by
  obtain ⟨xs, n, rfl, rfl, hl, hlen, hf⟩ := DataW.trod_struct Tryz.underlying25 h
  rw [show Tryz.prog.cellsOf 25 = 4 from by kernel_rfl] at hl
  obtain ⟨c0, c1, c2, c3, rfl⟩ := list_cmdc hl
  obtain ⟨y0, y1, y2, y3, rfl⟩ := list_cmdf hlen
  have e0 : DataW.trod enc Tryz.prog w base spare held n 3 [c0] = some y0 := by
    have e : DataW.trod enc Tryz.prog w base spare held n 3 (List.take (Tryz.prog.cellsOf 3) (List.drop 0 [c0, c1, c2, c3])) = some y0 := hf 0 _ rfl
    rw [show Tryz.prog.cellsOf 3 = 1 from by kernel_rfl] at e
    exact e
  have e1 : DataW.trod enc Tryz.prog w base spare held n 3 [c1] = some y1 := by
    have e : DataW.trod enc Tryz.prog w base spare held n 3 (List.take (Tryz.prog.cellsOf 3) (List.drop 1 [c0, c1, c2, c3])) = some y1 := hf 1 _ rfl
    rw [show Tryz.prog.cellsOf 3 = 1 from by kernel_rfl] at e
    exact e
  have e2 : DataW.trod enc Tryz.prog w base spare held n 4 [c2] = some y2 := by
    have e : DataW.trod enc Tryz.prog w base spare held n 4 (List.take (Tryz.prog.cellsOf 4) (List.drop 2 [c0, c1, c2, c3])) = some y2 := hf 2 _ rfl
    rw [show Tryz.prog.cellsOf 4 = 1 from by kernel_rfl] at e
    exact e
  have e3 : DataW.trod enc Tryz.prog w base spare held n 4 [c3] = some y3 := by
    have e : DataW.trod enc Tryz.prog w base spare held n 4 (List.take (Tryz.prog.cellsOf 4) (List.drop 3 [c0, c1, c2, c3])) = some y3 := hf 3 _ rfl
    rw [show Tryz.prog.cellsOf 4 = 1 from by kernel_rfl] at e
    exact e
  clear h hf hl hlen
  obtain ⟨x0, g0, rfl, w0⟩ := DataW.trod_int Tryz.underlying3 e0
  simp only [List.cons.injEq, and_true] at g0
  subst g0
  obtain ⟨x1, g1, rfl, w1⟩ := DataW.trod_int Tryz.underlying3 e1
  simp only [List.cons.injEq, and_true] at g1
  subst g1
  obtain ⟨x2, g2, rfl⟩ := DataW.trod_bool Tryz.underlying4 e2
  simp only [List.cons.injEq, and_true] at g2
  subst g2
  obtain ⟨x3, g3, rfl⟩ := DataW.trod_bool Tryz.underlying4 e3
  simp only [List.cons.injEq, and_true] at g3
  subst g3
  exact ⟨x0, x1, x2, x3, rfl, rfl, w0, w1⟩
theorem list_dgc {α : Type} {l : List α} (h : l.length = 15) : ∃ c0 c1 c2 c3 c4 c5 c6 c7 c8 c9 c10 c11 c12 c13 c14, l = [c0, c1, c2, c3, c4, c5, c6, c7, c8, c9, c10, c11, c12, c13, c14] :=
  match l, h with
  | [c0, c1, c2, c3, c4, c5, c6, c7, c8, c9, c10, c11, c12, c13, c14], _ => ⟨c0, c1, c2, c3, c4, c5, c6, c7, c8, c9, c10, c11, c12, c13, c14, rfl⟩
theorem list_dgf {α : Type} {l : List α} (h : l.length = 12) : ∃ y0 y1 y2 y3 y4 y5 y6 y7 y8 y9 y10 y11, l = [y0, y1, y2, y3, y4, y5, y6, y7, y8, y9, y10, y11] :=
  match l, h with
  | [y0, y1, y2, y3, y4, y5, y6, y7, y8, y9, y10, y11], _ => ⟨y0, y1, y2, y3, y4, y5, y6, y7, y8, y9, y10, y11, rfl⟩
theorem op_dg {H : Type} {enc : TypeId × Value → H} {w : World} {base : Nat} {spare : Nat → Bool} {held : Bool} {fuel : Nat} {cs : List Value} {y : DataW H × List MemPlace} (h : DataW.trod enc Tryz.prog w base spare held fuel 27 cs = some y) :
    ∃ (x0 : Int) (x1 : ByteArray) (x2 : Int) (x3 : ByteArray) (x4 : ByteArray) (x5 : Int) (x6 : Int) (x7 : ByteArray) (x8 : Int) (x9 : Int) (x10 : Int) (x11 : Bool) (x12 : Bool) (x13 : ByteArray) (x14 : ByteArray), cs = [.int .i64 x0, .string x1, .int .u64 x2, .string x3, .string x4, .int .u64 x5, .int .i64 x6, .string x7, .int .u64 x8, .int .i64 x9, .int .i64 x10, .bool x11, .bool x12, .string x13, .string x14] ∧ y = (.agg [.lit (.int .i64 x0), .lit (.string x1.data.toList), .lit (.int .u64 x2), .lit (.string x3.data.toList), .lit (.string x4.data.toList), .lit (.int .u64 x5), .lit (.int .i64 x6), .lit (.string x7.data.toList), .lit (.int .u64 x8), .agg [.lit (.int .i64 x9), .lit (.int .i64 x10), .lit (.bool x11), .lit (.bool x12)], .lit (.string x13.data.toList), .lit (.string x14.data.toList)], []) ∧ (Lit.int .i64 x0).wf = true ∧ x1.size ≤ maxLen ∧ (Lit.int .u64 x2).wf = true ∧ x3.size ≤ maxLen ∧ x4.size ≤ maxLen ∧ (Lit.int .u64 x5).wf = true ∧ (Lit.int .i64 x6).wf = true ∧ x7.size ≤ maxLen ∧ (Lit.int .u64 x8).wf = true ∧ (Lit.int .i64 x9).wf = true ∧ (Lit.int .i64 x10).wf = true ∧ x13.size ≤ maxLen ∧ x14.size ≤ maxLen := by
  obtain ⟨xs, n, rfl, rfl, hl, hlen, hf⟩ := DataW.trod_struct Tryz.underlying27 h
  rw [show Tryz.prog.cellsOf 27 = 15 from by kernel_rfl] at hl
  obtain ⟨c0, c1, c2, c3, c4, c5, c6, c7, c8, c9, c10, c11, c12, c13, c14, rfl⟩ := list_dgc hl
  obtain ⟨y0, y1, y2, y3, y4, y5, y6, y7, y8, y9, y10, y11, rfl⟩ := list_dgf hlen
  have e0 : DataW.trod enc Tryz.prog w base spare held n 3 [c0] = some y0 := by
    have e : DataW.trod enc Tryz.prog w base spare held n 3 (List.take (Tryz.prog.cellsOf 3) (List.drop 0 [c0, c1, c2, c3, c4, c5, c6, c7, c8, c9, c10, c11, c12, c13, c14])) = some y0 := hf 0 _ rfl
    rw [show Tryz.prog.cellsOf 3 = 1 from by kernel_rfl] at e
    exact e
  have e1 : DataW.trod enc Tryz.prog w base spare held n 9 [c1] = some y1 := by
    have e : DataW.trod enc Tryz.prog w base spare held n 9 (List.take (Tryz.prog.cellsOf 9) (List.drop 1 [c0, c1, c2, c3, c4, c5, c6, c7, c8, c9, c10, c11, c12, c13, c14])) = some y1 := hf 1 _ rfl
    rw [show Tryz.prog.cellsOf 9 = 1 from by kernel_rfl] at e
    exact e
  have e2 : DataW.trod enc Tryz.prog w base spare held n 23 [c2] = some y2 := by
    have e : DataW.trod enc Tryz.prog w base spare held n 23 (List.take (Tryz.prog.cellsOf 23) (List.drop 2 [c0, c1, c2, c3, c4, c5, c6, c7, c8, c9, c10, c11, c12, c13, c14])) = some y2 := hf 2 _ rfl
    rw [show Tryz.prog.cellsOf 23 = 1 from by kernel_rfl] at e
    exact e
  have e3 : DataW.trod enc Tryz.prog w base spare held n 9 [c3] = some y3 := by
    have e : DataW.trod enc Tryz.prog w base spare held n 9 (List.take (Tryz.prog.cellsOf 9) (List.drop 3 [c0, c1, c2, c3, c4, c5, c6, c7, c8, c9, c10, c11, c12, c13, c14])) = some y3 := hf 3 _ rfl
    rw [show Tryz.prog.cellsOf 9 = 1 from by kernel_rfl] at e
    exact e
  have e4 : DataW.trod enc Tryz.prog w base spare held n 9 [c4] = some y4 := by
    have e : DataW.trod enc Tryz.prog w base spare held n 9 (List.take (Tryz.prog.cellsOf 9) (List.drop 4 [c0, c1, c2, c3, c4, c5, c6, c7, c8, c9, c10, c11, c12, c13, c14])) = some y4 := hf 4 _ rfl
    rw [show Tryz.prog.cellsOf 9 = 1 from by kernel_rfl] at e
    exact e
  have e5 : DataW.trod enc Tryz.prog w base spare held n 23 [c5] = some y5 := by
    have e : DataW.trod enc Tryz.prog w base spare held n 23 (List.take (Tryz.prog.cellsOf 23) (List.drop 5 [c0, c1, c2, c3, c4, c5, c6, c7, c8, c9, c10, c11, c12, c13, c14])) = some y5 := hf 5 _ rfl
    rw [show Tryz.prog.cellsOf 23 = 1 from by kernel_rfl] at e
    exact e
  have e6 : DataW.trod enc Tryz.prog w base spare held n 3 [c6] = some y6 := by
    have e : DataW.trod enc Tryz.prog w base spare held n 3 (List.take (Tryz.prog.cellsOf 3) (List.drop 6 [c0, c1, c2, c3, c4, c5, c6, c7, c8, c9, c10, c11, c12, c13, c14])) = some y6 := hf 6 _ rfl
    rw [show Tryz.prog.cellsOf 3 = 1 from by kernel_rfl] at e
    exact e
  have e7 : DataW.trod enc Tryz.prog w base spare held n 9 [c7] = some y7 := by
    have e : DataW.trod enc Tryz.prog w base spare held n 9 (List.take (Tryz.prog.cellsOf 9) (List.drop 7 [c0, c1, c2, c3, c4, c5, c6, c7, c8, c9, c10, c11, c12, c13, c14])) = some y7 := hf 7 _ rfl
    rw [show Tryz.prog.cellsOf 9 = 1 from by kernel_rfl] at e
    exact e
  have e8 : DataW.trod enc Tryz.prog w base spare held n 23 [c8] = some y8 := by
    have e : DataW.trod enc Tryz.prog w base spare held n 23 (List.take (Tryz.prog.cellsOf 23) (List.drop 8 [c0, c1, c2, c3, c4, c5, c6, c7, c8, c9, c10, c11, c12, c13, c14])) = some y8 := hf 8 _ rfl
    rw [show Tryz.prog.cellsOf 23 = 1 from by kernel_rfl] at e
    exact e
  have e9 : DataW.trod enc Tryz.prog w base spare held n 25 [c9, c10, c11, c12] = some y9 := by
    have e : DataW.trod enc Tryz.prog w base spare held n 25 (List.take (Tryz.prog.cellsOf 25) (List.drop 9 [c0, c1, c2, c3, c4, c5, c6, c7, c8, c9, c10, c11, c12, c13, c14])) = some y9 := hf 9 _ rfl
    rw [show Tryz.prog.cellsOf 25 = 4 from by kernel_rfl] at e
    exact e
  have e10 : DataW.trod enc Tryz.prog w base spare held n 9 [c13] = some y10 := by
    have e : DataW.trod enc Tryz.prog w base spare held n 9 (List.take (Tryz.prog.cellsOf 9) (List.drop 13 [c0, c1, c2, c3, c4, c5, c6, c7, c8, c9, c10, c11, c12, c13, c14])) = some y10 := hf 10 _ rfl
    rw [show Tryz.prog.cellsOf 9 = 1 from by kernel_rfl] at e
    exact e
  have e11 : DataW.trod enc Tryz.prog w base spare held n 9 [c14] = some y11 := by
    have e : DataW.trod enc Tryz.prog w base spare held n 9 (List.take (Tryz.prog.cellsOf 9) (List.drop 14 [c0, c1, c2, c3, c4, c5, c6, c7, c8, c9, c10, c11, c12, c13, c14])) = some y11 := hf 11 _ rfl
    rw [show Tryz.prog.cellsOf 9 = 1 from by kernel_rfl] at e
    exact e
  clear h hf hl hlen
  obtain ⟨x0, g0, rfl, w0⟩ := DataW.trod_int Tryz.underlying3 e0
  simp only [List.cons.injEq, and_true] at g0
  subst g0
  obtain ⟨x1, g1, rfl, w1⟩ := DataW.trod_string Tryz.underlying9 e1
  simp only [List.cons.injEq, and_true] at g1
  subst g1
  obtain ⟨x2, g2, rfl, w2⟩ := DataW.trod_int Tryz.underlying23 e2
  simp only [List.cons.injEq, and_true] at g2
  subst g2
  obtain ⟨x3, g3, rfl, w3⟩ := DataW.trod_string Tryz.underlying9 e3
  simp only [List.cons.injEq, and_true] at g3
  subst g3
  obtain ⟨x4, g4, rfl, w4⟩ := DataW.trod_string Tryz.underlying9 e4
  simp only [List.cons.injEq, and_true] at g4
  subst g4
  obtain ⟨x5, g5, rfl, w5⟩ := DataW.trod_int Tryz.underlying23 e5
  simp only [List.cons.injEq, and_true] at g5
  subst g5
  obtain ⟨x6, g6, rfl, w6⟩ := DataW.trod_int Tryz.underlying3 e6
  simp only [List.cons.injEq, and_true] at g6
  subst g6
  obtain ⟨x7, g7, rfl, w7⟩ := DataW.trod_string Tryz.underlying9 e7
  simp only [List.cons.injEq, and_true] at g7
  subst g7
  obtain ⟨x8, g8, rfl, w8⟩ := DataW.trod_int Tryz.underlying23 e8
  simp only [List.cons.injEq, and_true] at g8
  subst g8
  obtain ⟨x9, x10, x11, x12, g9, rfl, w9, w10⟩ := op_cmd e9
  simp only [List.cons.injEq, and_true] at g9
  obtain ⟨rfl, rfl, rfl, rfl⟩ := g9
  obtain ⟨x13, g10, rfl, w13⟩ := DataW.trod_string Tryz.underlying9 e10
  simp only [List.cons.injEq, and_true] at g10
  subst g10
  obtain ⟨x14, g11, rfl, w14⟩ := DataW.trod_string Tryz.underlying9 e11
  simp only [List.cons.injEq, and_true] at g11
  subst g11
  exact ⟨x0, x1, x2, x3, x4, x5, x6, x7, x8, x9, x10, x11, x12, x13, x14, rfl, rfl, w0, w1, w2, w3, w4, w5, w6, w7, w8, w9, w10, w13, w14⟩
theorem wf_u64 {n : Int} (h : (Lit.int .u64 n).wf = true) : 0 ≤ n ∧ n < 18446744073709551616 := by
  unfold Lit.wf at h
  rw [Bool.and_eq_true, decide_eq_true_eq, decide_eq_true_eq] at h
  exact ⟨h.1, Int.lt_of_le_of_lt h.2 (by decide)⟩
theorem wf_i64 {n : Int} (h : (Lit.int .i64 n).wf = true) : -9223372036854775808 ≤ n ∧ n ≤ 9223372036854775807 := by
  unfold Lit.wf at h
  rw [Bool.and_eq_true, decide_eq_true_eq, decide_eq_true_eq] at h
  exact h
/-- The datum that a datagram reads as. -/
def Dg.dat (H : Type) (d : Dg) : DataW H := .agg [.lit (.int .i64 d.kind), .lit (.string d.nonce.data.toList), .lit (.int .u64 (d.epoch : Int)), .lit (.string d.cookie.data.toList), .lit (.string d.name.data.toList), .lit (.int .u64 (d.session : Int)), .lit (.int .i64 d.player), .lit (.string d.salt.data.toList), .lit (.int .u64 (d.seq : Int)), .agg [.lit (.int .i64 d.thr), .lit (.int .i64 d.trn), .lit (.bool d.fire), .lit (.bool d.boost)], .lit (.string d.data.data.toList), .lit (.string d.tag.data.toList)]
def Dg.small (d : Dg) (m : Nat) : Prop := d.nonce.size + d.cookie.size + d.name.size + d.salt.size + d.data.size + d.tag.size ≤ m
structure Dg.nums (d : Dg) : Prop where
  kind : -9223372036854775808 ≤ d.kind ∧ d.kind ≤ 9223372036854775807
  player : -9223372036854775808 ≤ d.player ∧ d.player ≤ 9223372036854775807
  thr : -9223372036854775808 ≤ d.thr ∧ d.thr ≤ 9223372036854775807
  trn : -9223372036854775808 ≤ d.trn ∧ d.trn ≤ 9223372036854775807
  u : d.epoch < 18446744073709551616 ∧ d.session < 18446744073709551616 ∧ d.seq < 18446744073709551616
theorem Dg.ok_of {d : Dg} (h : d.nums) (hs : d.small 1048576) : d.ok := by
  have h1 := h.player
  have h2 := h.u
  unfold Dg.small at hs
  unfold Dg.ok
  refine ⟨h2, h1, ?_, ?_, ?_, ?_, ?_, ?_⟩ <;> omega
set_option maxRecDepth 100000 in
theorem open_dg {H : Type} {enc : TypeId × Value → H} {w : World} {base b0 : Nat} {spare : Nat → Bool} {held : Bool} {r : Reach} {v : Value} {dat : DataW H} {p : List MemPlace} (hv : Value.okWide Tryz.prog w r b0 27 v) (h : DataW.Trod enc Tryz.prog w base spare held 27 v dat p) :
    ∃ d : Dg, v = .agg d.cells.toArray ∧ dat = d.dat H ∧ p = [] ∧ d.nums := by
  obtain ⟨cs, rfl, hsz⟩ := okWide_struct Tryz.underlying27 hv
  obtain ⟨fuel, hf⟩ := h
  obtain ⟨x0, x1, x2, x3, x4, x5, x6, x7, x8, x9, x10, x11, x12, x13, x14, hc, hy, w0, w1, w2, w3, w4, w5, w6, w7, w8, w9, w10, _⟩ := op_dg hf
  simp only [Prod.mk.injEq] at hy
  have u2 := wf_u64 w2
  have u5 := wf_u64 w5
  have u8 := wf_u64 w8
  obtain ⟨n2, rfl⟩ : ∃ n : Nat, x2 = (n : Int) := ⟨x2.toNat, by omega⟩
  obtain ⟨n5, rfl⟩ : ∃ n : Nat, x5 = (n : Int) := ⟨x5.toNat, by omega⟩
  obtain ⟨n8, rfl⟩ : ∃ n : Nat, x8 = (n : Int) := ⟨x8.toNat, by omega⟩
  refine ⟨⟨x0, x1, n2, x3, x4, n5, x6, x7, n8, x9, x10, x11, x12, x13, x14⟩, ?_, hy.1, hy.2, ⟨wf_i64 w0, wf_i64 w6, wf_i64 w9, wf_i64 w10, by simp only; omega⟩⟩
  have hc' : cs.toList = Dg.cells ⟨x0, x1, n2, x3, x4, n5, x6, x7, n8, x9, x10, x11, x12, x13, x14⟩ := hc
  rw [← hc']
end Go.Proofs.YtniabkphbnimaaaGreatDoor.Sh
namespace Go.Proofs.YtniabkphbnimaaaGreatDoor.Sh
open Go Go.RowKit Go.Maps Go.Proofs.YtniabkphbnimaaaGreatDoorW.PrintWords Go.Proofs.YtniabkphbnimaaaGreatDoorW.PrintLast Go.Proofs.YtniabkphbnimaaaGreatDoor.Bs
/-- Just the fields that the kind has. -/
def onlyD (d : Dg) : Dg :=
  { Dg.zero with
    kind := d.kind
    nonce := if d.kind ≤ 4 then d.nonce else ⟨#[]⟩
    epoch := if d.kind = 2 ∨ d.kind = 3 then d.epoch else 0
    cookie := if d.kind = 2 ∨ d.kind = 3 then d.cookie else ⟨#[]⟩
    tag := if 3 ≤ d.kind then d.tag else ⟨#[]⟩
    session := if 4 ≤ d.kind then d.session else 0
    seq := if 5 ≤ d.kind then d.seq else 0
    name := if d.kind = 3 then d.name else ⟨#[]⟩
    player := if d.kind = 4 then d.player else 0
    salt := if d.kind = 4 then d.salt else ⟨#[]⟩
    thr := if d.kind = 5 then d.thr else 0
    trn := if d.kind = 5 then d.trn else 0
    fire := if d.kind = 5 then d.fire else false
    boost := if d.kind = 5 then d.boost else false
    data := if d.kind = 6 then d.data else ⟨#[]⟩ }
theorem u8n (n : Nat) : (UInt8.ofNat n).toNat = n % 256 := by simp
theorem num_len8 (x : Nat) (h : x < 18446744073709551616) : num (len8 x) = x := by
  have e : ∀ a b c d e f g i : UInt8, num [a, b, c, d, e, f, g, i] = ((((((a.toNat * 256 + b.toNat) * 256 + c.toNat) * 256 + d.toNat) * 256 + e.toNat) * 256 + f.toNat) * 256 + g.toNat) * 256 + i.toNat := by
    intro a b c d e f g i
    have h0 := num_snoc [] a
    have h1 := num_snoc [a] b
    have h2 := num_snoc [a, b] c
    have h3 := num_snoc [a, b, c] d
    have h4 := num_snoc [a, b, c, d] e
    have h5 := num_snoc [a, b, c, d, e] f
    have h6 := num_snoc [a, b, c, d, e, f] g
    have h7 := num_snoc [a, b, c, d, e, f, g] i
    simp only [List.nil_append, List.cons_append] at h0 h1 h2 h3 h4 h5 h6 h7
    have hz : num [] = 0 := rfl
    rw [h7, h6, h5, h4, h3, h2, h1, h0, hz]
    omega
  unfold len8
  rw [e]
  simp only [Nat.shiftRight_eq_div_pow, u8n]
  omega
theorem sbyte_sg (x : Int) (h : -128 ≤ x ∧ x ≤ 127) : sbyte (sg x) = x := by
  unfold sbyte sg
  rw [u8n]
  have : (x % 256).toNat % 256 = (x % 256).toNat := by omega
  rw [this]
  split <;> omega
theorem bits_flags (f b : Bool) : bit0 (UInt8.ofNat (flags f b)) = f ∧ bit1 (UInt8.ofNat (flags f b)) = b ∧ (UInt8.ofNat (flags f b)).toNat ≤ 3 := by
  cases f <;> cases b <;> exact ⟨rfl, rfl, by decide⟩
section
variable (d : Dg) (bad : Bool) (x r : List UInt8)
theorem tk (n : Nat) (h : x.length = n) : (x ++ r).take n = x ∧ (x ++ r).drop n = r := by
  subst h
  exact ⟨List.take_left, List.drop_left⟩
theorem g_nonce (h : x.length = 16) : getF .nonce (d, bad, x ++ r) = some ({ d with nonce := str x }, bad, r) := by
  have e := tk x r 16 h
  show (if 16 ≤ (x ++ r).length then some (({ d with nonce := str ((x ++ r).take 16) } : Dg), bad, (x ++ r).drop 16) else none) = _
  rw [if_pos (by rw [List.length_append]; omega), e.1, e.2]
theorem g_salt (h : x.length = 16) : getF .salt (d, bad, x ++ r) = some ({ d with salt := str x }, bad, r) := by
  have e := tk x r 16 h
  show (if 16 ≤ (x ++ r).length then some (({ d with salt := str ((x ++ r).take 16) } : Dg), bad, (x ++ r).drop 16) else none) = _
  rw [if_pos (by rw [List.length_append]; omega), e.1, e.2]
theorem g_cookie (h : x.length = 32) : getF .cookie (d, bad, x ++ r) = some ({ d with cookie := str x }, bad, r) := by
  have e := tk x r 32 h
  show (if 32 ≤ (x ++ r).length then some (({ d with cookie := str ((x ++ r).take 32) } : Dg), bad, (x ++ r).drop 32) else none) = _
  rw [if_pos (by rw [List.length_append]; omega), e.1, e.2]
theorem g_tag (h : x.length = 32) : getF .tag (d, bad, x) = some ({ d with tag := str x }, bad, []) := by
  show (if 32 ≤ x.length then some (({ d with tag := str (x.take 32) } : Dg), bad, x.drop 32) else none) = _
  rw [if_pos (by omega), List.take_of_length_le (by omega), List.drop_of_length_le (by omega)]
theorem g_epoch (n : Nat) (hn : n < 18446744073709551616) : getF .epoch (d, bad, len8 n ++ r) = some ({ d with epoch := n }, bad, r) := by
  have e := tk (len8 n) r 8 rfl
  show (if 8 ≤ (len8 n ++ r).length then some (({ d with epoch := num ((len8 n ++ r).take 8) } : Dg), bad, (len8 n ++ r).drop 8) else none) = _
  rw [if_pos (by rw [List.length_append]; show 8 ≤ 8 + _; omega), e.1, e.2, num_len8 n hn]
theorem g_session (n : Nat) (hn : n < 18446744073709551616) : getF .session (d, bad, len8 n ++ r) = some ({ d with session := n }, bad, r) := by
  have e := tk (len8 n) r 8 rfl
  show (if 8 ≤ (len8 n ++ r).length then some (({ d with session := num ((len8 n ++ r).take 8) } : Dg), bad, (len8 n ++ r).drop 8) else none) = _
  rw [if_pos (by rw [List.length_append]; show 8 ≤ 8 + _; omega), e.1, e.2, num_len8 n hn]
theorem g_seq (n : Nat) (hn : n < 18446744073709551616) : getF .seq (d, bad, len8 n ++ r) = some ({ d with seq := n }, bad, r) := by
  have e := tk (len8 n) r 8 rfl
  show (if 8 ≤ (len8 n ++ r).length then some (({ d with seq := num ((len8 n ++ r).take 8) } : Dg), bad, (len8 n ++ r).drop 8) else none) = _
  rw [if_pos (by rw [List.length_append]; show 8 ≤ 8 + _; omega), e.1, e.2, num_len8 n hn]
theorem g_name (h : x.length ≤ 255) : getF .name (d, bad, UInt8.ofNat x.length :: (x ++ r)) = some ({ d with name := str x }, bad, r) := by
  have eb : (UInt8.ofNat x.length).toNat = x.length := by rw [u8n]; omega
  show (if (UInt8.ofNat x.length).toNat ≤ (x ++ r).length then some (({ d with name := str ((x ++ r).take (UInt8.ofNat x.length).toNat) } : Dg), bad, (x ++ r).drop (UInt8.ofNat x.length).toNat) else none) = _
  rw [eb, if_pos (by rw [List.length_append]; omega), (tk x r _ rfl).1, (tk x r _ rfl).2]
theorem g_data (h : r.length = 32) : getF .data (d, bad, x ++ r) = some ({ d with data := str x }, bad, r) := by
  have el : (x ++ r).length - 32 = x.length := by rw [List.length_append]; omega
  show (if 32 ≤ (x ++ r).length then some (({ d with data := str ((x ++ r).take ((x ++ r).length - 32)) } : Dg), bad, (x ++ r).drop ((x ++ r).length - 32)) else none) = _
  rw [if_pos (by rw [List.length_append]; omega), el, (tk x r _ rfl).1, (tk x r _ rfl).2]
end
theorem dec_encB (d : Dg) (hk : 1 ≤ d.kind ∧ d.kind ≤ 7) (hf : fitP d) (hn : d.epoch < 18446744073709551616 ∧ d.session < 18446744073709551616 ∧ d.seq < 18446744073709551616) (hl : (encB d).length ≤ 1200) : dec (encB d) = (onlyD d, 0) := by
  obtain ⟨kind, nonce, epoch, cookie, name, session, player, salt, seq, thr, trn, fire, boost, data, tag⟩ := d
  unfold fitP at hf
  simp only at hk hf hn
  have k7 : kind = 1 ∨ kind = 2 ∨ kind = 3 ∨ kind = 4 ∨ kind = 5 ∨ kind = 6 ∨ kind = 7 := by omega
  rcases k7 with rfl | rfl | rfl | rfl | rfl | rfl | rfl
  · have e1 : (bl nonce).length = 16 := by rw [bl_len]; omega
    refine (dec_at 1 _ hl (by decide)).trans ?_
    show fin (getAll (fieldsOf 1) (dk 1, false, bl nonce ++ List.replicate 76 0)) = _
    rw [dec1, if_pos (by rw [List.length_append, e1, List.length_replicate]), (tk _ _ 16 e1).1, (tk _ _ 16 e1).2, if_pos (fun b hb => (List.mem_replicate.mp hb).2)]
    rfl
  · have e1 : (bl nonce).length = 16 := by rw [bl_len]; omega
    have e2 : (bl cookie).length = 32 := by rw [bl_len]; omega
    refine (dec_at 2 _ hl (by decide)).trans ?_
    show fin (getAll [.nonce, .epoch, .cookie] (dk 2, false, bl nonce ++ len8 epoch ++ bl cookie)) = _
    rw [List.append_assoc, getAll_some (g_nonce _ _ _ _ e1), getAll_some (g_epoch _ _ _ _ hn.1), ← List.append_nil (bl cookie), getAll_some (g_cookie _ _ _ _ e2)]
    rfl
  · have e1 : (bl nonce).length = 16 := by rw [bl_len]; omega
    have e2 : (bl cookie).length = 32 := by rw [bl_len]; omega
    have e3 : (bl name).length ≤ 255 := by rw [bl_len]; omega
    have e4 : (bl tag).length = 32 := by rw [bl_len]; omega
    refine (dec_at 3 _ hl (by decide)).trans ?_
    show fin (getAll [.nonce, .epoch, .cookie, .name, .tag] (dk 3, false, bl nonce ++ len8 epoch ++ bl cookie ++ (UInt8.ofNat name.size :: bl name) ++ bl tag)) = _
    rw [List.append_assoc, List.append_assoc, List.append_assoc, getAll_some (g_nonce _ _ _ _ e1), getAll_some (g_epoch _ _ _ _ hn.1), getAll_some (g_cookie _ _ _ _ e2), ← bl_len name, List.cons_append, getAll_some (g_name _ _ _ _ e3), getAll_some (g_tag _ _ _ e4)]
    rfl
  · have e1 : (bl nonce).length = 16 := by rw [bl_len]; omega
    have e2 : (bl salt).length = 16 := by rw [bl_len]; omega
    have e4 : (bl tag).length = 32 := by rw [bl_len]; omega
    have e5 : ((UInt8.ofNat player.toNat).toNat : Int) = player := by rw [u8n]; omega
    refine (dec_at 4 _ hl (by decide)).trans ?_
    show fin (getAll [.nonce, .session, .player, .salt, .tag] (dk 4, false, bl nonce ++ len8 session ++ [UInt8.ofNat player.toNat] ++ bl salt ++ bl tag)) = _
    rw [List.append_assoc, List.append_assoc, List.append_assoc, getAll_some (g_nonce _ _ _ _ e1), getAll_some (g_session _ _ _ _ hn.2.1)]
    have e6 : ∀ (D : Dg) (t : List UInt8), getF .player (D, false, [UInt8.ofNat player.toNat] ++ t) = some ({ D with player := player }, false, t) := fun D t => by
      show some (({ D with player := ((UInt8.ofNat player.toNat).toNat : Int) } : Dg), false, t) = _
      rw [e5]
    rw [getAll_some (e6 _ _), getAll_some (g_salt _ _ _ _ e2), getAll_some (g_tag _ _ _ e4)]
    rfl
  · have e4 : (bl tag).length = 32 := by rw [bl_len]; omega
    have e5 := sbyte_sg thr (by omega)
    have e6 := sbyte_sg trn (by omega)
    have e7 := bits_flags fire boost
    refine (dec_at 5 _ hl (by decide)).trans ?_
    show fin (getAll [.session, .seq, .command, .tag] (dk 5, false, len8 session ++ len8 seq ++ [sg thr, sg trn, UInt8.ofNat (flags fire boost)] ++ bl tag)) = _
    rw [List.append_assoc, List.append_assoc, getAll_some (g_session _ _ _ _ hn.2.1), getAll_some (g_seq _ _ _ _ hn.2.2)]
    have e8 : ∀ (D : Dg) (t : List UInt8), getF .command (D, false, [sg thr, sg trn, UInt8.ofNat (flags fire boost)] ++ t) = some ({ D with thr := thr, trn := trn, fire := fire, boost := boost }, false, t) := fun D t => by
      show some (({ D with thr := sbyte (sg thr), trn := sbyte (sg trn), fire := bit0 (UInt8.ofNat (flags fire boost)), boost := bit1 (UInt8.ofNat (flags fire boost)) } : Dg), decide (3 < (UInt8.ofNat (flags fire boost)).toNat), t) = _
      rw [e5, e6, e7.1, e7.2.1, decide_eq_false (by omega)]
    rw [getAll_some (e8 _ _), getAll_some (g_tag _ _ _ e4)]
    rfl
  · have e4 : (bl tag).length = 32 := by rw [bl_len]; omega
    refine (dec_at 6 _ hl (by decide)).trans ?_
    show fin (getAll [.session, .seq, .data, .tag] (dk 6, false, len8 session ++ len8 seq ++ bl data ++ bl tag)) = _
    rw [List.append_assoc, List.append_assoc, getAll_some (g_session _ _ _ _ hn.2.1), getAll_some (g_seq _ _ _ _ hn.2.2), getAll_some (g_data _ _ _ _ e4), getAll_some (g_tag _ _ _ e4)]
    rfl
  · have e4 : (bl tag).length = 32 := by rw [bl_len]; omega
    refine (dec_at 7 _ hl (by decide)).trans ?_
    show fin (getAll [.session, .seq, .tag] (dk 7, false, len8 session ++ len8 seq ++ bl tag)) = _
    rw [List.append_assoc, getAll_some (g_session _ _ _ _ hn.2.1), getAll_some (g_seq _ _ _ _ hn.2.2), getAll_some (g_tag _ _ _ e4)]
    rfl
theorem enc_ok (d : Dg) (h : (enc d).2 = 0) : 1 ≤ d.kind ∧ d.kind ≤ 7 ∧ fitP d ∧ (encB d).length ≤ 1200 ∧ enc d = (str (encB d), 0) := by
  by_cases hk : 1 ≤ d.kind ∧ d.kind ≤ 7
  · rw [enc_k d hk] at h ⊢
    unfold encK at h ⊢
    by_cases hf : fitP d
    · rw [if_pos hf] at h ⊢
      by_cases hl : 1200 < (encB d).length
      · rw [if_pos hl] at h; cases h
      · rw [if_neg hl]
        exact ⟨hk.1, hk.2, hf, by omega, rfl⟩
    · rw [if_neg hf] at h; cases h
  · unfold enc at h
    rw [if_neg hk] at h
    cases h
theorem enc_bad (d : Dg) (h : (enc d).2 ≠ 0) : (enc d).1 = ⟨#[]⟩ ∧ 71 ≤ (enc d).2 ∧ (enc d).2 ≤ 73 := by
  by_cases hk : 1 ≤ d.kind ∧ d.kind ≤ 7
  · rw [enc_k d hk] at h ⊢
    unfold encK at h ⊢
    by_cases hf : fitP d
    · rw [if_pos hf] at h ⊢
      by_cases hl : 1200 < (encB d).length
      · rw [if_pos hl]; exact ⟨rfl, by decide, by decide⟩
      · rw [if_neg hl] at h; exact absurd rfl h
    · rw [if_neg hf]; exact ⟨rfl, by decide, by decide⟩
  · unfold enc
    rw [if_neg hk]
    exact ⟨rfl, by decide, by decide⟩
end Go.Proofs.YtniabkphbnimaaaGreatDoor.Sh
namespace Go.Proofs.YtniabkphbnimaaaGreatDoor.Sh
open Go Go.RowKit Go.Maps Go.Proofs.YtniabkphbnimaaaGreatDoorW.PrintWords Go.Proofs.YtniabkphbnimaaaGreatDoorW.PrintLast Go.Proofs.YtniabkphbnimaaaGreatDoor.Bs
theorem b_of (b : UInt8) : UInt8.ofNat b.toNat = b := by
  apply UInt8.toNat_inj.mp
  rw [u8n]
  have := b.toNat_lt
  omega
theorem len8_num (l : List UInt8) (h : l.length = 8) : len8 (num l) = l := by
  match l, h with
  | [a, b, c, d, e, f, g, i], _ =>
    have h0 := num_snoc [] a
    have h1 := num_snoc [a] b
    have h2 := num_snoc [a, b] c
    have h3 := num_snoc [a, b, c] d
    have h4 := num_snoc [a, b, c, d] e
    have h5 := num_snoc [a, b, c, d, e] f
    have h6 := num_snoc [a, b, c, d, e, f] g
    have h7 := num_snoc [a, b, c, d, e, f, g] i
    simp only [List.nil_append, List.cons_append] at h0 h1 h2 h3 h4 h5 h6 h7
    have hz : num [] = 0 := rfl
    have ha := a.toNat_lt
    have hb := b.toNat_lt
    have hc := c.toNat_lt
    have hd := d.toNat_lt
    have he := e.toNat_lt
    have hf := f.toNat_lt
    have hg := g.toNat_lt
    have hi := i.toNat_lt
    have key : ∀ (n k : Nat) (x : UInt8), n / 2 ^ k % 256 = x.toNat → UInt8.ofNat (n >>> k) = x := fun n k x hx => by
      apply UInt8.toNat_inj.mp
      rw [u8n, Nat.shiftRight_eq_div_pow]
      exact hx
    unfold len8
    rw [key _ 56 a (by omega), key _ 48 b (by omega), key _ 40 c (by omega), key _ 32 d (by omega), key _ 24 e (by omega), key _ 16 f (by omega), key _ 8 g (by omega)]
    have e0 : UInt8.ofNat (num [a, b, c, d, e, f, g, i]) = i := by
      apply UInt8.toNat_inj.mp
      rw [u8n]
      omega
    rw [e0]
theorem tk1 (t : List UInt8) (i : Nat) (h : i < t.length) : t.take i ++ [t.getD i 0] = t.take (i + 1) := by
  rw [List.take_add_one, List.getD_eq_getElem?_getD, List.getElem?_eq_getElem h]
  rfl
theorem sg_sbyte (b : UInt8) : sg (sbyte b) = b := by
  apply UInt8.toNat_inj.mp
  unfold sg sbyte
  rw [u8n]
  have := b.toNat_lt
  split <;> omega
theorem sbyte_rng (b : UInt8) : -128 ≤ sbyte b ∧ sbyte b ≤ 127 := by
  unfold sbyte
  have := b.toNat_lt
  split <;> omega
theorem flags_bits (c : UInt8) (h : c.toNat ≤ 3) : UInt8.ofNat (flags (bit0 c) (bit1 c)) = c := by
  apply UInt8.toNat_inj.mp
  rw [u8n]
  have h4 : c.toNat = 0 ∨ c.toNat = 1 ∨ c.toNat = 2 ∨ c.toNat = 3 := by omega
  unfold flags bit0 bit1
  rcases h4 with e | e | e | e <;> rw [e] <;> rfl
theorem enc_of (x : Dg) (l : List UInt8) (hk : 1 ≤ x.kind ∧ x.kind ≤ 7) (hf : fitP x) (he : encB x = l) (hl : l.length ≤ 1200) : enc x = (str l, 0) := by
  rw [enc_k x hk]
  unfold encK
  rw [if_pos hf, he, if_neg (by omega)]
theorem back_1 (t : List UInt8) (ht : t.length = 92) (hz : ∀ b ∈ t.drop 16, b = 0) : fitP { dk 1 with nonce := str (t.take 16) } ∧ encB { dk 1 with nonce := str (t.take 16) } = 74 :: 48 :: 49 :: 1 :: t := by
  have e : t.drop 16 = List.replicate 76 0 := List.eq_replicate_iff.mpr ⟨by rw [List.length_drop]; omega, hz⟩
  refine ⟨⟨fun _ => ?_, fun h => ?_, fun h => ?_, fun h => ?_, fun h => ?_, fun h => ?_⟩, ?_⟩
  · show (t.take 16).length = 16
    rw [List.length_take]; omega
  · simp at h
  · simp at h
  · simp at h
  · simp at h
  · simp at h
  · show 74 :: 48 :: 49 :: 1 :: (t.take 16 ++ List.replicate 76 0) = _
    rw [← e, List.take_append_drop]
theorem back_2 (t : List UInt8) (ht : t.length = 56) : fitP { dk 2 with nonce := str (t.take 16), epoch := num ((t.drop 16).take 8), cookie := str ((t.drop 24).take 32) } ∧ encB { dk 2 with nonce := str (t.take 16), epoch := num ((t.drop 16).take 8), cookie := str ((t.drop 24).take 32) } = 74 :: 48 :: 49 :: 2 :: t := by
  refine ⟨⟨fun _ => ?_, fun h => ?_, fun h => ?_, fun h => ?_, fun h => ?_, fun h => ?_⟩, ?_⟩
  · show (t.take 16).length = 16
    rw [List.length_take]; omega
  · show ((t.drop 24).take 32).length = 32
    rw [List.length_take, List.length_drop]; omega
  · simp at h
  · simp at h
  · simp at h
  · simp at h
  · show 74 :: 48 :: 49 :: 2 :: (t.take 16 ++ len8 (num ((t.drop 16).take 8)) ++ (t.drop 24).take 32) = _
    rw [len8_num _ (by rw [List.length_take, List.length_drop]; omega), ← List.take_add, ← List.take_add (i := 16 + 8) (j := 32), List.take_of_length_le (by omega)]
theorem back_3 (t : List UInt8) (ht : 89 ≤ t.length ∧ t.length = 89 + (t.getD 56 0).toNat) : fitP { dk 3 with nonce := str (t.take 16), epoch := num ((t.drop 16).take 8), cookie := str ((t.drop 24).take 32), name := str ((t.drop 57).take (t.getD 56 0).toNat), tag := str ((t.drop (t.length - 32)).take 32) } ∧ encB { dk 3 with nonce := str (t.take 16), epoch := num ((t.drop 16).take 8), cookie := str ((t.drop 24).take 32), name := str ((t.drop 57).take (t.getD 56 0).toNat), tag := str ((t.drop (t.length - 32)).take 32) } = 74 :: 48 :: 49 :: 3 :: t := by
  have hb := (t.getD 56 0).toNat_lt
  have hn : ((t.drop 57).take (t.getD 56 0).toNat).length = (t.getD 56 0).toNat := by rw [List.length_take, List.length_drop]; omega
  refine ⟨⟨fun _ => ?_, fun h => ?_, fun h => ?_, fun h => ?_, fun h => ?_, fun h => ?_⟩, ?_⟩
  · show (t.take 16).length = 16
    rw [List.length_take]; omega
  · show ((t.drop 24).take 32).length = 32
    rw [List.length_take, List.length_drop]; omega
  · show ((t.drop 57).take (t.getD 56 0).toNat).length ≤ 255
    omega
  · simp at h
  · simp at h
  · show ((t.drop (t.length - 32)).take 32).length = 32
    rw [List.length_take, List.length_drop]; omega
  · show 74 :: 48 :: 49 :: 3 :: (t.take 16 ++ len8 (num ((t.drop 16).take 8)) ++ (t.drop 24).take 32 ++ (UInt8.ofNat ((t.drop 57).take (t.getD 56 0).toNat).length :: (t.drop 57).take (t.getD 56 0).toNat) ++ (t.drop (t.length - 32)).take 32) = _
    rw [hn, b_of, len8_num _ (by rw [List.length_take, List.length_drop]; omega), ← List.take_add, ← List.take_add (i := 16 + 8) (j := 32)]
    have e1 : List.take (16 + 8 + 32) t ++ (t.getD 56 0 :: (t.drop 57).take (t.getD 56 0).toNat) = t.take (57 + (t.getD 56 0).toNat) := by
      rw [← List.singleton_append, ← List.append_assoc, tk1 t 56 (by omega)]
      exact List.take_add.symm
    rw [e1, show t.length - 32 = 57 + (t.getD 56 0).toNat by omega, ← List.take_add, List.take_of_length_le (by omega)]
theorem back_4 (t : List UInt8) (ht : t.length = 73) : fitP { dk 4 with nonce := str (t.take 16), session := num ((t.drop 16).take 8), player := ((t.getD 24 0).toNat : Int), salt := str ((t.drop 25).take 16), tag := str ((t.drop 41).take 32) } ∧ encB { dk 4 with nonce := str (t.take 16), session := num ((t.drop 16).take 8), player := ((t.getD 24 0).toNat : Int), salt := str ((t.drop 25).take 16), tag := str ((t.drop 41).take 32) } = 74 :: 48 :: 49 :: 4 :: t := by
  have hb := (t.getD 24 0).toNat_lt
  refine ⟨⟨fun _ => ?_, fun h => ?_, fun h => ?_, fun h => ⟨?_, ?_, ?_⟩, fun h => ?_, fun h => ?_⟩, ?_⟩
  · show (t.take 16).length = 16
    rw [List.length_take]; omega
  · simp at h
  · simp at h
  · show ((t.drop 25).take 16).length = 16
    rw [List.length_take, List.length_drop]; omega
  · show (0 : Int) ≤ ((t.getD 24 0).toNat : Int)
    omega
  · show ((t.getD 24 0).toNat : Int) ≤ 255
    omega
  · simp at h
  · show ((t.drop 41).take 32).length = 32
    rw [List.length_take, List.length_drop]; omega
  · show 74 :: 48 :: 49 :: 4 :: (t.take 16 ++ len8 (num ((t.drop 16).take 8)) ++ [UInt8.ofNat ((t.getD 24 0).toNat : Int).toNat] ++ (t.drop 25).take 16 ++ (t.drop 41).take 32) = _
    rw [Int.toNat_natCast, b_of, len8_num _ (by rw [List.length_take, List.length_drop]; omega), ← List.take_add, tk1 t (16 + 8) (by omega), ← List.take_add (i := 16 + 8 + 1) (j := 16), ← List.take_add (i := 16 + 8 + 1 + 16) (j := 32), List.take_of_length_le (by omega)]
theorem back_5 (t : List UInt8) (ht : t.length = 51) (hc : ¬ 3 < (t.getD 18 0).toNat) : fitP { dk 5 with session := num (t.take 8), seq := num ((t.drop 8).take 8), thr := sbyte (t.getD 16 0), trn := sbyte (t.getD 17 0), fire := bit0 (t.getD 18 0), boost := bit1 (t.getD 18 0), tag := str ((t.drop 19).take 32) } ∧ encB { dk 5 with session := num (t.take 8), seq := num ((t.drop 8).take 8), thr := sbyte (t.getD 16 0), trn := sbyte (t.getD 17 0), fire := bit0 (t.getD 18 0), boost := bit1 (t.getD 18 0), tag := str ((t.drop 19).take 32) } = 74 :: 48 :: 49 :: 5 :: t := by
  have r1 := sbyte_rng (t.getD 16 0)
  have r2 := sbyte_rng (t.getD 17 0)
  refine ⟨⟨fun h => ?_, fun h => ?_, fun h => ?_, fun h => ?_, fun h => ⟨r1.1, r1.2, r2.1, r2.2⟩, fun h => ?_⟩, ?_⟩
  · simp at h
  · simp at h
  · simp at h
  · simp at h
  · show ((t.drop 19).take 32).length = 32
    rw [List.length_take, List.length_drop]; omega
  · show 74 :: 48 :: 49 :: 5 :: (len8 (num (t.take 8)) ++ len8 (num ((t.drop 8).take 8)) ++ [sg (sbyte (t.getD 16 0)), sg (sbyte (t.getD 17 0)), UInt8.ofNat (flags (bit0 (t.getD 18 0)) (bit1 (t.getD 18 0)))] ++ (t.drop 19).take 32) = _
    rw [sg_sbyte, sg_sbyte, flags_bits _ (by omega), len8_num _ (by rw [List.length_take]; omega), len8_num _ (by rw [List.length_take, List.length_drop]; omega), ← List.take_add]
    have e1 : List.take (8 + 8) t ++ [t.getD 16 0, t.getD 17 0, t.getD 18 0] = t.take 19 := by
      rw [show [t.getD 16 0, t.getD 17 0, t.getD 18 0] = [t.getD 16 0] ++ ([t.getD 17 0] ++ [t.getD 18 0]) from rfl, ← List.append_assoc, ← List.append_assoc, tk1 t 16 (by omega), tk1 t 17 (by omega), tk1 t 18 (by omega)]
    rw [e1, ← List.take_add (i := 19) (j := 32), List.take_of_length_le (by omega)]
theorem back_6 (t : List UInt8) (ht : 48 ≤ t.length) : fitP { dk 6 with session := num (t.take 8), seq := num ((t.drop 8).take 8), data := str ((t.drop 16).take (t.length - 48)), tag := str ((t.drop (t.length - 32)).take 32) } ∧ encB { dk 6 with session := num (t.take 8), seq := num ((t.drop 8).take 8), data := str ((t.drop 16).take (t.length - 48)), tag := str ((t.drop (t.length - 32)).take 32) } = 74 :: 48 :: 49 :: 6 :: t := by
  refine ⟨⟨fun h => ?_, fun h => ?_, fun h => ?_, fun h => ?_, fun h => ?_, fun h => ?_⟩, ?_⟩
  · simp at h
  · simp at h
  · simp at h
  · simp at h
  · simp at h
  · show ((t.drop (t.length - 32)).take 32).length = 32
    rw [List.length_take, List.length_drop]; omega
  · show 74 :: 48 :: 49 :: 6 :: (len8 (num (t.take 8)) ++ len8 (num ((t.drop 8).take 8)) ++ (t.drop 16).take (t.length - 48) ++ (t.drop (t.length - 32)).take 32) = _
    rw [len8_num _ (by rw [List.length_take]; omega), len8_num _ (by rw [List.length_take, List.length_drop]; omega), ← List.take_add, ← List.take_add (i := 8 + 8) (j := t.length - 48), show t.length - 32 = 8 + 8 + (t.length - 48) by omega, ← List.take_add, List.take_of_length_le (by omega)]
theorem back_7 (t : List UInt8) (ht : t.length = 48) : fitP { dk 7 with session := num (t.take 8), seq := num ((t.drop 8).take 8), tag := str ((t.drop 16).take 32) } ∧ encB { dk 7 with session := num (t.take 8), seq := num ((t.drop 8).take 8), tag := str ((t.drop 16).take 32) } = 74 :: 48 :: 49 :: 7 :: t := by
  refine ⟨⟨fun h => ?_, fun h => ?_, fun h => ?_, fun h => ?_, fun h => ?_, fun h => ?_⟩, ?_⟩
  · simp at h
  · simp at h
  · simp at h
  · simp at h
  · simp at h
  · show ((t.drop 16).take 32).length = 32
    rw [List.length_take, List.length_drop]; omega
  · show 74 :: 48 :: 49 :: 7 :: (len8 (num (t.take 8)) ++ len8 (num ((t.drop 8).take 8)) ++ (t.drop 16).take 32) = _
    rw [len8_num _ (by rw [List.length_take]; omega), len8_num _ (by rw [List.length_take, List.length_drop]; omega), ← List.take_add, ← List.take_add (i := 8 + 8) (j := 32), List.take_of_length_le (by omega)]
theorem body_nil (k : UInt8) (t : List UInt8) (h : 32 ≤ t.length) (h3 : 3 ≤ k.toNat) (h7 : k.toNat ≤ 7) : bodyB (74 :: 48 :: 49 :: k :: t) ≠ [] := by
  unfold bodyB
  rw [if_pos ⟨rfl, by simp only [List.length_cons]; omega, h3, h7⟩]
  intro e
  have := congrArg List.length e
  simp [List.length_take] at this
  omega
theorem body_low (k : UInt8) (t : List UInt8) (h3 : k.toNat < 3) : bodyB (74 :: 48 :: 49 :: k :: t) = [] := by
  unfold bodyB
  rw [if_neg (fun h => by have := h.2.2.1; simp at this; omega)]
/-- What is taken apart is written to the same bytes, has just its kind's fields, and a body just from the third kind on. -/
theorem enc_dec (l : List UInt8) (h : (dec l).2 = 0) : enc (dec l).1 = (str l, 0) ∧ onlyD (dec l).1 = (dec l).1 ∧ (bodyB l = [] ↔ (dec l).1.kind ≤ 2) := by
  obtain ⟨k, t, rfl, hl, h1, h7⟩ := dec_ok l h
  rw [dec_at k t hl ⟨h1, h7⟩] at h ⊢
  have hk : k = 1 ∨ k = 2 ∨ k = 3 ∨ k = 4 ∨ k = 5 ∨ k = 6 ∨ k = 7 := by
    have : k.toNat = 1 ∨ k.toNat = 2 ∨ k.toNat = 3 ∨ k.toNat = 4 ∨ k.toNat = 5 ∨ k.toNat = 6 ∨ k.toNat = 7 := by omega
    rcases this with e | e | e | e | e | e | e
    · exact Or.inl (UInt8.toNat_inj.mp e)
    · exact Or.inr (Or.inl (UInt8.toNat_inj.mp e))
    · exact Or.inr (Or.inr (Or.inl (UInt8.toNat_inj.mp e)))
    · exact Or.inr (Or.inr (Or.inr (Or.inl (UInt8.toNat_inj.mp e))))
    · exact Or.inr (Or.inr (Or.inr (Or.inr (Or.inl (UInt8.toNat_inj.mp e)))))
    · exact Or.inr (Or.inr (Or.inr (Or.inr (Or.inr (Or.inl (UInt8.toNat_inj.mp e))))))
    · exact Or.inr (Or.inr (Or.inr (Or.inr (Or.inr (Or.inr (UInt8.toNat_inj.mp e))))))
  rcases hk with rfl | rfl | rfl | rfl | rfl | rfl | rfl
  · replace h : (fin (getAll (fieldsOf 1) (dk 1, false, t))).2 = 0 := h
    show enc (fin (getAll (fieldsOf 1) (dk 1, false, t))).1 = _ ∧ onlyD (fin (getAll (fieldsOf 1) (dk 1, false, t))).1 = (fin (getAll (fieldsOf 1) (dk 1, false, t))).1 ∧ (_ ↔ (fin (getAll (fieldsOf 1) (dk 1, false, t))).1.kind ≤ 2)
    rw [dec1] at h ⊢
    by_cases ht : t.length = 92
    · rw [if_pos ht] at h ⊢
      by_cases hz : ∀ b ∈ t.drop 16, b = 0
      · rw [if_pos hz]
        exact ⟨enc_of _ _ (show (1 : Int) ≤ 1 ∧ (1 : Int) ≤ 7 by decide) (back_1 t ht hz).1 (back_1 t ht hz).2 hl, rfl, iff_of_true (body_low _ _ (by decide)) (show (1 : Int) ≤ 2 by decide)⟩
      · rw [if_neg hz] at h; cases h
    · rw [if_neg ht] at h; cases h
  · replace h : (fin (getAll (fieldsOf 2) (dk 2, false, t))).2 = 0 := h
    show enc (fin (getAll (fieldsOf 2) (dk 2, false, t))).1 = _ ∧ onlyD (fin (getAll (fieldsOf 2) (dk 2, false, t))).1 = (fin (getAll (fieldsOf 2) (dk 2, false, t))).1 ∧ (_ ↔ (fin (getAll (fieldsOf 2) (dk 2, false, t))).1.kind ≤ 2)
    rw [dec2] at h ⊢
    by_cases ht : t.length = 56
    · rw [if_pos ht]
      exact ⟨enc_of _ _ (show (1 : Int) ≤ 2 ∧ (2 : Int) ≤ 7 by decide) (back_2 t ht).1 (back_2 t ht).2 hl, rfl, iff_of_true (body_low _ _ (by decide)) (show (2 : Int) ≤ 2 by decide)⟩
    · rw [if_neg ht] at h; cases h
  · replace h : (fin (getAll (fieldsOf 3) (dk 3, false, t))).2 = 0 := h
    show enc (fin (getAll (fieldsOf 3) (dk 3, false, t))).1 = _ ∧ onlyD (fin (getAll (fieldsOf 3) (dk 3, false, t))).1 = (fin (getAll (fieldsOf 3) (dk 3, false, t))).1 ∧ (_ ↔ (fin (getAll (fieldsOf 3) (dk 3, false, t))).1.kind ≤ 2)
    rw [dec3] at h ⊢
    by_cases ht : 89 ≤ t.length ∧ t.length = 89 + (t.getD 56 0).toNat
    · rw [if_pos ht]
      exact ⟨enc_of _ _ (show (1 : Int) ≤ 3 ∧ (3 : Int) ≤ 7 by decide) (back_3 t ht).1 (back_3 t ht).2 hl, rfl, iff_of_false (body_nil _ _ (by omega) (by decide) (by decide)) (show ¬ (3 : Int) ≤ 2 by decide)⟩
    · rw [if_neg ht] at h; cases h
  · replace h : (fin (getAll (fieldsOf 4) (dk 4, false, t))).2 = 0 := h
    show enc (fin (getAll (fieldsOf 4) (dk 4, false, t))).1 = _ ∧ onlyD (fin (getAll (fieldsOf 4) (dk 4, false, t))).1 = (fin (getAll (fieldsOf 4) (dk 4, false, t))).1 ∧ (_ ↔ (fin (getAll (fieldsOf 4) (dk 4, false, t))).1.kind ≤ 2)
    rw [dec4] at h ⊢
    by_cases ht : t.length = 73
    · rw [if_pos ht]
      exact ⟨enc_of _ _ (show (1 : Int) ≤ 4 ∧ (4 : Int) ≤ 7 by decide) (back_4 t ht).1 (back_4 t ht).2 hl, rfl, iff_of_false (body_nil _ _ (by omega) (by decide) (by decide)) (show ¬ (4 : Int) ≤ 2 by decide)⟩
    · rw [if_neg ht] at h; cases h
  · replace h : (fin (getAll (fieldsOf 5) (dk 5, false, t))).2 = 0 := h
    show enc (fin (getAll (fieldsOf 5) (dk 5, false, t))).1 = _ ∧ onlyD (fin (getAll (fieldsOf 5) (dk 5, false, t))).1 = (fin (getAll (fieldsOf 5) (dk 5, false, t))).1 ∧ (_ ↔ (fin (getAll (fieldsOf 5) (dk 5, false, t))).1.kind ≤ 2)
    rw [dec5] at h ⊢
    by_cases ht : t.length = 51
    · rw [if_pos ht] at h ⊢
      by_cases hc : 3 < (t.getD 18 0).toNat
      · rw [if_pos hc] at h; cases h
      · rw [if_neg hc]
        exact ⟨enc_of _ _ (show (1 : Int) ≤ 5 ∧ (5 : Int) ≤ 7 by decide) (back_5 t ht hc).1 (back_5 t ht hc).2 hl, rfl, iff_of_false (body_nil _ _ (by omega) (by decide) (by decide)) (show ¬ (5 : Int) ≤ 2 by decide)⟩
    · rw [if_neg ht] at h; cases h
  · replace h : (fin (getAll (fieldsOf 6) (dk 6, false, t))).2 = 0 := h
    show enc (fin (getAll (fieldsOf 6) (dk 6, false, t))).1 = _ ∧ onlyD (fin (getAll (fieldsOf 6) (dk 6, false, t))).1 = (fin (getAll (fieldsOf 6) (dk 6, false, t))).1 ∧ (_ ↔ (fin (getAll (fieldsOf 6) (dk 6, false, t))).1.kind ≤ 2)
    rw [dec6] at h ⊢
    by_cases ht : 48 ≤ t.length
    · rw [if_pos ht]
      exact ⟨enc_of _ _ (show (1 : Int) ≤ 6 ∧ (6 : Int) ≤ 7 by decide) (back_6 t ht).1 (back_6 t ht).2 hl, rfl, iff_of_false (body_nil _ _ (by omega) (by decide) (by decide)) (show ¬ (6 : Int) ≤ 2 by decide)⟩
    · rw [if_neg ht] at h; cases h
  · replace h : (fin (getAll (fieldsOf 7) (dk 7, false, t))).2 = 0 := h
    show enc (fin (getAll (fieldsOf 7) (dk 7, false, t))).1 = _ ∧ onlyD (fin (getAll (fieldsOf 7) (dk 7, false, t))).1 = (fin (getAll (fieldsOf 7) (dk 7, false, t))).1 ∧ (_ ↔ (fin (getAll (fieldsOf 7) (dk 7, false, t))).1.kind ≤ 2)
    rw [dec7] at h ⊢
    by_cases ht : t.length = 48
    · rw [if_pos ht]
      exact ⟨enc_of _ _ (show (1 : Int) ≤ 7 ∧ (7 : Int) ≤ 7 by decide) (back_7 t ht).1 (back_7 t ht).2 hl, rfl, iff_of_false (body_nil _ _ (by omega) (by decide) (by decide)) (show ¬ (7 : Int) ≤ 2 by decide)⟩
    · rw [if_neg ht] at h; cases h
theorem dec_code (l : List UInt8) : (dec l).2 = 0 ∨ (70 ≤ (dec l).2 ∧ (dec l).2 ≤ 73) := by
  have hfin : ∀ o, (fin o).2 = 0 ∨ (70 ≤ (fin o).2 ∧ (fin o).2 ≤ 73) := by
    intro o
    unfold fin
    split
    · exact Or.inr ⟨by decide, by decide⟩
    · split
      · exact Or.inr ⟨by decide, by decide⟩
      · split
        · exact Or.inr ⟨by decide, by decide⟩
        · exact Or.inl rfl
  unfold dec
  split
  · exact Or.inr ⟨by decide, by decide⟩
  · split
    · split
      · exact Or.inr ⟨by decide, by decide⟩
      · split
        · exact hfin _
        · exact Or.inr ⟨by decide, by decide⟩
    · exact Or.inr ⟨by decide, by decide⟩
end Go.Proofs.YtniabkphbnimaaaGreatDoor.Sh
namespace Go.Proofs.YtniabkphbnimaaaGreatDoor.Sh
open Go Go.RowKit Go.Maps Go.Proofs.YtniabkphbnimaaaGreatDoorW.PrintWords Go.Proofs.YtniabkphbnimaaaGreatDoorW.PrintLast Go.Proofs.YtniabkphbnimaaaGreatDoor.Bs
theorem results_only (tmps : Array Value) (w : World) (G : Nat) (d : Dg) (h2 : tmps.getD 2 undef = .pointer (some ⟨G, 0, none⟩)) (hG : w.heap[G]? = some (.cells d.cells.toArray 27 (0, 0))) :
    (results Tryz.f20 tmps).run Tryz.prog w = .ok (.agg d.cells.toArray) w := by
  have hr : (Tryz.f20).results = #[.cell 2 27] := rfl
  have p2 : tmps[2]?.getD undef = .pointer (some ⟨G, 0, none⟩) := by simpa using h2
  have hl := run_loadVar_row (P := Tryz.prog) w G 27 27 d.cells.toArray (0, 0) _ hG Tryz.underlying27 rfl (by kernel_rfl)
  simp [results, hr, p2, asAddr, hl]
structure Tri (w0 w : World) (D G O : Nat) (d : Dg) (cur : List Value) : Prop where
  hD : w.heap[D]? = some (.cells d.cells.toArray 27 (0, 0))
  hG : w.heap[G]? = some (.cells Dg.zero.cells.toArray 27 (0, 0))
  hO : w.heap[O]? = some (.cells cur.toArray 27 (0, 0))
  ne : D ≠ O ∧ G ≠ O ∧ w0.heap.size ≤ O ∧ w0.heap.size ≤ G
  hB : Below w0.heap.size w0 w
theorem Tri.put {w0 w w' : World} {D G O : Nat} {d : Dg} {cur cur' : List Value} (h : Tri w0 w D G O d cur) (hO : w'.heap[O]? = some (.cells cur'.toArray 27 (0, 0))) (hm : Mv w w' (fun k => k = O)) : Tri w0 w' D G O d cur' :=
  ⟨hm.blk h.hD h.ne.1, hm.blk h.hG h.ne.2.1, hO, h.ne, toBelow' h.hB hm h.ne.2.2.1⟩
set_option maxHeartbeats 8000000 in
set_option maxRecDepth 100000 in
theorem only_1 (nonce : ByteArray) (epoch : Nat) (cookie name : ByteArray) (session : Nat) (player : Int) (salt : ByteArray) (seq : Nat) (thr trn : Int) (fire boost : Bool) (data tag : ByteArray) (w : World) : Calls Tryz.prog 20 #[.agg (⟨1, nonce, epoch, cookie, name, session, player, salt, seq, thr, trn, fire, boost, data, tag⟩ : Dg).cells.toArray] w fun e w' => e = .returned (.agg (onlyD (⟨1, nonce, epoch, cookie, name, session, player, salt, seq, thr, trn, fire, boost, data, tag⟩ : Dg)).cells.toArray) ∧ Below w.heap.size w w' := by
  have MARK : True := trivial
  go_enter Tryz.func20, Tryz.ntmps20
  go_wp2_with (first
    | ((with_reducible first | refine at_box_ ?_ | refine at_box2_ ?_); refine wpList_box_v rfl 27 _ rfl (⟨1, nonce, epoch, cookie, name, session, player, salt, seq, thr, trn, fire, boost, data, tag⟩ : Dg).cells rfl (by kernel_rfl) ?_; intro D w1 eD hD1 hb1 hz1; have n1_ := Aside0.mk (hD1.out); have n2_ := Aside0.mk (hb1.out); have n3_ := Aside0.mk (eD.out); clear hD1 hb1 eD)
    | ((with_reducible first | refine at_alloc_ ?_ | refine at_alloc2_ ?_); clear MARK; have MARK2 : True := trivial; refine wpList_alloc_v rfl 27 rfl Dg.zero.cells (by kernel_rfl) ?_; intro G w2 eG hG2 hb2 hz2; have m1_ := Aside0.mk (hG2.out); have m2_ := Aside0.mk (n2_.out.trans (hb2.out.mono n2_.out.size)); have m3_ := Aside0.mk (eG.out); have m4_ := Aside0.mk ((hb2.out.block D (blk_lt n1_.out)).trans n1_.out); clear hG2 hb2 eG)
    | ((with_reducible first | refine at_alloc_ ?_ | refine at_alloc2_ ?_); clear MARK2; refine wpList_alloc_v rfl 27 rfl Dg.zero.cells (by kernel_rfl) ?_; intro O w3 eO hO3 hb3 hz3; have HT := Aside0.mk (show Tri w w3 D G O (⟨1, nonce, epoch, cookie, name, session, player, salt, seq, thr, trn, fire, boost, data, tag⟩ : Dg) Dg.zero.cells from ⟨(hb3.out.block D (blk_lt m4_.out)).trans m4_.out, (hb3.out.block G (blk_lt m1_.out)).trans m1_.out, hO3.out, by have := eO.out; have := blk_lt m4_.out; have := blk_lt m1_.out; have := m2_.out.size; have := n2_.out.size; have := m3_.out; exact ⟨by omega, by omega, by omega, by omega⟩, m2_.out.trans (hb3.out.mono m2_.out.size)⟩); clear hO3 hb3 eO m1_ m2_ m3_ m4_ n1_ n2_ n3_; have cK := cell_of (i := 0) (v := .int .i64 1) HT.out.hD rfl)
    | ((with_reducible first | refine at_store_ ?_ | refine at_store2_ ?_); refine wpList_store_agg rfl 27 _ _ rfl O 0 rfl (dk 1).cells _ (by rfl) _ HT.out.hO (by exact Nat.le_refl 15) (fun v hv => one_cells hv) (by kernel_rfl) ?_; intro w4 hO4 hm4 hz4; rw [splice_all Dg.zero.cells (dk 1).cells rfl] at hO4; have n_ := Aside0.mk (HT.out.put hO4.out hm4.out); clear HT hO4 hm4 hz4; have HT := n_; clear n_; (try clear cK); have cK := cell_of (i := 0) (v := .int .i64 1) HT.out.hD rfl)
    | ((with_reducible first | refine at_load_ ?_ | refine at_load2_ ?_); refine wpList_load_one rfl 3 _ rfl D 0 rfl (⟨1, nonce, epoch, cookie, name, session, player, salt, seq, thr, trn, fire, boost, data, tag⟩ : Dg).cells _ _ m4_.out _ rfl _ Tryz.underlying3 rfl ?_)
    | ((with_reducible first | refine at_load_ ?_ | refine at_load2_ ?_); refine wpList_load_one rfl 3 _ rfl D 0 rfl (⟨1, nonce, epoch, cookie, name, session, player, salt, seq, thr, trn, fire, boost, data, tag⟩ : Dg).cells _ _ HT.out.hD _ rfl _ Tryz.underlying3 rfl ?_)
    | ((with_reducible first | refine at_load_ ?_ | refine at_load2_ ?_); refine wpList_load_one rfl 9 _ rfl D 1 rfl (⟨1, nonce, epoch, cookie, name, session, player, salt, seq, thr, trn, fire, boost, data, tag⟩ : Dg).cells _ _ HT.out.hD _ rfl _ Tryz.underlying9 rfl ?_)
    | ((with_reducible first | refine at_store_ ?_ | refine at_store2_ ?_); refine wpList_store_cell rfl 9 _ _ rfl O 1 rfl _ rfl _ _ HT.out.hO (by exact (by decide : 1 < 15)) rfl (by kernel_rfl) ?_; intro w4 hO4 hm4 hz4; have n_ := Aside0.mk (HT.out.put hO4.out hm4.out); clear HT hO4 hm4 hz4; have HT := n_; clear n_; (try clear cK); have cK := cell_of (i := 0) (v := .int .i64 1) HT.out.hD rfl)
    | ((with_reducible first | refine at_load_ ?_ | refine at_load2_ ?_); refine wpList_load_agg rfl 27 _ rfl O 0 rfl (onlyD (⟨1, nonce, epoch, cookie, name, session, player, salt, seq, thr, trn, fire, boost, data, tag⟩ : Dg)).cells (load_all HT.out.hO) _ Tryz.underlying27 rfl (by kernel_rfl) ?_)
    | ((with_reducible first | refine at_store_ ?_ | refine at_store2_ ?_); refine wpList_store_agg rfl 27 _ _ rfl G 0 rfl (onlyD (⟨1, nonce, epoch, cookie, name, session, player, salt, seq, thr, trn, fire, boost, data, tag⟩ : Dg)).cells Dg.zero.cells rfl _ HT.out.hG (by exact Nat.le_refl 15) (fun v hv => one_cells hv) (by kernel_rfl) ?_; intro w9 hG9 hm9 hz9; have HG9 := Aside0.mk (show w9.heap[G]? = some (.cells (onlyD (⟨1, nonce, epoch, cookie, name, session, player, salt, seq, thr, trn, fire, boost, data, tag⟩ : Dg)).cells.toArray 27 (0, 0)) from hG9.out); have HM9 := Aside0.mk (show Below w.heap.size w w9 from toBelow' HT.out.hB hm9.out HT.out.ne.2.2.2)))
  refine bodyPost_ret (results_only _ _ G (onlyD (⟨1, nonce, epoch, cookie, name, session, player, salt, seq, thr, trn, fire, boost, data, tag⟩ : Dg)) rfl HG9.out) rfl ⟨rfl, HM9.out⟩
set_option maxHeartbeats 8000000 in
set_option maxRecDepth 100000 in
theorem only_2 (nonce : ByteArray) (epoch : Nat) (cookie name : ByteArray) (session : Nat) (player : Int) (salt : ByteArray) (seq : Nat) (thr trn : Int) (fire boost : Bool) (data tag : ByteArray) (w : World) : Calls Tryz.prog 20 #[.agg (⟨2, nonce, epoch, cookie, name, session, player, salt, seq, thr, trn, fire, boost, data, tag⟩ : Dg).cells.toArray] w fun e w' => e = .returned (.agg (onlyD (⟨2, nonce, epoch, cookie, name, session, player, salt, seq, thr, trn, fire, boost, data, tag⟩ : Dg)).cells.toArray) ∧ Below w.heap.size w w' := by
  have MARK : True := trivial
  go_enter Tryz.func20, Tryz.ntmps20
  go_wp2_with (first
    | ((with_reducible first | refine at_box_ ?_ | refine at_box2_ ?_); refine wpList_box_v rfl 27 _ rfl (⟨2, nonce, epoch, cookie, name, session, player, salt, seq, thr, trn, fire, boost, data, tag⟩ : Dg).cells rfl (by kernel_rfl) ?_; intro D w1 eD hD1 hb1 hz1; have n1_ := Aside0.mk (hD1.out); have n2_ := Aside0.mk (hb1.out); have n3_ := Aside0.mk (eD.out); clear hD1 hb1 eD)
    | ((with_reducible first | refine at_alloc_ ?_ | refine at_alloc2_ ?_); clear MARK; have MARK2 : True := trivial; refine wpList_alloc_v rfl 27 rfl Dg.zero.cells (by kernel_rfl) ?_; intro G w2 eG hG2 hb2 hz2; have m1_ := Aside0.mk (hG2.out); have m2_ := Aside0.mk (n2_.out.trans (hb2.out.mono n2_.out.size)); have m3_ := Aside0.mk (eG.out); have m4_ := Aside0.mk ((hb2.out.block D (blk_lt n1_.out)).trans n1_.out); clear hG2 hb2 eG)
    | ((with_reducible first | refine at_alloc_ ?_ | refine at_alloc2_ ?_); clear MARK2; refine wpList_alloc_v rfl 27 rfl Dg.zero.cells (by kernel_rfl) ?_; intro O w3 eO hO3 hb3 hz3; have HT := Aside0.mk (show Tri w w3 D G O (⟨2, nonce, epoch, cookie, name, session, player, salt, seq, thr, trn, fire, boost, data, tag⟩ : Dg) Dg.zero.cells from ⟨(hb3.out.block D (blk_lt m4_.out)).trans m4_.out, (hb3.out.block G (blk_lt m1_.out)).trans m1_.out, hO3.out, by have := eO.out; have := blk_lt m4_.out; have := blk_lt m1_.out; have := m2_.out.size; have := n2_.out.size; have := m3_.out; exact ⟨by omega, by omega, by omega, by omega⟩, m2_.out.trans (hb3.out.mono m2_.out.size)⟩); clear hO3 hb3 eO m1_ m2_ m3_ m4_ n1_ n2_ n3_; have cK := cell_of (i := 0) (v := .int .i64 2) HT.out.hD rfl)
    | ((with_reducible first | refine at_store_ ?_ | refine at_store2_ ?_); refine wpList_store_agg rfl 27 _ _ rfl O 0 rfl (dk 2).cells _ (by rfl) _ HT.out.hO (by exact Nat.le_refl 15) (fun v hv => one_cells hv) (by kernel_rfl) ?_; intro w4 hO4 hm4 hz4; rw [splice_all Dg.zero.cells (dk 2).cells rfl] at hO4; have n_ := Aside0.mk (HT.out.put hO4.out hm4.out); clear HT hO4 hm4 hz4; have HT := n_; clear n_; (try clear cK); have cK := cell_of (i := 0) (v := .int .i64 2) HT.out.hD rfl)
    | ((with_reducible first | refine at_load_ ?_ | refine at_load2_ ?_); refine wpList_load_one rfl 3 _ rfl D 0 rfl (⟨2, nonce, epoch, cookie, name, session, player, salt, seq, thr, trn, fire, boost, data, tag⟩ : Dg).cells _ _ m4_.out _ rfl _ Tryz.underlying3 rfl ?_)
    | ((with_reducible first | refine at_load_ ?_ | refine at_load2_ ?_); refine wpList_load_one rfl 3 _ rfl D 0 rfl (⟨2, nonce, epoch, cookie, name, session, player, salt, seq, thr, trn, fire, boost, data, tag⟩ : Dg).cells _ _ HT.out.hD _ rfl _ Tryz.underlying3 rfl ?_)
    | ((with_reducible first | refine at_load_ ?_ | refine at_load2_ ?_); refine wpList_load_one rfl 9 _ rfl D 1 rfl (⟨2, nonce, epoch, cookie, name, session, player, salt, seq, thr, trn, fire, boost, data, tag⟩ : Dg).cells _ _ HT.out.hD _ rfl _ Tryz.underlying9 rfl ?_)
    | ((with_reducible first | refine at_store_ ?_ | refine at_store2_ ?_); refine wpList_store_cell rfl 9 _ _ rfl O 1 rfl _ rfl _ _ HT.out.hO (by exact (by decide : 1 < 15)) rfl (by kernel_rfl) ?_; intro w4 hO4 hm4 hz4; have n_ := Aside0.mk (HT.out.put hO4.out hm4.out); clear HT hO4 hm4 hz4; have HT := n_; clear n_; (try clear cK); have cK := cell_of (i := 0) (v := .int .i64 2) HT.out.hD rfl)
    | ((with_reducible first | refine at_load_ ?_ | refine at_load2_ ?_); refine wpList_load_one rfl 23 _ rfl D 2 rfl (⟨2, nonce, epoch, cookie, name, session, player, salt, seq, thr, trn, fire, boost, data, tag⟩ : Dg).cells _ _ HT.out.hD _ rfl _ Tryz.underlying23 rfl ?_)
    | ((with_reducible first | refine at_store_ ?_ | refine at_store2_ ?_); refine wpList_store_cell rfl 23 _ _ rfl O 2 rfl _ rfl _ _ HT.out.hO (by exact (by decide : 2 < 15)) rfl (by kernel_rfl) ?_; intro w4 hO4 hm4 hz4; have n_ := Aside0.mk (HT.out.put hO4.out hm4.out); clear HT hO4 hm4 hz4; have HT := n_; clear n_; (try clear cK); have cK := cell_of (i := 0) (v := .int .i64 2) HT.out.hD rfl)
    | ((with_reducible first | refine at_load_ ?_ | refine at_load2_ ?_); refine wpList_load_one rfl 9 _ rfl D 3 rfl (⟨2, nonce, epoch, cookie, name, session, player, salt, seq, thr, trn, fire, boost, data, tag⟩ : Dg).cells _ _ HT.out.hD _ rfl _ Tryz.underlying9 rfl ?_)
    | ((with_reducible first | refine at_store_ ?_ | refine at_store2_ ?_); refine wpList_store_cell rfl 9 _ _ rfl O 3 rfl _ rfl _ _ HT.out.hO (by exact (by decide : 3 < 15)) rfl (by kernel_rfl) ?_; intro w4 hO4 hm4 hz4; have n_ := Aside0.mk (HT.out.put hO4.out hm4.out); clear HT hO4 hm4 hz4; have HT := n_; clear n_; (try clear cK); have cK := cell_of (i := 0) (v := .int .i64 2) HT.out.hD rfl)
    | ((with_reducible first | refine at_load_ ?_ | refine at_load2_ ?_); refine wpList_load_agg rfl 27 _ rfl O 0 rfl (onlyD (⟨2, nonce, epoch, cookie, name, session, player, salt, seq, thr, trn, fire, boost, data, tag⟩ : Dg)).cells (load_all HT.out.hO) _ Tryz.underlying27 rfl (by kernel_rfl) ?_)
    | ((with_reducible first | refine at_store_ ?_ | refine at_store2_ ?_); refine wpList_store_agg rfl 27 _ _ rfl G 0 rfl (onlyD (⟨2, nonce, epoch, cookie, name, session, player, salt, seq, thr, trn, fire, boost, data, tag⟩ : Dg)).cells Dg.zero.cells rfl _ HT.out.hG (by exact Nat.le_refl 15) (fun v hv => one_cells hv) (by kernel_rfl) ?_; intro w9 hG9 hm9 hz9; have HG9 := Aside0.mk (show w9.heap[G]? = some (.cells (onlyD (⟨2, nonce, epoch, cookie, name, session, player, salt, seq, thr, trn, fire, boost, data, tag⟩ : Dg)).cells.toArray 27 (0, 0)) from hG9.out); have HM9 := Aside0.mk (show Below w.heap.size w w9 from toBelow' HT.out.hB hm9.out HT.out.ne.2.2.2)))
  refine bodyPost_ret (results_only _ _ G (onlyD (⟨2, nonce, epoch, cookie, name, session, player, salt, seq, thr, trn, fire, boost, data, tag⟩ : Dg)) rfl HG9.out) rfl ⟨rfl, HM9.out⟩
set_option maxHeartbeats 8000000 in
set_option maxRecDepth 100000 in
theorem only_3 (nonce : ByteArray) (epoch : Nat) (cookie name : ByteArray) (session : Nat) (player : Int) (salt : ByteArray) (seq : Nat) (thr trn : Int) (fire boost : Bool) (data tag : ByteArray) (w : World) : Calls Tryz.prog 20 #[.agg (⟨3, nonce, epoch, cookie, name, session, player, salt, seq, thr, trn, fire, boost, data, tag⟩ : Dg).cells.toArray] w fun e w' => e = .returned (.agg (onlyD (⟨3, nonce, epoch, cookie, name, session, player, salt, seq, thr, trn, fire, boost, data, tag⟩ : Dg)).cells.toArray) ∧ Below w.heap.size w w' := by
  have MARK : True := trivial
  go_enter Tryz.func20, Tryz.ntmps20
  go_wp2_with (first
    | ((with_reducible first | refine at_box_ ?_ | refine at_box2_ ?_); refine wpList_box_v rfl 27 _ rfl (⟨3, nonce, epoch, cookie, name, session, player, salt, seq, thr, trn, fire, boost, data, tag⟩ : Dg).cells rfl (by kernel_rfl) ?_; intro D w1 eD hD1 hb1 hz1; have n1_ := Aside0.mk (hD1.out); have n2_ := Aside0.mk (hb1.out); have n3_ := Aside0.mk (eD.out); clear hD1 hb1 eD)
    | ((with_reducible first | refine at_alloc_ ?_ | refine at_alloc2_ ?_); clear MARK; have MARK2 : True := trivial; refine wpList_alloc_v rfl 27 rfl Dg.zero.cells (by kernel_rfl) ?_; intro G w2 eG hG2 hb2 hz2; have m1_ := Aside0.mk (hG2.out); have m2_ := Aside0.mk (n2_.out.trans (hb2.out.mono n2_.out.size)); have m3_ := Aside0.mk (eG.out); have m4_ := Aside0.mk ((hb2.out.block D (blk_lt n1_.out)).trans n1_.out); clear hG2 hb2 eG)
    | ((with_reducible first | refine at_alloc_ ?_ | refine at_alloc2_ ?_); clear MARK2; refine wpList_alloc_v rfl 27 rfl Dg.zero.cells (by kernel_rfl) ?_; intro O w3 eO hO3 hb3 hz3; have HT := Aside0.mk (show Tri w w3 D G O (⟨3, nonce, epoch, cookie, name, session, player, salt, seq, thr, trn, fire, boost, data, tag⟩ : Dg) Dg.zero.cells from ⟨(hb3.out.block D (blk_lt m4_.out)).trans m4_.out, (hb3.out.block G (blk_lt m1_.out)).trans m1_.out, hO3.out, by have := eO.out; have := blk_lt m4_.out; have := blk_lt m1_.out; have := m2_.out.size; have := n2_.out.size; have := m3_.out; exact ⟨by omega, by omega, by omega, by omega⟩, m2_.out.trans (hb3.out.mono m2_.out.size)⟩); clear hO3 hb3 eO m1_ m2_ m3_ m4_ n1_ n2_ n3_; have cK := cell_of (i := 0) (v := .int .i64 3) HT.out.hD rfl)
    | ((with_reducible first | refine at_store_ ?_ | refine at_store2_ ?_); refine wpList_store_agg rfl 27 _ _ rfl O 0 rfl (dk 3).cells _ (by rfl) _ HT.out.hO (by exact Nat.le_refl 15) (fun v hv => one_cells hv) (by kernel_rfl) ?_; intro w4 hO4 hm4 hz4; rw [splice_all Dg.zero.cells (dk 3).cells rfl] at hO4; have n_ := Aside0.mk (HT.out.put hO4.out hm4.out); clear HT hO4 hm4 hz4; have HT := n_; clear n_; (try clear cK); have cK := cell_of (i := 0) (v := .int .i64 3) HT.out.hD rfl)
    | ((with_reducible first | refine at_load_ ?_ | refine at_load2_ ?_); refine wpList_load_one rfl 3 _ rfl D 0 rfl (⟨3, nonce, epoch, cookie, name, session, player, salt, seq, thr, trn, fire, boost, data, tag⟩ : Dg).cells _ _ m4_.out _ rfl _ Tryz.underlying3 rfl ?_)
    | ((with_reducible first | refine at_load_ ?_ | refine at_load2_ ?_); refine wpList_load_one rfl 3 _ rfl D 0 rfl (⟨3, nonce, epoch, cookie, name, session, player, salt, seq, thr, trn, fire, boost, data, tag⟩ : Dg).cells _ _ HT.out.hD _ rfl _ Tryz.underlying3 rfl ?_)
    | ((with_reducible first | refine at_load_ ?_ | refine at_load2_ ?_); refine wpList_load_one rfl 9 _ rfl D 1 rfl (⟨3, nonce, epoch, cookie, name, session, player, salt, seq, thr, trn, fire, boost, data, tag⟩ : Dg).cells _ _ HT.out.hD _ rfl _ Tryz.underlying9 rfl ?_)
    | ((with_reducible first | refine at_store_ ?_ | refine at_store2_ ?_); refine wpList_store_cell rfl 9 _ _ rfl O 1 rfl _ rfl _ _ HT.out.hO (by exact (by decide : 1 < 15)) rfl (by kernel_rfl) ?_; intro w4 hO4 hm4 hz4; have n_ := Aside0.mk (HT.out.put hO4.out hm4.out); clear HT hO4 hm4 hz4; have HT := n_; clear n_; (try clear cK); have cK := cell_of (i := 0) (v := .int .i64 3) HT.out.hD rfl)
    | ((with_reducible first | refine at_load_ ?_ | refine at_load2_ ?_); refine wpList_load_one rfl 23 _ rfl D 2 rfl (⟨3, nonce, epoch, cookie, name, session, player, salt, seq, thr, trn, fire, boost, data, tag⟩ : Dg).cells _ _ HT.out.hD _ rfl _ Tryz.underlying23 rfl ?_)
    | ((with_reducible first | refine at_store_ ?_ | refine at_store2_ ?_); refine wpList_store_cell rfl 23 _ _ rfl O 2 rfl _ rfl _ _ HT.out.hO (by exact (by decide : 2 < 15)) rfl (by kernel_rfl) ?_; intro w4 hO4 hm4 hz4; have n_ := Aside0.mk (HT.out.put hO4.out hm4.out); clear HT hO4 hm4 hz4; have HT := n_; clear n_; (try clear cK); have cK := cell_of (i := 0) (v := .int .i64 3) HT.out.hD rfl)
    | ((with_reducible first | refine at_load_ ?_ | refine at_load2_ ?_); refine wpList_load_one rfl 9 _ rfl D 3 rfl (⟨3, nonce, epoch, cookie, name, session, player, salt, seq, thr, trn, fire, boost, data, tag⟩ : Dg).cells _ _ HT.out.hD _ rfl _ Tryz.underlying9 rfl ?_)
    | ((with_reducible first | refine at_store_ ?_ | refine at_store2_ ?_); refine wpList_store_cell rfl 9 _ _ rfl O 3 rfl _ rfl _ _ HT.out.hO (by exact (by decide : 3 < 15)) rfl (by kernel_rfl) ?_; intro w4 hO4 hm4 hz4; have n_ := Aside0.mk (HT.out.put hO4.out hm4.out); clear HT hO4 hm4 hz4; have HT := n_; clear n_; (try clear cK); have cK := cell_of (i := 0) (v := .int .i64 3) HT.out.hD rfl)
    | ((with_reducible first | refine at_load_ ?_ | refine at_load2_ ?_); refine wpList_load_one rfl 9 _ rfl D 14 rfl (⟨3, nonce, epoch, cookie, name, session, player, salt, seq, thr, trn, fire, boost, data, tag⟩ : Dg).cells _ _ HT.out.hD _ rfl _ Tryz.underlying9 rfl ?_)
    | ((with_reducible first | refine at_store_ ?_ | refine at_store2_ ?_); refine wpList_store_cell rfl 9 _ _ rfl O 14 rfl _ rfl _ _ HT.out.hO (by exact (by decide : 14 < 15)) rfl (by kernel_rfl) ?_; intro w4 hO4 hm4 hz4; have n_ := Aside0.mk (HT.out.put hO4.out hm4.out); clear HT hO4 hm4 hz4; have HT := n_; clear n_; (try clear cK); have cK := cell_of (i := 0) (v := .int .i64 3) HT.out.hD rfl)
    | ((with_reducible first | refine at_load_ ?_ | refine at_load2_ ?_); refine wpList_load_one rfl 9 _ rfl D 4 rfl (⟨3, nonce, epoch, cookie, name, session, player, salt, seq, thr, trn, fire, boost, data, tag⟩ : Dg).cells _ _ HT.out.hD _ rfl _ Tryz.underlying9 rfl ?_)
    | ((with_reducible first | refine at_store_ ?_ | refine at_store2_ ?_); refine wpList_store_cell rfl 9 _ _ rfl O 4 rfl _ rfl _ _ HT.out.hO (by exact (by decide : 4 < 15)) rfl (by kernel_rfl) ?_; intro w4 hO4 hm4 hz4; have n_ := Aside0.mk (HT.out.put hO4.out hm4.out); clear HT hO4 hm4 hz4; have HT := n_; clear n_; (try clear cK); have cK := cell_of (i := 0) (v := .int .i64 3) HT.out.hD rfl)
    | ((with_reducible first | refine at_load_ ?_ | refine at_load2_ ?_); refine wpList_load_agg rfl 27 _ rfl O 0 rfl (onlyD (⟨3, nonce, epoch, cookie, name, session, player, salt, seq, thr, trn, fire, boost, data, tag⟩ : Dg)).cells (load_all HT.out.hO) _ Tryz.underlying27 rfl (by kernel_rfl) ?_)
    | ((with_reducible first | refine at_store_ ?_ | refine at_store2_ ?_); refine wpList_store_agg rfl 27 _ _ rfl G 0 rfl (onlyD (⟨3, nonce, epoch, cookie, name, session, player, salt, seq, thr, trn, fire, boost, data, tag⟩ : Dg)).cells Dg.zero.cells rfl _ HT.out.hG (by exact Nat.le_refl 15) (fun v hv => one_cells hv) (by kernel_rfl) ?_; intro w9 hG9 hm9 hz9; have HG9 := Aside0.mk (show w9.heap[G]? = some (.cells (onlyD (⟨3, nonce, epoch, cookie, name, session, player, salt, seq, thr, trn, fire, boost, data, tag⟩ : Dg)).cells.toArray 27 (0, 0)) from hG9.out); have HM9 := Aside0.mk (show Below w.heap.size w w9 from toBelow' HT.out.hB hm9.out HT.out.ne.2.2.2)))
  refine bodyPost_ret (results_only _ _ G (onlyD (⟨3, nonce, epoch, cookie, name, session, player, salt, seq, thr, trn, fire, boost, data, tag⟩ : Dg)) rfl HG9.out) rfl ⟨rfl, HM9.out⟩
set_option maxHeartbeats 8000000 in
set_option maxRecDepth 100000 in
theorem only_4 (nonce : ByteArray) (epoch : Nat) (cookie name : ByteArray) (session : Nat) (player : Int) (salt : ByteArray) (seq : Nat) (thr trn : Int) (fire boost : Bool) (data tag : ByteArray) (w : World) : Calls Tryz.prog 20 #[.agg (⟨4, nonce, epoch, cookie, name, session, player, salt, seq, thr, trn, fire, boost, data, tag⟩ : Dg).cells.toArray] w fun e w' => e = .returned (.agg (onlyD (⟨4, nonce, epoch, cookie, name, session, player, salt, seq, thr, trn, fire, boost, data, tag⟩ : Dg)).cells.toArray) ∧ Below w.heap.size w w' := by
  have MARK : True := trivial
  go_enter Tryz.func20, Tryz.ntmps20
  go_wp2_with (first
    | ((with_reducible first | refine at_box_ ?_ | refine at_box2_ ?_); refine wpList_box_v rfl 27 _ rfl (⟨4, nonce, epoch, cookie, name, session, player, salt, seq, thr, trn, fire, boost, data, tag⟩ : Dg).cells rfl (by kernel_rfl) ?_; intro D w1 eD hD1 hb1 hz1; have n1_ := Aside0.mk (hD1.out); have n2_ := Aside0.mk (hb1.out); have n3_ := Aside0.mk (eD.out); clear hD1 hb1 eD)
    | ((with_reducible first | refine at_alloc_ ?_ | refine at_alloc2_ ?_); clear MARK; have MARK2 : True := trivial; refine wpList_alloc_v rfl 27 rfl Dg.zero.cells (by kernel_rfl) ?_; intro G w2 eG hG2 hb2 hz2; have m1_ := Aside0.mk (hG2.out); have m2_ := Aside0.mk (n2_.out.trans (hb2.out.mono n2_.out.size)); have m3_ := Aside0.mk (eG.out); have m4_ := Aside0.mk ((hb2.out.block D (blk_lt n1_.out)).trans n1_.out); clear hG2 hb2 eG)
    | ((with_reducible first | refine at_alloc_ ?_ | refine at_alloc2_ ?_); clear MARK2; refine wpList_alloc_v rfl 27 rfl Dg.zero.cells (by kernel_rfl) ?_; intro O w3 eO hO3 hb3 hz3; have HT := Aside0.mk (show Tri w w3 D G O (⟨4, nonce, epoch, cookie, name, session, player, salt, seq, thr, trn, fire, boost, data, tag⟩ : Dg) Dg.zero.cells from ⟨(hb3.out.block D (blk_lt m4_.out)).trans m4_.out, (hb3.out.block G (blk_lt m1_.out)).trans m1_.out, hO3.out, by have := eO.out; have := blk_lt m4_.out; have := blk_lt m1_.out; have := m2_.out.size; have := n2_.out.size; have := m3_.out; exact ⟨by omega, by omega, by omega, by omega⟩, m2_.out.trans (hb3.out.mono m2_.out.size)⟩); clear hO3 hb3 eO m1_ m2_ m3_ m4_ n1_ n2_ n3_; have cK := cell_of (i := 0) (v := .int .i64 4) HT.out.hD rfl)
    | ((with_reducible first | refine at_store_ ?_ | refine at_store2_ ?_); refine wpList_store_agg rfl 27 _ _ rfl O 0 rfl (dk 4).cells _ (by rfl) _ HT.out.hO (by exact Nat.le_refl 15) (fun v hv => one_cells hv) (by kernel_rfl) ?_; intro w4 hO4 hm4 hz4; rw [splice_all Dg.zero.cells (dk 4).cells rfl] at hO4; have n_ := Aside0.mk (HT.out.put hO4.out hm4.out); clear HT hO4 hm4 hz4; have HT := n_; clear n_; (try clear cK); have cK := cell_of (i := 0) (v := .int .i64 4) HT.out.hD rfl)
    | ((with_reducible first | refine at_load_ ?_ | refine at_load2_ ?_); refine wpList_load_one rfl 3 _ rfl D 0 rfl (⟨4, nonce, epoch, cookie, name, session, player, salt, seq, thr, trn, fire, boost, data, tag⟩ : Dg).cells _ _ m4_.out _ rfl _ Tryz.underlying3 rfl ?_)
    | ((with_reducible first | refine at_load_ ?_ | refine at_load2_ ?_); refine wpList_load_one rfl 3 _ rfl D 0 rfl (⟨4, nonce, epoch, cookie, name, session, player, salt, seq, thr, trn, fire, boost, data, tag⟩ : Dg).cells _ _ HT.out.hD _ rfl _ Tryz.underlying3 rfl ?_)
    | ((with_reducible first | refine at_load_ ?_ | refine at_load2_ ?_); refine wpList_load_one rfl 9 _ rfl D 1 rfl (⟨4, nonce, epoch, cookie, name, session, player, salt, seq, thr, trn, fire, boost, data, tag⟩ : Dg).cells _ _ HT.out.hD _ rfl _ Tryz.underlying9 rfl ?_)
    | ((with_reducible first | refine at_store_ ?_ | refine at_store2_ ?_); refine wpList_store_cell rfl 9 _ _ rfl O 1 rfl _ rfl _ _ HT.out.hO (by exact (by decide : 1 < 15)) rfl (by kernel_rfl) ?_; intro w4 hO4 hm4 hz4; have n_ := Aside0.mk (HT.out.put hO4.out hm4.out); clear HT hO4 hm4 hz4; have HT := n_; clear n_; (try clear cK); have cK := cell_of (i := 0) (v := .int .i64 4) HT.out.hD rfl)
    | ((with_reducible first | refine at_load_ ?_ | refine at_load2_ ?_); refine wpList_load_one rfl 9 _ rfl D 14 rfl (⟨4, nonce, epoch, cookie, name, session, player, salt, seq, thr, trn, fire, boost, data, tag⟩ : Dg).cells _ _ HT.out.hD _ rfl _ Tryz.underlying9 rfl ?_)
    | ((with_reducible first | refine at_store_ ?_ | refine at_store2_ ?_); refine wpList_store_cell rfl 9 _ _ rfl O 14 rfl _ rfl _ _ HT.out.hO (by exact (by decide : 14 < 15)) rfl (by kernel_rfl) ?_; intro w4 hO4 hm4 hz4; have n_ := Aside0.mk (HT.out.put hO4.out hm4.out); clear HT hO4 hm4 hz4; have HT := n_; clear n_; (try clear cK); have cK := cell_of (i := 0) (v := .int .i64 4) HT.out.hD rfl)
    | ((with_reducible first | refine at_load_ ?_ | refine at_load2_ ?_); refine wpList_load_one rfl 23 _ rfl D 5 rfl (⟨4, nonce, epoch, cookie, name, session, player, salt, seq, thr, trn, fire, boost, data, tag⟩ : Dg).cells _ _ HT.out.hD _ rfl _ Tryz.underlying23 rfl ?_)
    | ((with_reducible first | refine at_store_ ?_ | refine at_store2_ ?_); refine wpList_store_cell rfl 23 _ _ rfl O 5 rfl _ rfl _ _ HT.out.hO (by exact (by decide : 5 < 15)) rfl (by kernel_rfl) ?_; intro w4 hO4 hm4 hz4; have n_ := Aside0.mk (HT.out.put hO4.out hm4.out); clear HT hO4 hm4 hz4; have HT := n_; clear n_; (try clear cK); have cK := cell_of (i := 0) (v := .int .i64 4) HT.out.hD rfl)
    | ((with_reducible first | refine at_load_ ?_ | refine at_load2_ ?_); refine wpList_load_one rfl 3 _ rfl D 6 rfl (⟨4, nonce, epoch, cookie, name, session, player, salt, seq, thr, trn, fire, boost, data, tag⟩ : Dg).cells _ _ HT.out.hD _ rfl _ Tryz.underlying3 rfl ?_)
    | ((with_reducible first | refine at_store_ ?_ | refine at_store2_ ?_); refine wpList_store_cell rfl 3 _ _ rfl O 6 rfl _ rfl _ _ HT.out.hO (by exact (by decide : 6 < 15)) rfl (by kernel_rfl) ?_; intro w4 hO4 hm4 hz4; have n_ := Aside0.mk (HT.out.put hO4.out hm4.out); clear HT hO4 hm4 hz4; have HT := n_; clear n_; (try clear cK); have cK := cell_of (i := 0) (v := .int .i64 4) HT.out.hD rfl)
    | ((with_reducible first | refine at_load_ ?_ | refine at_load2_ ?_); refine wpList_load_one rfl 9 _ rfl D 7 rfl (⟨4, nonce, epoch, cookie, name, session, player, salt, seq, thr, trn, fire, boost, data, tag⟩ : Dg).cells _ _ HT.out.hD _ rfl _ Tryz.underlying9 rfl ?_)
    | ((with_reducible first | refine at_store_ ?_ | refine at_store2_ ?_); refine wpList_store_cell rfl 9 _ _ rfl O 7 rfl _ rfl _ _ HT.out.hO (by exact (by decide : 7 < 15)) rfl (by kernel_rfl) ?_; intro w4 hO4 hm4 hz4; have n_ := Aside0.mk (HT.out.put hO4.out hm4.out); clear HT hO4 hm4 hz4; have HT := n_; clear n_; (try clear cK); have cK := cell_of (i := 0) (v := .int .i64 4) HT.out.hD rfl)
    | ((with_reducible first | refine at_load_ ?_ | refine at_load2_ ?_); refine wpList_load_agg rfl 27 _ rfl O 0 rfl (onlyD (⟨4, nonce, epoch, cookie, name, session, player, salt, seq, thr, trn, fire, boost, data, tag⟩ : Dg)).cells (load_all HT.out.hO) _ Tryz.underlying27 rfl (by kernel_rfl) ?_)
    | ((with_reducible first | refine at_store_ ?_ | refine at_store2_ ?_); refine wpList_store_agg rfl 27 _ _ rfl G 0 rfl (onlyD (⟨4, nonce, epoch, cookie, name, session, player, salt, seq, thr, trn, fire, boost, data, tag⟩ : Dg)).cells Dg.zero.cells rfl _ HT.out.hG (by exact Nat.le_refl 15) (fun v hv => one_cells hv) (by kernel_rfl) ?_; intro w9 hG9 hm9 hz9; have HG9 := Aside0.mk (show w9.heap[G]? = some (.cells (onlyD (⟨4, nonce, epoch, cookie, name, session, player, salt, seq, thr, trn, fire, boost, data, tag⟩ : Dg)).cells.toArray 27 (0, 0)) from hG9.out); have HM9 := Aside0.mk (show Below w.heap.size w w9 from toBelow' HT.out.hB hm9.out HT.out.ne.2.2.2)))
  refine bodyPost_ret (results_only _ _ G (onlyD (⟨4, nonce, epoch, cookie, name, session, player, salt, seq, thr, trn, fire, boost, data, tag⟩ : Dg)) rfl HG9.out) rfl ⟨rfl, HM9.out⟩
set_option maxHeartbeats 8000000 in
set_option maxRecDepth 100000 in
theorem only_5 (nonce : ByteArray) (epoch : Nat) (cookie name : ByteArray) (session : Nat) (player : Int) (salt : ByteArray) (seq : Nat) (thr trn : Int) (fire boost : Bool) (data tag : ByteArray) (w : World) : Calls Tryz.prog 20 #[.agg (⟨5, nonce, epoch, cookie, name, session, player, salt, seq, thr, trn, fire, boost, data, tag⟩ : Dg).cells.toArray] w fun e w' => e = .returned (.agg (onlyD (⟨5, nonce, epoch, cookie, name, session, player, salt, seq, thr, trn, fire, boost, data, tag⟩ : Dg)).cells.toArray) ∧ Below w.heap.size w w' := by
  have MARK : True := trivial
  go_enter Tryz.func20, Tryz.ntmps20
  go_wp2_with (first
    | ((with_reducible first | refine at_box_ ?_ | refine at_box2_ ?_); refine wpList_box_v rfl 27 _ rfl (⟨5, nonce, epoch, cookie, name, session, player, salt, seq, thr, trn, fire, boost, data, tag⟩ : Dg).cells rfl (by kernel_rfl) ?_; intro D w1 eD hD1 hb1 hz1; have n1_ := Aside0.mk (hD1.out); have n2_ := Aside0.mk (hb1.out); have n3_ := Aside0.mk (eD.out); clear hD1 hb1 eD)
    | ((with_reducible first | refine at_alloc_ ?_ | refine at_alloc2_ ?_); clear MARK; have MARK2 : True := trivial; refine wpList_alloc_v rfl 27 rfl Dg.zero.cells (by kernel_rfl) ?_; intro G w2 eG hG2 hb2 hz2; have m1_ := Aside0.mk (hG2.out); have m2_ := Aside0.mk (n2_.out.trans (hb2.out.mono n2_.out.size)); have m3_ := Aside0.mk (eG.out); have m4_ := Aside0.mk ((hb2.out.block D (blk_lt n1_.out)).trans n1_.out); clear hG2 hb2 eG)
    | ((with_reducible first | refine at_alloc_ ?_ | refine at_alloc2_ ?_); clear MARK2; refine wpList_alloc_v rfl 27 rfl Dg.zero.cells (by kernel_rfl) ?_; intro O w3 eO hO3 hb3 hz3; have HT := Aside0.mk (show Tri w w3 D G O (⟨5, nonce, epoch, cookie, name, session, player, salt, seq, thr, trn, fire, boost, data, tag⟩ : Dg) Dg.zero.cells from ⟨(hb3.out.block D (blk_lt m4_.out)).trans m4_.out, (hb3.out.block G (blk_lt m1_.out)).trans m1_.out, hO3.out, by have := eO.out; have := blk_lt m4_.out; have := blk_lt m1_.out; have := m2_.out.size; have := n2_.out.size; have := m3_.out; exact ⟨by omega, by omega, by omega, by omega⟩, m2_.out.trans (hb3.out.mono m2_.out.size)⟩); clear hO3 hb3 eO m1_ m2_ m3_ m4_ n1_ n2_ n3_; have cK := cell_of (i := 0) (v := .int .i64 5) HT.out.hD rfl)
    | ((with_reducible first | refine at_store_ ?_ | refine at_store2_ ?_); refine wpList_store_agg rfl 27 _ _ rfl O 0 rfl (dk 5).cells _ (by rfl) _ HT.out.hO (by exact Nat.le_refl 15) (fun v hv => one_cells hv) (by kernel_rfl) ?_; intro w4 hO4 hm4 hz4; rw [splice_all Dg.zero.cells (dk 5).cells rfl] at hO4; have n_ := Aside0.mk (HT.out.put hO4.out hm4.out); clear HT hO4 hm4 hz4; have HT := n_; clear n_; (try clear cK); have cK := cell_of (i := 0) (v := .int .i64 5) HT.out.hD rfl)
    | ((with_reducible first | refine at_load_ ?_ | refine at_load2_ ?_); refine wpList_load_one rfl 3 _ rfl D 0 rfl (⟨5, nonce, epoch, cookie, name, session, player, salt, seq, thr, trn, fire, boost, data, tag⟩ : Dg).cells _ _ m4_.out _ rfl _ Tryz.underlying3 rfl ?_)
    | ((with_reducible first | refine at_load_ ?_ | refine at_load2_ ?_); refine wpList_load_one rfl 3 _ rfl D 0 rfl (⟨5, nonce, epoch, cookie, name, session, player, salt, seq, thr, trn, fire, boost, data, tag⟩ : Dg).cells _ _ HT.out.hD _ rfl _ Tryz.underlying3 rfl ?_)
    | ((with_reducible first | refine at_load_ ?_ | refine at_load2_ ?_); refine wpList_load_one rfl 9 _ rfl D 14 rfl (⟨5, nonce, epoch, cookie, name, session, player, salt, seq, thr, trn, fire, boost, data, tag⟩ : Dg).cells _ _ HT.out.hD _ rfl _ Tryz.underlying9 rfl ?_)
    | ((with_reducible first | refine at_store_ ?_ | refine at_store2_ ?_); refine wpList_store_cell rfl 9 _ _ rfl O 14 rfl _ rfl _ _ HT.out.hO (by exact (by decide : 14 < 15)) rfl (by kernel_rfl) ?_; intro w4 hO4 hm4 hz4; have n_ := Aside0.mk (HT.out.put hO4.out hm4.out); clear HT hO4 hm4 hz4; have HT := n_; clear n_; (try clear cK); have cK := cell_of (i := 0) (v := .int .i64 5) HT.out.hD rfl)
    | ((with_reducible first | refine at_load_ ?_ | refine at_load2_ ?_); refine wpList_load_one rfl 23 _ rfl D 5 rfl (⟨5, nonce, epoch, cookie, name, session, player, salt, seq, thr, trn, fire, boost, data, tag⟩ : Dg).cells _ _ HT.out.hD _ rfl _ Tryz.underlying23 rfl ?_)
    | ((with_reducible first | refine at_store_ ?_ | refine at_store2_ ?_); refine wpList_store_cell rfl 23 _ _ rfl O 5 rfl _ rfl _ _ HT.out.hO (by exact (by decide : 5 < 15)) rfl (by kernel_rfl) ?_; intro w4 hO4 hm4 hz4; have n_ := Aside0.mk (HT.out.put hO4.out hm4.out); clear HT hO4 hm4 hz4; have HT := n_; clear n_; (try clear cK); have cK := cell_of (i := 0) (v := .int .i64 5) HT.out.hD rfl)
    | ((with_reducible first | refine at_load_ ?_ | refine at_load2_ ?_); refine wpList_load_one rfl 23 _ rfl D 8 rfl (⟨5, nonce, epoch, cookie, name, session, player, salt, seq, thr, trn, fire, boost, data, tag⟩ : Dg).cells _ _ HT.out.hD _ rfl _ Tryz.underlying23 rfl ?_)
    | ((with_reducible first | refine at_store_ ?_ | refine at_store2_ ?_); refine wpList_store_cell rfl 23 _ _ rfl O 8 rfl _ rfl _ _ HT.out.hO (by exact (by decide : 8 < 15)) rfl (by kernel_rfl) ?_; intro w4 hO4 hm4 hz4; have n_ := Aside0.mk (HT.out.put hO4.out hm4.out); clear HT hO4 hm4 hz4; have HT := n_; clear n_; (try clear cK); have cK := cell_of (i := 0) (v := .int .i64 5) HT.out.hD rfl)
    | ((with_reducible first | refine at_load_ ?_ | refine at_load2_ ?_); refine wpList_load_agg rfl 25 _ rfl D 9 rfl [.int .i64 thr, .int .i64 trn, .bool fire, .bool boost] (fun j v hv => by match j, hv with | 0, hv => cases hv; exact cell_of HT.out.hD rfl | 1, hv => cases hv; exact cell_of HT.out.hD rfl | 2, hv => cases hv; exact cell_of HT.out.hD rfl | 3, hv => cases hv; exact cell_of HT.out.hD rfl) _ Tryz.underlying25 rfl (by kernel_rfl) ?_)
    | ((with_reducible first | refine at_store_ ?_ | refine at_store2_ ?_); refine wpList_store_agg rfl 25 _ _ rfl O 9 rfl [.int .i64 thr, .int .i64 trn, .bool fire, .bool boost] _ rfl _ HT.out.hO (by exact (by decide : 9 + 4 ≤ 15)) (fun v hv => by simp only [List.mem_cons, List.not_mem_nil, or_false] at hv; rcases hv with rfl | rfl | rfl | rfl <;> rfl) (by kernel_rfl) ?_; intro w4 hO4 hm4 hz4; have n_ := Aside0.mk (HT.out.put hO4.out hm4.out); clear HT hO4 hm4 hz4; have HT := n_; clear n_; (try clear cK); have cK := cell_of (i := 0) (v := .int .i64 5) HT.out.hD rfl)
    | ((with_reducible first | refine at_load_ ?_ | refine at_load2_ ?_); refine wpList_load_agg rfl 27 _ rfl O 0 rfl (onlyD (⟨5, nonce, epoch, cookie, name, session, player, salt, seq, thr, trn, fire, boost, data, tag⟩ : Dg)).cells (load_all HT.out.hO) _ Tryz.underlying27 rfl (by kernel_rfl) ?_)
    | ((with_reducible first | refine at_store_ ?_ | refine at_store2_ ?_); refine wpList_store_agg rfl 27 _ _ rfl G 0 rfl (onlyD (⟨5, nonce, epoch, cookie, name, session, player, salt, seq, thr, trn, fire, boost, data, tag⟩ : Dg)).cells Dg.zero.cells rfl _ HT.out.hG (by exact Nat.le_refl 15) (fun v hv => one_cells hv) (by kernel_rfl) ?_; intro w9 hG9 hm9 hz9; have HG9 := Aside0.mk (show w9.heap[G]? = some (.cells (onlyD (⟨5, nonce, epoch, cookie, name, session, player, salt, seq, thr, trn, fire, boost, data, tag⟩ : Dg)).cells.toArray 27 (0, 0)) from hG9.out); have HM9 := Aside0.mk (show Below w.heap.size w w9 from toBelow' HT.out.hB hm9.out HT.out.ne.2.2.2)))
  refine bodyPost_ret (results_only _ _ G (onlyD (⟨5, nonce, epoch, cookie, name, session, player, salt, seq, thr, trn, fire, boost, data, tag⟩ : Dg)) rfl HG9.out) rfl ⟨rfl, HM9.out⟩
set_option maxHeartbeats 8000000 in
set_option maxRecDepth 100000 in
theorem only_6 (nonce : ByteArray) (epoch : Nat) (cookie name : ByteArray) (session : Nat) (player : Int) (salt : ByteArray) (seq : Nat) (thr trn : Int) (fire boost : Bool) (data tag : ByteArray) (w : World) : Calls Tryz.prog 20 #[.agg (⟨6, nonce, epoch, cookie, name, session, player, salt, seq, thr, trn, fire, boost, data, tag⟩ : Dg).cells.toArray] w fun e w' => e = .returned (.agg (onlyD (⟨6, nonce, epoch, cookie, name, session, player, salt, seq, thr, trn, fire, boost, data, tag⟩ : Dg)).cells.toArray) ∧ Below w.heap.size w w' := by
  have MARK : True := trivial
  go_enter Tryz.func20, Tryz.ntmps20
  go_wp2_with (first
    | ((with_reducible first | refine at_box_ ?_ | refine at_box2_ ?_); refine wpList_box_v rfl 27 _ rfl (⟨6, nonce, epoch, cookie, name, session, player, salt, seq, thr, trn, fire, boost, data, tag⟩ : Dg).cells rfl (by kernel_rfl) ?_; intro D w1 eD hD1 hb1 hz1; have n1_ := Aside0.mk (hD1.out); have n2_ := Aside0.mk (hb1.out); have n3_ := Aside0.mk (eD.out); clear hD1 hb1 eD)
    | ((with_reducible first | refine at_alloc_ ?_ | refine at_alloc2_ ?_); clear MARK; have MARK2 : True := trivial; refine wpList_alloc_v rfl 27 rfl Dg.zero.cells (by kernel_rfl) ?_; intro G w2 eG hG2 hb2 hz2; have m1_ := Aside0.mk (hG2.out); have m2_ := Aside0.mk (n2_.out.trans (hb2.out.mono n2_.out.size)); have m3_ := Aside0.mk (eG.out); have m4_ := Aside0.mk ((hb2.out.block D (blk_lt n1_.out)).trans n1_.out); clear hG2 hb2 eG)
    | ((with_reducible first | refine at_alloc_ ?_ | refine at_alloc2_ ?_); clear MARK2; refine wpList_alloc_v rfl 27 rfl Dg.zero.cells (by kernel_rfl) ?_; intro O w3 eO hO3 hb3 hz3; have HT := Aside0.mk (show Tri w w3 D G O (⟨6, nonce, epoch, cookie, name, session, player, salt, seq, thr, trn, fire, boost, data, tag⟩ : Dg) Dg.zero.cells from ⟨(hb3.out.block D (blk_lt m4_.out)).trans m4_.out, (hb3.out.block G (blk_lt m1_.out)).trans m1_.out, hO3.out, by have := eO.out; have := blk_lt m4_.out; have := blk_lt m1_.out; have := m2_.out.size; have := n2_.out.size; have := m3_.out; exact ⟨by omega, by omega, by omega, by omega⟩, m2_.out.trans (hb3.out.mono m2_.out.size)⟩); clear hO3 hb3 eO m1_ m2_ m3_ m4_ n1_ n2_ n3_; have cK := cell_of (i := 0) (v := .int .i64 6) HT.out.hD rfl)
    | ((with_reducible first | refine at_store_ ?_ | refine at_store2_ ?_); refine wpList_store_agg rfl 27 _ _ rfl O 0 rfl (dk 6).cells _ (by rfl) _ HT.out.hO (by exact Nat.le_refl 15) (fun v hv => one_cells hv) (by kernel_rfl) ?_; intro w4 hO4 hm4 hz4; rw [splice_all Dg.zero.cells (dk 6).cells rfl] at hO4; have n_ := Aside0.mk (HT.out.put hO4.out hm4.out); clear HT hO4 hm4 hz4; have HT := n_; clear n_; (try clear cK); have cK := cell_of (i := 0) (v := .int .i64 6) HT.out.hD rfl)
    | ((with_reducible first | refine at_load_ ?_ | refine at_load2_ ?_); refine wpList_load_one rfl 3 _ rfl D 0 rfl (⟨6, nonce, epoch, cookie, name, session, player, salt, seq, thr, trn, fire, boost, data, tag⟩ : Dg).cells _ _ m4_.out _ rfl _ Tryz.underlying3 rfl ?_)
    | ((with_reducible first | refine at_load_ ?_ | refine at_load2_ ?_); refine wpList_load_one rfl 3 _ rfl D 0 rfl (⟨6, nonce, epoch, cookie, name, session, player, salt, seq, thr, trn, fire, boost, data, tag⟩ : Dg).cells _ _ HT.out.hD _ rfl _ Tryz.underlying3 rfl ?_)
    | ((with_reducible first | refine at_load_ ?_ | refine at_load2_ ?_); refine wpList_load_one rfl 9 _ rfl D 14 rfl (⟨6, nonce, epoch, cookie, name, session, player, salt, seq, thr, trn, fire, boost, data, tag⟩ : Dg).cells _ _ HT.out.hD _ rfl _ Tryz.underlying9 rfl ?_)
    | ((with_reducible first | refine at_store_ ?_ | refine at_store2_ ?_); refine wpList_store_cell rfl 9 _ _ rfl O 14 rfl _ rfl _ _ HT.out.hO (by exact (by decide : 14 < 15)) rfl (by kernel_rfl) ?_; intro w4 hO4 hm4 hz4; have n_ := Aside0.mk (HT.out.put hO4.out hm4.out); clear HT hO4 hm4 hz4; have HT := n_; clear n_; (try clear cK); have cK := cell_of (i := 0) (v := .int .i64 6) HT.out.hD rfl)
    | ((with_reducible first | refine at_load_ ?_ | refine at_load2_ ?_); refine wpList_load_one rfl 23 _ rfl D 5 rfl (⟨6, nonce, epoch, cookie, name, session, player, salt, seq, thr, trn, fire, boost, data, tag⟩ : Dg).cells _ _ HT.out.hD _ rfl _ Tryz.underlying23 rfl ?_)
    | ((with_reducible first | refine at_store_ ?_ | refine at_store2_ ?_); refine wpList_store_cell rfl 23 _ _ rfl O 5 rfl _ rfl _ _ HT.out.hO (by exact (by decide : 5 < 15)) rfl (by kernel_rfl) ?_; intro w4 hO4 hm4 hz4; have n_ := Aside0.mk (HT.out.put hO4.out hm4.out); clear HT hO4 hm4 hz4; have HT := n_; clear n_; (try clear cK); have cK := cell_of (i := 0) (v := .int .i64 6) HT.out.hD rfl)
    | ((with_reducible first | refine at_load_ ?_ | refine at_load2_ ?_); refine wpList_load_one rfl 23 _ rfl D 8 rfl (⟨6, nonce, epoch, cookie, name, session, player, salt, seq, thr, trn, fire, boost, data, tag⟩ : Dg).cells _ _ HT.out.hD _ rfl _ Tryz.underlying23 rfl ?_)
    | ((with_reducible first | refine at_store_ ?_ | refine at_store2_ ?_); refine wpList_store_cell rfl 23 _ _ rfl O 8 rfl _ rfl _ _ HT.out.hO (by exact (by decide : 8 < 15)) rfl (by kernel_rfl) ?_; intro w4 hO4 hm4 hz4; have n_ := Aside0.mk (HT.out.put hO4.out hm4.out); clear HT hO4 hm4 hz4; have HT := n_; clear n_; (try clear cK); have cK := cell_of (i := 0) (v := .int .i64 6) HT.out.hD rfl)
    | ((with_reducible first | refine at_load_ ?_ | refine at_load2_ ?_); refine wpList_load_one rfl 9 _ rfl D 13 rfl (⟨6, nonce, epoch, cookie, name, session, player, salt, seq, thr, trn, fire, boost, data, tag⟩ : Dg).cells _ _ HT.out.hD _ rfl _ Tryz.underlying9 rfl ?_)
    | ((with_reducible first | refine at_store_ ?_ | refine at_store2_ ?_); refine wpList_store_cell rfl 9 _ _ rfl O 13 rfl _ rfl _ _ HT.out.hO (by exact (by decide : 13 < 15)) rfl (by kernel_rfl) ?_; intro w4 hO4 hm4 hz4; have n_ := Aside0.mk (HT.out.put hO4.out hm4.out); clear HT hO4 hm4 hz4; have HT := n_; clear n_; (try clear cK); have cK := cell_of (i := 0) (v := .int .i64 6) HT.out.hD rfl)
    | ((with_reducible first | refine at_load_ ?_ | refine at_load2_ ?_); refine wpList_load_agg rfl 27 _ rfl O 0 rfl (onlyD (⟨6, nonce, epoch, cookie, name, session, player, salt, seq, thr, trn, fire, boost, data, tag⟩ : Dg)).cells (load_all HT.out.hO) _ Tryz.underlying27 rfl (by kernel_rfl) ?_)
    | ((with_reducible first | refine at_store_ ?_ | refine at_store2_ ?_); refine wpList_store_agg rfl 27 _ _ rfl G 0 rfl (onlyD (⟨6, nonce, epoch, cookie, name, session, player, salt, seq, thr, trn, fire, boost, data, tag⟩ : Dg)).cells Dg.zero.cells rfl _ HT.out.hG (by exact Nat.le_refl 15) (fun v hv => one_cells hv) (by kernel_rfl) ?_; intro w9 hG9 hm9 hz9; have HG9 := Aside0.mk (show w9.heap[G]? = some (.cells (onlyD (⟨6, nonce, epoch, cookie, name, session, player, salt, seq, thr, trn, fire, boost, data, tag⟩ : Dg)).cells.toArray 27 (0, 0)) from hG9.out); have HM9 := Aside0.mk (show Below w.heap.size w w9 from toBelow' HT.out.hB hm9.out HT.out.ne.2.2.2)))
  refine bodyPost_ret (results_only _ _ G (onlyD (⟨6, nonce, epoch, cookie, name, session, player, salt, seq, thr, trn, fire, boost, data, tag⟩ : Dg)) rfl HG9.out) rfl ⟨rfl, HM9.out⟩
set_option maxHeartbeats 8000000 in
set_option maxRecDepth 100000 in
theorem only_7 (nonce : ByteArray) (epoch : Nat) (cookie name : ByteArray) (session : Nat) (player : Int) (salt : ByteArray) (seq : Nat) (thr trn : Int) (fire boost : Bool) (data tag : ByteArray) (w : World) : Calls Tryz.prog 20 #[.agg (⟨7, nonce, epoch, cookie, name, session, player, salt, seq, thr, trn, fire, boost, data, tag⟩ : Dg).cells.toArray] w fun e w' => e = .returned (.agg (onlyD (⟨7, nonce, epoch, cookie, name, session, player, salt, seq, thr, trn, fire, boost, data, tag⟩ : Dg)).cells.toArray) ∧ Below w.heap.size w w' := by
  have MARK : True := trivial
  go_enter Tryz.func20, Tryz.ntmps20
  go_wp2_with (first
    | ((with_reducible first | refine at_box_ ?_ | refine at_box2_ ?_); refine wpList_box_v rfl 27 _ rfl (⟨7, nonce, epoch, cookie, name, session, player, salt, seq, thr, trn, fire, boost, data, tag⟩ : Dg).cells rfl (by kernel_rfl) ?_; intro D w1 eD hD1 hb1 hz1; have n1_ := Aside0.mk (hD1.out); have n2_ := Aside0.mk (hb1.out); have n3_ := Aside0.mk (eD.out); clear hD1 hb1 eD)
    | ((with_reducible first | refine at_alloc_ ?_ | refine at_alloc2_ ?_); clear MARK; have MARK2 : True := trivial; refine wpList_alloc_v rfl 27 rfl Dg.zero.cells (by kernel_rfl) ?_; intro G w2 eG hG2 hb2 hz2; have m1_ := Aside0.mk (hG2.out); have m2_ := Aside0.mk (n2_.out.trans (hb2.out.mono n2_.out.size)); have m3_ := Aside0.mk (eG.out); have m4_ := Aside0.mk ((hb2.out.block D (blk_lt n1_.out)).trans n1_.out); clear hG2 hb2 eG)
    | ((with_reducible first | refine at_alloc_ ?_ | refine at_alloc2_ ?_); clear MARK2; refine wpList_alloc_v rfl 27 rfl Dg.zero.cells (by kernel_rfl) ?_; intro O w3 eO hO3 hb3 hz3; have HT := Aside0.mk (show Tri w w3 D G O (⟨7, nonce, epoch, cookie, name, session, player, salt, seq, thr, trn, fire, boost, data, tag⟩ : Dg) Dg.zero.cells from ⟨(hb3.out.block D (blk_lt m4_.out)).trans m4_.out, (hb3.out.block G (blk_lt m1_.out)).trans m1_.out, hO3.out, by have := eO.out; have := blk_lt m4_.out; have := blk_lt m1_.out; have := m2_.out.size; have := n2_.out.size; have := m3_.out; exact ⟨by omega, by omega, by omega, by omega⟩, m2_.out.trans (hb3.out.mono m2_.out.size)⟩); clear hO3 hb3 eO m1_ m2_ m3_ m4_ n1_ n2_ n3_; have cK := cell_of (i := 0) (v := .int .i64 7) HT.out.hD rfl)
    | ((with_reducible first | refine at_store_ ?_ | refine at_store2_ ?_); refine wpList_store_agg rfl 27 _ _ rfl O 0 rfl (dk 7).cells _ (by rfl) _ HT.out.hO (by exact Nat.le_refl 15) (fun v hv => one_cells hv) (by kernel_rfl) ?_; intro w4 hO4 hm4 hz4; rw [splice_all Dg.zero.cells (dk 7).cells rfl] at hO4; have n_ := Aside0.mk (HT.out.put hO4.out hm4.out); clear HT hO4 hm4 hz4; have HT := n_; clear n_; (try clear cK); have cK := cell_of (i := 0) (v := .int .i64 7) HT.out.hD rfl)
    | ((with_reducible first | refine at_load_ ?_ | refine at_load2_ ?_); refine wpList_load_one rfl 3 _ rfl D 0 rfl (⟨7, nonce, epoch, cookie, name, session, player, salt, seq, thr, trn, fire, boost, data, tag⟩ : Dg).cells _ _ m4_.out _ rfl _ Tryz.underlying3 rfl ?_)
    | ((with_reducible first | refine at_load_ ?_ | refine at_load2_ ?_); refine wpList_load_one rfl 3 _ rfl D 0 rfl (⟨7, nonce, epoch, cookie, name, session, player, salt, seq, thr, trn, fire, boost, data, tag⟩ : Dg).cells _ _ HT.out.hD _ rfl _ Tryz.underlying3 rfl ?_)
    | ((with_reducible first | refine at_load_ ?_ | refine at_load2_ ?_); refine wpList_load_one rfl 9 _ rfl D 14 rfl (⟨7, nonce, epoch, cookie, name, session, player, salt, seq, thr, trn, fire, boost, data, tag⟩ : Dg).cells _ _ HT.out.hD _ rfl _ Tryz.underlying9 rfl ?_)
    | ((with_reducible first | refine at_store_ ?_ | refine at_store2_ ?_); refine wpList_store_cell rfl 9 _ _ rfl O 14 rfl _ rfl _ _ HT.out.hO (by exact (by decide : 14 < 15)) rfl (by kernel_rfl) ?_; intro w4 hO4 hm4 hz4; have n_ := Aside0.mk (HT.out.put hO4.out hm4.out); clear HT hO4 hm4 hz4; have HT := n_; clear n_; (try clear cK); have cK := cell_of (i := 0) (v := .int .i64 7) HT.out.hD rfl)
    | ((with_reducible first | refine at_load_ ?_ | refine at_load2_ ?_); refine wpList_load_one rfl 23 _ rfl D 5 rfl (⟨7, nonce, epoch, cookie, name, session, player, salt, seq, thr, trn, fire, boost, data, tag⟩ : Dg).cells _ _ HT.out.hD _ rfl _ Tryz.underlying23 rfl ?_)
    | ((with_reducible first | refine at_store_ ?_ | refine at_store2_ ?_); refine wpList_store_cell rfl 23 _ _ rfl O 5 rfl _ rfl _ _ HT.out.hO (by exact (by decide : 5 < 15)) rfl (by kernel_rfl) ?_; intro w4 hO4 hm4 hz4; have n_ := Aside0.mk (HT.out.put hO4.out hm4.out); clear HT hO4 hm4 hz4; have HT := n_; clear n_; (try clear cK); have cK := cell_of (i := 0) (v := .int .i64 7) HT.out.hD rfl)
    | ((with_reducible first | refine at_load_ ?_ | refine at_load2_ ?_); refine wpList_load_one rfl 23 _ rfl D 8 rfl (⟨7, nonce, epoch, cookie, name, session, player, salt, seq, thr, trn, fire, boost, data, tag⟩ : Dg).cells _ _ HT.out.hD _ rfl _ Tryz.underlying23 rfl ?_)
    | ((with_reducible first | refine at_store_ ?_ | refine at_store2_ ?_); refine wpList_store_cell rfl 23 _ _ rfl O 8 rfl _ rfl _ _ HT.out.hO (by exact (by decide : 8 < 15)) rfl (by kernel_rfl) ?_; intro w4 hO4 hm4 hz4; have n_ := Aside0.mk (HT.out.put hO4.out hm4.out); clear HT hO4 hm4 hz4; have HT := n_; clear n_; (try clear cK); have cK := cell_of (i := 0) (v := .int .i64 7) HT.out.hD rfl)
    | ((with_reducible first | refine at_load_ ?_ | refine at_load2_ ?_); refine wpList_load_agg rfl 27 _ rfl O 0 rfl (onlyD (⟨7, nonce, epoch, cookie, name, session, player, salt, seq, thr, trn, fire, boost, data, tag⟩ : Dg)).cells (load_all HT.out.hO) _ Tryz.underlying27 rfl (by kernel_rfl) ?_)
    | ((with_reducible first | refine at_store_ ?_ | refine at_store2_ ?_); refine wpList_store_agg rfl 27 _ _ rfl G 0 rfl (onlyD (⟨7, nonce, epoch, cookie, name, session, player, salt, seq, thr, trn, fire, boost, data, tag⟩ : Dg)).cells Dg.zero.cells rfl _ HT.out.hG (by exact Nat.le_refl 15) (fun v hv => one_cells hv) (by kernel_rfl) ?_; intro w9 hG9 hm9 hz9; have HG9 := Aside0.mk (show w9.heap[G]? = some (.cells (onlyD (⟨7, nonce, epoch, cookie, name, session, player, salt, seq, thr, trn, fire, boost, data, tag⟩ : Dg)).cells.toArray 27 (0, 0)) from hG9.out); have HM9 := Aside0.mk (show Below w.heap.size w w9 from toBelow' HT.out.hB hm9.out HT.out.ne.2.2.2)))
  refine bodyPost_ret (results_only _ _ G (onlyD (⟨7, nonce, epoch, cookie, name, session, player, salt, seq, thr, trn, fire, boost, data, tag⟩ : Dg)) rfl HG9.out) rfl ⟨rfl, HM9.out⟩
theorem only_calls (d : Dg) (h : 1 ≤ d.kind ∧ d.kind ≤ 7) (w : World) : Calls Tryz.prog 20 #[.agg d.cells.toArray] w fun e w' => e = .returned (.agg (onlyD d).cells.toArray) ∧ Below w.heap.size w w' := by
  obtain ⟨kind, nonce, epoch, cookie, name, session, player, salt, seq, thr, trn, fire, boost, data, tag⟩ := d
  simp only at h
  have hk : kind = 1 ∨ kind = 2 ∨ kind = 3 ∨ kind = 4 ∨ kind = 5 ∨ kind = 6 ∨ kind = 7 := by omega
  rcases hk with rfl | rfl | rfl | rfl | rfl | rfl | rfl
  · exact only_1 nonce epoch cookie name session player salt seq thr trn fire boost data tag w
  · exact only_2 nonce epoch cookie name session player salt seq thr trn fire boost data tag w
  · exact only_3 nonce epoch cookie name session player salt seq thr trn fire boost data tag w
  · exact only_4 nonce epoch cookie name session player salt seq thr trn fire boost data tag w
  · exact only_5 nonce epoch cookie name session player salt seq thr trn fire boost data tag w
  · exact only_6 nonce epoch cookie name session player salt seq thr trn fire boost data tag w
  · exact only_7 nonce epoch cookie name session player salt seq thr trn fire boost data tag w
end Go.Proofs.YtniabkphbnimaaaGreatDoor.Sh
namespace Go.Proofs.YtniabkphbnimaaaGreatDoor.Sh
open Go Go.RowKit Go.Maps Go.Proofs.YtniabkphbnimaaaGreatDoorW.PrintWords Go.Proofs.YtniabkphbnimaaaGreatDoorW.PrintLast Go.Proofs.YtniabkphbnimaaaGreatDoor.Bs
theorem step_w {P : Program} {ops : Array Oper} {oi : Oper} {a : Act} {w : World} {Q : Exit → Act → World → Prop} {K : Act → World → Prop} {E : Prop} (hw : Region.wanted oi (yielded ops a.tmps) = true) (h : Oper.wp P oi a w K Q) : if Region.wanted oi (yielded ops a.tmps) = true then Oper.wp P oi a w K Q else E := by
  rw [if_pos hw]
  exact h
theorem ldagg_yields {P : Program} {o : Oper} {a : Act} {w : World} (ty : TypeId) (x : Operand) (ho : o.op = .load ty x) (g off : Nat) (hx : a.eval x = .pointer (some ⟨g, off, none⟩)) (cs : List Value) (hc : ∀ j v, cs[j]? = some v → w.cell? ⟨g, off + j, none⟩ = some v) (d : TypeDesc) (hu : P.underlying ty = some d) (hd : (match d with | .struct _ | .array _ _ => true | _ => false) = true) (hi : (P.info? ty).map (·.size) = some cs.length) :
    (execOp a.eval o).run P w = .ok (.value (.agg cs.toArray)) w := by
  have hl : (loadCells ⟨g, off, none⟩ cs.length).run P w = .ok cs.toArray w :=
    run_loadCells_list (P := P) w ⟨g, off, none⟩ cs (fun j v hv => by
      have hadd : (⟨g, off, none⟩ : Addr).add j = ⟨g, off + j, none⟩ := by unfold Addr.add; split <;> simp_all
      rw [hadd]
      exact hc j v hv)
  have hrun : (loadVar ty ⟨g, off, none⟩).run P w = .ok (.agg cs.toArray) w := by
    cases hq : P.info? ty with
    | none => simp [hq] at hi
    | some i =>
      have hs : i.size = cs.length := by simpa [hq] using hi
      have hagg : (isAgg ty).run P w = .ok true w := by
        unfold isAgg
        rw [Sem.run_bind, run_underlying hu w]
        cases d <;> simp_all
      simp [loadVar, Sem.run_bind, hagg, sizeOf, typeInfo, hq, hs, hl]
  unfold execOp
  simp only [ho, hx, Instr.loadAt, Instr.sureAddr, Sem.run_bind, Sem.run_pure, Result.andThen_ok, hrun]
theorem getF_good {f : Fld} {s s' : Dg × Bool × List UInt8} (hd : s.1.ok) (hl : s.2.2.length < 1099511627776) (h : getF f s = some s') : s'.1.ok ∧ s'.2.2.length < 1099511627776 := by
  obtain ⟨d, bad, l⟩ := s
  unfold Dg.ok at hd
  simp only at hd hl
  have tk : ∀ n, (str (l.take n)).size < 1099511627776 := fun n => by show (l.take n).length < _; rw [List.length_take]; omega
  have dp : ∀ n, (l.drop n).length < 1099511627776 := fun n => by rw [List.length_drop]; omega
  have nm : num (l.take 8) < 18446744073709551616 := num_le _ (by rw [List.length_take]; omega)
  cases f <;> simp only [getF] at h
  case nonce => split at h <;> cases h; exact ⟨⟨hd.1, hd.2.1, tk 16, hd.2.2.2⟩, dp 16⟩
  case zeros => split at h <;> cases h; exact ⟨hd, dp 76⟩
  case epoch => split at h <;> cases h; exact ⟨⟨⟨nm, hd.1.2⟩, hd.2⟩, dp 8⟩
  case cookie => split at h <;> cases h; exact ⟨⟨hd.1, hd.2.1, hd.2.2.1, tk 32, hd.2.2.2.2⟩, dp 32⟩
  case name =>
    cases l with
    | nil => cases h
    | cons b t =>
      simp only at h
      split at h
      · cases h
        simp only [List.length_cons] at hl
        refine ⟨⟨hd.1, hd.2.1, hd.2.2.1, hd.2.2.2.1, ?_, hd.2.2.2.2.2⟩, ?_⟩
        · show (t.take b.toNat).length < _
          rw [List.length_take]; omega
        · show (t.drop b.toNat).length < _
          rw [List.length_drop]; omega
      · cases h
  case tag => split at h <;> cases h; exact ⟨⟨hd.1, hd.2.1, hd.2.2.1, hd.2.2.2.1, hd.2.2.2.2.1, hd.2.2.2.2.2.1, hd.2.2.2.2.2.2.1, tk 32⟩, dp 32⟩
  case session => split at h <;> cases h; exact ⟨⟨⟨hd.1.1, nm, hd.1.2.2⟩, hd.2⟩, dp 8⟩
  case player =>
    cases l with
    | nil => cases h
    | cons b t =>
      cases h
      have := b.toNat_lt
      simp only [List.length_cons] at hl
      refine ⟨⟨hd.1, ⟨?_, ?_⟩, hd.2.2⟩, ?_⟩
      · show (-9223372036854775808 : Int) ≤ (b.toNat : Int)
        omega
      · show (b.toNat : Int) ≤ 9223372036854775807
        omega
      · show t.length < _
        omega
  case salt => split at h <;> cases h; exact ⟨⟨hd.1, hd.2.1, hd.2.2.1, hd.2.2.2.1, hd.2.2.2.2.1, tk 16, hd.2.2.2.2.2.2⟩, dp 16⟩
  case seq => split at h <;> cases h; exact ⟨⟨⟨hd.1.1, hd.1.2.1, nm⟩, hd.2⟩, dp 8⟩
  case command =>
    match l, h with
    | a :: b :: c :: t, h =>
      cases h
      simp only [List.length_cons] at hl
      exact ⟨hd, by show t.length < _; omega⟩
    | [], h => cases h
    | [_], h => cases h
    | [_, _], h => cases h
  case data => split at h <;> cases h; exact ⟨⟨hd.1, hd.2.1, hd.2.2.1, hd.2.2.2.1, hd.2.2.2.2.1, hd.2.2.2.2.2.1, tk _, hd.2.2.2.2.2.2.2⟩, dp _⟩
theorem getAll_good : ∀ (fs : List Fld) (s s' : Dg × Bool × List UInt8), s.1.ok → s.2.2.length < 1099511627776 → getAll fs s = some s' → s'.1.ok
  | [], s, s', hd, _, h => by cases h; exact hd
  | f :: fs, s, s', hd, hl, h => by
    cases hg : getF f s with
    | none => rw [getAll_none hg] at h; cases h
    | some s1 =>
      rw [getAll_some hg] at h
      have h1 := getF_good hd hl hg
      exact getAll_good fs s1 s' h1.1 h1.2 h
theorem zero_ok (k : Int) : ({ Dg.zero with kind := k } : Dg).ok := by
  unfold Dg.ok
  exact ⟨⟨show (0 : Nat) < _ by decide, show (0 : Nat) < _ by decide, show (0 : Nat) < _ by decide⟩, ⟨show _ ≤ (0 : Int) by decide, show (0 : Int) ≤ _ by decide⟩, show (0 : Nat) < _ by decide, show (0 : Nat) < _ by decide, show (0 : Nat) < _ by decide, show (0 : Nat) < _ by decide, show (0 : Nat) < _ by decide, show (0 : Nat) < _ by decide⟩
theorem dec_good (l : List UInt8) (hl : l.length ≤ 1048576) : (dec l).1.ok := by
  by_cases h : (dec l).2 = 0
  · obtain ⟨k, t, rfl, hl2, h1, h7⟩ := dec_ok l h
    rw [dec_at k t hl2 ⟨h1, h7⟩] at h ⊢
    cases hg : getAll (fieldsOf (k.toNat : Int)) (dk k.toNat, false, t) with
    | none => exact zero_ok 0
    | some s =>
      obtain ⟨d, bad, r⟩ := s
      simp only [List.length_cons] at hl
      have hok : d.ok := getAll_good _ _ _ (zero_ok _) (by show t.length < _; omega) hg
      unfold fin
      simp only
      split
      · exact zero_ok 0
      · split
        · exact zero_ok 0
        · exact hok
  · rw [dec_err l h]
    exact zero_ok 0
end Go.Proofs.YtniabkphbnimaaaGreatDoor.Sh
