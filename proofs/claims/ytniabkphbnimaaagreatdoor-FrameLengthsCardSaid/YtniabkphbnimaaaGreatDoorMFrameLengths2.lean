/- What the statement FrameLengths leans on, part 2: words, walks and plain laws of this session's own. -/
import Derived.Test.YtniabkphbnimaaaGreatDoorProg
import Derived.Test.YtniabkphbnimaaaGreatDoorRows
import Derived.Test.YtniabkphbnimaaaGreatDoorMFrameLengths1
import Derived.ArgAppend
import Derived.Below
import Derived.BigQuiet
import Derived.ChangeSame
import Derived.Deep.AppendLies
import Derived.Deep.CutBlock
import Derived.Deep.DeepCutAuto
import Derived.Deep.Draws
import Derived.Deep.LoopGhost
import Derived.Deep.OwnRows
import Derived.Deep.QuietTactic
import Derived.Deep.RegionHeld3
import Derived.Deep.RegionLaw
import Derived.Deep.RegionWith
import Derived.Defers
import Derived.Great.Walk
import Derived.KernelRfl
import Derived.Laws.AppendOwn
import Derived.Laws.BitsLemmas
import Derived.Laws.BytesArg
import Derived.Laws.CopyOwn
import Derived.Laws.CopyRow
import Derived.Laws.IdiomCopy
import Derived.Laws.IdiomStrings
import Derived.Laws.MakeOwn
import Derived.Laws.OwnMore
import Derived.Laws.Rows
import Derived.Laws.Slices
import Derived.Lib.AppendStr
import Derived.Lib.ConvBytes
import Derived.Lib.LaidTab
import Derived.Maps.AppendAt
import Derived.Maps.OwnSet
import Derived.OrdersHeld
import Derived.OwnWalk
import Derived.Recover
import Derived.RowKit
import Derived.RowKit3
import Derived.Shelf.Strings.Repeat
import Derived.Shelf.Strings.Trim
import Derived.Tactics
import Derived.WalkKit
import Derived.WalkSmall
import Derived.WideLaws
set_option linter.unusedVariables false
set_option linter.unusedSimpArgs false
namespace Go.Proofs.YtniabkphbnimaaaGreatDoor.Sh
open Go Go.RowKit Go.Maps Go.Proofs.YtniabkphbnimaaaGreatDoorW.PrintWords Go.Proofs.YtniabkphbnimaaaGreatDoorW.PrintLast Go.Proofs.YtniabkphbnimaaaGreatDoor.Bs
def getAll : List Fld → Dg × Bool × List UInt8 → Option (Dg × Bool × List UInt8)
  | [], s => some s
  | f :: fs, s => (getF f s).bind (getAll fs)
theorem getAll_some {fs : List Fld} {s s' : Dg × Bool × List UInt8} {f : Fld} (h : getF f s = some s') : getAll (f :: fs) s = getAll fs s' := by
  show (getF f s).bind (getAll fs) = _
  rw [h]
  rfl
theorem getAll_none {fs : List Fld} {s : Dg × Bool × List UInt8} {f : Fld} (h : getF f s = none) : getAll (f :: fs) s = none := by
  show (getF f s).bind (getAll fs) = _
  rw [h]
  rfl
/-- What Decode tells. -/
def dec (l : List UInt8) : Dg × Int :=
  if 1200 < l.length then (.zero, 72) else if l.take 3 = [74, 48, 49] then
    match l.drop 3 with
    | [] => (.zero, 71)
    | k :: t => if 1 ≤ (k.toNat : Int) ∧ (k.toNat : Int) ≤ 7 then
        match getAll (fieldsOf (k.toNat : Int)) ({ Dg.zero with kind := (k.toNat : Int) }, false, t) with
        | none => (.zero, 72)
        | some (d, bad, r) => if r ≠ [] then (.zero, 72) else if bad = true then (.zero, 73) else (d, 0)
      else (.zero, 71)
  else (.zero, 70)
theorem cutP_f (l : List UInt8) : QQA.strings_CutPrefix.f (str l) ⟨#[74, 48, 49]⟩ = some (if l.take 3 = [74, 48, 49] then (str (l.drop 3), true) else (str l, false)) := by
  have e3 : ((⟨#[74, 48, 49]⟩ : ByteArray).size : Int) = 3 := rfl
  have e4 : (3 : Int).toNat = 3 := rfl
  unfold QQA.strings_CutPrefix.f QQA.stringslite_CutPrefix.f QQA.stringslite_HasPrefix.f
  rw [e3, e4, str_take, str_list]
  by_cases h : l.take 3 = [74, 48, 49]
  · have hl : 3 ≤ l.length := by have := congrArg List.length h; rw [List.length_take] at this; simp at this; omega
    have hs : (3 : Int) ≤ ((str l).size : Int) := by show (3 : Int) ≤ (l.length : Int); omega
    rw [if_pos hs, if_pos (by decide), if_pos hs, h, if_pos rfl]
    have e5 : ([74, 48, 49] == (⟨#[74, 48, 49]⟩ : ByteArray).toList) = true := by rw [Go.ByteArray.toList_mk]; rfl
    simp only [Option.bind_some, e5, if_true]
    rw [if_pos (by decide), if_pos hs]
    simp only [Option.bind_some, str_drop]
  · rw [if_neg h]
    by_cases hs : (3 : Int) ≤ ((str l).size : Int)
    · rw [if_pos hs, if_pos (by decide), if_pos hs]
      have e5 : (l.take 3 == (⟨#[74, 48, 49]⟩ : ByteArray).toList) = false := by rw [Go.ByteArray.toList_mk]; exact beq_eq_false_iff_ne.mpr h
      simp only [Option.bind_some, e5]
      rfl
    · rw [if_neg hs]
      rfl
theorem cutP_calls (l : List UInt8) (w : World) : Calls Tryz.prog 25 #[.string (str l), .string ⟨#[74, 48, 49]⟩] w fun e w' => e = .returned (.tuple #[.string (if l.take 3 = [74, 48, 49] then str (l.drop 3) else str l), .bool (decide (l.take 3 = [74, 48, 49]))]) ∧ Below w.heap.size w w' := by
  by_cases h : l.take 3 = [74, 48, 49]
  · have hc := cutP_f l
    rw [if_pos h] at hc
    rw [if_pos h, decide_eq_true h]
    exact (QQA.strings_CutPrefix.calls _ _ _ _ w hc).mono fun e w' hh => ⟨hh.1, drawn_below hh.2⟩
  · have hc := cutP_f l
    rw [if_neg h] at hc
    rw [if_neg h, decide_eq_false h]
    exact (QQA.strings_CutPrefix.calls _ _ _ _ w hc).mono fun e w' hh => ⟨hh.1, drawn_below hh.2⟩
/-- The two results at the door. -/
theorem results_dec (tmps : Array Value) (w : World) (D E : Nat) (d : Dg) (e : Int) (h2 : tmps.getD 2 undef = .pointer (some ⟨D, 0, none⟩)) (h3 : tmps.getD 3 undef = .pointer (some ⟨E, 0, none⟩)) (hD : w.heap[D]? = some (.cells d.cells.toArray 27 (0, 0))) (hE : w.heap[E]? = some (.cells [Value.int .i64 e].toArray 28 (0, 0))) :
    (results Tryz.f10 tmps).run Tryz.prog w = .ok (.tuple #[.agg d.cells.toArray, .int .i64 e]) w := by
  have hr : (Tryz.f10).results = #[.cell 2 27, .cell 3 28] := rfl
  have p2 : tmps[2]?.getD undef = .pointer (some ⟨D, 0, none⟩) := by simpa using h2
  have p3 : tmps[3]?.getD undef = .pointer (some ⟨E, 0, none⟩) := by simpa using h3
  have hl := run_loadVar_row (P := Tryz.prog) w D 27 27 d.cells.toArray (0, 0) _ hD Tryz.underlying27 rfl (by kernel_rfl)
  have cE : w.cell? ⟨E, 0, none⟩ = some (.int .i64 e) := cell_of hE rfl
  have hlE : (loadVar 28 ⟨E, 0, none⟩).run Tryz.prog w = .ok (.int .i64 e) w := by simp [go_sem, cE]
  simp [results, hr, p2, p3, asAddr, hl, hlE]
theorem door_ret (tmps : Array Value) (w : World) (D E : Nat) (d : Dg) (e : Int) (R : Ending → World → Prop) (h2 : tmps.getD 2 undef = .pointer (some ⟨D, 0, none⟩)) (h3 : tmps.getD 3 undef = .pointer (some ⟨E, 0, none⟩)) (hD : w.heap[D]? = some (.cells d.cells.toArray 27 (0, 0))) (hE : w.heap[E]? = some (.cells [Value.int .i64 e].toArray 28 (0, 0)))
    (h : R (.returned (.tuple #[.agg d.cells.toArray, .int .i64 e])) w) : bodyPostD Tryz.prog Tryz.f10 R .ret { tmps := tmps, defers := [] } w :=
  ⟨_, results_dec tmps w D E d e h2 h3 hD hE, h⟩
/-- Through the deferred closure where all went well. -/
theorem door_ok (tmps : Array Value) (w : World) (D E : Nat) (d : Dg) (e : Int) (R : Ending → World → Prop) (h2 : tmps.getD 2 undef = .pointer (some ⟨D, 0, none⟩)) (h3 : tmps.getD 3 undef = .pointer (some ⟨E, 0, none⟩)) (hD : w.heap[D]? = some (.cells d.cells.toArray 27 (0, 0))) (hE : w.heap[E]? = some (.cells [Value.int .i64 e].toArray 28 (0, 0)))
    (h : R (.returned (.tuple #[.agg d.cells.toArray, .int .i64 e])) w) : bodyPostD Tryz.prog Tryz.f10 R .ret { tmps := tmps, defers := [{ target := .fn (.func 27) #[.pointer (some ⟨D, 0, none⟩), .pointer (some ⟨E, 0, none⟩)], args := #[] }] } w := by
  show Leaves Tryz.prog Tryz.f10 tmps R _ .returning w
  refine leaves_cons (f := 27) (args := #[.pointer (some ⟨D, 0, none⟩), .pointer (some ⟨E, 0, none⟩)]) (by simp) (by simp [go_sem]) ?_
  refine (catch_idle D E w).mono ?_
  rintro e2 u' w'' ⟨rfl, rfl, rfl⟩
  exact ⟨_, results_dec tmps _ D E d e h2 h3 hD hE, h⟩
/-- Through the deferred closure where a field was too short. -/
theorem door_short (tmps : Array Value) (w : World) (D E : Nat) (d : Dg) (e : Int) (R : Ending → World → Prop) (h2 : tmps.getD 2 undef = .pointer (some ⟨D, 0, none⟩)) (h3 : tmps.getD 3 undef = .pointer (some ⟨E, 0, none⟩)) (hne : D ≠ E) (hD : w.heap[D]? = some (.cells d.cells.toArray 27 (0, 0))) (hE : w.heap[E]? = some (.cells [Value.int .i64 e].toArray 28 (0, 0)))
    (h : ∀ w', Mv w w' (fun k => k = D ∨ k = E) → R (.returned (.tuple #[.agg Dg.zero.cells.toArray, .int .i64 72])) w') : bodyPostD Tryz.prog Tryz.f10 R (.panic [tooShort false]) { tmps := tmps, defers := [{ target := .fn (.func 27) #[.pointer (some ⟨D, 0, none⟩), .pointer (some ⟨E, 0, none⟩)], args := #[] }] } w := by
  show Leaves Tryz.prog Tryz.f10 tmps R _ (.panicking [tooShort false]) w
  refine leaves_cons (f := 27) (args := #[.pointer (some ⟨D, 0, none⟩), .pointer (some ⟨E, 0, none⟩)]) (by simp) (by simp [go_sem]) ?_
  refine (catch_short D E w d e hne hD hE).mono ?_
  rintro e2 u' w'' ⟨rfl, rfl, h1, h2', h3'⟩
  exact ⟨_, results_dec tmps _ D E Dg.zero 72 h2 h3 h1 h2', h _ h3'⟩
theorem get_fn (f : Fld) : ∃ fn : Func, Tryz.prog.funcs[f.get]? = some fn ∧ (fn.name == "runtime.NumGoroutine") = false ∧ fn.body.isSome = true := by
  cases f with
  | nonce => exact ⟨_, Tryz.func48, by kernel_rfl, by kernel_rfl⟩
  | zeros => exact ⟨_, Tryz.func50, by kernel_rfl, by kernel_rfl⟩
  | epoch => exact ⟨_, Tryz.func52, by kernel_rfl, by kernel_rfl⟩
  | cookie => exact ⟨_, Tryz.func54, by kernel_rfl, by kernel_rfl⟩
  | name => exact ⟨_, Tryz.func56, by kernel_rfl, by kernel_rfl⟩
  | tag => exact ⟨_, Tryz.func58, by kernel_rfl, by kernel_rfl⟩
  | session => exact ⟨_, Tryz.func60, by kernel_rfl, by kernel_rfl⟩
  | player => exact ⟨_, Tryz.func62, by kernel_rfl, by kernel_rfl⟩
  | salt => exact ⟨_, Tryz.func64, by kernel_rfl, by kernel_rfl⟩
  | seq => exact ⟨_, Tryz.func66, by kernel_rfl, by kernel_rfl⟩
  | command => exact ⟨_, Tryz.func68, by kernel_rfl, by kernel_rfl⟩
  | data => exact ⟨_, Tryz.func70, by kernel_rfl, by kernel_rfl⟩
theorem getF_len {f : Fld} {s s' : Dg × Bool × List UInt8} (h : getF f s = some s') : s'.2.2.length ≤ s.2.2.length := by
  obtain ⟨d, bad, l⟩ := s
  cases f with
  | name =>
    cases l with
    | nil => cases h
    | cons b t => simp only [getF] at h; split at h; (cases h; simp only [List.length_drop, List.length_cons]; omega); cases h
  | player =>
    cases l with
    | nil => cases h
    | cons b t => cases h; simp only [List.length_cons]; omega
  | command =>
    match l, h with
    | a :: b :: c :: t, h => cases h; simp only [List.length_cons]; omega
  | _ => simp only [getF] at h; split at h; (cases h; simp only [List.length_drop]; omega); cases h
theorem RgAt.load {w : World} {R p : Nat} {d : Dg} {bad : Bool} {l : List UInt8} (H : RgAt w R p d bad l) (j : Nat) (v : Value) (hj : d.cells[j]? = some v) : w.cell? ⟨R, 1 + j, none⟩ = some v := by
  refine H.at_ (i := 1 + j) ?_
  show (_ :: (d.cells ++ [Value.bool bad]))[1 + j]? = some v
  rw [Nat.add_comm, List.getElem?_cons_succ, List.getElem?_append_left (by have := (List.getElem?_eq_some_iff.mp hj).1; exact this)]
  exact hj
theorem two_mv {w w1 w2 : World} {S : Nat → Prop} (h : Mv w w1 (fun k => w.heap.size ≤ k)) (h2 : Mv w1 w2 S) : Mv w w2 (fun k => S k ∨ w.heap.size ≤ k) := (h.mono (fun k hk => Or.inr hk)).then h2 (fun k hk => Or.inl (Or.inl hk))
section
variable {P : Program} {ops : Array Oper} {rest : List Oper} {o : Oper} {a : Act} {w : World} {Q : Exit → Act → World → Prop}
/-- A call of a function value in a plain region, of one that panics. -/
theorem goesLp_ (hg : o.guard = none) {f : FuncId} {x : Operand} {av : Array Operand} {ts : Array TypeId} {first caps : Array Value} (hf : ∃ fn : Func, P.funcs[f]? = some fn ∧ (fn.name == "runtime.NumGoroutine") = false ∧ fn.body.isSome = true) (args : Array Value)
    (hop : o.op = .call { callee := .value x, args := av, argTypes := ts }) (hx : a.eval x = .func (.func f) first caps) (hargs : first ++ av.map a.eval ++ caps = args)
    (h : Calls P f args w fun e w' => ∃ c, e = .panicked c ∧ Q (.panic c) a w') : wpList P ops Q (o :: rest) a w := by
  obtain ⟨fn, h1, h2, h3⟩ := hf
  refine wpList_plain hg fun K hK => ?_
  have he := enters_ h1 h2 h3 args w
  have hrun : (execOp a.eval o).run P w = .ok (.enter f args) w := by
    unfold execOp
    simp [hop, resolve, Deferred.ofValue, invoke, hx, ← hargs] at he ⊢
    simp [he]
  unfold Oper.wp
  rw [hrun, Oper.upon_enter]
  refine h.mono fun e w'' hh => ?_
  obtain ⟨c, rfl, hk⟩ := hh
  exact hk
end
theorem toBelow' {w w1 w2 : World} {D : Nat} (hb : Below w.heap.size w w1) (h : Mv w1 w2 (fun k => k = D)) (hS : w.heap.size ≤ D) : Below w.heap.size w w2 := Mv.toBelow hb h (fun k hk => by omega)
set_option maxHeartbeats 8000000 in
set_option maxRecDepth 100000 in
theorem decode_calls (l : List UInt8) (w : World) : Calls Tryz.prog 10 #[.string (str l)] w fun e w' => e = .returned (.tuple #[.agg (dec l).1.cells.toArray, .int .i64 (dec l).2]) ∧ Below w.heap.size w w' := by
  obtain ⟨t, et⟩ : ∃ t, t = str l := ⟨_, rfl⟩
  have hts : t.size = l.length := by rw [et]; rfl
  have HCUT := Aside0.mk (show ∀ w, Calls Tryz.prog 25 #[.string t, .string ⟨#[74, 48, 49]⟩] w fun e w' => e = .returned (.tuple #[.string (if l.take 3 = [74, 48, 49] then str (l.drop 3) else str l), .bool (decide (l.take 3 = [74, 48, 49]))]) ∧ Below w.heap.size w w' from by rw [et]; exact cutP_calls l)
  rw [← et]
  clear et
  have hmf : ∀ (fn : Fn) (first cap : Array Value) (w : World), (Instr.makeFunc fn first cap).run Tryz.prog w = .ok (.func fn first cap) w := fun _ _ _ _ => rfl
  go_enter_defers Tryz.func10, Tryz.ntmps10
  go_upto_region 0 with fail
  go_cut [2, 3] from 2 to 3 (fun x y wc => ∃ D E, x = .pointer (some ⟨D, 0, none⟩) ∧ y = .pointer (some ⟨E, 0, none⟩) ∧ wc.heap[D]? = some (.cells Dg.zero.cells.toArray 27 (0, 0)) ∧ wc.heap[E]? = some (.cells [Value.int .i64 0].toArray 28 (0, 0)) ∧ (D ≠ E ∧ w.heap.size ≤ D ∧ w.heap.size ≤ E) ∧ Below w.heap.size w wc)
  case first =>
    go_wp2_with (refine wpList_alloc_v rfl 27 rfl Dg.zero.cells (by kernel_rfl) ?_; intro D w1 eD hD1 hb1 hz1)
    go_meet
    exact ⟨D, w1.heap.size, rfl, rfl, (heap_alloc_old w1 _ (by have := hz1.out; omega)).trans hD1.out, heap_alloc_new w1 _, ⟨by have := hz1.out; omega, by have := eD.out; omega, by have := hz1.out; have := eD.out; omega⟩, below_alloc hb1.out _⟩
  case rest =>
    obtain ⟨D, E, rfl, rfl, hD, hE, hne, hb⟩ := hcut
    have HD := Aside0.mk hD
    have HE := Aside0.mk hE
    have HNE := Aside0.mk hne
    have HB := Aside0.mk hb
    clear hD hE hne hb
    by_cases h1 : 1200 < l.length
    · have o1 : decide ((1200 : Int) < (t.size : Int)) = true := decide_eq_true (by omega)
      have EDEC := Aside0.mk (show dec l = (Dg.zero, 72) from if_pos h1)
      clear hts
      go_wp2_with (first
        | (refine wpList_load_agg rfl 27 _ rfl D 0 rfl Dg.zero.cells (load_all HD.out) _ Tryz.underlying27 rfl (by kernel_rfl) ?_)
        | (refine wpList_store_agg rfl 27 _ _ rfl D 0 rfl Dg.zero.cells Dg.zero.cells rfl _ HD.out (by exact Nat.le_refl 15) (fun v hv => one_cells hv) (by kernel_rfl) ?_; intro w9 hD9 hm9 hz9; have HD9 := Aside0.mk (show w9.heap[D]? = some (.cells (Dg.zero.cells).toArray 27 (0, 0)) from hD9.out); have HE9 := Aside0.mk (show w9.heap[E]? = some (.cells [Value.int .i64 0].toArray 28 (0, 0)) from hm9.out.blk HE.out (fun e => HNE.out.1 e.symm)); have fE9 := Wd_thaw HE9.out 0; have cE9 : w9.cell? ⟨E, 0, none⟩ = some (.int .i64 0) := cell_of HE9.out rfl; have HM9 := Aside0.mk (show Below w.heap.size w w9 from toBelow' HB.out hm9.out (by have := HNE.out; omega))))
      rw [EDEC.out]
      exact door_ret _ _ D E Dg.zero 72 _ rfl rfl ((mv_set w9 E 0 _).blk HD9.out HNE.out.1) (set_of HE9.out 0 _) ⟨rfl, below_set1 HM9.out HNE.out.2.2 _⟩
    have o1 : decide ((1200 : Int) < (t.size : Int)) = false := decide_eq_false (by omega)
    clear hts
    by_cases h2 : l.take 3 = [74, 48, 49]
    · rw [decide_eq_true h2, if_pos h2] at HCUT
      obtain ⟨m, em⟩ : ∃ m, m = l.drop 3 := ⟨_, rfl⟩
      rw [← em] at HCUT
      have edec : dec l = _ := (if_neg h1).trans (if_pos h2)
      rw [← em] at edec
      have hlen : m.length ≤ 1200 := by rw [em, List.length_drop]; omega
      cases m with
      | nil =>
        have EDEC := Aside0.mk (show dec l = (Dg.zero, 71) from edec)
        clear edec em
        have o3 : (str ([] : List UInt8)).toList = [] := str_list []
        go_wp2_with (first
          | (go_at_call 25; (with_reducible refine (HCUT.out wc).mono ?_); rintro e w3 ⟨rfl, hb3⟩; have HD3 := Aside0.mk ((hb3.block D (blk_lt HD.out)).trans HD.out); have HE3 := Aside0.mk ((hb3.block E (blk_lt HE.out)).trans HE.out); have HB3 := Aside0.mk (HB.out.trans (hb3.mono HB.out.size)); clear hb3; clear HD HE HB; have HD := HD3; have HE := HE3; have HB := HB3; clear HD3 HE3 HB3)
          | (refine wpList_load_agg rfl 27 _ rfl D 0 rfl Dg.zero.cells (load_all HD.out) _ Tryz.underlying27 rfl (by kernel_rfl) ?_)
          | (refine wpList_store_agg rfl 27 _ _ rfl D 0 rfl Dg.zero.cells Dg.zero.cells rfl _ HD.out (by exact Nat.le_refl 15) (fun v hv => one_cells hv) (by kernel_rfl) ?_; intro w9 hD9 hm9 hz9; have HD9 := Aside0.mk (show w9.heap[D]? = some (.cells (Dg.zero.cells).toArray 27 (0, 0)) from hD9.out); have HE9 := Aside0.mk (show w9.heap[E]? = some (.cells [Value.int .i64 0].toArray 28 (0, 0)) from hm9.out.blk HE.out (fun e => HNE.out.1 e.symm)); have fE9 := Wd_thaw HE9.out 0; have cE9 : w9.cell? ⟨E, 0, none⟩ = some (.int .i64 0) := cell_of HE9.out rfl; have HM9 := Aside0.mk (show Below w.heap.size w w9 from toBelow' HB.out hm9.out (by have := HNE.out; omega))))
        rw [EDEC.out]
        exact door_ret _ _ D E Dg.zero 71 _ rfl rfl ((mv_set w9 E 0 _).blk HD9.out HNE.out.1) (set_of HE9.out 0 _) ⟨rfl, below_set1 HM9.out HNE.out.2.2 _⟩
      | cons k r =>
        obtain ⟨bd, ebd⟩ : ∃ bd, bd = str (k :: r) := ⟨_, rfl⟩
        rw [← ebd] at HCUT
        have HBS := Aside0.mk (show bd.size = r.length + 1 from by rw [ebd]; rfl)
        have o3 : ¬ bd.toList = [] := by rw [ebd, str_list]; exact List.cons_ne_nil _ _
        have o4 : 0 < bd.size := by have := HBS.out; omega
        have o5 : bd.toList.isEmpty = false := by rw [ebd, str_list]; rfl
        have hk0 : ∀ h : 0 < bd.size, wrap64 ((bd[0]'h).toNat : Int) = (k.toNat : Int) := by
          intro h
          subst ebd
          show wrap64 (k.toNat : Int) = (k.toNat : Int)
          have := k.toNat_lt
          unfold wrap64
          omega
        have htl : bd.extract 1 bd.size = str r := by rw [ebd]; exact str_drop (k :: r) 1
        by_cases h3 : 1 ≤ (k.toNat : Int) ∧ (k.toNat : Int) ≤ 7
        · have KC := Aside0.mk (show ∀ (h : 0 < bd.size) w, Calls Tryz.prog 26 #[.int .i64 (wrap64 ((bd[0]'h).toNat : Int))] w fun e w' => e = .returned (.bool true) ∧ w' = w from fun h w => by
            have := known_calls (k.toNat : Int) w
            rw [decide_eq_true h3] at this
            rw [hk0 h]
            exact this)
          have NC := Aside0.mk (show ∀ w, Calls Tryz.prog 28 #[.string (bd.extract 1 bd.size)] w fun e w' => ∃ p, e = .returned (.pointer (some ⟨p, 0, none⟩)) ∧ p = w.heap.size ∧ w'.heap.size = p + 1 ∧ RdAt w' p r ∧ Below w.heap.size w w' from fun w => by rw [htl]; exact newR_calls w r)
          have FC := Aside0.mk (show ∀ (h : 0 < bd.size) w, Calls Tryz.prog 29 #[.int .i64 (wrap64 ((bd[0]'h).toNat : Int))] w fun e w' => ∃ b, e = .returned (.slice (some ⟨b, 0, none⟩) (fieldsOf (k.toNat : Int)).length (fieldsOf (k.toNat : Int)).length) ∧ w.heap.size ≤ b ∧ w'.heap[b]? = some (.cells ((fieldsOf (k.toNat : Int)).flatMap Fld.vals).toArray 60 (0, 0)) ∧ Below w.heap.size w w' from fun h w => by rw [hk0 h]; exact fields_calls (k.toNat : Int) w)
          have HK0 := Aside0.mk hk0
          have EDEC := Aside0.mk (edec.trans (if_pos h3))
          have HLEN := Aside0.mk hlen
          clear edec em ebd htl hk0 hlen
          go_upto_region 11 with (first
            | (go_at_call 25; (with_reducible refine (HCUT.out wc).mono ?_); rintro e w3 ⟨rfl, hb3⟩; have HD3 := Aside0.mk ((hb3.block D (blk_lt HD.out)).trans HD.out); have HE3 := Aside0.mk ((hb3.block E (blk_lt HE.out)).trans HE.out); have HB3 := Aside0.mk (HB.out.trans (hb3.mono HB.out.size)); clear hb3; clear HD HE HB; have HD := HD3; have HE := HE3; have HB := HB3; clear HD3 HE3 HB3)
            | (go_at_call 26; (with_reducible refine (KC.out _ w3).mono ?_); rintro e w0 ⟨rfl, rfl⟩)
            | (go_at_call 28; (with_reducible refine (NC.out _).mono ?_); rintro e w4 ⟨p, rfl, hp4, hz4, hr4, hb4⟩; have HP4 := Aside0.mk hp4; have HR4 := Aside0.mk hr4; have HB4 := Aside0.mk hb4; clear hp4 hz4 hr4 hb4)
            | (refine wpList_box_v rfl 54 _ rfl (Dg.zero.row p false) (by rfl) (by kernel_rfl) ?_; intro R w5 eR hR5 hb5 hz5; have c1 : w5.cell? ⟨R, 1, none⟩ = some (.int .i64 0) := cell_of hR5.out rfl; have f1 := Wd_thaw hR5.out 1))
          obtain ⟨w6, ew6⟩ : ∃ x, x = w5.setCell ⟨R, 1, none⟩ (.int .i64 (wrap64 ((bd[0]'o4).toNat : Int))) := ⟨_, rfl⟩
          have hR6 : RgAt w6 R p { Dg.zero with kind := (k.toNat : Int) } false r := by
            have h0 : RgAt w5 R p Dg.zero false r := ⟨by have := eR.out; have := blk_lt HR4.out; omega, hR5.out, (hb5.out.block p (blk_lt HR4.out)).trans HR4.out⟩
            rw [ew6, HK0.out o4]
            exact h0.setX 1 _ rfl
          have c6 : w6.cell? ⟨R, 1, none⟩ = some (.int .i64 (wrap64 ((bd[0]'o4).toNat : Int))) := by rw [HK0.out o4]; exact hR6.at_ rfl
          have hm6 : Mv w5 w6 (fun k => k = R) := by rw [ew6]; exact mv_set w5 R 1 _
          have HR6 := Aside0.mk hR6
          have HN6 := Aside0.mk (show (D ≠ R ∧ D ≠ p ∧ E ≠ R ∧ E ≠ p) ∧ w.heap.size ≤ R ∧ w.heap.size ≤ p from by
            have h1 := blk_lt HD.out; have h2 := blk_lt HE.out; have h3 := eR.out; have h4 := HP4.out; have h5 := HB4.out.size; have h6 := HB.out.size; have h7 := blk_lt HR4.out
            exact ⟨⟨by omega, by omega, by omega, by omega⟩, by omega, by omega⟩)
          have h45 : Below w0.heap.size w0 w5 := HB4.out.trans (hb5.out.mono HB4.out.size)
          have HD6 := Aside0.mk (hm6.blk ((h45.block D (blk_lt HD.out)).trans HD.out) HN6.out.1.1)
          have HE6 := Aside0.mk (hm6.blk ((h45.block E (blk_lt HE.out)).trans HE.out) HN6.out.1.2.2.1)
          have HB6 := Aside0.mk (show Below w.heap.size w w6 from Mv.toBelow (HB.out.trans (h45.mono HB.out.size)) hm6 (fun k hk => by have := HN6.out; omega))
          rw [← ew6]
          clear ew6 hR6 hm6 h45 HD HE HB HP4 HR4 HB4 eR hR5 hb5 hz5 c1 f1 KC NC HCUT o3 o5 h3
          go_wp2_with (go_at_call 29; (with_reducible refine (FC.out _ w6).mono ?_); rintro e w7 ⟨b, rfl, hb7, hrow7, hbw7⟩)
          obtain ⟨fs, efs⟩ : ∃ fs, fs = fieldsOf (k.toNat : Int) := ⟨_, rfl⟩
          obtain ⟨n, en⟩ : ∃ n, n = fs.length := ⟨_, rfl⟩
          obtain ⟨s0, es0⟩ : ∃ s0 : Dg × Bool × List UInt8, s0 = ({ Dg.zero with kind := (k.toNat : Int) }, false, r) := ⟨_, rfl⟩
          rw [← efs] at hrow7
          rw [← efs, ← en]
          have EDEC2 := Aside0.mk (show dec l = (match getAll fs s0 with | none => (Dg.zero, 72) | some (d, bad, r) => if r ≠ [] then (Dg.zero, 72) else if bad = true then (Dg.zero, 73) else (d, 0)) from by rw [efs, es0]; exact EDEC.out)
          have HROW := Aside0.mk hrow7
          have HBN := Aside0.mk (show b ≠ R ∧ b ≠ p ∧ n ≤ 5 ∧ fs.length = n from by have h1 := blk_lt HR6.out.2.1; have h2 := blk_lt HR6.out.2.2; exact ⟨by omega, by omega, by rw [en, efs]; exact fields_len _, en.symm⟩)
          have HR7 := Aside0.mk (show RgAt w7 R p s0.1 s0.2.1 s0.2.2 from by rw [es0]; exact HR6.out.fresh (Mv.of_below hbw7 _))
          have HL0 := Aside0.mk (show s0.2.2.length ≤ 1200 from by rw [es0]; have := HLEN.out; rw [List.length_cons] at this; show r.length ≤ 1200; omega)
          have HD7 := Aside0.mk ((hbw7.block D (blk_lt HD6.out)).trans HD6.out)
          have HE7 := Aside0.mk ((hbw7.block E (blk_lt HE6.out)).trans HE6.out)
          have HB7 := Aside0.mk (HB6.out.trans (hbw7.mono HB6.out.size))
          clear efs en es0 hrow7 hb7 hbw7 HR6 HD6 HE6 HB6 FC EDEC HK0 c6 HLEN
          go_loopw [51] (fun iv wq => ∃ (i : Nat) (s : Dg × Bool × List UInt8), iv = .int .i64 (i : Int) ∧ i ≤ n ∧ RgAt wq R p s.1 s.2.1 s.2.2 ∧ (getAll (fs.drop i) s = getAll fs s0 ∧ s.2.2.length ≤ 1200) ∧ Mv w7 wq (fun k => k = R ∨ k = p)) (fun iv _ => n - (intOf iv).toNat)
          case atStart => exact ⟨0, s0, rfl, by omega, HR7.out, ⟨rfl, HL0.out⟩, Mv.refl _ _⟩
          case round =>
            obtain ⟨i, s, rfl, hi, hG, hA, hM⟩ := hrel
            have GI := Aside0.mk hG
            have MI := Aside0.mk hM
            have AI := Aside0.mk hA
            have RI := Aside0.mk (show wr.heap[b]? = _ from hM.blk HROW.out (fun e => by rcases e with e | e; exact HBN.out.1 e; exact HBN.out.2.1 e))
            clear hG hM hA
            by_cases hk : i < n
            · have o1 : decide ((i : Int) < (n : Int)) = true := decide_eq_true (by omega)
              have o2 : decide (i < n) = true := decide_eq_true hk
              have q1 : ((i : Int) < (n : Int)) = True := eq_true (by omega)
              have q2 : (i < n) = True := eq_true hk
              obtain ⟨f, hf⟩ : ∃ f, fs[i]? = some f := ⟨_, List.getElem?_eq_getElem (by rw [HBN.out.2.2.2]; exact hk)⟩
              have HF := Aside0.mk hf
              have AF := Aside0.mk (show getAll (f :: fs.drop (i + 1)) s = getAll fs s0 from by
                have hin : i < fs.length := by rw [HBN.out.2.2.2]; exact hk
                have e : fs.drop i = f :: fs.drop (i + 1) := by rw [List.drop_eq_getElem_cons hin, Option.some.inj ((List.getElem?_eq_getElem hin).symm.trans hf)]
                rw [← AI.out.1, e])
              have ZI := Aside0.mk (show wrap64 ((i : Int) + 1) = ((i + 1 : Nat) : Int) by have := HBN.out; unfold wrap64; omega)
              clear hf
              cases hs : getF f s with
              | some s' =>
                have SG := Aside0.mk hs
                clear hs
                go_wp2_with (first
                  | (refine wpList_load_agg rfl 60 _ rfl b (i * 2) rfl f.vals (fun j v hv => cell_of RI.out (by have h := vals_at fs i f HF.out; rw [Nat.mul_comm i 2]; match j, hv with | 0, hv => cases hv; exact h.1 | 1, hv => cases hv; exact h.2)) _ Tryz.underlying60 rfl (by kernel_rfl) ?_)
                  | (refine wpList_alloc_v rfl 60 rfl [.nilFunc, .nilFunc] (by kernel_rfl) ?_; intro F w8 eF hF8 hb8 hz8)
                  | (refine wpList_store_agg rfl 60 _ _ rfl F 0 rfl f.vals _ rfl _ hF8.out (by exact Nat.le_refl 2) (fun v hv => one_vals hv) (by kernel_rfl) ?_; intro w9 hF9 hm9 hz9; rw [splice_all [.nilFunc, .nilFunc] f.vals rfl] at hF9; have cF : w9.cell? ⟨F, 0, none⟩ = some (.func (.func f.get) #[] #[]) := cell_of hF9.out rfl; have MV9 := Aside0.mk (show Mv wr w9 (fun k => wr.heap.size ≤ k) from (Mv.of_below hb8.out (fun k => wr.heap.size ≤ k)).then hm9.out (fun k hk => Or.inl (by have := eF.out; omega))); have G9 := Aside0.mk (GI.out.fresh MV9.out))
                  | (refine goesLv_ (some 58) rfl rfl (get_fn f) #[.pointer (some ⟨R, 0, none⟩)] rfl rfl (by simp [Act.eval]) ?_; refine (get_ok f w9 R p s s' (by have := AI.out.2; omega) G9.out SG.out).mono ?_; rintro e w10 ⟨rfl, hg10, hm10⟩; refine ⟨_, rfl, ?_⟩))
                rw [ZI.out]
                exact ⟨⟨i + 1, s', rfl, by omega, hg10, ⟨(getAll_some SG.out).symm.trans AF.out, Nat.le_trans (getF_len SG.out) AI.out.2⟩, MI.out.then (two_mv MV9.out hm10) (fun k hk => hk.imp id (fun h => Nat.le_trans MI.out.size h))⟩, by simp only [intOf]; omega⟩
              | none =>
                have SG := Aside0.mk hs
                clear hs
                have EZ := Aside0.mk (show dec l = (Dg.zero, 72) from by rw [EDEC2.out, ← AF.out, getAll_none SG.out])
                go_wp2_with (first
                  | (refine wpList_load_agg rfl 60 _ rfl b (i * 2) rfl f.vals (fun j v hv => cell_of RI.out (by have h := vals_at fs i f HF.out; rw [Nat.mul_comm i 2]; match j, hv with | 0, hv => cases hv; exact h.1 | 1, hv => cases hv; exact h.2)) _ Tryz.underlying60 rfl (by kernel_rfl) ?_)
                  | (refine wpList_alloc_v rfl 60 rfl [.nilFunc, .nilFunc] (by kernel_rfl) ?_; intro F w8 eF hF8 hb8 hz8)
                  | (refine wpList_store_agg rfl 60 _ _ rfl F 0 rfl f.vals _ rfl _ hF8.out (by exact Nat.le_refl 2) (fun v hv => one_vals hv) (by kernel_rfl) ?_; intro w9 hF9 hm9 hz9; rw [splice_all [.nilFunc, .nilFunc] f.vals rfl] at hF9; have cF : w9.cell? ⟨F, 0, none⟩ = some (.func (.func f.get) #[] #[]) := cell_of hF9.out rfl; have MV9 := Aside0.mk (show Mv wr w9 (fun k => wr.heap.size ≤ k) from (Mv.of_below hb8.out (fun k => wr.heap.size ≤ k)).then hm9.out (fun k hk => Or.inl (by have := eF.out; omega))); have G9 := Aside0.mk (GI.out.fresh MV9.out))
                  | (refine goesLp_ rfl (get_fn f) #[.pointer (some ⟨R, 0, none⟩)] rfl rfl (by simp [Act.eval]) ?_; refine (get_short f w9 R p s G9.out SG.out).mono ?_; rintro e w10 ⟨rfl, hm10⟩; refine ⟨_, rfl, ?_⟩))
                have M10 : Mv w7 w10 (fun k => k = R ∨ k = p) := MI.out.then (two_mv MV9.out hm10) (fun k hk => hk.imp id (fun h => Nat.le_trans MI.out.size h))
                have hN := HN6.out
                rw [EZ.out]
                exact door_short _ _ D E Dg.zero 0 _ rfl rfl HNE.out.1 (M10.blk HD7.out (by omega)) (M10.blk HE7.out (by omega)) (fun w' hm => ⟨rfl, Mv.toBelow (Mv.toBelow HB7.out M10 (fun k hk => by omega)) hm (fun k hk => by have := HNE.out; omega)⟩)
            · have o1 : decide ((i : Int) < (n : Int)) = false := decide_eq_false (by omega)
              have o2 : decide (i < n) = false := decide_eq_false hk
              have hall : fs.drop i = [] := List.drop_eq_nil_of_le (by have := HBN.out; omega)
              have EG := Aside0.mk (show getAll fs s0 = some s from by rw [← AI.out.1, hall]; rfl)
              have hN := HN6.out
              have HDr := Aside0.mk (MI.out.blk HD7.out (by omega))
              have HEr := Aside0.mk (MI.out.blk HE7.out (by omega))
              have HBr := Aside0.mk (Mv.toBelow HB7.out MI.out (fun k hk => by omega))
              have c0 : wr.cell? ⟨R, 0, none⟩ = some (.pointer (some ⟨p, 0, none⟩)) := GI.out.at_ rfl
              clear hall hN
              obtain ⟨d, bad, rest⟩ := s
              simp only at GI
              by_cases hr : rest = []
              · subst hr
                have LC := Aside0.mk (show ∀ w, RdAt w p [] → Calls Tryz.prog 30 #[.pointer (some ⟨p, 0, none⟩)] w fun e w' => e = .returned (.int .i64 0) ∧ w' = w from fun w hw => left_calls w p [] hw)
                cases bad with
                | true =>
                  have EZ := Aside0.mk (show dec l = (Dg.zero, 73) from by rw [EDEC2.out, EG.out]; rfl)
                  have c16 : wr.cell? ⟨R, 16, none⟩ = some (.bool true) := GI.out.at_ rfl
                  go_wp2_with (first
                    | (go_at_call 30; (with_reducible refine (LC.out wr GI.out.rd).mono ?_); rintro e w8 ⟨rfl, rfl⟩)
                    | (refine wpList_store_agg rfl 27 _ _ rfl D 0 rfl Dg.zero.cells Dg.zero.cells rfl _ HDr.out (by exact Nat.le_refl 15) (fun v hv => one_cells hv) (by kernel_rfl) ?_; intro w9 hD9 hm9 hz9; have HD9 := Aside0.mk (show w9.heap[D]? = some (.cells (Dg.zero.cells).toArray 27 (0, 0)) from hD9.out); have HE9 := Aside0.mk (show w9.heap[E]? = some (.cells [Value.int .i64 0].toArray 28 (0, 0)) from hm9.out.blk HEr.out (fun e => HNE.out.1 e.symm)); have fE9 := Wd_thaw HE9.out 0; have cE9 : w9.cell? ⟨E, 0, none⟩ = some (.int .i64 0) := cell_of HE9.out rfl; have HM9 := Aside0.mk (show Below w.heap.size w w9 from toBelow' HBr.out hm9.out (by have := HNE.out; omega))))
                  rw [EZ.out]
                  exact door_ok _ _ D E Dg.zero 73 _ rfl rfl ((mv_set w9 E 0 _).blk HD9.out HNE.out.1) (set_of HE9.out 0 _) ⟨rfl, below_set1 HM9.out HNE.out.2.2 _⟩
                | false =>
                  have EZ := Aside0.mk (show dec l = (d, 0) from by rw [EDEC2.out, EG.out]; rfl)
                  have c16 : wr.cell? ⟨R, 16, none⟩ = some (.bool false) := GI.out.at_ rfl
                  go_wp2_with (first
                    | (go_at_call 30; (with_reducible refine (LC.out wr GI.out.rd).mono ?_); rintro e w8 ⟨rfl, rfl⟩)
                    | (refine wpList_load_agg rfl 27 _ rfl R 1 rfl d.cells GI.out.load _ Tryz.underlying27 rfl (by kernel_rfl) ?_)
                    | (refine wpList_store_agg rfl 27 _ _ rfl D 0 rfl d.cells Dg.zero.cells rfl _ HDr.out (by exact Nat.le_refl 15) (fun v hv => one_cells hv) (by kernel_rfl) ?_; intro w9 hD9 hm9 hz9; have HD9 := Aside0.mk (show w9.heap[D]? = some (.cells (d.cells).toArray 27 (0, 0)) from hD9.out); have HE9 := Aside0.mk (show w9.heap[E]? = some (.cells [Value.int .i64 0].toArray 28 (0, 0)) from hm9.out.blk HEr.out (fun e => HNE.out.1 e.symm)); have fE9 := Wd_thaw HE9.out 0; have cE9 : w9.cell? ⟨E, 0, none⟩ = some (.int .i64 0) := cell_of HE9.out rfl; have HM9 := Aside0.mk (show Below w.heap.size w w9 from toBelow' HBr.out hm9.out (by have := HNE.out; omega))))
                  rw [EZ.out]
                  exact door_ok _ _ D E d 0 _ rfl rfl ((mv_set w9 E 0 _).blk HD9.out HNE.out.1) (set_of HE9.out 0 _) ⟨rfl, below_set1 HM9.out HNE.out.2.2 _⟩
              · have EZ := Aside0.mk (show dec l = (Dg.zero, 72) from by rw [EDEC2.out, EG.out]; exact if_pos hr)
                have hlr : 0 < rest.length := List.length_pos_iff.mpr hr
                have o3 : decide ((0 : Int) < (rest.length : Int)) = true := decide_eq_true (by omega)
                go_wp2_with (first
                  | (go_at_call 30; (with_reducible refine (left_calls wr p rest GI.out.rd).mono ?_); rintro e w8 ⟨rfl, rfl⟩)
                  | (refine wpList_store_agg rfl 27 _ _ rfl D 0 rfl Dg.zero.cells Dg.zero.cells rfl _ HDr.out (by exact Nat.le_refl 15) (fun v hv => one_cells hv) (by kernel_rfl) ?_; intro w9 hD9 hm9 hz9; have HD9 := Aside0.mk (show w9.heap[D]? = some (.cells (Dg.zero.cells).toArray 27 (0, 0)) from hD9.out); have HE9 := Aside0.mk (show w9.heap[E]? = some (.cells [Value.int .i64 0].toArray 28 (0, 0)) from hm9.out.blk HEr.out (fun e => HNE.out.1 e.symm)); have fE9 := Wd_thaw HE9.out 0; have cE9 : w9.cell? ⟨E, 0, none⟩ = some (.int .i64 0) := cell_of HE9.out rfl; have HM9 := Aside0.mk (show Below w.heap.size w w9 from toBelow' HBr.out hm9.out (by have := HNE.out; omega))))
                rw [EZ.out]
                exact door_ok _ _ D E Dg.zero 72 _ rfl rfl ((mv_set w9 E 0 _).blk HD9.out HNE.out.1) (set_of HE9.out 0 _) ⟨rfl, below_set1 HM9.out HNE.out.2.2 _⟩
        · have EDEC := Aside0.mk (show dec l = (Dg.zero, 71) from edec.trans (if_neg h3))
          have KC := Aside0.mk (show ∀ (h : 0 < bd.size) w, Calls Tryz.prog 26 #[.int .i64 (wrap64 ((bd[0]'h).toNat : Int))] w fun e w' => e = .returned (.bool false) ∧ w' = w from fun h w => by
            have := known_calls (k.toNat : Int) w
            rw [decide_eq_false h3] at this
            rw [hk0 h]
            exact this)
          clear edec em ebd hk0 htl
          go_wp2_with (first
            | (go_at_call 25; (with_reducible refine (HCUT.out wc).mono ?_); rintro e w3 ⟨rfl, hb3⟩; have HD3 := Aside0.mk ((hb3.block D (blk_lt HD.out)).trans HD.out); have HE3 := Aside0.mk ((hb3.block E (blk_lt HE.out)).trans HE.out); have HB3 := Aside0.mk (HB.out.trans (hb3.mono HB.out.size)); clear hb3; clear HD HE HB; have HD := HD3; have HE := HE3; have HB := HB3; clear HD3 HE3 HB3)
            | (go_at_call 26; (with_reducible refine (KC.out _ w3).mono ?_); rintro e w0 ⟨rfl, rfl⟩)
            | (refine wpList_load_agg rfl 27 _ rfl D 0 rfl Dg.zero.cells (load_all HD.out) _ Tryz.underlying27 rfl (by kernel_rfl) ?_)
            | (refine wpList_store_agg rfl 27 _ _ rfl D 0 rfl Dg.zero.cells Dg.zero.cells rfl _ HD.out (by exact Nat.le_refl 15) (fun v hv => one_cells hv) (by kernel_rfl) ?_; intro w9 hD9 hm9 hz9; have HD9 := Aside0.mk (show w9.heap[D]? = some (.cells (Dg.zero.cells).toArray 27 (0, 0)) from hD9.out); have HE9 := Aside0.mk (show w9.heap[E]? = some (.cells [Value.int .i64 0].toArray 28 (0, 0)) from hm9.out.blk HE.out (fun e => HNE.out.1 e.symm)); have fE9 := Wd_thaw HE9.out 0; have cE9 : w9.cell? ⟨E, 0, none⟩ = some (.int .i64 0) := cell_of HE9.out rfl; have HM9 := Aside0.mk (show Below w.heap.size w w9 from toBelow' HB.out hm9.out (by have := HNE.out; omega))))
          rw [EDEC.out]
          exact door_ret _ _ D E Dg.zero 71 _ rfl rfl ((mv_set w9 E 0 _).blk HD9.out HNE.out.1) (set_of HE9.out 0 _) ⟨rfl, below_set1 HM9.out HNE.out.2.2 _⟩
    · rw [decide_eq_false h2, if_neg h2] at HCUT
      have EDEC := Aside0.mk (show dec l = (Dg.zero, 70) from (if_neg h1).trans (if_neg h2))
      go_wp2_with (first
        | (go_at_call 25; (with_reducible refine (HCUT.out wc).mono ?_); rintro e w3 ⟨rfl, hb3⟩; have HD3 := Aside0.mk ((hb3.block D (blk_lt HD.out)).trans HD.out); have HE3 := Aside0.mk ((hb3.block E (blk_lt HE.out)).trans HE.out); have HB3 := Aside0.mk (HB.out.trans (hb3.mono HB.out.size)); clear hb3; clear HD HE HB; have HD := HD3; have HE := HE3; have HB := HB3; clear HD3 HE3 HB3)
        | (refine wpList_load_agg rfl 27 _ rfl D 0 rfl Dg.zero.cells (load_all HD.out) _ Tryz.underlying27 rfl (by kernel_rfl) ?_)
        | (refine wpList_store_agg rfl 27 _ _ rfl D 0 rfl Dg.zero.cells Dg.zero.cells rfl _ HD.out (by exact Nat.le_refl 15) (fun v hv => one_cells hv) (by kernel_rfl) ?_; intro w9 hD9 hm9 hz9; have HD9 := Aside0.mk (show w9.heap[D]? = some (.cells (Dg.zero.cells).toArray 27 (0, 0)) from hD9.out); have HE9 := Aside0.mk (show w9.heap[E]? = some (.cells [Value.int .i64 0].toArray 28 (0, 0)) from hm9.out.blk HE.out (fun e => HNE.out.1 e.symm)); have fE9 := Wd_thaw HE9.out 0; have cE9 : w9.cell? ⟨E, 0, none⟩ = some (.int .i64 0) := cell_of HE9.out rfl; have HM9 := Aside0.mk (show Below w.heap.size w w9 from toBelow' HB.out hm9.out (by have := HNE.out; omega))))
      rw [EDEC.out]
      exact door_ret _ _ D E Dg.zero 70 _ rfl rfl ((mv_set w9 E 0 _).blk HD9.out HNE.out.1) (set_of HE9.out 0 _) ⟨rfl, below_set1 HM9.out HNE.out.2.2 _⟩
end Go.Proofs.YtniabkphbnimaaaGreatDoor.Sh
namespace Go.Proofs.YtniabkphbnimaaaGreatDoor.Sh
open Go Go.RowKit Go.Maps Go.Proofs.YtniabkphbnimaaaGreatDoorW.PrintWords Go.Proofs.YtniabkphbnimaaaGreatDoorW.PrintLast Go.Proofs.YtniabkphbnimaaaGreatDoor.Bs
theorem bt_str (l : List UInt8) (i : Int) : bt (str l) i = ((l.getD i.toNat 0).toNat : Int) := by
  unfold bt
  by_cases h : i.toNat < (str l).size
  · have h' : i.toNat < l.length := h
    rw [dif_pos h, List.getD_eq_getElem?_getD, List.getElem?_eq_getElem h']
    show (((l.toArray)[i.toNat]).toNat : Int) = _
    simp
  · have h' : l.length ≤ i.toNat := Nat.le_of_not_lt h
    rw [dif_neg h, List.getD_eq_getElem?_getD, List.getElem?_eq_none h']
    rfl
theorem orx (c a b : UInt8) : Go.bits .or .u8 (c.toNat : Int) (Go.bits .xor .u8 (a.toNat : Int) (b.toNat : Int)) = ((c ||| (a ^^^ b)).toNat : Int) := by
  show IntKind.u8.wrap ((BitVec.ofInt 8 (c.toNat : Int) ||| BitVec.ofInt 8 (IntKind.u8.wrap ((BitVec.ofInt 8 (a.toNat : Int) ^^^ BitVec.ofInt 8 (b.toNat : Int)).toNat : Int))).toNat : Int) = _
  have e (x : UInt8) : BitVec.ofInt 8 (x.toNat : Int) = x.toBitVec := by
    rw [BitVec.ofInt_natCast]
    simp
  have e2 (x : BitVec 8) : IntKind.u8.wrap (x.toNat : Int) = (x.toNat : Int) := by
    have := x.isLt
    rw [wrap_u8]
    omega
  rw [e, e, e, e2, e2]
  rw [BitVec.ofInt_natCast]
  simp
theorem same_l (a b : List UInt8) (hl : a.length = b.length) (hs : a.length < 4611686018427387904) : ∀ (m i k : Nat) (c : UInt8), m = a.length - i → i ≤ a.length → m < k →
    QQA.mac_Same.l0 k (str a) (str b) (c.toNat : Int) (a.length : Int) (i : Int) = some (decide (c = 0 ∧ a.drop i = b.drop i)) := by
  intro m
  induction m with
  | zero =>
    intro i k c hm hi hk
    obtain ⟨k, rfl⟩ : ∃ j, k = j + 1 := ⟨k - 1, by omega⟩
    unfold QQA.mac_Same.l0
    rw [if_neg (by omega), List.drop_of_length_le (by omega), List.drop_of_length_le (by omega)]
    congr 1
    by_cases hc : c = 0
    · subst hc; rfl
    · have : ¬ ((c.toNat : Int) = 0) := fun h => hc (UInt8.toNat_inj.mp (by show c.toNat = 0; omega))
      rw [decide_eq_false (by intro h; exact hc h.1)]
      exact beq_eq_false_iff_ne.mpr this
  | succ m ih =>
    intro i k c hm hi hk
    obtain ⟨k, rfl⟩ : ∃ j, k = j + 1 := ⟨k - 1, by omega⟩
    have hz : wrap64 ((i : Int) + 1) = ((i + 1 : Nat) : Int) := by unfold wrap64; omega
    have s1 : ((str a).size : Int) = (a.length : Int) := rfl
    have s2 : ((str b).size : Int) = (b.length : Int) := rfl
    unfold QQA.mac_Same.l0
    rw [if_pos (by omega), if_pos (by omega), if_pos (by omega), if_pos (by omega), bt_str, bt_str, orx, hz]
    rw [ih (i + 1) k _ (by omega) (by omega) (by omega)]
    congr 1
    have ha : i < a.length := by omega
    have hb : i < b.length := by omega
    rw [List.drop_eq_getElem_cons ha, List.drop_eq_getElem_cons hb]
    have ga : a.getD ((i : Int)).toNat 0 = a[i] := by rw [Int.toNat_natCast, List.getD_eq_getElem?_getD, List.getElem?_eq_getElem ha]; rfl
    have gb : b.getD ((i : Int)).toNat 0 = b[i] := by rw [Int.toNat_natCast, List.getD_eq_getElem?_getD, List.getElem?_eq_getElem hb]; rfl
    rw [ga, gb]
    apply decide_eq_decide.mpr
    rw [UInt8.or_eq_zero_iff, UInt8.xor_eq_zero_iff, List.cons.injEq, and_assoc]
theorem same_f (a b : List UInt8) (hs : a.length < 4611686018427387904) : QQA.mac_Same.f (a.length + 1) (str a) (str b) = some (decide (a = b)) := by
  unfold QQA.mac_Same.f
  have s1 : ((str a).size : Int) = (a.length : Int) := rfl
  have s2 : ((str b).size : Int) = (b.length : Int) := rfl
  rw [s1, s2]
  by_cases h : a.length = b.length
  · rw [if_pos (by omega)]
    have := same_l a b h hs a.length 0 (a.length + 1) 0 (by omega) (by omega) (by omega)
    simpa using this
  · rw [if_neg (by omega), decide_eq_false (fun e => h (by rw [e]))]
theorem same_calls (a b : List UInt8) (hs : a.length < 4611686018427387904) (w : World) : Calls Tryz.prog 36 #[.string (str a), .string (str b)] w fun e w' => e = .returned (.bool (decide (a = b))) ∧ Below w.heap.size w w' :=
  (QQA.mac_Same.calls _ _ _ _ w (same_f a b hs)).mono fun e w' hh => ⟨hh.1, drawn_below hh.2⟩
/-- The bytes that a tag is over. -/
def bodyB (l : List UInt8) : List UInt8 := if l.take 3 = [74, 48, 49] ∧ 36 ≤ l.length ∧ 3 ≤ (l.getD 3 0).toNat ∧ (l.getD 3 0).toNat ≤ 7 then l.take (l.length - 32) else []
theorem hasP_f (l : List UInt8) : QQA.strings_HasPrefix.f (str l) ⟨#[74, 48, 49]⟩ = some (decide (l.take 3 = [74, 48, 49])) := by
  have e3 : ((⟨#[74, 48, 49]⟩ : ByteArray).size : Int) = 3 := rfl
  have e4 : (3 : Int).toNat = 3 := rfl
  unfold QQA.strings_HasPrefix.f QQA.stringslite_HasPrefix.f
  rw [e3, e4, str_take, str_list]
  by_cases hs : (3 : Int) ≤ ((str l).size : Int)
  · rw [if_pos hs, if_pos (by decide), if_pos hs, Go.ByteArray.toList_mk]
    by_cases h : l.take 3 = [74, 48, 49]
    · rw [h]; rfl
    · rw [decide_eq_false h]
      have e5 : (l.take 3 == [74, 48, 49]) = false := beq_eq_false_iff_ne.mpr h
      simp only [Option.bind_some]
      exact congrArg some e5
  · rw [if_neg hs]
    have h : ¬ l.take 3 = [74, 48, 49] := by
      intro h
      have := congrArg List.length h
      rw [List.length_take] at this
      have s1 : ((str l).size : Int) = (l.length : Int) := rfl
      simp at this
      omega
    rw [decide_eq_false h]
    rfl
theorem tagged_f (k : Int) : QQA.frame_tagged.f k = some (decide (3 ≤ k ∧ k ≤ 7)) := by
  unfold QQA.frame_tagged.f
  by_cases h : k ≥ 3
  · rw [if_pos h]
    congr 1
    exact decide_eq_decide.mpr ⟨fun h2 => ⟨h, h2⟩, fun h2 => h2.2⟩
  · rw [if_neg h, decide_eq_false (fun h2 => h h2.1)]
theorem tagged_calls (k : Int) (w : World) : Calls Tryz.prog 35 #[.int .i64 k] w fun e w' => e = .returned (.bool (decide (3 ≤ k ∧ k ≤ 7))) ∧ Below w.heap.size w w' :=
  (QQA.frame_tagged.calls _ _ w (tagged_f k)).mono fun e w' hh => ⟨hh.1, drawn_below hh.2⟩
theorem body_f (l : List UInt8) (hs : l.length < 4611686018427387904) : QQA.frame_Body.f (str l) = some (str (bodyB l)) := by
  have s1 : ((str l).size : Int) = (l.length : Int) := rfl
  have e3 : (3 : Int).toNat = 3 := rfl
  unfold QQA.frame_Body.f bodyB
  rw [hasP_f, s1]
  simp only [Option.bind_some]
  by_cases h1 : l.take 3 = [74, 48, 49]
  · rw [decide_eq_true h1, if_pos rfl]
    by_cases h2 : 36 ≤ l.length
    · have hb := (l.getD 3 0).toNat_lt
      have hz : wrap64 ((l.length : Int) - 32) = ((l.length - 32 : Nat) : Int) := by unfold wrap64; omega
      have hw : wrap64 ((l.getD 3 0).toNat : Int) = ((l.getD 3 0).toNat : Int) := by unfold wrap64; omega
      rw [if_neg (by omega), if_pos (by omega), bt_str, e3, hw, tagged_f]
      simp only [Option.bind_some]
      by_cases h3 : 3 ≤ (l.getD 3 0).toNat ∧ (l.getD 3 0).toNat ≤ 7
      · rw [decide_eq_true (show 3 ≤ ((l.getD 3 0).toNat : Int) ∧ ((l.getD 3 0).toNat : Int) ≤ 7 by omega), if_pos rfl, hz, if_pos (by omega), if_pos (by omega), if_pos ⟨h1, h2, h3⟩, Int.toNat_natCast, str_take]
      · rw [decide_eq_false (show ¬ (3 ≤ ((l.getD 3 0).toNat : Int) ∧ ((l.getD 3 0).toNat : Int) ≤ 7) by omega), if_neg (by decide), if_neg (fun h => h3 h.2.2)]
        rfl
    · rw [if_pos (by omega), if_neg (fun h => h2 h.2.1)]
      rfl
  · rw [decide_eq_false h1, if_neg (by decide), if_neg (fun h => h1 h.1)]
    rfl
theorem body_calls (l : List UInt8) (hs : l.length < 4611686018427387904) (w : World) : Calls Tryz.prog 12 #[.string (str l)] w fun e w' => e = .returned (.string (str (bodyB l))) ∧ Below w.heap.size w w' :=
  (QQA.frame_Body.calls _ _ w (body_f l hs)).mono fun e w' hh => ⟨hh.1, drawn_below hh.2⟩
end Go.Proofs.YtniabkphbnimaaaGreatDoor.Sh
namespace Go.Proofs.YtniabkphbnimaaaGreatDoor.Sh
open Go Go.RowKit Go.Maps Go.Proofs.YtniabkphbnimaaaGreatDoorW.PrintWords Go.Proofs.YtniabkphbnimaaaGreatDoorW.PrintLast Go.Proofs.YtniabkphbnimaaaGreatDoor.Bs
theorem str_bl (s : ByteArray) : str (bl s) = s := by
  cases s
  rfl
theorem str_size (l : List UInt8) : (str l).size = l.length := rfl
end Go.Proofs.YtniabkphbnimaaaGreatDoor.Sh
namespace Go.Proofs.YtniabkphbnimaaaGreatDoor.Sh
open Go Go.RowKit Go.Maps Go.Proofs.YtniabkphbnimaaaGreatDoorW.PrintWords Go.Proofs.YtniabkphbnimaaaGreatDoorW.PrintLast Go.Proofs.YtniabkphbnimaaaGreatDoor.Bs
theorem gl_below {w w' : World} (h : GL w) (hb : Below w.heap.size w w') : GL w' := by
  obtain ⟨t, fr, h⟩ := h
  exact ⟨t, fr, (hb.block _ (blk_lt h)).trans h⟩
def sealedB (l : List UInt8) (k : List UInt8) : Bool := decide (bodyB l ≠ [] ∧ l.drop (bodyB l).length = hmac k (bodyB l))
theorem body_len (l : List UInt8) : (bodyB l).length ≤ l.length := by
  unfold bodyB
  split
  · rw [List.length_take]; omega
  · exact Nat.zero_le _
def T_14_2 : Bool × List (List Nat × List Nat) := (true, [([], []), ([0], [0]), ([1], [1]), ([2], [2]), ([2], [2]), ([4, 2], [2, 4]), ([3, 5, 2], [2, 3, 5]), ([2], [2]), ([2], [2]), ([7, 8, 2, 2], [2, 7, 8]), ([6, 9, 9, 2], [2, 6, 9]), ([2, 10], [2, 10]), ([11, 10, 0, 1, 2, 3, 4, 5, 6, 7, 8, 9, 10, 11], [11])])
def B_14_2 : List Nat := [0, 1, 3, 7, 7, 23, 63, 7, 7, 391, 1023, 2047, 4095]
theorem tab_f14_2 : rtab .any (opsOf Tryz.f14 2) = T_14_2 := by kernel_rfl
theorem bits_f14_2 : waitsOk T_14_2.2 B_14_2 = true := by kernel_rfl
set_option maxHeartbeats 8000000 in
set_option maxRecDepth 100000 in
theorem sealed_calls (l : List UInt8) (k : ByteArray) (w : World) (hg : GL w) (hl : l.length < 1099511627776) (hk : k.size < 1099511627776) : Calls Tryz.prog 14 #[.string (str l), .string k] w fun e w' => e = .returned (.bool (sealedB l (bl k))) ∧ Below w.heap.size w w' := by
  have HG := Aside0.mk hg
  have HK := Aside0.mk hk
  have HL := Aside0.mk hl
  obtain ⟨t, et⟩ : ∃ t, t = str l := ⟨_, rfl⟩
  have hts : t.size = l.length := by rw [et]; rfl
  obtain ⟨b, eb⟩ : ∃ b, b = str (bodyB l) := ⟨_, rfl⟩
  have hbs : b.size = (bodyB l).length := by rw [eb]; rfl
  rw [← et]
  have BC := Aside0.mk (show ∀ w, Calls Tryz.prog 12 #[.string t] w fun e w' => e = .returned (.string b) ∧ Below w.heap.size w w' from fun w => by rw [et, eb]; exact body_calls l (by omega) w)
  by_cases hb : bodyB l = []
  · have o1 : b.toList = [] := by rw [eb, hb]; exact str_list []
    have o2 : b.toList.isEmpty = true := by rw [o1]; rfl
    have ES := Aside0.mk (show sealedB l (bl k) = false from decide_eq_false (fun h => h.1 hb))
    clear et eb hts hbs hb hg hk hl
    go_enter Tryz.func14, Tryz.ntmps14
    go_wp2_with (go_at_call 12; (with_reducible refine (BC.out w).mono ?_); rintro e w1 ⟨rfl, hb1⟩; have HB1 := Aside0.mk hb1; clear hb1)
    refine start_ (n := 13) (S := fun w' => True) (ds := []) #[false, false, false, false, false, false, false, false, false, false, false, false, false] (by kernel_rfl) rfl rfl trivial (fun hHeld => ?_)
    refine with_tabW tab_f14_2 bits_f14_2 (fun HT_ HW_ => ?_)
    refine pure_ (i := 0) (N := some 8) (v := ?_) (a' := ?_) #[true, false, false, false, false, false, false, false, false, false, false, false, false] rfl rfl (any_of HT_.out (by kernel_rfl)) (fun _ _ _ h => h) (Or.inl ⟨by rfl, ?_⟩) ?_ ?_
    rotate_left
    · intro w'
      go_simp
      with_reducible rfl
    rotate_left
    · simp only [Act.put, List.setIfInBounds_toArray, List.set_cons_zero, List.set_cons_succ, i64_w, i32_w]
      rfl
    refine pure_ (i := 1) (N := some 9) (v := ?_) (a' := ?_) #[true, true, false, false, false, false, false, false, false, false, false, false, false] rfl rfl (any_of HT_.out (by kernel_rfl)) (fun _ _ _ h => h) (Or.inl ⟨by rfl, ?_⟩) ?_ ?_
    rotate_left
    · intro w'
      go_simp
      with_reducible rfl
    rotate_left
    · simp only [Act.put, List.setIfInBounds_toArray, List.set_cons_zero, List.set_cons_succ, i64_w, i32_w]
      rfl
    refine pure_ (i := 2) (N := some 10) (v := ?_) (a' := ?_) #[true, true, true, false, false, false, false, false, false, false, false, false, false] rfl rfl (any_of HT_.out (by kernel_rfl)) (fun _ _ _ h => h) (Or.inl ⟨by rfl, ?_⟩) ?_ ?_
    rotate_left
    · intro w'
      go_simp
      with_reducible rfl
    rotate_left
    · simp only [Act.put, List.setIfInBounds_toArray, List.set_cons_zero, List.set_cons_succ, i64_w, i32_w]
      rfl
    refine pure_ (i := 3) (N := some 11) (v := undef) (a' := ?_) #[true, true, true, true, false, false, false, false, false, false, false, false, false] rfl rfl (any_of HT_.out (by kernel_rfl)) (fun _ _ _ h => h) (Or.inr ⟨by rfl, rfl⟩) ?_ ?_
    rotate_left
    · simp only [Act.put, List.setIfInBounds_toArray, List.set_cons_zero, List.set_cons_succ, i64_w, i32_w]
      rfl
    refine pure_ (i := 4) (N := some 12) (v := undef) (a' := ?_) #[true, true, true, true, true, false, false, false, false, false, false, false, false] rfl rfl (any_of HT_.out (by kernel_rfl)) (fun _ _ _ h => h) (Or.inr ⟨by rfl, rfl⟩) ?_ ?_
    rotate_left
    · simp only [Act.put, List.setIfInBounds_toArray, List.set_cons_zero, List.set_cons_succ, i64_w, i32_w]
      rfl
    refine pure_ (i := 5) (N := some 13) (v := undef) (a' := ?_) #[true, true, true, true, true, true, false, false, false, false, false, false, false] rfl rfl (any_of HT_.out (by kernel_rfl)) (fun _ _ _ h => h) (Or.inr ⟨by rfl, rfl⟩) ?_ ?_
    rotate_left
    · simp only [Act.put, List.setIfInBounds_toArray, List.set_cons_zero, List.set_cons_succ, i64_w, i32_w]
      rfl
    refine pure_ (i := 6) (N := some 14) (v := undef) (a' := ?_) #[true, true, true, true, true, true, true, false, false, false, false, false, false] rfl rfl (any_of HT_.out (by kernel_rfl)) (fun _ _ _ h => h) (Or.inr ⟨by rfl, rfl⟩) ?_ ?_
    rotate_left
    · simp only [Act.put, List.setIfInBounds_toArray, List.set_cons_zero, List.set_cons_succ, i64_w, i32_w]
      rfl
    refine pure_ (i := 7) (N := some 15) (v := undef) (a' := ?_) #[true, true, true, true, true, true, true, true, false, false, false, false, false] rfl rfl (any_of HT_.out (by kernel_rfl)) (fun _ _ _ h => h) (Or.inr ⟨by rfl, rfl⟩) ?_ ?_
    rotate_left
    · simp only [Act.put, List.setIfInBounds_toArray, List.set_cons_zero, List.set_cons_succ, i64_w, i32_w]
      rfl
    refine pure_ (i := 8) (N := some 16) (v := undef) (a' := ?_) #[true, true, true, true, true, true, true, true, true, false, false, false, false] rfl rfl (any_of HT_.out (by kernel_rfl)) (fun _ _ _ h => h) (Or.inr ⟨by rfl, rfl⟩) ?_ ?_
    rotate_left
    · simp only [Act.put, List.setIfInBounds_toArray, List.set_cons_zero, List.set_cons_succ, i64_w, i32_w]
      rfl
    refine pure_ (i := 9) (N := some 17) (v := undef) (a' := ?_) #[true, true, true, true, true, true, true, true, true, true, false, false, false] rfl rfl (any_of HT_.out (by kernel_rfl)) (fun _ _ _ h => h) (Or.inr ⟨by rfl, rfl⟩) ?_ ?_
    rotate_left
    · simp only [Act.put, List.setIfInBounds_toArray, List.set_cons_zero, List.set_cons_succ, i64_w, i32_w]
      rfl
    refine pure_ (i := 10) (N := some 18) (v := undef) (a' := ?_) #[true, true, true, true, true, true, true, true, true, true, true, false, false] rfl rfl (any_of HT_.out (by kernel_rfl)) (fun _ _ _ h => h) (Or.inr ⟨by rfl, rfl⟩) ?_ ?_
    rotate_left
    · simp only [Act.put, List.setIfInBounds_toArray, List.set_cons_zero, List.set_cons_succ, i64_w, i32_w]
      rfl
    refine pure_ (i := 11) (N := some 19) (v := ?_) (a' := ?_) #[true, true, true, true, true, true, true, true, true, true, true, true, false] rfl rfl (any_of HT_.out (by kernel_rfl)) (fun _ _ _ h => h) (Or.inl ⟨by rfl, ?_⟩) ?_ ?_
    rotate_left
    · intro w'
      go_simp
      with_reducible rfl
    rotate_left
    · simp only [Act.put, List.setIfInBounds_toArray, List.set_cons_zero, List.set_cons_succ, i64_w, i32_w]
      rfl
    refine pure_ (i := 12) (N := some 4) (v := ?_) (a' := ?_) #[true, true, true, true, true, true, true, true, true, true, true, true, true] rfl rfl (any_of HT_.out (by kernel_rfl)) (fun _ _ _ h => h) (Or.inl ⟨by rfl, ?_⟩) ?_ ?_
    rotate_left
    · intro w'
      go_simp
      with_reducible rfl
    rotate_left
    · simp only [Act.put, List.setIfInBounds_toArray, List.set_cons_zero, List.set_cons_succ, i64_w, i32_w]
      rfl
    refine done_ (done_of HT_.out (by kernel_rfl)) ?_
    clear HT_ HW_ hHeld
    go_wp2
    go_ret
    rw [ES.out]
    exact ⟨rfl, below_drew1 HB1.out⟩
  · have o1 : b.toList.isEmpty = false := by
      rw [eb, str_list]
      cases h : bodyB l with
      | nil => exact absurd h hb
      | cons x y => rfl
    have o2 : ¬ b.toList = [] := by rw [eb, str_list]; exact hb
    have o3 : b.size ≤ t.size := by rw [hbs, hts]; exact body_len l
    obtain ⟨m, em⟩ : ∃ m, m = str (hmac (bl k) (bodyB l)) := ⟨_, rfl⟩
    have TC := Aside0.mk (show ∀ w, GL w → Calls Tryz.prog 23 #[.string k, .string b] w fun e w' => e = .returned (.string m) ∧ Below w.heap.size w w' from fun w hg => by
      have h := tag_calls k b w hg hk (by rw [hbs]; exact Nat.lt_of_le_of_lt (body_len l) hl)
      rw [em]
      rw [show bl b = bodyB l by rw [eb]; rfl] at h
      exact h)
    have ES := Aside0.mk (show sealedB l (bl k) = decide (l.drop (bodyB l).length = hmac (bl k) (bodyB l)) from decide_eq_decide.mpr ⟨fun h => h.2, fun h => ⟨hb, h⟩⟩)
    have SC := Aside0.mk (show ∀ w, Calls Tryz.prog 36 #[.string (t.extract b.size t.size), .string m] w fun e w' => e = .returned (.bool (sealedB l (bl k))) ∧ Below w.heap.size w w' from fun w => by
      rw [ES.out, em, hbs, et, str_drop]
      exact same_calls _ _ (by rw [List.length_drop]; omega) w)
    clear et eb em hts hbs hb hg hk hl
    go_enter Tryz.func14, Tryz.ntmps14
    go_wp2_with (go_at_call 12; (with_reducible refine (BC.out w).mono ?_); rintro e w1 ⟨rfl, hb1⟩; have HB1 := Aside0.mk hb1; clear hb1)
    refine start_ (n := 13) (S := fun w' => True) (ds := []) #[false, false, false, false, false, false, false, false, false, false, false, false, false] (by kernel_rfl) rfl rfl trivial (fun hHeld => ?_)
    refine with_tabW tab_f14_2 bits_f14_2 (fun HT_ HW_ => ?_)
    refine pure_ (i := 0) (N := some 8) (v := ?_) (a' := ?_) #[true, false, false, false, false, false, false, false, false, false, false, false, false] rfl rfl (any_of HT_.out (by kernel_rfl)) (fun _ _ _ h => h) (Or.inl ⟨by rfl, ?_⟩) ?_ ?_
    rotate_left
    · intro w'
      go_simp
      with_reducible rfl
    rotate_left
    · simp only [Act.put, List.setIfInBounds_toArray, List.set_cons_zero, List.set_cons_succ, i64_w, i32_w]
      rfl
    refine pure_ (i := 1) (N := some 9) (v := ?_) (a' := ?_) #[true, true, false, false, false, false, false, false, false, false, false, false, false] rfl rfl (any_of HT_.out (by kernel_rfl)) (fun _ _ _ h => h) (Or.inl ⟨by rfl, ?_⟩) ?_ ?_
    rotate_left
    · intro w'
      go_simp
      with_reducible rfl
    rotate_left
    · simp only [Act.put, List.setIfInBounds_toArray, List.set_cons_zero, List.set_cons_succ, i64_w, i32_w]
      rfl
    refine pure_ (i := 2) (N := some 10) (v := ?_) (a' := ?_) #[true, true, true, false, false, false, false, false, false, false, false, false, false] rfl rfl (any_of HT_.out (by kernel_rfl)) (fun _ _ _ h => h) (Or.inl ⟨by rfl, ?_⟩) ?_ ?_
    rotate_left
    · intro w'
      go_simp
      with_reducible rfl
    rotate_left
    · simp only [Act.put, List.setIfInBounds_toArray, List.set_cons_zero, List.set_cons_succ, i64_w, i32_w]
      rfl
    refine pure_ (i := 3) (N := some 11) (v := ?_) (a' := ?_) #[true, true, true, true, false, false, false, false, false, false, false, false, false] rfl rfl (any_of HT_.out (by kernel_rfl)) (fun _ _ _ h => h) (Or.inl ⟨by rfl, ?_⟩) ?_ ?_
    rotate_left
    · intro w'
      go_simp
      with_reducible rfl
    rotate_left
    · simp only [Act.put, List.setIfInBounds_toArray, List.set_cons_zero, List.set_cons_succ, i64_w, i32_w]
      rfl
    refine pure_ (i := 4) (N := some 12) (v := ?_) (a' := ?_) #[true, true, true, true, true, false, false, false, false, false, false, false, false] rfl rfl (any_of HT_.out (by kernel_rfl)) (fun _ _ _ h => h) (Or.inl ⟨by rfl, ?_⟩) ?_ ?_
    rotate_left
    · intro w'
      go_simp
      with_reducible rfl
    rotate_left
    · simp only [Act.put, List.setIfInBounds_toArray, List.set_cons_zero, List.set_cons_succ, i64_w, i32_w]
      rfl
    refine pure_ (i := 5) (N := some 13) (v := ?_) (a' := ?_) #[true, true, true, true, true, true, false, false, false, false, false, false, false] rfl rfl (any_of HT_.out (by kernel_rfl)) (fun _ _ _ h => h) (Or.inl ⟨by rfl, ?_⟩) ?_ ?_
    rotate_left
    · intro w'
      go_simp
      with_reducible rfl
    rotate_left
    · simp only [Act.put, List.setIfInBounds_toArray, List.set_cons_zero, List.set_cons_succ, i64_w, i32_w]
      rfl
    refine pure_ (i := 6) (N := some 14) (v := ?_) (a' := ?_) #[true, true, true, true, true, true, true, false, false, false, false, false, false] rfl rfl (any_of HT_.out (by kernel_rfl)) (fun _ _ _ h => h) (Or.inl ⟨by rfl, ?_⟩) ?_ ?_
    rotate_left
    · intro w'
      go_simp
      with_reducible rfl
    rotate_left
    · simp only [Act.put, List.setIfInBounds_toArray, List.set_cons_zero, List.set_cons_succ, i64_w, i32_w]
      rfl
    refine pure_ (i := 7) (N := some 15) (v := ?_) (a' := ?_) #[true, true, true, true, true, true, true, true, false, false, false, false, false] rfl rfl (any_of HT_.out (by kernel_rfl)) (fun _ _ _ h => h) (Or.inl ⟨by rfl, ?_⟩) ?_ ?_
    rotate_left
    · intro w'
      go_simp
      with_reducible rfl
    rotate_left
    · simp only [Act.put, List.setIfInBounds_toArray, List.set_cons_zero, List.set_cons_succ, i64_w, i32_w]
      rfl
    refine pure_ (i := 8) (N := some 16) (v := ?_) (a' := ?_) #[true, true, true, true, true, true, true, true, true, false, false, false, false] rfl rfl (any_of HT_.out (by kernel_rfl)) (fun _ _ _ h => h) (Or.inl ⟨by rfl, ?_⟩) ?_ ?_
    rotate_left
    · intro w'
      go_simp
      with_reducible rfl
    rotate_left
    · simp only [Act.put, List.setIfInBounds_toArray, List.set_cons_zero, List.set_cons_succ, i64_w, i32_w]
      rfl
    refine one_ (i := 9) (N := some 17) #[true, true, true, true, true, true, true, true, true, true, false, false, false] rfl rfl (one_of HT_.out (by kernel_rfl)) (by decide) (fun K hK => ?_)
    refine goes_ Tryz.func23 (by kernel_rfl) rfl #[.string k, .string b] (by rfl) rfl rfl (by (try simp only [List.map_toArray, List.map_cons, List.map_nil]); first | done | rfl) ?_
    with_reducible refine (TC.out _ (gl_below HG.out (below_drew1 HB1.out))).mono ?_
    rintro e w2 ⟨rfl, hb2⟩
    refine ⟨_, rfl, ?_⟩
    have HB2 := Aside0.mk (show Below w.heap.size w w2 from (below_drew1 HB1.out).trans (hb2.mono HB1.out.size))
    refine hK.out _ _ trivial (fun hHeld => ?_)
    clear hK K
    refine norm_ (a' := ?_) ?_ ?_
    rotate_left
    · show Act.put _ (some 17) _ = _
      simp only [Act.put, List.setIfInBounds_toArray, List.set_cons_zero, List.set_cons_succ, i64_w, i32_w]
      rfl
    refine one_ (i := 10) (N := some 18) #[true, true, true, true, true, true, true, true, true, true, true, false, false] rfl rfl (one_of HT_.out (by kernel_rfl)) (by decide) (fun K hK => ?_)
    refine goes_ Tryz.func36 (by kernel_rfl) rfl #[.string (t.extract b.size t.size), .string m] (by rfl) rfl rfl (by (try simp only [List.map_toArray, List.map_cons, List.map_nil]); first | done | rfl) ?_
    with_reducible refine (SC.out _).mono ?_
    rintro e w3 ⟨rfl, hb3⟩
    refine ⟨_, rfl, ?_⟩
    have HB3 := Aside0.mk (HB2.out.trans (hb3.mono HB2.out.size))
    refine hK.out _ _ trivial (fun hHeld => ?_)
    clear hK K
    refine norm_ (a' := ?_) ?_ ?_
    rotate_left
    · show Act.put _ (some 18) _ = _
      simp only [Act.put, List.setIfInBounds_toArray, List.set_cons_zero, List.set_cons_succ, i64_w, i32_w]
      rfl
    refine pure_ (i := 11) (N := some 19) (v := ?_) (a' := ?_) #[true, true, true, true, true, true, true, true, true, true, true, true, false] rfl rfl (any_of HT_.out (by kernel_rfl)) (fun _ _ _ h => h) (Or.inl ⟨by rfl, ?_⟩) ?_ ?_
    rotate_left
    · intro w'
      go_simp
      with_reducible rfl
    rotate_left
    · simp only [Act.put, List.setIfInBounds_toArray, List.set_cons_zero, List.set_cons_succ, i64_w, i32_w]
      rfl
    refine pure_ (i := 12) (N := some 4) (v := ?_) (a' := ?_) #[true, true, true, true, true, true, true, true, true, true, true, true, true] rfl rfl (any_of HT_.out (by kernel_rfl)) (fun _ _ _ h => h) (Or.inl ⟨by rfl, ?_⟩) ?_ ?_
    rotate_left
    · intro w'
      go_simp
      with_reducible rfl
    rotate_left
    · simp only [Act.put, List.setIfInBounds_toArray, List.set_cons_zero, List.set_cons_succ, i64_w, i32_w]
      rfl
    refine done_ (done_of HT_.out (by kernel_rfl)) ?_
    clear HT_ HW_ hHeld
    go_wp2
    go_ret
    exact ⟨rfl, HB3.out⟩
def sealB (d : Dg) (k : List UInt8) : ByteArray × Int :=
  if 3 ≤ d.kind ∧ d.kind ≤ 7 then
    if (enc { d with tag := str (List.replicate 32 0) }).2 ≠ 0 then (⟨#[]⟩, (enc { d with tag := str (List.replicate 32 0) }).2)
    else (str (bodyB (bl (enc { d with tag := str (List.replicate 32 0) }).1) ++ hmac k (bodyB (bl (enc { d with tag := str (List.replicate 32 0) }).1))), 0)
  else (⟨#[]⟩, 71)
theorem enc_size (d : Dg) : (enc d).1.size ≤ 1200 := by
  unfold enc
  split
  · dsimp only
    split
    · exact Nat.zero_le _
    · split
      · exact Nat.zero_le _
      · rename_i h
        show ((putAll d (fieldsOf d.kind) (false, some ([74, 48, 49] ++ [UInt8.ofNat d.kind.toNat]))).2.getD []).length ≤ 1200
        omega
  · exact Nat.zero_le _
set_option maxHeartbeats 8000000 in
set_option maxRecDepth 100000 in
theorem seal_calls (d : Dg) (k : ByteArray) (w : World) (hg : GL w) (hd : d.ok) (hkd : -9223372036854775808 ≤ d.kind ∧ d.kind ≤ 9223372036854775807) (hk : k.size < 1099511627776) : Calls Tryz.prog 18 #[.agg d.cells.toArray, .string k] w fun e w' => e = .returned (.tuple #[.string (sealB d (bl k)).1, .int .i64 (sealB d (bl k)).2]) ∧ Below w.heap.size w w' := by
  have HG := Aside0.mk hg
  have HK := Aside0.mk hk
  have RC := Aside0.mk (show ∀ w, Calls Tryz.prog 44 #[.string ⟨#[0]⟩, .int .i64 32] w fun e w' => e = .returned (.string (str (List.replicate 32 0))) ∧ Below w.heap.size w w' from fun w => rep_calls 32 32 rfl (by omega) w)
  have TGC := Aside0.mk (show ∀ w, Calls Tryz.prog 35 #[.int .i64 d.kind] w fun e w' => e = .returned (.bool (decide (3 ≤ d.kind ∧ d.kind ≤ 7))) ∧ Below w.heap.size w w' from tagged_calls d.kind)
  by_cases h37 : 3 ≤ d.kind ∧ d.kind ≤ 7
  · obtain ⟨d2, ed2⟩ : ∃ d2, d2 = { d with tag := str (List.replicate 32 0) } := ⟨_, rfl⟩
    obtain ⟨s, es⟩ : ∃ s, s = (enc d2).1 := ⟨_, rfl⟩
    obtain ⟨c, ec⟩ : ∃ c, c = (enc d2).2 := ⟨_, rfl⟩
    have hok : d2.ok := by rw [ed2]; unfold Dg.ok at hd ⊢; exact ⟨hd.1, hd.2.1, hd.2.2.1, hd.2.2.2.1, hd.2.2.2.2.1, hd.2.2.2.2.2.1, hd.2.2.2.2.2.2.1, by show (List.replicate 32 (0 : UInt8)).length < _; rw [List.length_replicate]; omega⟩
    have hrow : d.cells.set 14 (.string (str (List.replicate 32 0))) = d2.cells := by rw [ed2]; rfl
    have EC := Aside0.mk (show ∀ w, Calls Tryz.prog 16 #[.agg d2.cells.toArray] w fun e w' => e = .returned (.tuple #[.string s, .int .i64 c]) ∧ Below w.heap.size w w' from fun w => by rw [es, ec]; exact encode_calls d2 hok (by rw [ed2]; exact hkd) w)
    have hss : s.size ≤ 1200 := by rw [es]; exact enc_size d2
    have ESB := Aside0.mk (show sealB d (bl k) = if c ≠ 0 then (⟨#[]⟩, c) else (str (bodyB (bl s) ++ hmac (bl k) (bodyB (bl s))), 0) from by unfold sealB; rw [if_pos h37, ← ed2, ← ec, ← es])
    rw [decide_eq_true h37] at TGC
    have HROW := Aside0.mk hrow
    clear es ec ed2 hok hrow h37
    obtain ⟨b, eb⟩ : ∃ b, b = str (bodyB (bl s)) := ⟨_, rfl⟩
    obtain ⟨m, em⟩ : ∃ m, m = str (hmac (bl k) (bodyB (bl s))) := ⟨_, rfl⟩
    have BC := Aside0.mk (show ∀ w, Calls Tryz.prog 12 #[.string s] w fun e w' => e = .returned (.string b) ∧ Below w.heap.size w w' from fun w => by
      have h := body_calls (bl s) (by rw [bl_len]; omega) w
      rw [str_bl, ← eb] at h
      exact h)
    have TC := Aside0.mk (show ∀ w, GL w → Calls Tryz.prog 23 #[.string k, .string b] w fun e w' => e = .returned (.string m) ∧ Below w.heap.size w w' from fun w hg => by
      have h := tag_calls k b w hg hk (by rw [eb]; have := body_len (bl s); rw [bl_len] at this; show (bodyB (bl s)).length < _; omega)
      rw [em]
      rw [show bl b = bodyB (bl s) by rw [eb]; rfl] at h
      exact h)
    have EBM := Aside0.mk (show str (bodyB (bl s) ++ hmac (bl k) (bodyB (bl s))) = b ++ m from by rw [eb, em]; apply ByteArray.ext; simp [str])
    have o3 : ¬ 9223372036854775807 < b.size + m.size := by
      have h1 : b.size ≤ s.size := by rw [eb]; have := body_len (bl s); rw [bl_len] at this; exact this
      have h2 : m.size = 32 := by rw [em]; exact length_sha _
      omega
    clear eb em hss hg hd hkd hk
    by_cases hc : c = 0
    · have ES2 := Aside0.mk (show sealB d (bl k) = (b ++ m, 0) from by rw [ESB.out, if_neg (by rw [hc]; decide), EBM.out])
      subst hc
      go_enter Tryz.func18, Tryz.ntmps18
      go_wp2_with (first
        | (refine wpList_box_v rfl 27 _ rfl d.cells rfl (by kernel_rfl) ?_; intro D w1 eD hD1 hb1 hz1; have c0 : w1.cell? ⟨D, 0, none⟩ = some (.int .i64 d.kind) := cell_of hD1.out rfl)
        | (go_at_call 35; (with_reducible refine (TGC.out w1).mono ?_); rintro e w2 ⟨rfl, hb2⟩; have HB2 := Aside0.mk (hb1.out.trans (hb2.mono hb1.out.size)); have HD2 := Aside0.mk ((hb2.block D (blk_lt hD1.out)).trans hD1.out); clear hb2)
        | (go_at_call 44; (with_reducible refine (RC.out _).mono ?_); rintro e w3 ⟨rfl, hb3⟩; have HB3 := Aside0.mk (HB2.out.trans (hb3.mono HB2.out.size)); have HD3 := Aside0.mk ((hb3.block D (blk_lt HD2.out)).trans HD2.out); have c14 : w3.cell? ⟨D, 14, none⟩ = some (.string d.tag) := cell_of HD3.out rfl; have f14 := Wd_thaw HD3.out 14; clear hb3)
        | (refine wpList_load_agg rfl 27 _ rfl D 0 rfl d2.cells (load_all (HROW.out ▸ set_of HD3.out 14 (.string (str (List.replicate 32 0))))) _ Tryz.underlying27 rfl (by kernel_rfl) ?_)
        | (go_at_call 16; (with_reducible refine (EC.out _).mono ?_); rintro e w4 ⟨rfl, hb4⟩; have HB4 := Aside0.mk (show Below w.heap.size w w4 from (below_set1 HB3.out (Nat.le_of_eq eD.out.symm) _).trans (hb4.mono (below_set1 HB3.out (Nat.le_of_eq eD.out.symm) _).size)); clear hb4)
        | (go_at_call 12; (with_reducible refine (BC.out _).mono ?_); rintro e w5 ⟨rfl, hb5⟩; have HB5 := Aside0.mk (HB4.out.trans (hb5.mono HB4.out.size)); clear hb5)
        | (go_at_call 23; (with_reducible refine (TC.out _ (gl_below HG.out HB5.out)).mono ?_); rintro e w6 ⟨rfl, hb6⟩; have HB6 := Aside0.mk (HB5.out.trans (hb6.mono HB5.out.size)); clear hb6))
      go_ret2
      rw [ES2.out]
      exact ⟨rfl, HB6.out⟩
    · have ES2 := Aside0.mk (show sealB d (bl k) = (⟨#[]⟩, c) from by rw [ESB.out, if_pos hc])
      have o1 : (c == 0) = false := beq_eq_false_iff_ne.mpr hc
      have o2 : (c != 0) = true := by simp [bne, o1]
      clear hc
      go_enter Tryz.func18, Tryz.ntmps18
      go_wp2_with (first
        | (refine wpList_box_v rfl 27 _ rfl d.cells rfl (by kernel_rfl) ?_; intro D w1 eD hD1 hb1 hz1; have c0 : w1.cell? ⟨D, 0, none⟩ = some (.int .i64 d.kind) := cell_of hD1.out rfl)
        | (go_at_call 35; (with_reducible refine (TGC.out w1).mono ?_); rintro e w2 ⟨rfl, hb2⟩; have HB2 := Aside0.mk (hb1.out.trans (hb2.mono hb1.out.size)); have HD2 := Aside0.mk ((hb2.block D (blk_lt hD1.out)).trans hD1.out); clear hb2)
        | (go_at_call 44; (with_reducible refine (RC.out _).mono ?_); rintro e w3 ⟨rfl, hb3⟩; have HB3 := Aside0.mk (HB2.out.trans (hb3.mono HB2.out.size)); have HD3 := Aside0.mk ((hb3.block D (blk_lt HD2.out)).trans HD2.out); have c14 : w3.cell? ⟨D, 14, none⟩ = some (.string d.tag) := cell_of HD3.out rfl; have f14 := Wd_thaw HD3.out 14; clear hb3)
        | (refine wpList_load_agg rfl 27 _ rfl D 0 rfl d2.cells (load_all (HROW.out ▸ set_of HD3.out 14 (.string (str (List.replicate 32 0))))) _ Tryz.underlying27 rfl (by kernel_rfl) ?_)
        | (go_at_call 16; (with_reducible refine (EC.out _).mono ?_); rintro e w4 ⟨rfl, hb4⟩; have HB4 := Aside0.mk (show Below w.heap.size w w4 from (below_set1 HB3.out (Nat.le_of_eq eD.out.symm) _).trans (hb4.mono (below_set1 HB3.out (Nat.le_of_eq eD.out.symm) _).size)); clear hb4))
      go_ret2
      rw [ES2.out]
      exact ⟨rfl, HB4.out⟩
  · have ES2 := Aside0.mk (show sealB d (bl k) = (⟨#[]⟩, 71) from if_neg h37)
    rw [decide_eq_false h37] at TGC
    clear h37 hg hd hkd hk
    go_enter Tryz.func18, Tryz.ntmps18
    go_wp2_with (first
      | (refine wpList_box_v rfl 27 _ rfl d.cells rfl (by kernel_rfl) ?_; intro D w1 eD hD1 hb1 hz1; have c0 : w1.cell? ⟨D, 0, none⟩ = some (.int .i64 d.kind) := cell_of hD1.out rfl)
      | (go_at_call 35; (with_reducible refine (TGC.out w1).mono ?_); rintro e w2 ⟨rfl, hb2⟩))
    go_ret2
    rw [ES2.out]
    exact ⟨rfl, hb1.out.trans (hb2.mono hb1.out.size)⟩
end Go.Proofs.YtniabkphbnimaaaGreatDoor.Sh
namespace Go.Proofs.YtniabkphbnimaaaGreatDoor.Sh
open Go Go.RowKit Go.Maps Go.Proofs.YtniabkphbnimaaaGreatDoorW.PrintWords Go.Proofs.YtniabkphbnimaaaGreatDoorW.PrintLast Go.Proofs.YtniabkphbnimaaaGreatDoor.Bs
theorem dw_nil {α : Type} (p : α → Bool) (l : List α) : l.dropWhile p = [] ↔ ∀ b ∈ l, p b = true := by
  induction l with
  | nil => simp
  | cons x l ih =>
    by_cases h : p x = true
    · rw [List.dropWhile_cons_of_pos h, ih]
      simp [h]
    · rw [List.dropWhile_cons_of_neg h]
      simp [h]
theorem trimB_nil (l : List UInt8) (c : UInt8) : Lib.trimB l c = [] ↔ ∀ b ∈ l, b = c := by
  have e1 : ∀ m : List UInt8, Lib.trimLeftB m c = [] ↔ ∀ b ∈ m, b = c := by
    intro m
    unfold Lib.trimLeftB
    rw [dw_nil]
    simp
  unfold Lib.trimB
  rw [e1]
  unfold Lib.trimRightB
  constructor
  · intro h
    have hn : l.reverse.dropWhile (· == c) = [] := by
      cases hy : l.reverse.dropWhile (· == c) with
      | nil => rfl
      | cons y ys =>
        exfalso
        have h1 := List.head?_dropWhile_not (· == c) l.reverse
        rw [hy] at h1
        have h2 := h y (by rw [hy]; simp)
        simp [h2] at h1
    intro b hb
    have := (dw_nil _ _).mp hn b (List.mem_reverse.mpr hb)
    simpa using this
  · intro h b hb
    have h2 : l.reverse.dropWhile (· == c) = [] := (dw_nil _ _).mpr (fun b hb => by simp [h b (List.mem_reverse.mp hb)])
    rw [h2] at hb
    cases hb
@[reducible] def dk (k : Nat) : Dg := { Dg.zero with kind := (k : Int) }
/-- What comes behind the fields. -/
def fin (o : Option (Dg × Bool × List UInt8)) : Dg × Int :=
  match o with
  | none => (.zero, 72)
  | some (d, bad, r) => if r ≠ [] then (.zero, 72) else if bad = true then (.zero, 73) else (d, 0)
theorem nil_drop (t : List UInt8) (n : Nat) : t.drop n ≠ [] ↔ n < t.length := by
  rw [Ne, List.drop_eq_nil_iff]
  omega
theorem dec1 (t : List UInt8) : fin (getAll (fieldsOf 1) (dk 1, false, t)) = if t.length = 92 then (if ∀ b ∈ t.drop 16, b = 0 then ({ dk 1 with nonce := str (t.take 16) }, 0) else (.zero, 73)) else (.zero, 72) := by
  show fin (getAll [.nonce, .zeros] (dk 1, false, t)) = _
  simp only [getAll, getF]
  by_cases h1 : 16 ≤ t.length
  · rw [if_pos h1]
    simp only [Option.bind_some, List.length_drop, List.drop_drop]
    by_cases h2 : 76 ≤ t.length - 16
    · rw [if_pos h2]
      simp only [Option.bind_some, fin]
      by_cases h3 : t.length = 92
      · rw [if_pos h3, if_neg (by rw [nil_drop]; omega), List.take_of_length_le (by rw [List.length_drop]; omega)]
        by_cases h4 : ∀ b ∈ t.drop 16, b = 0
        · rw [if_pos h4, if_neg (by simp only [decide_eq_true_eq]; exact fun h => h ((trimB_nil _ _).mpr h4))]
        · rw [if_neg h4, if_pos (decide_eq_true (p := Lib.trimB (t.drop 16) 0 ≠ []) (fun h => h4 ((trimB_nil _ _).mp h)))]
      · rw [if_neg h3, if_pos (by rw [nil_drop]; omega)]
    · rw [if_neg h2, if_neg (by omega)]
      rfl
  · rw [if_neg h1, if_neg (by omega)]
    rfl
theorem dec2 (t : List UInt8) : fin (getAll (fieldsOf 2) (dk 2, false, t)) = if t.length = 56 then ({ dk 2 with nonce := str (t.take 16), epoch := num ((t.drop 16).take 8), cookie := str ((t.drop 24).take 32) }, 0) else (.zero, 72) := by
  show fin (getAll [.nonce, .epoch, .cookie] (dk 2, false, t)) = _
  simp only [getAll, getF]
  by_cases h1 : 16 ≤ t.length
  · rw [if_pos h1]
    simp only [Option.bind_some, List.length_drop, List.drop_drop]
    by_cases h2 : 8 ≤ t.length - 16
    · rw [if_pos h2]
      simp only [Option.bind_some, List.length_drop, List.drop_drop]
      by_cases h3 : 32 ≤ t.length - (16 + 8)
      · rw [if_pos h3]
        simp only [Option.bind_some, fin]
        by_cases h4 : t.length = 56
        · rw [if_pos h4, if_neg (by rw [nil_drop]; omega), if_neg (by decide)]
        · rw [if_neg h4, if_pos (by rw [nil_drop]; omega)]
      · rw [if_neg h3, if_neg (by omega)]
        rfl
    · rw [if_neg h2, if_neg (by omega)]
      rfl
  · rw [if_neg h1, if_neg (by omega)]
    rfl
theorem dec3 (t : List UInt8) : fin (getAll (fieldsOf 3) (dk 3, false, t)) = if 89 ≤ t.length ∧ t.length = 89 + (t.getD 56 0).toNat then ({ dk 3 with nonce := str (t.take 16), epoch := num ((t.drop 16).take 8), cookie := str ((t.drop 24).take 32), name := str ((t.drop 57).take (t.getD 56 0).toNat), tag := str ((t.drop (t.length - 32)).take 32) }, 0) else (.zero, 72) := by
  show fin (getAll [.nonce, .epoch, .cookie, .name, .tag] (dk 3, false, t)) = _
  simp only [getAll, getF]
  by_cases h1 : 16 ≤ t.length
  · rw [if_pos h1]
    simp only [Option.bind_some, List.length_drop, List.drop_drop]
    by_cases h2 : 8 ≤ t.length - 16
    · rw [if_pos h2]
      simp only [Option.bind_some, List.length_drop, List.drop_drop]
      by_cases h3 : 32 ≤ t.length - (16 + 8)
      · rw [if_pos h3]
        simp only [Option.bind_some]
        by_cases h4 : 57 ≤ t.length
        · have e : t.drop (16 + 8 + 32) = t.getD 56 0 :: t.drop 57 := by
            rw [show 16 + 8 + 32 = 56 from rfl, List.drop_eq_getElem_cons (by omega), List.getD_eq_getElem?_getD, List.getElem?_eq_getElem (by omega)]
            rfl
          rw [e]
          simp only [Option.bind_some, List.length_drop, List.drop_drop]
          by_cases h5 : (t.getD 56 0).toNat ≤ t.length - 57
          · rw [if_pos h5]
            simp only [Option.bind_some, List.length_drop, List.drop_drop]
            by_cases h6 : 32 ≤ t.length - (57 + (t.getD 56 0).toNat)
            · rw [if_pos h6]
              simp only [Option.bind_some, fin]
              by_cases h7 : t.length = 89 + (t.getD 56 0).toNat
              · rw [if_neg (by rw [nil_drop]; omega), if_neg (by decide), if_pos ⟨by omega, h7⟩, show 57 + (t.getD 56 0).toNat = t.length - 32 by omega]
              · rw [if_pos (by rw [nil_drop]; omega), if_neg (fun h => h7 h.2)]
            · rw [if_neg h6, if_neg (by omega)]
              rfl
          · rw [if_neg h5, if_neg (by omega)]
            rfl
        · rw [List.drop_of_length_le (by omega), if_neg (by omega)]
          rfl
      · rw [if_neg h3, if_neg (by omega)]
        rfl
    · rw [if_neg h2, if_neg (by omega)]
      rfl
  · rw [if_neg h1, if_neg (by omega)]
    rfl
theorem dec4 (t : List UInt8) : fin (getAll (fieldsOf 4) (dk 4, false, t)) = if t.length = 73 then ({ dk 4 with nonce := str (t.take 16), session := num ((t.drop 16).take 8), player := ((t.getD 24 0).toNat : Int), salt := str ((t.drop 25).take 16), tag := str ((t.drop 41).take 32) }, 0) else (.zero, 72) := by
  show fin (getAll [.nonce, .session, .player, .salt, .tag] (dk 4, false, t)) = _
  simp only [getAll, getF]
  by_cases h1 : 16 ≤ t.length
  · rw [if_pos h1]
    simp only [Option.bind_some, List.length_drop, List.drop_drop]
    by_cases h2 : 8 ≤ t.length - 16
    · rw [if_pos h2]
      simp only [Option.bind_some, List.length_drop, List.drop_drop]
      by_cases h4 : 25 ≤ t.length
      · have e : t.drop (16 + 8) = t.getD 24 0 :: t.drop 25 := by
          rw [show 16 + 8 = 24 from rfl, List.drop_eq_getElem_cons (by omega), List.getD_eq_getElem?_getD, List.getElem?_eq_getElem (by omega)]
          rfl
        rw [e]
        simp only [Option.bind_some, List.length_drop, List.drop_drop]
        by_cases h5 : 16 ≤ t.length - 25
        · rw [if_pos h5]
          simp only [Option.bind_some, List.length_drop, List.drop_drop]
          by_cases h6 : 32 ≤ t.length - (25 + 16)
          · rw [if_pos h6]
            simp only [Option.bind_some, fin]
            by_cases h7 : t.length = 73
            · rw [if_pos h7, if_neg (by rw [nil_drop]; omega), if_neg (by decide)]
            · rw [if_neg h7, if_pos (by rw [nil_drop]; omega)]
          · rw [if_neg h6, if_neg (by omega)]
            rfl
        · rw [if_neg h5, if_neg (by omega)]
          rfl
      · rw [List.drop_of_length_le (by omega), if_neg (by omega)]
        rfl
    · rw [if_neg h2, if_neg (by omega)]
      rfl
  · rw [if_neg h1, if_neg (by omega)]
    rfl
theorem dec5 (t : List UInt8) : fin (getAll (fieldsOf 5) (dk 5, false, t)) = if t.length = 51 then (if 3 < (t.getD 18 0).toNat then (.zero, 73) else ({ dk 5 with session := num (t.take 8), seq := num ((t.drop 8).take 8), thr := sbyte (t.getD 16 0), trn := sbyte (t.getD 17 0), fire := bit0 (t.getD 18 0), boost := bit1 (t.getD 18 0), tag := str ((t.drop 19).take 32) }, 0)) else (.zero, 72) := by
  show fin (getAll [.session, .seq, .command, .tag] (dk 5, false, t)) = _
  simp only [getAll, getF]
  by_cases h1 : 8 ≤ t.length
  · rw [if_pos h1]
    simp only [Option.bind_some, List.length_drop, List.drop_drop]
    by_cases h2 : 8 ≤ t.length - 8
    · rw [if_pos h2]
      simp only [Option.bind_some, List.length_drop, List.drop_drop]
      by_cases h4 : 19 ≤ t.length
      · have e : t.drop (8 + 8) = t.getD 16 0 :: t.getD 17 0 :: t.getD 18 0 :: t.drop 19 := by
          rw [show 8 + 8 = 16 from rfl, List.drop_eq_getElem_cons (by omega), List.drop_eq_getElem_cons (i := 16 + 1) (by omega), List.drop_eq_getElem_cons (i := 16 + 1 + 1) (by omega)]
          simp only [List.getD_eq_getElem?_getD]
          rw [List.getElem?_eq_getElem (i := 16) (by omega), List.getElem?_eq_getElem (i := 17) (by omega), List.getElem?_eq_getElem (i := 18) (by omega)]
          rfl
        rw [e]
        simp only [Option.bind_some, List.length_drop, List.drop_drop]
        by_cases h5 : 32 ≤ t.length - 19
        · rw [if_pos h5]
          simp only [Option.bind_some, fin]
          by_cases h7 : t.length = 51
          · rw [if_pos h7, if_neg (by rw [nil_drop]; omega)]
            simp only [decide_eq_true_eq]
          · rw [if_neg h7, if_pos (by rw [nil_drop]; omega)]
        · rw [if_neg h5, if_neg (by omega)]
          rfl
      · have e : (match t.drop (8 + 8) with | a :: b :: c :: t => some (({ { { dk 5 with session := num (t.take 8) } with seq := num ((t.drop 8).take 8) } with thr := sbyte a, trn := sbyte b, fire := bit0 c, boost := bit1 c } : Dg), decide (3 < c.toNat), t) | _ => none) = none := by
          have hl : (t.drop (8 + 8)).length ≤ 2 := by rw [List.length_drop]; omega
          match h : t.drop (8 + 8), hl with
          | [], _ => rfl
          | [_], _ => rfl
          | [_, _], _ => rfl
        have hl : (t.drop (8 + 8)).length ≤ 2 := by rw [List.length_drop]; omega
        rw [if_neg (by omega)]
        match h : t.drop (8 + 8), hl with
        | [], _ => rfl
        | [_], _ => rfl
        | [_, _], _ => rfl
    · rw [if_neg h2, if_neg (by omega)]
      rfl
  · rw [if_neg h1, if_neg (by omega)]
    rfl
theorem dec6 (t : List UInt8) : fin (getAll (fieldsOf 6) (dk 6, false, t)) = if 48 ≤ t.length then ({ dk 6 with session := num (t.take 8), seq := num ((t.drop 8).take 8), data := str ((t.drop 16).take (t.length - 48)), tag := str ((t.drop (t.length - 32)).take 32) }, 0) else (.zero, 72) := by
  show fin (getAll [.session, .seq, .data, .tag] (dk 6, false, t)) = _
  simp only [getAll, getF]
  by_cases h1 : 8 ≤ t.length
  · rw [if_pos h1]
    simp only [Option.bind_some, List.length_drop, List.drop_drop]
    by_cases h2 : 8 ≤ t.length - 8
    · rw [if_pos h2]
      simp only [Option.bind_some, List.length_drop, List.drop_drop]
      by_cases h4 : 32 ≤ t.length - (8 + 8)
      · rw [if_pos h4]
        simp only [Option.bind_some, List.length_drop, List.drop_drop]
        rw [if_pos (by omega)]
        simp only [Option.bind_some, fin]
        rw [if_neg (by rw [nil_drop]; omega), if_neg (by decide), if_pos (by omega), show t.length - (8 + 8) - 32 = t.length - 48 by omega, show 8 + 8 + (t.length - 48) = t.length - 32 by omega]
      · rw [if_neg h4, if_neg (by omega)]
        rfl
    · rw [if_neg h2, if_neg (by omega)]
      rfl
  · rw [if_neg h1, if_neg (by omega)]
    rfl
theorem dec7 (t : List UInt8) : fin (getAll (fieldsOf 7) (dk 7, false, t)) = if t.length = 48 then ({ dk 7 with session := num (t.take 8), seq := num ((t.drop 8).take 8), tag := str ((t.drop 16).take 32) }, 0) else (.zero, 72) := by
  show fin (getAll [.session, .seq, .tag] (dk 7, false, t)) = _
  simp only [getAll, getF]
  by_cases h1 : 8 ≤ t.length
  · rw [if_pos h1]
    simp only [Option.bind_some, List.length_drop, List.drop_drop]
    by_cases h2 : 8 ≤ t.length - 8
    · rw [if_pos h2]
      simp only [Option.bind_some, List.length_drop, List.drop_drop]
      by_cases h4 : 32 ≤ t.length - (8 + 8)
      · rw [if_pos h4]
        simp only [Option.bind_some, fin]
        by_cases h7 : t.length = 48
        · rw [if_pos h7, if_neg (by rw [nil_drop]; omega), if_neg (by decide)]
        · rw [if_neg h7, if_pos (by rw [nil_drop]; omega)]
      · rw [if_neg h4, if_neg (by omega)]
        rfl
    · rw [if_neg h2, if_neg (by omega)]
      rfl
  · rw [if_neg h1, if_neg (by omega)]
    rfl
theorem dec_at (k : UInt8) (t : List UInt8) (h : (74 :: 48 :: 49 :: k :: t : List UInt8).length ≤ 1200) (hk : 1 ≤ k.toNat ∧ k.toNat ≤ 7) : dec (74 :: 48 :: 49 :: k :: t) = fin (getAll (fieldsOf (k.toNat : Int)) (dk k.toNat, false, t)) := by
  unfold dec
  rw [if_neg (by omega), if_pos (show List.take 3 (74 :: 48 :: 49 :: k :: t : List UInt8) = [74, 48, 49] from rfl)]
  show (if 1 ≤ (k.toNat : Int) ∧ (k.toNat : Int) ≤ 7 then _ else _) = _
  rw [if_pos (by omega)]
  rfl
end Go.Proofs.YtniabkphbnimaaaGreatDoor.Sh
namespace Go.Proofs.YtniabkphbnimaaaGreatDoor.Bs
open Go Go.RowKit Go.Maps Go.Proofs.YtniabkphbnimaaaGreatDoorW.PrintWords Go.Proofs.YtniabkphbnimaaaGreatDoorW.PrintLast Go.Proofs.YtniabkphbnimaaaGreatDoor.Sh
section
variable {P : Program} {ops : Array Oper} {rest : List Oper} {a : Act} {w : World} {Q : Exit → Act → World → Prop} {d : Option Tmp} {ty : TypeId} {pos : String} {af : Array Edge} {g : Option (Tmp × Bool)}
theorem at_load_ {t : TypeId} {x : Operand} (h : wpList P ops Q (⟨d, .load t x, ty, pos, af, g⟩ :: rest) a w) : wpList P ops Q (⟨d, .load t x, ty, pos, af, g⟩ :: rest) a w := h
theorem at_store_ {t : TypeId} {x y : Operand} (h : wpList P ops Q (⟨d, .store t x y, ty, pos, af, g⟩ :: rest) a w) : wpList P ops Q (⟨d, .store t x y, ty, pos, af, g⟩ :: rest) a w := h
theorem at_add_ {t t2 : TypeId} {x y : Operand} (h : wpList P ops Q (⟨d, .binOp .add t x y t2, ty, pos, af, g⟩ :: rest) a w) : wpList P ops Q (⟨d, .binOp .add t x y t2, ty, pos, af, g⟩ :: rest) a w := h
theorem at_alloc_ {t : TypeId} (h : wpList P ops Q (⟨d, .alloc t, ty, pos, af, g⟩ :: rest) a w) : wpList P ops Q (⟨d, .alloc t, ty, pos, af, g⟩ :: rest) a w := h
end
section
variable {P : Program} {ops : Array Oper} {rest : List Oper} {o : Oper} {a : Act} {w : World} {Q : Exit → Act → World → Prop}
theorem str_cat (l m : List UInt8) : str l ++ str m = str (l ++ m) := by
  apply ByteArray.ext
  simp [str]
theorem cat_yields (t t2 : TypeId) (x y : Operand) (ho : o.op = .binOp .add t x y t2) (l m : List UInt8) (hx : a.eval x = .string (str l)) (hy : a.eval y = .string (str m)) (hs : l.length + m.length ≤ 9223372036854775807) (w : World) :
    (execOp a.eval o).run P w = .ok (.value (.string (str (l ++ m)))) w := by
  have hrun := run_string_add_sum (P := P) w (str l) (str m) hs
  unfold execOp
  simp only [ho, hx, hy, Sem.run_bind, eqGuard_add, binOp_string_add, hrun, Result.andThen_ok, Sem.run_pure, str_cat]
end
end Go.Proofs.YtniabkphbnimaaaGreatDoor.Bs
namespace Go.Proofs.YtniabkphbnimaaaGreatDoor.Sh
open Go Go.RowKit Go.Maps Go.Proofs.YtniabkphbnimaaaGreatDoorW.PrintWords Go.Proofs.YtniabkphbnimaaaGreatDoorW.PrintLast Go.Proofs.YtniabkphbnimaaaGreatDoor.Bs
theorem fin_err (o : Option (Dg × Bool × List UInt8)) (h : (fin o).2 ≠ 0) : (fin o).1 = Dg.zero := by
  unfold fin at h ⊢
  split
  · rfl
  · rename_i d bad r
    simp only at h
    split
    · rfl
    · rename_i h1
      rw [if_neg h1] at h
      split
      · rfl
      · rename_i h2
        rw [if_neg h2] at h
        exact absurd rfl h
theorem dec_err (l : List UInt8) (h : (dec l).2 ≠ 0) : (dec l).1 = Dg.zero := by
  unfold dec at h ⊢
  split
  · rfl
  · rename_i h1
    rw [if_neg h1] at h
    split
    · rename_i h2
      rw [if_pos h2] at h
      split
      · rfl
      · rename_i k t h3
        rw [h3] at h
        simp only at h
        split
        · rename_i h4
          rw [if_pos h4] at h
          exact fin_err _ h
        · rfl
    · rfl
end Go.Proofs.YtniabkphbnimaaaGreatDoor.Sh
namespace Go.Proofs.YtniabkphbnimaaaGreatDoor.Sh
open Go Go.RowKit Go.Maps Go.Proofs.YtniabkphbnimaaaGreatDoorW.PrintWords Go.Proofs.YtniabkphbnimaaaGreatDoorW.PrintLast Go.Proofs.YtniabkphbnimaaaGreatDoor.Bs
/-- Does each field that the kind has fit its place? -/
def fitP (d : Dg) : Prop := (d.kind ≤ 4 → d.nonce.size = 16) ∧ ((d.kind = 2 ∨ d.kind = 3) → d.cookie.size = 32) ∧ (d.kind = 3 → d.name.size ≤ 255) ∧ (d.kind = 4 → d.salt.size = 16 ∧ 0 ≤ d.player ∧ d.player ≤ 255) ∧ (d.kind = 5 → -128 ≤ d.thr ∧ d.thr ≤ 127 ∧ -128 ≤ d.trn ∧ d.trn ≤ 127) ∧ (3 ≤ d.kind → d.tag.size = 32)
instance (d : Dg) : Decidable (fitP d) := by unfold fitP; exact inferInstance
end Go.Proofs.YtniabkphbnimaaaGreatDoor.Sh
namespace Go.Proofs.YtniabkphbnimaaaGreatDoor.Sh
open Go Go.RowKit Go.Maps Go.Proofs.YtniabkphbnimaaaGreatDoorW.PrintWords Go.Proofs.YtniabkphbnimaaaGreatDoorW.PrintLast Go.Proofs.YtniabkphbnimaaaGreatDoor.Bs
theorem bytes_row1 {w : World} {b : Nat} {x : UInt8} {t : TypeId} {fr : Nat × Nat} (h : w.heap[b]? = some (.cells [Value.int .u8 (x.toNat : Int)].toArray t fr)) : BytesIn w (some ⟨b, 0, none⟩) [x] := bytes_of_row (l := [x]) h
end Go.Proofs.YtniabkphbnimaaaGreatDoor.Sh
namespace Go.Proofs.YtniabkphbnimaaaGreatDoor.Sh
open Go Go.RowKit Go.Maps Go.Proofs.YtniabkphbnimaaaGreatDoorW.PrintWords Go.Proofs.YtniabkphbnimaaaGreatDoorW.PrintLast Go.Proofs.YtniabkphbnimaaaGreatDoor.Bs
theorem u8_nat (n : Nat) (h : n < 256) : IntKind.u8.wrap (n : Int) = ((UInt8.ofNat n).toNat : Int) := by
  rw [wrap_u8]
  simp
end Go.Proofs.YtniabkphbnimaaaGreatDoor.Sh
namespace Go.Proofs.YtniabkphbnimaaaGreatDoor.Sh
open Go Go.RowKit Go.Maps Go.Proofs.YtniabkphbnimaaaGreatDoorW.PrintWords Go.Proofs.YtniabkphbnimaaaGreatDoorW.PrintLast Go.Proofs.YtniabkphbnimaaaGreatDoor.Bs
theorem streq_yields {P : Program} {o : Oper} {a : Act} (t t2 : TypeId) (x y : Operand) (ho : o.op = .binOp .eql t x y t2) (s r : ByteArray) (hx : a.eval x = .string s) (hy : a.eval y = .string r) (b : Bool) (hb : (s.toList == r.toList) = b) (w : World) :
    (execOp a.eval o).run P w = .ok (.value (.bool b)) w := by
  subst hb
  unfold execOp
  simp [ho, hx, hy, Sem.run_bind, eqGuard, binOp, Op.stringOp]
end Go.Proofs.YtniabkphbnimaaaGreatDoor.Sh
namespace Go.Proofs.YtniabkphbnimaaaGreatDoor.Sh
open Go Go.RowKit Go.Maps Go.Proofs.YtniabkphbnimaaaGreatDoorW.PrintWords Go.Proofs.YtniabkphbnimaaaGreatDoorW.PrintLast Go.Proofs.YtniabkphbnimaaaGreatDoor.Bs
theorem times_l (c : UInt8) (n : Nat) (hn : n < 4611686018427387904) : ∀ (m i k : Nat), m = n - i → i ≤ n → m < k →
    QQA.joustlaw07_times.l0 k (c.toNat : Int) (n : Int) (List.replicate i (c.toNat : Int) ++ List.replicate (n - i) 0) (i : Int) = some (strOfNums (List.replicate n (c.toNat : Int))) := by
  intro m
  induction m with
  | zero =>
    intro i k hm hi hk
    obtain ⟨k, rfl⟩ : ∃ j, k = j + 1 := ⟨k - 1, by omega⟩
    have : i = n := by omega
    subst this
    unfold QQA.joustlaw07_times.l0
    rw [if_neg (by omega)]
    simp
  | succ m ih =>
    intro i k hm hi hk
    obtain ⟨k, rfl⟩ : ∃ j, k = j + 1 := ⟨k - 1, by omega⟩
    have hz : wrap64 ((i : Int) + 1) = ((i + 1 : Nat) : Int) := by unfold wrap64; omega
    unfold QQA.joustlaw07_times.l0
    rw [if_pos (by omega), if_pos (by omega), if_pos (by simp; omega), hz]
    have e : (List.replicate i (c.toNat : Int) ++ List.replicate (n - i) 0).set ((i : Int)).toNat (c.toNat : Int) = List.replicate (i + 1) (c.toNat : Int) ++ List.replicate (n - (i + 1)) 0 := by
      rw [Int.toNat_natCast, List.set_append_right _ _ (by simp), List.length_replicate, Nat.sub_self, show n - i = (n - (i + 1)) + 1 by omega, List.replicate_succ, List.set_cons_zero, List.replicate_succ' (n := i), List.append_assoc]
      rfl
    rw [e]
    exact ih (i + 1) k (by omega) (by omega) (by omega)
theorem strOf_rep (c : UInt8) (n : Nat) : strOfNums (List.replicate n (c.toNat : Int)) = str (List.replicate n c) := by
  unfold strOfNums str
  simp
theorem times_f (c : UInt8) (n : Nat) (hn : n ≤ 281474976710656) : QQA.joustlaw07_times.f (n + 1) (c.toNat : Int) (n : Int) = some (str (List.replicate n c)) := by
  unfold QQA.joustlaw07_times.f
  rw [if_pos (by omega), if_pos (by omega)]
  have := times_l c n (by omega) n 0 (n + 1) (by omega) (by omega) (by omega)
  rw [strOf_rep] at this
  simpa using this
theorem times_calls (c : UInt8) (ci : Int) (hc : ci = (c.toNat : Int)) (n : Nat) (ni : Int) (hni : ni = (n : Int)) (hn : n ≤ 281474976710656) (w : World) : Calls Tryz.prog 21 #[.int .u8 ci, .int .i64 ni] w fun e w' => e = .returned (.string (str (List.replicate n c))) ∧ Below w.heap.size w w' := by
  subst hc hni
  exact (QQA.joustlaw07_times.calls _ _ _ _ w (times_f c n hn)).mono fun e w' hh => ⟨hh.1, hh.2⟩
def bA : List UInt8 := [74, 48, 49, 5, 0, 0, 0, 0, 0, 0, 0, 1, 0, 0, 0, 0, 0, 0, 0, 2, 255, 5, 1]
def tA : List UInt8 := List.replicate 32 116
def dA : Dg := ⟨5, ⟨#[]⟩, 0, ⟨#[]⟩, ⟨#[]⟩, 1, 0, ⟨#[]⟩, 2, -1, 5, true, false, ⟨#[]⟩, str tA⟩
def hA : List UInt8 := hmac [107] bA
theorem hA_len : hA.length = 32 := length_sha _
theorem enc_A : enc dA = (str (bA ++ tA), 0) := by kernel_rfl
theorem body_A (m : List UInt8) (hm : m.length = 32) : bodyB (bA ++ m) = bA := by
  have hl : (bA ++ m).length = 55 := by rw [List.length_append, hm]; rfl
  unfold bodyB
  rw [hl, if_pos ⟨rfl, by omega, by show 3 ≤ 5; omega, by show 5 ≤ 7; omega⟩]
  exact List.take_left (l₁ := bA) (l₂ := m)
theorem enc_A0 : enc { dA with tag := str (List.replicate 32 0) } = (str (bA ++ List.replicate 32 0), 0) := by kernel_rfl
theorem seal_A : sealB dA [107] = (str (bA ++ hA), 0) := by
  unfold sealB
  rw [if_pos (show 3 ≤ dA.kind ∧ dA.kind ≤ 7 by decide), enc_A0]
  rw [if_neg (show ¬ ((str (bA ++ List.replicate 32 (0 : UInt8)), (0 : Int)).2 ≠ 0) by simp)]
  show (str (bodyB (bA ++ List.replicate 32 0) ++ hmac [107] (bodyB (bA ++ List.replicate 32 0))), (0 : Int)) = _
  rw [body_A _ (by rw [List.length_replicate])]
  rfl
theorem dec_A : (dec (bA ++ hA)).1.seq = 2 ∧ (dec (bA ++ hA)).2 = 0 := by
  have hl := hA_len
  obtain ⟨t, et⟩ : ∃ t : List UInt8, t = [0, 0, 0, 0, 0, 0, 0, 1, 0, 0, 0, 0, 0, 0, 0, 2, 255, 5, 1] ++ hA := ⟨_, rfl⟩
  have e : bA ++ hA = 74 :: 48 :: 49 :: 5 :: t := by rw [et]; rfl
  have ht : t.length = 51 := by rw [et, List.length_append, hl]; rfl
  rw [e, dec_at 5 t (by simp only [List.length_cons]; omega) (by decide)]
  show (fin (getAll (fieldsOf 5) (dk 5, false, t))).1.seq = 2 ∧ _
  have h3 : ¬ 3 < (t.getD 18 0).toNat := by rw [et]; decide
  have hs : num ((t.drop 8).take 8) = 2 := by rw [et]; rfl
  have hd := dec5 t
  rw [if_pos ht, if_neg h3] at hd
  refine ⟨?_, ?_⟩
  · show (fin (getAll (fieldsOf 5) (dk 5, false, t))).1.seq = 2
    rw [hd]
    exact hs
  · show (fin (getAll (fieldsOf 5) (dk 5, false, t))).2 = 0
    rw [hd]
theorem seald_A (m k : List UInt8) (hm : m.length = 32) : sealedB (bA ++ m) k = decide (m = hmac k bA) := by
  unfold sealedB
  rw [body_A m hm]
  refine decide_eq_decide.mpr ⟨fun h => ?_, fun h => ⟨by decide, ?_⟩⟩
  · have := h.2
    rwa [List.drop_left] at this
  · rw [List.drop_left]
    exact h
theorem tags_0 : (hmac [107] bA).getD 0 0 ≠ (hmac [108] bA).getD 0 0 := by decide +kernel
theorem tags_1 : (hmac [107] bA).getD 0 0 ≠ 116 := by decide +kernel
theorem seald_1 : sealedB (bA ++ hA) [107] = true := by
  rw [seald_A _ _ hA_len]
  exact decide_eq_true rfl
theorem seald_2 : sealedB (bA ++ hA) [108] = false := by
  rw [seald_A _ _ hA_len]
  refine decide_eq_false (fun h => tags_0 ?_)
  exact congrArg (fun l : List UInt8 => l.getD 0 0) h
theorem seald_3 : sealedB (bA ++ tA) [107] = false := by
  rw [seald_A _ _ (by unfold tA; rw [List.length_replicate])]
  refine decide_eq_false (fun h => tags_1 ?_)
  have := congrArg (fun l : List UInt8 => l.getD 0 0) h
  exact this.symm
theorem dA_ok : dA.ok := by
  unfold Dg.ok
  decide
end Go.Proofs.YtniabkphbnimaaaGreatDoor.Sh
namespace Go.Proofs.YtniabkphbnimaaaGreatDoor.Sh
open Go Go.RowKit Go.Maps Go.Proofs.YtniabkphbnimaaaGreatDoorW.PrintWords Go.Proofs.YtniabkphbnimaaaGreatDoorW.PrintLast Go.Proofs.YtniabkphbnimaaaGreatDoor.Bs
def T_9_5 : Bool × List (List Nat × List Nat) := (true, [([], []), ([0], [0]), ([1], [1]), ([2], [2]), ([3], [3]), ([4, 3], [3, 4]), ([3, 5], [3, 5]), ([6, 3], [6]), ([7], [7]), ([8, 7], [7, 8]), ([7, 9], [7, 9]), ([10, 7], [10]), ([11], [11]), ([12, 11], [11, 12]), ([11, 13], [11, 13]), ([14, 11], [14]), ([15], [15]), ([15, 15], [15]), ([17, 15], [15, 17]), ([18, 15], [15, 18]), ([17, 15], [15]), ([19, 20, 15], [15, 19, 20]), ([21, 15], [15, 21]), ([20, 15], [15]), ([22, 23, 15], [15, 22, 23]), ([16, 24, 15], [15, 16, 24]), ([15, 25], [15, 25]), ([26, 23], [26]), ([27], [27]), ([28, 27], [27, 28]), ([29, 27], [27, 29]), ([27, 30], [27, 30]), ([31, 27], [31]), ([32], [32]), ([33, 32, 32], [32, 33]), ([32], [32]), ([35, 32], [32, 35]), ([34, 36, 32], [32, 34, 36]), ([32, 37], [32, 37]), ([38, 34], [38]), ([39], [39]), ([40, 39, 39], [39, 40]), ([39, 41], [39, 41]), ([42, 41], [42]), ([43], [43]), ([44, 43, 43], [43, 44]), ([45, 43], [43, 45]), ([43, 46], [43, 46]), ([47, 45], [47]), ([48], [48]), ([49, 48, 48], [48, 49]), ([50, 48], [48, 50]), ([48, 51], [48, 51]), ([52, 50, 0, 1, 2, 3, 4, 5, 6, 7, 8, 9, 10, 11, 12, 13, 14, 15, 16, 17, 18, 19, 20, 21, 22, 23, 24, 25, 26, 27, 28, 29, 30, 31, 32, 33, 34, 35, 36, 37, 38, 39, 40, 41, 42, 43, 44, 45, 46, 47, 48, 49, 50, 51, 52], [52])])
def B_9_5 : List Nat := [0, 1, 3, 7, 15, 31, 63, 127, 255, 511, 1023, 2047, 4095, 8191, 16383, 32767, 65535, 65535, 196607, 458751, 196607, 2031615, 4128767, 1245183, 16711679, 33554431, 67108863, 134217727, 268435455, 536870911, 1073741823, 2147483647, 4294967295, 8589934591, 17179869183, 8589934591, 42949672959, 137438953471, 274877906943, 549755813887, 1099511627775, 2199023255551, 4398046511103, 8796093022207, 17592186044415, 35184372088831, 70368744177663, 140737488355327, 281474976710655, 562949953421311, 1125899906842623, 2251799813685247, 4503599627370495, 9007199254740991]
theorem tab_f9_5 : rtab .any (opsOf Tryz.f9 5) = T_9_5 := by kernel_rfl
theorem bits_f9_5 : waitsOk T_9_5.2 B_9_5 = true := by kernel_rfl
set_option maxHeartbeats 8000000 in
set_option maxRecDepth 100000 in
theorem alive_calls (w : World) (hg : GL w) : Calls Tryz.prog 9 #[] w fun e w' => e = .returned (.bool true) ∧ Below w.heap.size w w' := by
  have HG := Aside0.mk hg
  obtain ⟨ta, eta⟩ : ∃ ta : List UInt8, ta = tA := ⟨_, rfl⟩
  have HTA := Aside0.mk (show ta.length = 32 by rw [eta]; rfl)
  obtain ⟨s, es⟩ : ∃ s, s = str (bA ++ tA) := ⟨_, rfl⟩
  obtain ⟨t, et⟩ : ∃ t, t = str (bA ++ hA) := ⟨_, rfl⟩
  obtain ⟨dB, edB⟩ : ∃ d : Dg, d = (dec (bA ++ hA)).1 := ⟨_, rfl⟩
  have TC32 := Aside0.mk (show ∀ w, Calls Tryz.prog 21 #[.int .u8 116, .int .i64 32] w fun e w' => e = .returned (.string (str ta)) ∧ Below w.heap.size w w' from fun w => by rw [eta]; exact times_calls 116 _ rfl 32 _ rfl (by omega) w)
  have TC7 := Aside0.mk (show ∀ w, Calls Tryz.prog 21 #[.int .u8 0, .int .i64 7] w fun e w' => e = .returned (.string (str [0, 0, 0, 0, 0, 0, 0])) ∧ Below w.heap.size w w' from fun w => times_calls 0 _ rfl 7 _ rfl (by omega) w)
  have EC := Aside0.mk (show ∀ w, Calls Tryz.prog 16 #[.agg dA.cells.toArray] w fun e w' => e = .returned (.tuple #[.string s, .int .i64 0]) ∧ Below w.heap.size w w' from fun w => by
    have h := encode_calls dA dA_ok (by decide) w
    rw [enc_A, ← es] at h
    exact h)
  have SC := Aside0.mk (show ∀ w, GL w → Calls Tryz.prog 18 #[.agg dA.cells.toArray, .string ⟨#[107]⟩] w fun e w' => e = .returned (.tuple #[.string t, .int .i64 0]) ∧ Below w.heap.size w w' from fun w hg => by
    have h := seal_calls dA ⟨#[107]⟩ w hg dA_ok (by decide) (by decide)
    rw [show sealB dA (bl ⟨#[107]⟩) = (str (bA ++ hA), 0) from seal_A, ← et] at h
    exact h)
  have DC := Aside0.mk (show ∀ w, Calls Tryz.prog 10 #[.string t] w fun e w' => e = .returned (.tuple #[.agg dB.cells.toArray, .int .i64 0]) ∧ Below w.heap.size w w' from fun w => by
    have h := decode_calls (bA ++ hA) w
    rw [dec_A.2, ← et, ← edB] at h
    exact h)
  have DAC := Aside0.mk (show Value.agg #[.int .i64 5, .string ⟨#[]⟩, .int .u64 0, .string ⟨#[]⟩, .string ⟨#[]⟩, .int .u64 1, .int .i64 0, .string ⟨#[]⟩, .int .u64 2, .int .i64 (-1), .int .i64 5, .bool true, .bool false, .string ⟨#[]⟩, .string (str ta)] = .agg dA.cells.toArray from by rw [eta]; rfl)
  have hts : s.size = 55 := by rw [es]; rfl
  have S8 := Aside0.mk (show dB.cells[8]? = some (.int .u64 2) from by
    show some (Value.int .u64 (dB.seq : Int)) = _
    rw [edB, dec_A.1]
    rfl)
  have BC := Aside0.mk (show ∀ w, Calls Tryz.prog 12 #[.string s] w fun e w' => e = .returned (.string (str bA)) ∧ Below w.heap.size w w' from fun w => by
    have h := body_calls (bA ++ tA) (by decide) w
    rw [body_A tA (by decide), ← es] at h
    exact h)
  have S1 := Aside0.mk (show ∀ w, GL w → Calls Tryz.prog 14 #[.string t, .string ⟨#[107]⟩] w fun e w' => e = .returned (.bool true) ∧ Below w.heap.size w w' from fun w hg => by
    have h := sealed_calls (bA ++ hA) ⟨#[107]⟩ w hg (by rw [List.length_append, hA_len]; decide) (by decide)
    rw [show sealedB (bA ++ hA) (bl ⟨#[107]⟩) = true from seald_1, ← et] at h
    exact h)
  have S2 := Aside0.mk (show ∀ w, GL w → Calls Tryz.prog 14 #[.string t, .string ⟨#[108]⟩] w fun e w' => e = .returned (.bool false) ∧ Below w.heap.size w w' from fun w hg => by
    have h := sealed_calls (bA ++ hA) ⟨#[108]⟩ w hg (by rw [List.length_append, hA_len]; decide) (by decide)
    rw [show sealedB (bA ++ hA) (bl ⟨#[108]⟩) = false from seald_2, ← et] at h
    exact h)
  have S3 := Aside0.mk (show ∀ w, GL w → Calls Tryz.prog 14 #[.string s, .string ⟨#[107]⟩] w fun e w' => e = .returned (.bool false) ∧ Below w.heap.size w w' from fun w hg => by
    have h := sealed_calls (bA ++ tA) ⟨#[107]⟩ w hg (by decide) (by decide)
    rw [show sealedB (bA ++ tA) (bl ⟨#[107]⟩) = false from seald_3, ← es] at h
    exact h)
  have EQ1 := Aside0.mk (show (s.toList == (str (((((([74, 48, 49, 5] : List UInt8) ++ [0, 0, 0, 0, 0, 0, 0]) ++ [1]) ++ [0, 0, 0, 0, 0, 0, 0]) ++ [2, 255, 5, 1]) ++ ta)).toList) = true from by
    rw [es, eta, str_list, str_list]
    exact beq_iff_eq.mpr rfl)
  have EQ2 := Aside0.mk (show ((str bA).toList == (s.extract 0 23).toList) = true from by
    rw [es, str_take, str_list, str_list]
    exact beq_iff_eq.mpr rfl)
  clear es et eta edB hg
  go_enter Tryz.func9, Tryz.ntmps9
  go_upto_region 4 with (first
    | (go_at_call 21; (with_reducible refine (TC32.out _).mono ?_); rintro e w1 ⟨rfl, hb1⟩; have HB := Aside0.mk hb1; clear hb1)
    | ((with_reducible first | refine at_alloc_ ?_ | refine at_alloc2_ ?_); refine wpList_alloc_v rfl 27 rfl Dg.zero.cells (by kernel_rfl) ?_; intro D w2 eD hD2 hb2 hz2; have HDD := Aside0.mk (show w.heap.size ≤ D from by have := eD.out; have := HB.out.size; omega); have n1_ := Aside0.mk (HB.out.trans (hb2.out.mono HB.out.size)); clear HB; have HB := n1_; clear n1_ hb2 hz2)
    | ((with_reducible first | refine at_store_ ?_ | refine at_store2_ ?_); refine wpList_store_agg rfl 27 _ _ rfl D 0 rfl dA.cells Dg.zero.cells (by exact DAC.out) _ hD2.out (by exact Nat.le_refl 15) (fun v hv => one_cells hv) (by kernel_rfl) ?_; intro w3 hD3 hm3 hz3; rw [splice_all Dg.zero.cells dA.cells rfl] at hD3; have HD := Aside0.mk hD3.out; have n1_ := Aside0.mk (toBelow' HB.out hm3.out HDD.out); clear HB; have HB := n1_; clear n1_ hD2 hD3 hm3 hz3)
    | ((with_reducible first | refine at_load_ ?_ | refine at_load2_ ?_); refine wpList_load_agg rfl 27 _ rfl D 0 rfl dA.cells (load_all HD.out) _ Tryz.underlying27 rfl (by kernel_rfl) ?_)
    | (go_at_call 16; (with_reducible refine (EC.out _).mono ?_); rintro e w4 ⟨rfl, hb4⟩; have n1_ := Aside0.mk (HB.out.trans (hb4.mono HB.out.size)); have n2_ := Aside0.mk ((hb4.block D (blk_lt HD.out)).trans HD.out); clear HB HD hb4; have HB := n1_; have HD := n2_; clear n1_ n2_)
    | (go_at_call 18; (with_reducible refine (SC.out _ (gl_below HG.out HB.out)).mono ?_); rintro e w5 ⟨rfl, hb5⟩; have n1_ := Aside0.mk (HB.out.trans (hb5.mono HB.out.size)); have n2_ := Aside0.mk ((hb5.block D (blk_lt HD.out)).trans HD.out); clear HB HD hb5; have HB := n1_; have HD := n2_; clear n1_ n2_))
  go_wp2_with (first
    | (go_at_call 10; (with_reducible refine (DC.out _).mono ?_); rintro e w6 ⟨rfl, hb6⟩; have n1_ := Aside0.mk (HB.out.trans (hb6.mono HB.out.size)); have n2_ := Aside0.mk ((hb6.block D (blk_lt HD.out)).trans HD.out); clear HB HD hb6; have HB := n1_; have HD := n2_; clear n1_ n2_)
    | ((with_reducible first | refine at_alloc_ ?_ | refine at_alloc2_ ?_); refine wpList_alloc_v rfl 27 rfl Dg.zero.cells (by kernel_rfl) ?_; intro E w7 eE hE7 hb7 hz7; have HEE := Aside0.mk (show w.heap.size ≤ E from by have := eE.out; have := HB.out.size; omega); have n1_ := Aside0.mk (HB.out.trans (hb7.out.mono HB.out.size)); clear HB; have HB := n1_; clear n1_ hb7 hz7)
    | ((with_reducible first | refine at_store_ ?_ | refine at_store2_ ?_); refine wpList_store_agg rfl 27 _ _ rfl E 0 rfl dB.cells Dg.zero.cells (by rfl) _ hE7.out (by exact Nat.le_refl 15) (fun v hv => one_cells hv) (by kernel_rfl) ?_; intro w8 hE8 hm8 hz8; rw [splice_all Dg.zero.cells dB.cells rfl] at hE8; have HE := Aside0.mk hE8.out; have n1_ := Aside0.mk (toBelow' HB.out hm8.out HEE.out); clear HB; have HB := n1_; clear n1_ hE7 hE8 hm8 hz8))
  refine start_ (n := 54) (S := fun w' => w'.cell? ⟨E, 8, none⟩ = some (.int .u64 2)) (ds := []) #[false, false, false, false, false, false, false, false, false, false, false, false, false, false, false, false, false, false, false, false, false, false, false, false, false, false, false, false, false, false, false, false, false, false, false, false, false, false, false, false, false, false, false, false, false, false, false, false, false, false, false, false, false, false] (by kernel_rfl) rfl rfl (cell_of HE.out S8.out) (fun hHeld => ?_)
  refine with_tabW tab_f9_5 bits_f9_5 (fun HT_ HW_ => ?_)
  refine pure_ (i := 0) (N := some 26) (v := ?_) (a' := ?_) #[true, false, false, false, false, false, false, false, false, false, false, false, false, false, false, false, false, false, false, false, false, false, false, false, false, false, false, false, false, false, false, false, false, false, false, false, false, false, false, false, false, false, false, false, false, false, false, false, false, false, false, false, false, false] rfl rfl (any_of HT_.out (by kernel_rfl)) (fun _ _ _ h => h) (Or.inl ⟨by rfl, ?_⟩) ?_ ?_
  rotate_left
  · intro w'
    go_simp
    with_reducible rfl
  rotate_left
  · simp only [Act.put, List.setIfInBounds_toArray, List.set_cons_zero, List.set_cons_succ, i64_w, i32_w]
    rfl
  refine pure_ (i := 1) (N := some 27) (v := ?_) (a' := ?_) #[true, true, false, false, false, false, false, false, false, false, false, false, false, false, false, false, false, false, false, false, false, false, false, false, false, false, false, false, false, false, false, false, false, false, false, false, false, false, false, false, false, false, false, false, false, false, false, false, false, false, false, false, false, false] rfl rfl (any_of HT_.out (by kernel_rfl)) (fun _ _ _ h => h) (Or.inl ⟨by rfl, ?_⟩) ?_ ?_
  rotate_left
  · intro w'
    go_simp
    with_reducible rfl
  rotate_left
  · simp only [Act.put, List.setIfInBounds_toArray, List.set_cons_zero, List.set_cons_succ, i64_w, i32_w]
    rfl
  refine pure_ (i := 2) (N := some 28) (v := ?_) (a' := ?_) #[true, true, true, false, false, false, false, false, false, false, false, false, false, false, false, false, false, false, false, false, false, false, false, false, false, false, false, false, false, false, false, false, false, false, false, false, false, false, false, false, false, false, false, false, false, false, false, false, false, false, false, false, false, false] rfl rfl (any_of HT_.out (by kernel_rfl)) (fun _ _ _ h => h) (Or.inl ⟨by rfl, ?_⟩) ?_ ?_
  rotate_left
  · intro w'
    go_simp
    with_reducible rfl
  rotate_left
  · simp only [Act.put, List.setIfInBounds_toArray, List.set_cons_zero, List.set_cons_succ, i64_w, i32_w]
    rfl
  refine pure_ (i := 3) (N := some 29) (v := ?_) (a' := ?_) #[true, true, true, true, false, false, false, false, false, false, false, false, false, false, false, false, false, false, false, false, false, false, false, false, false, false, false, false, false, false, false, false, false, false, false, false, false, false, false, false, false, false, false, false, false, false, false, false, false, false, false, false, false, false] rfl rfl (any_of HT_.out (by kernel_rfl)) (fun _ _ _ h => h) (Or.inl ⟨by rfl, ?_⟩) ?_ ?_
  rotate_left
  · intro w'
    go_simp
    with_reducible rfl
  rotate_left
  · simp only [Act.put, List.setIfInBounds_toArray, List.set_cons_zero, List.set_cons_succ, i64_w, i32_w]
    rfl
  refine pure_ (i := 4) (N := some 30) (v := ?_) (a' := ?_) #[true, true, true, true, true, false, false, false, false, false, false, false, false, false, false, false, false, false, false, false, false, false, false, false, false, false, false, false, false, false, false, false, false, false, false, false, false, false, false, false, false, false, false, false, false, false, false, false, false, false, false, false, false, false] rfl rfl (any_of HT_.out (by kernel_rfl)) (fun _ _ _ h => h) (Or.inl ⟨by rfl, ?_⟩) ?_ ?_
  rotate_left
  · intro w'
    go_simp
    with_reducible rfl
  rotate_left
  · simp only [Act.put, List.setIfInBounds_toArray, List.set_cons_zero, List.set_cons_succ, i64_w, i32_w]
    rfl
  refine pure_ (i := 5) (N := some 31) (v := ?_) (a' := ?_) #[true, true, true, true, true, true, false, false, false, false, false, false, false, false, false, false, false, false, false, false, false, false, false, false, false, false, false, false, false, false, false, false, false, false, false, false, false, false, false, false, false, false, false, false, false, false, false, false, false, false, false, false, false, false] rfl rfl (any_of HT_.out (by kernel_rfl)) (fun _ _ _ h => h) (Or.inl ⟨by rfl, ?_⟩) ?_ ?_
  rotate_left
  · intro w'
    go_simp
    with_reducible rfl
  rotate_left
  · simp only [Act.put, List.setIfInBounds_toArray, List.set_cons_zero, List.set_cons_succ, i64_w, i32_w]
    rfl
  refine pure_ (i := 6) (N := some 32) (v := ?_) (a' := ?_) #[true, true, true, true, true, true, true, false, false, false, false, false, false, false, false, false, false, false, false, false, false, false, false, false, false, false, false, false, false, false, false, false, false, false, false, false, false, false, false, false, false, false, false, false, false, false, false, false, false, false, false, false, false, false] rfl rfl (any_of HT_.out (by kernel_rfl)) (fun _ _ _ h => h) (Or.inl ⟨by rfl, ?_⟩) ?_ ?_
  rotate_left
  · intro w'
    go_simp
    with_reducible rfl
  rotate_left
  · simp only [Act.put, List.setIfInBounds_toArray, List.set_cons_zero, List.set_cons_succ, i64_w, i32_w]
    rfl
  refine pure_ (i := 7) (N := some 33) (v := ?_) (a' := ?_) #[true, true, true, true, true, true, true, true, false, false, false, false, false, false, false, false, false, false, false, false, false, false, false, false, false, false, false, false, false, false, false, false, false, false, false, false, false, false, false, false, false, false, false, false, false, false, false, false, false, false, false, false, false, false] rfl rfl (any_of HT_.out (by kernel_rfl)) (fun _ _ _ h => h) (Or.inl ⟨by rfl, ?_⟩) ?_ ?_
  rotate_left
  · intro w'
    go_simp
    with_reducible rfl
  rotate_left
  · simp only [Act.put, List.setIfInBounds_toArray, List.set_cons_zero, List.set_cons_succ, i64_w, i32_w]
    rfl
  refine pure_ (i := 8) (N := some 34) (v := ?_) (a' := ?_) #[true, true, true, true, true, true, true, true, true, false, false, false, false, false, false, false, false, false, false, false, false, false, false, false, false, false, false, false, false, false, false, false, false, false, false, false, false, false, false, false, false, false, false, false, false, false, false, false, false, false, false, false, false, false] rfl rfl (any_of HT_.out (by kernel_rfl)) (fun _ _ _ h => h) (Or.inl ⟨by rfl, ?_⟩) ?_ ?_
  rotate_left
  · intro w'
    go_simp
    with_reducible rfl
  rotate_left
  · simp only [Act.put, List.setIfInBounds_toArray, List.set_cons_zero, List.set_cons_succ, i64_w, i32_w]
    rfl
  refine pure_ (i := 9) (N := some 35) (v := ?_) (a' := ?_) #[true, true, true, true, true, true, true, true, true, true, false, false, false, false, false, false, false, false, false, false, false, false, false, false, false, false, false, false, false, false, false, false, false, false, false, false, false, false, false, false, false, false, false, false, false, false, false, false, false, false, false, false, false, false] rfl rfl (any_of HT_.out (by kernel_rfl)) (fun _ _ _ h => h) (Or.inl ⟨by rfl, ?_⟩) ?_ ?_
  rotate_left
  · intro w'
    go_simp
    with_reducible rfl
  rotate_left
  · simp only [Act.put, List.setIfInBounds_toArray, List.set_cons_zero, List.set_cons_succ, i64_w, i32_w]
    rfl
  refine pure_ (i := 10) (N := some 36) (v := ?_) (a' := ?_) #[true, true, true, true, true, true, true, true, true, true, true, false, false, false, false, false, false, false, false, false, false, false, false, false, false, false, false, false, false, false, false, false, false, false, false, false, false, false, false, false, false, false, false, false, false, false, false, false, false, false, false, false, false, false] rfl rfl (any_of HT_.out (by kernel_rfl)) (fun _ _ _ h => h) (Or.inl ⟨by rfl, ?_⟩) ?_ ?_
  rotate_left
  · intro w'
    go_simp
    with_reducible rfl
  rotate_left
  · simp only [Act.put, List.setIfInBounds_toArray, List.set_cons_zero, List.set_cons_succ, i64_w, i32_w]
    rfl
  refine pure_ (i := 11) (N := some 37) (v := ?_) (a' := ?_) #[true, true, true, true, true, true, true, true, true, true, true, true, false, false, false, false, false, false, false, false, false, false, false, false, false, false, false, false, false, false, false, false, false, false, false, false, false, false, false, false, false, false, false, false, false, false, false, false, false, false, false, false, false, false] rfl rfl (any_of HT_.out (by kernel_rfl)) (fun _ _ _ h => h) (Or.inl ⟨by rfl, ?_⟩) ?_ ?_
  rotate_left
  · intro w'
    go_simp
    with_reducible rfl
  rotate_left
  · simp only [Act.put, List.setIfInBounds_toArray, List.set_cons_zero, List.set_cons_succ, i64_w, i32_w]
    rfl
  refine pure_ (i := 12) (N := some 38) (v := ?_) (a' := ?_) #[true, true, true, true, true, true, true, true, true, true, true, true, true, false, false, false, false, false, false, false, false, false, false, false, false, false, false, false, false, false, false, false, false, false, false, false, false, false, false, false, false, false, false, false, false, false, false, false, false, false, false, false, false, false] rfl rfl (any_of HT_.out (by kernel_rfl)) (fun _ _ _ h => h) (Or.inl ⟨by rfl, ?_⟩) ?_ ?_
  rotate_left
  · intro w'
    go_simp
    with_reducible rfl
  rotate_left
  · simp only [Act.put, List.setIfInBounds_toArray, List.set_cons_zero, List.set_cons_succ, i64_w, i32_w]
    rfl
  refine pure_ (i := 13) (N := some 39) (v := ?_) (a' := ?_) #[true, true, true, true, true, true, true, true, true, true, true, true, true, true, false, false, false, false, false, false, false, false, false, false, false, false, false, false, false, false, false, false, false, false, false, false, false, false, false, false, false, false, false, false, false, false, false, false, false, false, false, false, false, false] rfl rfl (any_of HT_.out (by kernel_rfl)) (fun _ _ _ h => h) (Or.inl ⟨by rfl, ?_⟩) ?_ ?_
  rotate_left
  · intro w'
    go_simp
    with_reducible rfl
  rotate_left
  · simp only [Act.put, List.setIfInBounds_toArray, List.set_cons_zero, List.set_cons_succ, i64_w, i32_w]
    rfl
  refine pure_ (i := 14) (N := some 40) (v := ?_) (a' := ?_) #[true, true, true, true, true, true, true, true, true, true, true, true, true, true, true, false, false, false, false, false, false, false, false, false, false, false, false, false, false, false, false, false, false, false, false, false, false, false, false, false, false, false, false, false, false, false, false, false, false, false, false, false, false, false] rfl rfl (any_of HT_.out (by kernel_rfl)) (fun _ _ _ h => h) (Or.inl ⟨by rfl, ?_⟩) ?_ ?_
  rotate_left
  · intro w'
    go_simp
    with_reducible rfl
  rotate_left
  · simp only [Act.put, List.setIfInBounds_toArray, List.set_cons_zero, List.set_cons_succ, i64_w, i32_w]
    rfl
  refine pure_ (i := 15) (N := some 41) (v := ?_) (a' := ?_) #[true, true, true, true, true, true, true, true, true, true, true, true, true, true, true, true, false, false, false, false, false, false, false, false, false, false, false, false, false, false, false, false, false, false, false, false, false, false, false, false, false, false, false, false, false, false, false, false, false, false, false, false, false, false] rfl rfl (any_of HT_.out (by kernel_rfl)) (fun _ _ _ h => h) (Or.inl ⟨by rfl, ?_⟩) ?_ ?_
  rotate_left
  · intro w'
    go_simp
    with_reducible rfl
  rotate_left
  · simp only [Act.put, List.setIfInBounds_toArray, List.set_cons_zero, List.set_cons_succ, i64_w, i32_w]
    rfl
  refine pure_ (i := 16) (N := some 42) (v := ?_) (a' := ?_) #[true, true, true, true, true, true, true, true, true, true, true, true, true, true, true, true, true, false, false, false, false, false, false, false, false, false, false, false, false, false, false, false, false, false, false, false, false, false, false, false, false, false, false, false, false, false, false, false, false, false, false, false, false, false] rfl rfl (any_of HT_.out (by kernel_rfl)) (fun _ _ _ h => h) (Or.inl ⟨by rfl, ?_⟩) ?_ ?_
  rotate_left
  · intro w'
    go_simp
    with_reducible rfl
  rotate_left
  · simp only [Act.put, List.setIfInBounds_toArray, List.set_cons_zero, List.set_cons_succ, i64_w, i32_w]
    rfl
  refine one_ (i := 17) (N := some 43) #[true, true, true, true, true, true, true, true, true, true, true, true, true, true, true, true, true, true, false, false, false, false, false, false, false, false, false, false, false, false, false, false, false, false, false, false, false, false, false, false, false, false, false, false, false, false, false, false, false, false, false, false, false, false] rfl rfl (one_of HT_.out (by kernel_rfl)) (by decide) (fun K hK => ?_)
  refine goes_ Tryz.func21 (by kernel_rfl) rfl #[.int .u8 0, .int .i64 7] (by rfl) rfl rfl (by (try simp only [List.map_toArray, List.map_cons, List.map_nil]); first | done | rfl) ?_
  with_reducible refine (TC7.out _).mono ?_
  rintro e w9 ⟨rfl, hb9⟩
  refine ⟨_, rfl, ?_⟩
  have n1_ := Aside0.mk ((show Below w.heap.size w _ from by first | exact HB.out | exact below_drew1 HB.out).trans (hb9.mono HB.out.size)); have n2_ := Aside0.mk ((hb9.block E (blk_lt HE.out)).trans HE.out); clear HB HE hb9; have HB := n1_; have HE := n2_; clear n1_ n2_
  refine hK.out _ _ (cell_of HE.out S8.out) (fun hHeld => ?_)
  clear hK K
  refine norm_ (a' := ?_) ?_ ?_
  rotate_left
  · show Act.put _ (some 43) _ = _
    simp only [Act.put, List.setIfInBounds_toArray, List.set_cons_zero, List.set_cons_succ, i64_w, i32_w]
    rfl
  refine pure_ (i := 18) (N := some 44) (a' := ?_) #[true, true, true, true, true, true, true, true, true, true, true, true, true, true, true, true, true, true, true, false, false, false, false, false, false, false, false, false, false, false, false, false, false, false, false, false, false, false, false, false, false, false, false, false, false, false, false, false, false, false, false, false, false, false] rfl rfl (any_of HT_.out (by kernel_rfl)) (fun _ _ _ h => h) (Or.inl ⟨by rfl, cat_yields _ _ _ _ (by rfl) _ _ (by rfl) (by rfl) (by decide)⟩) ?_ ?_
  rotate_left
  · simp only [Act.put, List.setIfInBounds_toArray, List.set_cons_zero, List.set_cons_succ, i64_w, i32_w]
    rfl
  refine pure_ (i := 19) (N := some 45) (a' := ?_) #[true, true, true, true, true, true, true, true, true, true, true, true, true, true, true, true, true, true, true, true, false, false, false, false, false, false, false, false, false, false, false, false, false, false, false, false, false, false, false, false, false, false, false, false, false, false, false, false, false, false, false, false, false, false] rfl rfl (any_of HT_.out (by kernel_rfl)) (fun _ _ _ h => h) (Or.inl ⟨by rfl, cat_yields _ _ _ _ (by rfl) _ _ (by rfl) (by rfl) (by decide)⟩) ?_ ?_
  rotate_left
  · simp only [Act.put, List.setIfInBounds_toArray, List.set_cons_zero, List.set_cons_succ, i64_w, i32_w]
    rfl
  refine one_ (i := 20) (N := some 46) #[true, true, true, true, true, true, true, true, true, true, true, true, true, true, true, true, true, true, true, true, true, false, false, false, false, false, false, false, false, false, false, false, false, false, false, false, false, false, false, false, false, false, false, false, false, false, false, false, false, false, false, false, false, false] rfl rfl (one_of HT_.out (by kernel_rfl)) (by decide) (fun K hK => ?_)
  refine goes_ Tryz.func21 (by kernel_rfl) rfl #[.int .u8 0, .int .i64 7] (by rfl) rfl rfl (by (try simp only [List.map_toArray, List.map_cons, List.map_nil]); first | done | rfl) ?_
  with_reducible refine (TC7.out _).mono ?_
  rintro e w9 ⟨rfl, hb9⟩
  refine ⟨_, rfl, ?_⟩
  have n1_ := Aside0.mk ((show Below w.heap.size w _ from by first | exact HB.out | exact below_drew1 HB.out).trans (hb9.mono HB.out.size)); have n2_ := Aside0.mk ((hb9.block E (blk_lt HE.out)).trans HE.out); clear HB HE hb9; have HB := n1_; have HE := n2_; clear n1_ n2_
  refine hK.out _ _ (cell_of HE.out S8.out) (fun hHeld => ?_)
  clear hK K
  refine norm_ (a' := ?_) ?_ ?_
  rotate_left
  · show Act.put _ (some 46) _ = _
    simp only [Act.put, List.setIfInBounds_toArray, List.set_cons_zero, List.set_cons_succ, i64_w, i32_w]
    rfl
  refine pure_ (i := 21) (N := some 47) (a' := ?_) #[true, true, true, true, true, true, true, true, true, true, true, true, true, true, true, true, true, true, true, true, true, true, false, false, false, false, false, false, false, false, false, false, false, false, false, false, false, false, false, false, false, false, false, false, false, false, false, false, false, false, false, false, false, false] rfl rfl (any_of HT_.out (by kernel_rfl)) (fun _ _ _ h => h) (Or.inl ⟨by rfl, cat_yields _ _ _ _ (by rfl) _ _ (by rfl) (by rfl) (by decide)⟩) ?_ ?_
  rotate_left
  · simp only [Act.put, List.setIfInBounds_toArray, List.set_cons_zero, List.set_cons_succ, i64_w, i32_w]
    rfl
  refine pure_ (i := 22) (N := some 48) (a' := ?_) #[true, true, true, true, true, true, true, true, true, true, true, true, true, true, true, true, true, true, true, true, true, true, true, false, false, false, false, false, false, false, false, false, false, false, false, false, false, false, false, false, false, false, false, false, false, false, false, false, false, false, false, false, false, false] rfl rfl (any_of HT_.out (by kernel_rfl)) (fun _ _ _ h => h) (Or.inl ⟨by rfl, cat_yields _ _ _ _ (by rfl) _ _ (by rfl) (by rfl) (by decide)⟩) ?_ ?_
  rotate_left
  · simp only [Act.put, List.setIfInBounds_toArray, List.set_cons_zero, List.set_cons_succ, i64_w, i32_w]
    rfl
  refine one_ (i := 23) (N := some 49) #[true, true, true, true, true, true, true, true, true, true, true, true, true, true, true, true, true, true, true, true, true, true, true, true, false, false, false, false, false, false, false, false, false, false, false, false, false, false, false, false, false, false, false, false, false, false, false, false, false, false, false, false, false, false] rfl rfl (one_of HT_.out (by kernel_rfl)) (by decide) (fun K hK => ?_)
  refine goes_ Tryz.func21 (by kernel_rfl) rfl #[.int .u8 116, .int .i64 32] (by rfl) rfl rfl (by (try simp only [List.map_toArray, List.map_cons, List.map_nil]); first | done | rfl) ?_
  with_reducible refine (TC32.out _).mono ?_
  rintro e w9 ⟨rfl, hb9⟩
  refine ⟨_, rfl, ?_⟩
  have n1_ := Aside0.mk ((show Below w.heap.size w _ from by first | exact HB.out | exact below_drew1 HB.out).trans (hb9.mono HB.out.size)); have n2_ := Aside0.mk ((hb9.block E (blk_lt HE.out)).trans HE.out); clear HB HE hb9; have HB := n1_; have HE := n2_; clear n1_ n2_
  refine hK.out _ _ (cell_of HE.out S8.out) (fun hHeld => ?_)
  clear hK K
  refine norm_ (a' := ?_) ?_ ?_
  rotate_left
  · show Act.put _ (some 49) _ = _
    simp only [Act.put, List.setIfInBounds_toArray, List.set_cons_zero, List.set_cons_succ, i64_w, i32_w]
    rfl
  refine pure_ (i := 24) (N := some 50) (a' := ?_) #[true, true, true, true, true, true, true, true, true, true, true, true, true, true, true, true, true, true, true, true, true, true, true, true, true, false, false, false, false, false, false, false, false, false, false, false, false, false, false, false, false, false, false, false, false, false, false, false, false, false, false, false, false, false] rfl rfl (any_of HT_.out (by kernel_rfl)) (fun _ _ _ h => h) (Or.inl ⟨by rfl, cat_yields _ _ _ _ (by rfl) _ ta (by rfl) (by rfl) (by have := HTA.out; simp only [List.length_append, List.length_cons, List.length_nil]; omega)⟩) ?_ ?_
  rotate_left
  · simp only [Act.put, List.setIfInBounds_toArray, List.set_cons_zero, List.set_cons_succ, i64_w, i32_w]
    rfl
  refine pure_ (i := 25) (N := some 51) (a' := ?_) #[true, true, true, true, true, true, true, true, true, true, true, true, true, true, true, true, true, true, true, true, true, true, true, true, true, true, false, false, false, false, false, false, false, false, false, false, false, false, false, false, false, false, false, false, false, false, false, false, false, false, false, false, false, false] rfl rfl (any_of HT_.out (by kernel_rfl)) (fun _ _ _ h => h) (Or.inl ⟨by rfl, streq_yields _ _ _ _ (by rfl) _ _ (by rfl) (by rfl) true EQ1.out⟩) ?_ ?_
  rotate_left
  · simp only [Act.put, List.setIfInBounds_toArray, List.set_cons_zero, List.set_cons_succ, i64_w, i32_w]
    rfl
  refine pure_ (i := 26) (N := some 52) (v := ?_) (a' := ?_) #[true, true, true, true, true, true, true, true, true, true, true, true, true, true, true, true, true, true, true, true, true, true, true, true, true, true, true, false, false, false, false, false, false, false, false, false, false, false, false, false, false, false, false, false, false, false, false, false, false, false, false, false, false, false] rfl rfl (any_of HT_.out (by kernel_rfl)) (fun _ _ _ h => h) (Or.inl ⟨by rfl, ?_⟩) ?_ ?_
  rotate_left
  · intro w'
    go_simp
    with_reducible rfl
  rotate_left
  · simp only [Act.put, List.setIfInBounds_toArray, List.set_cons_zero, List.set_cons_succ, i64_w, i32_w]
    rfl
  refine pure_ (i := 27) (N := some 53) (v := ?_) (a' := ?_) #[true, true, true, true, true, true, true, true, true, true, true, true, true, true, true, true, true, true, true, true, true, true, true, true, true, true, true, true, false, false, false, false, false, false, false, false, false, false, false, false, false, false, false, false, false, false, false, false, false, false, false, false, false, false] rfl rfl (any_of HT_.out (by kernel_rfl)) (fun _ _ _ h => h) (Or.inl ⟨by rfl, ?_⟩) ?_ ?_
  rotate_left
  · intro w'
    go_simp
    with_reducible rfl
  rotate_left
  · simp only [Act.put, List.setIfInBounds_toArray, List.set_cons_zero, List.set_cons_succ, i64_w, i32_w]
    rfl
  refine pure_ (i := 28) (N := some 54) (v := ?_) (a' := ?_) #[true, true, true, true, true, true, true, true, true, true, true, true, true, true, true, true, true, true, true, true, true, true, true, true, true, true, true, true, true, false, false, false, false, false, false, false, false, false, false, false, false, false, false, false, false, false, false, false, false, false, false, false, false, false] rfl rfl (any_of HT_.out (by kernel_rfl)) (fun _ _ _ h => h) (Or.inl ⟨by rfl, ?_⟩) ?_ ?_
  rotate_left
  · intro w'
    go_simp
    with_reducible rfl
  rotate_left
  · simp only [Act.put, List.setIfInBounds_toArray, List.set_cons_zero, List.set_cons_succ, i64_w, i32_w]
    rfl
  refine take_ (i := 29) (N := some 55) (v := ?_) (a' := ?_) #[true, true, true, true, true, true, true, true, true, true, true, true, true, true, true, true, true, true, true, true, true, true, true, true, true, true, true, true, true, true, false, false, false, false, false, false, false, false, false, false, false, false, false, false, false, false, false, false, false, false, false, false, false, false] rfl rfl (take_ofW HT_.out HW_.out (by kernel_rfl)) (fun _ _ _ h => h) (Or.inl ⟨by rfl, ?_⟩) hHeld ?_ ?_
  rotate_left
  · rintro w' s8
    go_simp
    with_reducible rfl
  rotate_left
  · simp only [Act.put, List.setIfInBounds_toArray, List.set_cons_zero, List.set_cons_succ, i64_w, i32_w]
    rfl
  refine pure_ (i := 30) (N := some 56) (v := ?_) (a' := ?_) #[true, true, true, true, true, true, true, true, true, true, true, true, true, true, true, true, true, true, true, true, true, true, true, true, true, true, true, true, true, true, true, false, false, false, false, false, false, false, false, false, false, false, false, false, false, false, false, false, false, false, false, false, false, false] rfl rfl (any_of HT_.out (by kernel_rfl)) (fun _ _ _ h => h) (Or.inl ⟨by rfl, ?_⟩) ?_ ?_
  rotate_left
  · intro w'
    go_simp
    with_reducible rfl
  rotate_left
  · simp only [Act.put, List.setIfInBounds_toArray, List.set_cons_zero, List.set_cons_succ, i64_w, i32_w]
    rfl
  refine pure_ (i := 31) (N := some 57) (v := ?_) (a' := ?_) #[true, true, true, true, true, true, true, true, true, true, true, true, true, true, true, true, true, true, true, true, true, true, true, true, true, true, true, true, true, true, true, true, false, false, false, false, false, false, false, false, false, false, false, false, false, false, false, false, false, false, false, false, false, false] rfl rfl (any_of HT_.out (by kernel_rfl)) (fun _ _ _ h => h) (Or.inl ⟨by rfl, ?_⟩) ?_ ?_
  rotate_left
  · intro w'
    go_simp
    with_reducible rfl
  rotate_left
  · simp only [Act.put, List.setIfInBounds_toArray, List.set_cons_zero, List.set_cons_succ, i64_w, i32_w]
    rfl
  refine pure_ (i := 32) (N := some 58) (v := ?_) (a' := ?_) #[true, true, true, true, true, true, true, true, true, true, true, true, true, true, true, true, true, true, true, true, true, true, true, true, true, true, true, true, true, true, true, true, true, false, false, false, false, false, false, false, false, false, false, false, false, false, false, false, false, false, false, false, false, false] rfl rfl (any_of HT_.out (by kernel_rfl)) (fun _ _ _ h => h) (Or.inl ⟨by rfl, ?_⟩) ?_ ?_
  rotate_left
  · intro w'
    go_simp
    with_reducible rfl
  rotate_left
  · simp only [Act.put, List.setIfInBounds_toArray, List.set_cons_zero, List.set_cons_succ, i64_w, i32_w]
    rfl
  refine pure_ (i := 33) (N := some 59) (v := ?_) (a' := ?_) #[true, true, true, true, true, true, true, true, true, true, true, true, true, true, true, true, true, true, true, true, true, true, true, true, true, true, true, true, true, true, true, true, true, true, false, false, false, false, false, false, false, false, false, false, false, false, false, false, false, false, false, false, false, false] rfl rfl (any_of HT_.out (by kernel_rfl)) (fun _ _ _ h => h) (Or.inl ⟨by rfl, ?_⟩) ?_ ?_
  rotate_left
  · intro w'
    go_simp
    with_reducible rfl
  rotate_left
  · simp only [Act.put, List.setIfInBounds_toArray, List.set_cons_zero, List.set_cons_succ, i64_w, i32_w]
    rfl
  refine pure_ (i := 35) (N := some 61) (v := ?_) (a' := ?_) #[true, true, true, true, true, true, true, true, true, true, true, true, true, true, true, true, true, true, true, true, true, true, true, true, true, true, true, true, true, true, true, true, true, true, false, true, false, false, false, false, false, false, false, false, false, false, false, false, false, false, false, false, false, false] rfl rfl (any_of HT_.out (by kernel_rfl)) (fun _ _ _ h => h) (Or.inl ⟨by rfl, ?_⟩) ?_ ?_
  rotate_left
  · intro w'
    go_simp
    with_reducible rfl
  rotate_left
  · simp only [Act.put, List.setIfInBounds_toArray, List.set_cons_zero, List.set_cons_succ, i64_w, i32_w]
    rfl
  refine pure_ (i := 36) (N := some 62) (v := ?_) (a' := ?_) #[true, true, true, true, true, true, true, true, true, true, true, true, true, true, true, true, true, true, true, true, true, true, true, true, true, true, true, true, true, true, true, true, true, true, false, true, true, false, false, false, false, false, false, false, false, false, false, false, false, false, false, false, false, false] rfl rfl (any_of HT_.out (by kernel_rfl)) (fun _ _ _ h => h) (Or.inl ⟨by rfl, ?_⟩) ?_ ?_
  rotate_left
  · intro w'
    go_simp
    with_reducible rfl
  rotate_left
  · simp only [Act.put, List.setIfInBounds_toArray, List.set_cons_zero, List.set_cons_succ, i64_w, i32_w]
    rfl
  refine one_ (i := 34) (N := some 60) #[true, true, true, true, true, true, true, true, true, true, true, true, true, true, true, true, true, true, true, true, true, true, true, true, true, true, true, true, true, true, true, true, true, true, true, true, true, false, false, false, false, false, false, false, false, false, false, false, false, false, false, false, false, false] rfl rfl (one_of HT_.out (by kernel_rfl)) (by decide) (fun K hK => ?_)
  refine goes_ Tryz.func12 (by kernel_rfl) rfl #[.string s] (by rfl) rfl rfl (by (try simp only [List.map_toArray, List.map_cons, List.map_nil]); first | done | rfl) ?_
  with_reducible refine (BC.out _).mono ?_
  rintro e w9 ⟨rfl, hb9⟩
  refine ⟨_, rfl, ?_⟩
  have n1_ := Aside0.mk ((show Below w.heap.size w _ from by first | exact HB.out | exact below_drew1 HB.out).trans (hb9.mono HB.out.size)); have n2_ := Aside0.mk ((hb9.block E (blk_lt HE.out)).trans HE.out); clear HB HE hb9; have HB := n1_; have HE := n2_; clear n1_ n2_
  refine hK.out _ _ (cell_of HE.out S8.out) (fun hHeld => ?_)
  clear hK K
  refine norm_ (a' := ?_) ?_ ?_
  rotate_left
  · show Act.put _ (some 60) _ = _
    simp only [Act.put, List.setIfInBounds_toArray, List.set_cons_zero, List.set_cons_succ, i64_w, i32_w]
    rfl
  refine pure_ (i := 37) (N := some 63) (a' := ?_) #[true, true, true, true, true, true, true, true, true, true, true, true, true, true, true, true, true, true, true, true, true, true, true, true, true, true, true, true, true, true, true, true, true, true, true, true, true, true, false, false, false, false, false, false, false, false, false, false, false, false, false, false, false, false] rfl rfl (any_of HT_.out (by kernel_rfl)) (fun _ _ _ h => h) (Or.inl ⟨by rfl, streq_yields _ _ _ _ (by rfl) _ _ (by rfl) (by rfl) true EQ2.out⟩) ?_ ?_
  rotate_left
  · simp only [Act.put, List.setIfInBounds_toArray, List.set_cons_zero, List.set_cons_succ, i64_w, i32_w]
    rfl
  refine pure_ (i := 38) (N := some 64) (v := ?_) (a' := ?_) #[true, true, true, true, true, true, true, true, true, true, true, true, true, true, true, true, true, true, true, true, true, true, true, true, true, true, true, true, true, true, true, true, true, true, true, true, true, true, true, false, false, false, false, false, false, false, false, false, false, false, false, false, false, false] rfl rfl (any_of HT_.out (by kernel_rfl)) (fun _ _ _ h => h) (Or.inl ⟨by rfl, ?_⟩) ?_ ?_
  rotate_left
  · intro w'
    go_simp
    with_reducible rfl
  rotate_left
  · simp only [Act.put, List.setIfInBounds_toArray, List.set_cons_zero, List.set_cons_succ, i64_w, i32_w]
    rfl
  refine pure_ (i := 39) (N := some 65) (v := ?_) (a' := ?_) #[true, true, true, true, true, true, true, true, true, true, true, true, true, true, true, true, true, true, true, true, true, true, true, true, true, true, true, true, true, true, true, true, true, true, true, true, true, true, true, true, false, false, false, false, false, false, false, false, false, false, false, false, false, false] rfl rfl (any_of HT_.out (by kernel_rfl)) (fun _ _ _ h => h) (Or.inl ⟨by rfl, ?_⟩) ?_ ?_
  rotate_left
  · intro w'
    go_simp
    with_reducible rfl
  rotate_left
  · simp only [Act.put, List.setIfInBounds_toArray, List.set_cons_zero, List.set_cons_succ, i64_w, i32_w]
    rfl
  refine pure_ (i := 40) (N := some 66) (v := ?_) (a' := ?_) #[true, true, true, true, true, true, true, true, true, true, true, true, true, true, true, true, true, true, true, true, true, true, true, true, true, true, true, true, true, true, true, true, true, true, true, true, true, true, true, true, true, false, false, false, false, false, false, false, false, false, false, false, false, false] rfl rfl (any_of HT_.out (by kernel_rfl)) (fun _ _ _ h => h) (Or.inl ⟨by rfl, ?_⟩) ?_ ?_
  rotate_left
  · intro w'
    go_simp
    with_reducible rfl
  rotate_left
  · simp only [Act.put, List.setIfInBounds_toArray, List.set_cons_zero, List.set_cons_succ, i64_w, i32_w]
    rfl
  refine one_ (i := 41) (N := some 67) #[true, true, true, true, true, true, true, true, true, true, true, true, true, true, true, true, true, true, true, true, true, true, true, true, true, true, true, true, true, true, true, true, true, true, true, true, true, true, true, true, true, true, false, false, false, false, false, false, false, false, false, false, false, false] rfl rfl (one_of HT_.out (by kernel_rfl)) (by decide) (fun K hK => ?_)
  refine goes_ Tryz.func14 (by kernel_rfl) rfl #[.string t, .string ⟨#[107]⟩] (by rfl) rfl rfl (by (try simp only [List.map_toArray, List.map_cons, List.map_nil]); first | done | rfl) ?_
  with_reducible refine (S1.out _ (gl_below HG.out HB.out)).mono ?_
  rintro e w9 ⟨rfl, hb9⟩
  refine ⟨_, rfl, ?_⟩
  have n1_ := Aside0.mk ((show Below w.heap.size w _ from by first | exact HB.out | exact below_drew1 HB.out).trans (hb9.mono HB.out.size)); have n2_ := Aside0.mk ((hb9.block E (blk_lt HE.out)).trans HE.out); clear HB HE hb9; have HB := n1_; have HE := n2_; clear n1_ n2_
  refine hK.out _ _ (cell_of HE.out S8.out) (fun hHeld => ?_)
  clear hK K
  refine norm_ (a' := ?_) ?_ ?_
  rotate_left
  · show Act.put _ (some 67) _ = _
    simp only [Act.put, List.setIfInBounds_toArray, List.set_cons_zero, List.set_cons_succ, i64_w, i32_w]
    rfl
  refine pure_ (i := 42) (N := some 68) (v := ?_) (a' := ?_) #[true, true, true, true, true, true, true, true, true, true, true, true, true, true, true, true, true, true, true, true, true, true, true, true, true, true, true, true, true, true, true, true, true, true, true, true, true, true, true, true, true, true, true, false, false, false, false, false, false, false, false, false, false, false] rfl rfl (any_of HT_.out (by kernel_rfl)) (fun _ _ _ h => h) (Or.inl ⟨by rfl, ?_⟩) ?_ ?_
  rotate_left
  · intro w'
    go_simp
    with_reducible rfl
  rotate_left
  · simp only [Act.put, List.setIfInBounds_toArray, List.set_cons_zero, List.set_cons_succ, i64_w, i32_w]
    rfl
  refine pure_ (i := 43) (N := some 69) (v := ?_) (a' := ?_) #[true, true, true, true, true, true, true, true, true, true, true, true, true, true, true, true, true, true, true, true, true, true, true, true, true, true, true, true, true, true, true, true, true, true, true, true, true, true, true, true, true, true, true, true, false, false, false, false, false, false, false, false, false, false] rfl rfl (any_of HT_.out (by kernel_rfl)) (fun _ _ _ h => h) (Or.inl ⟨by rfl, ?_⟩) ?_ ?_
  rotate_left
  · intro w'
    go_simp
    with_reducible rfl
  rotate_left
  · simp only [Act.put, List.setIfInBounds_toArray, List.set_cons_zero, List.set_cons_succ, i64_w, i32_w]
    rfl
  refine pure_ (i := 44) (N := some 70) (v := ?_) (a' := ?_) #[true, true, true, true, true, true, true, true, true, true, true, true, true, true, true, true, true, true, true, true, true, true, true, true, true, true, true, true, true, true, true, true, true, true, true, true, true, true, true, true, true, true, true, true, true, false, false, false, false, false, false, false, false, false] rfl rfl (any_of HT_.out (by kernel_rfl)) (fun _ _ _ h => h) (Or.inl ⟨by rfl, ?_⟩) ?_ ?_
  rotate_left
  · intro w'
    go_simp
    with_reducible rfl
  rotate_left
  · simp only [Act.put, List.setIfInBounds_toArray, List.set_cons_zero, List.set_cons_succ, i64_w, i32_w]
    rfl
  refine one_ (i := 45) (N := some 71) #[true, true, true, true, true, true, true, true, true, true, true, true, true, true, true, true, true, true, true, true, true, true, true, true, true, true, true, true, true, true, true, true, true, true, true, true, true, true, true, true, true, true, true, true, true, true, false, false, false, false, false, false, false, false] rfl rfl (one_of HT_.out (by kernel_rfl)) (by decide) (fun K hK => ?_)
  refine goes_ Tryz.func14 (by kernel_rfl) rfl #[.string t, .string ⟨#[108]⟩] (by rfl) rfl rfl (by (try simp only [List.map_toArray, List.map_cons, List.map_nil]); first | done | rfl) ?_
  with_reducible refine (S2.out _ (gl_below HG.out HB.out)).mono ?_
  rintro e w9 ⟨rfl, hb9⟩
  refine ⟨_, rfl, ?_⟩
  have n1_ := Aside0.mk ((show Below w.heap.size w _ from by first | exact HB.out | exact below_drew1 HB.out).trans (hb9.mono HB.out.size)); have n2_ := Aside0.mk ((hb9.block E (blk_lt HE.out)).trans HE.out); clear HB HE hb9; have HB := n1_; have HE := n2_; clear n1_ n2_
  refine hK.out _ _ (cell_of HE.out S8.out) (fun hHeld => ?_)
  clear hK K
  refine norm_ (a' := ?_) ?_ ?_
  rotate_left
  · show Act.put _ (some 71) _ = _
    simp only [Act.put, List.setIfInBounds_toArray, List.set_cons_zero, List.set_cons_succ, i64_w, i32_w]
    rfl
  refine pure_ (i := 46) (N := some 72) (v := ?_) (a' := ?_) #[true, true, true, true, true, true, true, true, true, true, true, true, true, true, true, true, true, true, true, true, true, true, true, true, true, true, true, true, true, true, true, true, true, true, true, true, true, true, true, true, true, true, true, true, true, true, true, false, false, false, false, false, false, false] rfl rfl (any_of HT_.out (by kernel_rfl)) (fun _ _ _ h => h) (Or.inl ⟨by rfl, ?_⟩) ?_ ?_
  rotate_left
  · intro w'
    go_simp
    with_reducible rfl
  rotate_left
  · simp only [Act.put, List.setIfInBounds_toArray, List.set_cons_zero, List.set_cons_succ, i64_w, i32_w]
    rfl
  refine pure_ (i := 47) (N := some 73) (v := ?_) (a' := ?_) #[true, true, true, true, true, true, true, true, true, true, true, true, true, true, true, true, true, true, true, true, true, true, true, true, true, true, true, true, true, true, true, true, true, true, true, true, true, true, true, true, true, true, true, true, true, true, true, true, false, false, false, false, false, false] rfl rfl (any_of HT_.out (by kernel_rfl)) (fun _ _ _ h => h) (Or.inl ⟨by rfl, ?_⟩) ?_ ?_
  rotate_left
  · intro w'
    go_simp
    with_reducible rfl
  rotate_left
  · simp only [Act.put, List.setIfInBounds_toArray, List.set_cons_zero, List.set_cons_succ, i64_w, i32_w]
    rfl
  refine pure_ (i := 48) (N := some 74) (v := ?_) (a' := ?_) #[true, true, true, true, true, true, true, true, true, true, true, true, true, true, true, true, true, true, true, true, true, true, true, true, true, true, true, true, true, true, true, true, true, true, true, true, true, true, true, true, true, true, true, true, true, true, true, true, true, false, false, false, false, false] rfl rfl (any_of HT_.out (by kernel_rfl)) (fun _ _ _ h => h) (Or.inl ⟨by rfl, ?_⟩) ?_ ?_
  rotate_left
  · intro w'
    go_simp
    with_reducible rfl
  rotate_left
  · simp only [Act.put, List.setIfInBounds_toArray, List.set_cons_zero, List.set_cons_succ, i64_w, i32_w]
    rfl
  refine pure_ (i := 49) (N := some 75) (v := ?_) (a' := ?_) #[true, true, true, true, true, true, true, true, true, true, true, true, true, true, true, true, true, true, true, true, true, true, true, true, true, true, true, true, true, true, true, true, true, true, true, true, true, true, true, true, true, true, true, true, true, true, true, true, true, true, false, false, false, false] rfl rfl (any_of HT_.out (by kernel_rfl)) (fun _ _ _ h => h) (Or.inl ⟨by rfl, ?_⟩) ?_ ?_
  rotate_left
  · intro w'
    go_simp
    with_reducible rfl
  rotate_left
  · simp only [Act.put, List.setIfInBounds_toArray, List.set_cons_zero, List.set_cons_succ, i64_w, i32_w]
    rfl
  refine one_ (i := 50) (N := some 76) #[true, true, true, true, true, true, true, true, true, true, true, true, true, true, true, true, true, true, true, true, true, true, true, true, true, true, true, true, true, true, true, true, true, true, true, true, true, true, true, true, true, true, true, true, true, true, true, true, true, true, true, false, false, false] rfl rfl (one_of HT_.out (by kernel_rfl)) (by decide) (fun K hK => ?_)
  refine goes_ Tryz.func14 (by kernel_rfl) rfl #[.string s, .string ⟨#[107]⟩] (by rfl) rfl rfl (by (try simp only [List.map_toArray, List.map_cons, List.map_nil]); first | done | rfl) ?_
  with_reducible refine (S3.out _ (gl_below HG.out HB.out)).mono ?_
  rintro e w9 ⟨rfl, hb9⟩
  refine ⟨_, rfl, ?_⟩
  have n1_ := Aside0.mk ((show Below w.heap.size w _ from by first | exact HB.out | exact below_drew1 HB.out).trans (hb9.mono HB.out.size)); have n2_ := Aside0.mk ((hb9.block E (blk_lt HE.out)).trans HE.out); clear HB HE hb9; have HB := n1_; have HE := n2_; clear n1_ n2_
  refine hK.out _ _ (cell_of HE.out S8.out) (fun hHeld => ?_)
  clear hK K
  refine norm_ (a' := ?_) ?_ ?_
  rotate_left
  · show Act.put _ (some 76) _ = _
    simp only [Act.put, List.setIfInBounds_toArray, List.set_cons_zero, List.set_cons_succ, i64_w, i32_w]
    rfl
  refine pure_ (i := 51) (N := some 77) (v := ?_) (a' := ?_) #[true, true, true, true, true, true, true, true, true, true, true, true, true, true, true, true, true, true, true, true, true, true, true, true, true, true, true, true, true, true, true, true, true, true, true, true, true, true, true, true, true, true, true, true, true, true, true, true, true, true, true, true, false, false] rfl rfl (any_of HT_.out (by kernel_rfl)) (fun _ _ _ h => h) (Or.inl ⟨by rfl, ?_⟩) ?_ ?_
  rotate_left
  · intro w'
    go_simp
    with_reducible rfl
  rotate_left
  · simp only [Act.put, List.setIfInBounds_toArray, List.set_cons_zero, List.set_cons_succ, i64_w, i32_w]
    rfl
  refine pure_ (i := 52) (N := some 78) (v := ?_) (a' := ?_) #[true, true, true, true, true, true, true, true, true, true, true, true, true, true, true, true, true, true, true, true, true, true, true, true, true, true, true, true, true, true, true, true, true, true, true, true, true, true, true, true, true, true, true, true, true, true, true, true, true, true, true, true, true, false] rfl rfl (any_of HT_.out (by kernel_rfl)) (fun _ _ _ h => h) (Or.inl ⟨by rfl, ?_⟩) ?_ ?_
  rotate_left
  · intro w'
    go_simp
    with_reducible rfl
  rotate_left
  · simp only [Act.put, List.setIfInBounds_toArray, List.set_cons_zero, List.set_cons_succ, i64_w, i32_w]
    rfl
  refine pure_ (i := 53) (N := some 0) (v := ?_) (a' := ?_) #[true, true, true, true, true, true, true, true, true, true, true, true, true, true, true, true, true, true, true, true, true, true, true, true, true, true, true, true, true, true, true, true, true, true, true, true, true, true, true, true, true, true, true, true, true, true, true, true, true, true, true, true, true, true] rfl rfl (any_of HT_.out (by kernel_rfl)) (fun _ _ _ h => h) (Or.inl ⟨by rfl, ?_⟩) ?_ ?_
  rotate_left
  · intro w'
    go_simp
    with_reducible rfl
  rotate_left
  · simp only [Act.put, List.setIfInBounds_toArray, List.set_cons_zero, List.set_cons_succ, i64_w, i32_w]
    rfl
  refine done_ (done_of HT_.out (by kernel_rfl)) ?_
  clear HT_ HW_ hHeld
  go_wp2
  go_ret
  exact ⟨rfl, HB.out⟩
end Go.Proofs.YtniabkphbnimaaaGreatDoor.Sh
namespace Go.Proofs.YtniabkphbnimaaaGreatDoor.Sh
open Go Go.RowKit Go.Maps
theorem gRounds : Tryz.prog.globalNamed "joust/sha.rounds" = some 0 := by kernel_rfl
theorem tRounds : (Tryz.prog.globals[0]?).map (·.type) = some 130 := by kernel_rfl
def KSz : List Int := KS.map fun x => (x.toNat : Int)
theorem dRounds : (Rows.laid_joust_sha_rounds : DataW Unit) = Lib.tabData .u32 KSz := by kernel_rfl
theorem ksz : (KSz.map fun z => Value.int .u32 z) = KS.map vW := by
  unfold KSz
  rw [List.map_map]
  rfl
theorem heap_of_var {W : World} {name : String} {g : Nat} {cs : Array Value} (hg : Tryz.prog.globalNamed name = some g) (h : W.var? Tryz.prog name = some cs) : ∃ t fr, W.heap[g]? = some (.cells cs t fr) := by
  unfold World.var? at h
  rw [hg] at h
  simp only [Option.bind_some] at h
  split at h
  · rename_i c t fr hh
    cases h
    exact ⟨_, _, hh⟩
  · cases h
theorem tab_of {W : World} {name : String} {g : Nat} {t e : TypeId} {n : Nat} {zs : List Int} {d : DataW Unit} (hdz : d = Lib.tabData .u32 zs) (hg : Tryz.prog.globalNamed name = some g) (ht : Tryz.prog.underlying t = some (.array n e)) (he : Tryz.prog.underlying e = some (.int .u32)) (hce : Tryz.prog.cellsOf e = 1) (hct : Tryz.prog.cellsOf t = n)
    {enc : TypeId × Value → Unit} {base : Nat} {sp : Nat → Bool} {held : Bool} {fuel : Nat} {cs : Array Value} {p : List MemPlace} (hvar : W.var? Tryz.prog name = some cs) (hd : DataW.trod enc Tryz.prog W base sp held fuel t cs.toList = some (d, p)) : ∃ u fr, W.heap[g]? = some (.cells (zs.map fun z => Value.int .u32 z).toArray u fr) := by
  subst hdz
  have e1 := Lib.cells_of_tab ht he hce hct hd
  obtain ⟨u, fr, hh⟩ := heap_of_var hg hvar
  refine ⟨u, fr, ?_⟩
  rw [hh, ← e1]
theorem gl_of_laid2 {W : World} (h : laidMet Tryz.prog [("joust/sha.rounds", Rows.laid_joust_sha_rounds), ("unicode/utf8.acceptRanges", Rows.laid_unicode_utf8_acceptRanges), ("unicode/utf8.first", Rows.laid_unicode_utf8_first)] W) : GL W := by
  obtain ⟨ps, ⟨g1, t1, cs1, fuel1, p1, q1, hg1, ht1, hvar1, hd1, _, _⟩, _⟩ := h
  obtain rfl := Option.some.inj (gRounds.symm.trans hg1)
  obtain rfl := Option.some.inj (tRounds.symm.trans ht1)
  obtain ⟨u, fr, hh⟩ := tab_of dRounds gRounds Tryz.underlying130 Tryz.underlying110 (by kernel_rfl) (by kernel_rfl) hvar1 hd1
  rw [ksz] at hh
  exact ⟨u, fr, hh⟩
/-- The cells of the listed tables, for a witness. -/
def roundsC : Array Value := (KS.map vW).toArray
def firstC : Array Value := (Pinned.utf8FirstZ.map fun z : Nat => Value.int .u8 (z : Int)).toArray
def acceptC : Array Value := #[.int .u8 128, .int .u8 191, .int .u8 160, .int .u8 191, .int .u8 128, .int .u8 159, .int .u8 144, .int .u8 191, .int .u8 128, .int .u8 143, .int .u8 0, .int .u8 0, .int .u8 0, .int .u8 0, .int .u8 0, .int .u8 0, .int .u8 0, .int .u8 0, .int .u8 0, .int .u8 0, .int .u8 0, .int .u8 0, .int .u8 0, .int .u8 0, .int .u8 0, .int .u8 0, .int .u8 0, .int .u8 0, .int .u8 0, .int .u8 0, .int .u8 0, .int .u8 0]
end Go.Proofs.YtniabkphbnimaaaGreatDoor.Sh
namespace Go.Proofs.YtniabkphbnimaaaGreatDoor.Sh
open Go Go.RowKit Go.Maps Go.Proofs.YtniabkphbnimaaaGreatDoorW.PrintWords Go.Proofs.YtniabkphbnimaaaGreatDoorW.PrintLast Go.Proofs.YtniabkphbnimaaaGreatDoor.Bs
theorem u8n (n : Nat) : (UInt8.ofNat n).toNat = n % 256 := by simp
end Go.Proofs.YtniabkphbnimaaaGreatDoor.Sh
namespace Go.Proofs.YtniabkphbnimaaaGreatDoor.Sh
open Go Go.RowKit Go.Maps Go.Proofs.YtniabkphbnimaaaGreatDoorW.PrintWords Go.Proofs.YtniabkphbnimaaaGreatDoorW.PrintLast Go.Proofs.YtniabkphbnimaaaGreatDoor.Bs
theorem wpList_add_v {P : Program} {ops : Array Oper} {rest : List Oper} {o : Oper} {a : Act} {w : World} {Q : Exit → Act → World → Prop} (hgd : o.guard = none) (t t2 : TypeId) (x y : Operand) (ho : o.op = .binOp .add t x y t2) (s r : ByteArray) (hx : a.eval x = .string s) (hy : a.eval y = .string r) (hs : s.size + r.size ≤ 9223372036854775807) (v : ByteArray) (hv : s ++ r = v)
    (h : wpList P ops Q rest (a.put o.dst (.string v)) w) : wpList P ops Q (o :: rest) a w := by
  subst hv
  refine wpList_plain hgd fun K hK => ?_
  have hrun := run_string_add_sum (P := P) w s r hs
  unfold Oper.wp execOp
  simp only [ho, hx, hy, Sem.run_bind, eqGuard_add, binOp_string_add, hrun, Result.andThen_ok, Sem.run_pure]
  exact hK _ _ h
def leastK (k : Nat) : Nat := [96, 60, 93, 77, 55, 52, 52].getD (k - 1) 0
/-- What a head and like bytes behind it must answer. -/
def wantL (k n : Nat) (c : UInt8) : Int :=
  if 1200 < n + 4 then 72 else if k < 1 ∨ 7 < k then 71
  else if (k = 3 ∧ (n + 4 < 93 ∨ n + 4 ≠ 93 + c.toNat)) ∨ (k = 6 ∧ n + 4 < 52) ∨ (k ≠ 3 ∧ k ≠ 6 ∧ n + 4 ≠ leastK k) then 72
  else if (k = 1 ∧ c.toNat ≠ 0) ∨ (k = 5 ∧ 3 < c.toNat) then 73 else 0
theorem rep_at (n : Nat) (c : UInt8) (i : Nat) (h : i < n) : (List.replicate n c).getD i 0 = c := by
  rw [List.getD_eq_getElem?_getD, List.getElem?_replicate, if_pos h]
  rfl
theorem dec_rep (k n : Nat) (c : UInt8) (hk : k < 9) : (dec (74 :: 48 :: 49 :: UInt8.ofNat k :: List.replicate n c)).2 = wantL k n c := by
  have hlen : (74 :: 48 :: 49 :: UInt8.ofNat k :: List.replicate n c : List UInt8).length = n + 4 := by simp only [List.length_cons, List.length_replicate]
  unfold wantL
  by_cases h1 : 1200 < n + 4
  · rw [if_pos h1]
    unfold dec
    rw [hlen, if_pos h1]
  rw [if_neg h1]
  by_cases h2 : k < 1 ∨ 7 < k
  · rw [if_pos h2]
    unfold dec
    rw [hlen, if_neg h1, if_pos (show List.take 3 (74 :: 48 :: 49 :: UInt8.ofNat k :: List.replicate n c : List UInt8) = [74, 48, 49] from rfl)]
    show (if 1 ≤ ((UInt8.ofNat k).toNat : Int) ∧ ((UInt8.ofNat k).toNat : Int) ≤ 7 then _ else (Dg.zero, (71 : Int))).2 = _
    rw [u8n, if_neg (by omega)]
  rw [if_neg h2]
  have h8 : k = 1 ∨ k = 2 ∨ k = 3 ∨ k = 4 ∨ k = 5 ∨ k = 6 ∨ k = 7 := by omega
  have hr : (List.replicate n c).length = n := List.length_replicate
  rcases h8 with rfl | rfl | rfl | rfl | rfl | rfl | rfl
  · rw [dec_at (UInt8.ofNat 1) _ (by rw [hlen]; omega) (by decide)]
    show (fin (getAll (fieldsOf 1) (dk 1, false, List.replicate n c))).2 = _
    rw [dec1, hr]
    by_cases h3 : n = 92
    · have hz : (∀ b ∈ (List.replicate n c).drop 16, b = 0) ↔ c = 0 := by
        rw [List.drop_replicate]
        constructor
        · intro h
          exact h c (List.mem_replicate.mpr ⟨by omega, rfl⟩)
        · intro h b hb
          rw [(List.mem_replicate.mp hb).2, h]
      rw [if_pos h3]
      by_cases hc : c = 0
      · rw [if_pos (hz.mpr hc)]
        subst hc h3
        rfl
      · have hc' : c.toNat ≠ 0 := fun h => hc (UInt8.toNat_inj.mp h)
        rw [if_neg (fun h => hc (hz.mp h))]
        subst h3
        rw [if_neg (by simp [leastK]), if_pos (Or.inl ⟨rfl, hc'⟩)]
    · rw [if_neg h3, if_pos (Or.inr (Or.inr ⟨by decide, by decide, by simp [leastK]; omega⟩))]
  · rw [dec_at (UInt8.ofNat 2) _ (by rw [hlen]; omega) (by decide)]
    show (fin (getAll (fieldsOf 2) (dk 2, false, List.replicate n c))).2 = _
    rw [dec2, hr]
    by_cases h3 : n = 56
    · rw [if_pos h3, if_neg (by simp [leastK]; omega), if_neg (by simp)]
    · rw [if_neg h3, if_pos (Or.inr (Or.inr ⟨by decide, by decide, by simp [leastK]; omega⟩))]
  · rw [dec_at (UInt8.ofNat 3) _ (by rw [hlen]; omega) (by decide)]
    show (fin (getAll (fieldsOf 3) (dk 3, false, List.replicate n c))).2 = _
    rw [dec3, hr]
    by_cases h3 : 89 ≤ n
    · rw [rep_at n c 56 (by omega)]
      by_cases h4 : n = 89 + c.toNat
      · rw [if_pos ⟨h3, h4⟩, if_neg (by simp; omega), if_neg (by simp)]
      · rw [if_neg (fun h => h4 h.2), if_pos (Or.inl ⟨rfl, by omega⟩)]
    · rw [if_neg (fun h => h3 h.1), if_pos (Or.inl ⟨rfl, by omega⟩)]
  · rw [dec_at (UInt8.ofNat 4) _ (by rw [hlen]; omega) (by decide)]
    show (fin (getAll (fieldsOf 4) (dk 4, false, List.replicate n c))).2 = _
    rw [dec4, hr]
    by_cases h3 : n = 73
    · rw [if_pos h3, if_neg (by simp [leastK]; omega), if_neg (by simp)]
    · rw [if_neg h3, if_pos (Or.inr (Or.inr ⟨by decide, by decide, by simp [leastK]; omega⟩))]
  · rw [dec_at (UInt8.ofNat 5) _ (by rw [hlen]; omega) (by decide)]
    show (fin (getAll (fieldsOf 5) (dk 5, false, List.replicate n c))).2 = _
    rw [dec5, hr]
    by_cases h3 : n = 51
    · rw [if_pos h3, rep_at n c 18 (by omega)]
      by_cases hc : 3 < c.toNat
      · rw [if_pos hc, if_neg (by simp [leastK]; omega), if_pos (Or.inr ⟨rfl, hc⟩)]
      · rw [if_neg hc, if_neg (by simp [leastK]; omega), if_neg (by simp; omega)]
    · rw [if_neg h3, if_pos (Or.inr (Or.inr ⟨by decide, by decide, by simp [leastK]; omega⟩))]
  · rw [dec_at (UInt8.ofNat 6) _ (by rw [hlen]; omega) (by decide)]
    show (fin (getAll (fieldsOf 6) (dk 6, false, List.replicate n c))).2 = _
    rw [dec6, hr]
    by_cases h3 : 48 ≤ n
    · rw [if_pos h3, if_neg (by simp; omega), if_neg (by simp)]
    · rw [if_neg h3, if_pos (Or.inr (Or.inl ⟨rfl, by omega⟩))]
  · rw [dec_at (UInt8.ofNat 7) _ (by rw [hlen]; omega) (by decide)]
    show (fin (getAll (fieldsOf 7) (dk 7, false, List.replicate n c))).2 = _
    rw [dec7, hr]
    by_cases h3 : n = 48
    · rw [if_pos h3, if_neg (by simp [leastK]; omega), if_neg (by simp)]
    · rw [if_neg h3, if_pos (Or.inr (Or.inr ⟨by decide, by decide, by simp [leastK]; omega⟩))]
theorem dec_j (l : List UInt8) : (dec (106 :: l)).2 = if 1200 < l.length + 1 then 72 else 70 := by
  unfold dec
  rw [List.length_cons]
  split
  · rfl
  · rw [if_neg (by
      intro h
      have := congrArg (fun x : List UInt8 => x.getD 0 0) h
      simp at this)]
theorem tmod_cast (k : Int) (m : Nat) (hm : 0 < m) (h2 : m < 9223372036854775807) : ∃ q : Nat, wrap64 ((IntKind.u64.wrap k).tmod (m : Int)) = (q : Int) ∧ q < m := by
  have h0 : 0 ≤ IntKind.u64.wrap k := by rw [wrap_u64]; omega
  have e : (IntKind.u64.wrap k).tmod (m : Int) = (IntKind.u64.wrap k) % (m : Int) := Int.tmod_eq_emod_of_nonneg h0
  have h3 := Int.emod_nonneg (IntKind.u64.wrap k) (show (m : Int) ≠ 0 by omega)
  have h4 := Int.emod_lt_of_pos (IntKind.u64.wrap k) (show (0 : Int) < (m : Int) by omega)
  refine ⟨((IntKind.u64.wrap k) % (m : Int)).toNat, ?_, by omega⟩
  rw [e]
  unfold wrap64
  omega
end Go.Proofs.YtniabkphbnimaaaGreatDoor.Sh
namespace Go.Proofs.YtniabkphbnimaaaGreatDoor.Sh
open Go Go.RowKit Go.Maps Go.Proofs.YtniabkphbnimaaaGreatDoorW.PrintWords Go.Proofs.YtniabkphbnimaaaGreatDoorW.PrintLast Go.Proofs.YtniabkphbnimaaaGreatDoor.Bs
def T_6_5 : Bool × List (List Nat × List Nat) := (true, [([], []), ([0], [0]), ([1], [1]), ([2], [2]), ([3], [3]), ([], []), ([], []), ([5, 6], [5, 6]), ([4, 7], [4, 7]), ([8, 7, 0, 1, 2, 3, 4, 5, 6, 7, 8], [8])])
def B_6_5 : List Nat := [0, 1, 3, 7, 15, 0, 0, 96, 255, 511]
theorem tab_f6_5 : rtab .any (opsOf Tryz.f6 5) = T_6_5 := by kernel_rfl
theorem bits_f6_5 : waitsOk T_6_5.2 B_6_5 = true := by kernel_rfl
set_option maxHeartbeats 8000000 in
set_option maxRecDepth 100000 in
theorem lengths_walk (k n : Int) (c : UInt8) (w : World) (hg : GL w) : Calls Tryz.prog 6 #[.int .i64 k, .int .i64 n, .int .u8 (c.toNat : Int)] w fun e w' => e = .returned (.bool true) ∧ Below w.heap.size w w' := by
  have HG := Aside0.mk hg
  have AC := Aside0.mk alive_calls
  clear hg
  go_enter Tryz.func6, Tryz.ntmps6
  go_upto_region 5 with (go_at_call 9; (with_reducible refine (AC.out w HG.out).mono ?_); rintro e w1 ⟨rfl, hb1⟩; have HB := Aside0.mk hb1; clear hb1)
  obtain ⟨kk, ek0, hk9⟩ := tmod_cast k 9 (by decide) (by decide)
  obtain ⟨nn, en0, hn9⟩ := tmod_cast n 1300 (by decide) (by decide)
  have ek : wrap64 ((IntKind.u64.wrap k).tmod 9) = (kk : Int) := ek0
  have en : wrap64 ((IntKind.u64.wrap n).tmod 1300) = (nn : Int) := en0
  rw [ek, en]
  clear ek ek0 en en0 HG AC
  obtain ⟨z, ez⟩ : ∃ z, z = List.replicate nn c := ⟨_, rfl⟩
  obtain ⟨u, eu⟩ : ∃ u, u = UInt8.ofNat kk := ⟨_, rfl⟩
  have HZ := Aside0.mk (show z.length = nn ∧ nn < 1300 ∧ kk < 9 from ⟨by rw [ez, List.length_replicate], hn9, hk9⟩)
  have EU := Aside0.mk (show IntKind.u8.wrap (kk : Int) = (u.toNat : Int) from by rw [eu]; exact u8_nat kk (by omega))
  have TC := Aside0.mk (show ∀ w, Calls Tryz.prog 21 #[.int .u8 (c.toNat : Int), .int .i64 (nn : Int)] w fun e w' => e = .returned (.string (str z)) ∧ Below w.heap.size w w' from fun w => by rw [ez]; exact times_calls c _ rfl nn _ rfl (by omega) w)
  have DR := Aside0.mk (show (dec (74 :: 48 :: 49 :: u :: z)).2 = wantL kk nn c from by rw [ez, eu]; exact dec_rep kk nn c hk9)
  clear ez eu hk9 hn9
  go_cut [7] (fun v wc => v = .string (str ([74, 48, 49] ++ [u] ++ z)) ∧ Below w.heap.size w wc)
  case first =>
    refine start_ (n := 10) (S := fun w' => True) (ds := []) #[false, false, false, false, false, false, false, false, false, false] (by kernel_rfl) rfl rfl trivial (fun hHeld => ?_)
    refine with_tabW tab_f6_5 bits_f6_5 (fun HT_ HW_ => ?_)
    refine pure_ (i := 0) (N := some 27) (v := ?_) (a' := ?_) #[true, false, false, false, false, false, false, false, false, false] rfl rfl (any_of HT_.out (by kernel_rfl)) (fun _ _ _ h => h) (Or.inl ⟨by rfl, ?_⟩) ?_ ?_
    rotate_left
    · intro w'
      go_simp
      with_reducible rfl
    rotate_left
    · simp only [Act.put, List.setIfInBounds_toArray, List.set_cons_zero, List.set_cons_succ, i64_w, i32_w]
      rfl
    refine pure_ (i := 1) (N := some 28) (v := ?_) (a' := ?_) #[true, true, false, false, false, false, false, false, false, false] rfl rfl (any_of HT_.out (by kernel_rfl)) (fun _ _ _ h => h) (Or.inl ⟨by rfl, ?_⟩) ?_ ?_
    rotate_left
    · intro w'
      go_simp
      with_reducible rfl
    rotate_left
    · simp only [Act.put, List.setIfInBounds_toArray, List.set_cons_zero, List.set_cons_succ, i64_w, i32_w]
      rfl
    refine pure_ (i := 5) (N := some 32) (v := ?_) (a' := ?_) #[true, true, false, false, false, true, false, false, false, false] rfl rfl (any_of HT_.out (by kernel_rfl)) (fun _ _ _ h => h) (Or.inl ⟨by rfl, ?_⟩) ?_ ?_
    rotate_left
    · intro w'
      go_simp
      with_reducible rfl
    rotate_left
    · simp only [Act.put, List.setIfInBounds_toArray, List.set_cons_zero, List.set_cons_succ, i64_w, i32_w]
      rfl
    refine pure_ (i := 6) (N := some 33) (v := ?_) (a' := ?_) #[true, true, false, false, false, true, true, false, false, false] rfl rfl (any_of HT_.out (by kernel_rfl)) (fun _ _ _ h => h) (Or.inl ⟨by rfl, ?_⟩) ?_ ?_
    rotate_left
    · intro w'
      go_simp
      with_reducible rfl
    rotate_left
    · simp only [Act.put, List.setIfInBounds_toArray, List.set_cons_zero, List.set_cons_succ, i64_w, i32_w]
      rfl
    refine two_ (i := 2) (j := 7) (Ni := some 29) (Nj := some 34) #[true, true, true, false, false, true, true, false, false, false] #[true, true, false, false, false, true, true, true, false, false] rfl rfl rfl rfl (two_of HT_.out (by kernel_rfl)) (by decide) (by decide) (fun K hK => ?_) (fun K hK => ?_)
    · refine step_of_wp rfl (wp_buildSlice_v 39 5 1 _ rfl Tryz.underlying39 [.int .u8 (IntKind.u8.wrap (kk : Int))] (by kernel_rfl) ?_)
      intro g w3 eg hg3 hb3' hz3
      have hb3 := hb3'.out
      have n1_ := Aside0.mk (Below.trans (by first | exact HB.out | exact below_drew1 HB.out) (hb3.mono HB.out.size)); (try (have n3_ := Aside0.mk ((hb3.block g (blk_lt HGR.out)).trans HGR.out); clear HGR; have HGR := n3_; clear n3_)); clear HB; have HB := n1_; clear n1_
      have HGR := Aside0.mk (show w3.heap[g]? = some (.cells [Value.int .u8 ((u : UInt8).toNat : Int)].toArray 5 (0, 0)) from by rw [← EU.out]; exact hg3.out)
      clear hg3 hb3' hz3 eg hb3
      refine hK.out _ _ trivial (fun hHeld => ?_)
      clear hK K
      refine norm_ (a' := ?_) ?_ ?_
      rotate_left
      · show Act.put _ (some 29) _ = _
        simp only [Act.put, List.setIfInBounds_toArray, List.set_cons_zero, List.set_cons_succ, i64_w, i32_w]
        rfl
      refine two_ (i := 3) (j := 7) (Ni := some 30) (Nj := some 34) #[true, true, true, true, false, true, true, false, false, false] #[true, true, true, false, false, true, true, true, false, false] rfl rfl rfl rfl (two_of HT_.out (by kernel_rfl)) (by decide) (by decide) (fun K hK => ?_) (fun K hK => ?_)
      · refine step_of_wp rfl (wp_string_of _ _ 5 _ rfl (some ⟨g, 0, none⟩) 1 1 rfl [u] rfl (bytes_row1 (x := u) HGR.out) Tryz.underlying39 (by kernel_rfl) Tryz.underlying5 ?_)
        clear HGR
        refine hK.out _ _ trivial (fun hHeld => ?_)
        clear hK K
        refine norm_ (a' := ?_) ?_ ?_
        rotate_left
        · show Act.put _ (some 30) _ = _
          simp only [Act.put, List.setIfInBounds_toArray, List.set_cons_zero, List.set_cons_succ, i64_w, i32_w]
          rfl
        refine pure_ (i := 4) (N := some 31) (a' := ?_) #[true, true, true, true, true, true, true, false, false, false] rfl rfl (any_of HT_.out (by kernel_rfl)) (fun _ _ _ h => h) (Or.inl ⟨by rfl, cat_yields _ _ _ _ (by rfl) _ _ (by rfl) (by rfl) (by simp only [List.length_append, List.length_cons, List.length_nil]; have := HZ.out; omega)⟩) ?_ ?_
        rotate_left
        · simp only [Act.put, List.setIfInBounds_toArray, List.set_cons_zero, List.set_cons_succ, i64_w, i32_w]
          rfl
        refine one_ (i := 7) (N := some 34) #[true, true, true, true, true, true, true, true, false, false] rfl rfl (one_of HT_.out (by kernel_rfl)) (by decide) (fun K hK => ?_)
        refine goes_ Tryz.func21 (by kernel_rfl) rfl #[.int .u8 (c.toNat : Int), .int .i64 (nn : Int)] (by rfl) rfl rfl (by (try simp only [List.map_toArray, List.map_cons, List.map_nil]); first | done | rfl) ?_
        with_reducible refine (TC.out _).mono ?_
        rintro e w9 ⟨rfl, hb9⟩
        refine ⟨_, rfl, ?_⟩
        have n1_ := Aside0.mk (Below.trans (by first | exact HB.out | exact below_drew1 HB.out) (hb9.mono HB.out.size)); (try (have n3_ := Aside0.mk ((hb9.block g (blk_lt HGR.out)).trans HGR.out); clear HGR; have HGR := n3_; clear n3_)); clear HB; have HB := n1_; clear n1_
        clear hb9
        refine hK.out _ _ trivial (fun hHeld => ?_)
        clear hK K
        refine norm_ (a' := ?_) ?_ ?_
        rotate_left
        · show Act.put _ (some 34) _ = _
          simp only [Act.put, List.setIfInBounds_toArray, List.set_cons_zero, List.set_cons_succ, i64_w, i32_w]
          rfl
        refine pure_ (i := 8) (N := some 35) (a' := ?_) #[true, true, true, true, true, true, true, true, true, false] rfl rfl (any_of HT_.out (by kernel_rfl)) (fun _ _ _ h => h) (Or.inl ⟨by rfl, cat_yields _ _ _ _ (by rfl) _ _ (by rfl) (by rfl) (by simp only [List.length_append, List.length_cons, List.length_nil]; have := HZ.out; omega)⟩) ?_ ?_
        rotate_left
        · simp only [Act.put, List.setIfInBounds_toArray, List.set_cons_zero, List.set_cons_succ, i64_w, i32_w]
          rfl
        refine pure_ (i := 9) (N := some 7) (v := ?_) (a' := ?_) #[true, true, true, true, true, true, true, true, true, true] rfl rfl (any_of HT_.out (by kernel_rfl)) (fun _ _ _ h => h) (Or.inl ⟨by rfl, ?_⟩) ?_ ?_
        rotate_left
        · intro w'
          go_simp
          with_reducible rfl
        rotate_left
        · simp only [Act.put, List.setIfInBounds_toArray, List.set_cons_zero, List.set_cons_succ, i64_w, i32_w]
          rfl
        refine done_ (done_of HT_.out (by kernel_rfl)) ?_
        clear hHeld HT_ HW_
        (try go_wp2)
        go_meet
        exact ⟨rfl, HB.out⟩
      · refine goes_ Tryz.func21 (by kernel_rfl) rfl #[.int .u8 (c.toNat : Int), .int .i64 (nn : Int)] (by rfl) rfl rfl (by (try simp only [List.map_toArray, List.map_cons, List.map_nil]); first | done | rfl) ?_
        with_reducible refine (TC.out _).mono ?_
        rintro e w9 ⟨rfl, hb9⟩
        refine ⟨_, rfl, ?_⟩
        have n1_ := Aside0.mk (Below.trans (by first | exact HB.out | exact below_drew1 HB.out) (hb9.mono HB.out.size)); (try (have n3_ := Aside0.mk ((hb9.block g (blk_lt HGR.out)).trans HGR.out); clear HGR; have HGR := n3_; clear n3_)); clear HB; have HB := n1_; clear n1_
        clear hb9
        refine hK.out _ _ trivial (fun hHeld => ?_)
        clear hK K
        refine norm_ (a' := ?_) ?_ ?_
        rotate_left
        · show Act.put _ (some 34) _ = _
          simp only [Act.put, List.setIfInBounds_toArray, List.set_cons_zero, List.set_cons_succ, i64_w, i32_w]
          rfl
        refine one_ (i := 3) (N := some 30) #[true, true, true, true, false, true, true, true, false, false] rfl rfl (one_of HT_.out (by kernel_rfl)) (by decide) (fun K hK => ?_)
        refine step_of_wp rfl (wp_string_of _ _ 5 _ rfl (some ⟨g, 0, none⟩) 1 1 rfl [u] rfl (bytes_row1 (x := u) HGR.out) Tryz.underlying39 (by kernel_rfl) Tryz.underlying5 ?_)
        clear HGR
        refine hK.out _ _ trivial (fun hHeld => ?_)
        clear hK K
        refine norm_ (a' := ?_) ?_ ?_
        rotate_left
        · show Act.put _ (some 30) _ = _
          simp only [Act.put, List.setIfInBounds_toArray, List.set_cons_zero, List.set_cons_succ, i64_w, i32_w]
          rfl
        refine pure_ (i := 4) (N := some 31) (a' := ?_) #[true, true, true, true, true, true, true, true, false, false] rfl rfl (any_of HT_.out (by kernel_rfl)) (fun _ _ _ h => h) (Or.inl ⟨by rfl, cat_yields _ _ _ _ (by rfl) _ _ (by rfl) (by rfl) (by simp only [List.length_append, List.length_cons, List.length_nil]; have := HZ.out; omega)⟩) ?_ ?_
        rotate_left
        · simp only [Act.put, List.setIfInBounds_toArray, List.set_cons_zero, List.set_cons_succ, i64_w, i32_w]
          rfl
        refine pure_ (i := 8) (N := some 35) (a' := ?_) #[true, true, true, true, true, true, true, true, true, false] rfl rfl (any_of HT_.out (by kernel_rfl)) (fun _ _ _ h => h) (Or.inl ⟨by rfl, cat_yields _ _ _ _ (by rfl) _ _ (by rfl) (by rfl) (by simp only [List.length_append, List.length_cons, List.length_nil]; have := HZ.out; omega)⟩) ?_ ?_
        rotate_left
        · simp only [Act.put, List.setIfInBounds_toArray, List.set_cons_zero, List.set_cons_succ, i64_w, i32_w]
          rfl
        refine pure_ (i := 9) (N := some 7) (v := ?_) (a' := ?_) #[true, true, true, true, true, true, true, true, true, true] rfl rfl (any_of HT_.out (by kernel_rfl)) (fun _ _ _ h => h) (Or.inl ⟨by rfl, ?_⟩) ?_ ?_
        rotate_left
        · intro w'
          go_simp
          with_reducible rfl
        rotate_left
        · simp only [Act.put, List.setIfInBounds_toArray, List.set_cons_zero, List.set_cons_succ, i64_w, i32_w]
          rfl
        refine done_ (done_of HT_.out (by kernel_rfl)) ?_
        clear hHeld HT_ HW_
        (try go_wp2)
        go_meet
        exact ⟨rfl, HB.out⟩
    · refine goes_ Tryz.func21 (by kernel_rfl) rfl #[.int .u8 (c.toNat : Int), .int .i64 (nn : Int)] (by rfl) rfl rfl (by (try simp only [List.map_toArray, List.map_cons, List.map_nil]); first | done | rfl) ?_
      with_reducible refine (TC.out _).mono ?_
      rintro e w9 ⟨rfl, hb9⟩
      refine ⟨_, rfl, ?_⟩
      have n1_ := Aside0.mk (Below.trans (by first | exact HB.out | exact below_drew1 HB.out) (hb9.mono HB.out.size)); (try (have n3_ := Aside0.mk ((hb9.block g (blk_lt HGR.out)).trans HGR.out); clear HGR; have HGR := n3_; clear n3_)); clear HB; have HB := n1_; clear n1_
      clear hb9
      refine hK.out _ _ trivial (fun hHeld => ?_)
      clear hK K
      refine norm_ (a' := ?_) ?_ ?_
      rotate_left
      · show Act.put _ (some 34) _ = _
        simp only [Act.put, List.setIfInBounds_toArray, List.set_cons_zero, List.set_cons_succ, i64_w, i32_w]
        rfl
      refine one_ (i := 2) (N := some 29) #[true, true, true, false, false, true, true, true, false, false] rfl rfl (one_of HT_.out (by kernel_rfl)) (by decide) (fun K hK => ?_)
      refine step_of_wp rfl (wp_buildSlice_v 39 5 1 _ rfl Tryz.underlying39 [.int .u8 (IntKind.u8.wrap (kk : Int))] (by kernel_rfl) ?_)
      intro g w3 eg hg3 hb3' hz3
      have hb3 := hb3'.out
      have n1_ := Aside0.mk (Below.trans (by first | exact HB.out | exact below_drew1 HB.out) (hb3.mono HB.out.size)); (try (have n3_ := Aside0.mk ((hb3.block g (blk_lt HGR.out)).trans HGR.out); clear HGR; have HGR := n3_; clear n3_)); clear HB; have HB := n1_; clear n1_
      have HGR := Aside0.mk (show w3.heap[g]? = some (.cells [Value.int .u8 ((u : UInt8).toNat : Int)].toArray 5 (0, 0)) from by rw [← EU.out]; exact hg3.out)
      clear hg3 hb3' hz3 eg hb3
      refine hK.out _ _ trivial (fun hHeld => ?_)
      clear hK K
      refine norm_ (a' := ?_) ?_ ?_
      rotate_left
      · show Act.put _ (some 29) _ = _
        simp only [Act.put, List.setIfInBounds_toArray, List.set_cons_zero, List.set_cons_succ, i64_w, i32_w]
        rfl
      refine one_ (i := 3) (N := some 30) #[true, true, true, true, false, true, true, true, false, false] rfl rfl (one_of HT_.out (by kernel_rfl)) (by decide) (fun K hK => ?_)
      refine step_of_wp rfl (wp_string_of _ _ 5 _ rfl (some ⟨g, 0, none⟩) 1 1 rfl [u] rfl (bytes_row1 (x := u) HGR.out) Tryz.underlying39 (by kernel_rfl) Tryz.underlying5 ?_)
      clear HGR
      refine hK.out _ _ trivial (fun hHeld => ?_)
      clear hK K
      refine norm_ (a' := ?_) ?_ ?_
      rotate_left
      · show Act.put _ (some 30) _ = _
        simp only [Act.put, List.setIfInBounds_toArray, List.set_cons_zero, List.set_cons_succ, i64_w, i32_w]
        rfl
      refine pure_ (i := 4) (N := some 31) (a' := ?_) #[true, true, true, true, true, true, true, true, false, false] rfl rfl (any_of HT_.out (by kernel_rfl)) (fun _ _ _ h => h) (Or.inl ⟨by rfl, cat_yields _ _ _ _ (by rfl) _ _ (by rfl) (by rfl) (by simp only [List.length_append, List.length_cons, List.length_nil]; have := HZ.out; omega)⟩) ?_ ?_
      rotate_left
      · simp only [Act.put, List.setIfInBounds_toArray, List.set_cons_zero, List.set_cons_succ, i64_w, i32_w]
        rfl
      refine pure_ (i := 8) (N := some 35) (a' := ?_) #[true, true, true, true, true, true, true, true, true, false] rfl rfl (any_of HT_.out (by kernel_rfl)) (fun _ _ _ h => h) (Or.inl ⟨by rfl, cat_yields _ _ _ _ (by rfl) _ _ (by rfl) (by rfl) (by simp only [List.length_append, List.length_cons, List.length_nil]; have := HZ.out; omega)⟩) ?_ ?_
      rotate_left
      · simp only [Act.put, List.setIfInBounds_toArray, List.set_cons_zero, List.set_cons_succ, i64_w, i32_w]
        rfl
      refine pure_ (i := 9) (N := some 7) (v := ?_) (a' := ?_) #[true, true, true, true, true, true, true, true, true, true] rfl rfl (any_of HT_.out (by kernel_rfl)) (fun _ _ _ h => h) (Or.inl ⟨by rfl, ?_⟩) ?_ ?_
      rotate_left
      · intro w'
        go_simp
        with_reducible rfl
      rotate_left
      · simp only [Act.put, List.setIfInBounds_toArray, List.set_cons_zero, List.set_cons_succ, i64_w, i32_w]
        rfl
      refine done_ (done_of HT_.out (by kernel_rfl)) ?_
      clear hHeld HT_ HW_
      (try go_wp2)
      go_meet
      exact ⟨rfl, HB.out⟩
  case rest =>
    obtain ⟨rfl, hB⟩ := hcut
    clear HB
    have HB := Aside0.mk hB
    clear hB
    obtain ⟨s, es⟩ : ∃ s, s = str ([74, 48, 49] ++ [u] ++ z) := ⟨_, rfl⟩
    rw [← es]
    obtain ⟨ki, eki⟩ : ∃ ki : Int, ki = (kk : Int) := ⟨_, rfl⟩
    rw [← eki]
    have EK := Aside0.mk eki
    have hsz : s.size = nn + 4 := by rw [es, str_size]; have := HZ.out.1; simp; omega
    have q1 : 1 ≤ s.size := by omega
    have q2 : 2 ≤ s.size := by omega
    have q3 : 3 ≤ s.size := by omega
    obtain ⟨x1, ex⟩ : ∃ x, x = (dec (74 :: 48 :: 49 :: u :: z)).1 := ⟨_, rfl⟩
    obtain ⟨e1, ee⟩ : ∃ e, e = (dec (74 :: 48 :: 49 :: u :: z)).2 := ⟨_, rfl⟩
    obtain ⟨J, ej⟩ : ∃ J, J = str (106 :: 48 :: 49 :: u :: z) := ⟨_, rfl⟩
    obtain ⟨hh, eh⟩ : ∃ h, h = (dec (106 :: 48 :: 49 :: u :: z)).2 := ⟨_, rfl⟩
    have JJ := Aside0.mk (show (1 : Nat) + (s.extract 1 s.size).size ≤ 9223372036854775807 ∧ (⟨#[106]⟩ : ByteArray) ++ s.extract 1 s.size = J from by
      rw [es, ej, str_drop]
      refine ⟨?_, ?_⟩
      · rw [str_size, List.length_drop]; have := HZ.out; simp; omega
      · exact str_cat [106] _)
    have D1 := Aside0.mk (show ∀ w, Calls Tryz.prog 10 #[.string s] w fun e w' => e = .returned (.tuple #[.agg x1.cells.toArray, .int .i64 e1]) ∧ Below w.heap.size w w' from fun w => by rw [es, ex, ee]; exact decode_calls (74 :: 48 :: 49 :: u :: z) w)
    have D2 := Aside0.mk (show ∀ w, Calls Tryz.prog 10 #[.string (s.extract 0 3)] w fun e w' => e = .returned (.tuple #[.agg Dg.zero.cells.toArray, .int .i64 71]) ∧ Below w.heap.size w w' from fun w => by rw [es, str_take]; exact decode_calls [74, 48, 49] w)
    have D3 := Aside0.mk (show ∀ w, Calls Tryz.prog 10 #[.string (s.extract 0 2)] w fun e w' => e = .returned (.tuple #[.agg Dg.zero.cells.toArray, .int .i64 70]) ∧ Below w.heap.size w w' from fun w => by rw [es, str_take]; exact decode_calls [74, 48] w)
    have hhv : hh = if 1200 < nn + 4 then 72 else 70 := by
      rw [eh, dec_j]
      simp only [List.length_cons, HZ.out.1]
    have D4 := Aside0.mk (show ∀ w, Calls Tryz.prog 10 #[.string J] w fun e w' => e = .returned (.tuple #[.agg Dg.zero.cells.toArray, .int .i64 hh]) ∧ Below w.heap.size w w' from fun w => by
      have h := decode_calls (106 :: 48 :: 49 :: u :: z) w
      rw [dec_err (106 :: 48 :: 49 :: u :: z) (by rw [← eh, hhv]; split <;> decide), ← eh, ← ej] at h
      exact h)
    have E1 := Aside0.mk (show e1 = wantL kk nn c by rw [ee]; exact DR.out)
    have HHV := Aside0.mk hhv
    have HSZ := Aside0.mk hsz
    clear es ex ee ej eh hhv hsz DR EU TC eki
    have LC := Aside0.mk (show ∀ (k v : Int), QQA.joustlaw07_least.f k = some v → ∀ w, Calls Tryz.prog 22 #[.int .i64 k] w fun e w' => e = .returned (.int .i64 v) ∧ Below w.heap.size w w' from fun k v h w => QQA.joustlaw07_least.calls k v w h)
    go_upto_region 10 with (first
      | (go_at_call 10; (with_reducible refine (D1.out _).mono ?_); rintro e w9 ⟨rfl, hb9⟩; have n1_ := Aside0.mk (HB.out.trans (hb9.mono HB.out.size)); clear HB hb9; have HB := n1_; clear n1_)
      | (go_at_call 10; (with_reducible refine (D2.out _).mono ?_); rintro e w9 ⟨rfl, hb9⟩; have n1_ := Aside0.mk (HB.out.trans (hb9.mono HB.out.size)); clear HB hb9; have HB := n1_; clear n1_)
      | (go_at_call 10; (with_reducible refine (D3.out _).mono ?_); rintro e w9 ⟨rfl, hb9⟩; have n1_ := Aside0.mk (HB.out.trans (hb9.mono HB.out.size)); clear HB hb9; have HB := n1_; clear n1_)
      | (go_at_call 10; (with_reducible refine (D4.out _).mono ?_); rintro e w9 ⟨rfl, hb9⟩; have n1_ := Aside0.mk (HB.out.trans (hb9.mono HB.out.size)); clear HB hb9; have HB := n1_; clear n1_)
      | ((with_reducible first | refine at_alloc_ ?_ | refine at_alloc2_ ?_); refine wpList_alloc_v rfl 27 rfl Dg.zero.cells (by kernel_rfl) ?_; intro X w6 eX hX2 hb6 hz6; have HXX := Aside0.mk (show w.heap.size ≤ X from by have := eX.out; have := HB.out.size; omega); have n1_ := Aside0.mk (HB.out.trans (hb6.out.mono HB.out.size)); clear HB; have HB := n1_; clear n1_ hb6 hz6 eX)
      | ((with_reducible first | refine at_store_ ?_ | refine at_store2_ ?_); refine wpList_store_agg rfl 27 _ _ rfl X 0 rfl x1.cells Dg.zero.cells rfl _ hX2.out (by exact Nat.le_refl 15) (fun v hv => one_cells hv) (by kernel_rfl) ?_; intro w7 hX3 hm7 hz7; have n1_ := Aside0.mk (toBelow' HB.out hm7.out HXX.out); clear HB; have HB := n1_; clear n1_ hX2 hX3 hm7 hz7 HXX)
      | ((with_reducible first | refine at_store_ ?_ | refine at_store2_ ?_); refine wpList_store_agg rfl 27 _ _ rfl X 0 rfl Dg.zero.cells Dg.zero.cells rfl _ hX2.out (by exact Nat.le_refl 15) (fun v hv => one_cells hv) (by kernel_rfl) ?_; intro w7 hX3 hm7 hz7; have n1_ := Aside0.mk (toBelow' HB.out hm7.out HXX.out); clear HB; have HB := n1_; clear n1_ hX2 hX3 hm7 hz7 HXX)
      | ((with_reducible first | refine at_add_ ?_ | refine at_add2_ ?_); refine wpList_add_v rfl _ _ _ _ rfl ⟨#[106]⟩ (s.extract 1 s.size) rfl rfl JJ.out.1 J JJ.out.2 ?_))
    by_cases hl : 1200 < nn + 4
    · have a1 : hh = 72 := by rw [HHV.out, if_pos hl]
      have a2 : e1 = 72 := by rw [E1.out]; unfold wantL; rw [if_pos hl]
      have o1 : decide ((1200 : Int) < (s.size : Int)) = true := decide_eq_true (by have := HSZ.out; omega)
      have o2 : decide ((s.size : Int) ≤ 1200) = false := decide_eq_false (by have := HSZ.out; omega)
      subst a1 a2
      clear hl
      go_wp2_with fail
      go_ret
      exact ⟨rfl, HB.out⟩
    · have a1 : hh = 70 := by rw [HHV.out, if_neg hl]
      have o1 : decide ((1200 : Int) < (s.size : Int)) = false := decide_eq_false (by have := HSZ.out; omega)
      have o2 : decide ((s.size : Int) ≤ 1200) = true := decide_eq_true (by have := HSZ.out; omega)
      subst a1
      have HL := Aside0.mk hl
      have hk : kk = 0 ∨ kk = 1 ∨ kk = 2 ∨ kk = 3 ∨ kk = 4 ∨ kk = 5 ∨ kk = 6 ∨ kk = 7 ∨ kk = 8 := by have := HZ.out; omega
      clear hl
      rcases hk with hk | hk | hk | hk | hk | hk | hk | hk | hk
      · have HK := Aside0.mk hk
        have b1 : ki = 0 := by rw [EK.out, hk]; rfl
        subst b1
        clear hk
        have a2 : e1 = 71 := by rw [E1.out, HK.out]; unfold wantL; rw [if_neg HL.out, if_pos (by decide)]
        subst a2
        go_wp2_with fail
        go_ret
        exact ⟨rfl, HB.out⟩
      · have HK := Aside0.mk hk
        have b1 : ki = 1 := by rw [EK.out, hk]; rfl
        subst b1
        clear hk
        by_cases h3 : nn + 4 = 96
        · have H3 := Aside0.mk h3
          have hs : s.size = 96 := by rw [HSZ.out, h3]
          clear h3
          by_cases hc : c.toNat = 0
          · have a2 : e1 = 0 := by rw [E1.out, HK.out]; unfold wantL; rw [if_neg HL.out, if_neg (by decide), if_neg (by have := H3.out; simp [leastK]; omega), if_neg (by simp [hc])]
            have hc0 : (c.toNat : Int) = 0 := by omega
            subst a2
            have LK := Aside0.mk (LC.out 1 96 (by decide +kernel))
            go_wp2_with (go_at_call 22; (with_reducible refine (LK.out _).mono ?_); rintro e w9 ⟨rfl, hb9⟩; have n1_ := Aside0.mk (HB.out.trans (hb9.mono HB.out.size)); clear HB hb9; have HB := n1_; clear n1_)
            go_ret
            exact ⟨rfl, HB.out⟩
          · have a2 : e1 = 73 := by rw [E1.out, HK.out]; unfold wantL; rw [if_neg HL.out, if_neg (by decide), if_neg (by have := H3.out; simp [leastK]; omega), if_pos (Or.inl ⟨rfl, hc⟩)]
            have c1 : ((c.toNat : Int) == 0) = false := beq_eq_false_iff_ne.mpr (by omega)
            have c2 : ((c.toNat : Int) != 0) = true := by simp [bne, c1]
            subst a2
            clear hc
            have LK := Aside0.mk (LC.out 1 96 (by decide +kernel))
            go_wp2_with (go_at_call 22; (with_reducible refine (LK.out _).mono ?_); rintro e w9 ⟨rfl, hb9⟩; have n1_ := Aside0.mk (HB.out.trans (hb9.mono HB.out.size)); clear HB hb9; have HB := n1_; clear n1_)
            go_ret
            exact ⟨rfl, HB.out⟩
        · have a2 : e1 = 72 := by rw [E1.out, HK.out]; unfold wantL; rw [if_neg HL.out, if_neg (by decide), if_pos (Or.inr (Or.inr ⟨by decide, by decide, by simp [leastK]; omega⟩))]
          have c3 : ((s.size : Int) == 96) = false := beq_eq_false_iff_ne.mpr (by have := HSZ.out; omega)
          have c4 : ((s.size : Int) != 96) = true := by simp [bne, c3]
          subst a2
          clear h3
          have LK := Aside0.mk (LC.out 1 96 (by decide +kernel))
          go_wp2_with (go_at_call 22; (with_reducible refine (LK.out _).mono ?_); rintro e w9 ⟨rfl, hb9⟩; have n1_ := Aside0.mk (HB.out.trans (hb9.mono HB.out.size)); clear HB hb9; have HB := n1_; clear n1_)
          go_ret
          exact ⟨rfl, HB.out⟩
      · have HK := Aside0.mk hk
        have b1 : ki = 2 := by rw [EK.out, hk]; rfl
        subst b1
        clear hk
        by_cases h3 : nn + 4 = 60
        · have H3 := Aside0.mk h3
          have hs : s.size = 60 := by rw [HSZ.out, h3]
          clear h3
          have a2 : e1 = 0 := by rw [E1.out, HK.out]; unfold wantL; rw [if_neg HL.out, if_neg (by decide), if_neg (by have := H3.out; simp [leastK]; omega), if_neg (by simp)]
          subst a2
          have LK := Aside0.mk (LC.out 2 60 (by decide +kernel))
          go_wp2_with (go_at_call 22; (with_reducible refine (LK.out _).mono ?_); rintro e w9 ⟨rfl, hb9⟩; have n1_ := Aside0.mk (HB.out.trans (hb9.mono HB.out.size)); clear HB hb9; have HB := n1_; clear n1_)
          go_ret
          exact ⟨rfl, HB.out⟩
        · have a2 : e1 = 72 := by rw [E1.out, HK.out]; unfold wantL; rw [if_neg HL.out, if_neg (by decide), if_pos (Or.inr (Or.inr ⟨by decide, by decide, by simp [leastK]; omega⟩))]
          have c3 : ((s.size : Int) == 60) = false := beq_eq_false_iff_ne.mpr (by have := HSZ.out; omega)
          have c4 : ((s.size : Int) != 60) = true := by simp [bne, c3]
          subst a2
          clear h3
          have LK := Aside0.mk (LC.out 2 60 (by decide +kernel))
          go_wp2_with (go_at_call 22; (with_reducible refine (LK.out _).mono ?_); rintro e w9 ⟨rfl, hb9⟩; have n1_ := Aside0.mk (HB.out.trans (hb9.mono HB.out.size)); clear HB hb9; have HB := n1_; clear n1_)
          go_ret
          exact ⟨rfl, HB.out⟩
      · have HK := Aside0.mk hk
        have b1 : ki = 3 := by rw [EK.out, hk]; rfl
        subst b1
        clear hk
        by_cases h3 : nn + 4 < 93
        · have a2 : e1 = 72 := by rw [E1.out, HK.out]; unfold wantL; rw [if_neg HL.out, if_neg (by decide), if_pos (Or.inl ⟨rfl, Or.inl h3⟩)]
          have c3 : decide ((s.size : Int) < 93) = true := decide_eq_true (by have := HSZ.out; omega)
          subst a2
          clear h3
          go_wp2_with fail
          go_ret
          exact ⟨rfl, HB.out⟩
        · have c3 : decide ((s.size : Int) < 93) = false := decide_eq_false (by have := HSZ.out; omega)
          have hcl := c.toNat_lt
          have w1 : wrap64 (c.toNat : Int) = (c.toNat : Int) := by unfold wrap64; omega
          have w2 : wrap64 (93 + (c.toNat : Int)) = 93 + (c.toNat : Int) := by unfold wrap64; omega
          clear hcl
          have H3 := Aside0.mk h3
          clear h3
          by_cases h4 : nn + 4 = 93 + c.toNat
          · have a2 : e1 = 0 := by rw [E1.out, HK.out]; unfold wantL; rw [if_neg HL.out, if_neg (by decide), if_neg (by have := H3.out; simp; omega), if_neg (by simp)]
            have c5 : ((s.size : Int) == 93 + (c.toNat : Int)) = true := beq_iff_eq.mpr (by have := HSZ.out; omega)
            have c6 : ((s.size : Int) != 93 + (c.toNat : Int)) = false := by simp [bne, c5]
            subst a2
            clear h4
            go_wp2_with fail
            go_ret
            exact ⟨rfl, HB.out⟩
          · have a2 : e1 = 72 := by rw [E1.out, HK.out]; unfold wantL; rw [if_neg HL.out, if_neg (by decide), if_pos (Or.inl ⟨rfl, Or.inr h4⟩)]
            have c5 : ((s.size : Int) == 93 + (c.toNat : Int)) = false := beq_eq_false_iff_ne.mpr (by have := HSZ.out; omega)
            have c6 : ((s.size : Int) != 93 + (c.toNat : Int)) = true := by simp [bne, c5]
            subst a2
            clear h4
            go_wp2_with fail
            go_ret
            exact ⟨rfl, HB.out⟩
      · have HK := Aside0.mk hk
        have b1 : ki = 4 := by rw [EK.out, hk]; rfl
        subst b1
        clear hk
        by_cases h3 : nn + 4 = 77
        · have H3 := Aside0.mk h3
          have hs : s.size = 77 := by rw [HSZ.out, h3]
          clear h3
          have a2 : e1 = 0 := by rw [E1.out, HK.out]; unfold wantL; rw [if_neg HL.out, if_neg (by decide), if_neg (by have := H3.out; simp [leastK]; omega), if_neg (by simp)]
          subst a2
          have LK := Aside0.mk (LC.out 4 77 (by decide +kernel))
          go_wp2_with (go_at_call 22; (with_reducible refine (LK.out _).mono ?_); rintro e w9 ⟨rfl, hb9⟩; have n1_ := Aside0.mk (HB.out.trans (hb9.mono HB.out.size)); clear HB hb9; have HB := n1_; clear n1_)
          go_ret
          exact ⟨rfl, HB.out⟩
        · have a2 : e1 = 72 := by rw [E1.out, HK.out]; unfold wantL; rw [if_neg HL.out, if_neg (by decide), if_pos (Or.inr (Or.inr ⟨by decide, by decide, by simp [leastK]; omega⟩))]
          have c3 : ((s.size : Int) == 77) = false := beq_eq_false_iff_ne.mpr (by have := HSZ.out; omega)
          have c4 : ((s.size : Int) != 77) = true := by simp [bne, c3]
          subst a2
          clear h3
          have LK := Aside0.mk (LC.out 4 77 (by decide +kernel))
          go_wp2_with (go_at_call 22; (with_reducible refine (LK.out _).mono ?_); rintro e w9 ⟨rfl, hb9⟩; have n1_ := Aside0.mk (HB.out.trans (hb9.mono HB.out.size)); clear HB hb9; have HB := n1_; clear n1_)
          go_ret
          exact ⟨rfl, HB.out⟩
      · have HK := Aside0.mk hk
        have b1 : ki = 5 := by rw [EK.out, hk]; rfl
        subst b1
        clear hk
        by_cases h3 : nn + 4 = 55
        · have H3 := Aside0.mk h3
          have hs : s.size = 55 := by rw [HSZ.out, h3]
          clear h3
          by_cases hc : 3 < c.toNat
          · have a2 : e1 = 73 := by rw [E1.out, HK.out]; unfold wantL; rw [if_neg HL.out, if_neg (by decide), if_neg (by have := H3.out; simp [leastK]; omega), if_pos (Or.inr ⟨rfl, hc⟩)]
            have c1 : decide ((3 : Int) < (c.toNat : Int)) = true := decide_eq_true (by omega)
            subst a2
            clear hc
            have LK := Aside0.mk (LC.out 5 55 (by decide +kernel))
            go_wp2_with (go_at_call 22; (with_reducible refine (LK.out _).mono ?_); rintro e w9 ⟨rfl, hb9⟩; have n1_ := Aside0.mk (HB.out.trans (hb9.mono HB.out.size)); clear HB hb9; have HB := n1_; clear n1_)
            go_ret
            exact ⟨rfl, HB.out⟩
          · have a2 : e1 = 0 := by rw [E1.out, HK.out]; unfold wantL; rw [if_neg HL.out, if_neg (by decide), if_neg (by have := H3.out; simp [leastK]; omega), if_neg (by simp; omega)]
            have c1 : decide ((3 : Int) < (c.toNat : Int)) = false := decide_eq_false (by omega)
            subst a2
            clear hc
            have LK := Aside0.mk (LC.out 5 55 (by decide +kernel))
            go_wp2_with (go_at_call 22; (with_reducible refine (LK.out _).mono ?_); rintro e w9 ⟨rfl, hb9⟩; have n1_ := Aside0.mk (HB.out.trans (hb9.mono HB.out.size)); clear HB hb9; have HB := n1_; clear n1_)
            go_ret
            exact ⟨rfl, HB.out⟩
        · have a2 : e1 = 72 := by rw [E1.out, HK.out]; unfold wantL; rw [if_neg HL.out, if_neg (by decide), if_pos (Or.inr (Or.inr ⟨by decide, by decide, by simp [leastK]; omega⟩))]
          have c3 : ((s.size : Int) == 55) = false := beq_eq_false_iff_ne.mpr (by have := HSZ.out; omega)
          have c4 : ((s.size : Int) != 55) = true := by simp [bne, c3]
          subst a2
          clear h3
          have LK := Aside0.mk (LC.out 5 55 (by decide +kernel))
          go_wp2_with (go_at_call 22; (with_reducible refine (LK.out _).mono ?_); rintro e w9 ⟨rfl, hb9⟩; have n1_ := Aside0.mk (HB.out.trans (hb9.mono HB.out.size)); clear HB hb9; have HB := n1_; clear n1_)
          go_ret
          exact ⟨rfl, HB.out⟩
      · have HK := Aside0.mk hk
        have b1 : ki = 6 := by rw [EK.out, hk]; rfl
        subst b1
        clear hk
        by_cases h3 : nn + 4 < 52
        · have a2 : e1 = 72 := by rw [E1.out, HK.out]; unfold wantL; rw [if_neg HL.out, if_neg (by decide), if_pos (Or.inr (Or.inl ⟨rfl, h3⟩))]
          have c3 : decide ((s.size : Int) < 52) = true := decide_eq_true (by have := HSZ.out; omega)
          subst a2
          clear h3
          go_wp2_with fail
          go_ret
          exact ⟨rfl, HB.out⟩
        · have a2 : e1 = 0 := by rw [E1.out, HK.out]; unfold wantL; rw [if_neg HL.out, if_neg (by decide), if_neg (by simp; omega), if_neg (by simp)]
          have c3 : decide ((s.size : Int) < 52) = false := decide_eq_false (by have := HSZ.out; omega)
          subst a2
          clear h3
          go_wp2_with fail
          go_ret
          exact ⟨rfl, HB.out⟩
      · have HK := Aside0.mk hk
        have b1 : ki = 7 := by rw [EK.out, hk]; rfl
        subst b1
        clear hk
        by_cases h3 : nn + 4 = 52
        · have H3 := Aside0.mk h3
          have hs : s.size = 52 := by rw [HSZ.out, h3]
          clear h3
          have a2 : e1 = 0 := by rw [E1.out, HK.out]; unfold wantL; rw [if_neg HL.out, if_neg (by decide), if_neg (by have := H3.out; simp [leastK]; omega), if_neg (by simp)]
          subst a2
          have LK := Aside0.mk (LC.out 7 52 (by decide +kernel))
          go_wp2_with (go_at_call 22; (with_reducible refine (LK.out _).mono ?_); rintro e w9 ⟨rfl, hb9⟩; have n1_ := Aside0.mk (HB.out.trans (hb9.mono HB.out.size)); clear HB hb9; have HB := n1_; clear n1_)
          go_ret
          exact ⟨rfl, HB.out⟩
        · have a2 : e1 = 72 := by rw [E1.out, HK.out]; unfold wantL; rw [if_neg HL.out, if_neg (by decide), if_pos (Or.inr (Or.inr ⟨by decide, by decide, by simp [leastK]; omega⟩))]
          have c3 : ((s.size : Int) == 52) = false := beq_eq_false_iff_ne.mpr (by have := HSZ.out; omega)
          have c4 : ((s.size : Int) != 52) = true := by simp [bne, c3]
          subst a2
          clear h3
          have LK := Aside0.mk (LC.out 7 52 (by decide +kernel))
          go_wp2_with (go_at_call 22; (with_reducible refine (LK.out _).mono ?_); rintro e w9 ⟨rfl, hb9⟩; have n1_ := Aside0.mk (HB.out.trans (hb9.mono HB.out.size)); clear HB hb9; have HB := n1_; clear n1_)
          go_ret
          exact ⟨rfl, HB.out⟩
      · have HK := Aside0.mk hk
        have b1 : ki = 8 := by rw [EK.out, hk]; rfl
        subst b1
        clear hk
        have a2 : e1 = 71 := by rw [E1.out, HK.out]; unfold wantL; rw [if_neg HL.out, if_pos (by decide)]
        subst a2
        go_wp2_with fail
        go_ret
        exact ⟨rfl, HB.out⟩
end Go.Proofs.YtniabkphbnimaaaGreatDoor.Sh
namespace Go.Proofs.YtniabkphbnimaaaGreatDoor.Sh
open Go Go.RowKit Go.Maps
theorem lengths_walk2 (k n ci : Int) (hc : (Lit.int .u8 ci).wf = true) (w : World) (hg : GL w) : Calls Tryz.prog 6 #[.int .i64 k, .int .i64 n, .int .u8 ci] w fun e w' => e = .returned (.bool true) ∧ Below w.heap.size w w' := by
  unfold Lit.wf at hc
  rw [Bool.and_eq_true, decide_eq_true_eq, decide_eq_true_eq] at hc
  have h1 : 0 ≤ ci := hc.1
  have h2 : ci < 256 := Int.lt_of_le_of_lt hc.2 (by decide)
  have e : ci = ((UInt8.ofNat ci.toNat).toNat : Int) := by rw [u8n]; omega
  rw [e]
  exact lengths_walk k n _ w hg
end Go.Proofs.YtniabkphbnimaaaGreatDoor.Sh
