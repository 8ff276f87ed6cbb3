/- From the rows' condition on the two listed variables to what the walks ask of memory. -/
import Derived.Test.YtlmbkliieckakaaDoorNm1
import Derived.Test.YtlmbkliieckakaaDoorRows
import Derived.Lib.LaidTab
import Derived.ChangeSame
set_option linter.unusedVariables false
namespace Go.Proofs.YtlmbkliieckakaaDoor.Nm
open Go

def spanData {H : Type} (zs : List (Int × Int)) : DataW H := .agg (zs.map fun z => .agg [.lit (.int .i32 z.1), .lit (.int .i32 z.2)])
def spanCells (zs : List (Int × Int)) : List Value := zs.flatMap fun z => [.int .i32 z.1, .int .i32 z.2]

theorem spanCells_at : ∀ (zs : List (Int × Int)) (i : Nat), (spanCells zs)[2 * i]? = (zs[i]?).map (fun z => Value.int .i32 z.1) ∧ (spanCells zs)[2 * i + 1]? = (zs[i]?).map (fun z => Value.int .i32 z.2)
  | [], i => by simp [spanCells]
  | z :: zs, 0 => by simp [spanCells]
  | z :: zs, i + 1 => by
    have h := spanCells_at zs i
    have e : spanCells (z :: zs) = .int .i32 z.1 :: .int .i32 z.2 :: spanCells zs := rfl
    rw [e, show 2 * (i + 1) = 2 * i + 1 + 1 by omega]
    simpa using h
theorem spanCells_length (zs : List (Int × Int)) : (spanCells zs).length = 2 * zs.length := by
  induction zs with
  | nil => rfl
  | cons z zs ih => simp [spanCells] at ih ⊢; omega

theorem cells_of_spans {H : Type} {enc : TypeId × Value → H} {P : Program} {w : World} {base : Nat} {sp : Nat → Bool} {held : Bool} {fuel : Nat} {t e : TypeId} {n : Nat} {f0 f1 : Field} {cs : List Value} {zs : List (Int × Int)} {p : List MemPlace}
    (ht : P.underlying t = some (.array n e)) (he : P.underlying e = some (.struct #[f0, f1])) (h0 : P.underlying f0.type = some (.int .i32)) (h1 : P.underlying f1.type = some (.int .i32))
    (o0 : f0.offset = 0) (o1 : f1.offset = 1) (hc0 : P.cellsOf f0.type = 1) (hc1 : P.cellsOf f1.type = 1) (hce : P.cellsOf e = 2) (hct : P.cellsOf t = 2 * n)
    (h : DataW.trod enc P w base sp held fuel t cs = some (spanData zs, p)) : cs = spanCells zs := by
  cases fuel with
  | zero => simp [DataW.trod] at h
  | succ fuel =>
    simp only [DataW.trod, ht, hce, hct] at h
    split at h
    · rename_i hl
      obtain ⟨xs, hm, hx⟩ := Option.map_eq_some_iff.1 h
      have hxs : xs.map (·.1) = zs.map fun z => (DataW.agg [.lit (.int .i32 z.1), .lit (.int .i32 z.2)] : DataW H) := by
        have := congrArg Prod.fst hx
        simpa [spanData] using this
      have hxl : xs.length = n := by simpa using Lib.mapM_length hm
      have hzl : zs.length = n := by
        have := congrArg List.length hxs
        simp at this
        omega
      have key : ∀ i, i < n → cs[2 * i]? = (zs[i]?).map (fun z => Value.int .i32 z.1) ∧ cs[2 * i + 1]? = (zs[i]?).map (fun z => Value.int .i32 z.2) := by
        intro i hi
        obtain ⟨b, hb, hf⟩ := Lib.mapM_at hm i i (by simp [hi])
        obtain ⟨y0, y1, m, rfl, _, hy0, hy1⟩ := ChangeShapes.trod_struct2 he hf
        rw [o0, hc0] at hy0
        rw [o1, hc1] at hy1
        obtain ⟨a0, e0, rfl, _⟩ := DataW.trod_int h0 hy0
        obtain ⟨a1, e1, rfl, _⟩ := DataW.trod_int h1 hy1
        have g0 : cs[2 * i]? = some (.int .i32 a0) := by
          have := congrArg (·[0]?) e0
          simp [List.getElem?_drop] at this
          rw [← this]; congr 1; omega
        have g1 : cs[2 * i + 1]? = some (.int .i32 a1) := by
          have := congrArg (·[0]?) e1
          simp [List.getElem?_drop] at this
          rw [← this]; congr 1; omega
        have h2 : (xs.map (·.1))[i]? = some (DataW.agg [.lit (.int .i32 a0), .lit (.int .i32 a1)] : DataW H) := by simp [hb]
        rw [hxs] at h2
        simp only [List.getElem?_map, Option.map_eq_some_iff] at h2
        obtain ⟨z, hz, hzz⟩ := h2
        simp at hzz
        rw [g0, g1, hz]
        simp [hzz]
      apply List.ext_getElem?
      intro i
      by_cases hi : i < 2 * n
      · obtain ⟨j, hj⟩ : ∃ j, i = 2 * j ∨ i = 2 * j + 1 := ⟨i / 2, by omega⟩
        rcases hj with rfl | rfl
        · rw [(key j (by omega)).1, (spanCells_at zs j).1]
        · rw [(key j (by omega)).2, (spanCells_at zs j).2]
      · rw [List.getElem?_eq_none (by omega), List.getElem?_eq_none (by rw [spanCells_length]; omega)]
    · cases h

theorem gMay : Tryd.prog.globalNamed "joust/name.may" = some 1 := by kernel_rfl
theorem gLarge : Tryd.prog.globalNamed "joust/name.large" = some 0 := by kernel_rfl
theorem tMay : (Tryd.prog.globals[1]?).map (·.type) = some 68 := by kernel_rfl
theorem tLarge : (Tryd.prog.globals[0]?).map (·.type) = some 65 := by kernel_rfl
theorem cells64 : Tryd.prog.cellsOf 64 = 2 := by kernel_rfl
theorem cells65 : Tryd.prog.cellsOf 65 = 2 * 3 := by kernel_rfl
theorem cells68 : Tryd.prog.cellsOf 68 = 2 * 9 := by kernel_rfl
theorem cells21 : Tryd.prog.cellsOf 21 = 1 := by kernel_rfl

theorem heap_of_var {W : World} {name : String} {g : Nat} {cs : Array Value} (hg : Tryd.prog.globalNamed name = some g) (h : W.var? Tryd.prog name = some cs) : ∃ t fr, W.heap[g]? = some (.cells cs t fr) := by
  unfold World.var? at h
  rw [hg] at h
  simp only [Option.bind_some] at h
  split at h
  · rename_i c t fr hh
    cases h
    exact ⟨_, _, hh⟩
  · cases h

theorem gl_of_laid {W : World} (h : laidMet Tryd.prog [("joust/name.may", Rows.laid_joust_name_may), ("joust/name.large", Rows.laid_joust_name_large)] W) : GL W := by
  obtain ⟨ps, ⟨g1, t1, cs1, fuel1, p1, q1, hg1, ht1, hvar1, hd1, ⟨g0, t0, cs0, fuel0, p0, q0, hg0, ht0, hvar0, hd0, _, _⟩, _⟩, _⟩ := h
  obtain rfl := Option.some.inj (gMay.symm.trans hg1)
  obtain rfl := Option.some.inj (tMay.symm.trans ht1)
  obtain rfl := Option.some.inj (gLarge.symm.trans hg0)
  obtain rfl := Option.some.inj (tLarge.symm.trans ht0)
  have e1 := cells_of_spans (zs := fitsL) Tryd.underlying68 Tryd.underlying64 Tryd.underlying21 Tryd.underlying21 rfl rfl cells21 cells21 cells64 cells68 hd1
  have e0 := cells_of_spans (zs := bigL) Tryd.underlying65 Tryd.underlying64 Tryd.underlying21 Tryd.underlying21 rfl rfl cells21 cells21 cells64 cells65 hd0
  obtain ⟨u1, fr1, hh1⟩ := heap_of_var gMay hvar1
  obtain ⟨u0, fr0, hh0⟩ := heap_of_var gLarge hvar0
  have l1 : 1 < W.heap.size := (Array.getElem?_eq_some_iff.1 hh1).1
  refine ⟨l1, ⟨u0, fr0, ?_⟩, ⟨u1, fr1, ?_⟩⟩
  · rw [hh0]
    congr 2
    rw [← Array.toArray_toList (xs := cs0), e0]
    rfl
  · rw [hh1]
    congr 2
    rw [← Array.toArray_toList (xs := cs1), e1]
    rfl
end Go.Proofs.YtlmbkliieckakaaDoor.Nm
