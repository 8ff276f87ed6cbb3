/- What name.Near comes to: a band of a table, row by row. Plain Lean but for the cells. -/
import Derived.Test.YtlmbkliieckakaaDoorNm7
import Derived.Laws.IdiomStrings
import Derived.Laws.Rows
import Derived.Laws.Tables
set_option linter.unusedVariables false
namespace Go.Proofs.YtlmbkliieckakaaDoor.Nm
open Go

/-- The lesser of two, as Go's min has it. -/
def mn (x y : Int) : Int := if y < x then y else x

/-- The numbers of a text's runes. -/
def nums (s : ByteArray) : List Int := (runesOf s).map fun r => (r.2.1 : Int)

theorem conv_runes (s : ByteArray) : ∀ (f p : Nat) (acc : Array Value), Conv.runesFrom s f p acc = acc ++ ((runesFrom s f p).map fun r => Value.int .i32 (r.2.1 : Int)).toArray
  | 0, p, acc => by simp [Conv.runesFrom, runesFrom]
  | f + 1, p, acc => by
    unfold Conv.runesFrom
    by_cases h : p < s.size
    · rw [if_pos h, runesFrom_step s f p h]
      show Conv.runesFrom s f (p + (Utf8.decode s p).2) (acc.push (.int .i32 (Int.ofNat (Utf8.decode s p).1))) = _
      rw [conv_runes s f]
      simp
    · rw [if_neg h, runesFrom_end s _ p h]
      simp
theorem conv_nums (s : ByteArray) : Conv.runesFrom s s.size 0 #[] = ((nums s).map fun r => Value.int .i32 r).toArray := by
  rw [conv_runes]
  simp [nums, runesOf]
theorem nums_le (s : ByteArray) : (nums s).length ≤ s.size := by
  have h := size_runesFrom s s.size 0 #[]
  rw [conv_nums] at h
  simpa using h

/-- A row of 17 numbers as cells. -/
def rowCells (f : Nat → Int) : Array Value := ((List.range 17).map fun t => Value.int .i64 (f t)).toArray
theorem rowCells_size (f : Nat → Int) : (rowCells f).size = 17 := by simp [rowCells]
theorem rowCells_at (f : Nat → Int) (t : Nat) (h : t < 17) : (rowCells f)[t]? = some (.int .i64 (f t)) := by
  simp [rowCells, h]
def upd (f : Nat → Int) (t : Nat) (v : Int) : Nat → Int := fun u => if u = t then v else f u
theorem rowCells_set (f : Nat → Int) (t : Nat) (v : Int) : (rowCells f).setIfInBounds t (.int .i64 v) = rowCells (upd f t v) := by
  apply Array.ext_getElem?
  intro i
  rw [Array.getElem?_setIfInBounds]
  by_cases h : t = i
  · subst h
    by_cases h17 : t < 17
    · rw [if_pos rfl, if_pos (by rw [rowCells_size]; exact h17), rowCells_at _ t h17]; simp [upd]
    · rw [if_pos rfl, if_neg (by rw [rowCells_size]; exact h17)]; symm; exact Array.getElem?_eq_none (by rw [rowCells_size]; omega)
  · rw [if_neg h]
    by_cases h17 : i < 17
    · rw [rowCells_at _ i h17, rowCells_at _ i h17]; simp [upd, Ne.symm h]
    · rw [Array.getElem?_eq_none (by rw [rowCells_size]; omega), Array.getElem?_eq_none (by rw [rowCells_size]; omega)]
theorem rowCells_congr {f g : Nat → Int} (h : ∀ t, t < 17 → f t = g t) : rowCells f = rowCells g := by
  unfold rowCells
  congr 1
  apply List.map_congr_left
  intro t ht
  rw [h t (by simpa using ht)]

/-- A world's block that is such a row. -/
def IsRow17 (w : World) (b : Nat) (f : Nat → Int) : Prop := w.heap[b]? = some (.cells (rowCells f) 3 (0, 0))
def IsRow17' (w : World) (b : Nat) (t : TypeId) (f : Nat → Int) : Prop := w.heap[b]? = some (.cells (rowCells f) t (0, 0))
theorem IsRow17'.cell {w : World} {b : Nat} {ty : TypeId} {f : Nat → Int} (h : IsRow17' w b ty f) (t : Nat) (ht : t < 17) : w.cell? ⟨b, t, none⟩ = some (.int .i64 (f t)) := by
  rw [cell_of_row w b t _ _ _ h, rowCells_at f t ht]
theorem IsRow17'.free {w : World} {b : Nat} {ty : TypeId} {f : Nat → Int} (h : IsRow17' w b ty f) (t : Nat) : w.frozen? ⟨b, t, none⟩ = false := frozen_of_row w b t _ _ h
theorem IsRow17'.set {w : World} {b : Nat} {ty : TypeId} {f : Nat → Int} (h : IsRow17' w b ty f) (t : Nat) (v : Int) : IsRow17' (w.setCell ⟨b, t, none⟩ (.int .i64 v)) b ty (upd f t v) := by
  unfold IsRow17'
  rw [← rowCells_set]
  exact heap_setCell_same w b t _ _ _ h
theorem IsRow17'.other {w : World} {b : Nat} {ty : TypeId} {f : Nat → Int} (h : IsRow17' w b ty f) (a : Addr) (v : Value) (hne : b ≠ a.block) : IsRow17' (w.setCell a v) b ty f :=
  (heap_setCell_other w a b v hne).trans h
theorem IsRow17'.lt {w : World} {b : Nat} {ty : TypeId} {f : Nat → Int} (h : IsRow17' w b ty f) : b < w.heap.size := (Array.getElem?_eq_some_iff.1 h).1

/-- The first row. -/
def row0 (ly t : Nat) : Int := if 8 ≤ t ∧ t ≤ ly + 8 then mn ((t : Int) - 8) 8 else 8
/-- One cell of the next row. -/
def best (x y : List Int) (ly i t : Nat) (row : Nat → Int) (prev : Int) : Int :=
  if i + t < 8 ∨ ly + 8 < i + t then 8
  else if 8 < i + t then
    (if x.getD (i - 1) 0 = y.getD (i + t - 9) 0 then mn (if 0 < t then mn (if t < 16 then mn 8 (row (t + 1) + 1) else 8) (prev + 1) else (if t < 16 then mn 8 (row (t + 1) + 1) else 8)) (row t)
     else mn (if 0 < t then mn (if t < 16 then mn 8 (row (t + 1) + 1) else 8) (prev + 1) else (if t < 16 then mn 8 (row (t + 1) + 1) else 8)) (row t + 1))
  else (if t < 16 then mn 8 (row (t + 1) + 1) else 8)
def nxt (x y : List Int) (ly i : Nat) (row : Nat → Int) : Nat → Int
  | 0 => best x y ly i 0 row 0
  | t + 1 => best x y ly i (t + 1) row (nxt x y ly i row t)
def rowAt (x y : List Int) : Nat → Nat → Int
  | 0 => row0 y.length
  | i + 1 => nxt x y y.length (i + 1) (rowAt x y i)
def nearL (x y : List Int) : Int := if 8 ≤ (x.length : Int) - y.length ∨ 8 ≤ (y.length : Int) - x.length then 8 else rowAt x y x.length (8 + y.length - x.length)
def near (a b : ByteArray) : Int := nearL (nums a) (nums b)

theorem nxt_eq (x y : List Int) (ly i : Nat) (row : Nat → Int) : ∀ t, nxt x y ly i row t = best x y ly i t row (if t = 0 then 0 else nxt x y ly i row (t - 1))
  | 0 => rfl
  | t + 1 => by rw [if_neg (by omega)]; rfl
theorem mn_bd {a b : Int} (h0 : 0 ≤ a) (h1 : a ≤ 8) (h2 : 0 ≤ b) : 0 ≤ mn a b ∧ mn a b ≤ 8 := by
  unfold mn; split <;> omega
theorem row0_bd (ly t : Nat) : 0 ≤ row0 ly t ∧ row0 ly t ≤ 8 := by
  unfold row0; split
  · unfold mn; split <;> omega
  · omega
theorem best_bd (x y : List Int) (ly i t : Nat) (row : Nat → Int) (prev : Int) (hr : ∀ t, 0 ≤ row t ∧ row t ≤ 8) (hp : 0 ≤ prev) : 0 ≤ best x y ly i t row prev ∧ best x y ly i t row prev ≤ 8 := by
  have h1 := hr (t + 1)
  have h2 := hr t
  have a1 : 0 ≤ (if t < 16 then mn 8 (row (t + 1) + 1) else 8) ∧ (if t < 16 then mn 8 (row (t + 1) + 1) else 8) ≤ 8 := by
    split
    · exact mn_bd (by omega) (by omega) (by omega)
    · omega
  have a2 : 0 ≤ (if 0 < t then mn (if t < 16 then mn 8 (row (t + 1) + 1) else 8) (prev + 1) else (if t < 16 then mn 8 (row (t + 1) + 1) else 8)) ∧ (if 0 < t then mn (if t < 16 then mn 8 (row (t + 1) + 1) else 8) (prev + 1) else (if t < 16 then mn 8 (row (t + 1) + 1) else 8)) ≤ 8 := by
    by_cases h : 0 < t
    · rw [if_pos h]; exact mn_bd a1.1 a1.2 (by omega)
    · rw [if_neg h]; exact a1
  unfold best
  split
  · omega
  · split
    · split
      · exact mn_bd a2.1 a2.2 (by omega)
      · exact mn_bd a2.1 a2.2 (by omega)
    · exact a1
theorem nxt_bd (x y : List Int) (ly i : Nat) (row : Nat → Int) (hr : ∀ t, 0 ≤ row t ∧ row t ≤ 8) : ∀ t, 0 ≤ nxt x y ly i row t ∧ nxt x y ly i row t ≤ 8
  | 0 => best_bd x y ly i 0 row 0 hr (by omega)
  | t + 1 => best_bd x y ly i (t + 1) row _ hr (nxt_bd x y ly i row hr t).1
theorem rowAt_bd (x y : List Int) : ∀ i t, 0 ≤ rowAt x y i t ∧ rowAt x y i t ≤ 8
  | 0, t => row0_bd _ t
  | i + 1, t => nxt_bd x y _ _ _ (rowAt_bd x y i) t
/-- The first k numbers of a row, the rest 0. -/
def part (f : Nat → Int) (k : Nat) : Nat → Int := fun t => if t < k then f t else 0
theorem part_step (f : Nat → Int) (k : Nat) : upd (part f k) k (f k) = part f (k + 1) := by
  funext t
  unfold upd part
  by_cases h : t = k
  · rw [if_pos h, if_pos (by omega), h]
  · rw [if_neg h]
    by_cases h2 : t < k
    · rw [if_pos h2, if_pos (by omega)]
    · rw [if_neg h2, if_neg (by omega)]
theorem upd_upd (f : Nat → Int) (k : Nat) (u v : Int) : upd (upd f k u) k v = upd f k v := by
  funext t
  unfold upd
  by_cases h : t = k
  · rw [if_pos h, if_pos h]
  · rw [if_neg h, if_neg h, if_neg h]
theorem row_of_part {f : Nat → Int} : rowCells (part f 17) = rowCells f := rowCells_congr fun t ht => by simp [part, ht]
theorem part_zero (f : Nat → Int) : rowCells (part f 0) = Array.replicate 17 (Value.int .i64 0) := by
  apply Array.ext_getElem?
  intro i
  by_cases h : i < 17
  · rw [rowCells_at _ i h]; simp [part, h]
  · rw [Array.getElem?_eq_none (by rw [rowCells_size]; omega), Array.getElem?_eq_none (by simp; omega)]
end Go.Proofs.YtlmbkliieckakaaDoor.Nm
