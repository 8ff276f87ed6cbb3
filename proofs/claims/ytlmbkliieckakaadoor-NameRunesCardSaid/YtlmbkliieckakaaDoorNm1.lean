/- Walks of name.big and name.fits over the two package tables. -/
import Derived.Test.YtlmbkliieckakaaDoorProg
import Derived.WalkKit
import Derived.KernelRfl
import Derived.Below
import Derived.Laws.Rows
import Derived.Lib.Hide
import Derived.Outline
import Derived.WalkSmall
namespace Go.Proofs.YtlmbkliieckakaaDoor.Nm
open Go.RowKit
set_option linter.unusedVariables false

def largeCells : Array Value := #[.int .i32 65, .int .i32 90, .int .i32 192, .int .i32 214, .int .i32 216, .int .i32 222]
def mayCells : Array Value := #[.int .i32 97, .int .i32 122, .int .i32 65, .int .i32 90, .int .i32 48, .int .i32 57, .int .i32 95, .int .i32 95, .int .i32 45, .int .i32 45, .int .i32 192, .int .i32 214, .int .i32 216, .int .i32 246, .int .i32 248, .int .i32 255, .int .i32 945, .int .i32 969]

/-- The two package tables hold what their text says. -/
def GL (w : World) : Prop := 2 ≤ w.heap.size ∧ (∃ t fr, w.heap[0]? = some (.cells largeCells t fr)) ∧ (∃ t fr, w.heap[1]? = some (.cells mayCells t fr))

theorem GL.below {w w' : World} (h : GL w) {B : Nat} (hB : 2 ≤ B) (hb : Below B w w') : GL w' := by
  obtain ⟨h0, h1, h2⟩ := h
  refine ⟨Nat.le_trans h0 hb.size, ?_, ?_⟩
  · obtain ⟨t, fr, h⟩ := h1
    exact ⟨t, fr, (hb.block 0 (by omega)).trans h⟩
  · obtain ⟨t, fr, h⟩ := h2
    exact ⟨t, fr, (hb.block 1 (by omega)).trans h⟩

def inSpan (c lo hi : Int) : Bool := decide (lo ≤ c ∧ c ≤ hi)

def bigL : List (Int × Int) := [(65, 90), (192, 214), (216, 222)]
/-- Is it in one of the first k spans? -/
def bigN (k : Nat) (c : Int) : Bool := (bigL.take k).any fun p => inSpan c p.1 p.2
def bigB (c : Int) : Bool := bigL.any fun p => inSpan c p.1 p.2
theorem big_step (c : Int) (k : Nat) (h : bigN k c = false) (h2 : inSpan c (bigL.getD k (0, 0)).1 (bigL.getD k (0, 0)).2 = false) : bigN (k + 1) c = false := by
  unfold bigN at h ⊢
  by_cases hk : k < bigL.length
  · rw [List.take_succ_eq_append_getElem hk, List.any_append, h]
    simp only [List.getD_eq_getElem?_getD, List.getElem?_eq_getElem hk, Option.getD_some] at h2
    simp [h2]
  · rw [List.take_of_length_le (by omega)] at h ⊢
    exact h
theorem big_in (c : Int) (k : Nat) (hk : k < 3) (h : k < bigL.length) (h1 : (bigL.getD k (0, 0)).1 ≤ c) (h2 : c ≤ (bigL.getD k (0, 0)).2) : bigB c = true := by
  unfold bigB
  rw [List.any_eq_true]
  exact ⟨bigL.getD k (0, 0), by rw [List.getD_eq_getElem?_getD, List.getElem?_eq_getElem h]; exact List.getElem_mem h, by simp only [inSpan, decide_eq_true_eq]; exact ⟨h1, h2⟩⟩
theorem big_none (c : Int) (h : bigN 3 c = false) : bigB c = false := h
def fitsL : List (Int × Int) := [(97, 122), (65, 90), (48, 57), (95, 95), (45, 45), (192, 214), (216, 246), (248, 255), (945, 969)]
/-- Is it in one of the first k spans? -/
def fitsN (k : Nat) (c : Int) : Bool := (fitsL.take k).any fun p => inSpan c p.1 p.2
def fitsB (c : Int) : Bool := fitsL.any fun p => inSpan c p.1 p.2
theorem fits_step (c : Int) (k : Nat) (h : fitsN k c = false) (h2 : inSpan c (fitsL.getD k (0, 0)).1 (fitsL.getD k (0, 0)).2 = false) : fitsN (k + 1) c = false := by
  unfold fitsN at h ⊢
  by_cases hk : k < fitsL.length
  · rw [List.take_succ_eq_append_getElem hk, List.any_append, h]
    simp only [List.getD_eq_getElem?_getD, List.getElem?_eq_getElem hk, Option.getD_some] at h2
    simp [h2]
  · rw [List.take_of_length_le (by omega)] at h ⊢
    exact h
theorem fits_in (c : Int) (k : Nat) (hk : k < 9) (h : k < fitsL.length) (h1 : (fitsL.getD k (0, 0)).1 ≤ c) (h2 : c ≤ (fitsL.getD k (0, 0)).2) : fitsB c = true := by
  unfold fitsB
  rw [List.any_eq_true]
  exact ⟨fitsL.getD k (0, 0), by rw [List.getD_eq_getElem?_getD, List.getElem?_eq_getElem h]; exact List.getElem_mem h, by simp only [inSpan, decide_eq_true_eq]; exact ⟨h1, h2⟩⟩
theorem fits_none (c : Int) (h : fitsN 9 c = false) : fitsB c = false := h
theorem big_at0 (w : World) : (Instr.index 65 (.agg largeCells) (.int .i64 0)).run Tryd.prog w = .ok (.agg #[.int .i32 65, .int .i32 90]) w := by kernel_rfl
theorem big_at1 (w : World) : (Instr.index 65 (.agg largeCells) (.int .i64 1)).run Tryd.prog w = .ok (.agg #[.int .i32 192, .int .i32 214]) w := by kernel_rfl
theorem big_at2 (w : World) : (Instr.index 65 (.agg largeCells) (.int .i64 2)).run Tryd.prog w = .ok (.agg #[.int .i32 216, .int .i32 222]) w := by kernel_rfl
set_option maxHeartbeats 4000000 in
set_option maxRecDepth 100000 in
theorem big_calls (c : Int) (w : World) (hg : GL w) :
    Calls Tryd.prog 31 #[.int .i32 c] w fun e w' => e = .returned (.bool (bigB c)) ∧ Below w.heap.size w w' := by
  obtain ⟨hsz, ⟨t, fr, h0⟩, _⟩ := hg
  go_enter Tryd.func31, Tryd.ntmps31
  go_wp2_with (refine wpList_load_row rfl 65 (.global 0) rfl 0 rfl _ _ _ _ h0 Tryd.underlying65 rfl (by kernel_rfl) ?_)
  go_loopw [6] (fun i wr => ∃ k : Nat, k ≤ 3 ∧ i = .int .i64 k ∧ bigN k c = false ∧ Below w.heap.size w wr) (fun i _ => 3 - (intOf i).toNat)
  case atStart => exact ⟨0, by omega, rfl, rfl, Below.refl _ _⟩
  case round =>
    obtain ⟨k, hk, rfl, hno, hb⟩ := hrel
    have HNO := Lib.hid hno
    clear hno
    have hle := hb.size
    obtain rfl | rfl | rfl | rfl : k = 0 ∨ k = 1 ∨ k = 2 ∨ k = 3 := by omega
    · have hi0 := big_at0
      by_cases c1 : 65 ≤ c
      · by_cases c2 : c ≤ 90
        · go_wp2
          go_ret
          exact ⟨by rw [big_in c 0 (by omega) (by decide) c1 c2]; rfl, by first | exact (((hb.alloc hle _).alloc (by simp; omega) _)) | exact hb.alloc hle _⟩
        · go_wp2
          go_roundw
          case rel => exact ⟨1, by omega, by simp, big_step c 0 HNO.out (by show inSpan c 65 90 = false; exact decide_eq_false (by omega)), by first | exact (((hb.alloc hle _).alloc (by simp; omega) _)) | exact hb.alloc hle _⟩
          case measure => simp [intOf]
      · go_wp2
        go_roundw
        case rel => exact ⟨1, by omega, by simp, big_step c 0 HNO.out (by show inSpan c 65 90 = false; exact decide_eq_false (by omega)), by first | exact (((hb.alloc hle _).alloc (by simp; omega) _)) | exact hb.alloc hle _⟩
        case measure => simp [intOf]
    · have hi0 := big_at1
      by_cases c1 : 192 ≤ c
      · by_cases c2 : c ≤ 214
        · go_wp2
          go_ret
          exact ⟨by rw [big_in c 1 (by omega) (by decide) c1 c2]; rfl, by first | exact (((hb.alloc hle _).alloc (by simp; omega) _)) | exact hb.alloc hle _⟩
        · go_wp2
          go_roundw
          case rel => exact ⟨2, by omega, by simp, big_step c 1 HNO.out (by show inSpan c 192 214 = false; exact decide_eq_false (by omega)), by first | exact (((hb.alloc hle _).alloc (by simp; omega) _)) | exact hb.alloc hle _⟩
          case measure => simp [intOf]
      · go_wp2
        go_roundw
        case rel => exact ⟨2, by omega, by simp, big_step c 1 HNO.out (by show inSpan c 192 214 = false; exact decide_eq_false (by omega)), by first | exact (((hb.alloc hle _).alloc (by simp; omega) _)) | exact hb.alloc hle _⟩
        case measure => simp [intOf]
    · have hi0 := big_at2
      by_cases c1 : 216 ≤ c
      · by_cases c2 : c ≤ 222
        · go_wp2
          go_ret
          exact ⟨by rw [big_in c 2 (by omega) (by decide) c1 c2]; rfl, by first | exact (((hb.alloc hle _).alloc (by simp; omega) _)) | exact hb.alloc hle _⟩
        · go_wp2
          go_roundw
          case rel => exact ⟨3, by omega, by simp, big_step c 2 HNO.out (by show inSpan c 216 222 = false; exact decide_eq_false (by omega)), by first | exact (((hb.alloc hle _).alloc (by simp; omega) _)) | exact hb.alloc hle _⟩
          case measure => simp [intOf]
      · go_wp2
        go_roundw
        case rel => exact ⟨3, by omega, by simp, big_step c 2 HNO.out (by show inSpan c 216 222 = false; exact decide_eq_false (by omega)), by first | exact (((hb.alloc hle _).alloc (by simp; omega) _)) | exact hb.alloc hle _⟩
        case measure => simp [intOf]
    · go_wp2
      go_ret
      exact ⟨by rw [big_none c HNO.out]; rfl, hb⟩
theorem fits_at0 (w : World) : (Instr.index 68 (.agg mayCells) (.int .i64 0)).run Tryd.prog w = .ok (.agg #[.int .i32 97, .int .i32 122]) w := by kernel_rfl
theorem fits_at1 (w : World) : (Instr.index 68 (.agg mayCells) (.int .i64 1)).run Tryd.prog w = .ok (.agg #[.int .i32 65, .int .i32 90]) w := by kernel_rfl
theorem fits_at2 (w : World) : (Instr.index 68 (.agg mayCells) (.int .i64 2)).run Tryd.prog w = .ok (.agg #[.int .i32 48, .int .i32 57]) w := by kernel_rfl
theorem fits_at3 (w : World) : (Instr.index 68 (.agg mayCells) (.int .i64 3)).run Tryd.prog w = .ok (.agg #[.int .i32 95, .int .i32 95]) w := by kernel_rfl
theorem fits_at4 (w : World) : (Instr.index 68 (.agg mayCells) (.int .i64 4)).run Tryd.prog w = .ok (.agg #[.int .i32 45, .int .i32 45]) w := by kernel_rfl
theorem fits_at5 (w : World) : (Instr.index 68 (.agg mayCells) (.int .i64 5)).run Tryd.prog w = .ok (.agg #[.int .i32 192, .int .i32 214]) w := by kernel_rfl
theorem fits_at6 (w : World) : (Instr.index 68 (.agg mayCells) (.int .i64 6)).run Tryd.prog w = .ok (.agg #[.int .i32 216, .int .i32 246]) w := by kernel_rfl
theorem fits_at7 (w : World) : (Instr.index 68 (.agg mayCells) (.int .i64 7)).run Tryd.prog w = .ok (.agg #[.int .i32 248, .int .i32 255]) w := by kernel_rfl
theorem fits_at8 (w : World) : (Instr.index 68 (.agg mayCells) (.int .i64 8)).run Tryd.prog w = .ok (.agg #[.int .i32 945, .int .i32 969]) w := by kernel_rfl
set_option maxHeartbeats 4000000 in
set_option maxRecDepth 100000 in
theorem fits_calls (c : Int) (w : World) (hg : GL w) :
    Calls Tryd.prog 38 #[.int .i32 c] w fun e w' => e = .returned (.bool (fitsB c)) ∧ Below w.heap.size w w' := by
  obtain ⟨hsz, _, ⟨t, fr, h0⟩⟩ := hg
  go_enter Tryd.func38, Tryd.ntmps38
  go_wp2_with (refine wpList_load_row rfl 68 (.global 1) rfl 1 rfl _ _ _ _ h0 Tryd.underlying68 rfl (by kernel_rfl) ?_)
  go_loopw [6] (fun i wr => ∃ k : Nat, k ≤ 9 ∧ i = .int .i64 k ∧ fitsN k c = false ∧ Below w.heap.size w wr) (fun i _ => 9 - (intOf i).toNat)
  case atStart => exact ⟨0, by omega, rfl, rfl, Below.refl _ _⟩
  case round =>
    obtain ⟨k, hk, rfl, hno, hb⟩ := hrel
    have HNO := Lib.hid hno
    clear hno
    have hle := hb.size
    obtain rfl | rfl | rfl | rfl | rfl | rfl | rfl | rfl | rfl | rfl : k = 0 ∨ k = 1 ∨ k = 2 ∨ k = 3 ∨ k = 4 ∨ k = 5 ∨ k = 6 ∨ k = 7 ∨ k = 8 ∨ k = 9 := by omega
    · have hi0 := fits_at0
      by_cases c1 : 97 ≤ c
      · by_cases c2 : c ≤ 122
        · go_wp2
          go_ret
          exact ⟨by rw [fits_in c 0 (by omega) (by decide) c1 c2]; rfl, by first | exact (((hb.alloc hle _).alloc (by simp; omega) _)) | exact hb.alloc hle _⟩
        · go_wp2
          go_roundw
          case rel => exact ⟨1, by omega, by simp, fits_step c 0 HNO.out (by show inSpan c 97 122 = false; exact decide_eq_false (by omega)), by first | exact (((hb.alloc hle _).alloc (by simp; omega) _)) | exact hb.alloc hle _⟩
          case measure => simp [intOf]
      · go_wp2
        go_roundw
        case rel => exact ⟨1, by omega, by simp, fits_step c 0 HNO.out (by show inSpan c 97 122 = false; exact decide_eq_false (by omega)), by first | exact (((hb.alloc hle _).alloc (by simp; omega) _)) | exact hb.alloc hle _⟩
        case measure => simp [intOf]
    · have hi0 := fits_at1
      by_cases c1 : 65 ≤ c
      · by_cases c2 : c ≤ 90
        · go_wp2
          go_ret
          exact ⟨by rw [fits_in c 1 (by omega) (by decide) c1 c2]; rfl, by first | exact (((hb.alloc hle _).alloc (by simp; omega) _)) | exact hb.alloc hle _⟩
        · go_wp2
          go_roundw
          case rel => exact ⟨2, by omega, by simp, fits_step c 1 HNO.out (by show inSpan c 65 90 = false; exact decide_eq_false (by omega)), by first | exact (((hb.alloc hle _).alloc (by simp; omega) _)) | exact hb.alloc hle _⟩
          case measure => simp [intOf]
      · go_wp2
        go_roundw
        case rel => exact ⟨2, by omega, by simp, fits_step c 1 HNO.out (by show inSpan c 65 90 = false; exact decide_eq_false (by omega)), by first | exact (((hb.alloc hle _).alloc (by simp; omega) _)) | exact hb.alloc hle _⟩
        case measure => simp [intOf]
    · have hi0 := fits_at2
      by_cases c1 : 48 ≤ c
      · by_cases c2 : c ≤ 57
        · go_wp2
          go_ret
          exact ⟨by rw [fits_in c 2 (by omega) (by decide) c1 c2]; rfl, by first | exact (((hb.alloc hle _).alloc (by simp; omega) _)) | exact hb.alloc hle _⟩
        · go_wp2
          go_roundw
          case rel => exact ⟨3, by omega, by simp, fits_step c 2 HNO.out (by show inSpan c 48 57 = false; exact decide_eq_false (by omega)), by first | exact (((hb.alloc hle _).alloc (by simp; omega) _)) | exact hb.alloc hle _⟩
          case measure => simp [intOf]
      · go_wp2
        go_roundw
        case rel => exact ⟨3, by omega, by simp, fits_step c 2 HNO.out (by show inSpan c 48 57 = false; exact decide_eq_false (by omega)), by first | exact (((hb.alloc hle _).alloc (by simp; omega) _)) | exact hb.alloc hle _⟩
        case measure => simp [intOf]
    · have hi0 := fits_at3
      by_cases c1 : 95 ≤ c
      · by_cases c2 : c ≤ 95
        · go_wp2
          go_ret
          exact ⟨by rw [fits_in c 3 (by omega) (by decide) c1 c2]; rfl, by first | exact (((hb.alloc hle _).alloc (by simp; omega) _)) | exact hb.alloc hle _⟩
        · go_wp2
          go_roundw
          case rel => exact ⟨4, by omega, by simp, fits_step c 3 HNO.out (by show inSpan c 95 95 = false; exact decide_eq_false (by omega)), by first | exact (((hb.alloc hle _).alloc (by simp; omega) _)) | exact hb.alloc hle _⟩
          case measure => simp [intOf]
      · go_wp2
        go_roundw
        case rel => exact ⟨4, by omega, by simp, fits_step c 3 HNO.out (by show inSpan c 95 95 = false; exact decide_eq_false (by omega)), by first | exact (((hb.alloc hle _).alloc (by simp; omega) _)) | exact hb.alloc hle _⟩
        case measure => simp [intOf]
    · have hi0 := fits_at4
      by_cases c1 : 45 ≤ c
      · by_cases c2 : c ≤ 45
        · go_wp2
          go_ret
          exact ⟨by rw [fits_in c 4 (by omega) (by decide) c1 c2]; rfl, by first | exact (((hb.alloc hle _).alloc (by simp; omega) _)) | exact hb.alloc hle _⟩
        · go_wp2
          go_roundw
          case rel => exact ⟨5, by omega, by simp, fits_step c 4 HNO.out (by show inSpan c 45 45 = false; exact decide_eq_false (by omega)), by first | exact (((hb.alloc hle _).alloc (by simp; omega) _)) | exact hb.alloc hle _⟩
          case measure => simp [intOf]
      · go_wp2
        go_roundw
        case rel => exact ⟨5, by omega, by simp, fits_step c 4 HNO.out (by show inSpan c 45 45 = false; exact decide_eq_false (by omega)), by first | exact (((hb.alloc hle _).alloc (by simp; omega) _)) | exact hb.alloc hle _⟩
        case measure => simp [intOf]
    · have hi0 := fits_at5
      by_cases c1 : 192 ≤ c
      · by_cases c2 : c ≤ 214
        · go_wp2
          go_ret
          exact ⟨by rw [fits_in c 5 (by omega) (by decide) c1 c2]; rfl, by first | exact (((hb.alloc hle _).alloc (by simp; omega) _)) | exact hb.alloc hle _⟩
        · go_wp2
          go_roundw
          case rel => exact ⟨6, by omega, by simp, fits_step c 5 HNO.out (by show inSpan c 192 214 = false; exact decide_eq_false (by omega)), by first | exact (((hb.alloc hle _).alloc (by simp; omega) _)) | exact hb.alloc hle _⟩
          case measure => simp [intOf]
      · go_wp2
        go_roundw
        case rel => exact ⟨6, by omega, by simp, fits_step c 5 HNO.out (by show inSpan c 192 214 = false; exact decide_eq_false (by omega)), by first | exact (((hb.alloc hle _).alloc (by simp; omega) _)) | exact hb.alloc hle _⟩
        case measure => simp [intOf]
    · have hi0 := fits_at6
      by_cases c1 : 216 ≤ c
      · by_cases c2 : c ≤ 246
        · go_wp2
          go_ret
          exact ⟨by rw [fits_in c 6 (by omega) (by decide) c1 c2]; rfl, by first | exact (((hb.alloc hle _).alloc (by simp; omega) _)) | exact hb.alloc hle _⟩
        · go_wp2
          go_roundw
          case rel => exact ⟨7, by omega, by simp, fits_step c 6 HNO.out (by show inSpan c 216 246 = false; exact decide_eq_false (by omega)), by first | exact (((hb.alloc hle _).alloc (by simp; omega) _)) | exact hb.alloc hle _⟩
          case measure => simp [intOf]
      · go_wp2
        go_roundw
        case rel => exact ⟨7, by omega, by simp, fits_step c 6 HNO.out (by show inSpan c 216 246 = false; exact decide_eq_false (by omega)), by first | exact (((hb.alloc hle _).alloc (by simp; omega) _)) | exact hb.alloc hle _⟩
        case measure => simp [intOf]
    · have hi0 := fits_at7
      by_cases c1 : 248 ≤ c
      · by_cases c2 : c ≤ 255
        · go_wp2
          go_ret
          exact ⟨by rw [fits_in c 7 (by omega) (by decide) c1 c2]; rfl, by first | exact (((hb.alloc hle _).alloc (by simp; omega) _)) | exact hb.alloc hle _⟩
        · go_wp2
          go_roundw
          case rel => exact ⟨8, by omega, by simp, fits_step c 7 HNO.out (by show inSpan c 248 255 = false; exact decide_eq_false (by omega)), by first | exact (((hb.alloc hle _).alloc (by simp; omega) _)) | exact hb.alloc hle _⟩
          case measure => simp [intOf]
      · go_wp2
        go_roundw
        case rel => exact ⟨8, by omega, by simp, fits_step c 7 HNO.out (by show inSpan c 248 255 = false; exact decide_eq_false (by omega)), by first | exact (((hb.alloc hle _).alloc (by simp; omega) _)) | exact hb.alloc hle _⟩
        case measure => simp [intOf]
    · have hi0 := fits_at8
      by_cases c1 : 945 ≤ c
      · by_cases c2 : c ≤ 969
        · go_wp2
          go_ret
          exact ⟨by rw [fits_in c 8 (by omega) (by decide) c1 c2]; rfl, by first | exact (((hb.alloc hle _).alloc (by simp; omega) _)) | exact hb.alloc hle _⟩
        · go_wp2
          go_roundw
          case rel => exact ⟨9, by omega, by simp, fits_step c 8 HNO.out (by show inSpan c 945 969 = false; exact decide_eq_false (by omega)), by first | exact (((hb.alloc hle _).alloc (by simp; omega) _)) | exact hb.alloc hle _⟩
          case measure => simp [intOf]
      · go_wp2
        go_roundw
        case rel => exact ⟨9, by omega, by simp, fits_step c 8 HNO.out (by show inSpan c 945 969 = false; exact decide_eq_false (by omega)), by first | exact (((hb.alloc hle _).alloc (by simp; omega) _)) | exact hb.alloc hle _⟩
        case measure => simp [intOf]
    · go_wp2
      go_ret
      exact ⟨by rw [fits_none c HNO.out]; rfl, hb⟩
end Go.Proofs.YtlmbkliieckakaaDoor.Nm
