/- Walks of name.Runes, name.Cut, name.Check. -/
import Derived.Test.YtlmbkliieckakaaDoorNm0
import Derived.Test.YtlmbkliieckakaaDoorNm1
import Derived.Test.YtlmbkliieckakaaDoorNm2
import Derived.BigCall
set_option linter.unusedVariables false
namespace Go.Proofs.YtlmbkliieckakaaDoor.Nm
open Go.RowKit

theorem below_iter {B : Nat} {a w : World} (h : Below B a w) (hB : B ≤ w.heap.size) (s : ByteArray) (pos : Nat) : Below B a (w.iter s pos) := h.alloc hB _

theorem runes_calls (s : ByteArray) (w : World) (hs : s.size < 9223372036854775807) :
    Calls Tryd.prog 16 #[.string s] w fun e w' => e = .returned (.int .i64 (Lib.runeCount s)) ∧ Below w.heap.size w w' := by
  go_enter Tryd.func16, Tryd.ntmps16
  go_wp2_with (go_at_call 37; refine (Tryd.utf8_RuneCountInString s _ hs).mono ?_)
  rintro e w1 ⟨rfl, pos, rfl⟩
  go_wp2
  go_ret
  exact ⟨rfl, below_iter (Below.refl _ _) (Nat.le_refl _) _ _⟩

set_option maxHeartbeats 4000000 in
set_option maxRecDepth 100000 in
theorem cut_calls (s : ByteArray) (n : Int) (w : World) (hs : s.size ≤ 9223372036854775807) (hn : -9223372036854775808 ≤ n) (hn2 : n ≤ 9223372036854775807) :
    Calls Tryd.prog 19 #[.string s, .int .i64 n] w fun e w' => e = .returned (.string (cut s n)) ∧ Below w.heap.size w w' := by
  go_enter Tryd.func19, Tryd.ntmps19
  go_wp2
  go_loopw [1, 5] (fun nv iv wr => ∃ (pos fuel : Nat) (m : Int), nv = .int .i64 m ∧ m ≤ 9223372036854775807 ∧ -9223372036854775808 ≤ m ∧ wr.heap[w.heap.size]? = some (.stringIter s pos) ∧ Below w.heap.size w wr ∧ cutFrom s fuel pos m = cutAt s n ∧ s.size ≤ pos + fuel ∧ pos ≤ s.size) (fun _ _ wr => s.size - wr.iterPos w.heap.size)
  case atStart =>
    exact ⟨0, s.size, n, rfl, hn2, hn, World.iter_heap w s 0, below_iter (Below.refl _ _) (Nat.le_refl _) _ _, rfl, by omega, by omega⟩
  case round =>
    obtain ⟨pos, fuel, m, rfl, hm2, hm, hit, hbw, hcut, hfu, hps⟩ := hrel
    have HCUT := Lib.hid hcut
    clear hcut
    by_cases hp : pos < s.size
    · have hnx : ∀ ty, (Instr.next (.pointer (some ⟨w.heap.size, 0, none⟩)) true ty).run Tryd.prog wr = _ := fun ty => Lib.run_next_any_at wr w.heap.size s pos ty hit hp
      have hwd := Lib.decode_width_pos s pos hp
      have hfit := decode_fits s pos hp
      have hit2 := Lib.iterAt_heap wr w.heap.size s pos (pos + (Utf8.decode s pos).2) hit
      have hbw2 := Lib.below_iterAt hbw (k := w.heap.size) (by omega) s (pos + (Utf8.decode s pos).2)
      obtain ⟨f, rfl⟩ : ∃ f, fuel = f + 1 := ⟨fuel - 1, by omega⟩
      have HIT := Lib.hid hit
      have HIT2 := Lib.hid hit2
      clear hit hit2
      by_cases h0 : m ≤ 0
      · go_wp2
        go_ret
        have e := HCUT.out
        rw [cutFrom_now s _ pos m h0] at e
        refine ⟨?_, hbw2⟩
        rw [cut, ← e]
        first | rfl | simp
      · go_wp2
        go_roundw
        case rel =>
          refine ⟨pos + (Utf8.decode s pos).2, f, m - 1, by simp, by omega, by omega, HIT2.out, hbw2, ?_, by omega, hfit⟩
          rw [← cutFrom_step s f pos m hp h0]
          exact HCUT.out
        case measure =>
          simp only [World.iterPos, HIT.out, HIT2.out]
          omega
    · have hnx : ∀ ty, (Instr.next (.pointer (some ⟨w.heap.size, 0, none⟩)) true ty).run Tryd.prog wr = _ := fun ty => Lib.run_next_end_at wr w.heap.size s pos ty hit hp
      go_wp2
      go_ret
      have e := HCUT.out
      rw [cutFrom_end s _ pos m hp] at e
      have hps' : pos = s.size := by omega
      refine ⟨?_, hbw⟩
      rw [cut, ← e, hps']
      simp
end Go.Proofs.YtlmbkliieckakaaDoor.Nm
