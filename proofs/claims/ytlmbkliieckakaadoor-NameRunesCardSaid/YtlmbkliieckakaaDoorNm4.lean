/- The walk of name.Check. -/
import Derived.Test.YtlmbkliieckakaaDoorNm3
set_option linter.unusedVariables false
namespace Go.Proofs.YtlmbkliieckakaaDoor.Nm
open Go.RowKit

/-- The number that Check answers. -/
def errOf (b : Bool) : Int := if b then 0 else 60

theorem GL.of_below {w wr : World} (h : GL w) (hb : Below w.heap.size w wr) : GL wr := h.below h.1 hb

set_option maxHeartbeats 4000000 in
set_option maxRecDepth 100000 in
theorem check_calls (s : ByteArray) (w : World) (hg : GL w) (hs : s.size ≤ 9223372036854775807) :
    Calls Tryd.prog 18 #[.string s] w fun e w' => e = .returned (.int .i64 (errOf (checkOf fitsB s))) ∧ Below w.heap.size w w' := by
  go_enter Tryd.func18, Tryd.ntmps18
  go_wp2
  go_loopw [3] (fun nv wr => ∃ (pos fuel k : Nat), nv = .int .i64 k ∧ k ≤ 12 ∧ wr.heap[w.heap.size]? = some (.stringIter s pos) ∧ Below w.heap.size w wr ∧ checkFrom fitsB s fuel pos k = checkOf fitsB s ∧ s.size ≤ pos + fuel ∧ pos ≤ s.size) (fun _ wr => s.size - wr.iterPos w.heap.size)
  case atStart =>
    exact ⟨0, s.size, 0, rfl, by omega, World.iter_heap w s 0, below_iter (Below.refl _ _) (Nat.le_refl _) _ _, rfl, by omega, by omega⟩
  case round =>
    obtain ⟨pos, fuel, k, rfl, hk, hit, hbw, hcut, hfu, hps⟩ := hrel
    have HCUT := Lib.hid hcut
    clear hcut
    by_cases hp : pos < s.size
    · have hnx : ∀ ty, (Instr.next (.pointer (some ⟨w.heap.size, 0, none⟩)) true ty).run Tryd.prog wr = _ := fun ty => Lib.run_next_any_at wr w.heap.size s pos ty hit hp
      have hwd := Lib.decode_width_pos s pos hp
      have hfit := decode_fits s pos hp
      have hit2 := Lib.iterAt_heap wr w.heap.size s pos (pos + (Utf8.decode s pos).2) hit
      have hbw2 := Lib.below_iterAt hbw (k := w.heap.size) (by omega) s (pos + (Utf8.decode s pos).2)
      have hsz := hbw2.size
      have hlt : w.heap.size < (wr.iterAt w.heap.size s (pos + (Utf8.decode s pos).2)).heap.size := by
        exact (Array.getElem?_eq_some_iff.1 hit2).1
      have hgl := hg.of_below hbw2
      obtain ⟨f, rfl⟩ : ∃ f, fuel = f + 1 := ⟨fuel - 1, by omega⟩
      have HIT := Lib.hid hit
      have HIT2 := Lib.hid hit2
      clear hit hit2
      by_cases h0 : 12 < k + 1
      · go_wp2
        go_ret
        have e := HCUT.out
        simp only [checkFrom] at e
        rw [if_pos hp, if_pos h0] at e
        refine ⟨?_, hbw2⟩
        rw [← e]
        rfl
      · by_cases hf : fitsB (Utf8.decode s pos).1 = true
        · go_wp2_with (go_at_call 38; refine (fits_calls _ _ hgl).mono ?_; rintro e w2 ⟨rfl, hb2⟩)
          go_roundw
          case rel =>
            refine ⟨pos + (Utf8.decode s pos).2, f, k + 1, by simp, by omega, (hb2.block _ hlt).trans HIT2.out, hbw2.trans (hb2.mono (by omega)), ?_, by omega, hfit⟩
            have e := HCUT.out
            simp only [checkFrom] at e
            rw [if_pos hp, if_neg h0, if_pos hf] at e
            exact e
          case measure =>
            simp only [World.iterPos, HIT.out, (hb2.block _ hlt).trans HIT2.out]
            omega
        · have hf' : fitsB (Utf8.decode s pos).1 = false := by simpa using hf
          go_wp2_with (go_at_call 38; refine (fits_calls _ _ hgl).mono ?_; rintro e w2 ⟨rfl, hb2⟩)
          go_ret
          have e := HCUT.out
          simp only [checkFrom] at e
          rw [if_pos hp, if_neg h0, if_neg hf] at e
          refine ⟨?_, hbw2.trans (hb2.mono (by omega))⟩
          rw [← e]
          rfl
    · have hnx : ∀ ty, (Instr.next (.pointer (some ⟨w.heap.size, 0, none⟩)) true ty).run Tryd.prog wr = _ := fun ty => Lib.run_next_end_at wr w.heap.size s pos ty hit hp
      have e : Hid (checkOf fitsB s = decide (k ≠ 0 ∧ s.size ≤ 24)) := Lib.hid (by rw [← HCUT.out]; exact checkFrom_end fitsB s fuel pos k hp)
      by_cases hk0 : k = 0
      · subst hk0
        go_wp2
        go_ret
        exact ⟨by rw [e.out]; simp [errOf], hbw⟩
      · by_cases hz : 24 < s.size
        · have hk1 : ((k : Int) == 0) = false := by simpa using hk0
          go_wp2
          go_ret
          exact ⟨by rw [e.out, decide_eq_false (p := k ≠ 0 ∧ s.size ≤ 24) (by omega)]; simp [errOf], hbw⟩
        · have hk1 : ((k : Int) == 0) = false := by simpa using hk0
          go_wp2
          go_ret
          exact ⟨by rw [e.out, decide_eq_true (p := k ≠ 0 ∧ s.size ≤ 24) (by omega)]; simp [errOf], hbw⟩
end Go.Proofs.YtlmbkliieckakaaDoor.Nm
