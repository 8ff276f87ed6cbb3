/- The contracts of package name's exported functions in one form: '.f' says what is answered, '.calls' that the call comes to it. -/
import Derived.Test.YtlmbkliieckakaaDoorNmA
set_option linter.unusedVariables false
namespace Go.Proofs.YtlmbkliieckakaaDoor.Nm
open Go.RowKit

def name_Check.f (a0 : ByteArray) : Option Int := if a0.size ≤ 140737488351232 then some (errOf (checkOf fitsB a0)) else none
theorem name_Check.calls (a0 : ByteArray) (r : Int) (w : World) (hGL : GL w) (h : name_Check.f a0 = some r) :
    Calls Tryd.prog 18 #[.string a0] w fun e w' => e = .returned (.int .i64 r) ∧ Below w.heap.size w w' := by
  unfold name_Check.f at h
  split at h
  · obtain rfl := Option.some.inj h
    exact check_calls a0 w hGL (by omega)
  · cases h
def name_Fold.f (a0 : ByteArray) : Option ByteArray := if a0.size ≤ 140737488351232 then some (fold a0) else none
theorem name_Fold.calls (a0 : ByteArray) (r : ByteArray) (w : World) (hGL : GL w) (h : name_Fold.f a0 = some r) :
    Calls Tryd.prog 15 #[.string a0] w fun e w' => e = .returned (.string r) ∧ Below w.heap.size w w' := by
  unfold name_Fold.f at h
  split at h
  · obtain rfl := Option.some.inj h
    exact fold_calls a0 w hGL (by omega)
  · cases h
def name_Same.f (a0 a1 : ByteArray) : Option Bool := if a0.size ≤ 140737488351232 ∧ a1.size ≤ 140737488351232 then some ((fold a0).toList == (fold a1).toList) else none
theorem name_Same.calls (a0 a1 : ByteArray) (r : Bool) (w : World) (hGL : GL w) (h : name_Same.f a0 a1 = some r) :
    Calls Tryd.prog 11 #[.string a0, .string a1] w fun e w' => e = .returned (.bool r) ∧ Below w.heap.size w w' := by
  unfold name_Same.f at h
  split at h
  · rename_i hs
    obtain rfl := Option.some.inj h
    exact same_calls a0 a1 w hGL hs.1 hs.2
  · cases h
def name_Runes.f (a0 : ByteArray) : Option Int := if a0.size ≤ 140737488351232 then some ((runesOf a0).length : Int) else none
theorem name_Runes.calls (a0 : ByteArray) (r : Int) (w : World) (hGL : GL w) (h : name_Runes.f a0 = some r) :
    Calls Tryd.prog 16 #[.string a0] w fun e w' => e = .returned (.int .i64 r) ∧ Below w.heap.size w w' := by
  unfold name_Runes.f at h
  split at h
  · obtain rfl := Option.some.inj h
    rw [← runeCount_eq]
    exact runes_calls a0 w (by omega)
  · cases h
def name_Cut.f (a0 : ByteArray) (a1 : Int) : Option ByteArray := if a0.size ≤ 140737488351232 ∧ -9223372036854775808 ≤ a1 ∧ a1 ≤ 9223372036854775807 then some (cut a0 a1) else none
theorem name_Cut.calls (a0 : ByteArray) (a1 : Int) (r : ByteArray) (w : World) (hGL : GL w) (h : name_Cut.f a0 a1 = some r) :
    Calls Tryd.prog 19 #[.string a0, .int .i64 a1] w fun e w' => e = .returned (.string r) ∧ Below w.heap.size w w' := by
  unfold name_Cut.f at h
  split at h
  · rename_i hs
    obtain rfl := Option.some.inj h
    exact cut_calls a0 a1 w (by omega) hs.2.1 hs.2.2
  · cases h
def name_Pad.f (a0 : ByteArray) (a1 : Int) : Option ByteArray := if a0.size ≤ 140737488351232 ∧ -9223372036854775808 ≤ a1 ∧ a1 ≤ 9223372036854775807 then some (pad a0 a1) else none
theorem name_Pad.calls (a0 : ByteArray) (a1 : Int) (r : ByteArray) (w : World) (hGL : GL w) (h : name_Pad.f a0 a1 = some r) :
    Calls Tryd.prog 20 #[.string a0, .int .i64 a1] w fun e w' => e = .returned (.string r) ∧ Below w.heap.size w w' := by
  unfold name_Pad.f at h
  split at h
  · rename_i hs
    obtain rfl := Option.some.inj h
    exact pad_calls a0 a1 w hs.1 hs.2.1 hs.2.2
  · cases h
def name_Near.f (a0 a1 : ByteArray) : Option Int := if a0.size ≤ 70368744177664 ∧ a1.size ≤ 70368744177664 then some (near a0 a1) else none
theorem name_Near.calls (a0 a1 : ByteArray) (r : Int) (w : World) (hGL : GL w) (h : name_Near.f a0 a1 = some r) :
    Calls Tryd.prog 13 #[.string a0, .string a1] w fun e w' => e = .returned (.int .i64 r) ∧ Below w.heap.size w w' := by
  unfold name_Near.f at h
  split at h
  · rename_i hs
    obtain rfl := Option.some.inj h
    exact near_calls a0 a1 w hs.1 hs.2
  · cases h
end Go.Proofs.YtlmbkliieckakaaDoor.Nm
