/- What the printed functions of package name answer; the alive check. -/
import Derived.Test.YtlmbkliieckakaaDoorQA1
import Derived.Test.YtlmbkliieckakaaDoorNm7
set_option linter.unusedVariables false
namespace Go.Proofs.YtlmbkliieckakaaDoor.Nm
open Go QA Go.RowKit Go.Proofs.YtlmbkliieckakaaDoorW.PrintWords

theorem alive_true : joustlaw06_alive.f = some true := by decide +kernel

theorem Check_f {a : ByteArray} (h : a.size ≤ 140737488351232) : name_Check.f a = some (errOf (checkOf fitsB a)) := if_pos h
theorem Fold_f {a : ByteArray} (h : a.size ≤ 140737488351232) : name_Fold.f a = some (fold a) := if_pos h
theorem Runes_f {a : ByteArray} (h : a.size ≤ 140737488351232) : name_Runes.f a = some ((runesOf a).length : Int) := if_pos h
theorem Same_f {a b : ByteArray} (h : a.size ≤ 140737488351232) (h' : b.size ≤ 140737488351232) : name_Same.f a b = some ((fold a).toList == (fold b).toList) := if_pos ⟨h, h'⟩
theorem num_f (n : Int) : joustlaw06_num.f n = some n := rfl

theorem Near_f {a b : ByteArray} (h : a.size ≤ 70368744177664) (h' : b.size ≤ 70368744177664) : name_Near.f a b = some (near a b) := if_pos ⟨h, h'⟩
theorem Cut_f {a : ByteArray} {n : Int} (h : a.size ≤ 140737488351232) (h1 : -9223372036854775808 ≤ n) (h2 : n ≤ 9223372036854775807) : name_Cut.f a n = some (cut a n) := if_pos ⟨h, h1, h2⟩
theorem Pad_f {a : ByteArray} {n : Int} (h : a.size ≤ 140737488351232) (h1 : -9223372036854775808 ≤ n) (h2 : n ≤ 9223372036854775807) : name_Pad.f a n = some (pad a n) := if_pos ⟨h, h1, h2⟩

theorem bt_bAt (s : ByteArray) (i : Nat) (h : i < s.size) : bt s (i : Int) = bAt s i := by
  unfold bt
  rw [dif_pos (show ((i : Int).toNat) < s.size by simpa using h), bAt_ge h]
  simp

theorem wrap_id {x : Int} (h : -9223372036854775808 ≤ x) (h2 : x ≤ 9223372036854775807) : wrap64 x = x := by unfold wrap64; omega

end Go.Proofs.YtlmbkliieckakaaDoor.Nm
