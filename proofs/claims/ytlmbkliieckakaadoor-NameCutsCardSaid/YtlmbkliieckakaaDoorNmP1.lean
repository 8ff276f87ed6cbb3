/- The pure side of NameFolds. -/
import Derived.Test.YtlmbkliieckakaaDoorQA8
import Derived.Test.YtlmbkliieckakaaDoorNmH
set_option linter.unusedVariables false
namespace Go.Proofs.YtlmbkliieckakaaDoor.Nm
open Go QA

theorem alive_true : joustlaw06_alive.f = some true := by decide +kernel

theorem Check_f {a : ByteArray} (h : a.size ≤ 140737488351232) : name_Check.f a = some (errOf (checkOf fitsB a)) := if_pos h
theorem Fold_f {a : ByteArray} (h : a.size ≤ 140737488351232) : name_Fold.f a = some (fold a) := if_pos h
theorem Runes_f {a : ByteArray} (h : a.size ≤ 140737488351232) : name_Runes.f a = some ((runesOf a).length : Int) := if_pos h
theorem Same_f {a b : ByteArray} (h : a.size ≤ 140737488351232) (h' : b.size ≤ 140737488351232) : name_Same.f a b = some ((fold a).toList == (fold b).toList) := if_pos ⟨h, h'⟩
theorem num_f (n : Int) : joustlaw06_num.f n = some n := rfl

theorem folds_pure (a b : ByteArray) (ha : a.size ≤ 140737488351232) (hb : b.size ≤ 140737488351232) : ∃ k, joustlaw06_NameFolds.f k a b = some true := by
  have hF : (fold a).size ≤ 140737488351232 := by rw [fold_size]; exact ha
  refine ⟨1, ?_⟩
  unfold joustlaw06_NameFolds.f
  rw [alive_true, Option.bind_some, if_pos rfl, Fold_f ha, Option.bind_some, Fold_f hF, Option.bind_some, fold_fold, if_pos rfl, fold_size, if_pos rfl,
    Runes_f hF, Option.bind_some, Runes_f ha, Option.bind_some, runesOf_fold, List.length_map, if_pos rfl, Same_f ha hF, Option.bind_some, fold_fold, if_pos (by simp), Same_f ha ha, Option.bind_some, if_pos (by simp),
    Same_f ha hb, Option.bind_some, Same_f hb ha, Option.bind_some]
  have hsym : ((fold a).toList == (fold b).toList) = ((fold b).toList == (fold a).toList) := by
    rw [Bool.eq_iff_iff, beq_iff_eq, beq_iff_eq]; exact eq_comm
  rw [if_neg (by rw [hsym]; simp), Option.bind_some, Fold_f hb, Option.bind_some]
  simp only [joustlaw06_NameFolds.j0, bne_self_eq_false]
  rw [if_neg (by decide), Check_f ha, Option.bind_some, num_f, Option.bind_some, Check_f hF, Option.bind_some, num_f, Option.bind_some, checkOf_fold, if_pos rfl, Option.bind_some, num_f, Option.bind_some]
  cases hc : checkOf fitsB a with
  | true =>
    obtain ⟨h1, h2, h3⟩ := checkOf_tells hc
    rw [if_pos (show errOf true = 0 from rfl), Runes_f ha, Option.bind_some, if_pos (by omega), if_pos (by omega), decide_eq_true (by omega)]
  | false => rfl
end Go.Proofs.YtlmbkliieckakaaDoor.Nm
