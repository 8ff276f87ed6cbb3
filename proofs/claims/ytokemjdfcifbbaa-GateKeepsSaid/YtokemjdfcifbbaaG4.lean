/- clear(m) at a map that reads as a datum. -/
import Derived.Test.YtokemjdfcifbbaaG1
import Derived.MapFrom
namespace Go.Proofs.Ytokemjdfcifbbaa.Gt
open Go Go.RowKit Go.Maps Go.MapKept Go.ChangeMaps Go.WideShapes
set_option linter.unusedVariables false

theorem clear_run {w : World} {mb n : Nat} {D : Dt} (ty : TypeId) (hown : w.ownsMap Try.prog 3 itElem mb n D) :
    ∃ v w', (Builtin.clear_ #[46] ty #[.map (some mb)]).run Try.prog w = .ok v w' ∧ w'.ownsMap Try.prog 3 (itElem (H := Unit)) mb 0 (.map []) ∧ w.mapTurned w' mb := by
  obtain ⟨es, clock, hb, F, hs, rfl⟩ := hown
  have hu := Try.underlying46
  refine ⟨.tuple #[], setBlock w mb (.map #[] clock), ?_, ⟨#[], clock, heap_setBlock_same hb _, ⟨by simp, ?_, by simp⟩, Nat.le_refl _, rfl⟩, ⟨es, clock, #[], clock, hb, rfl⟩⟩
  · simp [Builtin.clear_, run_underlying hu, MapKept.run_getObj_map hb, MapKept.run_setObj_map _ hb, Result.andThen]
    rfl
  · first | exact stamped_empty _ | (intro e he; simp at he)
end Go.Proofs.Ytokemjdfcifbbaa.Gt
