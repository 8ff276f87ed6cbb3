/- Offer where none waits. -/
import Derived.Test.YtokemjdfcifbbaaG1
import Derived.Deep.RegionWith
namespace Go.Proofs.Ytokemjdfcifbbaa.Gt
open Go Go.RowKit Go.Maps
set_option linter.unusedVariables false

set_option maxHeartbeats 2000000 in
theorem offer_new (gb mb n : Nat) (D : Dt) (x t u : Int) (f b : Bool) (r : It) (w : World)
    (hLegal : ∀ w, Calls Try.prog 18 #[.int .i64 x, .agg #[.int .i64 t, .int .i64 u, .bool f, .bool b]] w fun e w' => e = .returned (.agg #[.int .i64 r.f0, .int .i64 r.f1, .int .i64 r.f2, .bool r.f3, .bool r.f4]) ∧ Below w.heap.size w w')
    (c0 : w.cell? ⟨gb, 0, none⟩ = some (.map (some mb))) (hown : w.ownsMap Try.prog 3 itElem mb n D) (hn : n < maxLen) (hwx : (Lit.int .i64 x).wf = true) (hh : Maps.has D (.int .i64 x) = false) :
    Calls Try.prog 10 #[.pointer (some ⟨gb, 0, none⟩), .int .i64 x, .agg #[.int .i64 t, .int .i64 u, .bool f, .bool b]] w fun e w' =>
      e = .returned (.int .i64 0) ∧ w'.ownsMap Try.prog 3 itElem mb (n + 1) (D.put (.int .i64 x) (itData r)) ∧ ∃ w1, Below w.heap.size w w1 ∧ w1.mapTurned w' mb := by
  have hkey := keyOf_int_mk Try.underlying3 hwx
  have hlt := cell_lt c0
  go_enter Try.func10, Try.ntmps10
  go_wp2_with (first
    | (go_at_call 11; (with_reducible refine (waits_calls gb mb n D x _ ?c0 ?own hwx).mono ?_); (case c0 => exact (((Below.refl w.heap.size w).alloc (Nat.le_refl _) _).cell (p := ⟨gb, 0, none⟩) hlt).trans c0); (case own => exact hown.alloc _); rw [hh]; rintro e w1 ⟨rfl, hb'⟩; have hb := ((Below.refl w.heap.size w).alloc (Nat.le_refl _) _).trans (hb'.mono (by simp)); have p0 := (hb'.cell (p := ⟨w.heap.size, 0, none⟩) (by simp)); have p1 := (hb'.cell (p := ⟨w.heap.size, 1, none⟩) (by simp)); have p2 := (hb'.cell (p := ⟨w.heap.size, 2, none⟩) (by simp)); have p3 := (hb'.cell (p := ⟨w.heap.size, 3, none⟩) (by simp)); clear hb'; have c1 := (hb.cell (p := ⟨gb, 0, none⟩) hlt).trans c0; have hown1 := own_below hown hb)
    | go_in)
  have hN := Go.MapKept.heap_alloc w (Obj.cells #[Value.int IntKind.i64 t, Value.int IntKind.i64 u, Value.bool f, Value.bool b] 31)
  have cell : ∀ (i : Nat) v, #[Value.int IntKind.i64 t, Value.int IntKind.i64 u, Value.bool f, Value.bool b][i]? = some v → (w.alloc (Obj.cells #[Value.int IntKind.i64 t, Value.int IntKind.i64 u, Value.bool f, Value.bool b] 31)).cell? ⟨w.heap.size, i, none⟩ = some v := by
    intro i v hv
    unfold World.cell?
    simp only []
    rw [hN.1]
    exact hv
  replace p0 := p0.trans (cell 0 _ rfl)
  replace p1 := p1.trans (cell 1 _ rfl)
  replace p2 := p2.trans (cell 2 _ rfl)
  replace p3 := p3.trans (cell 3 _ rfl)
  clear hN cell
  go_region_with (first
    | (go_at_call 18; (with_reducible refine (hLegal _).mono ?_); rintro e w2 ⟨rfl, hb2⟩; have c2 : w2.cell? ⟨gb, 0, none⟩ = some (.map (some mb)) := (hb2.cell (p := ⟨gb, 0, none⟩) (Nat.lt_of_lt_of_le hlt hb.size)).trans c1; have hown2 := own_below (w := w1.drew) (hown1.drew) hb2; obtain ⟨w3, hrun, hown3, hturn3⟩ := hown2.store law3 Try.underlying46 hn hkey (itElem_val r); unfold itVal at hrun))
  all_goals (go_wp2; go_ret; exact ⟨rfl, hown3, w2, hb.drew.trans (hb2.mono hb.size), hturn3⟩)
end Go.Proofs.Ytokemjdfcifbbaa.Gt
