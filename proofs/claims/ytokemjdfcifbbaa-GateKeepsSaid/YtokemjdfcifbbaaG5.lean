/- The step of a range over the gate's map. -/
import Derived.Test.YtokemjdfcifbbaaG1
import Derived.Maps.RangeWalk
namespace Go.Proofs.Ytokemjdfcifbbaa.Gt
open Go Go.RowKit Go.Maps
set_option linter.unusedVariables false

/-- What is still to come is there. -/
theorem ranges_has {w : World} {b r n : Nat} {D : Dt} {left : Lit → Bool} {cnt : Nat} (h : w.ranges Try.prog 3 itElem b r n D left cnt) {x : Int} (hl : left (.int .i64 x) = true) : Maps.has D (.int .i64 x) = true := by
  obtain ⟨es, clock, since, seen, c0, _, F, _, rfl, _, _, _, _, hk, _⟩ := h
  obtain ⟨e, he, hek⟩ := hk _ hl
  rw [has_eq, List.any_eq_true]
  refine ⟨_, mem_sorted.2 (List.mem_map.2 ⟨e, he, rfl⟩), ?_⟩
  rw [hek]
  simp [Lit.sameKey]

theorem next_it (w : World) {ops : Array Oper} {rest : List Oper} {o : Oper} {a : Act} {Q : Exit → Act → World → Prop} (hg : o.guard = none) (it : Operand) (hop : o.op = Op.next it false)
    (b r n : Nat) (D : Dt) (left : Lit → Bool) (cnt : Nat) (hit : a.eval it = .pointer (some ⟨r, 0, none⟩)) (h : w.ranges Try.prog 3 itElem b r n D left cnt)
    (hDone : cnt = 0 → (∀ kl, left kl = false) → wpList Try.prog ops Q rest (a.put o.dst (.tuple #[.bool false])) w)
    (hMore : ∀ (x : Int) (y : It) (w' : World) (cnt' : Nat), (Lit.int .i64 x).wf = true → left (.int .i64 x) = true → (∀ zd, D.atKey (.int .i64 x) zd = itData y) →
      w'.ranges Try.prog 3 itElem b r n D (fun z => left z && !z.sameKey (.int .i64 x)) cnt' → cnt' < cnt → w.grownBy w' (some r) → w'.heap.size = w.heap.size →
      (Instr.entry (.pointer (some ⟨r, 0, none⟩))).run Try.prog w' = .ok (.tuple #[.int .i64 x, .agg #[.int .i64 y.f0, .int .i64 y.f1, .int .i64 y.f2, .bool y.f3, .bool y.f4]]) w' →
      wpList Try.prog ops Q rest (a.put o.dst (.tuple #[.bool true, .int .i64 x, .agg #[.int .i64 y.f0, .int .i64 y.f1, .int .i64 y.f2, .bool y.f3, .bool y.f4]])) w') :
    wpList Try.prog ops Q (o :: rest) a w :=
  wpList_next_ranges w hg it hop 3 law3 itElem (Value.int .i64) itVal (fun key kl hkey => by obtain ⟨x, rfl, _⟩ := Maps.keyOf_int_inv Try.underlying3 hkey; exact ⟨x, rfl⟩)
    (fun v y hv => by obtain ⟨p, t, u, f, g, rfl, _⟩ := itElem_inv hv; exact ⟨⟨p, t, u, f, g⟩, rfl⟩)
    b r n D left cnt hit h hDone (fun x c kl y w' cnt' hkey hlk hv hat hrg hlt hgr hsz hen => by
      obtain ⟨x', ex, rfl, hwx⟩ := Maps.keyOf_int_inv Try.underlying3 hkey
      cases ex
      obtain ⟨p, t, u, f, g, ec, rfl⟩ := itElem_inv hv
      obtain rfl : c = ⟨p, t, u, f, g⟩ := by
        cases c
        simp [itVal] at ec
        simp [ec]
      exact hMore x ⟨p, t, u, f, g⟩ w' cnt' hwx hlk hat hrg hlt hgr hsz hen)
end Go.Proofs.Ytokemjdfcifbbaa.Gt
