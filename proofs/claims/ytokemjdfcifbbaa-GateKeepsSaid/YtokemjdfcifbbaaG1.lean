/- Walks of package gate: New, Waits, Drop, Offer over a map that reads as a datum. -/
import Derived.Test.YtokemjdfcifbbaaProg
import Derived.Maps.OwnSet
import Derived.WalkKit
import Derived.WalkSpells
import Derived.Below
import Derived.Test.YtokemjdfcifbbaaQQA0
namespace Go.Proofs.Ytokemjdfcifbbaa.Gt
open Go Go.RowKit Go.Maps
set_option linter.unusedVariables false

theorem law3 : Keyed Try.prog 3 := int_keyed Try.underlying3
theorem zero40 (w : World) : (zeroValue 40).run Try.prog w = .ok (.agg #[.int .i64 0, .int .i64 0, .int .i64 0, .bool false, .bool false]) w := by kernel_rfl

/-- An intent. -/
abbrev It := QQA.S40
def itVal (x : It) : Value := .agg #[.int .i64 x.f0, .int .i64 x.f1, .int .i64 x.f2, .bool x.f3, .bool x.f4]
def itData {H : Type} (x : It) : DataW H := .agg [.lit (.int .i64 x.f0), .lit (.int .i64 x.f1), .lit (.int .i64 x.f2), .lit (.bool x.f3), .lit (.bool x.f4)]
/-- How an intent in the map reads. -/
def itElem {H : Type} : Value → Option (DataW H × List MemPlace)
  | .agg cs => match cs.toList with
    | [.int .i64 p, .int .i64 t, .int .i64 u, .bool f, .bool b] => some (itData ⟨p, t, u, f, b⟩, [])
    | _ => none
  | _ => none
theorem itElem_val {H : Type} (x : It) : itElem (H := H) (itVal x) = some (itData x, []) := rfl
theorem itElem_inv {H : Type} {v : Value} {z : DataW H × List MemPlace} (h : itElem v = some z) : ∃ p t u f b, v = .agg #[.int .i64 p, .int .i64 t, .int .i64 u, .bool f, .bool b] ∧ z = (itData ⟨p, t, u, f, b⟩, []) := by
  unfold itElem at h
  cases v <;> simp at h
  rename_i cs
  split at h
  · rename_i p t u f b e
    obtain rfl : cs = #[.int .i64 p, .int .i64 t, .int .i64 u, .bool f, .bool b] := by
      rw [← Array.toArray_toList (xs := cs), e]
    exact ⟨p, t, u, f, b, rfl, by simpa using h.symm⟩
  · cases h

abbrev Dt := DataW Unit

theorem waits_calls (gb mb n : Nat) (D : Dt) (x : Int) (w : World) (c0 : w.cell? ⟨gb, 0, none⟩ = some (.map (some mb))) (hown : w.ownsMap Try.prog 3 itElem mb n D) (hwx : (Lit.int .i64 x).wf = true) :
    Calls Try.prog 11 #[.pointer (some ⟨gb, 0, none⟩), .int .i64 x] w fun e w' => e = .returned (.bool (Maps.has D (.int .i64 x))) ∧ Below w.heap.size w w' := by
  have hkey := keyOf_int_mk Try.underlying3 hwx
  have HB := Below.refl w.heap.size w
  go_enter Try.func11, Try.ntmps11
  go_wp2_with (first
    | (at_lookup; refine wpList_lookup_own_ok _ rfl _ _ 46 rfl 3 40 law3 Try.underlying46 itElem (zero40 _) (itData ⟨0, 0, 0, false, false⟩) [] (itElem_val ⟨0, 0, 0, false, false⟩) mb n D rfl (by first | exact hown | exact hown.alloc _) _ _ rfl hkey ?_; intro v ps hv; obtain ⟨p', t', u', f', b', rfl, hit⟩ := itElem_inv hv; clear hv)
    | go_in)
  go_ret
  refine ⟨rfl, ?_⟩
  exact HB.alloc (Nat.le_refl _) _

/-- A map keeps what it reads as while only new blocks are laid. -/
theorem own_below {w w1 : World} {mb n : Nat} {D : Dt} (h : w.ownsMap Try.prog 3 itElem mb n D) (hb : Below w.heap.size w w1) : w1.ownsMap Try.prog 3 itElem mb n D := by
  obtain ⟨es, clock, e, r⟩ := h
  have hlt : mb < w.heap.size := (Array.getElem?_eq_some_iff.1 e).1
  exact ⟨es, clock, (hb.block mb hlt).trans e, r⟩
theorem cell_lt {w : World} {gb : Nat} {v : Value} (h : w.cell? ⟨gb, 0, none⟩ = some v) : gb < w.heap.size := by
  rcases Nat.lt_or_ge gb w.heap.size with h' | h'
  · exact h'
  · exfalso
    unfold World.cell? at h
    simp [Array.getElem?_eq_none h'] at h

theorem drop_calls (gb mb n : Nat) (D : Dt) (x : Int) (w : World) (c0 : w.cell? ⟨gb, 0, none⟩ = some (.map (some mb))) (hown : w.ownsMap Try.prog 3 itElem mb n D) (hwx : (Lit.int .i64 x).wf = true) :
    Calls Try.prog 14 #[.pointer (some ⟨gb, 0, none⟩), .int .i64 x] w fun e w' => e = .returned (.bool (Maps.has D (.int .i64 x))) ∧ w'.ownsMap Try.prog 3 itElem mb n (D.del (.int .i64 x)) ∧ ∃ w1, Below w.heap.size w w1 ∧ w1.mapTurned w' mb := by
  have hkey := keyOf_int_mk Try.underlying3 hwx
  have hlt := cell_lt c0
  go_enter Try.func14, Try.ntmps14
  go_wp2_with (first
    | (go_at_call 11; (with_reducible refine (waits_calls gb mb n D x _ c0 hown hwx).mono ?_); rintro e w1 ⟨rfl, hb⟩; have c1 := (hb.cell (p := ⟨gb, 0, none⟩) hlt).trans c0; have hown1 := own_below hown hb)
    | (at_delete; refine wpList_delete_own _ rfl _ _ 46 3 rfl 40 law3 Try.underlying46 itElem mb n D rfl hown1 _ _ rfl hkey ?_; intro w2 hown2 hturn2)
    | go_in)
  go_ret
  exact ⟨rfl, hown2, w1, hb, hturn2⟩

theorem new_calls (w : World) : Calls Try.prog 8 #[] w fun e w' => ∃ gb mb, e = .returned (.pointer (some ⟨gb, 0, none⟩)) ∧ w'.cell? ⟨gb, 0, none⟩ = some (.map (some mb)) ∧ w'.ownsMap Try.prog 3 (itElem (H := Unit)) mb 0 (.map []) ∧ Below w.heap.size w w' ∧ gb ≠ mb ∧ w.heap.size ≤ gb ∧ w.heap.size ≤ mb := by
  have hmm := @run_makeMap Try.prog
  go_enter Try.func8, Try.ntmps8
  go_wp2
  go_ret
  refine ⟨w.heap.size + 1, w.heap.size, rfl, ?_, ?_, ?_, by omega, by omega, Nat.le_refl _⟩
  · have h := (Go.MapKept.heap_alloc (w.alloc (.map #[] 0)) (.cells #[Value.map (some w.heap.size)] 48)).1
    have e : (w.alloc (.map #[] 0)).heap.size = w.heap.size + 1 := by simp
    rw [e] at h
    unfold World.cell?
    simp only []
    rw [h]
    rfl
  · exact (World.ownsMap_made w Try.prog 3 itElem).alloc _
  · exact ((Below.refl w.heap.size w).alloc (Nat.le_refl _) _).alloc (by simp) _

def within (n most : Int) : Int := if n < -most then -most else if most < n then most else n
def legal (p t u : Int) (f b : Bool) : It := ⟨p, within t 100, within u 8, f, b⟩

theorem offer_there (gb mb n : Nat) (D : Dt) (x t u : Int) (f b : Bool) (w : World) (c0 : w.cell? ⟨gb, 0, none⟩ = some (.map (some mb))) (hown : w.ownsMap Try.prog 3 itElem mb n D) (hwx : (Lit.int .i64 x).wf = true) (hh : Maps.has D (.int .i64 x) = true) :
    Calls Try.prog 10 #[.pointer (some ⟨gb, 0, none⟩), .int .i64 x, .agg #[.int .i64 t, .int .i64 u, .bool f, .bool b]] w fun e w' =>
      e = .returned (.int .i64 180) ∧ w'.ownsMap Try.prog 3 itElem mb n D ∧ Below w.heap.size w w' := by
  have hkey := keyOf_int_mk Try.underlying3 hwx
  have hlt := cell_lt c0
  go_enter Try.func10, Try.ntmps10
  go_wp2_with (first
    | (go_at_call 11; (with_reducible refine (waits_calls gb mb n D x _ ?c0 ?own hwx).mono ?_); (case c0 => exact (((Below.refl w.heap.size w).alloc (Nat.le_refl _) _).cell (p := ⟨gb, 0, none⟩) hlt).trans c0); (case own => exact hown.alloc _); rw [hh]; rintro e w1 ⟨rfl, hb'⟩; have hb := ((Below.refl w.heap.size w).alloc (Nat.le_refl _) _).trans (hb'.mono (by simp)); clear hb'; have c1 := (hb.cell (p := ⟨gb, 0, none⟩) hlt).trans c0; have hown1 := own_below hown hb)
    | go_in)
  go_ret
  exact ⟨rfl, hown1, hb⟩
end Go.Proofs.Ytokemjdfcifbbaa.Gt
