/- A script of steps that came in, opened. -/
import Derived.Test.YtokemjdfcifbbaaGB
import Derived.Deep.Slices
import Derived.ChangeArms
import Derived.SizedLaws
namespace Go.Proofs.Ytokemjdfcifbbaa.Gt
open Go Go.RowKit Go.ChangeShapes Go.WideShapes Go.Deep Go.Proofs.YtokemjdfcifbbaaW.PrintWords Go.Proofs.YtokemjdfcifbbaaW.PrintMore
set_option linter.unusedVariables false
set_option linter.unusedSimpArgs false

section
variable {H : Type} {enc : TypeId × Value → H} {W : World} {base : Nat} {spare : Nat → Bool} {held : Bool}
theorem open_cmd {n : Nat} {cs : List Value} {x : DataW H × List MemPlace} (h : DataW.trod enc Try.prog W base spare held n 31 cs = some x) (hl : cs.length = 4) :
    ∃ t u f b, cs = [.int .i64 t, .int .i64 u, .bool f, .bool b] := by
  obtain ⟨xs, k, _, _, _, hxl, hf⟩ := DataW.trod_struct Try.underlying31 h
  match cs, hl with
  | [v0, v1, v2, v3], _ =>
    have c3 : Try.prog.cellsOf 3 = 1 := by kernel_rfl
    have c4 : Try.prog.cellsOf 4 = 1 := by kernel_rfl
    have hx : xs.length = 4 := hxl
    match xs, hx with
    | [y0, y1, y2, y3], _ =>
      have g0 := hf 0 _ rfl
      have g1 := hf 1 _ rfl
      have g2 := hf 2 _ rfl
      have g3 := hf 3 _ rfl
      simp [c3, c4] at g0 g1 g2 g3
      obtain ⟨t, e0, _⟩ := DataW.trod_int Try.underlying3 g0
      obtain ⟨u, e1, _⟩ := DataW.trod_int Try.underlying3 g1
      obtain ⟨f, e2, _⟩ := DataW.trod_bool Try.underlying4 g2
      obtain ⟨b, e3, _⟩ := DataW.trod_bool Try.underlying4 g3
      exact ⟨t, u, f, b, by simp at e0 e1 e2 e3; simp [e0, e1, e2, e3]⟩
theorem open_step {n : Nat} {cs : List Value} {x : DataW H × List MemPlace} (h : DataW.trod enc Try.prog W base spare held n 33 cs = some x) (hl : cs.length = 6) :
    ∃ s : St, cs = [.int .i64 s.op, .int .i64 s.p, .int .i64 s.t, .int .i64 s.u, .bool s.f, .bool s.b] ∧ (Lit.int .i64 s.p).wf = true := by
  obtain ⟨xs, k, _, _, _, hxl, hf⟩ := DataW.trod_struct Try.underlying33 h
  match cs, hl with
  | [v0, v1, v2, v3, v4, v5], _ =>
    have c3 : Try.prog.cellsOf 3 = 1 := by kernel_rfl
    have c31 : Try.prog.cellsOf 31 = 4 := by kernel_rfl
    have hx : xs.length = 3 := hxl
    match xs, hx with
    | [y0, y1, y2], _ =>
      have g0 := hf 0 _ rfl
      have g1 := hf 1 _ rfl
      have g2 := hf 2 _ rfl
      simp [c3, c31] at g0 g1 g2
      obtain ⟨o, e0, _⟩ := DataW.trod_int Try.underlying3 g0
      obtain ⟨p, e1, _, hw⟩ := DataW.trod_int Try.underlying3 g1
      obtain ⟨t, u, f, b, e2⟩ := open_cmd g2 rfl
      exact ⟨⟨o, p, t, u, f, b⟩, by simp at e0 e1 e2; simp [e0, e1, e2], hw⟩
theorem open_steps {fuel : Nat} {cs : List Value} {x : DataW H × List MemPlace} (h : DataW.trod enc Try.prog W base spare held fuel 22 cs = some x) :
    cs = [.slice none 0 0] ∨ ∃ (a : Addr) (cap : Nat) (l : List St), cs = [.slice (some a) l.length cap] ∧ l.length ≤ cap ∧ cap ≤ maxLen ∧ Kd.C k33 W (some a) l.length l ∧ ∀ s ∈ l, (Lit.int .i64 s.p).wf = true := by
  rcases open_slice Try.underlying22 h with ⟨h0, _⟩ | ⟨a, len, cap, m, n, D, Pl, rfl, hb, hl, hm, hmm, rfl, hx⟩
  · exact .inl h0
  right
  have hlm : len ≤ m := by rw [hmm]; split <;> omega
  have c33 : Try.prog.cellsOf 33 = 6 := by kernel_rfl
  have each : ∀ i, i < m → ∃ s : St, (Lit.int .i64 s.p).wf = true ∧ ∀ j u, [Value.int .i64 s.op, .int .i64 s.p, .int .i64 s.t, .int .i64 s.u, .bool s.f, .bool s.b][j]? = some u → W.cell? (a.add (i * 6 + j)) = some u := by
    intro i hi
    obtain ⟨cs', h1, h2⟩ := hx i hi
    rw [c33] at h1
    obtain ⟨_, hlen, hcell⟩ := World.cells?_some h1
    obtain ⟨s, rfl, hw⟩ := open_step h2 hlen
    refine ⟨s, hw, fun j u hu => ?_⟩
    have hj : j < 6 := (List.getElem?_eq_some_iff.1 hu).1
    have e := hcell j hj
    rw [Go.Deep.add_add] at e
    rw [e]
    exact hu
  have : Inhabited St := ⟨z33⟩
  obtain ⟨q, hq⟩ := choose_lt (fun i hi => each i (Nat.lt_of_lt_of_le hi hlm))
  refine ⟨a, cap, (List.range len).map q, by simp, by simpa using hl, hm, ⟨rfl, by simp; have hM : maxLen ≤ 9223372036854775807 := (by decide); omega, fun _ => ⟨a, rfl, fun j p hj => ?_⟩⟩, ?_⟩
  · have hlt : j < len := by simpa using (List.getElem?_eq_some_iff.1 hj).1
    have hp : p = q j := by
      rw [List.getElem?_map, List.getElem?_range hlt] at hj
      exact (Option.some.inj hj).symm
    subst hp
    exact ⟨_, rfl, k33_mk W (q j), (hq j hlt).2⟩
  · intro s hs
    obtain ⟨i, hi, rfl⟩ := List.mem_map.1 hs
    exact (hq i (List.mem_range.1 hi)).1
/-- A script is no longer than its weight allows. -/
theorem sized_steps {a : Option Addr} {len cap : Nat} {d : DataW H} {ps : List MemPlace} {ts : List TypeId} {ds : List (DataW H)} {j : Nat}
    (hsz : (DataW.weightsEach Try.prog ts ds).all (· ≤ reachBytes) = true) (ht : ts[j]? = some 22) (hd : ds[j]? = some d)
    (h : DataW.Trod enc Try.prog W base spare held 22 (.slice a len cap) d ps) : len * 40 ≤ 140737488351232 := by
  obtain ⟨fuel, hf⟩ := h
  rcases open_slice Try.underlying22 hf with ⟨hcs, _⟩ | ⟨x, l, c, m, n, D, Pl, hcs, hb, hl, hm, hmm, hx, _⟩
  · simp [Value.cells] at hcs
    obtain ⟨rfl, rfl, rfl⟩ := hcs
    simp
  · simp [Value.cells] at hcs
    obtain ⟨rfl, rfl, rfl⟩ := hcs
    obtain ⟨hx, _⟩ := Prod.mk.inj hx
    subst hx
    have z := sized_slice hsz ht hd Try.underlying22
    rw [show Try.prog.bytesOf 33 = 40 by kernel_rfl, List.length_map, List.length_range, List.length_map, List.length_range] at z
    have hr : reachBytes = 140737488351232 := by decide
    rw [hr] at z
    have := Nat.mul_le_mul_right 40 (Nat.le_add_right len (m - len))
    omega
/-- The script that came in, as a list. -/
theorem script_in {a : Option Addr} {len cap : Nat} {d : DataW H} {ps : List MemPlace}
    (h : DataW.Trod enc Try.prog W base spare held 22 (.slice a len cap) d ps) : ∃ l : List St, len = l.length ∧ l.length ≤ cap ∧ Kd.C k33 W a l.length l ∧ ∀ s ∈ l, (Lit.int .i64 s.p).wf = true := by
  obtain ⟨fuel, hf⟩ := h
  rcases open_steps hf with hcs | ⟨x, c, l, hcs, hl, _, hC, hw⟩
  · simp [Value.cells] at hcs
    obtain ⟨rfl, rfl, rfl⟩ := hcs
    exact ⟨[], rfl, Nat.le_refl _, Kd.C_nil _ _, fun _ h => by cases h⟩
  · simp [Value.cells] at hcs
    obtain ⟨rfl, rfl, rfl⟩ := hcs
    exact ⟨l, rfl, hl, hC, hw⟩
end
end Go.Proofs.Ytokemjdfcifbbaa.Gt
