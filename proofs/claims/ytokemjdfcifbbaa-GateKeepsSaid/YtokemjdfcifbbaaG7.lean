/- The gate as a sorted list: New, Waits, Offer, Drop. -/
import Derived.Test.YtokemjdfcifbbaaG2
import Derived.Test.YtokemjdfcifbbaaG3
import Derived.Test.YtokemjdfcifbbaaQQA2
namespace Go.Proofs.Ytokemjdfcifbbaa.Gt
open Go Go.RowKit Go.Maps Go.Proofs.YtokemjdfcifbbaaW.PrintWords Go.Proofs.YtokemjdfcifbbaaW.PrintMore
set_option linter.unusedVariables false

structure GateAt (w : World) (gb mb n : Nat) (L : List It) : Prop where
  cell : w.cell? ⟨gb, 0, none⟩ = some (.map (some mb))
  own : w.ownsMap Try.prog 3 itElem mb n (GM L)
  srt : Srt L
  wf : ∀ x ∈ L, (Lit.int .i64 x.f0).wf = true

theorem GateAt.len {w : World} {gb mb n : Nat} {L : List It} (h : GateAt w gb mb n L) : L.length ≤ n := by
  obtain ⟨es, clock, hb, F, hs, e⟩ := h.own
  unfold GM at e
  injection e with e
  have h1 := congrArg List.length e
  rw [List.length_map] at h1
  have h2 : ∀ l : List (Lit × Dt), (l.foldr DataW.insert []).length = l.length := by
    have h3 : ∀ (x : Lit × Dt) (l : List (Lit × Dt)), (DataW.insert x l).length = l.length + 1 := by
      intro x l
      induction l with
      | nil => rfl
      | cons y r ih =>
        unfold DataW.insert
        split
        · rfl
        · simp [ih]
    intro l
    induction l with
    | nil => rfl
    | cons y r ih => simp [h3, ih]
  rw [h2, List.length_map] at h1
  simpa [h1] using hs
theorem GateAt.ne {w : World} {gb mb n : Nat} {L : List It} (h : GateAt w gb mb n L) : gb ≠ mb := by
  rintro rfl
  obtain ⟨es, clock, hb, _⟩ := h.own
  have := h.cell
  simp [World.cell?, hb] at this
theorem GateAt.ltg {w : World} {gb mb n : Nat} {L : List It} (h : GateAt w gb mb n L) : gb < w.heap.size := cell_lt h.cell
theorem GateAt.ltm {w : World} {gb mb n : Nat} {L : List It} (h : GateAt w gb mb n L) : mb < w.heap.size := by
  obtain ⟨es, clock, hb, _⟩ := h.own
  exact (Array.getElem?_eq_some_iff.1 hb).1
theorem GateAt.move {w w' : World} {gb mb n : Nat} {L : List It} (h : GateAt w gb mb n L) (hg : w'.heap[gb]? = w.heap[gb]?) (hm : w'.heap[mb]? = w.heap[mb]?) : GateAt w' gb mb n L := by
  refine ⟨(World.cell?_of_block (w := w) (a := ⟨gb, 0, none⟩) hg).trans h.cell, ?_, h.srt, h.wf⟩
  obtain ⟨es, clock, e, r⟩ := h.own
  exact ⟨es, clock, hm.trans e, r⟩
theorem GateAt.below {w w' : World} {gb mb n : Nat} {L : List It} (h : GateAt w gb mb n L) (hb : Below w.heap.size w w') : GateAt w' gb mb n L :=
  h.move (hb.block gb h.ltg) (hb.block mb h.ltm)
theorem GateAt.grown {w w' : World} {gb mb n : Nat} {L : List It} {row : Option Nat} (h : GateAt w gb mb n L) (hb : w.grownBy w' row) (h1 : some gb ≠ row) (h2 : some mb ≠ row) : GateAt w' gb mb n L :=
  h.move (hb.block gb h.ltg h1) (hb.block mb h.ltm h2)
theorem GateAt.mono {w : World} {gb mb n n' : Nat} {L : List It} (h : GateAt w gb mb n L) (hn : n ≤ n') : GateAt w gb mb n' L := by
  obtain ⟨es, clock, e, F, hs, r⟩ := h.own
  exact ⟨h.cell, ⟨es, clock, e, F, Nat.le_trans hs hn, r⟩, h.srt, h.wf⟩
theorem grown_of_below {w w' : World} (h : Below w.heap.size w w') (row : Option Nat) : w.grownBy w' row := ⟨h.os, h.tape, h.output, h.size, fun i hi _ => h.block i hi⟩
theorem grown_two {w w1 w' : World} {mb : Nat} (hb : Below w.heap.size w w1) (ht : w1.mapTurned w' mb) : w.grownBy w' (some mb) :=
  (grown_of_below hb (some mb)).andThen ht.grown (fun j hj => .inr hj)
theorem turned_cell {w w1 w' : World} {gb mb : Nat} {v : Value} (h : w.cell? ⟨gb, 0, none⟩ = some v) (hg : w.grownBy w' (some mb)) (hne : gb ≠ mb) : w'.cell? ⟨gb, 0, none⟩ = some v :=
  hg.cell h (by simpa using hne)

theorem g_new (w : World) : Calls Try.prog 8 #[] w fun e w' => ∃ gb mb, e = .returned (.pointer (some ⟨gb, 0, none⟩)) ∧ GateAt w' gb mb 0 [] ∧ Below w.heap.size w w' ∧ w.heap.size ≤ gb ∧ w.heap.size ≤ mb := by
  refine (new_calls w).mono ?_
  rintro e w' ⟨gb, mb, rfl, hc, ho, hb, hne, h1, h2⟩
  exact ⟨gb, mb, rfl, ⟨hc, ho, List.Pairwise.nil, fun x hx => by cases hx⟩, hb, h1, h2⟩

theorem g_waits {w : World} {gb mb n : Nat} {L : List It} (h : GateAt w gb mb n L) (x : Int) (hwx : (Lit.int .i64 x).wf = true) :
    Calls Try.prog 11 #[.pointer (some ⟨gb, 0, none⟩), .int .i64 x] w fun e w' => e = .returned (.bool (hasP L x)) ∧ Below w.heap.size w w' := by
  have hc := waits_calls gb mb n (GM L) x w h.cell h.own hwx
  rw [has_GM] at hc
  exact hc

theorem g_drop {w : World} {gb mb n : Nat} {L : List It} (h : GateAt w gb mb n L) (x : Int) (hwx : (Lit.int .i64 x).wf = true) :
    Calls Try.prog 14 #[.pointer (some ⟨gb, 0, none⟩), .int .i64 x] w fun e w' => e = .returned (.bool (hasP L x)) ∧ GateAt w' gb mb n (dropP L x) ∧ w.grownBy w' (some mb) := by
  have hc := drop_calls gb mb n (GM L) x w h.cell h.own hwx
  rw [has_GM, del_GM] at hc
  refine hc.mono ?_
  rintro e w' ⟨rfl, ho, w1, hb, ht⟩
  have hg := grown_two hb ht
  exact ⟨rfl, ⟨turned_cell (w1 := w1) h.cell hg h.ne, ho, h.srt.drop x, fun z hz => h.wf z (mem_drop.1 hz).1⟩, hg⟩

theorem wrap_id {x : Int} (h : -9223372036854775808 ≤ x) (h2 : x ≤ 9223372036854775807) : wrap64 x = x := by unfold wrap64; omega
/-- What Legal makes of a command. -/
def cl (n m : Int) : Int := mn (mx n (-m)) m
def legI (p t u : Int) (f b : Bool) : It := ⟨p, cl t 100, cl u 8, f, b⟩
theorem legal_f (p t u : Int) (f b : Bool) : QQA.gate_Legal.f p t u f b = some (p, cl t 100, cl u 8, f, b) := by
  simp only [QQA.gate_Legal.f, QQA.gate_within.f, Option.bind_some]
  rw [show wrap64 (-100) = -100 from wrap_id (by omega) (by omega), show wrap64 (-8) = -8 from wrap_id (by omega) (by omega)]
  rfl
theorem g_legal (p t u : Int) (f b : Bool) (w : World) : Calls Try.prog 18 #[.int .i64 p, .agg #[.int .i64 t, .int .i64 u, .bool f, .bool b]] w fun e w' => e = .returned (itVal (legI p t u f b)) ∧ Below w.heap.size w w' :=
  (QQA.gate_Legal.calls p t u f b p (cl t 100) (cl u 8) f b w (legal_f p t u f b)).mono fun e w' h => h

def offerL (L : List It) (y : It) : List It := if hasP L y.f0 then L else ins y L

theorem g_offer {w : World} {gb mb n : Nat} {L : List It} (h : GateAt w gb mb n L) (hn : n < maxLen) (x t u : Int) (f b : Bool) (hwx : (Lit.int .i64 x).wf = true) :
    Calls Try.prog 10 #[.pointer (some ⟨gb, 0, none⟩), .int .i64 x, .agg #[.int .i64 t, .int .i64 u, .bool f, .bool b]] w fun e w' =>
      e = .returned (.int .i64 (if hasP L x then 180 else 0)) ∧ GateAt w' gb mb (n + 1) (offerL L (legI x t u f b)) ∧ w.grownBy w' (some mb) := by
  cases hh : hasP L x
  · have hc := offer_new gb mb n (GM L) x t u f b (legI x t u f b) w (fun w => g_legal x t u f b w) h.cell h.own hn hwx (by rw [has_GM]; exact hh)
    refine hc.mono ?_
    rintro e w' ⟨rfl, ho, w1, hb, ht⟩
    have hg := grown_two hb ht
    have hput : (GM L).put (.int .i64 x) (itData (legI x t u f b)) = GM (ins (legI x t u f b) L) := put_GM (x := legI x t u f b) hh
    rw [hput] at ho
    have he : offerL L (legI x t u f b) = ins (legI x t u f b) L := by
      unfold offerL
      rw [if_neg]
      rw [show (legI x t u f b).f0 = x from rfl, hh]
      simp
    rw [he]
    refine ⟨rfl, ⟨turned_cell (w1 := w1) h.cell hg h.ne, ho, h.srt.ins hh, fun z hz => ?_⟩, hg⟩
    rcases mem_ins.1 hz with rfl | hz
    · exact hwx
    · exact h.wf z hz
  · have hc := offer_there gb mb n (GM L) x t u f b w h.cell h.own hwx (by rw [has_GM]; exact hh)
    refine hc.mono ?_
    rintro e w' ⟨rfl, ho, hb⟩
    have he : offerL L (legI x t u f b) = L := by
      unfold offerL
      rw [if_pos]
      exact hh
    rw [he]
    exact ⟨rfl, (h.below hb).mono (by omega), grown_of_below hb _⟩
end Go.Proofs.Ytokemjdfcifbbaa.Gt
