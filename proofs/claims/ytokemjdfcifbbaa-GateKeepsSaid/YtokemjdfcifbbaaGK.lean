/- Rows that are kept: plain lemmas for GateKeeps. -/
import Derived.Test.YtokemjdfcifbbaaGH
namespace Go.Proofs.Ytokemjdfcifbbaa.Gt
open Go Go.RowKit Go.Maps Go.Proofs.YtokemjdfcifbbaaW.PrintWords Go.Proofs.YtokemjdfcifbbaaW.PrintMore
set_option linter.unusedVariables false
set_option linter.unusedSimpArgs false

/-- A slice among slices. -/
structure Sl where
  A : Option Addr
  n : Nat
  c : Nat
def Sl.val (s : Sl) : Value := .slice s.A s.n s.c
theorem slv_one (s : Sl) : s.val.oneCell' = true := rfl
def kS : Kd Sl := Kd.scalar Sl.val slv_one
theorem info27 : (Try.prog.info? 27).map (fun i => (i.zero, i.size, i.bytes)) = some (some (.slice none 0 0), 1, 24) := by kernel_rfl
/-- The mark of the i-th list. -/
def mrk (i : Nat) : It := ⟨-1000 - (i : Int), 0, 0, false, false⟩
/-- n cells of a row of one's own that hold a mark. -/
def KR (w : World) (B : Nat) (A : Option Addr) (n : Nat) (x : It) : Prop := ∃ m c, n ≤ m ∧ QQA.k40.R 40 w B (fun _ => True) (.slice A m c) (List.replicate m x)
theorem KR.row {w : World} {B n : Nat} {A : Option Addr} {x : It} (h : KR w B A n x) : QQA.k40.C w A n (List.replicate n x) := by
  obtain ⟨m, c, hn, hR⟩ := h
  have h1 := Kd.R_take hR (m := n) (by rw [List.length_replicate]; exact hn)
  rw [List.take_replicate, Nat.min_eq_left hn] at h1
  have h2 := R_row h1
  rw [List.length_replicate] at h2
  exact h2
/-- The block of a row of one's own, if it has one. -/
theorem KR.form {w : World} {B n : Nat} {A : Option Addr} {x : It} (h : KR w B A n x) : (A = none ∧ n = 0) ∨ ∃ g, A = some ⟨g, 0, none⟩ ∧ B ≤ g ∧ g < w.heap.size ∧ ∃ cells, w.heap[g]? = some (.cells cells 40 (0, 0)) := by
  obtain ⟨m, c, hn, h0, inner, ⟨hl, hd⟩, hr⟩ := h
  rcases hd with ⟨e, hz⟩ | ⟨g, cap, cur, e, hb, hg, _⟩
  · injection e with e1 e2 e3
    exact .inl ⟨e1, by omega⟩
  · injection e with e1 e2 e3
    exact .inr ⟨g, e1, hb, (Array.getElem?_eq_some_iff.1 hg).1, cur, hg⟩
theorem KR.none_ (w : World) (B : Nat) (x : It) : KR w B none 0 x := ⟨0, 0, Nat.le_refl _, Kd.R_nil _ _ _ _ _⟩
/-- Only a block that is not the row's has turned. -/
theorem KR.move {w w' : World} {B n : Nat} {A : Option Addr} {x : It} (h : KR w B A n x) (hm : ∀ g, A = some ⟨g, 0, none⟩ → w'.heap[g]? = w.heap[g]?) : KR w' B A n x := by
  rcases h.form with ⟨rfl, rfl⟩ | ⟨g, rfl, hb, hlt, cells, hc⟩
  · exact KR.none_ _ _ _
  · obtain ⟨m, c, hn, hR⟩ := h
    refine ⟨m, c, hn, Kd.R_mono (ok' := fun _ => True) (Kd.R_move (ok := fun k => some k = (Value.slice (some ⟨g, 0, none⟩) m c).ownBlock) (Kd.R_tight rfl hR) ?_) (fun _ _ => trivial)⟩
    intro k hk
    simp only [Value.ownBlock, Option.some.injEq] at hk
    rw [hk]
    exact hm g rfl
theorem KR.below {w w' : World} {B n : Nat} {A : Option Addr} {x : It} (h : KR w B A n x) (hb : Below w.heap.size w w') : KR w' B A n x :=
  h.move fun g e => by
    rcases h.form with ⟨e1, _⟩ | ⟨g', e1, _, hlt, _⟩
    · rw [e1] at e; cases e
    · rw [e1] at e
      injection e with e
      injection e with e
      subst e
      exact hb.block _ hlt
theorem KR.belowB {w w' : World} {B n N : Nat} {A : Option Addr} {x : It} (h : KR w B A n x) (hb : Below N w w') (hN : ∀ g, A = some ⟨g, 0, none⟩ → g < N) : KR w' B A n x :=
  h.move fun g e => hb.block g (hN g e)
theorem KR.lower {w : World} {B B' n : Nat} {A : Option Addr} {x : It} (h : KR w B A n x) (hB : B' ≤ B) : KR w B' A n x := by
  obtain ⟨m, c, hn, hR⟩ := h
  exact ⟨m, c, hn, Kd.R_lower hR hB⟩
/-- A map has turned. -/
theorem KR.map {w w' : World} {B n m : Nat} {A : Option Addr} {x : It} {es : Array MapEntry} {clock : Nat} (h : KR w B A n x) (hm : w.heap[m]? = some (.map es clock)) (hg : w.grownBy w' (some m)) : KR w' B A n x :=
  h.move fun g e => by
    rcases h.form with ⟨e1, _⟩ | ⟨g', e1, _, hlt, cells, hc⟩
    · rw [e1] at e; cases e
    · rw [e1] at e
      injection e with e
      injection e with e
      subst e
      refine hg.block _ hlt (fun e => ?_)
      injection e with e
      subst e
      rw [hm] at hc
      cases hc
theorem KR.gate {w w' : World} {B n gb mb k : Nat} {A : Option Addr} {x : It} {G : List It} (h : KR w B A n x) (hG : GateAt w gb mb k G) (hg : w.grownBy w' (some mb)) : KR w' B A n x := by
  obtain ⟨es, clock, hm⟩ := hG.mapped
  exact h.map hm hg
/-- A row of slices has turned. -/
theorem KR.rows {w w' : World} {B n Bs : Nat} {A : Option Addr} {x : It} {v : Value} {S : List Sl} (h : KR w B A n x) (hS : kS.R 27 w Bs (fun _ => True) v S) (hg : w.grownBy w' v.ownBlock) : KR w' B A n x :=
  h.move fun g e => by
    rcases h.form with ⟨e1, _⟩ | ⟨g', e1, _, hlt, cells, hc⟩
    · rw [e1] at e; cases e
    · rw [e1] at e
      injection e with e
      injection e with e
      subst e
      refine hg.block _ hlt (fun e => ?_)
      obtain ⟨inner, ho⟩ := Kd.R_own hS
      obtain ⟨cells', hc'⟩ := own_typed ho _ e.symm
      rw [hc'] at hc
      injection hc with hc
      injection hc with _ hc
      exact absurd hc (by decide)
theorem RS_base {w : World} {base : Nat} {v : Value} {xs : List Sl} (h : kS.R 27 w base (fun _ => True) v xs) : ∀ k, v.ownBlock = some k → base ≤ k ∧ k < w.heap.size := by
  obtain ⟨inner, ho⟩ := Kd.R_own h
  exact fun k hk => ⟨own_base ho k hk, own_lt ho k hk⟩
theorem RS_gate {w w' : World} {Bs gb mb k : Nat} {v : Value} {S : List Sl} {G : List It} (h : kS.R 27 w Bs (fun _ => True) v S) (hG : GateAt w gb mb k G) (hg : w.grownBy w' (some mb)) : kS.R 27 w' Bs (fun _ => True) v S :=
  Kd.R_mono (ok' := fun _ => True) (Kd.R_grown (Kd.R_bound h) hg (fun k hk e => by
    obtain ⟨_, _, _, q, _, cells, hc⟩ := hk
    obtain ⟨es, clock, hm⟩ := hG.mapped
    injection e with e
    subst e
    rw [hm] at hc
    cases hc)) (fun _ _ => trivial)
theorem RS_other {w w' : World} {Bs : Nat} {v u : Value} {S : List Sl} (h : kS.R 27 w Bs (fun _ => True) v S) (hg : w.grownBy w' u.ownBlock) (hne : ∀ k, v.ownBlock = some k → u.ownBlock ≠ some k) : kS.R 27 w' Bs (fun _ => True) v S :=
  Kd.R_mono (ok' := fun _ => True) (Kd.R_grown (ok := fun k => some k = v.ownBlock) (Kd.R_tight rfl h) hg (fun k hk e => hne k hk.symm e.symm)) (fun _ _ => trivial)

/-- append of one more mark: where the row has moved, all that was there stands. -/
theorem append_moved {w w' : World} {base n : Nat} {v v' : Value} {xs : List Value} {ty : TypeId} {p : Addr} {c : Nat} {news : List Value} (hown : w.ownsRow base 40 5 v n xs) (hl : news.length = 1 * 5) (hnews : ∀ j u, news[j]? = some u → w.cell? (p.add j) = some u) (h1 : ∀ u ∈ news, u.oneCell' = true)
    (hb : (n + 1) * 32 ≤ 140737488355328) (hrun : (Builtin.append_ #[27, 27] ty #[v, .slice (some p) 1 c]).run Try.prog w = .ok v' w') : v'.ownBlock = v.ownBlock ∨ w.grownBy w' none := by
  obtain ⟨i, hi, hz⟩ := Option.map_eq_some_iff.1 info40
  simp only [Prod.mk.injEq] at hz
  obtain ⟨hz0, hz1, hz2⟩ := hz
  have news_grown : ∀ (o : Obj), w.grownBy (w.drew.alloc o) none := fun o => ⟨rfl, rfl, rfl, by simp, fun k hk _ => heap_alloc_old w.drew o hk⟩
  rcases hown.2 with ⟨rfl, rfl⟩ | ⟨g, cap, cur, rfl, hbg, hg, hnc, hcm, hcs, htake⟩
  · have hr := run_append_nil (P := Try.prog) w 27 ty 40 i _ Try.underlying27 hi hz0 p 1 c news (by rw [hz1]; exact hl) hnews (by omega) (by omega) (by rw [hz2]; omega)
    rw [hr] at hrun
    injection hrun with e1 e2
    subst e2
    exact .inr (news_grown _)
  · by_cases hroom : n + 1 ≤ cap
    · have hr := run_append_room (P := Try.prog) w 27 ty 40 i Try.underlying27 hi g n cap cur hg p 1 c news (by rw [hz1]; exact hl) hnews h1 hroom (by rw [hz1, hl, hcs, ← Nat.add_mul]; exact Nat.mul_le_mul_right _ hroom)
      rw [hr] at hrun
      injection hrun with e1 e2
      subst e1
      exact .inl rfl
    · have hr := run_append_grow (P := Try.prog) w 27 ty 40 i _ Try.underlying27 hi hz0 ⟨g, 0, none⟩ n cap xs (by rw [hz1]; exact hown.1) (hown.cells (g := g) rfl) p 1 c news (by rw [hz1]; exact hl) hnews (by omega) (by omega) (growslice_fits (by omega) (by rw [hz2]; exact hb))
      rw [hr] at hrun
      injection hrun with e1 e2
      subst e2
      exact .inr (news_grown _)
end Go.Proofs.Ytokemjdfcifbbaa.Gt
