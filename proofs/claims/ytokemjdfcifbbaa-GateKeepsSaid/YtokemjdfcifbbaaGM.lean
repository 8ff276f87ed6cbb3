/- What GateKeeps keeps. -/
import Derived.Test.YtokemjdfcifbbaaGL
namespace Go.Proofs.Ytokemjdfcifbbaa.Gt
open Go Go.RowKit Go.Maps Go.Proofs.YtokemjdfcifbbaaW.PrintWords Go.Proofs.YtokemjdfcifbbaaW.PrintMore
set_option linter.unusedVariables false
set_option linter.unusedSimpArgs false

/-- The two lists of lists, and what they lead to. -/
structure Keep (w : World) (Bs : Nat) (av mv : Value) (AS MS : List Sl) : Prop where
  ra : kS.R 27 w Bs (fun _ => True) av AS
  rm : kS.R 27 w Bs (fun _ => True) mv MS
  ne : ∀ j, av.ownBlock = some j → mv.ownBlock ≠ some j
  ka : ∀ (i : Nat) s, AS[i]? = some s → s.n ≤ s.c ∧ KR w Bs s.A s.n (mrk i)
  km : ∀ (i : Nat) s t, AS[i]? = some s → MS[i]? = some t → t.n = s.n + 40 ∧ t.n ≤ t.c ∧ KR w Bs t.A t.n (mrk i)
theorem Keep.below {w w' : World} {Bs : Nat} {av mv : Value} {AS MS : List Sl} (h : Keep w Bs av mv AS MS) (hb : Below w.heap.size w w') : Keep w' Bs av mv AS MS :=
  ⟨Kd.R_below h.ra hb, Kd.R_below h.rm hb, h.ne, fun i s hs => ⟨(h.ka i s hs).1, (h.ka i s hs).2.below hb⟩, fun i s t hs ht => ⟨(h.km i s t hs ht).1, (h.km i s t hs ht).2.1, (h.km i s t hs ht).2.2.below hb⟩⟩
theorem Keep.gate {w w' : World} {Bs gb mb k : Nat} {av mv : Value} {AS MS : List Sl} {G : List It} (h : Keep w Bs av mv AS MS) (hG : GateAt w gb mb k G) (hg : w.grownBy w' (some mb)) : Keep w' Bs av mv AS MS :=
  ⟨RS_gate h.ra hG hg, RS_gate h.rm hG hg, h.ne, fun i s hs => ⟨(h.ka i s hs).1, (h.ka i s hs).2.gate hG hg⟩, fun i s t hs ht => ⟨(h.km i s t hs ht).1, (h.km i s t hs ht).2.1, (h.km i s t hs ht).2.2.gate hG hg⟩⟩
theorem RS_far {wc w w' : World} {Bs : Nat} {v : Value} {S : List Sl} (hc : kS.R 27 wc Bs (fun _ => True) v S) (h : kS.R 27 w Bs (fun _ => True) v S) (hb : Below wc.heap.size w w') : kS.R 27 w' Bs (fun _ => True) v S :=
  Kd.R_mono (ok' := fun _ => True) (Kd.R_move (ok := fun k => some k = v.ownBlock) (Kd.R_tight rfl h) (fun k hk => hb.block k (RS_base hc k hk.symm).2)) (fun _ _ => trivial)
theorem KR.far {wc w w' : World} {Bs n : Nat} {A : Option Addr} {x : It} (hc : KR wc Bs A n x) (h : KR w Bs A n x) (hb : Below wc.heap.size w w') : KR w' Bs A n x :=
  h.move fun g e => by
    rcases hc.form with ⟨e1, _⟩ | ⟨g', e1, _, hlt, _⟩
    · rw [e1] at e; cases e
    · rw [e1] at e
      injection e with e
      injection e with e
      subst e
      exact hb.block _ hlt
/-- What was there when the last take began, is not touched. -/
theorem Keep.far {wc w w' : World} {Bs : Nat} {av mv : Value} {AS MS : List Sl} (hc : Keep wc Bs av mv AS MS) (h : Keep w Bs av mv AS MS) (hb : Below wc.heap.size w w') : Keep w' Bs av mv AS MS :=
  ⟨RS_far hc.ra h.ra hb, RS_far hc.rm h.rm hb, h.ne, fun i s hs => ⟨(h.ka i s hs).1, (hc.ka i s hs).2.far (h.ka i s hs).2 hb⟩, fun i s t hs ht => ⟨(h.km i s t hs ht).1, (h.km i s t hs ht).2.1, (hc.km i s t hs ht).2.2.far (h.km i s t hs ht).2.2 hb⟩⟩
/-- Lists and gates lie apart. -/
theorem gate_rows {w w' : World} {gb mb k Bs : Nat} {G : List It} {v : Value} {S : List Sl} (hG : GateAt w gb mb k G) (hS : kS.R 27 w Bs (fun _ => True) v S) (hg : w.grownBy w' v.ownBlock) (h1 : gb < Bs) (h2 : mb < Bs) : GateAt w' gb mb k G :=
  hG.grown hg (fun e => by have := (RS_base hS _ e.symm).1; omega) (fun e => by have := (RS_base hS _ e.symm).1; omega)
/-- A row of intents has turned. -/
theorem RS_ints {w w' : World} {Bs B : Nat} {v xv : Value} {S : List Sl} {xs : List It} (h : kS.R 27 w Bs (fun _ => True) v S) (hx : QQA.k40.R 40 w B (fun _ => True) xv xs) (hg : w.grownBy w' xv.ownBlock) : kS.R 27 w' Bs (fun _ => True) v S :=
  Kd.R_mono (ok' := fun _ => True) (Kd.R_grown (Kd.R_bound h) hg (fun k hk e => by
    obtain ⟨_, _, _, q, hq, cells, hc⟩ := hk
    obtain ⟨inner, ho⟩ := Kd.R_own hx
    obtain ⟨cells', hc'⟩ := own_typed ho k e.symm
    rw [hc'] at hc
    injection hc with hc
    injection hc with _ hc
    have e27 : q = 27 := by simpa [kS, Kd.scalar] using hq
    exact absurd (hc.trans e27) (by decide))) (fun _ _ => trivial)
/-- append(all, l). -/
theorem Keep.all {w w1 : World} {Bs : Nat} {av mv v1 : Value} {AS MS : List Sl} {A : Option Addr} {n c : Nat} (h : Keep w Bs av mv AS MS) (hlen : MS.length ≤ AS.length) (hl : KR w Bs A n (mrk AS.length)) (hnc : n ≤ c) (hR : kS.R 27 w1 Bs (fun _ => True) v1 (AS ++ [⟨A, n, c⟩])) (hg : w.grownBy w1 av.ownBlock) (hat : v1.ownBlock = av.ownBlock ∨ ∃ b, v1.ownBlock = some b ∧ w.heap.size ≤ b) : Keep w1 Bs v1 mv (AS ++ [⟨A, n, c⟩]) MS := by
  have hne : ∀ j, v1.ownBlock = some j → mv.ownBlock ≠ some j := by
    intro j hj hm
    rcases hat with e | ⟨b, e, hb⟩
    · exact h.ne j (by rw [← e]; exact hj) hm
    · rw [e] at hj
      injection hj with hj
      have := (RS_base h.rm j hm).2
      omega
  refine ⟨hR, RS_other h.rm hg (fun k hk e => h.ne k e hk), hne, fun i s hs => ?_, fun i s t hs ht => ?_⟩
  · rcases Nat.lt_or_ge i AS.length with hi | hi
    · rw [List.getElem?_append_left hi] at hs
      exact ⟨(h.ka i s hs).1, (h.ka i s hs).2.rows h.ra hg⟩
    · have hi2 : i < (AS ++ [(⟨A, n, c⟩ : Sl)]).length := (List.getElem?_eq_some_iff.1 hs).1
      have : i = AS.length := by simp at hi2; omega
      subst this
      rw [List.getElem?_append_right (Nat.le_refl _)] at hs
      simp at hs
      subst hs
      exact ⟨hnc, hl.rows h.ra hg⟩
  · have hi : i < AS.length := by
      have := (List.getElem?_eq_some_iff.1 ht).1
      omega
    rw [List.getElem?_append_left hi] at hs
    exact ⟨(h.km i s t hs ht).1, (h.km i s t hs ht).2.1, (h.km i s t hs ht).2.2.rows h.ra hg⟩
/-- append(more, x). -/
theorem Keep.more {w w1 : World} {Bs : Nat} {av mv v1 : Value} {AS MS : List Sl} {A A0 : Option Addr} {n c c0 : Nat} (h : Keep w Bs av mv (AS ++ [⟨A0, n, c0⟩]) MS) (hlen : AS.length = MS.length) (hl : KR w Bs A (n + 40) (mrk AS.length)) (hnc : n + 40 ≤ c) (hR : kS.R 27 w1 Bs (fun _ => True) v1 (MS ++ [⟨A, n + 40, c⟩])) (hg : w.grownBy w1 mv.ownBlock) (hat : v1.ownBlock = mv.ownBlock ∨ ∃ b, v1.ownBlock = some b ∧ w.heap.size ≤ b) : Keep w1 Bs av v1 (AS ++ [⟨A0, n, c0⟩]) (MS ++ [⟨A, n + 40, c⟩]) := by
  have hne : ∀ j, av.ownBlock = some j → v1.ownBlock ≠ some j := by
    intro j hj hm
    rcases hat with e | ⟨b, e, hb⟩
    · exact h.ne j hj (by rw [← e]; exact hm)
    · rw [e] at hm
      injection hm with hm
      have := (RS_base h.ra j hj).2
      omega
  refine ⟨RS_other h.ra hg (fun k hk => h.ne k hk), hR, hne, fun i s hs => ⟨(h.ka i s hs).1, (h.ka i s hs).2.rows h.rm hg⟩, fun i s t hs ht => ?_⟩
  rcases Nat.lt_or_ge i MS.length with hi | hi
  · rw [List.getElem?_append_left hi] at ht
    exact ⟨(h.km i s t hs ht).1, (h.km i s t hs ht).2.1, (h.km i s t hs ht).2.2.rows h.rm hg⟩
  · have hi2 : i < (MS ++ [(⟨A, n + 40, c⟩ : Sl)]).length := (List.getElem?_eq_some_iff.1 ht).1
    have e : i = MS.length := by simp at hi2; omega
    subst e
    rw [List.getElem?_append_right (Nat.le_refl _)] at ht
    simp at ht
    rw [List.getElem?_append_right (by omega)] at hs
    simp [hlen] at hs
    subst ht
    subst hs
    rw [← hlen]
    exact ⟨rfl, hnc, hl.rows h.rm hg⟩
/-- A row of slices has turned: a row of intents stands. -/
theorem R40_rows {w w' : World} {B Bs : Nat} {v av : Value} {xs : List It} {S : List Sl} (h : QQA.k40.R 40 w B (fun _ => True) v xs) (hS : kS.R 27 w Bs (fun _ => True) av S) (hg : w.grownBy w' av.ownBlock) : QQA.k40.R 40 w' B (fun _ => True) v xs :=
  Kd.R_mono (ok' := fun _ => True) (Kd.R_grown (ok := fun k => some k = v.ownBlock) (Kd.R_tight rfl h) hg (fun k hk e => by
    obtain ⟨inner, ho⟩ := Kd.R_own h
    obtain ⟨cells, hc⟩ := own_typed ho k hk.symm
    obtain ⟨inner', ho'⟩ := Kd.R_own hS
    obtain ⟨cells', hc'⟩ := own_typed ho' k e.symm
    rw [hc'] at hc
    injection hc with hc
    injection hc with _ hc
    exact absurd hc (by decide))) (fun _ _ => trivial)
theorem Keep.far2 {wc w w' : World} {Bs : Nat} {av mv v9 : Value} {AS MS : List Sl} {p : Sl} (hc : Keep wc Bs av mv AS MS) (h : Keep w Bs v9 mv (AS ++ [p]) MS) (hb : Below wc.heap.size w w') (hra : kS.R 27 w' Bs (fun _ => True) v9 (AS ++ [p])) (hl : p.n ≤ p.c ∧ KR w' Bs p.A p.n (mrk AS.length)) (hlen : AS.length = MS.length) : Keep w' Bs v9 mv (AS ++ [p]) MS := by
  refine ⟨hra, RS_far hc.rm h.rm hb, h.ne, fun i s hs => ?_, fun i s t hs ht => ?_⟩
  · rcases Nat.lt_or_ge i AS.length with hi | hi
    · have hs' := hs
      rw [List.getElem?_append_left hi] at hs'
      exact ⟨(h.ka i s hs).1, (hc.ka i s hs').2.far (h.ka i s hs).2 hb⟩
    · have hi2 : i < (AS ++ [p]).length := (List.getElem?_eq_some_iff.1 hs).1
      have e : i = AS.length := by simp at hi2; omega
      subst e
      rw [List.getElem?_append_right (Nat.le_refl _)] at hs
      simp at hs
      subst hs
      exact hl
  · have hi : i < AS.length := by
      have := (List.getElem?_eq_some_iff.1 ht).1
      omega
    have hs' := hs
    rw [List.getElem?_append_left hi] at hs'
    exact ⟨(h.km i s t hs ht).1, (h.km i s t hs ht).2.1, (hc.km i s t hs' ht).2.2.far (h.km i s t hs ht).2.2 hb⟩
theorem at_G40 {w : World} {g n : Nat} {xs : List It} (h : Kd.C QQA.k40 w (some ⟨g, 0, none⟩) n xs) (i : Int) (h0 : 0 ≤ i) (h1 : i < n) : ∃ s, xs[i.toNat]? = some s ∧ w.cell? ⟨g, i.toNat * 5, none⟩ = some (.int .i64 s.f0) ∧ w.cell? ⟨g, i.toNat * 5 + 1, none⟩ = some (.int .i64 s.f1) ∧ w.cell? ⟨g, i.toNat * 5 + 2, none⟩ = some (.int .i64 s.f2) ∧ w.cell? ⟨g, i.toNat * 5 + 3, none⟩ = some (.bool s.f3) ∧ w.cell? ⟨g, i.toNat * 5 + 4, none⟩ = some (.bool s.f4) := by
  obtain ⟨ad, s, hs, e, c0, c1, c2, c3, c4⟩ := at_I h i h0 h1
  cases e
  have ea : (⟨g, 0, none⟩ : Addr).add (i.toNat * 5) = ⟨g, i.toNat * 5, none⟩ := by
    simp only [Addr.add, Nat.zero_add]
    split
    · rename_i e
      rw [e]
    · rfl
  rw [ea] at c0 c1 c2 c3 c4
  exact ⟨s, hs, c0, c1, c2, c3, c4⟩
theorem R40_len {w : World} {B n c : Nat} {A : Option Addr} {xs : List It} (h : QQA.k40.R 40 w B (fun _ => True) (.slice A n c) xs) : n = xs.length := by
  obtain ⟨A', c', e, _⟩ := Kd.R_reads h
  injection e
theorem mark_step (n : Nat) (x : It) (G : List It) (j : Nat) (hj : j < G.length) (hn : n = G.length) : (List.replicate j x ++ G.drop j).set j x = List.replicate (j + 1) x ++ G.drop (j + 1) := by
  rw [List.set_append_right _ _ (by simp), List.length_replicate, Nat.sub_self, List.drop_eq_getElem_cons hj, List.set_cons_zero, List.replicate_succ', List.append_assoc]
  rfl
end Go.Proofs.Ytokemjdfcifbbaa.Gt
