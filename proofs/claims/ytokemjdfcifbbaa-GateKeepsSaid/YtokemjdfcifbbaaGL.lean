/- The append law that tells whether the row has moved; reading a list of lists. -/
import Derived.Test.YtokemjdfcifbbaaGK
namespace Go.Proofs.Ytokemjdfcifbbaa.Gt
open Go Go.RowKit Go.Maps Go.Proofs.YtokemjdfcifbbaaW.PrintWords Go.Proofs.YtokemjdfcifbbaaW.PrintMore
set_option linter.unusedVariables false
set_option linter.unusedSimpArgs false

theorem app_moved {ops : Array Oper} {rest : List Oper} {o : Oper} {a : Act} {Q : Exit → Act → World → Prop} {W : World} (base : Nat) (hgd : o.guard = none) (s x : Operand)
    (ho : o.op = .call { callee := .builtin .append, args := #[s, x], argTypes := #[27, 27] }) (v : Value) (xs : List It) (p : It) (hs : a.eval s = v) (hx : a.eval x = .slice (some ⟨W.heap.size, 0, none⟩) 1 1)
    (HO : QQA.k40.R 40 W base (fun _ => True) v xs) (hbase : base ≤ W.heap.size) (hl : (xs.length + 1) * 32 ≤ 140737488355328)
    (h : ∀ v1 w1, QQA.k40.R 40 w1 base (fun _ => True) v1 (xs ++ [p]) → W.grownBy w1 v.ownBlock → (v1.ownBlock = v.ownBlock ∨ W.grownBy w1 none) → (v1.ownBlock = v.ownBlock ∨ ∃ b, v1.ownBlock = some b ∧ W.heap.size ≤ b) → wpList Try.prog ops Q rest (a.put o.dst v1) w1) :
    wpList Try.prog ops Q (o :: rest) a (W.alloc (.cells [.int .i64 p.f0, .int .i64 p.f1, .int .i64 p.f2, .bool p.f3, .bool p.f4].toArray 40)) := by
  have HO2 := HO
  obtain ⟨h0, inner, hown, hr⟩ := HO2
  have hM := QQA.k40_mkM W base (fun _ => False) p
  have hnews : ∀ j u, [Value.int .i64 p.f0, .int .i64 p.f1, .int .i64 p.f2, .bool p.f3, .bool p.f4][j]? = some u → (W.alloc (.cells [.int .i64 p.f0, .int .i64 p.f1, .int .i64 p.f2, .bool p.f3, .bool p.f4].toArray 40)).cell? ((⟨W.heap.size, 0, none⟩ : Addr).add j) = some u := by
    have := World.news_of_block (cs := [Value.int .i64 p.f0, .int .i64 p.f1, .int .i64 p.f2, .bool p.f3, .bool p.f4].toArray) (t := 40) (fr := (0, 0)) (Go.heap_alloc_new W (.cells [Value.int .i64 p.f0, .int .i64 p.f1, .int .i64 p.f2, .bool p.f3, .bool p.f4].toArray 40))
    simpa using this
  have h1 : ∀ u ∈ [Value.int .i64 p.f0, .int .i64 p.f1, .int .i64 p.f2, .bool p.f3, .bool p.f4], u.oneCell' = true := QQA.k40.K_one (QQA.k40_mk W p)
  obtain ⟨i, hi, hz⟩ := Option.map_eq_some_iff.1 info40
  simp only [Prod.mk.injEq] at hz
  obtain ⟨hz0, hz1, hz2⟩ := hz
  have hlen : xs.length + 1 ≤ maxLen := by simp only [maxLen]; omega
  refine wpList_plain hgd fun K hK => ?_
  obtain ⟨v', w', hrun, h2, h3, h4, h5⟩ := run_append_own_at (P := Try.prog) (W.alloc (.cells [.int .i64 p.f0, .int .i64 p.f1, .int .i64 p.f2, .bool p.f3, .bool p.f4].toArray 40)) base 27 o.type 40 i _ 5 32 Try.underlying27 hi hz0 hz1 hz2 rfl (by omega) v xs.length inner (hown.alloc _) ⟨W.heap.size, 0, none⟩ 1 1 [.int .i64 p.f0, .int .i64 p.f1, .int .i64 p.f2, .bool p.f3, .bool p.f4] rfl hnews h1 hlen hl (by simp; omega)
  have hmv := append_moved (hown.alloc _) rfl hnews h1 hl hrun
  have hg := World.grownBy.trans (World.grownBy_alloc W (.cells [.int .i64 p.f0, .int .i64 p.f1, .int .i64 p.f2, .bool p.f3, .bool p.f4].toArray 40) v.ownBlock) h3
  have hat : v'.ownBlock = v.ownBlock ∨ ∃ b, v'.ownBlock = some b ∧ W.heap.size ≤ b := by
    rcases h5 with h5 | h5
    · exact .inl h5
    · exact .inr ⟨_, h5, by simp⟩
  have hR := Kd.R_appended (d := QQA.k40) (okp := fun _ => False) h0 hr hM (fun _ hk => hk.elim) (fun _ _ => trivial) h2 hg hat
  have hm2 : v'.ownBlock = v.ownBlock ∨ W.grownBy w' none := hmv.imp id (fun hm => World.grownBy.trans (World.grownBy_alloc W _ none) hm)
  unfold Oper.wp execOp
  simp only [ho, resolve, invoke, builtin, Sem.run_bind, Sem.run_pure, Result.andThen_ok, List.map_toArray, List.map_cons, List.map_nil, hs, hx, hrun]
  exact hK _ _ (h v' w' hR hg hm2 hat)

theorem kr_step {W w1 : World} {B n M : Nat} {A : Option Addr} {x : It} {xv v1 : Value} (h : KR W B A n x) (hv1 : QQA.k40.R 40 w1 B (fun _ => True) v1 (List.replicate M x)) (hn : n ≤ M) (hg : W.grownBy w1 xv.ownBlock) (hc : v1.ownBlock = xv.ownBlock ∨ W.grownBy w1 none) : KR w1 B A n x := by
  rcases h.form with ⟨rfl, rfl⟩ | ⟨g, rfl, hb, hlt, _⟩
  · exact KR.none_ _ _ _
  · rcases hc with hc | hc
    · by_cases he : xv.ownBlock = some g
      · rw [he] at hc
        obtain ⟨A', c', rfl, _⟩ := Kd.R_reads hv1
        cases A' with
        | none => simp [Value.ownBlock] at hc
        | some ad =>
          obtain ⟨g', hg'⟩ := Kd.R_head hv1
          subst hg'
          simp only [Value.ownBlock, Option.some.injEq] at hc
          subst hc
          rw [List.length_replicate] at hv1
          exact ⟨M, c', hn, hv1⟩
      · exact h.move fun k e => by
          injection e with e
          injection e with e
          subst e
          exact hg.block _ hlt (fun e => he e.symm)
    · exact h.move fun k e => by
        injection e with e
        injection e with e
        subst e
        exact hc.block _ hlt (by simp)

theorem at_S {w : World} {A : Option Addr} {n : Nat} {S : List Sl} (h : Kd.C kS w A n S) (i : Int) (h0 : 0 ≤ i) (h1 : i < n) : ∃ ad s, S[i.toNat]? = some s ∧ A = some ad ∧ w.cell? (ad.add i.toNat) = some (.slice s.A s.n s.c) := by
  obtain ⟨ad, c, e, _, hK, hc0⟩ := Kd.C_get h (⟨none, 0, 0⟩ : Sl) i h0 h1
  have hl : i.toNat < S.length := by have := h.1; omega
  have hcs : c = [(S.getD i.toNat ⟨none, 0, 0⟩).val] := hK
  subst hcs
  refine ⟨ad, S.getD i.toNat ⟨none, 0, 0⟩, by simp [List.getD_eq_getElem?_getD, List.getElem?_eq_getElem hl], e, ?_⟩
  have := hc0 0 _ rfl
  simpa [kS, Kd.scalar, Sl.val] using this
/-- The mark at a place of a kept row. -/
theorem at_KR {w : World} {B n : Nat} {A : Option Addr} {x : It} (h : KR w B A n x) (k : Int) (h0 : 0 ≤ k) (h1 : k < n) : ∃ ad, A = some ad ∧ w.cell? (ad.add (k.toNat * 5)) = some (.int .i64 x.f0) := by
  have hC := h.row
  obtain ⟨ad, s, hs, e, c0, _⟩ := at_I hC k h0 h1
  have : s = x := by
    rw [List.getElem?_replicate] at hs
    split at hs
    · exact (Option.some.inj hs).symm
    · cases hs
  subst this
  exact ⟨ad, e, c0⟩
end Go.Proofs.Ytokemjdfcifbbaa.Gt
