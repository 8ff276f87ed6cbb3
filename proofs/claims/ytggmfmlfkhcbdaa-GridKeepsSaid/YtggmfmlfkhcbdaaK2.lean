/- What GridKeeps keeps. -/
import Derived.Test.YtggmfmlfkhcbdaaK1
namespace Go.Proofs.Ytggmfmlfkhcbdaa.Gr
open Go Go.RowKit Go.Maps Go.Proofs.YtggmfmlfkhcbdaaW.PrintWords Go.Proofs.YtggmfmlfkhcbdaaW.PrintMore
set_option linter.unusedVariables false
set_option linter.unusedSimpArgs false

/-- A slice among slices. -/
structure Sl where
  A : Option Addr
  n : Nat
  c : Nat
def Sl.val (s : Sl) : Value := .slice s.A s.n s.c
theorem slv_one (s : Sl) : s.val.oneCell' = true := rfl
def kS : Kd Sl := Kd.scalar Sl.val slv_one
theorem info40 : (Try.prog.info? 40).map (fun i => (i.zero, i.size, i.bytes)) = some (some (.slice none 0 0), 1, 24) := by kernel_rfl
/-- The mark of the i-th list. -/
def mrk (i : Nat) : Int := -5000 - (i : Int)

theorem RS_base {w : World} {base : Nat} {v : Value} {xs : List Sl} (h : kS.R 40 w base (fun _ => True) v xs) : ∀ k, v.ownBlock = some k → base ≤ k ∧ k < w.heap.size ∧ ∃ cur, w.heap[k]? = some (.cells cur 40 (0, 0)) := by
  obtain ⟨inner, ho⟩ := Kd.R_own h
  intro k hk
  exact ⟨own_base ho k hk, own_lt ho k hk, own_typed ho k hk⟩
theorem RS_mv {w w' : World} {Bs : Nat} {v : Value} {S : List Sl} {T : Nat → Prop} (h : kS.R 40 w Bs (fun _ => True) v S) (hm : Mv w w' T) (hS : ∀ k, v.ownBlock = some k → ¬ T k) : kS.R 40 w' Bs (fun _ => True) v S :=
  Kd.R_mono (Kd.R_move (Kd.R_tight2 rfl h) (fun k hk => hm.block k (Kd.R_lt h k hk.1.symm) (hS k hk.1.symm))) (fun k hk => hk.2)
/-- A row of slices has turned: a row of numbers stands. -/
theorem apart_rows {w : World} {Bs k : Nat} {v : Value} {S : List Sl} {cur : Array Value} (hS : kS.R 40 w Bs (fun _ => True) v S) (hc : w.heap[k]? = some (.cells cur 3 (0, 0))) : v.ownBlock ≠ some k := by
  intro e
  obtain ⟨_, _, cur', hc'⟩ := RS_base hS k e
  rw [hc] at hc'
  injection hc' with hc'
  injection hc' with _ hc'
  exact absurd hc' (by decide)

/-- The two lists of lists, and what they lead to. -/
structure Keep (w : World) (U : Nat → Prop) (Bs : Nat) (av mv : Value) (AS MS : List Sl) : Prop where
  ra : kS.R 40 w Bs (fun _ => True) av AS
  rm : kS.R 40 w Bs (fun _ => True) mv MS
  ua : ∀ k, av.ownBlock = some k → U k
  um : ∀ k, mv.ownBlock = some k → U k
  ne : ∀ j, av.ownBlock = some j → mv.ownBlock ≠ some j
  le : MS.length ≤ AS.length
  ks : ∀ (i : Nat) s t, AS[i]? = some s → MS[i]? = some t → s.n ≤ s.c ∧ KR w Bs s.A s.n (mrk i) ∧ t.n = s.n + 40 ∧ t.n ≤ t.c ∧ KR w Bs t.A t.n (mrk i) ∧ (∀ k, ownA s.A = some k → U k) ∧ (∀ k, ownA t.A = some k → U k)
  ul : ∀ k, U k → k < w.heap.size
theorem Keep.mv {w w' : World} {U S : Nat → Prop} {Bs : Nat} {av mv : Value} {AS MS : List Sl} (h : Keep w U Bs av mv AS MS) (hm : Mv w w' S) (hS : ∀ k, U k → ¬ S k) : Keep w' U Bs av mv AS MS where
  ra := RS_mv h.ra hm (fun k hk => hS k (h.ua k hk))
  rm := RS_mv h.rm hm (fun k hk => hS k (h.um k hk))
  ua := h.ua
  um := h.um
  ne := h.ne
  le := h.le
  ks := fun i s t hs ht => by
    obtain ⟨h1, h2, h3, h4, h5, h6, h7⟩ := h.ks i s t hs ht
    exact ⟨h1, h2.mv hm (fun k hk => hS k (h6 k hk)), h3, h4, h5.mv hm (fun k hk => hS k (h7 k hk)), h6, h7⟩
  ul := fun k hk => Nat.lt_of_lt_of_le (h.ul k hk) hm.size
theorem Keep.below {w w' : World} {U : Nat → Prop} {Bs : Nat} {av mv : Value} {AS MS : List Sl} (h : Keep w U Bs av mv AS MS) (hb : Below w.heap.size w w') : Keep w' U Bs av mv AS MS := h.mv (Mv.of_below hb (fun _ => False)) (fun _ _ h => h)
theorem Keep.start (w : World) (Bs : Nat) : Keep w (fun _ => False) Bs (.slice none 0 0) (.slice none 0 0) [] [] where
  ra := Kd.R_nil _ _ _ _ _
  rm := Kd.R_nil _ _ _ _ _
  ua := fun k hk => by cases hk
  um := fun k hk => by cases hk
  ne := fun j hj => by cases hj
  le := Nat.le_refl _
  ks := fun i s t hs => by cases hs
  ul := fun k hk => hk.elim

/-- Rows that wait to be kept. -/
structure Pend (w : World) (U : Nat → Prop) (Bs lo : Nat) (N : List Sl) (C : Nat → List Int) : Prop where
  row : ∀ (i : Nat) s, lo ≤ i → N[i]? = some s → Rw w Bs s.val (C i)
  un : ∀ (i : Nat) s k, lo ≤ i → N[i]? = some s → ownA s.A = some k → ¬ U k
  pw : ∀ (i j : Nat) s t k, N[i]? = some s → N[j]? = some t → i ≠ j → ownA s.A = some k → ownA t.A ≠ some k
theorem Sl.own (s : Sl) : s.val.ownBlock = ownA s.A := own_A _ _ _
theorem Pend.mv {w w' : World} {U S : Nat → Prop} {Bs lo : Nat} {N : List Sl} {C : Nat → List Int} (h : Pend w U Bs lo N C) (hm : Mv w w' S) (hS : ∀ (i : Nat) s k, lo ≤ i → N[i]? = some s → ownA s.A = some k → ¬ S k) : Pend w' U Bs lo N C where
  row := fun i s hi hs => (h.row i s hi hs).mv hm (fun k hk => hS i s k hi hs (by rw [← s.own]; exact hk))
  un := h.un
  pw := h.pw
theorem Pend.lt {w : World} {U : Nat → Prop} {Bs lo : Nat} {N : List Sl} {C : Nat → List Int} (h : Pend w U Bs lo N C) {i : Nat} {s : Sl} {k : Nat} (hi : lo ≤ i) (hs : N[i]? = some s) (hk : ownA s.A = some k) : k < w.heap.size ∧ Bs ≤ k ∧ ∃ cur, w.heap[k]? = some (.cells cur 3 (0, 0)) :=
  (h.row i s hi hs).lt k (by rw [s.own]; exact hk)
/-- Other blocks are in use now. -/
theorem Pend.use {w : World} {U U' : Nat → Prop} {Bs lo : Nat} {N : List Sl} {C : Nat → List Int} (h : Pend w U Bs lo N C) (hU : ∀ (i : Nat) s k, lo ≤ i → N[i]? = some s → ownA s.A = some k → U' k → U k) : Pend w U' Bs lo N C where
  row := h.row
  un := fun i s k hi hs hk hu => h.un i s k hi hs hk (hU i s k hi hs hk hu)
  pw := h.pw
theorem Pend.lo {w : World} {U : Nat → Prop} {Bs lo lo' : Nat} {N : List Sl} {C : Nat → List Int} (h : Pend w U Bs lo N C) (hl : lo ≤ lo') : Pend w U Bs lo' N C where
  row := fun i s hi hs => h.row i s (Nat.le_trans hl hi) hs
  un := fun i s k hi hs => h.un i s k (Nat.le_trans hl hi) hs
  pw := h.pw
/-- One row has turned. -/
theorem Pend.one {w w' : World} {U : Nat → Prop} {Bs lo i0 : Nat} {N : List Sl} {C C' : Nat → List Int} {s0 : Sl} (h : Pend w U Bs lo N C) (h0 : N[i0]? = some s0) (hm : Mv w w' (fun k => ownA s0.A = some k)) (hR : Rw w' Bs s0.val (C' i0)) (hC : ∀ i, i ≠ i0 → C' i = C i) : Pend w' U Bs lo N C' where
  row := fun i s hi hs => by
    by_cases e : i = i0
    · subst e
      rw [h0] at hs
      obtain rfl := Option.some.inj hs
      exact hR
    · rw [hC i e]
      exact (h.row i s hi hs).mv hm (fun k hk h2 => h.pw i i0 s s0 k hs h0 e (by rw [← s.own]; exact hk) h2)
  un := h.un
  pw := h.pw
/-- append(all, l): the row has turned, or there is a new one. -/
theorem Keep.all {w w1 : World} {U : Nat → Prop} {Bs : Nat} {av mv v1 : Value} {AS MS : List Sl} {s0 : Sl} (h : Keep w U Bs av mv AS MS) (hR : kS.R 40 w1 Bs (fun _ => True) v1 (AS ++ [s0])) (hg : w.grownBy w1 av.ownBlock) (hat : v1.ownBlock = av.ownBlock ∨ ∃ b, v1.ownBlock = some b ∧ w.heap.size ≤ b) :
    Keep w1 (fun k => U k ∨ (w.heap.size ≤ k ∧ k < w1.heap.size)) Bs v1 mv (AS ++ [s0]) MS := by
  have hmv : Mv w w1 (fun k => av.ownBlock = some k) := Mv.of_grown hg (fun k hk => hk)
  refine ⟨hR, RS_mv h.rm hmv (fun k hk h2 => h.ne k h2 hk), ?_, fun k hk => Or.inl (h.um k hk), ?_, ?_, ?_, ?_⟩
  · intro k hk
    rcases hat with e | ⟨b, e, hb⟩
    · exact Or.inl (h.ua k (by rw [← e]; exact hk))
    · exact Or.inr ⟨by rw [e] at hk; injection hk with hk; omega, (RS_base hR k hk).2.1⟩
  · intro j hj hm
    rcases hat with e | ⟨b, e, hb⟩
    · exact h.ne j (by rw [← e]; exact hj) hm
    · rw [e] at hj
      injection hj with hj
      have := (RS_base h.rm j hm).2.1
      omega
  · have := h.le
    simp
    omega
  · intro i s t hs ht
    have hi : i < AS.length := by
      have := (List.getElem?_eq_some_iff.1 ht).1
      have := h.le
      omega
    rw [List.getElem?_append_left hi] at hs
    obtain ⟨h1, h2, h3, h4, h5, h6, h7⟩ := h.ks i s t hs ht
    refine ⟨h1, h2.mv hmv (fun k hk => ?_), h3, h4, h5.mv hmv (fun k hk => ?_), fun k hk => Or.inl (h6 k hk), fun k hk => Or.inl (h7 k hk)⟩
    · obtain ⟨_, _, cur, hc⟩ := h2.lt k hk
      exact apart_rows h.ra hc
    · obtain ⟨_, _, cur, hc⟩ := h5.lt k hk
      exact apart_rows h.ra hc
  · rintro k (hk | hk)
    · exact Nat.lt_of_lt_of_le (h.ul k hk) hg.size
    · exact hk.2
theorem Pend.all {w w1 : World} {U : Nat → Prop} {Bs Bk lo : Nat} {av mv : Value} {AS MS : List Sl} {N : List Sl} {C : Nat → List Int} (p : Pend w U Bs lo N C) (h : Keep w U Bk av mv AS MS) (hg : w.grownBy w1 av.ownBlock) : Pend w1 (fun k => U k ∨ (w.heap.size ≤ k ∧ k < w1.heap.size)) Bs lo N C := by
  refine (p.mv (Mv.of_grown (S := fun k => av.ownBlock = some k) hg (fun k hk => hk)) (fun i s k hi hs hk h2 => ?_)).use (fun i s k hi hs hk hu => ?_)
  · exact p.un i s k hi hs hk (h.ua k h2)
  · rcases hu with hu | hu
    · exact hu
    · have := (p.lt hi hs hk).1
      omega
/-- append(more, x). -/
theorem Keep.more {w w1 : World} {U : Nat → Prop} {Bs : Nat} {av mv v1 : Value} {AS MS : List Sl} {s t : Sl} (h : Keep w U Bs av mv AS MS) (hs : AS[MS.length]? = some s) (h1 : s.n ≤ s.c) (h2 : KR w Bs s.A s.n (mrk MS.length)) (h3 : t.n = s.n + 40) (h4 : t.n ≤ t.c) (h5 : KR w Bs t.A t.n (mrk MS.length))
    (hR : kS.R 40 w1 Bs (fun _ => True) v1 (MS ++ [t])) (hg : w.grownBy w1 mv.ownBlock) (hat : v1.ownBlock = mv.ownBlock ∨ ∃ b, v1.ownBlock = some b ∧ w.heap.size ≤ b) :
    Keep w1 (fun k => U k ∨ ownA s.A = some k ∨ ownA t.A = some k ∨ (w.heap.size ≤ k ∧ k < w1.heap.size)) Bs av v1 AS (MS ++ [t]) := by
  have hmv : Mv w w1 (fun k => mv.ownBlock = some k) := Mv.of_grown hg (fun k hk => hk)
  refine ⟨RS_mv h.ra hmv (fun k hk h2 => h.ne k hk h2), hR, fun k hk => Or.inl (h.ua k hk), ?_, ?_, ?_, ?_, ?_⟩
  · intro k hk
    rcases hat with e | ⟨b, e, hb⟩
    · exact Or.inl (h.um k (by rw [← e]; exact hk))
    · exact Or.inr (Or.inr (Or.inr ⟨by rw [e] at hk; injection hk with hk; omega, (RS_base hR k hk).2.1⟩))
  · intro j hj hm
    rcases hat with e | ⟨b, e, hb⟩
    · exact h.ne j hj (by rw [← e]; exact hm)
    · rw [e] at hm
      injection hm with hm
      have := (RS_base h.ra j hj).2.1
      omega
  · have := (List.getElem?_eq_some_iff.1 hs).1
    simp
    omega
  · intro i s' t' hs' ht'
    by_cases hi : i < MS.length
    · rw [List.getElem?_append_left hi] at ht'
      obtain ⟨g1, g2, g3, g4, g5, g6, g7⟩ := h.ks i s' t' hs' ht'
      refine ⟨g1, g2.mv hmv (fun k hk => ?_), g3, g4, g5.mv hmv (fun k hk => ?_), fun k hk => Or.inl (g6 k hk), fun k hk => Or.inl (g7 k hk)⟩
      · obtain ⟨_, _, cur, hc⟩ := g2.lt k hk
        exact apart_rows h.rm hc
      · obtain ⟨_, _, cur, hc⟩ := g5.lt k hk
        exact apart_rows h.rm hc
    · have hi2 : i < (MS ++ [t]).length := (List.getElem?_eq_some_iff.1 ht').1
      have e : i = MS.length := by simp at hi2; omega
      subst e
      rw [List.getElem?_append_right (Nat.le_refl _)] at ht'
      simp at ht'
      subst ht'
      rw [hs] at hs'
      obtain rfl := Option.some.inj hs'
      refine ⟨h1, h2.mv hmv (fun k hk => ?_), h3, h4, h5.mv hmv (fun k hk => ?_), fun k hk => Or.inr (Or.inl hk), fun k hk => Or.inr (Or.inr (Or.inl hk))⟩
      · obtain ⟨_, _, cur, hc⟩ := h2.lt k hk
        exact apart_rows h.rm hc
      · obtain ⟨_, _, cur, hc⟩ := h5.lt k hk
        exact apart_rows h.rm hc
  · rintro k (hk | hk | hk | hk)
    · exact Nat.lt_of_lt_of_le (h.ul k hk) hg.size
    · exact Nat.lt_of_lt_of_le (h2.lt k hk).1 hg.size
    · exact Nat.lt_of_lt_of_le (h5.lt k hk).1 hg.size
    · exact hk.2
theorem mark_step (x : Int) (G : List Int) (j : Nat) (hj : j < G.length) : (List.replicate j x ++ G.drop j).set j x = List.replicate (j + 1) x ++ G.drop (j + 1) := by
  rw [List.set_append_right _ _ (by simp), List.length_replicate, Nat.sub_self, List.drop_eq_getElem_cons hj, List.set_cons_zero, List.replicate_succ', List.append_assoc]
  rfl
theorem at_S {w : World} {A : Option Addr} {n : Nat} {S : List Sl} (h : Kd.C kS w A n S) (i : Int) (h0 : 0 ≤ i) (h1 : i < n) : ∃ ad s, S[i.toNat]? = some s ∧ A = some ad ∧ w.cell? (ad.add i.toNat) = some (.slice s.A s.n s.c) := by
  obtain ⟨ad, c, e, _, hK, hc0⟩ := Kd.C_get h (⟨none, 0, 0⟩ : Sl) i h0 h1
  have hl : i.toNat < S.length := by have := h.1; omega
  have hcs : c = [(S.getD i.toNat ⟨none, 0, 0⟩).val] := hK
  subst hcs
  refine ⟨ad, S.getD i.toNat ⟨none, 0, 0⟩, by simp [List.getD_eq_getElem?_getD, List.getElem?_eq_getElem hl], e, ?_⟩
  have := hc0 0 _ rfl
  simpa [kS, Kd.scalar, Sl.val] using this
theorem RS_row {w : World} {base n c : Nat} {A : Option Addr} {xs : List Sl} (h : kS.R 40 w base (fun _ => True) (.slice A n c) xs) : n = xs.length ∧ n ≤ c ∧ kS.C w A xs.length xs := Kd.R_reads' h
theorem Rw.C {w : World} {B n c : Nat} {A : Option Addr} {xs : List Int} (h : Rw w B (.slice A n c) xs) (hl : n ≤ 4000000000000) : ki.C w A n xs := by
  obtain ⟨h1, h2⟩ := h.len
  refine ⟨h1.symm, by omega, fun hp => ?_⟩
  cases A with
  | none => rw [h.none_len] at h1; simp at h1; omega
  | some ad =>
    obtain ⟨g, rfl⟩ := h.head
    refine ⟨_, rfl, fun j p hj => ⟨[.int .i64 p], rfl, rfl, fun i u hu => ?_⟩⟩
    match i, hu with
    | 0, hu =>
      simp at hu
      subst hu
      rw [show j * ki.sz + 0 = j from (by show j * 1 + 0 = j; omega), add_plain]
      exact (h.cell hj).1
/-- One more mark at the end of x: what all holds stands. -/
theorem xs_step {W w1 : World} {B n M : Nat} {A : Option Addr} {x : Int} {xv v1 : Value} (h : KR W B A n x) (hx : Rw W B xv (List.replicate M x)) (hR : Rw w1 B v1 (List.replicate (M + 1) x)) (hn : n ≤ M)
    (hc : (v1.ownBlock = xv.ownBlock ∧ W.grownBy w1 xv.ownBlock) ∨ (W.grownBy w1 none ∧ ∃ b, v1.ownBlock = some b ∧ W.heap.size ≤ b)) : KR w1 B A n x := by
  rcases hc with ⟨e, hg⟩ | ⟨hg, _⟩
  · cases hA : ownA A with
    | none =>
      exact h.move (fun k hk => by rw [hA] at hk; cases hk)
    | some k =>
      by_cases he : xv.ownBlock = some k
      · obtain ⟨A', c', e2⟩ := hR.slice
        subst e2
        rw [List.length_replicate] at hR
        rw [own_A, he] at e
        cases A' with
        | none => cases e
        | some ad' =>
          obtain ⟨g', rfl⟩ := hR.head
          cases A with
          | none => cases hA
          | some ad =>
            obtain ⟨m, c, hm, hr⟩ := h
            obtain ⟨g, rfl⟩ := hr.head
            injection hA with hA
            injection e with e
            simp at hA e
            subst hA
            subst e
            exact ⟨M + 1, c', by omega, hR⟩
      · exact h.move (fun k' hk' => by
          rw [hA] at hk'
          injection hk' with hk'
          subst hk'
          exact hg.block k (h.lt k hA).1 (fun e3 => he e3.symm))
  · exact h.move (fun k hk => hg.block k (h.lt k hk).1 (by simp))
theorem xs_mv {W w1 : World} {xv v1 : Value} (hc : (v1.ownBlock = xv.ownBlock ∧ W.grownBy w1 xv.ownBlock) ∨ (W.grownBy w1 none ∧ ∃ b, v1.ownBlock = some b ∧ W.heap.size ≤ b)) : Mv W w1 (fun k => xv.ownBlock = some k) := by
  rcases hc with ⟨_, hg⟩ | ⟨hg, _⟩
  · exact Mv.of_grown hg (fun k hk => hk)
  · exact Mv.of_grown hg (fun k hk => by cases hk)
/-- The rows' contents: the first kk are marked. -/
def CC (N : List Sl) (base kk : Nat) (xs ms : List Int) (i : Nat) : List Int := if i < kk then List.replicate (N.getD i ⟨none, 0, 0⟩).n (mrk (base + i)) else if i % 2 = 0 then xs else ms
theorem CC_at {N : List Sl} {base kk i : Nat} {xs ms : List Int} {s : Sl} (hs : N[i]? = some s) (h : i < kk) : CC N base kk xs ms i = List.replicate s.n (mrk (base + i)) := by
  unfold CC
  rw [if_pos h, List.getD_eq_getElem?_getD, hs]
  rfl
theorem CC_succ {N : List Sl} {base kk i : Nat} {xs ms : List Int} (h : i ≠ kk) : CC N base (kk + 1) xs ms i = CC N base kk xs ms i := by
  unfold CC
  by_cases hi : i < kk
  · rw [if_pos hi, if_pos (by omega)]
  · rw [if_neg hi, if_neg (by omega)]
/-- While the rows are marked and laid into all. -/
def LA (w wr : World) (g1 : Nat) (side : Int) (n : Nat) (L : List Th) (F : Nat → Prop) (q b11 : Nat) (N AS MS : List Sl) (mv : Value) (xs ms : List Int) (kk : Nat) (av : Value) : Prop :=
  ∃ U, Keep wr U w.heap.size av mv (AS ++ N.take kk) MS ∧ Pend wr U q 0 N (CC N AS.length kk xs ms) ∧ GS wr g1 F side n L ∧ wr.heap[b11]? = some (.cells (N.map Sl.val).toArray 51 (0, 0)) ∧ ¬ U b11 ∧ (∀ k, F k → ¬ U k) ∧ (∀ k, F k → k < q) ∧ q ≤ b11 ∧ w.heap.size ≤ q ∧ Below w.heap.size w wr
/-- While x is made of each. -/
def LB (w wr : World) (g1 : Nat) (side : Int) (n : Nat) (L : List Th) (F : Nat → Prop) (q : Nat) (N AS : List Sl) (av : Value) (xs ms : List Int) (ii : Nat) (mv : Value) : Prop :=
  ∃ U MS, MS.length = AS.length + ii ∧ Keep wr U w.heap.size av mv (AS ++ N) MS ∧ Pend wr U q ii N (CC N AS.length 4 xs ms) ∧ GS wr g1 F side n L ∧ (∀ k, F k → ¬ U k) ∧ (∀ k, F k → k < q) ∧ w.heap.size ≤ q ∧ q ≤ wr.heap.size ∧ Below w.heap.size w wr
/-- A row has been marked, and is appended to all. -/
theorem LA_next {w wK wr w1 : World} {g1 : Nat} {side : Int} {n : Nat} {L : List Th} {F U : Nat → Prop} {q b11 : Nat} {N AS MS : List Sl} {mv av v1 : Value} {xs ms : List Int} {kk : Nat} {s : Sl}
    (hK : Keep wK U w.heap.size av mv (AS ++ N.take kk) MS) (hP : Pend wK U q 0 N (CC N AS.length kk xs ms)) (hG : GS wK g1 F side n L) (hbox : wK.heap[b11]? = some (.cells (N.map Sl.val).toArray 51 (0, 0))) (hb11 : ¬ U b11) (hFU : ∀ k, F k → ¬ U k) (hFq : ∀ k, F k → k < q) (hqb : q ≤ b11) (hwq : w.heap.size ≤ q) (hb : Below w.heap.size w wK)
    (hs : N[kk]? = some s) (hm : Mv wK wr (fun k => ownA s.A = some k)) (hR : Rw wr q s.val (List.replicate s.n (mrk (AS.length + kk))))
    (hR1 : kS.R 40 w1 w.heap.size (fun _ => True) v1 (AS ++ N.take kk ++ [s])) (hg : wr.grownBy w1 av.ownBlock) (hat : v1.ownBlock = av.ownBlock ∨ ∃ b, v1.ownBlock = some b ∧ wr.heap.size ≤ b) :
    LA w w1 g1 side n L F q b11 N AS MS mv xs ms (kk + 1) v1 := by
  have hsU : ∀ k, U k → ¬ ownA s.A = some k := fun k hu hk => hP.un kk s k (Nat.zero_le _) hs hk hu
  have hK2 := hK.mv hm hsU
  have hP2 := hP.one hs hm (C' := CC N AS.length (kk + 1) xs ms) (by rw [CC_at hs (Nat.lt_succ_self _)]; exact hR) (fun i hi => CC_succ hi)
  have hav : ∀ k, av.ownBlock = some k → w.heap.size ≤ k := fun k hk => (RS_base hK.ra k hk).1
  have hm1 : Mv wr w1 (fun k => av.ownBlock = some k) := Mv.of_grown hg (fun k hk => hk)
  have hsq : ∀ k, ownA s.A = some k → q ≤ k := fun k hk => (hP.lt (Nat.zero_le _) hs hk).2.1
  have htk : N.take (kk + 1) = N.take kk ++ [s] := by rw [List.take_add_one, hs]; rfl
  have hlt11 := blk_lt hbox
  refine ⟨_, ?_, hP2.all hK2 hg, (hG.mv hm (fun k hf hk => by have := hFq k hf; have := hsq k hk; omega)).mv hm1 (fun k hf hk => hFU k hf (hK.ua k hk)), ?_, ?_, ?_, hFq, hqb, hwq, ?_⟩
  · have := hK2.all hR1 hg hat
    rw [htk, ← List.append_assoc]
    exact this
  · have h1 := (hm.block b11 hlt11 (fun hk => ?_)).trans hbox
    · exact (hm1.block b11 (blk_lt h1) (fun hk => hb11 (hK.ua b11 hk))).trans h1
    · obtain ⟨_, _, cur, hc⟩ := hP.lt (Nat.zero_le _) hs hk
      rw [hbox] at hc
      injection hc with hc
      injection hc with _ hc
      exact absurd hc (by decide)
  · rintro (h | h)
    · exact hb11 h
    · have := hm.size
      omega
  · rintro k hf (h | h)
    · exact hFU k hf h
    · have := hFq k hf
      have := hm.size
      omega
  · exact (hb.trans (hm.toB hb.size (fun k hk => Nat.le_trans hwq (hsq k hk)))).trans (hm1.toB (Nat.le_trans hb.size hm.size) hav)
/-- x has been made of a row, and is appended to more. -/
theorem LB_next {w wB wr w1 : World} {g1 : Nat} {side : Int} {n : Nat} {L : List Th} {F U : Nat → Prop} {q : Nat} {N AS MS : List Sl} {mv av v1 : Value} {xs ms : List Int} {ii : Nat} {s t : Sl}
    (hlen : MS.length = AS.length + ii) (hK : Keep wB U w.heap.size av mv (AS ++ N) MS) (hP : Pend wB U q ii N (CC N AS.length 4 xs ms)) (hG : GS wB g1 F side n L) (hFU : ∀ k, F k → ¬ U k) (hFq : ∀ k, F k → k < q) (hwq : w.heap.size ≤ q) (hb : Below w.heap.size w wB)
    (hs : N[ii]? = some s) (hsc : s.n ≤ s.c) (hm : Mv wB wr (fun k => ownA s.A = some k)) (hx : Rw wr q t.val (List.replicate (s.n + 40) (mrk (AS.length + ii)))) (hkr : KR wr q s.A s.n (mrk (AS.length + ii))) (hxo : ownA t.A = ownA s.A ∨ ∃ b, ownA t.A = some b ∧ wB.heap.size ≤ b) (hqB : q ≤ wB.heap.size)
    (hR1 : kS.R 40 w1 w.heap.size (fun _ => True) v1 (MS ++ [t])) (hg : wr.grownBy w1 mv.ownBlock) (hat : v1.ownBlock = mv.ownBlock ∨ ∃ b, v1.ownBlock = some b ∧ wr.heap.size ≤ b) :
    LB w w1 g1 side n L F q N AS av xs ms (ii + 1) v1 := by
  have hsU : ∀ k, U k → ¬ ownA s.A = some k := fun k hu hk => hP.un ii s k (Nat.le_refl _) hs hk hu
  have hK2 := hK.mv hm hsU
  have hm1 : Mv wr w1 (fun k => mv.ownBlock = some k) := Mv.of_grown hg (fun k hk => hk)
  have hsq : ∀ k, ownA s.A = some k → q ≤ k := fun k hk => (hP.lt (Nat.le_refl _) hs hk).2.1
  have htl := hx.len
  rw [List.length_replicate] at htl
  have hxk : KR wr w.heap.size t.A t.n (mrk MS.length) := by
    rw [hlen]
    exact ⟨t.n, t.c, Nat.le_refl _, by rw [htl.1]; have := hx.lower hwq; unfold Sl.val at this; rw [htl.1] at this; exact this⟩
  have hidx : (AS ++ N)[MS.length]? = some s := by rw [hlen, List.getElem?_append_right (by omega), Nat.add_sub_cancel_left]; exact hs
  have hmv : ∀ k, mv.ownBlock = some k → w.heap.size ≤ k := fun k hk => (RS_base hK.rm k hk).1
  refine ⟨_, MS ++ [t], by simp; omega, hK2.more hidx hsc (by rw [hlen]; exact hkr.lower hwq) htl.1 htl.2 hxk hR1 hg hat, ?_, (hG.mv hm (fun k hf hk => by have := hFq k hf; have := hsq k hk; omega)).mv hm1 (fun k hf hk => hFU k hf (hK.um k hk)), ?_, hFq, hwq, Nat.le_trans hqB (Nat.le_trans hm.size hg.size), ?_⟩
  · have p1 := (hP.lo (Nat.le_succ ii)).mv hm (fun i u k hi hu hk h2 => hP.pw i ii u s k hu hs (by omega) hk h2)
    have p2 := p1.mv hm1 (fun i u k hi hu hk h2 => hP.un i u k (by omega) hu hk (hK.um k h2))
    refine p2.use (fun i u k hi hu hk h2 => ?_)
    have hlt := (hP.lt (show ii ≤ i by omega) hu hk).1
    rcases h2 with h2 | h2 | h2 | h2
    · exact h2
    · exact absurd h2 (fun h2 => hP.pw i ii u s k hu hs (by omega) hk h2)
    · rcases hxo with e | ⟨b, e, hbb⟩
      · rw [e] at h2
        exact absurd h2 (fun h2 => hP.pw i ii u s k hu hs (by omega) hk h2)
      · rw [e] at h2
        injection h2 with h2
        omega
    · have := hm.size
      omega
  · rintro k hf (h | h | h | h)
    · exact hFU k hf h
    · have := hFq k hf
      have := hsq k h
      omega
    · have h3 := hFq k hf
      rcases hxo with e | ⟨b, e, hbb⟩
      · rw [e] at h
        have := hsq k h
        omega
      · rw [e] at h
        injection h with h
        omega
    · have := hFq k hf
      have := hm.size
      omega
  · exact (hb.trans (hm.toB hb.size (fun k hk => Nat.le_trans hwq (hsq k hk)))).trans (hm1.toB (Nat.le_trans hb.size hm.size) hmv)
theorem CC_zero (N : List Sl) (b : Nat) (xs ms : List Int) : CC N b 0 xs ms = fun i => if i % 2 = 0 then xs else ms := by
  funext i
  unfold CC
  rw [if_neg (by omega)]
theorem four_list {N : List Sl} (h : N.length = 4) : ∃ s0 s1 s2 s3, N = [s0, s1, s2, s3] := by
  match N, h with
  | [s0, s1, s2, s3], _ => exact ⟨s0, s1, s2, s3, rfl⟩
theorem app_rw {ops : Array Oper} {rest : List Oper} {o : Oper} {a : Act} {Q : Exit → Act → World → Prop} {W : World} (B : Nat) (hgd : o.guard = none) (s x : Operand)
    (ho : o.op = .call { callee := .builtin .append, args := #[s, x], argTypes := #[40, 40] }) (v : Value) (xs : List Int) (y : Int) (hs : a.eval s = v) (hx : a.eval x = .slice (some ⟨W.heap.size, 0, none⟩) 1 1)
    (HO : Rw W B v xs) (hB : B ≤ W.heap.size) (hl : xs.length ≤ 4000000000000)
    (h : ∀ v1 w1, Rw w1 B v1 (xs ++ [y]) → ((v1.ownBlock = v.ownBlock ∧ W.grownBy w1 v.ownBlock) ∨ (W.grownBy w1 none ∧ ∃ b, v1.ownBlock = some b ∧ W.heap.size ≤ b)) → wpList Try.prog ops Q rest (a.put o.dst v1) w1) :
    wpList Try.prog ops Q (o :: rest) a (W.alloc (.cells #[.int .i64 y] 3)) := by
  refine wpList_plain hgd fun K hK => ?_
  obtain ⟨v1, w1, hrun, hR, hc⟩ := (HO.below (w' := W.alloc (.cells #[.int .i64 y] 3)) (by repeat (first | (with_reducible first | exact Below.refl _ _ | apply below_alloc | apply pw_below_drewN | apply below_drew1) | exact Below.refl _ _))).app (c0 := 1) (new_cell W #[.int .i64 y] 3 rfl) hl (by simp; omega) o.type
  unfold Oper.wp execOp
  simp only [ho, resolve, invoke, builtin, Sem.run_bind, Sem.run_pure, Result.andThen_ok, List.map_toArray, List.map_cons, List.map_nil, hs, hx, hrun]
  refine hK _ _ (h v1 w1 hR ?_)
  rcases hc with ⟨e, hg⟩ | ⟨hg, e⟩
  · exact Or.inl ⟨e, World.grownBy.trans (World.grownBy_alloc W _ v.ownBlock) hg⟩
  · exact Or.inr ⟨World.grownBy.trans (World.grownBy_alloc W _ none) hg, _, e, by simp⟩
/-- A row's cell is marked. -/
theorem set_mv (w : World) (g j : Nat) (u : Value) : Mv w (w.setCell ⟨g, j, none⟩ u) (fun k => k = g) := ⟨rfl, rfl, rfl, by simp [World.setCell], fun k _ hk => Below.heap_setCell w ⟨g, j, none⟩ u k hk⟩
theorem box_cell {w : World} {b11 : Nat} {N : List Sl} (hbox : w.heap[b11]? = some (.cells (N.map Sl.val).toArray 51 (0, 0))) {i : Nat} {s : Sl} (hs : N[i]? = some s) : w.cell? ⟨b11, i, none⟩ = some (.slice s.A s.n s.c) := by
  rw [blk_cell hbox]
  simp [hs, Sl.val]
theorem box_ne {w : World} {b11 q : Nat} {v : Value} {xs : List Int} {cs : Array Value} (h : Rw w q v xs) (hbox : w.heap[b11]? = some (.cells cs 51 (0, 0))) : ¬ v.ownBlock = some b11 := by
  intro hk
  obtain ⟨_, _, cur, hc⟩ := h.lt b11 hk
  rw [hbox] at hc
  injection hc with hc
  injection hc with _ hc
  exact absurd hc (by decide)
theorem Rw.le_max {w : World} {B : Nat} {v : Value} {xs : List Int} (h : Rw w B v xs) : xs.length ≤ maxLen := by
  rcases h with ⟨_, rfl⟩ | ⟨g, cap, cur, _, _, _, h1, h2, _⟩
  · exact Nat.zero_le _
  · omega
theorem KR.row_len {w : World} {B n : Nat} {A : Option Addr} {x : Int} (h : KR w B A n x) : n ≤ 9223372036854775807 := by
  obtain ⟨m, c, hn, hR⟩ := h
  have := hR.le_max
  rw [List.length_replicate] at this
  simp only [maxLen] at this
  omega
end Go.Proofs.Ytggmfmlfkhcbdaa.Gr
