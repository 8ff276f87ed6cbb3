/- Steps; plain laws of lists of intents. -/
import Derived.Test.YtokemjdfcifbbaaGA
namespace Go.Proofs.Ytokemjdfcifbbaa.Gt
open Go Go.RowKit Go.Maps Go.Proofs.YtokemjdfcifbbaaW.PrintWords Go.Proofs.YtokemjdfcifbbaaW.PrintMore
set_option linter.unusedVariables false

/-- A step. -/
structure St where
  op : Int
  p : Int
  t : Int
  u : Int
  f : Bool
  b : Bool
def z33 : St := ⟨0, 0, 0, 0, false, false⟩
def k33 : Kd St := Kd.iso (Kd.pair (Kd.int .i64) (Kd.pair (Kd.int .i64) (Kd.pair (Kd.int .i64) (Kd.pair (Kd.int .i64) (Kd.pair Kd.bool Kd.bool))))) (fun x : St => (x.op, x.p, x.t, x.u, x.f, x.b))
theorem k33_open {w : World} {x : St} {cs : List Value} (h : k33.K w x cs) : cs = [.int .i64 x.op, .int .i64 x.p, .int .i64 x.t, .int .i64 x.u, .bool x.f, .bool x.b] := by
  obtain ⟨_, _, rfl, rfl, ⟨_, _, rfl, rfl, ⟨_, _, rfl, rfl, ⟨_, _, rfl, rfl, ⟨_, _, rfl, rfl, rfl⟩⟩⟩⟩⟩ := h
  exact rfl
theorem k33_mk (w : World) (x : St) : k33.K w x [.int .i64 x.op, .int .i64 x.p, .int .i64 x.t, .int .i64 x.u, .bool x.f, .bool x.b] :=
  ⟨[.int .i64 x.op], [.int .i64 x.p, .int .i64 x.t, .int .i64 x.u, .bool x.f, .bool x.b], rfl, rfl, ⟨[.int .i64 x.p], [.int .i64 x.t, .int .i64 x.u, .bool x.f, .bool x.b], rfl, rfl, ⟨[.int .i64 x.t], [.int .i64 x.u, .bool x.f, .bool x.b], rfl, rfl, ⟨[.int .i64 x.u], [.bool x.f, .bool x.b], rfl, rfl, ⟨[.bool x.f], [.bool x.b], rfl, rfl, rfl⟩⟩⟩⟩⟩
theorem k33_mkM (w : World) (base : Nat) (ok : Nat → Prop) (x : St) : k33.M w base ok x [.int .i64 x.op, .int .i64 x.p, .int .i64 x.t, .int .i64 x.u, .bool x.f, .bool x.b] :=
  ⟨[.int .i64 x.op], [.int .i64 x.p, .int .i64 x.t, .int .i64 x.u, .bool x.f, .bool x.b], rfl, rfl, ⟨[.int .i64 x.p], [.int .i64 x.t, .int .i64 x.u, .bool x.f, .bool x.b], rfl, rfl, ⟨[.int .i64 x.t], [.int .i64 x.u, .bool x.f, .bool x.b], rfl, rfl, ⟨[.int .i64 x.u], [.bool x.f, .bool x.b], rfl, rfl, ⟨[.bool x.f], [.bool x.b], rfl, rfl, rfl⟩⟩⟩⟩⟩
/-- The step at an index, cell by cell. -/
theorem at_T33 {w : World} {A : Option Addr} {n : Nat} {xs : List St} (h : Kd.C k33 w A n xs) (i : Int) (h0 : 0 ≤ i) (h1 : i < n) : ∃ ad s, xs[i.toNat]? = some s ∧ A = some ad ∧ w.cell? (ad.add (i.toNat * 6)) = some (.int .i64 s.op) ∧ w.cell? ⟨(ad.add (i.toNat * 6)).block, (ad.add (i.toNat * 6)).off + 1, none⟩ = some (.int .i64 s.p) ∧ w.cell? ⟨(ad.add (i.toNat * 6)).block, (ad.add (i.toNat * 6)).off + 2, none⟩ = some (.int .i64 s.t) ∧ w.cell? ⟨(ad.add (i.toNat * 6)).block, (ad.add (i.toNat * 6)).off + 3, none⟩ = some (.int .i64 s.u) ∧ w.cell? ⟨(ad.add (i.toNat * 6)).block, (ad.add (i.toNat * 6)).off + 4, none⟩ = some (.bool s.f) ∧ w.cell? ⟨(ad.add (i.toNat * 6)).block, (ad.add (i.toNat * 6)).off + 5, none⟩ = some (.bool s.b) := by
  obtain ⟨ad, c, e, _, hK, hc0⟩ := Kd.C_get h z33 i h0 h1
  have hc : ∀ j u, c[j]? = some u → w.cell? (ad.add (i.toNat * 6 + j)) = some u := hc0
  obtain rfl := k33_open hK
  have hl : i.toNat < xs.length := by have := h.1; omega
  refine ⟨ad, xs.getD i.toNat z33, by simp [List.getD_eq_getElem?_getD, List.getElem?_eq_getElem hl], e, hc 0 _ rfl, by rw [← add_field _ _ 1 (by omega)]; exact hc 1 _ rfl, by rw [← add_field _ _ 2 (by omega)]; exact hc 2 _ rfl, by rw [← add_field _ _ 3 (by omega)]; exact hc 3 _ rfl, by rw [← add_field _ _ 4 (by omega)]; exact hc 4 _ rfl, by rw [← add_field _ _ 5 (by omega)]; exact hc 5 _ rfl⟩
/-- The intent at an index. -/
theorem at_I {w : World} {A : Option Addr} {n : Nat} {xs : List It} (h : Kd.C QQA.k40 w A n xs) (i : Int) (h0 : 0 ≤ i) (h1 : i < n) : ∃ ad s, xs[i.toNat]? = some s ∧ A = some ad ∧ w.cell? (ad.add (i.toNat * 5)) = some (.int .i64 s.f0) ∧ w.cell? ⟨(ad.add (i.toNat * 5)).block, (ad.add (i.toNat * 5)).off + 1, none⟩ = some (.int .i64 s.f1) ∧ w.cell? ⟨(ad.add (i.toNat * 5)).block, (ad.add (i.toNat * 5)).off + 2, none⟩ = some (.int .i64 s.f2) ∧ w.cell? ⟨(ad.add (i.toNat * 5)).block, (ad.add (i.toNat * 5)).off + 3, none⟩ = some (.bool s.f3) ∧ w.cell? ⟨(ad.add (i.toNat * 5)).block, (ad.add (i.toNat * 5)).off + 4, none⟩ = some (.bool s.f4) := by
  obtain ⟨ad, e, c⟩ := QQA.at_T40 h i h0 h1
  have hl : i.toNat < xs.length := by have := h.1; omega
  exact ⟨ad, QQA.rd_T40 xs i, by simp [QQA.rd_T40, List.getD_eq_getElem?_getD, List.getElem?_eq_getElem hl], e, c⟩

/-! plain laws -/
theorem drop_comm (L : List It) (p q : Int) : dropP (dropP L p) q = dropP (dropP L q) p := by
  unfold dropP
  rw [List.filter_filter, List.filter_filter]
  apply List.filter_congr
  intro x _
  rw [Bool.and_comm]
theorem drop_drop (L : List It) (p : Int) : dropP (dropP L p) p = dropP L p := by
  unfold dropP
  rw [List.filter_filter]
  apply List.filter_congr
  intro x _
  rw [Bool.and_self]
theorem has_drop_other {L : List It} {p q : Int} (h : p ≠ q) : hasP (dropP L q) p = hasP L p := by
  unfold hasP dropP
  rw [List.any_filter]
  congr 1
  funext x
  by_cases e : x.f0 = p
  · simp [e, h]
  · simp [e]
theorem has_drop_same {L : List It} {p : Int} : hasP (dropP L p) p = false := by
  unfold hasP dropP
  rw [List.any_filter, List.any_eq_false]
  intro x _
  simp
theorem drop_ins_same {x : It} : ∀ {L : List It}, dropP (ins x L) x.f0 = dropP L x.f0
  | [] => by simp [dropP, ins]
  | y :: r => by
    unfold ins
    split
    · simp [dropP, List.filter_cons]
    · have ih := drop_ins_same (x := x) (L := r)
      unfold dropP at ih ⊢
      rw [List.filter_cons, List.filter_cons, ih]
theorem drop_ins_other {x : It} {p : Int} (h : x.f0 ≠ p) : ∀ {L : List It}, Srt L → dropP (ins x L) p = ins x (dropP L p)
  | [], _ => by simp [dropP, ins, h]
  | y :: r, hs => by
    unfold Srt at hs
    rw [List.pairwise_cons] at hs
    have ih := drop_ins_other h (L := r) hs.2
    unfold dropP at ih ⊢
    by_cases e : y.f0 = p
    · rw [ins]
      split
      · rename_i hlt
        rw [List.filter_cons, List.filter_cons]
        simp only [e, h, beq_self_eq_true, Bool.not_true, if_false, Bool.not_eq_true', beq_eq_false_iff_ne, ne_eq, not_false_eq_true, if_true, Bool.false_eq_true]
        cases hr : r.filter (fun z => !(z.f0 == p)) with
        | nil => rfl
        | cons z s =>
          have hz : z ∈ r := (List.mem_filter.1 (hr ▸ List.mem_cons_self : z ∈ r.filter (fun z => !(z.f0 == p)))).1
          have := hs.1 z hz
          rw [ins, if_pos (by omega)]
      · rw [List.filter_cons, List.filter_cons]
        simp only [e, beq_self_eq_true, Bool.not_true, if_false, Bool.false_eq_true]
        exact ih
    · rw [ins]
      have hy : (!(y.f0 == p)) = true := by simp [e]
      have hx : (!(x.f0 == p)) = true := by simp [h]
      split
      · rename_i hlt
        rw [List.filter_cons, if_pos hx, List.filter_cons, if_pos hy, ins, if_pos hlt]
      · rename_i hlt
        rw [List.filter_cons, if_pos hy, List.filter_cons, if_pos hy, ins, if_neg hlt, ih]
theorem drop_offer_same {L : List It} {y : It} : dropP (offerL L y) y.f0 = dropP L y.f0 := by
  unfold offerL
  split
  · rfl
  · exact drop_ins_same
theorem drop_offer_other {L : List It} {y : It} {p : Int} (h : y.f0 ≠ p) (hs : Srt L) : dropP (offerL L y) p = offerL (dropP L p) y := by
  unfold offerL
  rw [has_drop_other h]
  split
  · rfl
  · exact drop_ins_other h hs
/-- The walk over g's list without one player's. -/
theorem drop_take_same {L : List It} {p : Int} {a : Nat} {x : It} (h : L[a]? = some x) (e : x.f0 = p) : dropP (L.take (a + 1)) p = dropP (L.take a) p := by
  rw [List.take_add_one, h]
  simp [dropP, e]
theorem drop_take_other {L : List It} {p : Int} {a : Nat} {x : It} (h : L[a]? = some x) (e : x.f0 ≠ p) : dropP (L.take (a + 1)) p = dropP (L.take a) p ++ [x] := by
  rw [List.take_add_one, h]
  simp [dropP, e]
theorem drop_at_other {L : List It} {p : Int} {a : Nat} {x : It} (h : L[a]? = some x) (e : x.f0 ≠ p) : (dropP L p)[(dropP (L.take a) p).length]? = some x := by
  have hs : L = L.take (a + 1) ++ L.drop (a + 1) := (List.take_append_drop _ _).symm
  have : dropP L p = dropP (L.take a) p ++ [x] ++ dropP (L.drop (a + 1)) p := by
    rw [← drop_take_other h e]
    unfold dropP
    rw [← List.filter_append, List.take_append_drop]
  rw [this, List.append_assoc, List.getElem?_append_right (Nat.le_refl _)]
  simp
end Go.Proofs.Ytokemjdfcifbbaa.Gt
