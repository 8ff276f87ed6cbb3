/- Plain laws for GateOnce: the steps that wait and the gate's list. -/
import Derived.Test.YtokemjdfcifbbaaGH
namespace Go.Proofs.Ytokemjdfcifbbaa.Gt
open Go Go.RowKit Go.Maps Go.Proofs.YtokemjdfcifbbaaW.PrintWords Go.Proofs.YtokemjdfcifbbaaW.PrintMore
set_option linter.unusedVariables false
set_option linter.unusedSimpArgs false

def legS (s : St) : It := legI s.p s.t s.u s.f s.b
theorem legS_p (s : St) : (legS s).f0 = s.p := rfl
def Once (WS : List St) (G : List It) : Prop := (WS.map legS).Perm G
theorem once_has {WS : List St} {G : List It} (h : Once WS G) (p : Int) : hasP G p = true ↔ ∃ s ∈ WS, s.p = p := by
  rw [hasP_iff]
  constructor
  · rintro ⟨x, hx, rfl⟩
    obtain ⟨s, hs, rfl⟩ := List.mem_map.1 (h.mem_iff.2 hx)
    exact ⟨s, hs, rfl⟩
  · rintro ⟨s, hs, rfl⟩
    exact ⟨legS s, h.mem_iff.1 (List.mem_map.2 ⟨s, hs, rfl⟩), rfl⟩
theorem once_apart {WS : List St} {G : List It} (h : Once WS G) (hs : Srt G) : WS.Pairwise (fun a b => a.p ≠ b.p) := by
  have h1 : (G.map (fun x : It => x.f0)).Pairwise (fun a b => a ≠ b) := by
    rw [List.pairwise_map]
    exact List.Pairwise.imp (fun {a b} h => by omega) hs
  have h2 : ((WS.map legS).map (fun x : It => x.f0)).Perm (G.map (fun x : It => x.f0)) := h.map _
  have h3 := (h2.pairwise_iff (R := fun a b : Int => a ≠ b) (fun {a b} h => Ne.symm h)).2 h1
  rw [List.map_map, List.pairwise_map] at h3
  exact h3
theorem ins_perm (x : It) : ∀ L : List It, (ins x L).Perm (x :: L)
  | [] => List.Perm.refl _
  | y :: r => by
    unfold ins
    split
    · exact List.Perm.refl _
    · exact (List.Perm.cons y (ins_perm x r)).trans (List.Perm.swap x y r)
theorem once_offer {WS : List St} {G : List It} (h : Once WS G) (s : St) (hn : hasP G s.p = false) : Once (WS ++ [s]) (offerL G (legS s)) := by
  unfold Once offerL
  rw [if_neg (by rw [legS_p, hn]; simp), List.map_append]
  refine List.Perm.trans ?_ (ins_perm _ _).symm
  exact (List.perm_append_comm).trans (List.Perm.cons _ h)
theorem offer_same {G : List It} (s : St) (hn : hasP G s.p = true) : offerL G (legS s) = G := by
  unfold offerL
  rw [if_pos (by rw [legS_p, hn])]
/-- The last one is laid in the place of one that goes. -/
theorem strike_perm : ∀ (A Z : List St) (x y : St), (A ++ x :: Z)[(A ++ x :: Z).length - 1]? = some y → (((A ++ x :: Z).set A.length y).take ((A ++ x :: Z).length - 1)).Perm (A ++ Z) := by
  intro A Z x y hy
  rcases List.eq_nil_or_concat Z with rfl | ⟨C, z, rfl⟩
  · simp
  · simp only [List.concat_eq_append] at hy ⊢
    have hz : y = z := by
      have e : (A ++ x :: (C ++ [z]))[(A ++ x :: (C ++ [z])).length - 1]? = some z := by
        rw [show A ++ x :: (C ++ [z]) = (A ++ x :: C) ++ [z] by simp]
        rw [List.getElem?_append_right (by simp)]
        simp
      rw [e] at hy
      exact (Option.some.inj hy).symm
    subst hz
    rw [List.set_append_right _ _ (Nat.le_refl _), Nat.sub_self, List.set_cons_zero]
    rw [show A ++ y :: (C ++ [y]) = (A ++ y :: C) ++ [y] by simp]
    rw [List.take_append_of_le_length (by simp), List.take_of_length_le (by simp)]
    refine List.Perm.append_left A ?_
    exact (List.perm_append_comm (l₁ := [y]) (l₂ := C))
theorem once_drop {WS : List St} {G : List It} (h : Once WS G) (hs : Srt G) {a : Nat} {x y : St} {p : Int} (hx : WS[a]? = some x) (hp : x.p = p) (hy : WS[WS.length - 1]? = some y) :
    Once ((WS.set a y).take (WS.length - 1)) (dropP G p) := by
  have hap := once_apart h hs
  obtain ⟨A, Z, hW, hA⟩ : ∃ A Z, WS = A ++ x :: Z ∧ A.length = a := by
    obtain ⟨hl, hxe⟩ := List.getElem?_eq_some_iff.1 hx
    exact ⟨WS.take a, WS.drop (a + 1), by rw [← hxe, List.getElem_cons_drop, List.take_append_drop], by rw [List.length_take]; omega⟩
  subst hW
  subst hA
  have h1 := strike_perm A Z x y hy
  unfold Once
  refine (h1.map legS).trans ?_
  have h2 : (dropP ((A ++ x :: Z).map legS) p).Perm (dropP G p) := h.filter _
  refine List.Perm.trans (List.Perm.of_eq ?_) h2
  rw [List.map_append, List.map_append, List.map_cons]
  unfold dropP
  rw [List.filter_append, List.filter_cons, if_neg (by simp [legS_p, hp])]
  rw [List.pairwise_append] at hap
  obtain ⟨_, h4, h5⟩ := hap
  rw [List.pairwise_cons] at h4
  congr 1
  · rw [List.filter_eq_self.2]
    intro z hz
    obtain ⟨q, hq, rfl⟩ := List.mem_map.1 hz
    have := h5 q hq x (by simp)
    simp [legS_p, ← hp, this]
  · rw [List.filter_eq_self.2]
    intro z hz
    obtain ⟨q, hq, rfl⟩ := List.mem_map.1 hz
    have := h4.1 q hq
    simp [legS_p, ← hp, Ne.symm this]

/-! legal -/
theorem bounds_some (a b c d : Int) : ∃ r, QQA.joustlaw18_bounds.f a b c d = some r := by
  unfold QQA.joustlaw18_bounds.f
  repeat' split
  all_goals exact ⟨_, rfl⟩
def lg (x : It) (s : St) : Bool := (QQA.joustlaw18_legal.f x.f0 x.f1 x.f2 x.f3 x.f4 s.p s.t s.u s.f s.b).getD false
theorem legal_some (x : It) (s : St) : QQA.joustlaw18_legal.f x.f0 x.f1 x.f2 x.f3 x.f4 s.p s.t s.u s.f s.b = some (lg x s) := by
  have h : ∃ r, QQA.joustlaw18_legal.f x.f0 x.f1 x.f2 x.f3 x.f4 s.p s.t s.u s.f s.b = some r := by
    unfold QQA.joustlaw18_legal.f
    obtain ⟨r1, e1⟩ := bounds_some x.f1 s.t (-100) 100
    obtain ⟨r2, e2⟩ := bounds_some x.f2 s.u (-8) 8
    rw [e1, e2]
    simp only [Option.bind_some]
    repeat' split
    all_goals exact ⟨_, rfl⟩
  obtain ⟨r, e⟩ := h
  unfold lg
  rw [e]
  rfl
theorem bounds_cl (n m : Int) (hm : 0 ≤ m) : QQA.joustlaw18_bounds.f (cl n m) n (-m) m = some true := by
  rw [cl_eq n m hm]
  unfold QQA.joustlaw18_bounds.f
  by_cases h1 : n < -m
  · rw [if_pos h1, if_pos (by omega), if_pos (by omega)]
    by_cases h2 : -m = n
    · omega
    · rw [if_neg h2, if_pos h1, if_pos rfl]
  · rw [if_neg h1]
    by_cases h2 : n > m
    · rw [if_pos h2, if_pos (by omega), if_pos (by omega), if_neg (by omega), if_neg h1, if_pos h2]
      simp
    · rw [if_neg h2, if_pos (by omega), if_pos (by omega), if_pos rfl]
theorem lg_self (s : St) : lg (legS s) s = true := by
  have h : QQA.joustlaw18_legal.f (legS s).f0 (legS s).f1 (legS s).f2 (legS s).f3 (legS s).f4 s.p s.t s.u s.f s.b = some true := by
    show QQA.joustlaw18_legal.f s.p (cl s.t 100) (cl s.u 8) s.f s.b s.p s.t s.u s.f s.b = some true
    unfold QQA.joustlaw18_legal.f
    rw [if_pos rfl, bounds_cl s.t 100 (by omega)]
    simp only [Option.bind_some, if_true]
    rw [bounds_cl s.u 8 (by omega)]
    simp
  unfold lg
  rw [h]
  rfl
theorem once_found {WS : List St} {G : List It} (h : Once WS G) {x : It} (hx : x ∈ G) : WS.any (lg x) = true := by
  obtain ⟨s, hs, rfl⟩ := List.mem_map.1 (h.mem_iff.2 hx)
  rw [List.any_eq_true]
  exact ⟨s, hs, lg_self s⟩
theorem legal_call (x : It) (s : St) (w : World) : Calls Try.prog 20 #[.agg #[.int .i64 x.f0, .int .i64 x.f1, .int .i64 x.f2, .bool x.f3, .bool x.f4], .int .i64 s.p, .agg #[.int .i64 s.t, .int .i64 s.u, .bool s.f, .bool s.b]] w fun e w' => e = .returned (.bool (lg x s)) ∧ Below w.heap.size w w' :=
  QQA.joustlaw18_legal.calls x.f0 x.f1 x.f2 x.f3 x.f4 s.p s.t s.u s.f s.b (lg x s) w (legal_some x s)
theorem any_step {WS : List St} {x : It} {j : Nat} {s : St} (h : WS[j]? = some s) : (WS.take (j + 1)).any (lg x) = ((WS.take j).any (lg x) || lg x s) := by
  rw [List.take_add_one, h]
  simp
theorem info33 : (Try.prog.info? 33).map (fun i => (i.zero, i.size, i.bytes)) = some (some (.agg #[(.int .i64 0), (.int .i64 0), (.int .i64 0), (.int .i64 0), (.bool false), (.bool false)]), 6, 40) := by kernel_rfl
theorem R33_other {w w' : World} {base m : Nat} {v : Value} {xs : List St} (h : k33.R 33 w base (fun _ => True) v xs) (hg : w.grownBy w' (some m)) (hm : m < base) : k33.R 33 w' base (fun _ => True) v xs :=
  Kd.R_mono (ok' := fun _ => True) (Kd.R_grown (Kd.R_bound h) hg (fun k hk e => by have := hk.2.1; injection e; omega)) (fun _ _ => trivial)
theorem R33_base {w : World} {base : Nat} {v : Value} {xs : List St} (h : k33.R 33 w base (fun _ => True) v xs) : ∀ k, v.ownBlock = some k → base ≤ k := by
  obtain ⟨inner, ho⟩ := Kd.R_own h
  exact fun k hk => own_base ho k hk
theorem R33_row {w : World} {base n c : Nat} {A : Option Addr} {xs : List St} (h : k33.R 33 w base (fun _ => True) (.slice A n c) xs) : k33.C w A xs.length xs := by
  obtain ⟨A', c', e, _, hC⟩ := Kd.R_reads h
  injection e with e1 e2 e3
  subst e1
  exact hC
end Go.Proofs.Ytokemjdfcifbbaa.Gt
