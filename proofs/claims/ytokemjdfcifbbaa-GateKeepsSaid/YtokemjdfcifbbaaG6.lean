/- Take. -/
import Derived.Test.YtokemjdfcifbbaaG4
import Derived.Test.YtokemjdfcifbbaaG5
import Derived.Test.YtokemjdfcifbbaaG7
import Derived.Test.YtokemjdfcifbbaaG8
import Derived.OwnWalk
namespace Go.Proofs.Ytokemjdfcifbbaa.Gt
open Go Go.RowKit Go.Maps Go.Proofs.YtokemjdfcifbbaaW.PrintWords Go.Proofs.YtokemjdfcifbbaaW.PrintMore
set_option linter.unusedVariables false
theorem info40 : (Try.prog.info? 40).map (fun i => (i.zero, i.size, i.bytes)) = some (some (.agg #[(.int .i64 0), (.int .i64 0), (.int .i64 0), (.bool false), (.bool false)]), 5, 32) := by kernel_rfl

def SortSaid : Prop := ∀ (v : Value) (xs : List It) (base : Nat) (w : World), QQA.k40.R 40 w base (fun _ => True) v xs → xs.length < 4611686018427387904 →
  Calls Try.prog 21 #[v, .func (.func 22) #[] #[]] w fun e w' => e = .returned (.tuple #[]) ∧ ∃ ys : List It, ys.Perm xs ∧ ys.Pairwise (fun x y => ¬ y.f0 < x.f0) ∧ QQA.k40.R 40 w' base (fun _ => True) v ys ∧ w.grownBy w' v.ownBlock

set_option maxHeartbeats 1000000 in
theorem g_take (hSort : SortSaid) {w : World} {gb mb n : Nat} {L : List It} (h : GateAt w gb mb n L) (hn : n ≤ 4000000000000) :
    Calls Try.prog 17 #[.pointer (some ⟨gb, 0, none⟩)] w fun e w' => ∃ v, e = .returned v ∧ GateAt w' gb mb 0 [] ∧ w.grownBy w' (some mb) ∧ QQA.k40.R 40 w' w.heap.size (fun _ => True) v L := by
  have c0 := h.cell
  have hown := h.own
  have hlen := h.len
  have hltm := h.ltm
  have hltg := h.ltg
  have hsrt := h.srt
  have hne := h.ne
  clear h
  go_enter Try.func17, Try.ntmps17
  go_wp2_with (first
    | (at_range; refine wpList_range_own _ rfl _ 46 rfl 3 40 law3 Try.underlying46 itElem mb n (GM L) rfl hown ?_; intro w0 hrg0 hg0 hs0)
    | go_in)
  go_frame
  go_loopw [3, 5] (fun ov _ wr => ∃ (left : Lit → Bool) (cnt : Nat) (xs : List It), wr.ranges Try.prog 3 itElem mb w.heap.size n (GM L) left cnt ∧ w.grownBy wr none ∧ QQA.k40.R 40 wr (w.heap.size + 1) (fun _ => True) ov xs ∧ (xs ++ L.filter fun z => left (.int .i64 z.f0)).Perm L)
    (fun _ _ wr => wr.rangeLeft mb w.heap.size)
  case atStart =>
    exact ⟨_, _, [], hrg0, hg0, Kd.R_nil _ _ _ _ _, take_start⟩
  case round =>
    obtain ⟨left, cnt, xs, hrg, hgw, hR, hperm⟩ := hrel
    go_wp2_with (first
      | (at_next; refine next_it _ rfl _ rfl mb w.heap.size n (GM L) left cnt rfl hrg ?_ ?_)
      | go_in)
    · intro _ hl0
      have hpx : xs.Perm L := by
        have e : (L.filter fun z : It => left (.int .i64 z.f0)) = [] := by
          rw [List.filter_eq_nil_iff]
          intro z _
          rw [hl0]
          simp
        rw [e, List.append_nil] at hperm
        exact hperm
      have hxl := hpx.length_eq
      have hbase : ∀ k, u3.ownBlock = some k → w.heap.size + 1 ≤ k := by
        obtain ⟨inner, ho⟩ := Kd.R_own hR
        exact fun k hk => own_base ho k hk
      obtain ⟨v1, w1, hrun, hown1, hturn⟩ := clear_run 0 hrg.owns
      have hR1 := Kd.R_mono (ok' := fun _ => True) (Kd.R_grown (Kd.R_bound hR) hturn.grown (fun k hk e => by have := hk.2.1; injection e; omega)) (fun _ _ => trivial)
      have hgw1 : w.grownBy w1 (some mb) := (hgw.but _).andThen hturn.grown (fun j hj => Or.inr hj)
      have c1 : wr.cell? ⟨gb, 0, none⟩ = some (.map (some mb)) := hgw.cell c0 (by simp)
      have c2 : w1.cell? ⟨gb, 0, none⟩ = some (.map (some mb)) := hgw1.cell c0 (by simpa using hne)
      have hS := hSort u3 xs (w.heap.size + 1) w1 hR1 (by omega)
      clear hrg hR hg0 hs0 hrg0 hperm
      go_wp2_with (first
        | (go_at_call 21; refine hS.mono ?_; rintro e w2 ⟨rfl, ys, hyp, hys, hR2, hg2⟩)
        | go_in)
      go_ret
      have hY : ys = L := hsrt.perm (hys.imp (fun h => by omega)) (hyp.trans hpx)
      subst hY
      have hg3 := hgw1.andThen hg2 (fun j hj => Or.inl (by have := hbase _ hj; omega))
      refine ⟨u3, rfl, ⟨hg3.cell c0 (by simpa using hne), ?_, List.Pairwise.nil, fun x hx => by cases hx⟩, hg3, Kd.R_lower hR2 (by omega)⟩
      obtain ⟨es, clock, e, r⟩ := hown1
      exact ⟨es, clock, (hg2.block mb (Array.getElem?_eq_some_iff.1 e).1 (fun e => by have := hbase _ e.symm; omega)).trans e, r⟩
    · intro x y w1 cnt1 hwx hlx hat hrg1 hlt hg1 hs1 hen
      have hR1 := Kd.R_mono (ok' := fun _ => True) (Kd.R_grown (Kd.R_bound hR) hg1 (fun k hk e => by have := hk.2.1; injection e; omega)) (fun _ _ => trivial)
      have hgw1 : w.grownBy w1 none := hgw.andThen hg1 (fun j hj => by cases hj; exact Or.inl (Nat.le_refl _))
      clear hR hgw hg1 hs1
      have hsz : w.heap.size + 1 ≤ w1.heap.size := by
        have := hrg1.lt
        omega
      have hxs : xs.length ≤ L.length := by
        have := hperm.length_eq
        rw [List.length_append] at this
        omega
      have hhas := ranges_has hrg hlx
      rw [has_GM] at hhas
      obtain ⟨z, hz, rfl, rfl⟩ := at_GM hsrt hhas hat
      go_wp2_with (first
        | (at_builtin; go_loud (refine Kd.R_append QQA.k40 (w0 := w1.alloc (.cells #[.int .i64 z.f0, .int .i64 z.f1, .int .i64 z.f2, .bool z.f3, .bool z.f4] 40)) (w.heap.size + 1) rfl (.tmp 15) (.tmp 17) 27 40 (.agg #[(.int .i64 0), (.int .i64 0), (.int .i64 0), (.bool false), (.bool false)]) 32 rfl Try.underlying27 info40 rfl (by decide) (by omega) u3 xs z [.int .i64 z.f0, .int .i64 z.f1, .int .i64 z.f2, .bool z.f3, .bool z.f4] (fun _ => True) (fun _ => False) rfl (by simp [Act.eval]) ?aP (fun _ hk => hk.elim) (fun _ _ => trivial) ?aO (Below.refl _ _) ?aS ?aL ?_; (case aP => exact QQA.k40_mkM _ _ _ z); (case aO => exact Kd.R_alloc hR1 _); (case aS => simp; omega); (case aL => omega); intro v2 w2 hR2 hb2 hg2 hat2))
        | go_in)
      have hbase : ∀ k, u3.ownBlock = some k → w.heap.size + 1 ≤ k := by
        obtain ⟨inner, ho⟩ := Kd.R_own hR1
        exact fun k hk => own_base ho k hk
      have hg3 := World.grownBy.trans (World.grownBy_alloc w1 (.cells #[.int .i64 z.f0, .int .i64 z.f1, .int .i64 z.f2, .bool z.f3, .bool z.f4] 40) u3.ownBlock) hg2
      have hrg2 := hrg1.kept hg3 (fun e => by have := hbase _ e.symm; omega) (fun e => by have := hbase _ e.symm; omega)
      go_roundw
      case rel =>
        exact ⟨_, cnt1, xs ++ [z], hrg2, hgw1.andThen hg3 (fun j hj => Or.inl (by have := hbase _ hj; omega)), hR2, take_step hsrt hz hlx hperm⟩
      case measure => rw [hrg2.left_eq, hrg.left_eq]; exact hlt
end Go.Proofs.Ytokemjdfcifbbaa.Gt
