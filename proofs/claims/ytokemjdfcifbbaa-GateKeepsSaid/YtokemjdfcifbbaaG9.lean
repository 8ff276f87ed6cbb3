/- The sort of Take's row. -/
import Derived.Test.YtokemjdfcifbbaaG8
import Derived.Test.YtokemjdfcifbbaaShelf
import Derived.Test.YtokemjdfcifbbaaG6
namespace Go.Proofs.Ytokemjdfcifbbaa.Gt
open Go Go.RowKit Go.Sort Go.Shelf Go.Proofs.YtokemjdfcifbbaaW.PrintWords
set_option linter.unusedVariables false

theorem closure22 (x y : It) (W : World) : Calls Try.prog 22 #[.agg (encI x).toArray, .agg (encI y).toArray] W fun e w' => e = .returned (.int .i64 (Lib.compareInt x.f0 y.f0)) ∧ ∃ q os', w' = grow (W.drewN q) os' := by
  obtain ⟨a, a1, a2, a3, a4⟩ := x
  obtain ⟨b, b1, b2, b3, b4⟩ := y
  show Calls Try.prog 22 #[.agg #[.int .i64 a, .int .i64 a1, .int .i64 a2, .bool a3, .bool a4], .agg #[.int .i64 b, .int .i64 b1, .int .i64 b2, .bool b3, .bool b4]] W fun e w' => e = .returned (.int .i64 (Lib.compareInt a b)) ∧ ∃ q os', w' = grow (W.drewN q) os'
  rcases Int.lt_trichotomy a b with h | h | h
  · rw [show Lib.compareInt a b = -1 by simp [Lib.compareInt, h]]
    go_enter Try.func22, Try.ntmps22
    go_wp2
    go_ret
    exact ⟨rfl, 0, _, by rw [alloc_eq_grow, alloc_eq_grow, grow_grow]; rfl⟩
  · subst h
    rw [show Lib.compareInt a a = 0 by simp [Lib.compareInt]]
    go_enter Try.func22, Try.ntmps22
    go_wp2
    go_ret
    exact ⟨rfl, 0, _, by rw [alloc_eq_grow, alloc_eq_grow, grow_grow]; rfl⟩
  · have h2 : ¬ a < b := by omega
    rw [show Lib.compareInt a b = 1 by simp [Lib.compareInt, h, h2]]
    go_enter Try.func22, Try.ntmps22
    go_wp2
    go_ret
    exact ⟨rfl, 0, _, by rw [alloc_eq_grow, alloc_eq_grow, grow_grow]; rfl⟩
theorem cmp22 (blk off size : Nat) (w : World) : CmpLays Try.prog 22 #[] encI 5 (fun x y => Lib.compareInt x.f0 y.f0) blk off size w :=
  fun _ _ _ _ x y => closure22 x y _
theorem ltI (x y : It) : ltOf (fun x y : It => Lib.compareInt x.f0 y.f0) x y = decide (x.f0 < y.f0) := by
  unfold ltOf Lib.compareInt
  by_cases h1 : x.f0 < y.f0
  · simp [h1]
  · by_cases h2 : y.f0 < x.f0 <;> simp [h1, h2]
theorem swoI : SWO (ltOf fun x y : It => Lib.compareInt x.f0 y.f0) where
  irrefl x := by rw [ltI]; simp
  trans x y z h1 h2 := by rw [ltI] at *; simp at *; omega
  ntrans x y z h1 h2 := by rw [ltI] at *; simp at *; omega

theorem ins_none (fv : Value) (W : World) : Calls Try.prog 30 #[.slice none 0 0, .int .i64 0, .int .i64 0, fv] W fun e w' => e = .returned (.tuple #[]) ∧ w' = W := by
  go_enter Try.func30, Try.ntmps30
  go_wp2
  refine wp_loop_rounds 1 ?_
  rw [rounds_succ]
  go_wp2
  go_end0
  exact ⟨rfl, rfl⟩
theorem pdq_none (lim : Int) (fv : Value) (W : World) : Calls Try.prog 27 #[.slice none 0 0, .int .i64 0, .int .i64 0, .int .i64 lim, fv] W fun e w' => e = .returned (.tuple #[]) ∧ w' = W := by
  go_enter Try.func27, Try.ntmps27
  go_wp2
  refine wp_loop_rounds 1 ?_
  rw [rounds_succ]
  go_wp2_with (go_at_call 30; refine (ins_none fv _).mono ?_; rintro e w' ⟨rfl, rfl⟩)
  (try simp only [Exit.inBlock, Exit.then]); refine bodyPost_ret (results_none rfl _ _ _) rfl ?_
  exact ⟨rfl, rfl⟩
theorem sort_none (fv : Value) (W : World) : Calls Try.prog 21 #[.slice none 0 0, fv] W fun e w' => e = .returned (.tuple #[]) ∧ w' = W := by
  have hl : ∀ W, Calls Try.prog 28 #[.int .u64 0] W fun e w' => e = .returned (.int .i64 (Lib.bitLen 0 : Nat)) ∧ w' = W := fun W => by
    have h := Any.bits_Len (SlLaysF0.n15.bits (P := Try.prog) (ρ := Try.sortIv_ren) { Try.sortIv with }) 0 W (by omega) (by omega)
    exact h
  go_enter Try.func21, Try.ntmps21
  go_wp2_with (first | (go_at_call 28; refine (hl _).mono ?_; rintro e w' ⟨rfl, rfl⟩) | (go_at_call 27; refine (pdq_none _ _ _).mono ?_; rintro e w' ⟨rfl, rfl⟩))
  go_end0
  exact ⟨rfl, rfl⟩

theorem sort_holds : SortSaid := by
  intro v xs base w hR hlen
  obtain ⟨A, c, rfl, hc, _⟩ := Kd.R_reads hR
  have hsl := hR
  obtain ⟨h0, inner, ⟨hl, hd⟩, hr⟩ := hsl
  rcases hd with ⟨e, hn⟩ | ⟨g, cap, cur, e, hb, hg, h1, h2, h3, h4⟩
  · injection e with e1 e2 e3
    subst e1
    obtain rfl : xs = [] := List.length_eq_zero_iff.1 e2
    subst e3
    refine (sort_none _ w).mono ?_
    rintro e w' ⟨rfl, rfl⟩
    exact ⟨rfl, [], List.Perm.refl _, List.Pairwise.nil, hR, grown_of_below (Below.refl _ _) _⟩
  · injection e with e1 e2 e3
    subst e1
    subst e3
    have hH := holds_of_R hR
    have hcon := AnyQ.slices_SortFunc Try.sortIv 5 (fun w => by kernel_rfl) (fun w => by kernel_rfl) encI (fun _ => rfl) (fun x v hv => by simp [encI] at hv; rcases hv with rfl | rfl | rfl | rfl | rfl <;> rfl) (fun x y => Lib.compareInt x.f0 y.f0) swoI 22 #[] g 0 c xs.toArray w (enters_of Try.func22 (by kernel_rfl) rfl) (cmp22 g 0 _ w) hH (Array.getElem?_eq_some_iff.1 hg).1 (by simpa using hlen)
    have hsz : xs.toArray.size = xs.length := by simp
    rw [hsz] at hcon
    change Calls Try.prog 21 _ _ _ at hcon
    refine hcon.mono ?_
    rintro e w' ⟨rfl, d', m, os, ⟨hs1, hs2, hs3⟩, hs, rfl⟩
    have hd : d'.toList.Perm xs := by
      have e1 : d'.size = xs.length := by simpa using hs1
      have x1 : d'.extract 0 xs.length = d' := by rw [← e1]; simp
      have x2 : xs.toArray.extract 0 xs.length = xs.toArray := by rw [← hsz]; exact Array.extract_size
      rw [x1, x2] at hs3
      exact hs3
    have e1 : d'.toList.length = xs.length := hd.length_eq
    obtain ⟨r1, r2⟩ := R_sorted hR e1 m os
    rw [Array.toArray_toList] at r1 r2
    refine ⟨rfl, d'.toList, hd, ?_, r1, r2⟩
    rw [List.pairwise_iff_getElem]
    intro i j hi hj hij
    have h := hs i j (Nat.zero_le _) hij (by rw [← e1]; exact hj)
    rw [ltI] at h
    rw [getElem!_pos d' i (by simpa using hi), getElem!_pos d' j (by simpa using hj)] at h
    simpa using h
theorem take_calls {w : World} {gb mb n : Nat} {L : List It} (h : GateAt w gb mb n L) (hn : n ≤ 4000000000000) :
    Calls Try.prog 17 #[.pointer (some ⟨gb, 0, none⟩)] w fun e w' => ∃ v, e = .returned v ∧ GateAt w' gb mb 0 [] ∧ w.grownBy w' (some mb) ∧ QQA.k40.R 40 w' w.heap.size (fun _ => True) v L := g_take sort_holds h hn
#print axioms take_calls
end Go.Proofs.Ytokemjdfcifbbaa.Gt
