/- Near and Nearest: what is within, in order. -/
import Derived.Test.YtggmfmlfkhcbdaaGD
import Derived.Test.YtggmfmlfkhcbdaaGA
namespace Go.Proofs.Ytggmfmlfkhcbdaa.Gr
open Go Go.RowKit Go.Maps Go.Sort Go.Shelf Go.Proofs.YtggmfmlfkhcbdaaW.PrintWords Go.Proofs.YtggmfmlfkhcbdaaW.PrintLast Go.Proofs.YtggmfmlfkhcbdaaW.PrintMore
set_option linter.unusedVariables false
set_option linter.unusedSimpArgs false
theorem max2_mx (k k' : IntKind) (x y : Int) : Builtin.max2 (.int k x) (.int k' y) = pure (.int k (mx x y)) := by rw [max2_int]; rfl
theorem min2_mn (k k' : IntKind) (x y : Int) : Builtin.min2 (.int k x) (.int k' y) = pure (.int k (mn x y)) := by rw [min2_int]; rfl
attribute [local go_sem] max2_mx min2_mn max_two min_two max_three min_three max_four min_four

/-! plain: the two orders -/
theorem cmp3_neg {a b : Int} : cmp3 a b < 0 ↔ a < b := by unfold cmp3; split <;> (try split) <;> omega
theorem cmp3_zero {a b : Int} : cmp3 a b = 0 ↔ a = b := by unfold cmp3; split <;> (try split) <;> omega
/-- Is i nearer than j; at like distances of the lesser id? -/
theorem near3_neg {L : List Th} {ax ay i j : Int} : near3 L ax ay i j < 0 ↔ dq L ax ay i < dq L ax ay j ∨ (dq L ax ay i = dq L ax ay j ∧ i < j) := by
  unfold near3
  split
  · rename_i h
    rw [cmp3_zero] at h
    rw [cmp3_neg]
    constructor
    · intro hh; exact Or.inr ⟨h, hh⟩
    · rintro (hh | ⟨_, hh⟩)
      · omega
      · exact hh
  · rename_i h
    rw [cmp3_zero] at h
    rw [cmp3_neg]
    constructor
    · intro hh; exact Or.inl hh
    · rintro (hh | ⟨hh, _⟩)
      · exact hh
      · exact absurd hh h
theorem swo_cmp3 : SWO (ltOf fun x y : N64 => cmp3 x.1 y.1) where
  irrefl := fun x => by unfold ltOf; simp [cmp3_neg]
  trans := fun x y z => by unfold ltOf; simp only [decide_eq_true_eq, cmp3_neg]; omega
  ntrans := fun x y z => by unfold ltOf; simp only [decide_eq_false_iff_not, cmp3_neg]; omega
theorem swo_near3 (L : List Th) (ax ay : Int) : SWO (ltOf fun x y : N64 => near3 L ax ay x.1 y.1) where
  irrefl := fun x => by unfold ltOf; simp [near3_neg]
  trans := fun x y z => by unfold ltOf; simp only [decide_eq_true_eq, near3_neg]; omega
  ntrans := fun x y z => by unfold ltOf; simp only [decide_eq_false_iff_not, near3_neg]; omega

/-- An id into a row that is in order by distance. -/
def insN (L : List Th) (ax ay : Int) (i : Int) : List Int → List Int
  | [] => [i]
  | j :: r => if near3 L ax ay i j < 0 then i :: j :: r else j :: insN L ax ay i r
/-- The ids within, the nearest first. -/
def srtN (L : List Th) (ax ay : Int) : List Int → List Int
  | [] => []
  | i :: r => insN L ax ay i (srtN L ax ay r)
def nearS (L : List Th) (ax ay r : Int) : List Int := srtN L ax ay (inL L ax ay r)
theorem insN_perm (L : List Th) (ax ay i : Int) : ∀ xs, (insN L ax ay i xs).Perm (i :: xs)
  | [] => List.Perm.refl _
  | j :: r => by
    unfold insN
    split
    · exact List.Perm.refl _
    · exact ((insN_perm L ax ay i r).cons j).trans (List.Perm.swap i j r)
theorem srtN_perm (L : List Th) (ax ay : Int) : ∀ xs, (srtN L ax ay xs).Perm xs
  | [] => List.Perm.refl _
  | i :: r => (insN_perm L ax ay i _).trans ((srtN_perm L ax ay r).cons i)
theorem insN_sorted {L : List Th} {ax ay i : Int} : ∀ {xs : List Int}, xs.Pairwise (fun x y => ¬ near3 L ax ay y x < 0) → (insN L ax ay i xs).Pairwise (fun x y => ¬ near3 L ax ay y x < 0)
  | [], _ => by simp [insN]
  | j :: r, h => by
    rw [List.pairwise_cons] at h
    unfold insN
    split
    · rename_i hlt
      rw [List.pairwise_cons]
      refine ⟨fun z hz => ?_, List.pairwise_cons.2 h⟩
      rcases List.mem_cons.1 hz with rfl | hz
      · rw [near3_neg] at hlt ⊢; omega
      · have h2 := h.1 z hz
        rw [near3_neg] at hlt h2 ⊢
        omega
    · rename_i hge
      rw [List.pairwise_cons]
      refine ⟨fun z hz => ?_, insN_sorted h.2⟩
      rcases List.mem_cons.1 ((insN_perm L ax ay i r).mem_iff.1 hz) with rfl | hz
      · exact hge
      · exact h.1 z hz
theorem srtN_sorted {L : List Th} {ax ay : Int} : ∀ xs : List Int, (srtN L ax ay xs).Pairwise (fun x y => ¬ near3 L ax ay y x < 0)
  | [] => List.Pairwise.nil
  | i :: r => insN_sorted (srtN_sorted r)
/-- There is one order by distance. -/
theorem nearS_one {L : List Th} {ax ay r : Int} {ys : List Int} (hp : ys.Perm (inL L ax ay r)) (hs : ys.Pairwise (fun x y => ¬ near3 L ax ay y x < 0)) : ys = nearS L ax ay r := by
  refine List.Perm.eq_of_pairwise (le := fun x y => ¬ near3 L ax ay y x < 0) ?_ hs (srtN_sorted _) (hp.trans (srtN_perm L ax ay _).symm)
  intro a b _ _ h1 h2
  rw [near3_neg] at h1 h2
  omega
theorem nearS_perm (L : List Th) (ax ay r : Int) : (nearS L ax ay r).Perm (inL L ax ay r) := srtN_perm L ax ay _
theorem nearS_sorted (L : List Th) (ax ay r : Int) : (nearS L ax ay r).Pairwise (fun x y => ¬ near3 L ax ay y x < 0) := srtN_sorted _
theorem inL_sorted {L : List Th} (h : Srt L) (ax ay r : Int) : (inL L ax ay r).Pairwise (fun x y => x < y) := by
  unfold inL
  rw [List.pairwise_map]
  exact List.Pairwise.filter _ h
theorem inL_one {L : List Th} (h : Srt L) {ax ay r : Int} {ys : List Int} (hp : ys.Perm (inL L ax ay r)) (hs : ys.Pairwise (fun x y => ¬ cmp3 y x < 0)) : ys = inL L ax ay r := by
  refine List.Perm.eq_of_pairwise (le := fun x y => ¬ y < x) ?_ (hs.imp (fun {a b} h => by rwa [cmp3_neg] at h)) ((inL_sorted h ax ay r).imp (fun {a b} h => by omega)) hp
  intro a b _ _ h1 h2
  omega
theorem inL_len (L : List Th) (ax ay r : Int) : (inL L ax ay r).length ≤ L.length := by
  unfold inL inT
  rw [List.length_map]
  exact List.length_filter_le _ _
theorem inL_wf {L : List Th} (h : ∀ t ∈ L, I64 t.id ∧ I64 t.x ∧ I64 t.y) (ax ay r : Int) : ∀ x ∈ inL L ax ay r, I64 x := by
  intro x hx
  obtain ⟨t, ht, e, _⟩ := inL_mem.1 hx
  rw [← e]
  exact (h t ht).1

/-! the walks -/
theorem sorted_calls {v : Value} {xs : List Int} {base : Nat} {w0 : World} (h : ki.R 3 w0 base (fun _ => True) v xs) (hx : ∀ x ∈ xs, I64 x) (hlen : xs.length ≤ 4000000000000) (g : Nat) (cb : Array Value) (cf : Int → Int → Int)
    (eg : ∀ args w, (callFunc g args).run Try.prog w = .ok (.enter g args) w) (hO : SWO (ltOf fun x y : N64 => cf x.1 y.1))
    (hcmp : ∀ W, w0.grownBy W v.ownBlock → ∀ x y, I64 x → I64 y → Calls Try.prog g (#[.int .i64 x, .int .i64 y] ++ cb) W fun e w' => e = .returned (.int .i64 (cf x y)) ∧ Lay W w') {w : World} (hw : Below w0.heap.size w0 w) :
    Calls Try.prog 30 #[v, .func (.func g) #[] cb] w fun e w' => e = .returned v ∧ ∃ ys : List Int, ys.Perm xs ∧ ys.Pairwise (fun x y => ¬ cf y x < 0) ∧ ki.R 3 w' base (fun _ => True) v ys ∧ w0.grownBy w' v.ownBlock := by
  have hs : ∀ W, Below w0.heap.size w0 W → Calls Try.prog 41 #[v, .func (.func g) #[] cb] W fun e w' => e = .returned (.tuple #[]) ∧ ∃ ys : List Int, ys.Perm xs ∧ ys.Pairwise (fun x y => ¬ cf y x < 0) ∧ ki.R 3 w' base (fun _ => True) v ys ∧ w0.grownBy w' v.ownBlock := by
    intro W hb
    refine (sort_calls (Kd.R_below h hb) hx hlen g cb cf eg hO (fun W2 h2 => hcmp W2 ((grown_of_below hb _).andThen h2 (fun j hj => Or.inr hj)))).mono ?_
    rintro e w' ⟨rfl, ys, h1, h2, h3, h4⟩
    exact ⟨rfl, ys, h1, h2, h3, (grown_of_below hb _).andThen h4 (fun j hj => Or.inr hj)⟩
  have HS := Aside0.mk hs
  have HW := Aside0.mk hw
  clear hs hcmp hO eg h hx hlen hw
  go_enter Try.func30, Try.ntmps30
  go_wp2_with (go_at_call 41; (with_reducible refine (HS.out _ ?side).mono ?_); (case side => exact (by repeat (first | (with_reducible first | exact HW.out | apply below_alloc | apply pw_below_drewN | apply below_drew1) | exact HW.out))); rintro e w2 ⟨rfl, hys⟩; have HY := Aside0.mk hys; clear hys)
  go_ret
  obtain ⟨ys, h1, h2, h3, h4⟩ := HY.out
  exact ⟨rfl, ys, h1, h2, h3, h4⟩
theorem enterF {P : Program} {f : FuncId} {fn : Func} {c : Code} (hf : P.funcs[f]? = some fn) (hname : (fn.name == "runtime.NumGoroutine") = false) (hb : fn.body = some c) (args : Array Value) (w : World) :
    (callFunc f args).run P w = .ok (.enter f args) w := by
  have h1 : ¬ fn.name = "runtime.NumGoroutine" := by simpa using hname
  simp [callFunc, hf, h1, hb]
theorem near17 {w : World} {gb pb cb : Nat} {F : Nat → Prop} {side : Int} {n : Nat} {L : List Th} {hd : Int → Int → Hd} {rows : Int → Int → List Int} (h : GridIn w gb pb cb F side n L hd rows) (hn : n ≤ 1000000) {ax ay r : Int} (hax : I64 ax) (hay : I64 ay) (hr : I64 r) :
    Calls Try.prog 17 #[.pointer (some ⟨gb, 0, none⟩), .agg #[.int .i64 ax, .int .i64 ay], .int .i64 r] w fun e w' =>
      ∃ v, e = .returned v ∧ ki.R 3 w' w.heap.size (fun _ => True) v (inL L ax ay r) ∧ Below w.heap.size w w' := by
  have HH := Aside0.mk h
  have HWF := Aside0.mk (inL_wf h.wf ax ay r)
  have HLN : Aside0 ((inL L ax ay r).length ≤ 1000000) := ⟨Nat.le_trans (inL_len L ax ay r) (Nat.le_trans h.len hn)⟩
  have HSR := Aside0.mk h.srt
  clear h
  go_enter Try.func17, Try.ntmps17
  go_wp2_with (first
    | (go_at_call 31; (with_reducible refine (near_calls (HH.out.below (by repeat (first | (with_reducible first | exact Below.refl _ _ | apply below_alloc | apply pw_below_drewN | apply below_drew1) | exact Below.refl _ _))) hn hax hay hr).mono ?_); rintro e w2 ⟨v, xs, rfl, hR, hp, hb2⟩; have HB2 := Aside0.mk (below_step (w := w) (by repeat (first | (with_reducible first | exact Below.refl _ _ | apply below_alloc | apply pw_below_drewN | apply below_drew1) | exact Below.refl _ _)) hb2); have HSZ := Aside0.mk HB2.out.size; have HR := Aside0.mk hR; have HP := Aside0.mk hp; clear hR hp hb2)
    | (go_at_call 30; (with_reducible refine (sorted_calls (w0 := w2) HR.out ?s1 ?s2 32 #[] cmp3 ?s3 swo_cmp3 ?s4 ?s5).mono ?_); (case s1 => exact fun x hx => HWF.out x (HP.out.mem_iff.1 hx)); (case s2 => have := HP.out.length_eq; have := HLN.out; omega); (case s3 => exact enterF Try.func32 (by kernel_rfl) rfl); (case s4 => exact fun W hW x y hx hy => (cmp_calls x y W).mono (fun e w' he => ⟨he.1, Lay.drawn (Lay.refl _) he.2⟩)); (case s5 => exact (by repeat (first | (with_reducible first | exact Below.refl _ _ | apply below_alloc | apply pw_below_drewN | apply below_drew1) | exact Below.refl _ _))); rintro e w3 ⟨rfl, ys, hp3, hs3, hR3, hg3⟩; have H3 := Aside0.mk (And.intro hp3 (And.intro hs3 (And.intro hR3 hg3))); clear hp3 hs3 hR3 hg3))
  go_ret
  obtain ⟨hp3, hs3, hR3, hg3⟩ := H3.out
  have e := inL_one HSR.out (hp3.trans HP.out) (hs3.imp (fun {a b} h => by omega))
  subst e
  exact ⟨_, rfl, Kd.R_lower hR3 (below_size (w := w) (by repeat (first | (with_reducible first | exact Below.refl _ _ | apply below_alloc | apply pw_below_drewN | apply below_drew1) | exact Below.refl _ _))), Below.grown HB2.out hg3 HSZ.out (fun k hk => Nat.le_trans (below_size (w := w) (by repeat (first | (with_reducible first | exact Below.refl _ _ | apply below_alloc | apply pw_below_drewN | apply below_drew1) | exact Below.refl _ _))) (Kd.R_base hR3 k hk))⟩
theorem near19_cmp {w w1 w2 W : World} {gb pb cb : Nat} {F : Nat → Prop} {side : Int} {n : Nat} {L : List Th} {hd : Int → Int → Hd} {rows : Int → Int → List Int} (h : GridIn w gb pb cb F side n L hd rows) {ax ay : Int} (hax : I64 ax) (hay : I64 ay)
    (hb1 : Below w.heap.size w w1) (hb2 : Below w1.heap.size w1 w2) (hk : w1.heap[w.heap.size]? = some (.cells #[.pointer (some ⟨gb, 0, none⟩)] 24) ∧ w1.heap[w.heap.size + 1]? = some (.cells #[.int .i64 ax, .int .i64 ay] 32) ∧ w.heap.size + 2 ≤ w1.heap.size)
    {v : Value} (hne : ∀ k, v.ownBlock = some k → w1.heap.size ≤ k) (hW : w2.grownBy W v.ownBlock) {x y : Int} (hx : I64 x) (hy : I64 y) :
    Calls Try.prog 34 (#[.int .i64 x, .int .i64 y] ++ #[.pointer (some ⟨w.heap.size, 0, none⟩), .pointer (some ⟨w.heap.size + 1, 0, none⟩)]) W fun e w' => e = .returned (.int .i64 (near3 L ax ay x y)) ∧ Lay W w' := by
  have hg2 := h.below (below_step hb1 hb2)
  have hgW : GridIn W gb pb cb F side n L hd rows := hg2.move hW.size (fun k hk => hW.block k (Nat.lt_of_lt_of_le (h.flt k hk) (Nat.le_trans hb1.size hb2.size)) (fun e => by have := hne k e.symm; have := h.flt k hk; have := hb1.size; omega))
  have z4 := hk.2.2
  have e0 : W.heap[w.heap.size]? = some (.cells #[.pointer (some ⟨gb, 0, none⟩)] 24) := (hW.block _ (Nat.lt_of_lt_of_le (blk_lt hk.1) hb2.size) (fun e => by have := hne _ e.symm; omega)).trans ((hb2.block _ (blk_lt hk.1)).trans hk.1)
  have e1 : W.heap[w.heap.size + 1]? = some (.cells #[.int .i64 ax, .int .i64 ay] 32) := (hW.block _ (Nat.lt_of_lt_of_le (blk_lt hk.2.1) hb2.size) (fun e => by have := hne _ e.symm; omega)).trans ((hb2.block _ (blk_lt hk.2.1)).trans hk.2.1)
  exact nearer_calls hgW hax hay e0 e1 hx hy
theorem near19 {w : World} {gb pb cb : Nat} {F : Nat → Prop} {side : Int} {n : Nat} {L : List Th} {hd : Int → Int → Hd} {rows : Int → Int → List Int} (h : GridIn w gb pb cb F side n L hd rows) (hn : n ≤ 1000000) {ax ay r N : Int} (hax : I64 ax) (hay : I64 ay) (hr : I64 r) :
    Calls Try.prog 19 #[.pointer (some ⟨gb, 0, none⟩), .agg #[.int .i64 ax, .int .i64 ay], .int .i64 r, .int .i64 N] w fun e w' =>
      ∃ A c m, e = .returned (.slice A m m) ∧ m = min N.toNat (nearS L ax ay r).length ∧ ki.R 3 w' w.heap.size (fun _ => True) (.slice A (nearS L ax ay r).length c) (nearS L ax ay r) ∧ Below w.heap.size w w' := by
  have HH := Aside0.mk h
  have HWF := Aside0.mk (inL_wf h.wf ax ay r)
  have HLN : Aside0 ((inL L ax ay r).length ≤ 1000000) := ⟨Nat.le_trans (inL_len L ax ay r) (Nat.le_trans h.len hn)⟩
  clear h
  go_enter Try.func19, Try.ntmps19
  go_upto_region 1 with fail
  refine absW (fun w1 => Below w.heap.size w w1 ∧ w1.heap[w.heap.size]? = some (.cells #[.pointer (some ⟨gb, 0, none⟩)] 24) ∧ w1.heap[w.heap.size + 1]? = some (.cells #[.int .i64 ax, .int .i64 ay] 32) ∧ w.heap.size + 2 ≤ w1.heap.size) ?_ ?_
  · exact ⟨(by repeat (first | (with_reducible first | exact Below.refl _ _ | apply below_alloc | apply pw_below_drewN | apply below_drew1) | exact Below.refl _ _)), (heap_alloc_old (w.alloc _) _ (by simp)).trans (heap_alloc_new w _), heap_alloc2_new w _ _, by simp⟩
  rintro w1 ⟨hb1, k0, k1, k4⟩
  have HB1 := Aside0.mk hb1
  have HK := Aside0.mk (And.intro k0 (And.intro k1 k4))
  have c0 := (blk_cell k0 0).trans rfl
  have c1 := (blk_cell k1 0).trans rfl
  have c2 := (blk_cell k1 1).trans rfl
  clear hb1 k0 k1 k4
  go_upto_region 2 with (first
    | (go_at_call 31; (with_reducible refine (near_calls (HH.out.below (below_step HB1.out (by repeat (first | (with_reducible first | exact Below.refl _ _ | apply below_alloc | apply pw_below_drewN | apply below_drew1) | exact Below.refl _ _)))) hn hax hay hr).mono ?_); rintro e w2 ⟨v, xs, rfl, hR, hp, hb2⟩; have HB2 := Aside0.mk (below_step (w := w1) (by repeat (first | (with_reducible first | exact Below.refl _ _ | apply below_alloc | apply pw_below_drewN | apply below_drew1) | exact Below.refl _ _)) hb2); have HR := Aside0.mk (Kd.R_lower hR (below_size (w := w1) (by repeat (first | (with_reducible first | exact Below.refl _ _ | apply below_alloc | apply pw_below_drewN | apply below_drew1) | exact Below.refl _ _)))); have HP := Aside0.mk hp; clear hR hp hb2)
    | (go_at_call 30; (with_reducible refine (sorted_calls (w0 := w2) HR.out ?s1 ?s2 34 #[.pointer (some ⟨w.heap.size, 0, none⟩), .pointer (some ⟨w.heap.size + 1, 0, none⟩)] (near3 L ax ay) ?s3 (swo_near3 L ax ay) ?s4 ?s5).mono ?_); (case s1 => exact fun x hx => HWF.out x (HP.out.mem_iff.1 hx)); (case s2 => have := HP.out.length_eq; have := HLN.out; omega); (case s3 => exact enterF Try.func34 (by kernel_rfl) rfl); (case s4 => exact fun W hW x y hx hy => near19_cmp HH.out hax hay HB1.out HB2.out HK.out (fun k hk => Kd.R_base HR.out k hk) hW hx hy); (case s5 => exact (by repeat (first | (with_reducible first | exact Below.refl _ _ | apply below_alloc | apply pw_below_drewN | apply below_drew1) | exact Below.refl _ _))); rintro e w3 ⟨rfl, ys, hp3, hs3, hR3, hg3⟩; have H3 := Aside0.mk (And.intro hp3 (And.intro hs3 (And.intro hR3 hg3))); clear hp3 hs3 hR3 hg3))
  obtain ⟨hp3, hs3, hR3, hg3⟩ := H3.out
  have e := nearS_one (hp3.trans HP.out) (hs3.imp (fun {a b} h => by omega))
  subst e
  have hb3 : Below w.heap.size w w3 := Below.grown (below_step HB1.out HB2.out) hg3 (Nat.le_trans HB1.out.size HB2.out.size) (fun k hk => Nat.le_trans HB1.out.size (Kd.R_base hR3 k hk))
  have HB3 := Aside0.mk hb3
  have HR3 := Aside0.mk (Kd.R_lower hR3 HB1.out.size)
  obtain ⟨A, c, rfl⟩ := Kd.R_slice hR3
  have hc := (Kd.R_reads' hR3).2.1
  obtain ⟨ys, hys⟩ : ∃ ys, nearS L ax ay r = ys := ⟨_, rfl⟩
  rw [hys] at hc HR3 ⊢
  obtain ⟨M, hM⟩ : ∃ M : Nat, M = min N.toNat ys.length := ⟨_, rfl⟩
  have hm : mx 0 (mn N (ys.length : Int)) = (M : Int) := by unfold mx mn; split <;> split <;> omega
  have m0 : (0 : Int) ≤ (M : Int) := by omega
  have m1 : (M : Int) ≤ (c : Int) := by omega
  have HM := Aside0.mk hM
  have HYS := Aside0.mk hys
  clear hb3 hR3 hp3 hs3 hg3 H3 HB2 HR HP hM hys
  go_wp2
  go_ret
  have hys := HYS.out
  subst hys
  exact ⟨A, c, M, rfl, HM.out, HR3.out, below_step HB3.out (by repeat (first | (with_reducible first | exact Below.refl _ _ | apply below_alloc | apply pw_below_drewN | apply below_drew1) | exact Below.refl _ _))⟩
end Go.Proofs.Ytggmfmlfkhcbdaa.Gr
