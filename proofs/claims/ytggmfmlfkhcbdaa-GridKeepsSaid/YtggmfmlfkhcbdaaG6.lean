/- Delete. -/
import Derived.Test.YtggmfmlfkhcbdaaG5
namespace Go.Proofs.Ytggmfmlfkhcbdaa.Gr
open Go Go.RowKit Go.Maps Go.Proofs.YtggmfmlfkhcbdaaW.PrintWords Go.Proofs.YtggmfmlfkhcbdaaW.PrintLast Go.Proofs.YtggmfmlfkhcbdaaW.PrintMore
set_option linter.unusedVariables false
set_option linter.unusedSimpArgs false

def T_13_1 : Bool × List (List Nat × List Nat) := (true, [([], []), ([0], [0]), ([1], [1]), ([2], [2]), ([], []), ([3, 4], [3, 4]), ([5], [5]), ([6], [6]), ([6], [6]), ([], []), ([9, 7, 0, 1, 2, 3, 4, 5, 6, 7, 9], [7, 9]), ([8, 10, 0, 1, 2, 3, 4, 5, 6, 7, 8, 9, 10], [8])])
def B_13_1 : List Nat := [0, 1, 3, 7, 0, 31, 63, 127, 127, 0, 767, 2047]
theorem tab_f13_1 : rtab .any (opsOf Try.f13 1) = T_13_1 := by kernel_rfl
theorem bits_f13_1 : waitsOk T_13_1.2 B_13_1 = true := by kernel_rfl
def T_13_4 : Bool × List (List Nat × List Nat) := (true, [([], []), ([0], [0]), ([1], [1]), ([2], [2]), ([], []), ([3, 4], [3, 4])])
def B_13_4 : List Nat := [0, 1, 3, 7, 0, 31]
theorem tab_f13_4 : rtab .any (opsOf Try.f13 4) = T_13_4 := by kernel_rfl
theorem bits_f13_4 : waitsOk T_13_4.2 B_13_4 = true := by kernel_rfl
def T_13_6 : Bool × List (List Nat × List Nat) := (true, [([], []), ([0], [0]), ([1], [1]), ([2], [2]), ([], []), ([3, 4], [3, 4]), ([], []), ([5, 6], [5, 6]), ([7, 7, 0, 1, 2, 3, 4, 5, 6, 7], [7])])
def B_13_6 : List Nat := [0, 1, 3, 7, 0, 31, 0, 127, 255]
theorem tab_f13_6 : rtab .any (opsOf Try.f13 6) = T_13_6 := by kernel_rfl
theorem bits_f13_6 : waitsOk T_13_6.2 B_13_6 = true := by kernel_rfl
def T_13_8 : Bool × List (List Nat × List Nat) := (true, [([], []), ([0], [0]), ([1], [1]), ([2], [2]), ([], []), ([3, 4], [3, 4])])
def B_13_8 : List Nat := [0, 1, 3, 7, 0, 31]
theorem tab_f13_8 : rtab .any (opsOf Try.f13 8) = T_13_8 := by kernel_rfl
theorem bits_f13_8 : waitsOk T_13_8.2 B_13_8 = true := by kernel_rfl
def T_13_10 : Bool × List (List Nat × List Nat) := (true, [([], []), ([0], [0]), ([1], [1]), ([2], [2]), ([], []), ([], []), ([3, 4, 5, 0, 1, 2, 3, 4, 5], [3, 4, 5])])
def B_13_10 : List Nat := [0, 1, 3, 7, 0, 0, 63]
theorem tab_f13_10 : rtab .any (opsOf Try.f13 10) = T_13_10 := by kernel_rfl
theorem bits_f13_10 : waitsOk T_13_10.2 B_13_10 = true := by kernel_rfl
def T_10_2 : Bool × List (List Nat × List Nat) := (true, [([], []), ([0], [0]), ([1], [1]), ([2], [2]), ([], []), ([], []), ([3, 4, 5, 0, 1, 2, 3, 4, 5], [3, 4, 5])])
def B_10_2 : List Nat := [0, 1, 3, 7, 0, 0, 63]
theorem tab_f10_2 : rtab .any (opsOf Try.f10 2) = T_10_2 := by kernel_rfl
theorem bits_f10_2 : waitsOk T_10_2.2 B_10_2 = true := by kernel_rfl
def T_10_4 : Bool × List (List Nat × List Nat) := (true, [([], []), ([0], [0]), ([1], [1]), ([2], [2]), ([], []), ([], []), ([5], [5]), ([3, 4, 0, 1, 2, 3, 4, 5, 6], [3, 4]), ([7], [7]), ([8, 6, 7], [6, 8]), ([7], [7]), ([3, 10, 9, 9, 0, 1, 2, 3, 4, 5, 6, 7, 8, 9, 10], [3, 9, 10])])
def B_10_4 : List Nat := [0, 1, 3, 7, 0, 0, 32, 127, 255, 511, 255, 2047]
theorem tab_f10_4 : rtab .any (opsOf Try.f10 4) = T_10_4 := by kernel_rfl
theorem bits_f10_4 : waitsOk T_10_4.2 B_10_4 = true := by kernel_rfl

/-! plain -/
def noI (xs : List Int) (id : Int) : List Int := xs.filter (fun x => !(x == id))
theorem noI_self {xs : List Int} {id : Int} (h : id ∉ xs) : noI xs id = xs := by
  unfold noI
  rw [List.filter_eq_self]
  intro x hx
  have : x ≠ id := fun e => h (e ▸ hx)
  simpa using this
theorem noI_one {id : Int} : ∀ {xs : List Int} {i : Nat}, xs.Nodup → xs[i]? = some id → noI xs id = xs.eraseIdx i
  | [], i, _, h => by simp at h
  | a :: r, 0, hn, h => by
    rw [List.nodup_cons] at hn
    simp at h
    subst h
    have := noI_self hn.1
    unfold noI at this ⊢
    rw [List.filter_cons]
    simp only [beq_self_eq_true, Bool.not_true, Bool.false_eq_true, if_false, List.eraseIdx_cons_zero]
    exact this
  | a :: r, i + 1, hn, h => by
    rw [List.nodup_cons] at hn
    simp at h
    have hne : a ≠ id := fun e => hn.1 (e ▸ List.mem_of_getElem? h)
    have ih := noI_one (xs := r) (i := i) hn.2 h
    unfold noI at ih ⊢
    rw [List.filter_cons]
    simp only [beq_eq_false_iff_ne.2 hne, Bool.not_false, if_true, List.eraseIdx_cons_succ, ih]
theorem noI_mem {xs : List Int} {id z : Int} : z ∈ noI xs id ↔ z ∈ xs ∧ z ≠ id := by simp [noI]
theorem ki_one {W w1 : World} {base : Nat} {ok : Nat → Prop} {v : Value} {xs : List Int} (h : ki.R 3 W base ok v xs) (hm : ∀ k, v.ownBlock = some k → w1.heap[k]? = W.heap[k]?) : ki.R 3 w1 base ok v xs := by
  refine Kd.R_mono (Kd.R_move (Kd.R_tight2 rfl h) (fun k hk => hm k hk.1.symm)) (fun k hk => hk.2)

theorem GridIn.look0 {w : World} {gb pb cb : Nat} {F : Nat → Prop} {side : Int} {n : Nat} {L : List Th} {hd : Int → Int → Hd} {rows : Int → Int → List Int} (h : GridIn w gb pb cb F side n L hd rows) {id : Int} (hid : I64 id) (hh : hasP L id = false) :
    (Instr.lookup 52 (.map (some pb)) (.int .i64 id) true).run Try.prog w = .ok (.tuple #[.agg #[.int .i64 0, .int .i64 0], .bool false]) w := by
  have := (h.look hid).1
  rw [hh, atL_none hh] at this
  exact this
set_option maxHeartbeats 1000000 in
theorem del_none {w : World} {gb pb cb : Nat} {F : Nat → Prop} {side : Int} {n : Nat} {L : List Th} {hd : Int → Int → Hd} {rows : Int → Int → List Int} (h : GridIn w gb pb cb F side n L hd rows) {id : Int} (hid : I64 id) (hh : hasP L id = false) :
    Calls Try.prog 13 #[.pointer (some ⟨gb, 0, none⟩), .int .i64 id] w fun e w' => e = .returned (.bool false) ∧ Below w.heap.size w w' := by
  have hg1 : GridIn (w.alloc (.cells #[.int .i64 id] 3)) gb pb cb F side n L hd rows := h.below (by repeat (first | (with_reducible first | exact Below.refl _ _ | apply below_alloc | apply pw_below_drewN | apply below_drew1) | exact Below.refl _ _))
  have HG := Aside0.mk hg1
  have s1 := hg1.c1
  have s2 : (w.alloc (.cells #[.int .i64 id] 3)).cell? ⟨w.heap.size, 0, none⟩ = some (.int .i64 id) := new_cell _ _ _ rfl
  have s3 := (hg1.look hid).1
  rw [hh, atL_none hh] at s3
  have HH := Aside0.mk hh
  clear h hh hg1
  go_enter Try.func13, Try.ntmps13
  go_wp2
  refine start_ (n := 12) (S := fun w' => w'.cell? ⟨gb, 1, none⟩ = some (.map (some pb)) ∧ w'.cell? ⟨w.heap.size, 0, none⟩ = some (.int .i64 id) ∧ (Instr.lookup 52 (.map (some pb)) (.int .i64 id) true).run Try.prog w' = .ok (.tuple #[.agg #[.int .i64 0, .int .i64 0], .bool false]) w') (ds := [10]) #[false, false, false, false, false, false, false, false, false, false, false, false] (by kernel_rfl) rfl rfl ⟨s1, s2, (HG.out.below (by repeat (first | (with_reducible first | exact Below.refl _ _ | apply below_alloc | apply pw_below_drewN | apply below_drew1) | exact Below.refl _ _))).look0 hid HH.out⟩ (fun hHeld => ?_)
  refine with_tabW tab_f13_1 bits_f13_1 (fun HT_ HW_ => ?_)
  refine pure_ (i := 0) (N := some 10) (v := ?_) (a' := ?_) #[true, false, false, false, false, false, false, false, false, false, false, false] rfl rfl (any_of HT_.out (by kernel_rfl)) (fun _ _ _ h => h) (Or.inl ⟨by rfl, ?_⟩) ?_ ?_
  rotate_left
  · intro w'
    go_simp
    with_reducible rfl
  rotate_left
  · simp only [Act.put, List.setIfInBounds_toArray, List.set_cons_zero, List.set_cons_succ, i64_w, i32_w]
    rfl
  refine pure_ (i := 1) (N := some 11) (v := ?_) (a' := ?_) #[true, true, false, false, false, false, false, false, false, false, false, false] rfl rfl (any_of HT_.out (by kernel_rfl)) (fun _ _ _ h => h) (Or.inl ⟨by rfl, ?_⟩) ?_ ?_
  rotate_left
  · intro w'
    go_simp
    with_reducible rfl
  rotate_left
  · simp only [Act.put, List.setIfInBounds_toArray, List.set_cons_zero, List.set_cons_succ, i64_w, i32_w]
    rfl
  refine pure_ (i := 2) (N := some 12) (v := ?_) (a' := ?_) #[true, true, true, false, false, false, false, false, false, false, false, false] rfl rfl (any_of HT_.out (by kernel_rfl)) (fun _ _ _ h => h) (Or.inl ⟨by rfl, ?_⟩) ?_ ?_
  rotate_left
  · intro w'
    go_simp
    with_reducible rfl
  rotate_left
  · simp only [Act.put, List.setIfInBounds_toArray, List.set_cons_zero, List.set_cons_succ, i64_w, i32_w]
    rfl
  refine take_ (i := 3) (N := some 13) (v := ?_) (a' := ?_) #[true, true, true, true, false, false, false, false, false, false, false, false] rfl rfl (take_ofW HT_.out HW_.out (by kernel_rfl)) (fun _ _ _ h => h) (Or.inl ⟨by rfl, ?_⟩) hHeld ?_ ?_
  rotate_left
  · rintro w' ⟨s1, s2, s3⟩
    go_simp
    with_reducible rfl
  rotate_left
  · simp only [Act.put, List.setIfInBounds_toArray, List.set_cons_zero, List.set_cons_succ, i64_w, i32_w]
    rfl
  refine take_ (i := 4) (N := some 14) (v := ?_) (a' := ?_) #[true, true, true, true, true, false, false, false, false, false, false, false] rfl rfl (take_ofW HT_.out HW_.out (by kernel_rfl)) (fun _ _ _ h => h) (Or.inl ⟨by rfl, ?_⟩) hHeld ?_ ?_
  rotate_left
  · rintro w' ⟨s1, s2, s3⟩
    go_simp
    with_reducible rfl
  rotate_left
  · simp only [Act.put, List.setIfInBounds_toArray, List.set_cons_zero, List.set_cons_succ, i64_w, i32_w]
    rfl
  refine take_ (i := 5) (N := some 15) (v := ?_) (a' := ?_) #[true, true, true, true, true, true, false, false, false, false, false, false] rfl rfl (take_ofW HT_.out HW_.out (by kernel_rfl)) (fun _ _ _ h => h) (Or.inl ⟨by rfl, ?_⟩) hHeld ?_ ?_
  rotate_left
  · rintro w' ⟨s1, s2, s3⟩
    go_simp
    with_reducible rfl
  rotate_left
  · simp only [Act.put, List.setIfInBounds_toArray, List.set_cons_zero, List.set_cons_succ, i64_w, i32_w]
    rfl
  refine pure_ (i := 6) (N := some 9) (v := ?_) (a' := ?_) #[true, true, true, true, true, true, true, false, false, false, false, false] rfl rfl (any_of HT_.out (by kernel_rfl)) (fun _ _ _ h => h) (Or.inl ⟨by rfl, ?_⟩) ?_ ?_
  rotate_left
  · intro w'
    go_simp
    with_reducible rfl
  rotate_left
  · simp only [Act.put, List.setIfInBounds_toArray, List.set_cons_zero, List.set_cons_succ, i64_w, i32_w]
    rfl
  refine pure_ (i := 7) (N := some 16) (v := ?_) (a' := ?_) #[true, true, true, true, true, true, true, true, false, false, false, false] rfl rfl (any_of HT_.out (by kernel_rfl)) (fun _ _ _ h => h) (Or.inl ⟨by rfl, ?_⟩) ?_ ?_
  rotate_left
  · intro w'
    go_simp
    with_reducible rfl
  rotate_left
  · simp only [Act.put, List.setIfInBounds_toArray, List.set_cons_zero, List.set_cons_succ, i64_w, i32_w]
    rfl
  refine pure_ (i := 8) (N := some 17) (v := ?_) (a' := ?_) #[true, true, true, true, true, true, true, true, true, false, false, false] rfl rfl (any_of HT_.out (by kernel_rfl)) (fun _ _ _ h => h) (Or.inl ⟨by rfl, ?_⟩) ?_ ?_
  rotate_left
  · intro w'
    go_simp
    with_reducible rfl
  rotate_left
  · simp only [Act.put, List.setIfInBounds_toArray, List.set_cons_zero, List.set_cons_succ, i64_w, i32_w]
    rfl
  refine one_ (i := 9) (N := some 5) #[true, true, true, true, true, true, true, true, true, true, false, false] rfl rfl (one_of HT_.out (by kernel_rfl)) (by decide) (fun K hK => ?_)
  refine val_ (v := ?_) (w' := ?_) (by rfl) rfl ?hrun ?_
  case hrun => go_simp; refine ⟨?_, ?_⟩ <;> rfl
  refine hK.out _ _ ⟨below_cell (by repeat (first | (with_reducible first | exact Below.refl _ _ | apply below_alloc | apply pw_below_drewN | apply below_drew1) | exact Below.refl _ _)) s1, below_cell (by repeat (first | (with_reducible first | exact Below.refl _ _ | apply below_alloc | apply pw_below_drewN | apply below_drew1) | exact Below.refl _ _)) s2, (HG.out.below (by repeat (first | (with_reducible first | exact Below.refl _ _ | apply below_alloc | apply pw_below_drewN | apply below_drew1) | exact Below.refl _ _))).look0 hid HH.out⟩ (fun hHeld => ?_)
  clear hK K
  refine norm_ (a' := ?_) ?_ ?_
  rotate_left
  · show Act.put _ (some 5) _ = _
    simp only [Act.put, List.setIfInBounds_toArray, List.set_cons_zero, List.set_cons_succ, i64_w, i32_w]
    rfl
  refine last_ (i := 10) (N := none) #[true, true, true, true, true, true, true, true, true, true, true, false] rfl rfl (one_of HT_.out (by kernel_rfl)) (by decide) (fun K hK => ?_)
  refine unit_ (w' := ?_) (by rfl) rfl ?hrun ?_
  case hrun => go_simp; rfl
  refine hK.out _ _ ?_
  clear hK K
  refine norm_ (a' := ?_) ?_ ?_
  rotate_left
  · show Act.put _ (none) _ = _
    simp only [Act.put, List.setIfInBounds_toArray, List.set_cons_zero, List.set_cons_succ, i64_w, i32_w]
    rfl
  refine pure_ (i := 11) (N := some 6) (v := ?_) (a' := ?_) #[true, true, true, true, true, true, true, true, true, true, true, true] rfl rfl (any_of HT_.out (by kernel_rfl)) (fun _ _ _ h => h) (Or.inl ⟨by rfl, ?_⟩) ?_ ?_
  rotate_left
  · intro w'
    go_simp
    with_reducible rfl
  rotate_left
  · simp only [Act.put, List.setIfInBounds_toArray, List.set_cons_zero, List.set_cons_succ, i64_w, i32_w]
    rfl
  refine done_ (done_of HT_.out (by kernel_rfl)) ?_
  go_wp2
  go_ret
  exact ⟨rfl, (by repeat (first | (with_reducible first | exact Below.refl _ _ | apply below_alloc | apply pw_below_drewN | apply below_drew1) | exact Below.refl _ _))⟩
theorem absW {P : Program} {c : Code} {Q : Exit → Act → World → Prop} {a : Act} {w : World} (Facts : World → Prop) (hf : Facts w) (h : ∀ w1, Facts w1 → Code.wp P c Q a w1) : Code.wp P c Q a w := h w hf
theorem Mv.of_turned {w w' : World} {b : Nat} (h : w.mapTurned w' b) : Mv w w' (fun k => k = b) := Mv.of_grown h.grown (fun k hk => by injection hk with hk; exact hk.symm)
theorem undrewG {w w' : World} {row : Option Nat} (h : w.drew.grownBy w' row) : w.grownBy w' row := ⟨h.os, h.tape, h.output, h.size, h.block⟩
theorem Mv.undrew {w w' : World} {S : Nat → Prop} (h : Mv w.drew w' S) : Mv w w' S := ⟨h.os, h.tape, h.output, h.size, h.block⟩
theorem noI_other {L : List Th} {rows : Int → Int → List Int} {side : Int} (hs : Srt L) (hm : ∀ x y id, id ∈ rows x y ↔ ∃ t ∈ L, t.id = id ∧ t.x / side = x ∧ t.y / side = y) {t : Th} (ht : t ∈ L) {x y : Int} (hne : ¬ (x = t.x / side ∧ y = t.y / side)) : noI (rows x y) t.id = rows x y := by
  refine noI_self (fun h => ?_)
  obtain ⟨t', ht', e1, e2, e3⟩ := (hm x y t.id).1 h
  have := hs.inj ht' ht e1
  subst this
  exact hne ⟨e2.symm, e3.symm⟩
theorem noI_rows {L : List Th} {rows : Int → Int → List Int} {side : Int} (hm : ∀ x y id, id ∈ rows x y ↔ ∃ t ∈ L, t.id = id ∧ t.x / side = x ∧ t.y / side = y) (p : Int) : ∀ x y id, id ∈ noI (rows x y) p ↔ ∃ t ∈ dropP L p, t.id = id ∧ t.x / side = x ∧ t.y / side = y := by
  intro x y id
  rw [noI_mem, hm]
  constructor
  · rintro ⟨⟨t, ht, e1, e2⟩, hne⟩
    exact ⟨t, mem_drop.2 ⟨ht, by rw [e1]; exact hne⟩, e1, e2⟩
  · rintro ⟨t, ht, e1, e2⟩
    obtain ⟨h1, h2⟩ := mem_drop.1 ht
    exact ⟨⟨t, h1, e1, e2⟩, by rw [← e1]; exact h2⟩

theorem two_new (w : World) (A B : Obj) : ((w.alloc A).alloc B).drew.heap[w.heap.size + 1]? = some B := heap_alloc2_new w A B
theorem two_old (w : World) (A B : Obj) : ((w.alloc A).alloc B).drew.heap[w.heap.size]? = some A := (heap_alloc_old (w.alloc A) B (by simp)).trans (heap_alloc_new w A)
theorem own_below {w w1 : World} {mb n : Nat} {D : Dt} (h : w.ownsMap Try.prog 3 vElem mb n D) (hb : Below w.heap.size w w1) : w1.ownsMap Try.prog 3 vElem mb n D := by
  obtain ⟨es, clock, e, r⟩ := h
  exact ⟨es, clock, (hb.block mb (Array.getElem?_eq_some_iff.1 e).1).trans e, r⟩
theorem nodup_unique {xs : List Int} (hn : xs.Nodup) {i j : Nat} {a : Int} (h1 : xs[i]? = some a) (h2 : xs[j]? = some a) : i = j := by
  obtain ⟨l1, e1⟩ := List.getElem?_eq_some_iff.1 h1
  obtain ⟨l2, e2⟩ := List.getElem?_eq_some_iff.1 h2
  have hp := List.pairwise_iff_getElem.1 hn
  rcases Nat.lt_trichotomy i j with h | h | h
  · exact absurd (e1.trans e2.symm) (hp i j l1 l2 h)
  · exact h
  · exact absurd (e2.trans e1.symm) (hp j i l2 l1 h)
theorem GridIn.drop_done {w w6 : World} {gb pb cb : Nat} {F : Nat → Prop} {side : Int} {n : Nat} {L : List Th} {hd : Int → Int → Hd} {rows : Int → Int → List Int} (h : GridIn w gb pb cb F side n L hd rows) {t : Th} (ht : t ∈ L) {g cap i0 : Nat}
    (hh : hd (t.x / side) (t.y / side) = some (g, (rows (t.x / side) (t.y / side)).length, cap)) (M : Mv w w6 (fun k => k = pb ∨ k = cb ∨ k = g)) (own : w6.ownsMap Try.prog 3 vElem pb n (GM (dropP L t.id))) (q : Hd)
    (cells : CellsAt w6 cb (n + 1) (updH hd (t.x / side) (t.y / side) q)) (hq : q = none ∧ (rows (t.x / side) (t.y / side)).length = 1 ∨ q = some (g, (rows (t.x / side) (t.y / side)).length - 1, cap))
    (hR : ki.R 3 w6 0 F (.slice (some ⟨g, 0, none⟩) ((rows (t.x / side) (t.y / side)).length - 1) cap) ((rows (t.x / side) (t.y / side)).eraseIdx i0)) (hi : (rows (t.x / side) (t.y / side))[i0]? = some t.id) :
    GridIn w6 gb pb cb F side (n + 1) (dropP L t.id) (updH hd (t.x / side) (t.y / side) q) (fun x y => noI (rows x y) t.id) := by
  obtain ⟨_, _, g1, g2, g3⟩ := h.rowS _ _ _ _ _ hh
  have hne := h.ne
  have eX := noI_one (h.nd _ _) hi
  have hlt0 : i0 < (rows (t.x / side) (t.y / side)).length := (List.getElem?_eq_some_iff.1 hi).1
  have eL : (noI (rows (t.x / side) (t.y / side)) t.id).length = (rows (t.x / side) (t.y / side)).length - 1 := by rw [eX, List.length_eraseIdx_of_lt hlt0]
  have other : ∀ x y, ¬ (x = t.x / side ∧ y = t.y / side) → noI (rows x y) t.id = rows x y := fun x y hn => noI_other h.srt h.mem ht hn
  exact {
    c0 := M.cell h.c0 (by simp only; omega)
    c1 := M.cell h.c1 (by simp only; omega)
    c2 := M.cell h.c2 (by simp only; omega)
    own := own.mono (Nat.le_succ _)
    cells := cells
    srt := h.srt.drop _
    wf := fun z hz => h.wf z (mem_drop.1 hz).1
    row0 := fun x y e => by
      by_cases hxy : x = t.x / side ∧ y = t.y / side
      · obtain ⟨rfl, rfl⟩ := hxy
        rw [updH_same] at e
        rcases hq with ⟨_, hl⟩ | hq
        · exact List.eq_nil_of_length_eq_zero (by omega)
        · rw [hq] at e
          cases e
      · rw [updH_other _ _ hxy] at e
        rw [other x y hxy]
        exact h.row0 x y e
    rowS := fun x y g' m' c' e => by
      by_cases hxy : x = t.x / side ∧ y = t.y / side
      · obtain ⟨rfl, rfl⟩ := hxy
        rw [updH_same] at e
        rcases hq with ⟨hq, _⟩ | hq
        · rw [hq] at e
          cases e
        · rw [hq] at e
          injection e with e
          injection e with e1 e2
          injection e2 with e2 e3
          subst e1
          subst e2
          subst e3
          refine ⟨eL.symm, ?_, g1, g2, g3⟩
          rw [eL, eX]
          exact hR
      · rw [updH_other _ _ hxy] at e
        rw [other x y hxy]
        obtain ⟨r1, r2, r3⟩ := h.rowS x y g' m' c' e
        refine ⟨r1, ki_one r2 (fun k hk => M.block k (h.flt k (r2.1 k hk)) ?_), r3⟩
        injection hk with hk
        have hk : g' = k := hk
        subst hk
        intro hor
        rcases hor with e1 | e1 | e1
        · exact r3.2.1 e1
        · exact r3.2.2 e1
        · subst e1
          exact hxy (h.apart _ _ _ _ _ _ _ _ _ e hh)
    apart := fun x y a b g' m' c' m'' c'' e1 e2 => by
      by_cases hxy : x = t.x / side ∧ y = t.y / side
      · obtain ⟨rfl, rfl⟩ := hxy
        by_cases hab : a = t.x / side ∧ b = t.y / side
        · exact ⟨hab.1.symm, hab.2.symm⟩
        · rw [updH_same] at e1
          rw [updH_other _ _ hab] at e2
          rcases hq with ⟨hq, _⟩ | hq
          · rw [hq] at e1
            cases e1
          · rw [hq] at e1
            injection e1 with e1
            injection e1 with e1 _
            subst e1
            exact h.apart _ _ _ _ _ _ _ _ _ hh e2
      · rw [updH_other _ _ hxy] at e1
        by_cases hab : a = t.x / side ∧ b = t.y / side
        · obtain ⟨rfl, rfl⟩ := hab
          rw [updH_same] at e2
          rcases hq with ⟨hq, _⟩ | hq
          · rw [hq] at e2
            cases e2
          · rw [hq] at e2
            injection e2 with e2
            injection e2 with e2 _
            subst e2
            exact h.apart _ _ _ _ _ _ _ _ _ e1 hh
        · rw [updH_other _ _ hab] at e2
          exact h.apart _ _ _ _ _ _ _ _ _ e1 e2
    mem := noI_rows h.mem t.id
    nd := fun x y => List.Pairwise.filter _ (h.nd x y)
    ne := h.ne
    fg := h.fg
    fp := h.fp
    fc := h.fc
    flt := fun k hk => Nat.lt_of_lt_of_le (h.flt k hk) M.size
    s1 := h.s1
    s2 := h.s2 }
theorem GridIn.lookT {w : World} {gb pb cb : Nat} {F : Nat → Prop} {side : Int} {n : Nat} {L : List Th} {hd : Int → Int → Hd} {rows : Int → Int → List Int} (h : GridIn w gb pb cb F side n L hd rows) (hs : Srt L) {t : Th} (ht : t ∈ L) :
    (Instr.lookup 52 (.map (some pb)) (.int .i64 t.id) true).run Try.prog w = .ok (.tuple #[.agg #[.int .i64 t.x, .int .i64 t.y], .bool true]) w := by
  have := (h.look (h.wf t ht).1).1
  rw [hasP_iff.2 ⟨t, ht, rfl⟩, atL_mem hs ht] at this
  exact this
set_option maxHeartbeats 2000000 in
set_option maxRecDepth 10000 in
theorem del_some {w : World} {gb pb cb : Nat} {F : Nat → Prop} {side : Int} {n : Nat} {L : List Th} {hd : Int → Int → Hd} {rows : Int → Int → List Int} (h : GridIn w gb pb cb F side n L hd rows) (hn : n ≤ 4000000000000) {t : Th} (ht : t ∈ L) :
    Calls Try.prog 13 #[.pointer (some ⟨gb, 0, none⟩), .int .i64 t.id] w fun e w' => e = .returned (.bool true) ∧ ∃ hd', GridIn w' gb pb cb F side (n + 1) (dropP L t.id) hd' (fun x y => noI (rows x y) t.id) ∧ Mv w w' F := by
  have hg1 : GridIn (w.alloc (.cells #[.int .i64 t.id] 3)) gb pb cb F side n L hd rows := h.below (by repeat (first | (with_reducible first | exact Below.refl _ _ | apply below_alloc | apply pw_below_drewN | apply below_drew1) | exact Below.refl _ _))
  have HG := Aside0.mk hg1
  have HG0 := Aside0.mk h
  have HS := Aside0.mk h.srt
  have HT := Aside0.mk ht
  have s1 := hg1.c1
  have s2 : (w.alloc (.cells #[.int .i64 t.id] 3)).cell? ⟨w.heap.size, 0, none⟩ = some (.int .i64 t.id) := new_cell _ _ _ rfl
  have s3 := hg1.lookT h.srt ht
  clear h hg1
  go_enter Try.func13, Try.ntmps13
  go_wp2
  refine start_ (n := 12) (S := fun w' => w'.cell? ⟨gb, 1, none⟩ = some (.map (some pb)) ∧ w'.cell? ⟨w.heap.size, 0, none⟩ = some (.int .i64 t.id) ∧ (Instr.lookup 52 (.map (some pb)) (.int .i64 t.id) true).run Try.prog w' = .ok (.tuple #[.agg #[.int .i64 t.x, .int .i64 t.y], .bool true]) w') (ds := [10]) #[false, false, false, false, false, false, false, false, false, false, false, false] (by kernel_rfl) rfl rfl ⟨s1, s2, (HG.out.below (by repeat (first | (with_reducible first | exact Below.refl _ _ | apply below_alloc | apply pw_below_drewN | apply below_drew1) | exact Below.refl _ _))).lookT HS.out HT.out⟩ (fun hHeld => ?_)
  refine with_tabW tab_f13_1 bits_f13_1 (fun HT_ HW_ => ?_)
  refine pure_ (i := 0) (N := some 10) (v := ?_) (a' := ?_) #[true, false, false, false, false, false, false, false, false, false, false, false] rfl rfl (any_of HT_.out (by kernel_rfl)) (fun _ _ _ h => h) (Or.inl ⟨by rfl, ?_⟩) ?_ ?_
  rotate_left
  · intro w'
    go_simp
    with_reducible rfl
  rotate_left
  · simp only [Act.put, List.setIfInBounds_toArray, List.set_cons_zero, List.set_cons_succ, i64_w, i32_w]
    rfl
  refine pure_ (i := 1) (N := some 11) (v := ?_) (a' := ?_) #[true, true, false, false, false, false, false, false, false, false, false, false] rfl rfl (any_of HT_.out (by kernel_rfl)) (fun _ _ _ h => h) (Or.inl ⟨by rfl, ?_⟩) ?_ ?_
  rotate_left
  · intro w'
    go_simp
    with_reducible rfl
  rotate_left
  · simp only [Act.put, List.setIfInBounds_toArray, List.set_cons_zero, List.set_cons_succ, i64_w, i32_w]
    rfl
  refine pure_ (i := 2) (N := some 12) (v := ?_) (a' := ?_) #[true, true, true, false, false, false, false, false, false, false, false, false] rfl rfl (any_of HT_.out (by kernel_rfl)) (fun _ _ _ h => h) (Or.inl ⟨by rfl, ?_⟩) ?_ ?_
  rotate_left
  · intro w'
    go_simp
    with_reducible rfl
  rotate_left
  · simp only [Act.put, List.setIfInBounds_toArray, List.set_cons_zero, List.set_cons_succ, i64_w, i32_w]
    rfl
  refine take_ (i := 3) (N := some 13) (v := ?_) (a' := ?_) #[true, true, true, true, false, false, false, false, false, false, false, false] rfl rfl (take_ofW HT_.out HW_.out (by kernel_rfl)) (fun _ _ _ h => h) (Or.inl ⟨by rfl, ?_⟩) hHeld ?_ ?_
  rotate_left
  · rintro w' ⟨s1, s2, s3⟩
    go_simp
    with_reducible rfl
  rotate_left
  · simp only [Act.put, List.setIfInBounds_toArray, List.set_cons_zero, List.set_cons_succ, i64_w, i32_w]
    rfl
  refine take_ (i := 4) (N := some 14) (v := ?_) (a' := ?_) #[true, true, true, true, true, false, false, false, false, false, false, false] rfl rfl (take_ofW HT_.out HW_.out (by kernel_rfl)) (fun _ _ _ h => h) (Or.inl ⟨by rfl, ?_⟩) hHeld ?_ ?_
  rotate_left
  · rintro w' ⟨s1, s2, s3⟩
    go_simp
    with_reducible rfl
  rotate_left
  · simp only [Act.put, List.setIfInBounds_toArray, List.set_cons_zero, List.set_cons_succ, i64_w, i32_w]
    rfl
  refine take_ (i := 5) (N := some 15) (v := ?_) (a' := ?_) #[true, true, true, true, true, true, false, false, false, false, false, false] rfl rfl (take_ofW HT_.out HW_.out (by kernel_rfl)) (fun _ _ _ h => h) (Or.inl ⟨by rfl, ?_⟩) hHeld ?_ ?_
  rotate_left
  · rintro w' ⟨s1, s2, s3⟩
    go_simp
    with_reducible rfl
  rotate_left
  · simp only [Act.put, List.setIfInBounds_toArray, List.set_cons_zero, List.set_cons_succ, i64_w, i32_w]
    rfl
  refine pure_ (i := 6) (N := some 9) (v := ?_) (a' := ?_) #[true, true, true, true, true, true, true, false, false, false, false, false] rfl rfl (any_of HT_.out (by kernel_rfl)) (fun _ _ _ h => h) (Or.inl ⟨by rfl, ?_⟩) ?_ ?_
  rotate_left
  · intro w'
    go_simp
    with_reducible rfl
  rotate_left
  · simp only [Act.put, List.setIfInBounds_toArray, List.set_cons_zero, List.set_cons_succ, i64_w, i32_w]
    rfl
  refine pure_ (i := 7) (N := some 16) (v := ?_) (a' := ?_) #[true, true, true, true, true, true, true, true, false, false, false, false] rfl rfl (any_of HT_.out (by kernel_rfl)) (fun _ _ _ h => h) (Or.inl ⟨by rfl, ?_⟩) ?_ ?_
  rotate_left
  · intro w'
    go_simp
    with_reducible rfl
  rotate_left
  · simp only [Act.put, List.setIfInBounds_toArray, List.set_cons_zero, List.set_cons_succ, i64_w, i32_w]
    rfl
  refine pure_ (i := 8) (N := some 17) (v := ?_) (a' := ?_) #[true, true, true, true, true, true, true, true, true, false, false, false] rfl rfl (any_of HT_.out (by kernel_rfl)) (fun _ _ _ h => h) (Or.inl ⟨by rfl, ?_⟩) ?_ ?_
  rotate_left
  · intro w'
    go_simp
    with_reducible rfl
  rotate_left
  · simp only [Act.put, List.setIfInBounds_toArray, List.set_cons_zero, List.set_cons_succ, i64_w, i32_w]
    rfl
  refine one_ (i := 9) (N := some 5) #[true, true, true, true, true, true, true, true, true, true, false, false] rfl rfl (one_of HT_.out (by kernel_rfl)) (by decide) (fun K hK => ?_)
  refine val_ (v := ?_) (w' := ?_) (by rfl) rfl ?hrun ?_
  case hrun => go_simp; refine ⟨?_, ?_⟩ <;> rfl
  refine hK.out _ _ ⟨below_cell (by repeat (first | (with_reducible first | exact Below.refl _ _ | apply below_alloc | apply pw_below_drewN | apply below_drew1) | exact Below.refl _ _)) s1, below_cell (by repeat (first | (with_reducible first | exact Below.refl _ _ | apply below_alloc | apply pw_below_drewN | apply below_drew1) | exact Below.refl _ _)) s2, (HG.out.below (by repeat (first | (with_reducible first | exact Below.refl _ _ | apply below_alloc | apply pw_below_drewN | apply below_drew1) | exact Below.refl _ _))).lookT HS.out HT.out⟩ (fun hHeld => ?_)
  clear hK K
  refine norm_ (a' := ?_) ?_ ?_
  rotate_left
  · show Act.put _ (some 5) _ = _
    simp only [Act.put, List.setIfInBounds_toArray, List.set_cons_zero, List.set_cons_succ, i64_w, i32_w]
    rfl
  refine last_ (i := 10) (N := none) #[true, true, true, true, true, true, true, true, true, true, true, false] rfl rfl (one_of HT_.out (by kernel_rfl)) (by decide) (fun K hK => ?_)
  refine unit_ (w' := ?_) (by rfl) rfl ?hrun ?_
  case hrun => go_simp; rfl
  refine hK.out _ _ ?_
  clear hK K
  refine norm_ (a' := ?_) ?_ ?_
  rotate_left
  · show Act.put _ (none) _ = _
    simp only [Act.put, List.setIfInBounds_toArray, List.set_cons_zero, List.set_cons_succ, i64_w, i32_w]
    rfl
  refine pure_ (i := 11) (N := some 6) (v := ?_) (a' := ?_) #[true, true, true, true, true, true, true, true, true, true, true, true] rfl rfl (any_of HT_.out (by kernel_rfl)) (fun _ _ _ h => h) (Or.inl ⟨by rfl, ?_⟩) ?_ ?_
  rotate_left
  · intro w'
    go_simp
    with_reducible rfl
  rotate_left
  · simp only [Act.put, List.setIfInBounds_toArray, List.set_cons_zero, List.set_cons_succ, i64_w, i32_w]
    rfl
  refine done_ (done_of HT_.out (by kernel_rfl)) ?_
  go_wp2
  refine absW (fun w1 => Below w.heap.size w w1 ∧ w1.heap[w.heap.size]? = some (.cells #[.int .i64 t.id] 3) ∧ w1.heap[w.heap.size + 1]? = some (.cells #[.int .i64 t.x, .int .i64 t.y] 32)) ⟨(by repeat (first | (with_reducible first | exact Below.refl _ _ | apply below_alloc | apply pw_below_drewN | apply below_drew1) | exact Below.refl _ _)), two_old _ _ _, two_new _ _ _⟩ ?_
  rintro w1 ⟨hb1, k1, k2⟩
  clear s1 s2 s3 hHeld HG
  have hg1 := HG0.out.below hb1
  have hwf := hg1.wf t ht
  obtain ⟨w2, hdel, hown2, ht2⟩ := (hg1.own.drew).drop law3 Try.underlying52 (keyOf_int_mk Try.underlying3 (wf_iff.2 hwf.1)) 0
  rw [del_GM] at hown2
  have HM2 := Aside0.mk (Mv.of_turned ht2).undrew
  have HO2 := Aside0.mk hown2
  have HB1 := Aside0.mk hb1
  have s1 := hg1.c1
  have s2 := (blk_cell k1 0).trans rfl
  have HG1 := Aside0.mk hg1
  have K1 := Aside0.mk k1
  have K2 := Aside0.mk k2
  have HW := Aside0.mk hwf
  have HT2 := Aside0.mk ht2
  clear hg1 hb1 hown2 ht2 k1 k2 hwf
  refine start_ (n := 6) (S := fun w' => w'.cell? ⟨gb, 1, none⟩ = some (.map (some pb)) ∧ w'.cell? ⟨w.heap.size, 0, none⟩ = some (.int .i64 t.id)) (ds := [5]) #[false, false, false, false, false, false] (by kernel_rfl) rfl rfl ⟨s1, s2⟩ (fun hHeld => ?_)
  refine with_tabW tab_f13_4 bits_f13_4 (fun HT_ HW_ => ?_)
  refine pure_ (i := 0) (N := some 20) (v := ?_) (a' := ?_) #[true, false, false, false, false, false] rfl rfl (any_of HT_.out (by kernel_rfl)) (fun _ _ _ h => h) (Or.inl ⟨by rfl, ?_⟩) ?_ ?_
  rotate_left
  · intro w'
    go_simp
    with_reducible rfl
  rotate_left
  · simp only [Act.put, List.setIfInBounds_toArray, List.set_cons_zero, List.set_cons_succ, i64_w, i32_w]
    rfl
  refine pure_ (i := 1) (N := some 21) (v := ?_) (a' := ?_) #[true, true, false, false, false, false] rfl rfl (any_of HT_.out (by kernel_rfl)) (fun _ _ _ h => h) (Or.inl ⟨by rfl, ?_⟩) ?_ ?_
  rotate_left
  · intro w'
    go_simp
    with_reducible rfl
  rotate_left
  · simp only [Act.put, List.setIfInBounds_toArray, List.set_cons_zero, List.set_cons_succ, i64_w, i32_w]
    rfl
  refine pure_ (i := 2) (N := some 22) (v := ?_) (a' := ?_) #[true, true, true, false, false, false] rfl rfl (any_of HT_.out (by kernel_rfl)) (fun _ _ _ h => h) (Or.inl ⟨by rfl, ?_⟩) ?_ ?_
  rotate_left
  · intro w'
    go_simp
    with_reducible rfl
  rotate_left
  · simp only [Act.put, List.setIfInBounds_toArray, List.set_cons_zero, List.set_cons_succ, i64_w, i32_w]
    rfl
  refine take_ (i := 3) (N := some 23) (v := ?_) (a' := ?_) #[true, true, true, true, false, false] rfl rfl (take_ofW HT_.out HW_.out (by kernel_rfl)) (fun _ _ _ h => h) (Or.inl ⟨by rfl, ?_⟩) hHeld ?_ ?_
  rotate_left
  · rintro w' ⟨s1, s2⟩
    go_simp
    with_reducible rfl
  rotate_left
  · simp only [Act.put, List.setIfInBounds_toArray, List.set_cons_zero, List.set_cons_succ, i64_w, i32_w]
    rfl
  refine take_ (i := 4) (N := some 24) (v := ?_) (a' := ?_) #[true, true, true, true, true, false] rfl rfl (take_ofW HT_.out HW_.out (by kernel_rfl)) (fun _ _ _ h => h) (Or.inl ⟨by rfl, ?_⟩) hHeld ?_ ?_
  rotate_left
  · rintro w' ⟨s1, s2⟩
    go_simp
    with_reducible rfl
  rotate_left
  · simp only [Act.put, List.setIfInBounds_toArray, List.set_cons_zero, List.set_cons_succ, i64_w, i32_w]
    rfl
  refine last_ (i := 5) (N := none) #[true, true, true, true, true, true] rfl rfl (one_of HT_.out (by kernel_rfl)) (by decide) (fun K hK => ?_)
  refine val_ (v := .tuple #[]) (w' := w2) (by rfl) rfl ?hrun ?_
  case hrun => go_simp
  refine hK.out _ _ ?_
  clear hK K
  refine norm_ (a' := ?_) ?_ ?_
  rotate_left
  · show Act.put _ (none) _ = _
    simp only [Act.put, List.setIfInBounds_toArray, List.set_cons_zero, List.set_cons_succ, i64_w, i32_w]
    rfl
  refine done_ (done_of HT_.out (by kernel_rfl)) ?_
  clear s1 s2 hdel hHeld HT_ HW_
  have hne := HG1.out.ne
  have hpl := HG0.out.flt pb HG0.out.fp
  have hgl := HG0.out.flt gb HG0.out.fg
  have hcl := HG0.out.flt cb HG0.out.fc
  have d0 : w2.cell? ⟨gb, 0, none⟩ = some (.int .i64 side) := HM2.out.cell HG1.out.c0 (by exact hne.1)
  have d1 : w2.heap[w.heap.size + 1]? = some (.cells #[.int .i64 t.x, .int .i64 t.y] 32) := (HM2.out.block _ (blk_lt K2.out) (by omega)).trans K2.out
  have d2 := (blk_cell d1 0).trans rfl
  have d3 := (blk_cell d1 1).trans rfl
  have hof := of_calls gb t.x t.y side HW.out.2.1 HW.out.2.2 HG1.out.s1 w2 d0
  clear d0
  go_wp2_with (go_at_call 27; (with_reducible refine hof.mono ?_); rintro e w3 ⟨rfl, hb3⟩; clear d1 d2 d3 hof)
  refine absW (fun w4 => Mv w w4 (fun k => k = pb) ∧ w.heap.size ≤ w3.heap.size ∧ w4.heap[w3.heap.size]? = some (.cells #[.int .i64 (t.x / side), .int .i64 (t.y / side)] 60) ∧ w4.heap[w.heap.size]? = some (.cells #[.int .i64 t.id] 3) ∧ w4.ownsMap Try.prog 3 vElem pb n (GM (dropP L t.id))) ?_ ?_
  · have m2 : Mv w w2 (fun k => k = pb) := (Mv.of_below HB1.out _).then HM2.out (fun j hj => Or.inl hj)
    have m3 := m2.below hb3
    have l1 : w.heap.size < w1.heap.size := blk_lt K1.out
    have l2 : w1.heap.size ≤ w2.heap.size := HM2.out.size
    have l3 := hb3.size
    refine ⟨m3.below (by repeat (first | (with_reducible first | exact Below.refl _ _ | apply below_alloc | apply pw_below_drewN | apply below_drew1) | exact Below.refl _ _)), by omega, heap_alloc_new _ _, ?_, ((own_below HO2.out hb3).alloc _)⟩
    rw [heap_alloc_old _ _ (by omega), hb3.block _ (by omega), HM2.out.block _ l1 (by omega)]
    exact K1.out
  rintro w4 ⟨m4, hk, k1, k2, hown4⟩
  clear hb3 HM2 HO2 HB1 HG1 K1 K2 HT2
  have hin : t.id ∈ rows (t.x / side) (t.y / side) := (HG0.out.mem _ _ _).2 ⟨t, ht, rfl, rfl, rfl⟩
  obtain ⟨i0, hi0⟩ := List.getElem?_of_mem hin
  rcases hh : hd (t.x / side) (t.y / side) with _ | ⟨g, m, cap⟩
  · rw [HG0.out.row0 _ _ hh] at hin
    cases hin
  obtain ⟨hm, hR, g1, g2, g3⟩ := HG0.out.rowS _ _ _ _ _ hh
  subst hm
  have hgF : F g := hR.1 g rfl
  have hgl2 := HG0.out.flt g hgF
  have hR4 : ki.R 3 w4 0 F (.slice (some ⟨g, 0, none⟩) (rows (t.x / side) (t.y / side)).length cap) (rows (t.x / side) (t.y / side)) := ki_one hR (fun k hk => by cases hk; exact m4.block g hgl2 g2)
  have hc4 : CellsAt w4 cb n hd := HG0.out.cells.block (m4.block cb hcl (Ne.symm hne.2.2))
  have hix := down_I64 HW.out.2.1 HG0.out.s1
  have hiy := down_I64 HW.out.2.2 HG0.out.s1
  have hlen := HG0.out.rlen (t.x / side) (t.y / side)
  have hdf := delf_calls w.heap.size g cap i0 t.id (rows (t.x / side) (t.y / side)) 0 F w4.drew ((blk_cell k2 0).trans rfl) (by omega) (Kd.R_drew hR4) (by omega) hi0 (fun j hj e => hj (nodup_unique (HG0.out.nd _ _) e hi0))
  have look4 : ∀ w', Below w4.heap.size w4 w' → (Instr.lookup 53 (.map (some cb)) (.agg #[.int .i64 (t.x / side), .int .i64 (t.y / side)]) false).run Try.prog w' = .ok (.slice (some ⟨g, 0, none⟩) (rows (t.x / side) (t.y / side)).length cap) w' := by
    intro w' hb
    have := (hc4.block (hb.block cb hc4.lt)).look hix hiy
    rw [hh] at this
    exact this
  have r1 : w4.cell? ⟨gb, 2, none⟩ = some (.map (some cb)) := m4.cell HG0.out.c2 (by exact hne.1)
  have r2 := (blk_cell k1 0).trans rfl
  have r3 := (blk_cell k1 1).trans rfl
  have r4 := look4 w4.drew (by repeat (first | (with_reducible first | exact Below.refl _ _ | apply below_alloc | apply pw_below_drewN | apply below_drew1) | exact Below.refl _ _))
  have HH := Aside0.mk hh
  have HK1 := Aside0.mk k1
  have HKK := Aside0.mk hk
  have HI := Aside0.mk hi0
  have HK := Aside0.mk (And.intro g1 (And.intro g2 g3))
  have M4 := Aside0.mk m4
  have O4 := Aside0.mk hown4
  have C4 := Aside0.mk hc4
  have HX := Aside0.mk hix
  have HY := Aside0.mk hiy
  clear hh hi0 g1 g2 g3 m4 hown4 hc4 hix hiy hR hR4 k1 k2 hk look4 hin
  generalize hrx : rows (t.x / side) (t.y / side) = rx at *
  have HRX := Aside0.mk hrx
  clear hrx
  generalize hX : t.x / side = X at *
  generalize hY : t.y / side = Y at *
  have HXe := Aside0.mk hX
  have HYe := Aside0.mk hY
  clear hX hY
  refine start_ (n := 9) (S := fun w' => w'.cell? ⟨gb, 2, none⟩ = some (.map (some cb)) ∧ w'.cell? ⟨w3.heap.size, 0, none⟩ = some (.int .i64 X) ∧ w'.cell? ⟨w3.heap.size, 1, none⟩ = some (.int .i64 Y) ∧ (Instr.lookup 53 (.map (some cb)) (.agg #[.int .i64 X, .int .i64 Y]) false).run Try.prog w' = .ok (.slice (some ⟨g, 0, none⟩) rx.length cap) w') (ds := [7]) #[false, false, false, false, false, false, false, false, false] (by kernel_rfl) rfl rfl ⟨r1, r2, r3, r4⟩ (fun hHeld => ?_)
  refine with_tabW tab_f13_6 bits_f13_6 (fun HT_ HW_ => ?_)
  refine pure_ (i := 0) (N := some 28) (v := ?_) (a' := ?_) #[true, false, false, false, false, false, false, false, false] rfl rfl (any_of HT_.out (by kernel_rfl)) (fun _ _ _ h => h) (Or.inl ⟨by rfl, ?_⟩) ?_ ?_
  rotate_left
  · intro w'
    go_simp
    with_reducible rfl
  rotate_left
  · simp only [Act.put, List.setIfInBounds_toArray, List.set_cons_zero, List.set_cons_succ, i64_w, i32_w]
    rfl
  refine pure_ (i := 1) (N := some 29) (v := ?_) (a' := ?_) #[true, true, false, false, false, false, false, false, false] rfl rfl (any_of HT_.out (by kernel_rfl)) (fun _ _ _ h => h) (Or.inl ⟨by rfl, ?_⟩) ?_ ?_
  rotate_left
  · intro w'
    go_simp
    with_reducible rfl
  rotate_left
  · simp only [Act.put, List.setIfInBounds_toArray, List.set_cons_zero, List.set_cons_succ, i64_w, i32_w]
    rfl
  refine pure_ (i := 2) (N := some 30) (v := ?_) (a' := ?_) #[true, true, true, false, false, false, false, false, false] rfl rfl (any_of HT_.out (by kernel_rfl)) (fun _ _ _ h => h) (Or.inl ⟨by rfl, ?_⟩) ?_ ?_
  rotate_left
  · intro w'
    go_simp
    with_reducible rfl
  rotate_left
  · simp only [Act.put, List.setIfInBounds_toArray, List.set_cons_zero, List.set_cons_succ, i64_w, i32_w]
    rfl
  refine take_ (i := 3) (N := some 31) (v := ?_) (a' := ?_) #[true, true, true, true, false, false, false, false, false] rfl rfl (take_ofW HT_.out HW_.out (by kernel_rfl)) (fun _ _ _ h => h) (Or.inl ⟨by rfl, ?_⟩) hHeld ?_ ?_
  rotate_left
  · rintro w' ⟨s1, s2, s3, s4⟩
    go_simp
    with_reducible rfl
  rotate_left
  · simp only [Act.put, List.setIfInBounds_toArray, List.set_cons_zero, List.set_cons_succ, i64_w, i32_w]
    rfl
  refine take_ (i := 4) (N := some 32) (v := ?_) (a' := ?_) #[true, true, true, true, true, false, false, false, false] rfl rfl (take_ofW HT_.out HW_.out (by kernel_rfl)) (fun _ _ _ h => h) (Or.inl ⟨by rfl, ?_⟩) hHeld ?_ ?_
  rotate_left
  · rintro w' ⟨s1, s2, s3, s4⟩
    go_simp
    with_reducible rfl
  rotate_left
  · simp only [Act.put, List.setIfInBounds_toArray, List.set_cons_zero, List.set_cons_succ, i64_w, i32_w]
    rfl
  refine take_ (i := 5) (N := some 33) (v := ?_) (a' := ?_) #[true, true, true, true, true, true, false, false, false] rfl rfl (take_ofW HT_.out HW_.out (by kernel_rfl)) (fun _ _ _ h => h) (Or.inl ⟨by rfl, ?_⟩) hHeld ?_ ?_
  rotate_left
  · rintro w' ⟨s1, s2, s3, s4⟩
    go_simp
    with_reducible rfl
  rotate_left
  · simp only [Act.put, List.setIfInBounds_toArray, List.set_cons_zero, List.set_cons_succ, i64_w, i32_w]
    rfl
  refine pure_ (i := 6) (N := some 34) (v := ?_) (a' := ?_) #[true, true, true, true, true, true, true, false, false] rfl rfl (any_of HT_.out (by kernel_rfl)) (fun _ _ _ h => h) (Or.inl ⟨by rfl, ?_⟩) ?_ ?_
  rotate_left
  · intro w'
    go_simp
    with_reducible rfl
  rotate_left
  · simp only [Act.put, List.setIfInBounds_toArray, List.set_cons_zero, List.set_cons_succ, i64_w, i32_w]
    rfl
  refine last_ (i := 7) (N := some 35) #[true, true, true, true, true, true, true, true, false] rfl rfl (one_of HT_.out (by kernel_rfl)) (by decide) (fun K hK => ?_)
  refine goes_ Try.func28 (by kernel_rfl) rfl #[.slice (some ⟨g, 0, none⟩) rx.length cap, .func (.func 29) #[] #[.pointer (some ⟨w.heap.size, 0, none⟩)]] (by rfl) rfl rfl (by (try simp only [List.map_toArray, List.map_cons, List.map_nil]); first | done | rfl) ?_
  with_reducible refine hdf.mono ?_
  rintro e w5 ⟨rfl, hR5, hg5⟩
  refine ⟨_, rfl, ?_⟩
  refine hK.out _ _ ?_
  clear hK K
  refine norm_ (a' := ?_) ?_ ?_
  rotate_left
  · show Act.put _ (some 35) _ = _
    simp only [Act.put, List.setIfInBounds_toArray, List.set_cons_zero, List.set_cons_succ, i64_w, i32_w]
    rfl
  refine pure_ (i := 8) (N := some 8) (v := ?_) (a' := ?_) #[true, true, true, true, true, true, true, true, true] rfl rfl (any_of HT_.out (by kernel_rfl)) (fun _ _ _ h => h) (Or.inl ⟨by rfl, ?_⟩) ?_ ?_
  rotate_left
  · intro w'
    go_simp
    with_reducible rfl
  rotate_left
  · simp only [Act.put, List.setIfInBounds_toArray, List.set_cons_zero, List.set_cons_succ, i64_w, i32_w]
    rfl
  refine done_ (done_of HT_.out (by kernel_rfl)) ?_
  clear hHeld hdf r1 r2 r3 r4 HT_ HW_
  have hlt0 : i0 < rx.length := (List.getElem?_eq_some_iff.1 HI.out).1
  have HR5 := Aside0.mk hR5
  have hg5' : w4.grownBy w5 (some g) := ⟨hg5.os, hg5.tape, hg5.output, hg5.size, hg5.block⟩
  have M5 : Mv w w5 (fun k => k = pb ∨ k = cb ∨ k = g) := (M4.out.mono (fun k hk => Or.inl hk)).then (Mv.of_grown (S := fun k => k = g) hg5' (fun k hk => by injection hk with hk; exact hk.symm)) (fun j hj => Or.inl (Or.inr (Or.inr hj)))
  have c5 : CellsAt w5 cb n hd := C4.out.block (hg5'.block cb C4.out.lt (by intro e; injection e with e; exact HK.out.2.2 e.symm))
  have o5 : w5.ownsMap Try.prog 3 vElem pb n (GM (dropP L t.id)) := O4.out.kept hg5' (by intro e; injection e with e; exact HK.out.2.1 e.symm)
  have s1 : w5.cell? ⟨gb, 2, none⟩ = some (.map (some cb)) := M5.cell HG0.out.c2 (by simp only; have := HK.out; omega)
  have k5 : w5.heap[w3.heap.size]? = some (.cells #[.int .i64 X, .int .i64 Y] 60) := (hg5'.block _ (blk_lt HK1.out) (by intro e; injection e with e; have := HKK.out; omega)).trans HK1.out
  have s2 := (blk_cell k5 0).trans rfl
  have s3 := (blk_cell k5 1).trans rfl
  have HM5 := Aside0.mk M5
  have C5 := Aside0.mk c5
  have O5 := Aside0.mk o5
  clear hR5 hg5 hg5' M5 c5 o5
  generalize hm' : rx.length - 1 = m' at *
  have HMM := Aside0.mk hm'
  clear hm'
  by_cases hz : m' = 0
  · subst hz
    go_wp2
    obtain ⟨w6, hdel, c6, ht6⟩ := (C5.out.block (w' := w5.drew) rfl).drop HX.out HY.out 0
    have C6 := Aside0.mk c6
    have HT6 := Aside0.mk ht6
    clear c6 ht6
    refine start_ (n := 6) (S := fun w' => w'.cell? ⟨gb, 2, none⟩ = some (.map (some cb)) ∧ w'.cell? ⟨w3.heap.size, 0, none⟩ = some (.int .i64 X) ∧ w'.cell? ⟨w3.heap.size, 1, none⟩ = some (.int .i64 Y)) (ds := [5]) #[false, false, false, false, false, false] (by kernel_rfl) rfl rfl ⟨s1, s2, s3⟩ (fun hHeld => ?_)
    refine with_tabW tab_f13_8 bits_f13_8 (fun HT_ HW_ => ?_)
    refine pure_ (i := 0) (N := some 39) (v := ?_) (a' := ?_) #[true, false, false, false, false, false] rfl rfl (any_of HT_.out (by kernel_rfl)) (fun _ _ _ h => h) (Or.inl ⟨by rfl, ?_⟩) ?_ ?_
    rotate_left
    · intro w'
      go_simp
      with_reducible rfl
    rotate_left
    · simp only [Act.put, List.setIfInBounds_toArray, List.set_cons_zero, List.set_cons_succ, i64_w, i32_w]
      rfl
    refine pure_ (i := 1) (N := some 40) (v := ?_) (a' := ?_) #[true, true, false, false, false, false] rfl rfl (any_of HT_.out (by kernel_rfl)) (fun _ _ _ h => h) (Or.inl ⟨by rfl, ?_⟩) ?_ ?_
    rotate_left
    · intro w'
      go_simp
      with_reducible rfl
    rotate_left
    · simp only [Act.put, List.setIfInBounds_toArray, List.set_cons_zero, List.set_cons_succ, i64_w, i32_w]
      rfl
    refine pure_ (i := 2) (N := some 41) (v := ?_) (a' := ?_) #[true, true, true, false, false, false] rfl rfl (any_of HT_.out (by kernel_rfl)) (fun _ _ _ h => h) (Or.inl ⟨by rfl, ?_⟩) ?_ ?_
    rotate_left
    · intro w'
      go_simp
      with_reducible rfl
    rotate_left
    · simp only [Act.put, List.setIfInBounds_toArray, List.set_cons_zero, List.set_cons_succ, i64_w, i32_w]
      rfl
    refine take_ (i := 3) (N := some 42) (v := ?_) (a' := ?_) #[true, true, true, true, false, false] rfl rfl (take_ofW HT_.out HW_.out (by kernel_rfl)) (fun _ _ _ h => h) (Or.inl ⟨by rfl, ?_⟩) hHeld ?_ ?_
    rotate_left
    · rintro w' ⟨s1, s2, s3⟩
      go_simp
      with_reducible rfl
    rotate_left
    · simp only [Act.put, List.setIfInBounds_toArray, List.set_cons_zero, List.set_cons_succ, i64_w, i32_w]
      rfl
    refine take_ (i := 4) (N := some 43) (v := ?_) (a' := ?_) #[true, true, true, true, true, false] rfl rfl (take_ofW HT_.out HW_.out (by kernel_rfl)) (fun _ _ _ h => h) (Or.inl ⟨by rfl, ?_⟩) hHeld ?_ ?_
    rotate_left
    · rintro w' ⟨s1, s2, s3⟩
      go_simp
      with_reducible rfl
    rotate_left
    · simp only [Act.put, List.setIfInBounds_toArray, List.set_cons_zero, List.set_cons_succ, i64_w, i32_w]
      rfl
    refine last_ (i := 5) (N := none) #[true, true, true, true, true, true] rfl rfl (one_of HT_.out (by kernel_rfl)) (by decide) (fun K hK => ?_)
    refine val_ (v := .tuple #[]) (w' := w6) (by rfl) rfl ?hrun ?_
    case hrun => go_simp
    refine hK.out _ _ ?_
    clear hK K
    refine norm_ (a' := ?_) ?_ ?_
    rotate_left
    · show Act.put _ (none) _ = _
      simp only [Act.put, List.setIfInBounds_toArray, List.set_cons_zero, List.set_cons_succ, i64_w, i32_w]
      rfl
    refine done_ (done_of HT_.out (by kernel_rfl)) ?_
    clear hdel s1 s2 s3
    go_wp2
    go_ret
    have M6 : Mv w w6 (fun k => k = pb ∨ k = cb ∨ k = g) := HM5.out.then (Mv.of_turned HT6.out).undrew (fun j hj => Or.inl (Or.inr (Or.inl hj)))
    have hl1 : rx.length = 1 := by have := HMM.out; omega
    have e := HXe.out
    subst e
    have e := HYe.out
    subst e
    have e := HRX.out
    subst e
    refine ⟨rfl, updH hd (t.x / side) (t.y / side) none, HG0.out.drop_done ht HH.out M6 (O5.out.kept (undrewG HT6.out.grown) (by intro e; injection e with e; exact hne.2.2 e)) none (C6.out.mono (Nat.le_succ _)) (Or.inl ⟨rfl, hl1⟩) (by rw [HMM.out]; exact ki_one HR5.out (fun k hk => HT6.out.grown.block k (Kd.R_lt HR5.out k hk) (by intro e; injection e with e; injection hk with hk; have := HK.out; have : g = k := hk; omega))) HI.out, M6.mono (fun k hk => ?_)⟩
    rcases hk with rfl | rfl | rfl
    · exact HG0.out.fp
    · exact HG0.out.fc
    · exact hgF
  · go_wp2
    obtain ⟨w6, hup, c6, ht6⟩ := (C5.out.block (w' := w5.drew) rfl).store (by unfold maxLen; omega) HX.out HY.out (g, m', cap)
    have C6 := Aside0.mk c6
    have HT6 := Aside0.mk ht6
    clear c6 ht6
    unfold hdVal at hup
    refine start_ (n := 7) (S := fun w' => w'.cell? ⟨gb, 2, none⟩ = some (.map (some cb)) ∧ w'.cell? ⟨w3.heap.size, 0, none⟩ = some (.int .i64 X) ∧ w'.cell? ⟨w3.heap.size, 1, none⟩ = some (.int .i64 Y)) (ds := [6]) #[false, false, false, false, false, false, false] (by kernel_rfl) rfl rfl ⟨s1, s2, s3⟩ (fun hHeld => ?_)
    refine with_tabW tab_f13_10 bits_f13_10 (fun HT_ HW_ => ?_)
    refine pure_ (i := 0) (N := some 44) (v := ?_) (a' := ?_) #[true, false, false, false, false, false, false] rfl rfl (any_of HT_.out (by kernel_rfl)) (fun _ _ _ h => h) (Or.inl ⟨by rfl, ?_⟩) ?_ ?_
    rotate_left
    · intro w'
      go_simp
      with_reducible rfl
    rotate_left
    · simp only [Act.put, List.setIfInBounds_toArray, List.set_cons_zero, List.set_cons_succ, i64_w, i32_w]
      rfl
    refine pure_ (i := 1) (N := some 45) (v := ?_) (a' := ?_) #[true, true, false, false, false, false, false] rfl rfl (any_of HT_.out (by kernel_rfl)) (fun _ _ _ h => h) (Or.inl ⟨by rfl, ?_⟩) ?_ ?_
    rotate_left
    · intro w'
      go_simp
      with_reducible rfl
    rotate_left
    · simp only [Act.put, List.setIfInBounds_toArray, List.set_cons_zero, List.set_cons_succ, i64_w, i32_w]
      rfl
    refine pure_ (i := 2) (N := some 46) (v := ?_) (a' := ?_) #[true, true, true, false, false, false, false] rfl rfl (any_of HT_.out (by kernel_rfl)) (fun _ _ _ h => h) (Or.inl ⟨by rfl, ?_⟩) ?_ ?_
    rotate_left
    · intro w'
      go_simp
      with_reducible rfl
    rotate_left
    · simp only [Act.put, List.setIfInBounds_toArray, List.set_cons_zero, List.set_cons_succ, i64_w, i32_w]
      rfl
    refine take_ (i := 3) (N := some 47) (v := ?_) (a' := ?_) #[true, true, true, true, false, false, false] rfl rfl (take_ofW HT_.out HW_.out (by kernel_rfl)) (fun _ _ _ h => h) (Or.inl ⟨by rfl, ?_⟩) hHeld ?_ ?_
    rotate_left
    · rintro w' ⟨s1, s2, s3⟩
      go_simp
      with_reducible rfl
    rotate_left
    · simp only [Act.put, List.setIfInBounds_toArray, List.set_cons_zero, List.set_cons_succ, i64_w, i32_w]
      rfl
    refine take_ (i := 4) (N := some 48) (v := ?_) (a' := ?_) #[true, true, true, true, true, false, false] rfl rfl (take_ofW HT_.out HW_.out (by kernel_rfl)) (fun _ _ _ h => h) (Or.inl ⟨by rfl, ?_⟩) hHeld ?_ ?_
    rotate_left
    · rintro w' ⟨s1, s2, s3⟩
      go_simp
      with_reducible rfl
    rotate_left
    · simp only [Act.put, List.setIfInBounds_toArray, List.set_cons_zero, List.set_cons_succ, i64_w, i32_w]
      rfl
    refine pure_ (i := 5) (N := some 49) (v := ?_) (a' := ?_) #[true, true, true, true, true, true, false] rfl rfl (any_of HT_.out (by kernel_rfl)) (fun _ _ _ h => h) (Or.inl ⟨by rfl, ?_⟩) ?_ ?_
    rotate_left
    · intro w'
      go_simp
      with_reducible rfl
    rotate_left
    · simp only [Act.put, List.setIfInBounds_toArray, List.set_cons_zero, List.set_cons_succ, i64_w, i32_w]
      rfl
    refine last_ (i := 6) (N := none) #[true, true, true, true, true, true, true] rfl rfl (one_of HT_.out (by kernel_rfl)) (by decide) (fun K hK => ?_)
    refine unit_ (w' := w6) (by rfl) rfl ?hrun ?_
    case hrun => go_simp
    refine hK.out _ _ ?_
    clear hK K
    refine norm_ (a' := ?_) ?_ ?_
    rotate_left
    · show Act.put _ (none) _ = _
      simp only [Act.put, List.setIfInBounds_toArray, List.set_cons_zero, List.set_cons_succ, i64_w, i32_w]
      rfl
    refine done_ (done_of HT_.out (by kernel_rfl)) ?_
    clear hup s1 s2 s3
    go_wp2
    go_ret
    have M6 : Mv w w6 (fun k => k = pb ∨ k = cb ∨ k = g) := HM5.out.then (Mv.of_turned HT6.out).undrew (fun j hj => Or.inl (Or.inr (Or.inl hj)))
    have e := HXe.out
    subst e
    have e := HYe.out
    subst e
    have e := HRX.out
    subst e
    have e := HMM.out
    subst e
    refine ⟨rfl, _, HG0.out.drop_done ht HH.out M6 (O5.out.kept (undrewG HT6.out.grown) (by intro e; injection e with e; exact hne.2.2 e)) _ C6.out (Or.inr rfl) (ki_one HR5.out (fun k hk => HT6.out.grown.block k (Kd.R_lt HR5.out k hk) (by intro e; injection e with e; injection hk with hk; have := HK.out; have : g = k := hk; omega))) HI.out, M6.mono (fun k hk => ?_)⟩
    rcases hk with rfl | rfl | rfl
    · exact HG0.out.fp
    · exact HG0.out.fc
    · exact hgF
end Go.Proofs.Ytggmfmlfkhcbdaa.Gr
