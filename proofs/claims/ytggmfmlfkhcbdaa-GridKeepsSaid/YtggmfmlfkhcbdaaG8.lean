/- The closure of near. -/
import Derived.Test.YtggmfmlfkhcbdaaG7
namespace Go.Proofs.Ytggmfmlfkhcbdaa.Gr
open Go Go.RowKit Go.Maps Go.Proofs.YtggmfmlfkhcbdaaW.PrintWords Go.Proofs.YtggmfmlfkhcbdaaW.PrintLast Go.Proofs.YtggmfmlfkhcbdaaW.PrintMore
set_option linter.unusedVariables false
set_option linter.unusedSimpArgs false

def T_42_0 : Bool × List (List Nat × List Nat) := (true, [([], []), ([0], [0]), ([1], [1]), ([2], [2]), ([], []), ([3, 4], [3, 4]), ([], []), ([], []), ([5, 6, 7], [5, 6, 7])])
def B_42_0 : List Nat := [0, 1, 3, 7, 0, 31, 0, 0, 255]
theorem tab_f42_0 : rtab .any (opsOf Try.f42 0) = T_42_0 := by kernel_rfl
theorem bits_f42_0 : waitsOk T_42_0.2 B_42_0 = true := by kernel_rfl
def T_34_1 : Bool × List (List Nat × List Nat) := (true, [([], []), ([0], [0]), ([1], [1]), ([2], [2]), ([], []), ([3, 4], [3, 4]), ([], []), ([5, 6], [5, 6]), ([], []), ([8], [8]), ([9], [9]), ([10], [10]), ([], []), ([11, 12], [11, 12]), ([], []), ([13, 14, 7], [13, 14]), ([7, 15, 15], [7, 15]), ([], []), ([], []), ([17, 18, 16], [17, 18]), ([16, 19], [16, 19]), ([20, 19], [20]), ([21, 21, 0, 1, 2, 3, 4, 5, 6, 7, 8, 9, 10, 11, 12, 13, 14, 15, 16, 17, 18, 19, 20, 21], [21])])
def B_34_1 : List Nat := [0, 1, 3, 7, 0, 31, 0, 127, 0, 256, 768, 1792, 0, 7936, 0, 32767, 65535, 0, 0, 524287, 1048575, 2097151, 4194303]
theorem tab_f34_1 : rtab .any (opsOf Try.f34 1) = T_34_1 := by kernel_rfl
theorem bits_f34_1 : waitsOk T_34_1.2 B_34_1 = true := by kernel_rfl

theorem wpList_app {ops : Array Oper} {rest : List Oper} {o : Oper} {a : Act} {Q : Exit → Act → World → Prop} {W : World} (base : Nat) (hgd : o.guard = none) (s x : Operand)
    (ho : o.op = .call { callee := .builtin .append, args := #[s, x], argTypes := #[40, 40] }) (v : Value) (xs ys : List Int) (A : Option Addr) (m c : Nat) (ok : Nat → Prop) (hs : a.eval s = v) (hx : a.eval x = .slice A m c)
    (HO : ki.R 3 W base ok v xs) (HR : ki.C W A m ys) (hfresh : ∀ k, W.heap.size ≤ k → ok k) (hbase : base ≤ W.heap.size) (hl : xs.length + m ≤ 8000000000000)
    (h : ∀ v1 w1, ki.R 3 w1 base ok v1 (xs ++ ys) → W.grownBy w1 v.ownBlock → (v1.ownBlock = v.ownBlock ∨ ∃ b, v1.ownBlock = some b ∧ W.heap.size ≤ b) → wpList Try.prog ops Q rest (a.put o.dst v1) w1) :
    wpList Try.prog ops Q (o :: rest) a W :=
  Kd.R_append_rows ki (Rr := ki.K W) (w0 := W) base hgd s x 40 3 (.int .i64 0) 8 ho Try.underlying40 info3 rfl (by decide) (by decide) v xs ys A m c ok (fun _ => False) hs hx HO HR (fun _ _ h => h) (fun _ h => h.elim) hfresh (Below.refl _ _) hbase (by omega)
    (fun v1 w1 h1 _ h3 h4 => h v1 w1 h1 h3 h4)
theorem one_C {W : World} {b0 : Nat} {x : Int} (h : W.cell? ⟨b0, 0, none⟩ = some (.int .i64 x)) : ki.C W (some ⟨b0, 0, none⟩) 1 [x] := by
  refine ⟨rfl, by omega, fun _ => ⟨_, rfl, fun j p hj => ?_⟩⟩
  match j, hj with
  | 0, hj =>
    simp at hj
    subst hj
    refine ⟨[.int .i64 x], rfl, rfl, fun i u hu => ?_⟩
    match i, hu with
    | 0, hu =>
      simp at hu
      subst hu
      rw [add_plain]
      exact h

/-- Is the thing of that id within? -/
def wid (L : List Th) (ax ay r : Int) (id : Int) : Bool := wi (atL L id).1 (atL L id).2 ax ay r

/-- The closure's variables. -/
structure Gat (w : World) (b gb : Nat) (ax ay r : Int) (base : Nat) (xs : List Int) : Prop where
  b0 : w.heap[b]? = some (.cells #[.pointer (some ⟨gb, 0, none⟩)] 24)
  b1 : w.heap[b + 1]? = some (.cells #[.int .i64 ax, .int .i64 ay] 32)
  b2 : w.heap[b + 2]? = some (.cells #[.int .i64 r] 2)
  out : ∃ v, w.heap[b + 3]? = some (.cells #[v] 40) ∧ ki.R 3 w base (fun _ => True) v xs
  lt : b + 4 ≤ base
  sz : base ≤ w.heap.size
theorem Gat.below {w w' : World} {b gb : Nat} {ax ay r : Int} {base : Nat} {xs : List Int} (h : Gat w b gb ax ay r base xs) (hb : Below w.heap.size w w') : Gat w' b gb ax ay r base xs where
  b0 := (hb.block _ (blk_lt h.b0)).trans h.b0
  b1 := (hb.block _ (blk_lt h.b1)).trans h.b1
  b2 := (hb.block _ (blk_lt h.b2)).trans h.b2
  out := by
    obtain ⟨v, h1, h2⟩ := h.out
    exact ⟨v, (hb.block _ (blk_lt h1)).trans h1, Kd.R_below h2 hb⟩
  lt := h.lt
  sz := Nat.le_trans h.sz hb.size
theorem Gat.mv {w w' : World} {b gb : Nat} {ax ay r : Int} {base : Nat} {xs : List Int} (h : Gat w b gb ax ay r base xs) {S : Nat → Prop} (hb : Mv w w' S) (hS : ∀ k, S k → b + 4 ≤ k ∧ k < base) : Gat w' b gb ax ay r base xs where
  b0 := (hb.block _ (blk_lt h.b0) (fun hs => by have := hS _ hs; omega)).trans h.b0
  b1 := (hb.block _ (blk_lt h.b1) (fun hs => by have := hS _ hs; omega)).trans h.b1
  b2 := (hb.block _ (blk_lt h.b2) (fun hs => by have := hS _ hs; omega)).trans h.b2
  out := by
    obtain ⟨v, h1, h2⟩ := h.out
    exact ⟨v, (hb.block _ (blk_lt h1) (fun hs => by have := hS _ hs; omega)).trans h1, ki_one h2 (fun k hk => hb.block k (Kd.R_lt h2 k hk) (fun hs => by have := hS _ hs; have := Kd.R_base h2 k hk; omega))⟩
  lt := h.lt
  sz := Nat.le_trans h.sz hb.size
theorem within_calls (x y a b r : Int) (hx : I64 x) (hy : I64 y) (ha : I64 a) (hb : I64 b) (w : World) : Calls Try.prog 25 #[.agg #[.int .i64 x, .int .i64 y], .agg #[.int .i64 a, .int .i64 b], .int .i64 r] w fun e w' => e = .returned (.bool (wi x y a b r)) ∧ Below w.heap.size w w' :=
  QQA.vec_Within.calls 1 x y a b r _ w (within_f x y a b r hx hy ha hb)

set_option maxHeartbeats 2000000 in
set_option maxRecDepth 10000 in
theorem gather_calls {w : World} {gb pb cb : Nat} {F : Nat → Prop} {side : Int} {n : Nat} {L : List Th} {hd : Int → Int → Hd} {rows : Int → Int → List Int} (h : GridIn w gb pb cb F side n L hd rows) {b : Nat} {ax ay r : Int} {base : Nat} {xs : List Int} (g : Gat w b gb ax ay r base xs)
    (hax : I64 ax) (hay : I64 ay) (hl : xs.length ≤ 4000000000000) {id : Int} (hid : I64 id) (ys : List Int) (hys : (if wid L ax ay r id then xs ++ [id] else xs) = ys) :
    Calls Try.prog 42 #[.int .i64 id, .pointer (some ⟨b, 0, none⟩), .pointer (some ⟨b + 1, 0, none⟩), .pointer (some ⟨b + 2, 0, none⟩), .pointer (some ⟨b + 3, 0, none⟩)] w fun e w' =>
      e = .returned (.tuple #[]) ∧ Gat w' b gb ax ay r base ys ∧ Mv w w' (fun k => k = b + 3 ∨ base ≤ k) := by
  obtain ⟨hpx, hpy⟩ := atL_wf h.wf id
  have s1 := (blk_cell g.b0 0).trans rfl
  have s2 := h.c1
  have s3 := (h.below (below_drew1 (Below.refl _ w))).look hid |>.2
  have s4 := (blk_cell g.b1 0).trans rfl
  have s5 := (blk_cell g.b1 1).trans rfl
  have s6 := (blk_cell g.b2 0).trans rfl
  have HG := Aside0.mk g
  have HH := Aside0.mk h
  have HY := Aside0.mk hys
  clear g h hys
  go_enter Try.func42, Try.ntmps42
  go_wp2
  refine start_ (n := 9) (S := fun w' => w'.cell? ⟨b, 0, none⟩ = some (.pointer (some ⟨gb, 0, none⟩)) ∧ w'.cell? ⟨gb, 1, none⟩ = some (.map (some pb)) ∧ (Instr.lookup 52 (.map (some pb)) (.int .i64 id) false).run Try.prog w' = .ok (.agg #[.int .i64 (atL L id).1, .int .i64 (atL L id).2]) w' ∧ w'.cell? ⟨b + 1, 0, none⟩ = some (.int .i64 ax) ∧ w'.cell? ⟨b + 1, 1, none⟩ = some (.int .i64 ay) ∧ w'.cell? ⟨b + 2, 0, none⟩ = some (.int .i64 r)) (ds := [8]) #[false, false, false, false, false, false, false, false, false] (by kernel_rfl) rfl rfl ⟨s1, s2, s3, s4, s5, s6⟩ (fun hHeld => ?_)
  refine with_tabW tab_f42_0 bits_f42_0 (fun HT_ HW_ => ?_)
  refine take_ (i := 0) (N := some 6) (v := ?_) (a' := ?_) #[true, false, false, false, false, false, false, false, false] rfl rfl (take_ofW HT_.out HW_.out (by kernel_rfl)) (fun _ _ _ h => h) (Or.inl ⟨by rfl, ?_⟩) hHeld ?_ ?_
  rotate_left
  · rintro w' ⟨s1, s2, s3, s4, s5, s6⟩
    go_simp
    with_reducible rfl
  rotate_left
  · simp only [Act.put, List.setIfInBounds_toArray, List.set_cons_zero, List.set_cons_succ, i64_w, i32_w]
    rfl
  refine pure_ (i := 1) (N := some 7) (v := ?_) (a' := ?_) #[true, true, false, false, false, false, false, false, false] rfl rfl (any_of HT_.out (by kernel_rfl)) (fun _ _ _ h => h) (Or.inl ⟨by rfl, ?_⟩) ?_ ?_
  rotate_left
  · intro w'
    go_simp
    with_reducible rfl
  rotate_left
  · simp only [Act.put, List.setIfInBounds_toArray, List.set_cons_zero, List.set_cons_succ, i64_w, i32_w]
    rfl
  refine pure_ (i := 2) (N := some 8) (v := ?_) (a' := ?_) #[true, true, true, false, false, false, false, false, false] rfl rfl (any_of HT_.out (by kernel_rfl)) (fun _ _ _ h => h) (Or.inl ⟨by rfl, ?_⟩) ?_ ?_
  rotate_left
  · intro w'
    go_simp
    with_reducible rfl
  rotate_left
  · simp only [Act.put, List.setIfInBounds_toArray, List.set_cons_zero, List.set_cons_succ, i64_w, i32_w]
    rfl
  refine take_ (i := 3) (N := some 9) (v := ?_) (a' := ?_) #[true, true, true, true, false, false, false, false, false] rfl rfl (take_ofW HT_.out HW_.out (by kernel_rfl)) (fun _ _ _ h => h) (Or.inl ⟨by rfl, ?_⟩) hHeld ?_ ?_
  rotate_left
  · rintro w' ⟨s1, s2, s3, s4, s5, s6⟩
    go_simp
    with_reducible rfl
  rotate_left
  · simp only [Act.put, List.setIfInBounds_toArray, List.set_cons_zero, List.set_cons_succ, i64_w, i32_w]
    rfl
  refine pure_ (i := 4) (N := some 10) (v := ?_) (a' := ?_) #[true, true, true, true, true, false, false, false, false] rfl rfl (any_of HT_.out (by kernel_rfl)) (fun _ _ _ h => h) (Or.inl ⟨by rfl, ?_⟩) ?_ ?_
  rotate_left
  · intro w'
    go_simp
    with_reducible rfl
  rotate_left
  · simp only [Act.put, List.setIfInBounds_toArray, List.set_cons_zero, List.set_cons_succ, i64_w, i32_w]
    rfl
  refine take_ (i := 5) (N := some 11) (v := ?_) (a' := ?_) #[true, true, true, true, true, true, false, false, false] rfl rfl (take_ofW HT_.out HW_.out (by kernel_rfl)) (fun _ _ _ h => h) (Or.inl ⟨by rfl, ?_⟩) hHeld ?_ ?_
  rotate_left
  · rintro w' ⟨s1, s2, s3, s4, s5, s6⟩
    go_simp
    with_reducible rfl
  rotate_left
  · simp only [Act.put, List.setIfInBounds_toArray, List.set_cons_zero, List.set_cons_succ, i64_w, i32_w]
    rfl
  refine take_ (i := 6) (N := some 12) (v := ?_) (a' := ?_) #[true, true, true, true, true, true, true, false, false] rfl rfl (take_ofW HT_.out HW_.out (by kernel_rfl)) (fun _ _ _ h => h) (Or.inl ⟨by rfl, ?_⟩) hHeld ?_ ?_
  rotate_left
  · rintro w' ⟨s1, s2, s3, s4, s5, s6⟩
    go_simp
    with_reducible rfl
  rotate_left
  · simp only [Act.put, List.setIfInBounds_toArray, List.set_cons_zero, List.set_cons_succ, i64_w, i32_w]
    rfl
  refine take_ (i := 7) (N := some 13) (v := ?_) (a' := ?_) #[true, true, true, true, true, true, true, true, false] rfl rfl (take_ofW HT_.out HW_.out (by kernel_rfl)) (fun _ _ _ h => h) (Or.inl ⟨by rfl, ?_⟩) hHeld ?_ ?_
  rotate_left
  · rintro w' ⟨s1, s2, s3, s4, s5, s6⟩
    go_simp
    with_reducible rfl
  rotate_left
  · simp only [Act.put, List.setIfInBounds_toArray, List.set_cons_zero, List.set_cons_succ, i64_w, i32_w]
    rfl
  refine last_ (i := 8) (N := some 14) #[true, true, true, true, true, true, true, true, true] rfl rfl (one_of HT_.out (by kernel_rfl)) (by decide) (fun K hK => ?_)
  refine goes_ Try.func25 (by kernel_rfl) rfl #[.agg #[.int .i64 (atL L id).1, .int .i64 (atL L id).2], .agg #[.int .i64 ax, .int .i64 ay], .int .i64 r] (by rfl) rfl rfl (by (try simp only [List.map_toArray, List.map_cons, List.map_nil]); first | done | rfl) ?_
  with_reducible refine (within_calls _ _ ax ay r hpx hpy hax hay _).mono ?_
  rintro e w2 ⟨rfl, hb2⟩
  refine ⟨_, rfl, ?_⟩
  refine hK.out _ _ ?_
  clear hK K
  refine norm_ (a' := ?_) ?_ ?_
  rotate_left
  · show Act.put _ (some 14) _ = _
    simp only [Act.put, List.setIfInBounds_toArray, List.set_cons_zero, List.set_cons_succ, i64_w, i32_w]
    rfl
  refine done_ (done_of HT_.out (by kernel_rfl)) ?_
  clear s1 s2 s3 s4 s5 s6 hHeld HT_ HW_
  have hb2' : Below w.heap.size w w2 := below_step (below_drew1 (Below.refl _ w)) hb2
  have hg2 := HG.out.below hb2'
  have HB2 := Aside0.mk hb2'
  clear hb2 hb2'
  cases hw : wid L ax ay r id
  · have hw' : wi (atL L id).1 (atL L id).2 ax ay r = false := hw
    rw [hw']
    go_wp2
    go_end0
    have hys := HY.out
    rw [hw, if_neg Bool.false_ne_true] at hys
    exact ⟨rfl, hys ▸ hg2, Mv.of_below HB2.out _⟩
  · have hw' : wi (atL L id).1 (atL L id).2 ax ay r = true := hw
    rw [hw']
    obtain ⟨v, o1, o2⟩ := hg2.out
    have p1 := (blk_cell o1 0).trans rfl
    have HO2 := Aside0.mk o2
    have HG2 := Aside0.mk hg2
    have O1 := Aside0.mk o1
    clear o2 hg2 o1
    go_wp2_with (first
      | (at_builtin; refine wpList_app base rfl _ _ rfl v xs [id] (some ⟨w2.heap.size, 0, none⟩) 1 1 (fun _ => True) rfl rfl (Kd.R_alloc HO2.out _) (one_C (new_cell w2 #[.int .i64 id] 3 rfl)) (fun _ _ => trivial) (by have := HG2.out.sz; simp; omega) (by omega) ?_; intro v1 w3 hR3 hg3 hat3; obtain ⟨A1, c1, e1⟩ := Kd.R_slice hR3; subst e1; have HR3 := Aside0.mk hR3; have HG3 := Aside0.mk hg3; have b3 : w3.heap[b + 3]? = some (.cells #[v] 40) := (hg3.block _ (by have := blk_lt O1.out; simp; omega) (fun e => by have := Kd.R_base HO2.out _ e.symm; have := HG2.out.lt; omega)).trans ((heap_alloc_old _ _ (blk_lt O1.out)).trans O1.out); have q1 := (blk_cell b3 0).trans rfl; have q2 := blk_frozen b3 0; have B3 := Aside0.mk b3; clear hR3 hg3 p1 b3))
    go_end0
    have hys := HY.out
    rw [hw, if_pos rfl] at hys
    subst hys
    have hlt := HG2.out.lt
    have hsz := HG2.out.sz
    have hvb : ∀ k, v.ownBlock = some k → base ≤ k := fun k hk => Kd.R_base HO2.out k hk
    have m3 : Mv w2 w3 (fun k => k = b + 3 ∨ base ≤ k) := (Mv.of_below (w := w2) (by repeat (first | (with_reducible first | exact Below.refl _ _ | apply below_alloc | apply pw_below_drewN | apply below_drew1) | exact Below.refl _ _)) _).then (Mv.of_grown (S := fun k => base ≤ k) HG3.out (fun k hk => hvb k hk)) (fun j hj => Or.inl (Or.inr hj))
    have m4 : Mv w3 (w3.setCell ⟨b + 3, 0, none⟩ (.slice A1 (xs ++ [id]).length c1)) (fun k => k = b + 3) := ⟨rfl, rfl, rfl, by simp [World.setCell], fun k _ hk => Below.heap_setCell w3 ⟨b + 3, 0, none⟩ _ k hk⟩
    have m5 : Mv w2 (w3.setCell ⟨b + 3, 0, none⟩ (.slice A1 (xs ++ [id]).length c1)) (fun k => k = b + 3 ∨ base ≤ k) := m3.then m4 (fun j hj => Or.inl (Or.inl hj))
    have e0 : (xs ++ [id]).length = xs.length + 1 := by simp
    rw [e0] at m4 m5
    have hR3 := HR3.out
    have hvb3 : ∀ k, (Value.slice A1 (xs ++ [id]).length c1).ownBlock = some k → base ≤ k := fun k hk => Kd.R_base hR3 k hk
    refine ⟨rfl, ⟨(m5.block _ (blk_lt HG2.out.b0) (by omega)).trans HG2.out.b0, (m5.block _ (blk_lt HG2.out.b1) (by omega)).trans HG2.out.b1, (m5.block _ (blk_lt HG2.out.b2) (by omega)).trans HG2.out.b2, ⟨_, blk_set B3.out 0 _, ?_⟩, hlt, Nat.le_trans hsz m5.size⟩, (Mv.of_below HB2.out _).then m5 (fun j hj => Or.inl hj)⟩
    rw [← e0]
    exact ki_one hR3 (fun k hk => by rw [← e0] at m4; exact m4.block k (Kd.R_lt hR3 k hk) (by have := hvb3 k hk; omega))
end Go.Proofs.Ytggmfmlfkhcbdaa.Gr
