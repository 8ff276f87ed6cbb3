/- The walk of GridNear. -/
import Derived.Test.YtggmfmlfkhcbdaaGY
namespace Go.Proofs.Ytggmfmlfkhcbdaa.Gr
open Go Go.RowKit Go.Maps Go.Proofs.YtggmfmlfkhcbdaaW.PrintWords Go.Proofs.YtggmfmlfkhcbdaaW.PrintLast Go.Proofs.YtggmfmlfkhcbdaaW.PrintMore
set_option linter.unusedVariables false
set_option linter.unusedSimpArgs false

def T_5_10 : Bool × List (List Nat × List Nat) := (true, [([], []), ([], []), ([], []), ([1, 2], [1, 2]), ([3], [3]), ([4], [4]), ([], []), ([], []), ([6, 7], [6, 7]), ([8], [8]), ([9], [9]), ([0, 5, 10], [0, 5, 10])])
def B_5_10 : List Nat := [0, 0, 0, 6, 14, 30, 0, 0, 192, 448, 960, 2047]
theorem tab_f5_10 : rtab .any (opsOf Try.f5 10) = T_5_10 := by kernel_rfl
theorem bits_f5_10 : waitsOk T_5_10.2 B_5_10 = true := by kernel_rfl
def T_5_43 : Bool × List (List Nat × List Nat) := (true, [([], []), ([0], [0]), ([1], [1]), ([2], [2]), ([3, 2], [2, 3]), ([2], [2]), ([2], [2]), ([6, 2], [2, 6]), ([4, 5, 7, 2, 2], [2, 4, 5, 7]), ([8, 2], [2, 8]), ([2, 9], [2, 9]), ([10, 8], [10]), ([11], [11]), ([11], [11]), ([13, 11], [11, 13]), ([12, 14, 11], [11, 12, 14]), ([15, 11, 11], [11, 15]), ([16], [16]), ([16], [16]), ([17, 18, 16], [16, 17, 18]), ([19, 16], [16, 19]), ([16], [16]), ([16], [16]), ([21, 22, 16], [16, 21, 22]), ([23, 16], [16, 23]), ([20, 24, 16], [16, 20, 24]), ([16, 25, 11], [11, 16, 25]), ([11, 26], [11, 26])])
def B_5_43 : List Nat := [0, 1, 3, 7, 15, 7, 7, 71, 255, 511, 1023, 2047, 4095, 4095, 12287, 32767, 65535, 131071, 131071, 524287, 1048575, 131071, 131071, 6422527, 14811135, 33554431, 67108863, 134217727]
theorem tab_f5_43 : rtab .any (opsOf Try.f5 43) = T_5_43 := by kernel_rfl
theorem bits_f5_43 : waitsOk T_5_43.2 B_5_43 = true := by kernel_rfl
def T_5_33 : Bool × List (List Nat × List Nat) := (true, [([], []), ([0], [0]), ([1], [1]), ([2], [2]), ([3, 2], [2, 3]), ([4, 2, 2], [2, 4]), ([5], [5]), ([5], [5]), ([7, 5], [5, 7]), ([6, 8, 5], [5, 6, 8]), ([9, 5], [5, 9]), ([5], [5]), ([5], [5]), ([11, 12, 5], [5, 11, 12]), ([13, 5], [5, 13]), ([10, 14, 5], [5, 10, 14]), ([5, 15, 2], [2, 5, 15]), ([2, 16], [2, 16])])
def B_5_33 : List Nat := [0, 1, 3, 7, 15, 31, 63, 63, 191, 511, 1023, 63, 63, 6207, 14399, 32767, 65535, 131071]
theorem tab_f5_33 : rtab .any (opsOf Try.f5 33) = T_5_33 := by kernel_rfl
theorem bits_f5_33 : waitsOk T_5_33.2 B_5_33 = true := by kernel_rfl
def T_5_25 : Bool × List (List Nat × List Nat) := (true, [([], []), ([], []), ([0, 1], [0, 1]), ([2], [2]), ([], []), ([], []), ([4, 5], [4, 5]), ([6], [6]), ([3, 7], [3, 7])])
def B_5_25 : List Nat := [0, 0, 3, 7, 0, 0, 48, 112, 255]
theorem tab_f5_25 : rtab .any (opsOf Try.f5 25) = T_5_25 := by kernel_rfl
theorem bits_f5_25 : waitsOk T_5_25.2 B_5_25 = true := by kernel_rfl
def T_5_49 : Bool × List (List Nat × List Nat) := (true, [([], []), ([], []), ([0, 1], [0, 1]), ([2], [2]), ([3], [3]), ([3], [3]), ([4, 5, 3], [3, 4, 5]), ([6, 3, 3], [3, 6]), ([7], [7]), ([7], [7]), ([9, 7], [7, 9]), ([8, 10, 7], [7, 8, 10]), ([11, 7], [7, 11]), ([7], [7]), ([7], [7]), ([13, 14, 7], [7, 13, 14]), ([15, 7], [7, 15]), ([12, 16, 7], [7, 12, 16]), ([7, 17, 3], [3, 7, 17]), ([3, 18], [3, 18])])
def B_5_49 : List Nat := [0, 0, 3, 7, 15, 15, 63, 127, 255, 255, 767, 2047, 4095, 255, 255, 24831, 57599, 131071, 262143, 524287]
theorem tab_f5_49 : rtab .any (opsOf Try.f5 49) = T_5_49 := by kernel_rfl
theorem bits_f5_49 : waitsOk T_5_49.2 B_5_49 = true := by kernel_rfl
/-! plain -/
theorem has_ins {t : Th} {L : List Th} {id : Int} : hasP (ins t L) id = true ↔ t.id = id ∨ hasP L id = true := by
  rw [hasP_iff, hasP_iff]
  constructor
  · rintro ⟨x, hx, e⟩
    rcases mem_ins.1 hx with rfl | hx
    · exact Or.inl e
    · exact Or.inr ⟨x, hx, e⟩
  · rintro (e | ⟨x, hx, e⟩)
    · exact ⟨t, mem_ins.2 (Or.inl rfl), e⟩
    · exact ⟨x, mem_ins.2 (Or.inr hx), e⟩
theorem has_put {t : Th} {L : List Th} {id : Int} (h : t.id = id ∨ hasP L id = true) : hasP (putT t L) id = true := by
  unfold putT
  rw [has_ins]
  by_cases e : t.id = id
  · exact Or.inl e
  · right
    rcases h with h | h
    · exact absurd h e
    · obtain ⟨x, hx, e2⟩ := hasP_iff.1 h
      exact hasP_iff.2 ⟨x, mem_drop.2 ⟨hx, by omega⟩, e2⟩
theorem count_step {xs : List Int} {id x : Int} {a : Nat} (h : xs[a]? = some x) : (xs.take (a + 1)).count id = (xs.take a).count id + if x = id then 1 else 0 := by
  rw [List.take_add_one, h]
  simp [List.count_append, List.count_singleton]
theorem in_at {L : List Th} (hs : Srt L) {id px py : Int} (hh : hasP L id = true) (hxy : atL L id = (px, py)) (ax ay r : Int) : id ∈ inL L ax ay r ↔ wi ax ay px py r = true := by
  obtain ⟨t, ht, rfl⟩ := hasP_iff.1 hh
  rw [atL_mem hs ht] at hxy
  injection hxy with h1 h2
  subst h1
  subst h2
  rw [inL_mem, wi_comm]
  constructor
  · rintro ⟨u, hu, e, hw⟩
    rw [hs.inj hu ht e] at hw
    exact hw
  · intro hw
    exact ⟨t, ht, rfl, hw⟩
theorem count_nodup {xs : List Int} (h : xs.Nodup) (id : Int) : xs.count id = if id ∈ xs then 1 else 0 := by
  by_cases hi : id ∈ xs
  · rw [if_pos hi]
    have h1 := List.nodup_iff_count.1 h id
    have h2 := List.count_pos_iff.2 hi
    omega
  · rw [if_neg hi, List.count_eq_zero.2 hi]
theorem count_at {L : List Th} (hs : Srt L) {id px py : Int} (hh : hasP L id = true) (hxy : atL L id = (px, py)) (ax ay r : Int) : (inL L ax ay r).count id = if wi ax ay px py r = true then 1 else 0 := by
  rw [count_nodup (inL_nodup hs ax ay r)]
  simp only [in_at hs hh hxy]
theorem in_has {L : List Th} {ax ay r id : Int} (h : id ∈ inL L ax ay r) : hasP L id = true := by
  obtain ⟨t, ht, e, _⟩ := inL_mem.1 h
  exact hasP_iff.2 ⟨t, ht, e⟩
theorem in_lt {L : List Th} (hs : Srt L) {ax ay r a b : Int} {i j : Nat} (hi : (inL L ax ay r)[i]? = some a) (hj : (inL L ax ay r)[j]? = some b) (h : i < j) : a < b := by
  obtain ⟨h1, rfl⟩ := List.getElem?_eq_some_iff.1 hi
  obtain ⟨h2, rfl⟩ := List.getElem?_eq_some_iff.1 hj
  exact List.pairwise_iff_getElem.1 (inL_sorted hs ax ay r) i j h1 h2 h
theorem near_mem {L : List Th} {ax ay r id : Int} (h : id ∈ nearS L ax ay r) : id ∈ inL L ax ay r := (nearS_perm L ax ay r).mem_iff.1 h
theorem near_nodup {L : List Th} (hs : Srt L) (ax ay r : Int) : (nearS L ax ay r).Nodup := (nearS_perm L ax ay r).nodup_iff.2 (inL_nodup hs ax ay r)
/-- The nearer stands ahead. -/
theorem near_lt {L : List Th} (hs : Srt L) {ax ay r a b qx qy px py : Int} {i j : Nat} (hi : (nearS L ax ay r)[i]? = some a) (hj : (nearS L ax ay r)[j]? = some b) (h : i < j) (ha : atL L a = (qx, qy)) (hb : atL L b = (px, py)) :
    dd ax ay qx qy < dd ax ay px py ∨ (dd ax ay qx qy = dd ax ay px py ∧ a < b) := by
  obtain ⟨h1, rfl⟩ := List.getElem?_eq_some_iff.1 hi
  obtain ⟨h2, rfl⟩ := List.getElem?_eq_some_iff.1 hj
  have hp := List.pairwise_iff_getElem.1 (nearS_sorted L ax ay r) i j h1 h2 h
  have hn := List.pairwise_iff_getElem.1 (near_nodup hs ax ay r) i j h1 h2 h
  rw [near3_neg] at hp
  unfold dq at hp
  rw [ha, hb] at hp
  simp only [dd_comm qx qy, dd_comm px py] at hp
  omega
theorem at_i {w : World} {A : Option Addr} {n : Nat} {xs : List Int} (h : ki.C w A n xs) (k : Int) (h0 : 0 ≤ k) (h1 : k < n) : ∃ ad x, xs[k.toNat]? = some x ∧ A = some ad ∧ w.cell? (ad.add k.toNat) = some (.int .i64 x) := by
  obtain ⟨ad, rfl, _⟩ := h.2.2 (by omega)
  have hl : k.toNat < xs.length := by have := h.1; omega
  refine ⟨ad, rd xs k, ?_, rfl, Kd.foot_int h k h0 h1⟩
  unfold rd
  rw [List.getD_eq_getElem?_getD, List.getElem?_eq_getElem hl]
  rfl
theorem mem_at {xs : List Int} {x : Int} {i : Nat} (h : xs[i]? = some x) : x ∈ xs := List.mem_of_getElem? h

theorem gs_nearest_m {w w0 : World} {gb : Nat} {F : Nat → Prop} {side : Int} {n : Nat} {L : List Th} (h : GS w0 gb F side n L) (hb : Below w0.heap.size w0 w) (hn : n ≤ 1000000) {ax ay r N : Int} (hax : I64 ax) (hay : I64 ay) (hr : I64 r) (xs : List Int) (hx : (nearS L ax ay r).take N.toNat = xs) (m : Nat) (hm : xs.length = m) :
    Calls Try.prog 19 #[.pointer (some ⟨gb, 0, none⟩), .agg #[.int .i64 ax, .int .i64 ay], .int .i64 r, .int .i64 N] w fun e w' => ∃ A, e = .returned (.slice A m m) ∧ ki.C w' A m xs ∧ Below w.heap.size w w' := by
  subst hm
  refine (gs_nearest h hb hn hax hay hr xs hx).mono ?_
  rintro e w' ⟨A, c, ys, rfl, _, hC, hb⟩
  exact ⟨A, rfl, hC, hb⟩
theorem gs_near_m {w w0 : World} {gb : Nat} {F : Nat → Prop} {side : Int} {n : Nat} {L : List Th} (h : GS w0 gb F side n L) (hb : Below w0.heap.size w0 w) (hn : n ≤ 1000000) {ax ay r : Int} (hax : I64 ax) (hay : I64 ay) (hr : I64 r) (xs : List Int) (hx : inL L ax ay r = xs) (m : Nat) (hm : xs.length = m) :
    Calls Try.prog 17 #[.pointer (some ⟨gb, 0, none⟩), .agg #[.int .i64 ax, .int .i64 ay], .int .i64 r] w fun e w' => ∃ A c, e = .returned (.slice A m c) ∧ ki.C w' A m xs ∧ m ≤ c ∧ Below w.heap.size w w' := by
  subst hm
  refine (gs_near h hb hn hax hay hr xs hx).mono ?_
  rintro e w' ⟨A, c, rfl, hR, hc, hb⟩
  exact ⟨A, c, rfl, (Kd.R_reads' hR).2.2, hc, hb⟩
theorem bx4 {w5 : World} {b10 : Nat} {s : St} (h : w5.heap[b10]? = some (.cells #[.int .i64 s.op, .int .i64 s.id, .int .i64 s.x, .int .i64 s.y, .int .i64 s.r, .int .i64 s.n] 34)) {w' : World} (hb : Below w5.heap.size w5 w') : w'.cell? ⟨b10, 2, none⟩ = some (.int .i64 s.x) ∧ w'.cell? ⟨b10, 3, none⟩ = some (.int .i64 s.y) ∧ w'.cell? ⟨b10, 4, none⟩ = some (.int .i64 s.r) ∧ w'.cell? ⟨b10, 5, none⟩ = some (.int .i64 s.n) := by
  obtain ⟨_, _, x2, x3, x4, x5⟩ := bx6 ((hb.block _ (blk_lt h)).trans h)
  exact ⟨x2, x3, x4, x5⟩
theorem bx2 {w5 : World} {b : Nat} {px py : Int} (h : w5.heap[b]? = some (.cells #[.int .i64 px, .int .i64 py] 32)) {w' : World} (hb : Below w5.heap.size w5 w') : w'.cell? ⟨b, 0, none⟩ = some (.int .i64 px) ∧ w'.cell? ⟨b, 1, none⟩ = some (.int .i64 py) :=
  bx_cells2 ((hb.block _ (blk_lt h)).trans h)
/-- The grid and the ids that came in. -/
def NR (w W : World) (g1 : Nat) (side : Int) (n : Nat) (iv : Value) (ids : List Int) : Prop := ∃ F L, GS W g1 F side n L ∧ (∀ k, F k → w.heap.size ≤ k) ∧ ki.R 3 W w.heap.size (fun _ => True) iv ids ∧ (∀ k, iv.ownBlock = some k → ¬ F k) ∧ (∀ id ∈ ids, hasP L id = true ∧ I64 id) ∧ Below w.heap.size w W
theorem R_ne {W W2 : World} {base : Nat} {v : Value} {xs : List Int} {S : Nat → Prop} (h : ki.R 3 W base (fun _ => True) v xs) (hm : Mv W W2 S) (hS : ∀ k, v.ownBlock = some k → ¬ S k) : ki.R 3 W2 base (fun _ => True) v xs :=
  ki_one h (fun k hk => hm.block k (Kd.R_lt h k hk) (hS k hk))
set_option maxHeartbeats 8000000 in
set_option maxRecDepth 100000 in
theorem near_walk (side : Int) (A : Option Addr) (c : Nat) (l : List St) (w : World) (hs : I64 side) (hC : Kd.C k34 w A l.length l) (hc : l.length ≤ c) (hlen : l.length * 48 ≤ 140737488351232) (hwf : ∀ s ∈ l, s.wf) :
    Calls Try.prog 5 #[.int .i64 side, .slice A l.length c] w fun e w' => e = .returned (.bool true) ∧ Below w.heap.size w w' := by
  obtain ⟨sa, ⟨a1, a2⟩, hsa⟩ := side_calls side hs w
  have HC := Aside0.mk hC
  have HL := Aside0.mk hlen
  have HW := Aside0.mk hwf
  have HB := Aside0.mk (Below.refl w.heap.size w)
  clear hC hlen hwf
  go_enter Try.func5, Try.ntmps5
  go_upto_block 0 with (first
    | (go_at_call 7; refine (fixed_calls _).mono ?_; rintro e w1 ⟨rfl, hb⟩; have n_ := Aside0.mk (below_step (by repeat (first | (with_reducible first | exact HB.out | apply below_alloc | apply pw_below_drewN | apply below_drew1) | exact HB.out)) hb); clear HB; have HB := n_; clear n_ hb)
    | (go_at_call 23; (with_reducible refine (hsa _).mono ?_); rintro e w2 ⟨rfl, ⟨nd, rfl⟩⟩; clear hsa)
    | (go_at_call 8; (with_reducible refine (gs_new sa a1 a2 _).mono ?_); rintro e w2 ⟨g1, F, rfl, hG, hb, hF⟩; have HG := Aside0.mk hG; have HF := Aside0.mk (fun k hk => Nat.le_trans (below_size (w := w) (by repeat (first | (with_reducible first | exact HB.out | apply below_alloc | apply pw_below_drewN | apply below_drew1) | exact HB.out))) (hF k hk)); have n_ := Aside0.mk (below_step (by repeat (first | (with_reducible first | exact HB.out | apply below_alloc | apply pw_below_drewN | apply below_drew1) | exact HB.out)) hb); clear HB; have HB := n_; clear n_ hb hG hF))
  go_cut [7] (fun ov wc => ∃ (n : Nat) (ids : List Int), n ≤ 80 ∧ ids.length ≤ 40 ∧ NR w wc g1 sa n ov ids)
  case first =>
    as_aux_lemma =>
      go_wp2
      go_loopw [7, 8] (fun ov iv wr => ∃ (k : Int) (ids : List Int), iv = .int .i64 k ∧ 0 ≤ k ∧ k ≤ l.length ∧ k ≤ 40 ∧ ids.length ≤ k.toNat ∧ NR w wr g1 sa (2 * k.toNat) ov ids) (fun _ iv _ => l.length - (intOf iv).toNat)
      case atStart => exact ⟨0, [], rfl, Int.le_refl _, by omega, by omega, Nat.le_refl _, F, [], HG.out, HF.out, Kd.R_nil _ _ _ _ _, fun k hk => (by simp [Value.ownBlock] at hk), fun _ h => (by cases h), HB.out⟩
      case round =>
        as_aux_lemma =>
          clear HB HG HF F a1 a2
          obtain ⟨k, ids, rfl, h0, h1, h3, hil, F, L, hG, hF, hR, hD, hid, hb⟩ := hrel
          have HG := Aside0.mk hG
          have HF := Aside0.mk hF
          have HR := Aside0.mk hR
          have HD := Aside0.mk hD
          have HID := Aside0.mk hid
          have HB := Aside0.mk hb
          have HIL := Aside0.mk hil
          have HSR := Aside0.mk hG.srt
          obtain ⟨Ai, ci, ei⟩ := Kd.R_slice hR
          clear hG hF hR hD hid hb hil
          by_cases hk : k < l.length ∧ k < 40
          · as_aux_lemma =>
              obtain ⟨hk, hk3⟩ := hk
              have kb : decide (k < (l.length : Int)) = true := decide_eq_true hk
              have kb3 : decide (k < 40) = true := decide_eq_true hk3
              obtain ⟨ad, s, hs, e1, hS⟩ := cells_S (W := wr) HC.out h0 hk
              subst e1
              obtain ⟨z0, z1, z2, z3, z4, z5⟩ := HW.out s (List.mem_of_getElem? hs)
              have KA := Aside0.mk (And.intro h0 (And.intro hk hk3))
              have HN : Aside0 (2 * k.toNat ≤ 1000000) := ⟨by omega⟩
              obtain ⟨d0, d1, d2, d3, d4, d5⟩ := hS wr HB.out
              have HS := Aside0.mk hS
              have p0 : (0 ≤ k) = True := eq_true h0
              have p1 : (k < (l.length : Int)) = True := eq_true hk
              clear hk hk3 hs h0 h1 h3 hS
              go_wp2
              refine start_ (n := 12) (S := fun w' => w'.cell? ⟨(ad.add (k.toNat * 6)).block, (ad.add (k.toNat * 6)).off + 1, none⟩ = some (.int .i64 s.id) ∧ w'.cell? ⟨(ad.add (k.toNat * 6)).block, (ad.add (k.toNat * 6)).off + 2, none⟩ = some (.int .i64 s.x) ∧ w'.cell? ⟨(ad.add (k.toNat * 6)).block, (ad.add (k.toNat * 6)).off + 3, none⟩ = some (.int .i64 s.y)) (ds := [11]) #[false, false, false, false, false, false, false, false, false, false, false, false] (by kernel_rfl) rfl rfl ⟨d1, d2, d3⟩ (fun hHeld => ?_)
              refine with_tabW tab_f5_10 bits_f5_10 (fun HT_ HW_ => ?_)
              refine pure_ (i := 0) (N := some 53) (v := ?_) (a' := ?_) #[true, false, false, false, false, false, false, false, false, false, false, false] rfl rfl (any_of HT_.out (by kernel_rfl)) (fun _ _ _ h => h) (Or.inl ⟨by rfl, ?_⟩) ?_ ?_
              rotate_left
              · intro w'
                go_simp
                with_reducible rfl
              rotate_left
              · simp only [Act.put, List.setIfInBounds_toArray, List.set_cons_zero, List.set_cons_succ, i64_w, i32_w]
                rfl
              refine pure_ (i := 1) (N := some 54) (v := ?_) (a' := ?_) #[true, true, false, false, false, false, false, false, false, false, false, false] rfl rfl (any_of HT_.out (by kernel_rfl)) (fun _ _ _ h => h) (Or.inl ⟨by rfl, ?_⟩) ?_ ?_
              rotate_left
              · intro w'
                go_simp
                with_reducible rfl
              rotate_left
              · simp only [Act.put, List.setIfInBounds_toArray, List.set_cons_zero, List.set_cons_succ, i64_w, i32_w]
                rfl
              refine pure_ (i := 2) (N := some 55) (v := ?_) (a' := ?_) #[true, true, true, false, false, false, false, false, false, false, false, false] rfl rfl (any_of HT_.out (by kernel_rfl)) (fun _ _ _ h => h) (Or.inl ⟨by rfl, ?_⟩) ?_ ?_
              rotate_left
              · intro w'
                go_simp
                with_reducible rfl
              rotate_left
              · simp only [Act.put, List.setIfInBounds_toArray, List.set_cons_zero, List.set_cons_succ, i64_w, i32_w]
                rfl
              refine pure_ (i := 3) (N := some 56) (v := ?_) (a' := ?_) #[true, true, true, true, false, false, false, false, false, false, false, false] rfl rfl (any_of HT_.out (by kernel_rfl)) (fun _ _ _ h => h) (Or.inl ⟨by rfl, ?_⟩) ?_ ?_
              rotate_left
              · intro w'
                go_simp
                with_reducible rfl
              rotate_left
              · simp only [Act.put, List.setIfInBounds_toArray, List.set_cons_zero, List.set_cons_succ, i64_w, i32_w]
                rfl
              refine pure_ (i := 4) (N := some 57) (v := ?_) (a' := ?_) #[true, true, true, true, true, false, false, false, false, false, false, false] rfl rfl (any_of HT_.out (by kernel_rfl)) (fun _ _ _ h => h) (Or.inl ⟨by rfl, ?_⟩) ?_ ?_
              rotate_left
              · intro w'
                go_simp
                with_reducible rfl
              rotate_left
              · simp only [Act.put, List.setIfInBounds_toArray, List.set_cons_zero, List.set_cons_succ, i64_w, i32_w]
                rfl
              refine take_ (i := 5) (N := some 58) (v := ?_) (a' := ?_) #[true, true, true, true, true, true, false, false, false, false, false, false] rfl rfl (take_ofW HT_.out HW_.out (by kernel_rfl)) (fun _ _ _ h => h) (Or.inl ⟨by rfl, ?_⟩) hHeld ?_ ?_
              rotate_left
              · rintro w' ⟨s1, s2, s3⟩
                go_simp
                with_reducible rfl
              rotate_left
              · simp only [Act.put, List.setIfInBounds_toArray, List.set_cons_zero, List.set_cons_succ, i64_w, i32_w]
                rfl
              refine pure_ (i := 6) (N := some 59) (v := ?_) (a' := ?_) #[true, true, true, true, true, true, true, false, false, false, false, false] rfl rfl (any_of HT_.out (by kernel_rfl)) (fun _ _ _ h => h) (Or.inl ⟨by rfl, ?_⟩) ?_ ?_
              rotate_left
              · intro w'
                go_simp
                with_reducible rfl
              rotate_left
              · simp only [Act.put, List.setIfInBounds_toArray, List.set_cons_zero, List.set_cons_succ, i64_w, i32_w]
                rfl
              refine pure_ (i := 7) (N := some 60) (v := ?_) (a' := ?_) #[true, true, true, true, true, true, true, true, false, false, false, false] rfl rfl (any_of HT_.out (by kernel_rfl)) (fun _ _ _ h => h) (Or.inl ⟨by rfl, ?_⟩) ?_ ?_
              rotate_left
              · intro w'
                go_simp
                with_reducible rfl
              rotate_left
              · simp only [Act.put, List.setIfInBounds_toArray, List.set_cons_zero, List.set_cons_succ, i64_w, i32_w]
                rfl
              refine pure_ (i := 8) (N := some 61) (v := ?_) (a' := ?_) #[true, true, true, true, true, true, true, true, true, false, false, false] rfl rfl (any_of HT_.out (by kernel_rfl)) (fun _ _ _ h => h) (Or.inl ⟨by rfl, ?_⟩) ?_ ?_
              rotate_left
              · intro w'
                go_simp
                with_reducible rfl
              rotate_left
              · simp only [Act.put, List.setIfInBounds_toArray, List.set_cons_zero, List.set_cons_succ, i64_w, i32_w]
                rfl
              refine pure_ (i := 9) (N := some 62) (v := ?_) (a' := ?_) #[true, true, true, true, true, true, true, true, true, true, false, false] rfl rfl (any_of HT_.out (by kernel_rfl)) (fun _ _ _ h => h) (Or.inl ⟨by rfl, ?_⟩) ?_ ?_
              rotate_left
              · intro w'
                go_simp
                with_reducible rfl
              rotate_left
              · simp only [Act.put, List.setIfInBounds_toArray, List.set_cons_zero, List.set_cons_succ, i64_w, i32_w]
                rfl
              refine take_ (i := 10) (N := some 63) (v := ?_) (a' := ?_) #[true, true, true, true, true, true, true, true, true, true, true, false] rfl rfl (take_ofW HT_.out HW_.out (by kernel_rfl)) (fun _ _ _ h => h) (Or.inl ⟨by rfl, ?_⟩) hHeld ?_ ?_
              rotate_left
              · rintro w' ⟨s1, s2, s3⟩
                go_simp
                with_reducible rfl
              rotate_left
              · simp only [Act.put, List.setIfInBounds_toArray, List.set_cons_zero, List.set_cons_succ, i64_w, i32_w]
                rfl
              refine last_ (i := 11) (N := some 64) #[true, true, true, true, true, true, true, true, true, true, true, true] rfl rfl (one_of HT_.out (by kernel_rfl)) (by decide) (fun K hK => ?_)
              refine goes_ Try.func10 (by kernel_rfl) rfl #[.pointer (some ⟨g1, 0, none⟩), .int .i64 s.id, .agg #[.int .i64 s.x, .int .i64 s.y]] (by rfl) rfl rfl (by (try simp only [List.map_toArray, List.map_cons, List.map_nil]); first | done | rfl) ?_
              with_reducible refine (gs_put HG.out ?s1 (by have := HN.out; omega) s.id s.x s.y z1 z2 z3 _ rfl).mono ?_
              case s1 => exact (by repeat (first | (with_reducible first | exact Below.refl _ _ | apply below_alloc | apply pw_below_drewN | apply below_drew1) | exact Below.refl _ _))
              rintro e w5 ⟨rfl, F2, hG2, hm2, hF2⟩
              refine ⟨_, rfl, ?_⟩
              have n1_ := Aside0.mk hG2
              have n2_ := Aside0.mk (newF HF.out (Nat.le_trans HB.out.size (below_size (w := wr) (by repeat (first | (with_reducible first | exact Below.refl _ _ | apply below_alloc | apply pw_below_drewN | apply below_drew1) | exact Below.refl _ _)))) hF2)
              have n3_ := Aside0.mk (R_ne (R_to HR.out (by repeat (first | (with_reducible first | exact Below.refl _ _ | apply below_alloc | apply pw_below_drewN | apply below_drew1) | exact Below.refl _ _))) hm2 HD.out)
              have n4_ := Aside0.mk (fun k hk (hf : F2 k) => (hF2 k hf).elim (HD.out k hk) (fun h => Nat.lt_irrefl _ (Nat.lt_of_lt_of_le (Kd.R_lt HR.out k hk) (Nat.le_trans (below_size (w := wr) (by repeat (first | (with_reducible first | exact Below.refl _ _ | apply below_alloc | apply pw_below_drewN | apply below_drew1) | exact Below.refl _ _))) h))))
              have n5_ := Aside0.mk (Below.trans (B := w.heap.size) (below_step HB.out (by repeat (first | (with_reducible first | exact Below.refl _ _ | apply below_alloc | apply pw_below_drewN | apply below_drew1) | exact Below.refl _ _))) (hm2.toB (Nat.le_trans HB.out.size (below_size (w := wr) (by repeat (first | (with_reducible first | exact Below.refl _ _ | apply below_alloc | apply pw_below_drewN | apply below_drew1) | exact Below.refl _ _)))) HF.out))
              clear HG HF HR HD HB hG2 hm2 hF2
              have HG := n1_
              have HF := n2_
              have HR := n3_
              have HD := n4_
              have HB := n5_
              clear n1_ n2_ n3_ n4_ n5_
              refine hK.out _ _ ?_
              clear hK K
              refine norm_ (a' := ?_) ?_ ?_
              rotate_left
              · show Act.put _ (some 64) _ = _
                simp only [Act.put, List.setIfInBounds_toArray, List.set_cons_zero, List.set_cons_succ, i64_w, i32_w]
                rfl
              refine done_ (done_of HT_.out (by kernel_rfl)) ?_
              clear hHeld HT_ HW_ d0 d1 d2 d3 d4 d5
              obtain ⟨d0, d1, _⟩ := HS.out w5 HB.out
              subst ei
              go_wp2_with (at_builtin; refine wpList_app w.heap.size rfl _ _ rfl (.slice Ai ids.length ci) ids [s.id] (some ⟨w5.heap.size, 0, none⟩) 1 1 (fun _ => True) rfl rfl (Kd.R_alloc HR.out _) (one_C (new_cell w5 #[.int .i64 s.id] 3 rfl)) (fun _ _ => trivial) (by have := HB.out.size; simp; omega) (by have := HIL.out; have := KA.out; simp; omega) ?_; intro v1 w6 hR6 hg6 hat6; have HR6 := Aside0.mk hR6; have HG6 := Aside0.mk hg6; have HAT := Aside0.mk hat6; clear hR6 hg6 hat6)
              obtain ⟨h0, hk, hk3⟩ := KA.out
              rw [wrap_id (x := k + 1) (by unfold I64; omega)]
              have hM6 : Mv (w5.alloc (.cells #[.int .i64 s.id] 3)) w6 (fun k => (Value.slice Ai ids.length ci).ownBlock = some k) := Mv.of_grown HG6.out (fun k hk => hk)
              refine ⟨⟨k + 1, ids ++ [s.id], rfl, by omega, by omega, by omega, by have := HIL.out; simp; omega, F2, putT ⟨s.id, s.x, s.y⟩ L, ?_, HF.out, HR6.out, ?_, ?_, ?_⟩, by simp only [intOf]; omega⟩
              · rw [show 2 * (k + 1).toNat = 2 * k.toNat + 2 by omega]
                exact (HG.out.below (by repeat (first | (with_reducible first | exact Below.refl _ _ | apply below_alloc | apply pw_below_drewN | apply below_drew1) | exact Below.refl _ _))).mv hM6 (fun k hf hk => HD.out k hk hf)
              · intro k2 hk2 hf
                rcases HAT.out with e | ⟨b, e, hb⟩
                · rw [e] at hk2; exact HD.out k2 hk2 hf
                · rw [e] at hk2
                  injection hk2 with hk2
                  have := HG.out.lt k2 hf
                  simp at hb
                  omega
              · intro id hid
                rcases List.mem_append.1 hid with hid | hid
                · exact ⟨has_put (Or.inr (HID.out id hid).1), (HID.out id hid).2⟩
                · rw [List.mem_singleton.1 hid]
                  exact ⟨has_put (Or.inl rfl), z1⟩
              · exact Below.trans (B := w.heap.size) (below_step HB.out (by repeat (first | (with_reducible first | exact Below.refl _ _ | apply below_alloc | apply pw_below_drewN | apply below_drew1) | exact Below.refl _ _))) (hM6.toB (by have := HB.out.size; simp; omega) (fun k hk => Kd.R_base HR.out k hk))
          · subst ei
            by_cases hk1 : k < l.length
            · have kb : decide (k < (l.length : Int)) = true := decide_eq_true hk1
              have kb3 : decide (k < 40) = false := decide_eq_false (by omega)
              have hn : 2 * k.toNat ≤ 80 ∧ ids.length ≤ 40 := by have := HIL.out; omega
              clear hk hk1 h0 h1 h3
              go_wp2
              go_meet
              case rel => exact ⟨_, ids, hn.1, hn.2, F, L, HG.out.below (by repeat (first | (with_reducible first | exact Below.refl _ _ | apply below_alloc | apply pw_below_drewN | apply below_drew1) | exact Below.refl _ _)), HF.out, R_to HR.out (by repeat (first | (with_reducible first | exact Below.refl _ _ | apply below_alloc | apply pw_below_drewN | apply below_drew1) | exact Below.refl _ _)), HD.out, HID.out, (by repeat (first | (with_reducible first | exact HB.out | apply below_alloc | apply pw_below_drewN | apply below_drew1) | exact HB.out))⟩
            · have kb : decide (k < (l.length : Int)) = false := decide_eq_false hk1
              have hn : 2 * k.toNat ≤ 80 ∧ ids.length ≤ 40 := by have := HIL.out; omega
              clear hk hk1 h0 h1 h3
              go_wp2
              go_meet
              case rel => exact ⟨_, ids, hn.1, hn.2, F, L, HG.out.below (by repeat (first | (with_reducible first | exact Below.refl _ _ | apply below_alloc | apply pw_below_drewN | apply below_drew1) | exact Below.refl _ _)), HF.out, R_to HR.out (by repeat (first | (with_reducible first | exact Below.refl _ _ | apply below_alloc | apply pw_below_drewN | apply below_drew1) | exact Below.refl _ _)), HD.out, HID.out, (by repeat (first | (with_reducible first | exact HB.out | apply below_alloc | apply pw_below_drewN | apply below_drew1) | exact HB.out))⟩
  case rest =>
    as_aux_lemma =>
      clear HB HG HF F a1 a2
      obtain ⟨n, ids, hn, hil, F, L, hG, hF, hR, hD, hid, hb⟩ := hcut
      obtain ⟨Ai, ci, rfl, hci, hCi⟩ := Kd.R_reads hR
      rename World => wP
      have HG := Aside0.mk hG
      have HI := Aside0.mk hCi
      have HID := Aside0.mk hid
      have HBP := Aside0.mk hb
      have HIL := Aside0.mk hil
      have HN : Aside0 (n ≤ 1000000) := ⟨by omega⟩
      have HSR := Aside0.mk hG.srt
      have HWF := Aside0.mk hG.wf
      clear hG hF hR hD hid hb hil hn hCi
      go_wp2
      go_loopw [9] (fun iv wr => ∃ (k : Int), iv = .int .i64 k ∧ 0 ≤ k ∧ k ≤ l.length ∧ k ≤ 40 ∧ Below wP.heap.size wP wr) (fun iv _ => l.length - (intOf iv).toNat)
      case atStart => exact ⟨0, rfl, Int.le_refl _, by omega, by omega, Below.refl _ _⟩
      case round =>
        as_aux_lemma =>
          obtain ⟨k, rfl, h0, h1, h3, hb⟩ := hrel
          have HB := Aside0.mk hb
          have HBW := Aside0.mk (below_step HBP.out hb)
          clear hb
          by_cases hk : k < l.length
          · by_cases hk3 : k < 40
            · have kb : decide (k < (l.length : Int)) = true := decide_eq_true hk
              have kb3 : decide (k < 40) = true := decide_eq_true hk3
              obtain ⟨ad, s, hs, e1, hS⟩ := cells_S (W := wr) HC.out h0 hk
              subst e1
              obtain ⟨z0, z1, z2, z3, z4, z5⟩ := HW.out s (List.mem_of_getElem? hs)
              have KA := Aside0.mk (And.intro h0 (And.intro hk hk3))
              obtain ⟨d0, d1, d2, d3, d4, d5⟩ := hS wr HBW.out
              have p0 : (0 ≤ k) = True := eq_true h0
              have p1 : (k < (l.length : Int)) = True := eq_true hk
              clear hk hk3 hs h0 h1 h3 hS
              obtain ⟨xs, hxs⟩ : ∃ xs, inL L s.x s.y s.r = xs := ⟨_, rfl⟩
              have HXS := Aside0.mk hxs
              have hxl := Aside0.mk (show xs.length ≤ 1000000 by rw [← hxs]; exact Nat.le_trans (inL_len _ _ _ _) (Nat.le_trans HG.out.len HN.out))
              obtain ⟨K, hK⟩ : ∃ K, xs.length = K := ⟨_, rfl⟩
              have HK := Aside0.mk hK
              go_upto_region 17 with (go_at_call 17; (with_reducible refine (gs_near_m (HG.out.below HB.out) ?s1 HN.out z2 z3 z4 xs hxs K hK).mono ?_); (case s1 => exact (by repeat (first | (with_reducible first | exact Below.refl _ _ | apply below_alloc | apply pw_below_drewN | apply below_drew1) | exact Below.refl _ _))); rintro e w5 ⟨A1, c1, rfl, hR1, hc1, hb⟩; have HX := Aside0.mk hR1; have HX1 := Aside0.mk hc1; have BX5 := Aside0.mk ((hb.block _ (by simp)).trans (heap_alloc_new wr (.cells #[.int .i64 s.op, .int .i64 s.id, .int .i64 s.x, .int .i64 s.y, .int .i64 s.r, .int .i64 s.n] 34))); have HB5 := Aside0.mk (below_step (w := wr) (by repeat (first | (with_reducible first | exact Below.refl _ _ | apply below_alloc | apply pw_below_drewN | apply below_drew1) | exact Below.refl _ _)) hb); clear hR1 hc1 hb)
              obtain ⟨b10, hb10⟩ : ∃ x, wr.heap.size = x := ⟨_, rfl⟩
              rw [hb10] at BX5 ⊢
              have HG5 := Aside0.mk (HG.out.below (below_step HB.out HB5.out))
              have HI5 := Aside0.mk (Kd.C_below HI.out (below_step HB.out HB5.out))
              have HBP5 := Aside0.mk (below_step HB.out HB5.out)
              have HKL : Aside0 (K ≤ 1000000) := ⟨by have := hxl.out; omega⟩
              clear d0 d1 d2 d3 d4 d5 hb10 hxs hK
              go_wp2
              go_loopw [12] (fun iv wr => ∃ (j : Int), iv = .int .i64 j ∧ 0 ≤ j ∧ j ≤ ids.length ∧ Below w5.heap.size w5 wr) (fun iv _ => ids.length - (intOf iv).toNat)
              case atStart => exact ⟨0, rfl, Int.le_refl _, by omega, Below.refl _ _⟩
              case round =>
                as_aux_lemma =>
                  obtain ⟨j, rfl, j0, j1, hbj⟩ := hrel
                  have HBJ := Aside0.mk hbj
                  by_cases hj : j < ids.length
                  · as_aux_lemma =>
                      have jb : decide (j < (ids.length : Int)) = true := decide_eq_true hj
                      obtain ⟨ad9, id, hid, e9, cI⟩ := at_i (Kd.C_below HI5.out hbj) j j0 hj
                      subst e9
                      obtain ⟨hh, hI⟩ := HID.out id (mem_at hid)
                      obtain ⟨px, hpx⟩ : ∃ x, (atL L id).1 = x := ⟨_, rfl⟩
                      obtain ⟨py, hpy⟩ : ∃ y, (atL L id).2 = y := ⟨_, rfl⟩
                      have hxy : atL L id = (px, py) := by rw [← hpx, ← hpy]
                      have hpw : I64 px ∧ I64 py := by have := atL_wf HWF.out id; rwa [hxy] at this
                      have JA := Aside0.mk (And.intro j0 (And.intro j1 hj))
                      have HIDJ := Aside0.mk hid
                      have p2 : (0 ≤ j) = True := eq_true j0
                      have p3 : (j < (ids.length : Int)) = True := eq_true hj
                      clear hbj j0 j1 hj hid hpx hpy
                      go_upto_block 6 with (go_at_call 14; (with_reducible refine (gs_at HG5.out ?s1 id hI px py hxy true hh).mono ?_); (case s1 => exact (below_step HBJ.out (by repeat (first | (with_reducible first | exact Below.refl _ _ | apply below_alloc | apply pw_below_drewN | apply below_drew1) | exact Below.refl _ _)))); rintro e w6 ⟨rfl, hb6⟩; have HB6 := Aside0.mk (below_step HBJ.out (below_step (w := wr) (by repeat (first | (with_reducible first | exact Below.refl _ _ | apply below_alloc | apply pw_below_drewN | apply below_drew1) | exact Below.refl _ _)) hb6)); clear hb6)
                      obtain ⟨b13, hb13⟩ : ∃ x, w6.heap.size = x := ⟨_, rfl⟩
                      have hF7 : Below w5.heap.size w5 (w6.alloc (.cells #[.int .i64 px, .int .i64 py] 32)) ∧ (w6.alloc (.cells #[.int .i64 px, .int .i64 py] 32)).heap[b13]? = some (.cells #[.int .i64 px, .int .i64 py] 32) := ⟨below_step HB6.out (by repeat (first | (with_reducible first | exact Below.refl _ _ | apply below_alloc | apply pw_below_drewN | apply below_drew1) | exact Below.refl _ _)), by rw [← hb13]; exact heap_alloc_new w6 _⟩
                      rw [hb13]
                      refine absW (fun w7 => Below w5.heap.size w5 w7 ∧ w7.heap[b13]? = some (.cells #[.int .i64 px, .int .i64 py] 32)) hF7 ?_
                      rintro w7 ⟨hb7, k13⟩
                      have HB7 := Aside0.mk hb7
                      have BX7 := Aside0.mk k13
                      clear hF7 hb7 k13 HB6 hb13 cI
                      go_wp2
                      go_loopw [15, 16] (fun nv iv wr => ∃ (nn q : Int), nv = .int .i64 nn ∧ iv = .int .i64 q ∧ nn = ((xs.take q.toNat).count id : Nat) ∧ 0 ≤ q ∧ q ≤ K ∧ Below w7.heap.size w7 wr) (fun _ iv _ => K - (intOf iv).toNat)
                      case atStart => exact ⟨0, 0, rfl, rfl, by simp, Int.le_refl _, by omega, Below.refl _ _⟩
                      case round =>
                        as_aux_lemma =>
                          obtain ⟨nn, q, rfl, rfl, hnn, q0, q1, hbq⟩ := hrel
                          have HBQ := Aside0.mk hbq
                          have HB5Q := Aside0.mk (below_step HB7.out hbq)
                          by_cases hq : q < K
                          · as_aux_lemma =>
                              have qb : decide (q < (K : Int)) = true := decide_eq_true hq
                              obtain ⟨adx, x, hx, ex, cX⟩ := at_i (Kd.C_below HX.out HB5Q.out) q q0 hq
                              subst ex
                              obtain ⟨ad8, id8, hid8, e8, cI⟩ := at_i (Kd.C_below HI5.out HB5Q.out) j JA.out.1 JA.out.2.2
                              cases e8
                              cases (Option.some.inj (HIDJ.out.symm.trans hid8))
                              have QA := Aside0.mk (And.intro q0 (And.intro q1 hq))
                              have HXQ := Aside0.mk hx
                              have HNN := Aside0.mk hnn
                              have hcl : (xs.take q.toNat).count id ≤ 1000000 := by
                                have e1 := List.count_le_length (a := id) (l := xs.take q.toNat)
                                rw [List.length_take] at e1
                                have := hxl.out
                                omega
                              have HCL := Aside0.mk hcl
                              have p4 : (0 ≤ q) = True := eq_true q0
                              have p5 : (q < (K : Int)) = True := eq_true hq
                              clear hbq q0 q1 hq hx hid8 hnn hcl
                              by_cases hxi : x = id
                              · as_aux_lemma =>
                                  have xi : (x == id) = true := beq_iff_eq.2 hxi
                                  have HXI := Aside0.mk hxi
                                  clear hxi
                                  go_wp2
                                  refine start_ (n := 9) (S := fun w' => w'.cell? (adx.add q.toNat) = some (.int .i64 x) ∧ w'.cell? (ad9.add j.toNat) = some (.int .i64 id)) (ds := []) #[false, false, false, false, false, false, false, false, false] (by kernel_rfl) rfl rfl ⟨cX, cI⟩ (fun hHeld => ?_)
                                  refine with_tabW tab_f5_25 bits_f5_25 (fun HT_ HW_ => ?_)
                                  refine pure_ (i := 0) (N := some 114) (v := ?_) (a' := ?_) #[true, false, false, false, false, false, false, false, false] rfl rfl (any_of HT_.out (by kernel_rfl)) (fun _ _ _ h => h) (Or.inl ⟨by rfl, ?_⟩) ?_ ?_
                                  rotate_left
                                  · intro w'
                                    go_simp
                                    with_reducible rfl
                                  rotate_left
                                  · simp only [Act.put, List.setIfInBounds_toArray, List.set_cons_zero, List.set_cons_succ, i64_w, i32_w]
                                    rfl
                                  refine pure_ (i := 1) (N := some 115) (v := ?_) (a' := ?_) #[true, true, false, false, false, false, false, false, false] rfl rfl (any_of HT_.out (by kernel_rfl)) (fun _ _ _ h => h) (Or.inl ⟨by rfl, ?_⟩) ?_ ?_
                                  rotate_left
                                  · intro w'
                                    go_simp
                                    with_reducible rfl
                                  rotate_left
                                  · simp only [Act.put, List.setIfInBounds_toArray, List.set_cons_zero, List.set_cons_succ, i64_w, i32_w]
                                    rfl
                                  refine pure_ (i := 2) (N := some 116) (v := ?_) (a' := ?_) #[true, true, true, false, false, false, false, false, false] rfl rfl (any_of HT_.out (by kernel_rfl)) (fun _ _ _ h => h) (Or.inl ⟨by rfl, ?_⟩) ?_ ?_
                                  rotate_left
                                  · intro w'
                                    go_simp
                                    with_reducible rfl
                                  rotate_left
                                  · simp only [Act.put, List.setIfInBounds_toArray, List.set_cons_zero, List.set_cons_succ, i64_w, i32_w]
                                    rfl
                                  refine take_ (i := 3) (N := some 117) (v := ?_) (a' := ?_) #[true, true, true, true, false, false, false, false, false] rfl rfl (take_ofW HT_.out HW_.out (by kernel_rfl)) (fun _ _ _ h => h) (Or.inl ⟨by rfl, ?_⟩) hHeld ?_ ?_
                                  rotate_left
                                  · rintro w' ⟨s1, s2⟩
                                    go_simp
                                    with_reducible rfl
                                  rotate_left
                                  · simp only [Act.put, List.setIfInBounds_toArray, List.set_cons_zero, List.set_cons_succ, i64_w, i32_w]
                                    rfl
                                  refine pure_ (i := 4) (N := some 118) (v := ?_) (a' := ?_) #[true, true, true, true, true, false, false, false, false] rfl rfl (any_of HT_.out (by kernel_rfl)) (fun _ _ _ h => h) (Or.inl ⟨by rfl, ?_⟩) ?_ ?_
                                  rotate_left
                                  · intro w'
                                    go_simp
                                    with_reducible rfl
                                  rotate_left
                                  · simp only [Act.put, List.setIfInBounds_toArray, List.set_cons_zero, List.set_cons_succ, i64_w, i32_w]
                                    rfl
                                  refine pure_ (i := 5) (N := some 119) (v := ?_) (a' := ?_) #[true, true, true, true, true, true, false, false, false] rfl rfl (any_of HT_.out (by kernel_rfl)) (fun _ _ _ h => h) (Or.inl ⟨by rfl, ?_⟩) ?_ ?_
                                  rotate_left
                                  · intro w'
                                    go_simp
                                    with_reducible rfl
                                  rotate_left
                                  · simp only [Act.put, List.setIfInBounds_toArray, List.set_cons_zero, List.set_cons_succ, i64_w, i32_w]
                                    rfl
                                  refine pure_ (i := 6) (N := some 120) (v := ?_) (a' := ?_) #[true, true, true, true, true, true, true, false, false] rfl rfl (any_of HT_.out (by kernel_rfl)) (fun _ _ _ h => h) (Or.inl ⟨by rfl, ?_⟩) ?_ ?_
                                  rotate_left
                                  · intro w'
                                    go_simp
                                    with_reducible rfl
                                  rotate_left
                                  · simp only [Act.put, List.setIfInBounds_toArray, List.set_cons_zero, List.set_cons_succ, i64_w, i32_w]
                                    rfl
                                  refine take_ (i := 7) (N := some 121) (v := ?_) (a' := ?_) #[true, true, true, true, true, true, true, true, false] rfl rfl (take_ofW HT_.out HW_.out (by kernel_rfl)) (fun _ _ _ h => h) (Or.inl ⟨by rfl, ?_⟩) hHeld ?_ ?_
                                  rotate_left
                                  · rintro w' ⟨s1, s2⟩
                                    go_simp
                                    with_reducible rfl
                                  rotate_left
                                  · simp only [Act.put, List.setIfInBounds_toArray, List.set_cons_zero, List.set_cons_succ, i64_w, i32_w]
                                    rfl
                                  refine pure_ (i := 8) (N := some 122) (v := ?_) (a' := ?_) #[true, true, true, true, true, true, true, true, true] rfl rfl (any_of HT_.out (by kernel_rfl)) (fun _ _ _ h => h) (Or.inl ⟨by rfl, ?_⟩) ?_ ?_
                                  rotate_left
                                  · intro w'
                                    go_simp
                                    with_reducible rfl
                                  rotate_left
                                  · simp only [Act.put, List.setIfInBounds_toArray, List.set_cons_zero, List.set_cons_succ, i64_w, i32_w]
                                    rfl
                                  refine done_ (done_of HT_.out (by kernel_rfl)) ?_
                                  clear hHeld HT_ HW_ cX cI
                                  go_wp2
                                  have e := QA.out
                                  have eK := HKL.out
                                  have en := HNN.out
                                  have ec := HCL.out
                                  rw [wrap_id (x := q + 1) (by unfold I64; omega), wrap_id (x := nn + 1) (by unfold I64; omega)]
                                  refine ⟨⟨nn + 1, q + 1, rfl, rfl, ?_, by omega, by omega, below_step HBQ.out (by repeat (first | (with_reducible first | exact Below.refl _ _ | apply below_alloc | apply pw_below_drewN | apply below_drew1) | exact Below.refl _ _))⟩, by simp only [intOf]; omega⟩
                                  rw [show (q + 1).toNat = q.toNat + 1 by omega, count_step HXQ.out, if_pos HXI.out, en]
                                  simp
                              · as_aux_lemma =>
                                  have xi : (x == id) = false := beq_eq_false_iff_ne.2 hxi
                                  have HXI := Aside0.mk hxi
                                  clear hxi
                                  go_wp2
                                  refine start_ (n := 9) (S := fun w' => w'.cell? (adx.add q.toNat) = some (.int .i64 x) ∧ w'.cell? (ad9.add j.toNat) = some (.int .i64 id)) (ds := []) #[false, false, false, false, false, false, false, false, false] (by kernel_rfl) rfl rfl ⟨cX, cI⟩ (fun hHeld => ?_)
                                  refine with_tabW tab_f5_25 bits_f5_25 (fun HT_ HW_ => ?_)
                                  refine pure_ (i := 0) (N := some 114) (v := ?_) (a' := ?_) #[true, false, false, false, false, false, false, false, false] rfl rfl (any_of HT_.out (by kernel_rfl)) (fun _ _ _ h => h) (Or.inl ⟨by rfl, ?_⟩) ?_ ?_
                                  rotate_left
                                  · intro w'
                                    go_simp
                                    with_reducible rfl
                                  rotate_left
                                  · simp only [Act.put, List.setIfInBounds_toArray, List.set_cons_zero, List.set_cons_succ, i64_w, i32_w]
                                    rfl
                                  refine pure_ (i := 1) (N := some 115) (v := ?_) (a' := ?_) #[true, true, false, false, false, false, false, false, false] rfl rfl (any_of HT_.out (by kernel_rfl)) (fun _ _ _ h => h) (Or.inl ⟨by rfl, ?_⟩) ?_ ?_
                                  rotate_left
                                  · intro w'
                                    go_simp
                                    with_reducible rfl
                                  rotate_left
                                  · simp only [Act.put, List.setIfInBounds_toArray, List.set_cons_zero, List.set_cons_succ, i64_w, i32_w]
                                    rfl
                                  refine pure_ (i := 2) (N := some 116) (v := ?_) (a' := ?_) #[true, true, true, false, false, false, false, false, false] rfl rfl (any_of HT_.out (by kernel_rfl)) (fun _ _ _ h => h) (Or.inl ⟨by rfl, ?_⟩) ?_ ?_
                                  rotate_left
                                  · intro w'
                                    go_simp
                                    with_reducible rfl
                                  rotate_left
                                  · simp only [Act.put, List.setIfInBounds_toArray, List.set_cons_zero, List.set_cons_succ, i64_w, i32_w]
                                    rfl
                                  refine take_ (i := 3) (N := some 117) (v := ?_) (a' := ?_) #[true, true, true, true, false, false, false, false, false] rfl rfl (take_ofW HT_.out HW_.out (by kernel_rfl)) (fun _ _ _ h => h) (Or.inl ⟨by rfl, ?_⟩) hHeld ?_ ?_
                                  rotate_left
                                  · rintro w' ⟨s1, s2⟩
                                    go_simp
                                    with_reducible rfl
                                  rotate_left
                                  · simp only [Act.put, List.setIfInBounds_toArray, List.set_cons_zero, List.set_cons_succ, i64_w, i32_w]
                                    rfl
                                  refine pure_ (i := 4) (N := some 118) (v := ?_) (a' := ?_) #[true, true, true, true, true, false, false, false, false] rfl rfl (any_of HT_.out (by kernel_rfl)) (fun _ _ _ h => h) (Or.inl ⟨by rfl, ?_⟩) ?_ ?_
                                  rotate_left
                                  · intro w'
                                    go_simp
                                    with_reducible rfl
                                  rotate_left
                                  · simp only [Act.put, List.setIfInBounds_toArray, List.set_cons_zero, List.set_cons_succ, i64_w, i32_w]
                                    rfl
                                  refine pure_ (i := 5) (N := some 119) (v := ?_) (a' := ?_) #[true, true, true, true, true, true, false, false, false] rfl rfl (any_of HT_.out (by kernel_rfl)) (fun _ _ _ h => h) (Or.inl ⟨by rfl, ?_⟩) ?_ ?_
                                  rotate_left
                                  · intro w'
                                    go_simp
                                    with_reducible rfl
                                  rotate_left
                                  · simp only [Act.put, List.setIfInBounds_toArray, List.set_cons_zero, List.set_cons_succ, i64_w, i32_w]
                                    rfl
                                  refine pure_ (i := 6) (N := some 120) (v := ?_) (a' := ?_) #[true, true, true, true, true, true, true, false, false] rfl rfl (any_of HT_.out (by kernel_rfl)) (fun _ _ _ h => h) (Or.inl ⟨by rfl, ?_⟩) ?_ ?_
                                  rotate_left
                                  · intro w'
                                    go_simp
                                    with_reducible rfl
                                  rotate_left
                                  · simp only [Act.put, List.setIfInBounds_toArray, List.set_cons_zero, List.set_cons_succ, i64_w, i32_w]
                                    rfl
                                  refine take_ (i := 7) (N := some 121) (v := ?_) (a' := ?_) #[true, true, true, true, true, true, true, true, false] rfl rfl (take_ofW HT_.out HW_.out (by kernel_rfl)) (fun _ _ _ h => h) (Or.inl ⟨by rfl, ?_⟩) hHeld ?_ ?_
                                  rotate_left
                                  · rintro w' ⟨s1, s2⟩
                                    go_simp
                                    with_reducible rfl
                                  rotate_left
                                  · simp only [Act.put, List.setIfInBounds_toArray, List.set_cons_zero, List.set_cons_succ, i64_w, i32_w]
                                    rfl
                                  refine pure_ (i := 8) (N := some 122) (v := ?_) (a' := ?_) #[true, true, true, true, true, true, true, true, true] rfl rfl (any_of HT_.out (by kernel_rfl)) (fun _ _ _ h => h) (Or.inl ⟨by rfl, ?_⟩) ?_ ?_
                                  rotate_left
                                  · intro w'
                                    go_simp
                                    with_reducible rfl
                                  rotate_left
                                  · simp only [Act.put, List.setIfInBounds_toArray, List.set_cons_zero, List.set_cons_succ, i64_w, i32_w]
                                    rfl
                                  refine done_ (done_of HT_.out (by kernel_rfl)) ?_
                                  clear hHeld HT_ HW_ cX cI
                                  go_wp2
                                  have e := QA.out
                                  have eK := HKL.out
                                  have en := HNN.out
                                  rw [wrap_id (x := q + 1) (by unfold I64; omega)]
                                  refine ⟨⟨nn, q + 1, rfl, rfl, ?_, by omega, by omega, below_step HBQ.out (by repeat (first | (with_reducible first | exact Below.refl _ _ | apply below_alloc | apply pw_below_drewN | apply below_drew1) | exact Below.refl _ _))⟩, by simp only [intOf]; omega⟩
                                  rw [show (q + 1).toNat = q.toNat + 1 by omega, count_step HXQ.out, if_neg HXI.out, en]
                                  simp
                          · as_aux_lemma =>
                              have qb : decide (q < (K : Int)) = false := decide_eq_false hq
                              have hct := count_at HSR.out hh hxy s.x s.y s.r
                              rw [HXS.out] at hct
                              rw [List.take_of_length_le (by have := HK.out; omega), hct] at hnn
                              have hW := fun W => within_calls s.x s.y px py s.r z2 z3 hpw.1 hpw.2 W
                              obtain ⟨x2, x3, x4, x5⟩ := bx4 BX5.out HB5Q.out
                              obtain ⟨y0, y1⟩ := bx2 BX7.out hbq
                              obtain ⟨bw, hbw⟩ : ∃ bw, wi s.x s.y px py s.r = bw := ⟨_, rfl⟩
                              rw [hbw] at hW hnn
                              clear hbw hbq q0 q1 hq hct
                              have STEP : ∀ w8, Below w7.heap.size w7 w8 → (∃ (j_1 : Int), Value.int IntKind.i64 (wrap64 (j + 1)) = Value.int IntKind.i64 j_1 ∧ 0 ≤ j_1 ∧ j_1 ≤ ids.length ∧ Below w5.heap.size w5 w8) ∧ ids.length - (intOf (Value.int IntKind.i64 (wrap64 (j + 1)))).toNat < ids.length - (intOf (Value.int IntKind.i64 j)).toNat := by
                                intro w8 h8
                                have e := JA.out
                                have eI := HIL.out
                                rw [wrap_id (x := j + 1) (by unfold I64; omega)]
                                exact ⟨⟨j + 1, rfl, by omega, by omega, below_step HB7.out h8⟩, by simp only [intOf]; omega⟩
                              have STEP := Aside0.mk STEP
                              cases bw
                              · rw [if_neg Bool.false_ne_true] at hnn
                                subst hnn
                                go_wp2_with (go_at_call 25; (with_reducible refine (hW _).mono ?_); rintro e w8 ⟨rfl, hb8⟩; have H8 := Aside0.mk (below_step HBQ.out (below_step (w := wr) (by repeat (first | (with_reducible first | exact Below.refl _ _ | apply below_alloc | apply pw_below_drewN | apply below_drew1) | exact Below.refl _ _)) hb8)); clear hb8)
                                exact STEP.out _ (below_step H8.out (by repeat (first | (with_reducible first | exact Below.refl _ _ | apply below_alloc | apply pw_below_drewN | apply below_drew1) | exact Below.refl _ _)))
                              · rw [if_pos rfl] at hnn
                                subst hnn
                                go_wp2_with (go_at_call 25; (with_reducible refine (hW _).mono ?_); rintro e w8 ⟨rfl, hb8⟩; have H8 := Aside0.mk (below_step HBQ.out (below_step (w := wr) (by repeat (first | (with_reducible first | exact Below.refl _ _ | apply below_alloc | apply pw_below_drewN | apply below_drew1) | exact Below.refl _ _)) hb8)); clear hb8)
                                exact STEP.out _ (below_step H8.out (by repeat (first | (with_reducible first | exact Below.refl _ _ | apply below_alloc | apply pw_below_drewN | apply below_drew1) | exact Below.refl _ _)))
                  · have jb : decide (j < (ids.length : Int)) = false := decide_eq_false hj
                    clear hbj j0 j1 hj
                    go_wp2
                    go_loopw [17] (fun iv wr => ∃ (q : Int), iv = .int .i64 q ∧ 0 ≤ q ∧ q ≤ K ∧ Below w5.heap.size w5 wr) (fun iv _ => K - (intOf iv).toNat)
                    case atStart => exact ⟨0, rfl, Int.le_refl _, by omega, HBJ.out⟩
                    case round =>
                      as_aux_lemma =>
                        obtain ⟨q, rfl, q0, q1, hbq⟩ := hrel
                        have HBQ := Aside0.mk hbq
                        by_cases hq : q < K
                        · as_aux_lemma =>
                            have qb : decide (q < (K : Int)) = true := decide_eq_true hq
                            obtain ⟨adx, x, hx, ex, cX⟩ := at_i (Kd.C_below HX.out hbq) q q0 hq
                            subst ex
                            have hxin : x ∈ inL L s.x s.y s.r := by rw [HXS.out]; exact mem_at hx
                            have hh := in_has hxin
                            have hI := inL_wf HWF.out _ _ _ x hxin
                            obtain ⟨px, hpx⟩ : ∃ v, (atL L x).1 = v := ⟨_, rfl⟩
                            obtain ⟨py, hpy⟩ : ∃ v, (atL L x).2 = v := ⟨_, rfl⟩
                            have hxy : atL L x = (px, py) := by rw [← hpx, ← hpy]
                            have QA := Aside0.mk (And.intro q0 (And.intro q1 hq))
                            have HXQ := Aside0.mk hx
                            have p4 : (0 ≤ q) = True := eq_true q0
                            have p5 : (q < (K : Int)) = True := eq_true hq
                            clear hbq q0 q1 hq hx hxin hpx hpy
                            go_upto_region 33 with (go_at_call 14; (with_reducible refine (gs_at HG5.out ?s1 x hI px py hxy true hh).mono ?_); (case s1 => exact (below_step HBQ.out (by repeat (first | (with_reducible first | exact Below.refl _ _ | apply below_alloc | apply pw_below_drewN | apply below_drew1) | exact Below.refl _ _)))); rintro e w6 ⟨rfl, hb6⟩; have HB6 := Aside0.mk (below_step HBQ.out (below_step (w := wr) (by repeat (first | (with_reducible first | exact Below.refl _ _ | apply below_alloc | apply pw_below_drewN | apply below_drew1) | exact Below.refl _ _)) hb6)); clear hb6)
                            have hF7 : Below w5.heap.size w5 (w6.alloc (.cells #[.int .i64 px, .int .i64 py] 32)) := below_step HB6.out (by repeat (first | (with_reducible first | exact Below.refl _ _ | apply below_alloc | apply pw_below_drewN | apply below_drew1) | exact Below.refl _ _))
                            refine absW (fun w7 => Below w5.heap.size w5 w7) hF7 ?_
                            rintro w7 hb7
                            have HB7 := Aside0.mk hb7
                            have STEP : ∀ w8, Below w7.heap.size w7 w8 → (∃ (j_1 : Int), Value.int IntKind.i64 (wrap64 (q + 1)) = Value.int IntKind.i64 j_1 ∧ 0 ≤ j_1 ∧ j_1 ≤ K ∧ Below w5.heap.size w5 w8) ∧ K - (intOf (Value.int IntKind.i64 (wrap64 (q + 1)))).toNat < K - (intOf (Value.int IntKind.i64 q)).toNat := by
                              intro w8 h8
                              have e := QA.out
                              have eK := HKL.out
                              rw [wrap_id (x := q + 1) (by unfold I64; omega)]
                              exact ⟨⟨q + 1, rfl, by omega, by omega, below_step HB7.out h8⟩, by simp only [intOf]; omega⟩
                            have STEP := Aside0.mk STEP
                            obtain ⟨adx8, x8, hx8, ex8, cX8⟩ := at_i (Kd.C_below HX.out hb7) q QA.out.1 QA.out.2.2
                            cases ex8
                            cases (Option.some.inj (HXQ.out.symm.trans hx8))
                            clear hF7 hb7 HB6 hx8 cX
                            by_cases hq0 : q > 0
                            · as_aux_lemma =>
                                have q0b : decide (q > 0) = true := decide_eq_true hq0
                                have q0c : decide (0 < q) = true := decide_eq_true hq0
                                obtain ⟨m, hm⟩ : ∃ m, wrap64 (q - 1) = m := ⟨_, rfl⟩
                                have hme : m = q - 1 := by
                                  have e := QA.out
                                  have eK := HKL.out
                                  rw [← hm, wrap_id (by unfold I64; omega)]
                                have m0 : 0 ≤ m := by omega
                                have m1 : m < (K : Int) := by have := QA.out; omega
                                obtain ⟨ady, y, hy, ey, cY⟩ := at_i (Kd.C_below HX.out HB7.out) m m0 m1
                                cases ey
                                have hlt : y < x := in_lt HSR.out (by rw [HXS.out]; exact hy) (by rw [HXS.out]; exact HXQ.out) (by have := QA.out; omega)
                                have o1 : decide (y ≥ x) = false := decide_eq_false (by omega)
                                have o2 : decide (x ≤ y) = false := decide_eq_false (by omega)
                                have p6 : (0 ≤ m) = True := eq_true m0
                                have p7 : (m < (K : Int)) = True := eq_true m1
                                clear hq0 hme m0 m1 hy hlt
                                refine start_ (n := 18) (S := fun w' => w'.cell? (adx.add m.toNat) = some (.int .i64 y) ∧ w'.cell? (adx.add q.toNat) = some (.int .i64 x)) (ds := []) #[false, false, false, false, false, false, false, false, false, false, false, false, false, false, false, false, false, false] (by kernel_rfl) rfl rfl ⟨cY, cX8⟩ (fun hHeld => ?_)
                                refine with_tabW tab_f5_33 bits_f5_33 (fun HT_ HW_ => ?_)
                                refine pure_ (i := 0) (N := some 157) (v := ?_) (a' := ?_) #[true, false, false, false, false, false, false, false, false, false, false, false, false, false, false, false, false, false] rfl rfl (any_of HT_.out (by kernel_rfl)) (fun _ _ _ h => h) (Or.inl ⟨by rfl, ?_⟩) ?_ ?_
                                rotate_left
                                · intro w'
                                  go_simp
                                  with_reducible rfl
                                rotate_left
                                · simp only [Act.put, List.setIfInBounds_toArray, List.set_cons_zero, List.set_cons_succ, i64_w, i32_w]
                                  rfl
                                refine pure_ (i := 1) (N := some 158) (v := ?_) (a' := ?_) #[true, true, false, false, false, false, false, false, false, false, false, false, false, false, false, false, false, false] rfl rfl (any_of HT_.out (by kernel_rfl)) (fun _ _ _ h => h) (Or.inl ⟨by rfl, ?_⟩) ?_ ?_
                                rotate_left
                                · intro w'
                                  go_simp
                                  with_reducible rfl
                                rotate_left
                                · simp only [Act.put, List.setIfInBounds_toArray, List.set_cons_zero, List.set_cons_succ, i64_w, i32_w]
                                  rfl
                                refine pure_ (i := 2) (N := some 159) (v := ?_) (a' := ?_) #[true, true, true, false, false, false, false, false, false, false, false, false, false, false, false, false, false, false] rfl rfl (any_of HT_.out (by kernel_rfl)) (fun _ _ _ h => h) (Or.inl ⟨by rfl, ?_⟩) ?_ ?_
                                rotate_left
                                · intro w'
                                  go_simp
                                  with_reducible rfl
                                rotate_left
                                · simp only [Act.put, List.setIfInBounds_toArray, List.set_cons_zero, List.set_cons_succ, i64_w, i32_w]
                                  rfl
                                refine pure_ (i := 3) (N := some 160) (v := ?_) (a' := ?_) #[true, true, true, true, false, false, false, false, false, false, false, false, false, false, false, false, false, false] rfl rfl (any_of HT_.out (by kernel_rfl)) (fun _ _ _ h => h) (Or.inl ⟨by rfl, ?_⟩) ?_ ?_
                                rotate_left
                                · intro w'
                                  go_simp
                                  with_reducible rfl
                                rotate_left
                                · simp only [Act.put, List.setIfInBounds_toArray, List.set_cons_zero, List.set_cons_succ, i64_w, i32_w]
                                  rfl
                                refine pure_ (i := 4) (N := some 161) (v := ?_) (a' := ?_) #[true, true, true, true, true, false, false, false, false, false, false, false, false, false, false, false, false, false] rfl rfl (any_of HT_.out (by kernel_rfl)) (fun _ _ _ h => h) (Or.inl ⟨by rfl, ?_⟩) ?_ ?_
                                rotate_left
                                · intro w'
                                  go_simp
                                  with_reducible rfl
                                rotate_left
                                · simp only [Act.put, List.setIfInBounds_toArray, List.set_cons_zero, List.set_cons_succ, i64_w, i32_w]
                                  rfl
                                refine pure_ (i := 5) (N := some 162) (v := ?_) (a' := ?_) #[true, true, true, true, true, true, false, false, false, false, false, false, false, false, false, false, false, false] rfl rfl (any_of HT_.out (by kernel_rfl)) (fun _ _ _ h => h) (Or.inl ⟨by rfl, ?_⟩) ?_ ?_
                                rotate_left
                                · intro w'
                                  go_simp
                                  with_reducible rfl
                                rotate_left
                                · simp only [Act.put, List.setIfInBounds_toArray, List.set_cons_zero, List.set_cons_succ, i64_w, i32_w]
                                  rfl
                                refine pure_ (i := 6) (N := some 163) (v := ?_) (a' := ?_) #[true, true, true, true, true, true, true, false, false, false, false, false, false, false, false, false, false, false] rfl rfl (any_of HT_.out (by kernel_rfl)) (fun _ _ _ h => h) (Or.inl ⟨by rfl, ?_⟩) ?_ ?_
                                rotate_left
                                · intro w'
                                  go_simp
                                  with_reducible rfl
                                rotate_left
                                · simp only [Act.put, List.setIfInBounds_toArray, List.set_cons_zero, List.set_cons_succ, i64_w, i32_w]
                                  rfl
                                refine pure_ (i := 7) (N := some 164) (v := ?_) (a' := ?_) #[true, true, true, true, true, true, true, true, false, false, false, false, false, false, false, false, false, false] rfl rfl (any_of HT_.out (by kernel_rfl)) (fun _ _ _ h => h) (Or.inl ⟨by rfl, ?_⟩) ?_ ?_
                                rotate_left
                                · intro w'
                                  go_simp
                                  with_reducible rfl
                                rotate_left
                                · simp only [Act.put, List.setIfInBounds_toArray, List.set_cons_zero, List.set_cons_succ, i64_w, i32_w]
                                  rfl
                                refine pure_ (i := 8) (N := some 165) (v := ?_) (a' := ?_) #[true, true, true, true, true, true, true, true, true, false, false, false, false, false, false, false, false, false] rfl rfl (any_of HT_.out (by kernel_rfl)) (fun _ _ _ h => h) (Or.inl ⟨by rfl, ?_⟩) ?_ ?_
                                rotate_left
                                · intro w'
                                  go_simp
                                  with_reducible rfl
                                rotate_left
                                · simp only [Act.put, List.setIfInBounds_toArray, List.set_cons_zero, List.set_cons_succ, i64_w, i32_w]
                                  rfl
                                refine pure_ (i := 9) (N := some 166) (v := ?_) (a' := ?_) #[true, true, true, true, true, true, true, true, true, true, false, false, false, false, false, false, false, false] rfl rfl (any_of HT_.out (by kernel_rfl)) (fun _ _ _ h => h) (Or.inl ⟨by rfl, ?_⟩) ?_ ?_
                                rotate_left
                                · intro w'
                                  go_simp
                                  with_reducible rfl
                                rotate_left
                                · simp only [Act.put, List.setIfInBounds_toArray, List.set_cons_zero, List.set_cons_succ, i64_w, i32_w]
                                  rfl
                                refine take_ (i := 10) (N := some 167) (v := ?_) (a' := ?_) #[true, true, true, true, true, true, true, true, true, true, true, false, false, false, false, false, false, false] rfl rfl (take_ofW HT_.out HW_.out (by kernel_rfl)) (fun _ _ _ h => h) (Or.inl ⟨by rfl, ?_⟩) hHeld ?_ ?_
                                rotate_left
                                · rintro w' ⟨s1, s2⟩
                                  go_simp
                                  with_reducible rfl
                                rotate_left
                                · simp only [Act.put, List.setIfInBounds_toArray, List.set_cons_zero, List.set_cons_succ, i64_w, i32_w]
                                  rfl
                                refine pure_ (i := 11) (N := some 168) (v := ?_) (a' := ?_) #[true, true, true, true, true, true, true, true, true, true, true, true, false, false, false, false, false, false] rfl rfl (any_of HT_.out (by kernel_rfl)) (fun _ _ _ h => h) (Or.inl ⟨by rfl, ?_⟩) ?_ ?_
                                rotate_left
                                · intro w'
                                  go_simp
                                  with_reducible rfl
                                rotate_left
                                · simp only [Act.put, List.setIfInBounds_toArray, List.set_cons_zero, List.set_cons_succ, i64_w, i32_w]
                                  rfl
                                refine pure_ (i := 12) (N := some 169) (v := ?_) (a' := ?_) #[true, true, true, true, true, true, true, true, true, true, true, true, true, false, false, false, false, false] rfl rfl (any_of HT_.out (by kernel_rfl)) (fun _ _ _ h => h) (Or.inl ⟨by rfl, ?_⟩) ?_ ?_
                                rotate_left
                                · intro w'
                                  go_simp
                                  with_reducible rfl
                                rotate_left
                                · simp only [Act.put, List.setIfInBounds_toArray, List.set_cons_zero, List.set_cons_succ, i64_w, i32_w]
                                  rfl
                                refine pure_ (i := 13) (N := some 170) (v := ?_) (a' := ?_) #[true, true, true, true, true, true, true, true, true, true, true, true, true, true, false, false, false, false] rfl rfl (any_of HT_.out (by kernel_rfl)) (fun _ _ _ h => h) (Or.inl ⟨by rfl, ?_⟩) ?_ ?_
                                rotate_left
                                · intro w'
                                  go_simp
                                  with_reducible rfl
                                rotate_left
                                · simp only [Act.put, List.setIfInBounds_toArray, List.set_cons_zero, List.set_cons_succ, i64_w, i32_w]
                                  rfl
                                refine take_ (i := 14) (N := some 171) (v := ?_) (a' := ?_) #[true, true, true, true, true, true, true, true, true, true, true, true, true, true, true, false, false, false] rfl rfl (take_ofW HT_.out HW_.out (by kernel_rfl)) (fun _ _ _ h => h) (Or.inl ⟨by rfl, ?_⟩) hHeld ?_ ?_
                                rotate_left
                                · rintro w' ⟨s1, s2⟩
                                  go_simp
                                  with_reducible rfl
                                rotate_left
                                · simp only [Act.put, List.setIfInBounds_toArray, List.set_cons_zero, List.set_cons_succ, i64_w, i32_w]
                                  rfl
                                refine pure_ (i := 15) (N := some 172) (v := ?_) (a' := ?_) #[true, true, true, true, true, true, true, true, true, true, true, true, true, true, true, true, false, false] rfl rfl (any_of HT_.out (by kernel_rfl)) (fun _ _ _ h => h) (Or.inl ⟨by rfl, ?_⟩) ?_ ?_
                                rotate_left
                                · intro w'
                                  go_simp
                                  with_reducible rfl
                                rotate_left
                                · simp only [Act.put, List.setIfInBounds_toArray, List.set_cons_zero, List.set_cons_succ, i64_w, i32_w]
                                  rfl
                                refine pure_ (i := 16) (N := some 173) (v := ?_) (a' := ?_) #[true, true, true, true, true, true, true, true, true, true, true, true, true, true, true, true, true, false] rfl rfl (any_of HT_.out (by kernel_rfl)) (fun _ _ _ h => h) (Or.inl ⟨by rfl, ?_⟩) ?_ ?_
                                rotate_left
                                · intro w'
                                  go_simp
                                  with_reducible rfl
                                rotate_left
                                · simp only [Act.put, List.setIfInBounds_toArray, List.set_cons_zero, List.set_cons_succ, i64_w, i32_w]
                                  rfl
                                refine pure_ (i := 17) (N := some 174) (v := ?_) (a' := ?_) #[true, true, true, true, true, true, true, true, true, true, true, true, true, true, true, true, true, true] rfl rfl (any_of HT_.out (by kernel_rfl)) (fun _ _ _ h => h) (Or.inl ⟨by rfl, ?_⟩) ?_ ?_
                                rotate_left
                                · intro w'
                                  go_simp
                                  with_reducible rfl
                                rotate_left
                                · simp only [Act.put, List.setIfInBounds_toArray, List.set_cons_zero, List.set_cons_succ, i64_w, i32_w]
                                  rfl
                                refine done_ (done_of HT_.out (by kernel_rfl)) ?_
                                clear hHeld HT_ HW_ cX8 cY
                                go_wp2
                                exact STEP.out _ (by repeat (first | (with_reducible first | exact Below.refl _ _ | apply below_alloc | apply pw_below_drewN | apply below_drew1) | exact Below.refl _ _))
                            · as_aux_lemma =>
                                have q0b : decide (q > 0) = false := decide_eq_false hq0
                                have q0c : decide (0 < q) = false := decide_eq_false hq0
                                clear hq0
                                refine start_ (n := 18) (S := fun w' => w'.cell? (adx.add q.toNat) = some (.int .i64 x)) (ds := []) #[false, false, false, false, false, false, false, false, false, false, false, false, false, false, false, false, false, false] (by kernel_rfl) rfl rfl cX8 (fun hHeld => ?_)
                                refine with_tabW tab_f5_33 bits_f5_33 (fun HT_ HW_ => ?_)
                                refine pure_ (i := 0) (N := some 157) (v := ?_) (a' := ?_) #[true, false, false, false, false, false, false, false, false, false, false, false, false, false, false, false, false, false] rfl rfl (any_of HT_.out (by kernel_rfl)) (fun _ _ _ h => h) (Or.inl ⟨by rfl, ?_⟩) ?_ ?_
                                rotate_left
                                · intro w'
                                  go_simp
                                  with_reducible rfl
                                rotate_left
                                · simp only [Act.put, List.setIfInBounds_toArray, List.set_cons_zero, List.set_cons_succ, i64_w, i32_w]
                                  rfl
                                refine pure_ (i := 1) (N := some 158) (v := ?_) (a' := ?_) #[true, true, false, false, false, false, false, false, false, false, false, false, false, false, false, false, false, false] rfl rfl (any_of HT_.out (by kernel_rfl)) (fun _ _ _ h => h) (Or.inl ⟨by rfl, ?_⟩) ?_ ?_
                                rotate_left
                                · intro w'
                                  go_simp
                                  with_reducible rfl
                                rotate_left
                                · simp only [Act.put, List.setIfInBounds_toArray, List.set_cons_zero, List.set_cons_succ, i64_w, i32_w]
                                  rfl
                                refine pure_ (i := 2) (N := some 159) (v := ?_) (a' := ?_) #[true, true, true, false, false, false, false, false, false, false, false, false, false, false, false, false, false, false] rfl rfl (any_of HT_.out (by kernel_rfl)) (fun _ _ _ h => h) (Or.inl ⟨by rfl, ?_⟩) ?_ ?_
                                rotate_left
                                · intro w'
                                  go_simp
                                  with_reducible rfl
                                rotate_left
                                · simp only [Act.put, List.setIfInBounds_toArray, List.set_cons_zero, List.set_cons_succ, i64_w, i32_w]
                                  rfl
                                refine pure_ (i := 3) (N := some 160) (v := ?_) (a' := ?_) #[true, true, true, true, false, false, false, false, false, false, false, false, false, false, false, false, false, false] rfl rfl (any_of HT_.out (by kernel_rfl)) (fun _ _ _ h => h) (Or.inl ⟨by rfl, ?_⟩) ?_ ?_
                                rotate_left
                                · intro w'
                                  go_simp
                                  with_reducible rfl
                                rotate_left
                                · simp only [Act.put, List.setIfInBounds_toArray, List.set_cons_zero, List.set_cons_succ, i64_w, i32_w]
                                  rfl
                                refine pure_ (i := 4) (N := some 161) (v := ?_) (a' := ?_) #[true, true, true, true, true, false, false, false, false, false, false, false, false, false, false, false, false, false] rfl rfl (any_of HT_.out (by kernel_rfl)) (fun _ _ _ h => h) (Or.inl ⟨by rfl, ?_⟩) ?_ ?_
                                rotate_left
                                · intro w'
                                  go_simp
                                  with_reducible rfl
                                rotate_left
                                · simp only [Act.put, List.setIfInBounds_toArray, List.set_cons_zero, List.set_cons_succ, i64_w, i32_w]
                                  rfl
                                refine pure_ (i := 5) (N := some 162) (v := ?_) (a' := ?_) #[true, true, true, true, true, true, false, false, false, false, false, false, false, false, false, false, false, false] rfl rfl (any_of HT_.out (by kernel_rfl)) (fun _ _ _ h => h) (Or.inl ⟨by rfl, ?_⟩) ?_ ?_
                                rotate_left
                                · intro w'
                                  go_simp
                                  with_reducible rfl
                                rotate_left
                                · simp only [Act.put, List.setIfInBounds_toArray, List.set_cons_zero, List.set_cons_succ, i64_w, i32_w]
                                  rfl
                                refine pure_ (i := 6) (N := some 163) (v := undef) (a' := ?_) #[true, true, true, true, true, true, true, false, false, false, false, false, false, false, false, false, false, false] rfl rfl (any_of HT_.out (by kernel_rfl)) (fun _ _ _ h => h) (Or.inr ⟨by rfl, rfl⟩) ?_ ?_
                                rotate_left
                                · simp only [Act.put, List.setIfInBounds_toArray, List.set_cons_zero, List.set_cons_succ, i64_w, i32_w]
                                  rfl
                                refine pure_ (i := 7) (N := some 164) (v := undef) (a' := ?_) #[true, true, true, true, true, true, true, true, false, false, false, false, false, false, false, false, false, false] rfl rfl (any_of HT_.out (by kernel_rfl)) (fun _ _ _ h => h) (Or.inr ⟨by rfl, rfl⟩) ?_ ?_
                                rotate_left
                                · simp only [Act.put, List.setIfInBounds_toArray, List.set_cons_zero, List.set_cons_succ, i64_w, i32_w]
                                  rfl
                                refine pure_ (i := 8) (N := some 165) (v := undef) (a' := ?_) #[true, true, true, true, true, true, true, true, true, false, false, false, false, false, false, false, false, false] rfl rfl (any_of HT_.out (by kernel_rfl)) (fun _ _ _ h => h) (Or.inr ⟨by rfl, rfl⟩) ?_ ?_
                                rotate_left
                                · simp only [Act.put, List.setIfInBounds_toArray, List.set_cons_zero, List.set_cons_succ, i64_w, i32_w]
                                  rfl
                                refine pure_ (i := 9) (N := some 166) (v := undef) (a' := ?_) #[true, true, true, true, true, true, true, true, true, true, false, false, false, false, false, false, false, false] rfl rfl (any_of HT_.out (by kernel_rfl)) (fun _ _ _ h => h) (Or.inr ⟨by rfl, rfl⟩) ?_ ?_
                                rotate_left
                                · simp only [Act.put, List.setIfInBounds_toArray, List.set_cons_zero, List.set_cons_succ, i64_w, i32_w]
                                  rfl
                                refine pure_ (i := 10) (N := some 167) (v := undef) (a' := ?_) #[true, true, true, true, true, true, true, true, true, true, true, false, false, false, false, false, false, false] rfl rfl (any_of HT_.out (by kernel_rfl)) (fun _ _ _ h => h) (Or.inr ⟨by rfl, rfl⟩) ?_ ?_
                                rotate_left
                                · simp only [Act.put, List.setIfInBounds_toArray, List.set_cons_zero, List.set_cons_succ, i64_w, i32_w]
                                  rfl
                                refine pure_ (i := 11) (N := some 168) (v := undef) (a' := ?_) #[true, true, true, true, true, true, true, true, true, true, true, true, false, false, false, false, false, false] rfl rfl (any_of HT_.out (by kernel_rfl)) (fun _ _ _ h => h) (Or.inr ⟨by rfl, rfl⟩) ?_ ?_
                                rotate_left
                                · simp only [Act.put, List.setIfInBounds_toArray, List.set_cons_zero, List.set_cons_succ, i64_w, i32_w]
                                  rfl
                                refine pure_ (i := 12) (N := some 169) (v := undef) (a' := ?_) #[true, true, true, true, true, true, true, true, true, true, true, true, true, false, false, false, false, false] rfl rfl (any_of HT_.out (by kernel_rfl)) (fun _ _ _ h => h) (Or.inr ⟨by rfl, rfl⟩) ?_ ?_
                                rotate_left
                                · simp only [Act.put, List.setIfInBounds_toArray, List.set_cons_zero, List.set_cons_succ, i64_w, i32_w]
                                  rfl
                                refine pure_ (i := 13) (N := some 170) (v := undef) (a' := ?_) #[true, true, true, true, true, true, true, true, true, true, true, true, true, true, false, false, false, false] rfl rfl (any_of HT_.out (by kernel_rfl)) (fun _ _ _ h => h) (Or.inr ⟨by rfl, rfl⟩) ?_ ?_
                                rotate_left
                                · simp only [Act.put, List.setIfInBounds_toArray, List.set_cons_zero, List.set_cons_succ, i64_w, i32_w]
                                  rfl
                                refine pure_ (i := 14) (N := some 171) (v := undef) (a' := ?_) #[true, true, true, true, true, true, true, true, true, true, true, true, true, true, true, false, false, false] rfl rfl (any_of HT_.out (by kernel_rfl)) (fun _ _ _ h => h) (Or.inr ⟨by rfl, rfl⟩) ?_ ?_
                                rotate_left
                                · simp only [Act.put, List.setIfInBounds_toArray, List.set_cons_zero, List.set_cons_succ, i64_w, i32_w]
                                  rfl
                                refine pure_ (i := 15) (N := some 172) (v := undef) (a' := ?_) #[true, true, true, true, true, true, true, true, true, true, true, true, true, true, true, true, false, false] rfl rfl (any_of HT_.out (by kernel_rfl)) (fun _ _ _ h => h) (Or.inr ⟨by rfl, rfl⟩) ?_ ?_
                                rotate_left
                                · simp only [Act.put, List.setIfInBounds_toArray, List.set_cons_zero, List.set_cons_succ, i64_w, i32_w]
                                  rfl
                                refine pure_ (i := 16) (N := some 173) (v := ?_) (a' := ?_) #[true, true, true, true, true, true, true, true, true, true, true, true, true, true, true, true, true, false] rfl rfl (any_of HT_.out (by kernel_rfl)) (fun _ _ _ h => h) (Or.inl ⟨by rfl, ?_⟩) ?_ ?_
                                rotate_left
                                · intro w'
                                  go_simp
                                  with_reducible rfl
                                rotate_left
                                · simp only [Act.put, List.setIfInBounds_toArray, List.set_cons_zero, List.set_cons_succ, i64_w, i32_w]
                                  rfl
                                refine pure_ (i := 17) (N := some 174) (v := ?_) (a' := ?_) #[true, true, true, true, true, true, true, true, true, true, true, true, true, true, true, true, true, true] rfl rfl (any_of HT_.out (by kernel_rfl)) (fun _ _ _ h => h) (Or.inl ⟨by rfl, ?_⟩) ?_ ?_
                                rotate_left
                                · intro w'
                                  go_simp
                                  with_reducible rfl
                                rotate_left
                                · simp only [Act.put, List.setIfInBounds_toArray, List.set_cons_zero, List.set_cons_succ, i64_w, i32_w]
                                  rfl
                                refine done_ (done_of HT_.out (by kernel_rfl)) ?_
                                clear hHeld HT_ HW_ cX8
                                go_wp2
                                exact STEP.out _ (by repeat (first | (with_reducible first | exact Below.refl _ _ | apply below_alloc | apply pw_below_drewN | apply below_drew1) | exact Below.refl _ _))
                        · have qb : decide (q < (K : Int)) = false := decide_eq_false hq
                          obtain ⟨x2, x3, x4, x5⟩ := bx4 BX5.out hbq
                          obtain ⟨ms, hms⟩ : ∃ ms, (nearS L s.x s.y s.r).take s.n.toNat = ms := ⟨_, rfl⟩
                          obtain ⟨M, hM⟩ : ∃ M, ms.length = M := ⟨_, rfl⟩
                          have hNK : (nearS L s.x s.y s.r).length = K := by rw [(nearS_perm L s.x s.y s.r).length_eq, HXS.out, HK.out]
                          have hMe : M = min s.n.toNat K := by rw [← hM, ← hms, List.length_take, hNK]
                          obtain ⟨N5, hN5⟩ : ∃ m, wrap64 ((K : Int) + 5) = m := ⟨_, rfl⟩
                          have hall : (nearS L s.x s.y s.r).take N5.toNat = nearS L s.x s.y s.r := by
                            refine List.take_of_length_le ?_
                            have eK := HKL.out
                            rw [← hN5, wrap_id (by unfold I64; omega), hNK]
                            omega
                          have HMS := Aside0.mk (And.intro hms (And.intro hM hMe))
                          have HNK := Aside0.mk hNK
                          clear hbq q0 q1 hq hMe
                          go_upto_region 37 with (go_at_call 19; first
                            | ((with_reducible refine (gs_nearest_m HG5.out ?s1 HN.out z2 z3 z4 ms hms M hM).mono ?_); (case s1 => exact (below_step HBQ.out (by repeat (first | (with_reducible first | exact Below.refl _ _ | apply below_alloc | apply pw_below_drewN | apply below_drew1) | exact Below.refl _ _)))); rintro e w8 ⟨A2, rfl, hC2, hb8⟩; have HB8 := Aside0.mk (below_step HBQ.out (below_step (w := wr) (by repeat (first | (with_reducible first | exact Below.refl _ _ | apply below_alloc | apply pw_below_drewN | apply below_drew1) | exact Below.refl _ _)) hb8)); have HM2 := Aside0.mk hC2; obtain ⟨x2, x3, x4, x5⟩ := bx4 BX5.out HB8.out; clear hb8 hC2 hms hM)
                            | ((with_reducible refine (gs_nearest_m HG5.out ?s1 HN.out z2 z3 z4 _ hall K hNK).mono ?_); (case s1 => exact (below_step HB8.out (by repeat (first | (with_reducible first | exact Below.refl _ _ | apply below_alloc | apply pw_below_drewN | apply below_drew1) | exact Below.refl _ _)))); rintro e w9 ⟨A3, rfl, hC3, hb9⟩; have HB9 := Aside0.mk (below_step HB8.out (below_step (w := w8) (by repeat (first | (with_reducible first | exact Below.refl _ _ | apply below_alloc | apply pw_below_drewN | apply below_drew1) | exact Below.refl _ _)) hb9)); have n1_ := Aside0.mk (Kd.C_below HM2.out (below_step (w := w8) (by repeat (first | (with_reducible first | exact Below.refl _ _ | apply below_alloc | apply pw_below_drewN | apply below_drew1) | exact Below.refl _ _)) hb9)); have HA3 := Aside0.mk hC3; obtain ⟨x2, x3, x4, x5⟩ := bx4 BX5.out HB9.out; clear HM2 hb9 hC3 hall hNK; have HM2 := n1_; clear n1_))
                          go_cut [246] (fun v246 wc => v246 = .bool false ∧ Below w9.heap.size w9 wc)
                          case first =>
                            as_aux_lemma =>
                              have hMe := HMS.out.2.2
                              by_cases hn0 : s.n < 0
                              · as_aux_lemma =>
                                  have hM0 : M = 0 := by omega
                                  clear hMe
                                  subst hM0
                                  have f1 : decide (s.n < 0) = true := decide_eq_true hn0
                                  have f6 : decide (s.n ≥ 0) = false := decide_eq_false (by omega)
                                  have f7 : decide (0 ≤ s.n) = false := decide_eq_false (by omega)
                                  have f8 : decide (s.n > K) = false := decide_eq_false (by omega)
                                  have f9 : decide ((K : Int) < s.n) = false := decide_eq_false (by omega)
                                  clear hn0
                                  go_wp2
                                  go_meet
                                  case rel => exact ⟨rfl, (by repeat (first | (with_reducible first | exact Below.refl _ _ | apply below_alloc | apply pw_below_drewN | apply below_drew1) | exact Below.refl _ _))⟩
                              · have f1 : decide (s.n < 0) = false := decide_eq_false hn0
                                have f3 : decide (K < M) = false := decide_eq_false (by omega)
                                have f4 : decide (M > K) = false := decide_eq_false (by omega)
                                have f6 : decide (s.n ≥ 0) = true := decide_eq_true (by omega)
                                have f7 : decide (0 ≤ s.n) = true := decide_eq_true (by omega)
                                by_cases hnK : s.n ≤ K
                                · as_aux_lemma =>
                                    have g1 : decide (s.n ≤ K) = true := decide_eq_true hnK
                                    have g2 : ((M : Int) != s.n) = false := bne_eq_false_iff_eq.2 (by omega)
                                    have f8 : decide (s.n > K) = false := decide_eq_false (by omega)
                                    have f9 : decide ((K : Int) < s.n) = false := decide_eq_false (by omega)
                                    clear hn0 hMe hnK
                                    go_wp2
                                    go_meet
                                    case rel => exact ⟨rfl, (by repeat (first | (with_reducible first | exact Below.refl _ _ | apply below_alloc | apply pw_below_drewN | apply below_drew1) | exact Below.refl _ _))⟩
                                · as_aux_lemma =>
                                    have g1 : decide (s.n ≤ K) = false := decide_eq_false hnK
                                    have f8 : decide (s.n > K) = true := decide_eq_true (by omega)
                                    have f9 : decide ((K : Int) < s.n) = true := decide_eq_true (by omega)
                                    have g2 : ((M : Int) != (K : Int)) = false := bne_eq_false_iff_eq.2 (by omega)
                                    have g3 : (M != K) = false := bne_eq_false_iff_eq.2 (by omega)
                                    clear hn0 hMe hnK
                                    go_wp2
                                    go_meet
                                    case rel => exact ⟨rfl, (by repeat (first | (with_reducible first | exact Below.refl _ _ | apply below_alloc | apply pw_below_drewN | apply below_drew1) | exact Below.refl _ _))⟩
                          case rest =>
                            as_aux_lemma =>
                              obtain ⟨rfl, hb9'⟩ := hcut
                              have HB9C := Aside0.mk hb9'
                              clear hb9' x2 x3 x4 x5
                              rename World => wc
                              go_wp2
                              go_loopw [22] (fun iv wr => ∃ (p : Int), iv = .int .i64 p ∧ 0 ≤ p ∧ p ≤ K ∧ Below w9.heap.size w9 wr) (fun iv _ => K - (intOf iv).toNat)
                              case atStart => exact ⟨0, rfl, Int.le_refl _, by omega, HB9C.out⟩
                              case round =>
                                as_aux_lemma =>
                                  obtain ⟨p, rfl, e0, e1, hbp⟩ := hrel
                                  have HBP9 := Aside0.mk hbp
                                  by_cases hp : p < K
                                  · as_aux_lemma =>
                                      have pb : decide (p < (K : Int)) = true := decide_eq_true hp
                                      obtain ⟨ada, x, hx, ex, cX⟩ := at_i (Kd.C_below HA3.out hbp) p e0 hp
                                      subst ex
                                      have hxin : x ∈ inL L s.x s.y s.r := near_mem (mem_at hx)
                                      have hh := in_has hxin
                                      have hI := inL_wf HWF.out _ _ _ x hxin
                                      obtain ⟨px, hpx⟩ : ∃ v, (atL L x).1 = v := ⟨_, rfl⟩
                                      obtain ⟨py, hpy⟩ : ∃ v, (atL L x).2 = v := ⟨_, rfl⟩
                                      have hxy : atL L x = (px, py) := by rw [← hpx, ← hpy]
                                      have hpw : I64 px ∧ I64 py := by have := atL_wf HWF.out x; rwa [hxy] at this
                                      have hwi := (in_at HSR.out hh hxy s.x s.y s.r).1 hxin
                                      have PA := Aside0.mk (And.intro e0 (And.intro e1 hp))
                                      have HXP := Aside0.mk hx
                                      have p8 : (0 ≤ p) = True := eq_true e0
                                      have p9 : (p < (K : Int)) = True := eq_true hp
                                      clear hbp e0 e1 hp hx hxin hpx hpy
                                      go_upto_region 43 with (go_at_call 14; (with_reducible refine (gs_at HG5.out ?s1 x hI px py hxy true hh).mono ?_); (case s1 => exact (below_step HB9.out (below_step HBP9.out (by repeat (first | (with_reducible first | exact Below.refl _ _ | apply below_alloc | apply pw_below_drewN | apply below_drew1) | exact Below.refl _ _))))); rintro e w6 ⟨rfl, hb6⟩; have HB6 := Aside0.mk (below_step HBP9.out (below_step (w := wr) (by repeat (first | (with_reducible first | exact Below.refl _ _ | apply below_alloc | apply pw_below_drewN | apply below_drew1) | exact Below.refl _ _)) hb6)); clear hb6)
                                      obtain ⟨b23, hb23⟩ : ∃ x, w6.heap.size = x := ⟨_, rfl⟩
                                      have hF7 : Below w9.heap.size w9 (w6.alloc (.cells #[.int .i64 px, .int .i64 py] 32)) ∧ (w6.alloc (.cells #[.int .i64 px, .int .i64 py] 32)).heap[b23]? = some (.cells #[.int .i64 px, .int .i64 py] 32) := ⟨below_step HB6.out (by repeat (first | (with_reducible first | exact Below.refl _ _ | apply below_alloc | apply pw_below_drewN | apply below_drew1) | exact Below.refl _ _)), by rw [← hb23]; exact heap_alloc_new w6 _⟩
                                      rw [hb23]
                                      refine absW (fun w7 => Below w9.heap.size w9 w7 ∧ w7.heap[b23]? = some (.cells #[.int .i64 px, .int .i64 py] 32)) hF7 ?_
                                      rintro w7 ⟨hb7, k23⟩
                                      have HB7 := Aside0.mk hb7
                                      have HB57 := Aside0.mk (below_step HB9.out hb7)
                                      have BX7 := Aside0.mk k23
                                      clear hF7 hb7 k23 HB6 hb23 cX
                                      have hW := fun W => within_calls s.x s.y px py s.r z2 z3 hpw.1 hpw.2 W
                                      rw [hwi] at hW
                                      have hSC : ∀ w', Below w7.heap.size w7 w' → (w'.cell? ⟨b10, 2, none⟩ = some (.int .i64 s.x) ∧ w'.cell? ⟨b10, 3, none⟩ = some (.int .i64 s.y) ∧ w'.cell? ⟨b10, 4, none⟩ = some (.int .i64 s.r)) ∧ (w'.cell? ⟨b23, 0, none⟩ = some (.int .i64 px) ∧ w'.cell? ⟨b23, 1, none⟩ = some (.int .i64 py)) ∧ w'.cell? (ada.add p.toNat) = some (.int .i64 x) := by
                                        intro w' hb
                                        obtain ⟨x2, x3, x4, x5⟩ := bx4 BX5.out (below_step HB57.out hb)
                                        obtain ⟨y0, y1⟩ := bx2 BX7.out hb
                                        obtain ⟨ad7, x7, hx7, e7, c7⟩ := at_i (Kd.C_below HA3.out (below_step HB7.out hb)) p PA.out.1 PA.out.2.2
                                        cases e7
                                        cases (Option.some.inj (HXP.out.symm.trans hx7))
                                        exact ⟨⟨x2, x3, x4⟩, ⟨y0, y1⟩, c7⟩
                                      have HSC := Aside0.mk hSC
                                      have HLB := Aside0.mk (Below.refl w7.heap.size w7)
                                      clear hSC
                                      go_cut [289] (fun v289 wc => v289 = .bool false ∧ Below w7.heap.size w7 wc)
                                      case first =>
                                        as_aux_lemma =>
                                          by_cases hpM : p < M
                                          · as_aux_lemma =>
                                              have f1 : decide (p < (M : Int)) = true := decide_eq_true hpM
                                              have p6 : (p < (M : Int)) = True := eq_true hpM
                                              have hm2 : ∃ adm, A2 = some adm ∧ ∀ w', Below w7.heap.size w7 w' → w'.cell? (adm.add p.toNat) = some (.int .i64 x) := by
                                                obtain ⟨adm, y, hy, ey, _⟩ := at_i HM2.out p PA.out.1 hpM
                                                refine ⟨adm, ey, fun w' hb => ?_⟩
                                                obtain ⟨adm2, y2, hy2, ey2, c2⟩ := at_i (Kd.C_below HM2.out (below_step HB7.out hb)) p PA.out.1 hpM
                                                rw [ey] at ey2
                                                cases ey2
                                                rw [← HMS.out.1, List.getElem?_take] at hy2
                                                split at hy2
                                                · rw [HXP.out] at hy2
                                                  cases hy2
                                                  exact c2
                                                · cases hy2
                                              obtain ⟨adm, rfl, hcm⟩ := hm2
                                              have HCM := Aside0.mk hcm
                                              clear hpM hcm
                                              refine start_ (n := 28) (S := fun w' => (w'.cell? ⟨b10, 2, none⟩ = some (.int .i64 s.x) ∧ w'.cell? ⟨b10, 3, none⟩ = some (.int .i64 s.y) ∧ w'.cell? ⟨b10, 4, none⟩ = some (.int .i64 s.r)) ∧ (w'.cell? ⟨b23, 0, none⟩ = some (.int .i64 px) ∧ w'.cell? ⟨b23, 1, none⟩ = some (.int .i64 py)) ∧ w'.cell? (ada.add p.toNat) = some (.int .i64 x) ∧ w'.cell? (adm.add p.toNat) = some (.int .i64 x)) (ds := []) #[false, false, false, false, false, false, false, false, false, false, false, false, false, false, false, false, false, false, false, false, false, false, false, false, false, false, false, false] (by kernel_rfl) rfl rfl ((let z := HSC.out _ (by repeat (first | (with_reducible first | exact HLB.out | apply below_alloc | apply pw_below_drewN | apply below_drew1) | exact HLB.out)); ⟨z.1, z.2.1, z.2.2, HCM.out _ (by repeat (first | (with_reducible first | exact HLB.out | apply below_alloc | apply pw_below_drewN | apply below_drew1) | exact HLB.out))⟩)) (fun hHeld => ?_)
                                              refine with_tabW tab_f5_43 bits_f5_43 (fun HT_ HW_ => ?_)
                                              refine pure_ (i := 0) (N := some 262) (v := ?_) (a' := ?_) #[true, false, false, false, false, false, false, false, false, false, false, false, false, false, false, false, false, false, false, false, false, false, false, false, false, false, false, false] rfl rfl (any_of HT_.out (by kernel_rfl)) (fun _ _ _ h => h) (Or.inl ⟨by rfl, ?_⟩) ?_ ?_
                                              rotate_left
                                              · intro w'
                                                go_simp
                                                with_reducible rfl
                                              rotate_left
                                              · simp only [Act.put, List.setIfInBounds_toArray, List.set_cons_zero, List.set_cons_succ, i64_w, i32_w]
                                                rfl
                                              refine pure_ (i := 1) (N := some 263) (v := ?_) (a' := ?_) #[true, true, false, false, false, false, false, false, false, false, false, false, false, false, false, false, false, false, false, false, false, false, false, false, false, false, false, false] rfl rfl (any_of HT_.out (by kernel_rfl)) (fun _ _ _ h => h) (Or.inl ⟨by rfl, ?_⟩) ?_ ?_
                                              rotate_left
                                              · intro w'
                                                go_simp
                                                with_reducible rfl
                                              rotate_left
                                              · simp only [Act.put, List.setIfInBounds_toArray, List.set_cons_zero, List.set_cons_succ, i64_w, i32_w]
                                                rfl
                                              refine pure_ (i := 2) (N := some 264) (v := ?_) (a' := ?_) #[true, true, true, false, false, false, false, false, false, false, false, false, false, false, false, false, false, false, false, false, false, false, false, false, false, false, false, false] rfl rfl (any_of HT_.out (by kernel_rfl)) (fun _ _ _ h => h) (Or.inl ⟨by rfl, ?_⟩) ?_ ?_
                                              rotate_left
                                              · intro w'
                                                go_simp
                                                with_reducible rfl
                                              rotate_left
                                              · simp only [Act.put, List.setIfInBounds_toArray, List.set_cons_zero, List.set_cons_succ, i64_w, i32_w]
                                                rfl
                                              refine pure_ (i := 3) (N := some 265) (v := ?_) (a' := ?_) #[true, true, true, true, false, false, false, false, false, false, false, false, false, false, false, false, false, false, false, false, false, false, false, false, false, false, false, false] rfl rfl (any_of HT_.out (by kernel_rfl)) (fun _ _ _ h => h) (Or.inl ⟨by rfl, ?_⟩) ?_ ?_
                                              rotate_left
                                              · intro w'
                                                go_simp
                                                with_reducible rfl
                                              rotate_left
                                              · simp only [Act.put, List.setIfInBounds_toArray, List.set_cons_zero, List.set_cons_succ, i64_w, i32_w]
                                                rfl
                                              refine take_ (i := 4) (N := some 266) (v := ?_) (a' := ?_) #[true, true, true, true, true, false, false, false, false, false, false, false, false, false, false, false, false, false, false, false, false, false, false, false, false, false, false, false] rfl rfl (take_ofW HT_.out HW_.out (by kernel_rfl)) (fun _ _ _ h => h) (Or.inl ⟨by rfl, ?_⟩) hHeld ?_ ?_
                                              rotate_left
                                              · rintro w' ⟨⟨s1, s2, s3⟩, ⟨s4, s5⟩, s6, s7⟩
                                                go_simp
                                                with_reducible rfl
                                              rotate_left
                                              · simp only [Act.put, List.setIfInBounds_toArray, List.set_cons_zero, List.set_cons_succ, i64_w, i32_w]
                                                rfl
                                              refine take_ (i := 5) (N := some 267) (v := ?_) (a' := ?_) #[true, true, true, true, true, true, false, false, false, false, false, false, false, false, false, false, false, false, false, false, false, false, false, false, false, false, false, false] rfl rfl (take_ofW HT_.out HW_.out (by kernel_rfl)) (fun _ _ _ h => h) (Or.inl ⟨by rfl, ?_⟩) hHeld ?_ ?_
                                              rotate_left
                                              · rintro w' ⟨⟨s1, s2, s3⟩, ⟨s4, s5⟩, s6, s7⟩
                                                go_simp
                                                with_reducible rfl
                                              rotate_left
                                              · simp only [Act.put, List.setIfInBounds_toArray, List.set_cons_zero, List.set_cons_succ, i64_w, i32_w]
                                                rfl
                                              refine pure_ (i := 6) (N := some 268) (v := ?_) (a' := ?_) #[true, true, true, true, true, true, true, false, false, false, false, false, false, false, false, false, false, false, false, false, false, false, false, false, false, false, false, false] rfl rfl (any_of HT_.out (by kernel_rfl)) (fun _ _ _ h => h) (Or.inl ⟨by rfl, ?_⟩) ?_ ?_
                                              rotate_left
                                              · intro w'
                                                go_simp
                                                with_reducible rfl
                                              rotate_left
                                              · simp only [Act.put, List.setIfInBounds_toArray, List.set_cons_zero, List.set_cons_succ, i64_w, i32_w]
                                                rfl
                                              refine take_ (i := 7) (N := some 269) (v := ?_) (a' := ?_) #[true, true, true, true, true, true, true, true, false, false, false, false, false, false, false, false, false, false, false, false, false, false, false, false, false, false, false, false] rfl rfl (take_ofW HT_.out HW_.out (by kernel_rfl)) (fun _ _ _ h => h) (Or.inl ⟨by rfl, ?_⟩) hHeld ?_ ?_
                                              rotate_left
                                              · rintro w' ⟨⟨s1, s2, s3⟩, ⟨s4, s5⟩, s6, s7⟩
                                                go_simp
                                                with_reducible rfl
                                              rotate_left
                                              · simp only [Act.put, List.setIfInBounds_toArray, List.set_cons_zero, List.set_cons_succ, i64_w, i32_w]
                                                rfl
                                              refine one_ (i := 8) (N := some 270) #[true, true, true, true, true, true, true, true, true, false, false, false, false, false, false, false, false, false, false, false, false, false, false, false, false, false, false, false] rfl rfl (one_of HT_.out (by kernel_rfl)) (by decide) (fun K hK => ?_)
                                              refine goes_ Try.func25 (by kernel_rfl) rfl #[.agg #[.int .i64 s.x, .int .i64 s.y], .agg #[.int .i64 px, .int .i64 py], .int .i64 s.r] (by rfl) rfl rfl (by (try simp only [List.map_toArray, List.map_cons, List.map_nil]); first | done | rfl) ?_
                                              with_reducible refine (hW _).mono ?_
                                              rintro e w8 ⟨rfl, hb8⟩
                                              refine ⟨_, rfl, ?_⟩
                                              have n_ := Aside0.mk (below_step (by repeat (first | (with_reducible first | exact HLB.out | apply below_alloc | apply pw_below_drewN | apply below_drew1) | exact HLB.out)) hb8)
                                              clear HLB hb8
                                              have HLB := n_
                                              clear n_
                                              refine hK.out _ _ ((let z := HSC.out _ (by repeat (first | (with_reducible first | exact HLB.out | apply below_alloc | apply pw_below_drewN | apply below_drew1) | exact HLB.out)); ⟨z.1, z.2.1, z.2.2, HCM.out _ (by repeat (first | (with_reducible first | exact HLB.out | apply below_alloc | apply pw_below_drewN | apply below_drew1) | exact HLB.out))⟩)) (fun hHeld => ?_)
                                              clear hK K
                                              refine norm_ (a' := ?_) ?_ ?_
                                              rotate_left
                                              · show Act.put _ (some 270) _ = _
                                                simp only [Act.put, List.setIfInBounds_toArray, List.set_cons_zero, List.set_cons_succ, i64_w, i32_w]
                                                rfl
                                              refine pure_ (i := 9) (N := some 271) (v := ?_) (a' := ?_) #[true, true, true, true, true, true, true, true, true, true, false, false, false, false, false, false, false, false, false, false, false, false, false, false, false, false, false, false] rfl rfl (any_of HT_.out (by kernel_rfl)) (fun _ _ _ h => h) (Or.inl ⟨by rfl, ?_⟩) ?_ ?_
                                              rotate_left
                                              · intro w'
                                                go_simp
                                                with_reducible rfl
                                              rotate_left
                                              · simp only [Act.put, List.setIfInBounds_toArray, List.set_cons_zero, List.set_cons_succ, i64_w, i32_w]
                                                rfl
                                              refine pure_ (i := 10) (N := some 272) (v := ?_) (a' := ?_) #[true, true, true, true, true, true, true, true, true, true, true, false, false, false, false, false, false, false, false, false, false, false, false, false, false, false, false, false] rfl rfl (any_of HT_.out (by kernel_rfl)) (fun _ _ _ h => h) (Or.inl ⟨by rfl, ?_⟩) ?_ ?_
                                              rotate_left
                                              · intro w'
                                                go_simp
                                                with_reducible rfl
                                              rotate_left
                                              · simp only [Act.put, List.setIfInBounds_toArray, List.set_cons_zero, List.set_cons_succ, i64_w, i32_w]
                                                rfl
                                              refine pure_ (i := 11) (N := some 273) (v := ?_) (a' := ?_) #[true, true, true, true, true, true, true, true, true, true, true, true, false, false, false, false, false, false, false, false, false, false, false, false, false, false, false, false] rfl rfl (any_of HT_.out (by kernel_rfl)) (fun _ _ _ h => h) (Or.inl ⟨by rfl, ?_⟩) ?_ ?_
                                              rotate_left
                                              · intro w'
                                                go_simp
                                                with_reducible rfl
                                              rotate_left
                                              · simp only [Act.put, List.setIfInBounds_toArray, List.set_cons_zero, List.set_cons_succ, i64_w, i32_w]
                                                rfl
                                              refine pure_ (i := 12) (N := some 274) (v := ?_) (a' := ?_) #[true, true, true, true, true, true, true, true, true, true, true, true, true, false, false, false, false, false, false, false, false, false, false, false, false, false, false, false] rfl rfl (any_of HT_.out (by kernel_rfl)) (fun _ _ _ h => h) (Or.inl ⟨by rfl, ?_⟩) ?_ ?_
                                              rotate_left
                                              · intro w'
                                                go_simp
                                                with_reducible rfl
                                              rotate_left
                                              · simp only [Act.put, List.setIfInBounds_toArray, List.set_cons_zero, List.set_cons_succ, i64_w, i32_w]
                                                rfl
                                              refine pure_ (i := 13) (N := some 275) (v := ?_) (a' := ?_) #[true, true, true, true, true, true, true, true, true, true, true, true, true, true, false, false, false, false, false, false, false, false, false, false, false, false, false, false] rfl rfl (any_of HT_.out (by kernel_rfl)) (fun _ _ _ h => h) (Or.inl ⟨by rfl, ?_⟩) ?_ ?_
                                              rotate_left
                                              · intro w'
                                                go_simp
                                                with_reducible rfl
                                              rotate_left
                                              · simp only [Act.put, List.setIfInBounds_toArray, List.set_cons_zero, List.set_cons_succ, i64_w, i32_w]
                                                rfl
                                              refine pure_ (i := 14) (N := some 276) (v := ?_) (a' := ?_) #[true, true, true, true, true, true, true, true, true, true, true, true, true, true, true, false, false, false, false, false, false, false, false, false, false, false, false, false] rfl rfl (any_of HT_.out (by kernel_rfl)) (fun _ _ _ h => h) (Or.inl ⟨by rfl, ?_⟩) ?_ ?_
                                              rotate_left
                                              · intro w'
                                                go_simp
                                                with_reducible rfl
                                              rotate_left
                                              · simp only [Act.put, List.setIfInBounds_toArray, List.set_cons_zero, List.set_cons_succ, i64_w, i32_w]
                                                rfl
                                              refine pure_ (i := 15) (N := some 277) (v := ?_) (a' := ?_) #[true, true, true, true, true, true, true, true, true, true, true, true, true, true, true, true, false, false, false, false, false, false, false, false, false, false, false, false] rfl rfl (any_of HT_.out (by kernel_rfl)) (fun _ _ _ h => h) (Or.inl ⟨by rfl, ?_⟩) ?_ ?_
                                              rotate_left
                                              · intro w'
                                                go_simp
                                                with_reducible rfl
                                              rotate_left
                                              · simp only [Act.put, List.setIfInBounds_toArray, List.set_cons_zero, List.set_cons_succ, i64_w, i32_w]
                                                rfl
                                              refine pure_ (i := 16) (N := some 278) (v := ?_) (a' := ?_) #[true, true, true, true, true, true, true, true, true, true, true, true, true, true, true, true, true, false, false, false, false, false, false, false, false, false, false, false] rfl rfl (any_of HT_.out (by kernel_rfl)) (fun _ _ _ h => h) (Or.inl ⟨by rfl, ?_⟩) ?_ ?_
                                              rotate_left
                                              · intro w'
                                                go_simp
                                                with_reducible rfl
                                              rotate_left
                                              · simp only [Act.put, List.setIfInBounds_toArray, List.set_cons_zero, List.set_cons_succ, i64_w, i32_w]
                                                rfl
                                              refine pure_ (i := 17) (N := some 279) (v := ?_) (a' := ?_) #[true, true, true, true, true, true, true, true, true, true, true, true, true, true, true, true, true, true, false, false, false, false, false, false, false, false, false, false] rfl rfl (any_of HT_.out (by kernel_rfl)) (fun _ _ _ h => h) (Or.inl ⟨by rfl, ?_⟩) ?_ ?_
                                              rotate_left
                                              · intro w'
                                                go_simp
                                                with_reducible rfl
                                              rotate_left
                                              · simp only [Act.put, List.setIfInBounds_toArray, List.set_cons_zero, List.set_cons_succ, i64_w, i32_w]
                                                rfl
                                              refine pure_ (i := 18) (N := some 280) (v := ?_) (a' := ?_) #[true, true, true, true, true, true, true, true, true, true, true, true, true, true, true, true, true, true, true, false, false, false, false, false, false, false, false, false] rfl rfl (any_of HT_.out (by kernel_rfl)) (fun _ _ _ h => h) (Or.inl ⟨by rfl, ?_⟩) ?_ ?_
                                              rotate_left
                                              · intro w'
                                                go_simp
                                                with_reducible rfl
                                              rotate_left
                                              · simp only [Act.put, List.setIfInBounds_toArray, List.set_cons_zero, List.set_cons_succ, i64_w, i32_w]
                                                rfl
                                              refine pure_ (i := 19) (N := some 281) (v := ?_) (a' := ?_) #[true, true, true, true, true, true, true, true, true, true, true, true, true, true, true, true, true, true, true, true, false, false, false, false, false, false, false, false] rfl rfl (any_of HT_.out (by kernel_rfl)) (fun _ _ _ h => h) (Or.inl ⟨by rfl, ?_⟩) ?_ ?_
                                              rotate_left
                                              · intro w'
                                                go_simp
                                                with_reducible rfl
                                              rotate_left
                                              · simp only [Act.put, List.setIfInBounds_toArray, List.set_cons_zero, List.set_cons_succ, i64_w, i32_w]
                                                rfl
                                              refine take_ (i := 20) (N := some 282) (v := ?_) (a' := ?_) #[true, true, true, true, true, true, true, true, true, true, true, true, true, true, true, true, true, true, true, true, true, false, false, false, false, false, false, false] rfl rfl (take_ofW HT_.out HW_.out (by kernel_rfl)) (fun _ _ _ h => h) (Or.inl ⟨by rfl, ?_⟩) hHeld ?_ ?_
                                              rotate_left
                                              · rintro w' ⟨⟨s1, s2, s3⟩, ⟨s4, s5⟩, s6, s7⟩
                                                go_simp
                                                with_reducible rfl
                                              rotate_left
                                              · simp only [Act.put, List.setIfInBounds_toArray, List.set_cons_zero, List.set_cons_succ, i64_w, i32_w]
                                                rfl
                                              refine pure_ (i := 21) (N := some 283) (v := ?_) (a' := ?_) #[true, true, true, true, true, true, true, true, true, true, true, true, true, true, true, true, true, true, true, true, true, true, false, false, false, false, false, false] rfl rfl (any_of HT_.out (by kernel_rfl)) (fun _ _ _ h => h) (Or.inl ⟨by rfl, ?_⟩) ?_ ?_
                                              rotate_left
                                              · intro w'
                                                go_simp
                                                with_reducible rfl
                                              rotate_left
                                              · simp only [Act.put, List.setIfInBounds_toArray, List.set_cons_zero, List.set_cons_succ, i64_w, i32_w]
                                                rfl
                                              refine pure_ (i := 22) (N := some 284) (v := ?_) (a' := ?_) #[true, true, true, true, true, true, true, true, true, true, true, true, true, true, true, true, true, true, true, true, true, true, true, false, false, false, false, false] rfl rfl (any_of HT_.out (by kernel_rfl)) (fun _ _ _ h => h) (Or.inl ⟨by rfl, ?_⟩) ?_ ?_
                                              rotate_left
                                              · intro w'
                                                go_simp
                                                with_reducible rfl
                                              rotate_left
                                              · simp only [Act.put, List.setIfInBounds_toArray, List.set_cons_zero, List.set_cons_succ, i64_w, i32_w]
                                                rfl
                                              refine pure_ (i := 23) (N := some 285) (v := ?_) (a' := ?_) #[true, true, true, true, true, true, true, true, true, true, true, true, true, true, true, true, true, true, true, true, true, true, true, true, false, false, false, false] rfl rfl (any_of HT_.out (by kernel_rfl)) (fun _ _ _ h => h) (Or.inl ⟨by rfl, ?_⟩) ?_ ?_
                                              rotate_left
                                              · intro w'
                                                go_simp
                                                with_reducible rfl
                                              rotate_left
                                              · simp only [Act.put, List.setIfInBounds_toArray, List.set_cons_zero, List.set_cons_succ, i64_w, i32_w]
                                                rfl
                                              refine take_ (i := 24) (N := some 286) (v := ?_) (a' := ?_) #[true, true, true, true, true, true, true, true, true, true, true, true, true, true, true, true, true, true, true, true, true, true, true, true, true, false, false, false] rfl rfl (take_ofW HT_.out HW_.out (by kernel_rfl)) (fun _ _ _ h => h) (Or.inl ⟨by rfl, ?_⟩) hHeld ?_ ?_
                                              rotate_left
                                              · rintro w' ⟨⟨s1, s2, s3⟩, ⟨s4, s5⟩, s6, s7⟩
                                                go_simp
                                                with_reducible rfl
                                              rotate_left
                                              · simp only [Act.put, List.setIfInBounds_toArray, List.set_cons_zero, List.set_cons_succ, i64_w, i32_w]
                                                rfl
                                              refine pure_ (i := 25) (N := some 287) (v := ?_) (a' := ?_) #[true, true, true, true, true, true, true, true, true, true, true, true, true, true, true, true, true, true, true, true, true, true, true, true, true, true, false, false] rfl rfl (any_of HT_.out (by kernel_rfl)) (fun _ _ _ h => h) (Or.inl ⟨by rfl, ?_⟩) ?_ ?_
                                              rotate_left
                                              · intro w'
                                                go_simp
                                                with_reducible rfl
                                              rotate_left
                                              · simp only [Act.put, List.setIfInBounds_toArray, List.set_cons_zero, List.set_cons_succ, i64_w, i32_w]
                                                rfl
                                              refine pure_ (i := 26) (N := some 288) (v := ?_) (a' := ?_) #[true, true, true, true, true, true, true, true, true, true, true, true, true, true, true, true, true, true, true, true, true, true, true, true, true, true, true, false] rfl rfl (any_of HT_.out (by kernel_rfl)) (fun _ _ _ h => h) (Or.inl ⟨by rfl, ?_⟩) ?_ ?_
                                              rotate_left
                                              · intro w'
                                                go_simp
                                                with_reducible rfl
                                              rotate_left
                                              · simp only [Act.put, List.setIfInBounds_toArray, List.set_cons_zero, List.set_cons_succ, i64_w, i32_w]
                                                rfl
                                              refine pure_ (i := 27) (N := some 289) (v := ?_) (a' := ?_) #[true, true, true, true, true, true, true, true, true, true, true, true, true, true, true, true, true, true, true, true, true, true, true, true, true, true, true, true] rfl rfl (any_of HT_.out (by kernel_rfl)) (fun _ _ _ h => h) (Or.inl ⟨by rfl, ?_⟩) ?_ ?_
                                              rotate_left
                                              · intro w'
                                                go_simp
                                                with_reducible rfl
                                              rotate_left
                                              · simp only [Act.put, List.setIfInBounds_toArray, List.set_cons_zero, List.set_cons_succ, i64_w, i32_w]
                                                rfl
                                              refine done_ (done_of HT_.out (by kernel_rfl)) ?_
                                              clear hHeld HT_ HW_
                                              go_wp2
                                              go_meet
                                              case rel => exact ⟨rfl, (by repeat (first | (with_reducible first | exact HLB.out | apply below_alloc | apply pw_below_drewN | apply below_drew1) | exact HLB.out))⟩
                                          · as_aux_lemma =>
                                              have f1 : decide (p < (M : Int)) = false := decide_eq_false hpM
                                              clear hpM
                                              refine start_ (n := 28) (S := fun w' => (w'.cell? ⟨b10, 2, none⟩ = some (.int .i64 s.x) ∧ w'.cell? ⟨b10, 3, none⟩ = some (.int .i64 s.y) ∧ w'.cell? ⟨b10, 4, none⟩ = some (.int .i64 s.r)) ∧ (w'.cell? ⟨b23, 0, none⟩ = some (.int .i64 px) ∧ w'.cell? ⟨b23, 1, none⟩ = some (.int .i64 py)) ∧ w'.cell? (ada.add p.toNat) = some (.int .i64 x)) (ds := []) #[false, false, false, false, false, false, false, false, false, false, false, false, false, false, false, false, false, false, false, false, false, false, false, false, false, false, false, false] (by kernel_rfl) rfl rfl (HSC.out _ (by repeat (first | (with_reducible first | exact HLB.out | apply below_alloc | apply pw_below_drewN | apply below_drew1) | exact HLB.out))) (fun hHeld => ?_)
                                              refine with_tabW tab_f5_43 bits_f5_43 (fun HT_ HW_ => ?_)
                                              refine pure_ (i := 0) (N := some 262) (v := ?_) (a' := ?_) #[true, false, false, false, false, false, false, false, false, false, false, false, false, false, false, false, false, false, false, false, false, false, false, false, false, false, false, false] rfl rfl (any_of HT_.out (by kernel_rfl)) (fun _ _ _ h => h) (Or.inl ⟨by rfl, ?_⟩) ?_ ?_
                                              rotate_left
                                              · intro w'
                                                go_simp
                                                with_reducible rfl
                                              rotate_left
                                              · simp only [Act.put, List.setIfInBounds_toArray, List.set_cons_zero, List.set_cons_succ, i64_w, i32_w]
                                                rfl
                                              refine pure_ (i := 1) (N := some 263) (v := ?_) (a' := ?_) #[true, true, false, false, false, false, false, false, false, false, false, false, false, false, false, false, false, false, false, false, false, false, false, false, false, false, false, false] rfl rfl (any_of HT_.out (by kernel_rfl)) (fun _ _ _ h => h) (Or.inl ⟨by rfl, ?_⟩) ?_ ?_
                                              rotate_left
                                              · intro w'
                                                go_simp
                                                with_reducible rfl
                                              rotate_left
                                              · simp only [Act.put, List.setIfInBounds_toArray, List.set_cons_zero, List.set_cons_succ, i64_w, i32_w]
                                                rfl
                                              refine pure_ (i := 2) (N := some 264) (v := ?_) (a' := ?_) #[true, true, true, false, false, false, false, false, false, false, false, false, false, false, false, false, false, false, false, false, false, false, false, false, false, false, false, false] rfl rfl (any_of HT_.out (by kernel_rfl)) (fun _ _ _ h => h) (Or.inl ⟨by rfl, ?_⟩) ?_ ?_
                                              rotate_left
                                              · intro w'
                                                go_simp
                                                with_reducible rfl
                                              rotate_left
                                              · simp only [Act.put, List.setIfInBounds_toArray, List.set_cons_zero, List.set_cons_succ, i64_w, i32_w]
                                                rfl
                                              refine pure_ (i := 3) (N := some 265) (v := ?_) (a' := ?_) #[true, true, true, true, false, false, false, false, false, false, false, false, false, false, false, false, false, false, false, false, false, false, false, false, false, false, false, false] rfl rfl (any_of HT_.out (by kernel_rfl)) (fun _ _ _ h => h) (Or.inl ⟨by rfl, ?_⟩) ?_ ?_
                                              rotate_left
                                              · intro w'
                                                go_simp
                                                with_reducible rfl
                                              rotate_left
                                              · simp only [Act.put, List.setIfInBounds_toArray, List.set_cons_zero, List.set_cons_succ, i64_w, i32_w]
                                                rfl
                                              refine take_ (i := 4) (N := some 266) (v := ?_) (a' := ?_) #[true, true, true, true, true, false, false, false, false, false, false, false, false, false, false, false, false, false, false, false, false, false, false, false, false, false, false, false] rfl rfl (take_ofW HT_.out HW_.out (by kernel_rfl)) (fun _ _ _ h => h) (Or.inl ⟨by rfl, ?_⟩) hHeld ?_ ?_
                                              rotate_left
                                              · rintro w' ⟨⟨s1, s2, s3⟩, ⟨s4, s5⟩, s6⟩
                                                go_simp
                                                with_reducible rfl
                                              rotate_left
                                              · simp only [Act.put, List.setIfInBounds_toArray, List.set_cons_zero, List.set_cons_succ, i64_w, i32_w]
                                                rfl
                                              refine take_ (i := 5) (N := some 267) (v := ?_) (a' := ?_) #[true, true, true, true, true, true, false, false, false, false, false, false, false, false, false, false, false, false, false, false, false, false, false, false, false, false, false, false] rfl rfl (take_ofW HT_.out HW_.out (by kernel_rfl)) (fun _ _ _ h => h) (Or.inl ⟨by rfl, ?_⟩) hHeld ?_ ?_
                                              rotate_left
                                              · rintro w' ⟨⟨s1, s2, s3⟩, ⟨s4, s5⟩, s6⟩
                                                go_simp
                                                with_reducible rfl
                                              rotate_left
                                              · simp only [Act.put, List.setIfInBounds_toArray, List.set_cons_zero, List.set_cons_succ, i64_w, i32_w]
                                                rfl
                                              refine pure_ (i := 6) (N := some 268) (v := ?_) (a' := ?_) #[true, true, true, true, true, true, true, false, false, false, false, false, false, false, false, false, false, false, false, false, false, false, false, false, false, false, false, false] rfl rfl (any_of HT_.out (by kernel_rfl)) (fun _ _ _ h => h) (Or.inl ⟨by rfl, ?_⟩) ?_ ?_
                                              rotate_left
                                              · intro w'
                                                go_simp
                                                with_reducible rfl
                                              rotate_left
                                              · simp only [Act.put, List.setIfInBounds_toArray, List.set_cons_zero, List.set_cons_succ, i64_w, i32_w]
                                                rfl
                                              refine take_ (i := 7) (N := some 269) (v := ?_) (a' := ?_) #[true, true, true, true, true, true, true, true, false, false, false, false, false, false, false, false, false, false, false, false, false, false, false, false, false, false, false, false] rfl rfl (take_ofW HT_.out HW_.out (by kernel_rfl)) (fun _ _ _ h => h) (Or.inl ⟨by rfl, ?_⟩) hHeld ?_ ?_
                                              rotate_left
                                              · rintro w' ⟨⟨s1, s2, s3⟩, ⟨s4, s5⟩, s6⟩
                                                go_simp
                                                with_reducible rfl
                                              rotate_left
                                              · simp only [Act.put, List.setIfInBounds_toArray, List.set_cons_zero, List.set_cons_succ, i64_w, i32_w]
                                                rfl
                                              refine one_ (i := 8) (N := some 270) #[true, true, true, true, true, true, true, true, true, false, false, false, false, false, false, false, false, false, false, false, false, false, false, false, false, false, false, false] rfl rfl (one_of HT_.out (by kernel_rfl)) (by decide) (fun K hK => ?_)
                                              refine goes_ Try.func25 (by kernel_rfl) rfl #[.agg #[.int .i64 s.x, .int .i64 s.y], .agg #[.int .i64 px, .int .i64 py], .int .i64 s.r] (by rfl) rfl rfl (by (try simp only [List.map_toArray, List.map_cons, List.map_nil]); first | done | rfl) ?_
                                              with_reducible refine (hW _).mono ?_
                                              rintro e w8 ⟨rfl, hb8⟩
                                              refine ⟨_, rfl, ?_⟩
                                              have n_ := Aside0.mk (below_step (by repeat (first | (with_reducible first | exact HLB.out | apply below_alloc | apply pw_below_drewN | apply below_drew1) | exact HLB.out)) hb8)
                                              clear HLB hb8
                                              have HLB := n_
                                              clear n_
                                              refine hK.out _ _ (HSC.out _ (by repeat (first | (with_reducible first | exact HLB.out | apply below_alloc | apply pw_below_drewN | apply below_drew1) | exact HLB.out))) (fun hHeld => ?_)
                                              clear hK K
                                              refine norm_ (a' := ?_) ?_ ?_
                                              rotate_left
                                              · show Act.put _ (some 270) _ = _
                                                simp only [Act.put, List.setIfInBounds_toArray, List.set_cons_zero, List.set_cons_succ, i64_w, i32_w]
                                                rfl
                                              refine pure_ (i := 9) (N := some 271) (v := ?_) (a' := ?_) #[true, true, true, true, true, true, true, true, true, true, false, false, false, false, false, false, false, false, false, false, false, false, false, false, false, false, false, false] rfl rfl (any_of HT_.out (by kernel_rfl)) (fun _ _ _ h => h) (Or.inl ⟨by rfl, ?_⟩) ?_ ?_
                                              rotate_left
                                              · intro w'
                                                go_simp
                                                with_reducible rfl
                                              rotate_left
                                              · simp only [Act.put, List.setIfInBounds_toArray, List.set_cons_zero, List.set_cons_succ, i64_w, i32_w]
                                                rfl
                                              refine pure_ (i := 10) (N := some 272) (v := ?_) (a' := ?_) #[true, true, true, true, true, true, true, true, true, true, true, false, false, false, false, false, false, false, false, false, false, false, false, false, false, false, false, false] rfl rfl (any_of HT_.out (by kernel_rfl)) (fun _ _ _ h => h) (Or.inl ⟨by rfl, ?_⟩) ?_ ?_
                                              rotate_left
                                              · intro w'
                                                go_simp
                                                with_reducible rfl
                                              rotate_left
                                              · simp only [Act.put, List.setIfInBounds_toArray, List.set_cons_zero, List.set_cons_succ, i64_w, i32_w]
                                                rfl
                                              refine pure_ (i := 11) (N := some 273) (v := ?_) (a' := ?_) #[true, true, true, true, true, true, true, true, true, true, true, true, false, false, false, false, false, false, false, false, false, false, false, false, false, false, false, false] rfl rfl (any_of HT_.out (by kernel_rfl)) (fun _ _ _ h => h) (Or.inl ⟨by rfl, ?_⟩) ?_ ?_
                                              rotate_left
                                              · intro w'
                                                go_simp
                                                with_reducible rfl
                                              rotate_left
                                              · simp only [Act.put, List.setIfInBounds_toArray, List.set_cons_zero, List.set_cons_succ, i64_w, i32_w]
                                                rfl
                                              refine pure_ (i := 12) (N := some 274) (v := ?_) (a' := ?_) #[true, true, true, true, true, true, true, true, true, true, true, true, true, false, false, false, false, false, false, false, false, false, false, false, false, false, false, false] rfl rfl (any_of HT_.out (by kernel_rfl)) (fun _ _ _ h => h) (Or.inl ⟨by rfl, ?_⟩) ?_ ?_
                                              rotate_left
                                              · intro w'
                                                go_simp
                                                with_reducible rfl
                                              rotate_left
                                              · simp only [Act.put, List.setIfInBounds_toArray, List.set_cons_zero, List.set_cons_succ, i64_w, i32_w]
                                                rfl
                                              refine pure_ (i := 13) (N := some 275) (v := ?_) (a' := ?_) #[true, true, true, true, true, true, true, true, true, true, true, true, true, true, false, false, false, false, false, false, false, false, false, false, false, false, false, false] rfl rfl (any_of HT_.out (by kernel_rfl)) (fun _ _ _ h => h) (Or.inl ⟨by rfl, ?_⟩) ?_ ?_
                                              rotate_left
                                              · intro w'
                                                go_simp
                                                with_reducible rfl
                                              rotate_left
                                              · simp only [Act.put, List.setIfInBounds_toArray, List.set_cons_zero, List.set_cons_succ, i64_w, i32_w]
                                                rfl
                                              refine pure_ (i := 14) (N := some 276) (v := ?_) (a' := ?_) #[true, true, true, true, true, true, true, true, true, true, true, true, true, true, true, false, false, false, false, false, false, false, false, false, false, false, false, false] rfl rfl (any_of HT_.out (by kernel_rfl)) (fun _ _ _ h => h) (Or.inl ⟨by rfl, ?_⟩) ?_ ?_
                                              rotate_left
                                              · intro w'
                                                go_simp
                                                with_reducible rfl
                                              rotate_left
                                              · simp only [Act.put, List.setIfInBounds_toArray, List.set_cons_zero, List.set_cons_succ, i64_w, i32_w]
                                                rfl
                                              refine pure_ (i := 15) (N := some 277) (v := ?_) (a' := ?_) #[true, true, true, true, true, true, true, true, true, true, true, true, true, true, true, true, false, false, false, false, false, false, false, false, false, false, false, false] rfl rfl (any_of HT_.out (by kernel_rfl)) (fun _ _ _ h => h) (Or.inl ⟨by rfl, ?_⟩) ?_ ?_
                                              rotate_left
                                              · intro w'
                                                go_simp
                                                with_reducible rfl
                                              rotate_left
                                              · simp only [Act.put, List.setIfInBounds_toArray, List.set_cons_zero, List.set_cons_succ, i64_w, i32_w]
                                                rfl
                                              refine pure_ (i := 16) (N := some 278) (v := ?_) (a' := ?_) #[true, true, true, true, true, true, true, true, true, true, true, true, true, true, true, true, true, false, false, false, false, false, false, false, false, false, false, false] rfl rfl (any_of HT_.out (by kernel_rfl)) (fun _ _ _ h => h) (Or.inl ⟨by rfl, ?_⟩) ?_ ?_
                                              rotate_left
                                              · intro w'
                                                go_simp
                                                with_reducible rfl
                                              rotate_left
                                              · simp only [Act.put, List.setIfInBounds_toArray, List.set_cons_zero, List.set_cons_succ, i64_w, i32_w]
                                                rfl
                                              refine pure_ (i := 17) (N := some 279) (v := undef) (a' := ?_) #[true, true, true, true, true, true, true, true, true, true, true, true, true, true, true, true, true, true, false, false, false, false, false, false, false, false, false, false] rfl rfl (any_of HT_.out (by kernel_rfl)) (fun _ _ _ h => h) (Or.inr ⟨by rfl, rfl⟩) ?_ ?_
                                              rotate_left
                                              · simp only [Act.put, List.setIfInBounds_toArray, List.set_cons_zero, List.set_cons_succ, i64_w, i32_w]
                                                rfl
                                              refine pure_ (i := 18) (N := some 280) (v := undef) (a' := ?_) #[true, true, true, true, true, true, true, true, true, true, true, true, true, true, true, true, true, true, true, false, false, false, false, false, false, false, false, false] rfl rfl (any_of HT_.out (by kernel_rfl)) (fun _ _ _ h => h) (Or.inr ⟨by rfl, rfl⟩) ?_ ?_
                                              rotate_left
                                              · simp only [Act.put, List.setIfInBounds_toArray, List.set_cons_zero, List.set_cons_succ, i64_w, i32_w]
                                                rfl
                                              refine pure_ (i := 19) (N := some 281) (v := undef) (a' := ?_) #[true, true, true, true, true, true, true, true, true, true, true, true, true, true, true, true, true, true, true, true, false, false, false, false, false, false, false, false] rfl rfl (any_of HT_.out (by kernel_rfl)) (fun _ _ _ h => h) (Or.inr ⟨by rfl, rfl⟩) ?_ ?_
                                              rotate_left
                                              · simp only [Act.put, List.setIfInBounds_toArray, List.set_cons_zero, List.set_cons_succ, i64_w, i32_w]
                                                rfl
                                              refine pure_ (i := 20) (N := some 282) (v := undef) (a' := ?_) #[true, true, true, true, true, true, true, true, true, true, true, true, true, true, true, true, true, true, true, true, true, false, false, false, false, false, false, false] rfl rfl (any_of HT_.out (by kernel_rfl)) (fun _ _ _ h => h) (Or.inr ⟨by rfl, rfl⟩) ?_ ?_
                                              rotate_left
                                              · simp only [Act.put, List.setIfInBounds_toArray, List.set_cons_zero, List.set_cons_succ, i64_w, i32_w]
                                                rfl
                                              refine pure_ (i := 21) (N := some 283) (v := undef) (a' := ?_) #[true, true, true, true, true, true, true, true, true, true, true, true, true, true, true, true, true, true, true, true, true, true, false, false, false, false, false, false] rfl rfl (any_of HT_.out (by kernel_rfl)) (fun _ _ _ h => h) (Or.inr ⟨by rfl, rfl⟩) ?_ ?_
                                              rotate_left
                                              · simp only [Act.put, List.setIfInBounds_toArray, List.set_cons_zero, List.set_cons_succ, i64_w, i32_w]
                                                rfl
                                              refine pure_ (i := 22) (N := some 284) (v := undef) (a' := ?_) #[true, true, true, true, true, true, true, true, true, true, true, true, true, true, true, true, true, true, true, true, true, true, true, false, false, false, false, false] rfl rfl (any_of HT_.out (by kernel_rfl)) (fun _ _ _ h => h) (Or.inr ⟨by rfl, rfl⟩) ?_ ?_
                                              rotate_left
                                              · simp only [Act.put, List.setIfInBounds_toArray, List.set_cons_zero, List.set_cons_succ, i64_w, i32_w]
                                                rfl
                                              refine pure_ (i := 23) (N := some 285) (v := undef) (a' := ?_) #[true, true, true, true, true, true, true, true, true, true, true, true, true, true, true, true, true, true, true, true, true, true, true, true, false, false, false, false] rfl rfl (any_of HT_.out (by kernel_rfl)) (fun _ _ _ h => h) (Or.inr ⟨by rfl, rfl⟩) ?_ ?_
                                              rotate_left
                                              · simp only [Act.put, List.setIfInBounds_toArray, List.set_cons_zero, List.set_cons_succ, i64_w, i32_w]
                                                rfl
                                              refine pure_ (i := 24) (N := some 286) (v := undef) (a' := ?_) #[true, true, true, true, true, true, true, true, true, true, true, true, true, true, true, true, true, true, true, true, true, true, true, true, true, false, false, false] rfl rfl (any_of HT_.out (by kernel_rfl)) (fun _ _ _ h => h) (Or.inr ⟨by rfl, rfl⟩) ?_ ?_
                                              rotate_left
                                              · simp only [Act.put, List.setIfInBounds_toArray, List.set_cons_zero, List.set_cons_succ, i64_w, i32_w]
                                                rfl
                                              refine pure_ (i := 25) (N := some 287) (v := undef) (a' := ?_) #[true, true, true, true, true, true, true, true, true, true, true, true, true, true, true, true, true, true, true, true, true, true, true, true, true, true, false, false] rfl rfl (any_of HT_.out (by kernel_rfl)) (fun _ _ _ h => h) (Or.inr ⟨by rfl, rfl⟩) ?_ ?_
                                              rotate_left
                                              · simp only [Act.put, List.setIfInBounds_toArray, List.set_cons_zero, List.set_cons_succ, i64_w, i32_w]
                                                rfl
                                              refine pure_ (i := 26) (N := some 288) (v := ?_) (a' := ?_) #[true, true, true, true, true, true, true, true, true, true, true, true, true, true, true, true, true, true, true, true, true, true, true, true, true, true, true, false] rfl rfl (any_of HT_.out (by kernel_rfl)) (fun _ _ _ h => h) (Or.inl ⟨by rfl, ?_⟩) ?_ ?_
                                              rotate_left
                                              · intro w'
                                                go_simp
                                                with_reducible rfl
                                              rotate_left
                                              · simp only [Act.put, List.setIfInBounds_toArray, List.set_cons_zero, List.set_cons_succ, i64_w, i32_w]
                                                rfl
                                              refine pure_ (i := 27) (N := some 289) (v := ?_) (a' := ?_) #[true, true, true, true, true, true, true, true, true, true, true, true, true, true, true, true, true, true, true, true, true, true, true, true, true, true, true, true] rfl rfl (any_of HT_.out (by kernel_rfl)) (fun _ _ _ h => h) (Or.inl ⟨by rfl, ?_⟩) ?_ ?_
                                              rotate_left
                                              · intro w'
                                                go_simp
                                                with_reducible rfl
                                              rotate_left
                                              · simp only [Act.put, List.setIfInBounds_toArray, List.set_cons_zero, List.set_cons_succ, i64_w, i32_w]
                                                rfl
                                              refine done_ (done_of HT_.out (by kernel_rfl)) ?_
                                              clear hHeld HT_ HW_
                                              go_wp2
                                              go_meet
                                              case rel => exact ⟨rfl, (by repeat (first | (with_reducible first | exact HLB.out | apply below_alloc | apply pw_below_drewN | apply below_drew1) | exact HLB.out))⟩
                                      case rest =>
                                        as_aux_lemma =>
                                          obtain ⟨rfl, hbc⟩ := hcut
                                          clear HLB
                                          have HBC := Aside0.mk hbc
                                          have STEP : ∀ w8, Below wc.heap.size wc w8 → (∃ (j_1 : Int), Value.int IntKind.i64 (wrap64 (p + 1)) = Value.int IntKind.i64 j_1 ∧ 0 ≤ j_1 ∧ j_1 ≤ K ∧ Below w9.heap.size w9 w8) ∧ K - (intOf (Value.int IntKind.i64 (wrap64 (p + 1)))).toNat < K - (intOf (Value.int IntKind.i64 p)).toNat := by
                                            intro w8 h8
                                            have e := PA.out
                                            have eK := HKL.out
                                            rw [wrap_id (x := p + 1) (by unfold I64; omega)]
                                            exact ⟨⟨p + 1, rfl, by omega, by omega, below_step HB7.out (below_step HBC.out h8)⟩, by simp only [intOf]; omega⟩
                                          have STEP := Aside0.mk STEP
                                          clear hbc hW
                                          by_cases hp0 : p > 0
                                          · as_aux_lemma =>
                                              have p0b : decide (p > 0) = true := decide_eq_true hp0
                                              have p0c : decide (0 < p) = true := decide_eq_true hp0
                                              obtain ⟨m, hm⟩ : ∃ m, wrap64 (p - 1) = m := ⟨_, rfl⟩
                                              have hme : m = p - 1 := by
                                                have e := PA.out
                                                have eK := HKL.out
                                                rw [← hm, wrap_id (by unfold I64; omega)]
                                              have m0 : 0 ≤ m := by omega
                                              have m1 : m < (K : Int) := by have := PA.out; omega
                                              obtain ⟨ady, y, hy, ey, cY⟩ := at_i (Kd.C_below HA3.out (below_step HB7.out HBC.out)) m m0 m1
                                              cases ey
                                              have hyin : y ∈ inL L s.x s.y s.r := near_mem (mem_at hy)
                                              have hhy := in_has hyin
                                              have hIy := inL_wf HWF.out _ _ _ y hyin
                                              obtain ⟨qx, hqx⟩ : ∃ v, (atL L y).1 = v := ⟨_, rfl⟩
                                              obtain ⟨qy, hqy⟩ : ∃ v, (atL L y).2 = v := ⟨_, rfl⟩
                                              have hyxy : atL L y = (qx, qy) := by rw [← hqx, ← hqy]
                                              have hqw : I64 qx ∧ I64 qy := by have := atL_wf HWF.out y; rwa [hyxy] at this
                                              have hlt := near_lt HSR.out hy HXP.out (by have := PA.out; omega) hyxy hxy
                                              have p6 : (0 ≤ m) = True := eq_true m0
                                              have p7 : (m < (K : Int)) = True := eq_true m1
                                              have HY := Aside0.mk (And.intro m0 (And.intro m1 hy))
                                              have HLT := Aside0.mk hlt
                                              clear hp0 hme m0 m1 hy hyin hqx hqy hlt
                                              go_upto_region 47 with (go_at_call 14; (with_reducible refine (gs_at HG5.out ?s1 y hIy qx qy hyxy true hhy).mono ?_); (case s1 => exact (below_step HB57.out (below_step HBC.out (by repeat (first | (with_reducible first | exact Below.refl _ _ | apply below_alloc | apply pw_below_drewN | apply below_drew1) | exact Below.refl _ _))))); rintro e w10 ⟨rfl, hb10⟩; have HB10 := Aside0.mk (below_step HBC.out (below_step (w := wc) (by repeat (first | (with_reducible first | exact Below.refl _ _ | apply below_alloc | apply pw_below_drewN | apply below_drew1) | exact Below.refl _ _)) hb10)); have HBC10 := Aside0.mk (below_step (w := wc) (by repeat (first | (with_reducible first | exact Below.refl _ _ | apply below_alloc | apply pw_below_drewN | apply below_drew1) | exact Below.refl _ _)) hb10); clear hb10)
                                              obtain ⟨b25, hb25⟩ : ∃ x, w10.heap.size = x := ⟨_, rfl⟩
                                              have hF11 : Below wc.heap.size wc (w10.alloc (.cells #[.int .i64 qx, .int .i64 qy] 32)) ∧ (w10.alloc (.cells #[.int .i64 qx, .int .i64 qy] 32)).heap[b25]? = some (.cells #[.int .i64 qx, .int .i64 qy] 32) := ⟨below_step HBC10.out (by repeat (first | (with_reducible first | exact Below.refl _ _ | apply below_alloc | apply pw_below_drewN | apply below_drew1) | exact Below.refl _ _)), by rw [← hb25]; exact heap_alloc_new w10 _⟩
                                              rw [hb25]
                                              refine absW (fun w11 => Below wc.heap.size wc w11 ∧ w11.heap[b25]? = some (.cells #[.int .i64 qx, .int .i64 qy] 32)) hF11 ?_
                                              rintro w11 ⟨hb11, k25⟩
                                              have HB11 := Aside0.mk hb11
                                              obtain ⟨x2, x3, x4, _⟩ := bx4 BX5.out (below_step HB57.out (below_step HBC.out hb11))
                                              obtain ⟨y0, y1⟩ := bx_cells2 k25
                                              have hDQ := fun W => dist_calls s.x s.y qx qy z2 z3 hqw.1 hqw.2 W
                                              have hDP := fun W => dist_calls s.x s.y px py z2 z3 hpw.1 hpw.2 W
                                              obtain ⟨X, hX⟩ : ∃ v, dd s.x s.y qx qy = v := ⟨_, rfl⟩
                                              obtain ⟨Y, hY⟩ : ∃ v, dd s.x s.y px py = v := ⟨_, rfl⟩
                                              rw [hX] at hDQ HLT
                                              rw [hY] at hDP HLT
                                              clear hF11 hb11 k25 HB10 HBC10 hb25 cY hX hY
                                              go_upto_region 49 with (go_at_call 26; first
                                                | ((with_reducible refine (hDQ _).mono ?_); rintro e w12 ⟨rfl, hl⟩; have HB12 := Aside0.mk (below_step HB11.out (below_step (w := w11) (by repeat (first | (with_reducible first | exact Below.refl _ _ | apply below_alloc | apply pw_below_drewN | apply below_drew1) | exact Below.refl _ _)) hl.below)); obtain ⟨x2, x3, x4, _⟩ := bx4 BX5.out (below_step HB57.out (below_step HBC.out HB12.out)); obtain ⟨y2, y3⟩ := bx2 BX7.out (below_step HBC.out HB12.out); clear hl hDQ)
                                                | ((with_reducible refine (hDP _).mono ?_); rintro e w13 ⟨rfl, hl⟩; have HB13 := Aside0.mk (below_step HB12.out (below_step (w := w12) (by repeat (first | (with_reducible first | exact Below.refl _ _ | apply below_alloc | apply pw_below_drewN | apply below_drew1) | exact Below.refl _ _)) hl.below)); clear hl hDP))
                                              obtain ⟨ady2, y2', hy2, ey2, cY⟩ := at_i (Kd.C_below HA3.out (below_step HB7.out (below_step HBC.out HB13.out))) m HY.out.1 HY.out.2.1
                                              cases ey2
                                              cases (Option.some.inj (HY.out.2.2.symm.trans hy2))
                                              obtain ⟨adp2, xp2, hxp2, ep2, cX⟩ := at_i (Kd.C_below HA3.out (below_step HB7.out (below_step HBC.out HB13.out))) p PA.out.1 PA.out.2.2
                                              cases ep2
                                              cases (Option.some.inj (HXP.out.symm.trans hxp2))
                                              clear hy2 hxp2
                                              by_cases hXY : X < Y
                                              · as_aux_lemma =>
                                                  have c1 : decide (X > Y) = false := decide_eq_false (by omega)
                                                  have c2 : decide (Y < X) = false := decide_eq_false (by omega)
                                                  have c3 : (X == Y) = false := beq_eq_false_iff_ne.2 (by omega)
                                                  clear hXY
                                                  refine start_ (n := 20) (S := fun w' => w'.cell? (ada.add p.toNat) = some (.int .i64 x)) (ds := []) #[false, false, false, false, false, false, false, false, false, false, false, false, false, false, false, false, false, false, false, false] (by kernel_rfl) rfl rfl cX (fun hHeld => ?_)
                                                  refine with_tabW tab_f5_49 bits_f5_49 (fun HT_ HW_ => ?_)
                                                  refine pure_ (i := 0) (N := some 310) (v := ?_) (a' := ?_) #[true, false, false, false, false, false, false, false, false, false, false, false, false, false, false, false, false, false, false, false] rfl rfl (any_of HT_.out (by kernel_rfl)) (fun _ _ _ h => h) (Or.inl ⟨by rfl, ?_⟩) ?_ ?_
                                                  rotate_left
                                                  · intro w'
                                                    go_simp
                                                    with_reducible rfl
                                                  rotate_left
                                                  · simp only [Act.put, List.setIfInBounds_toArray, List.set_cons_zero, List.set_cons_succ, i64_w, i32_w]
                                                    rfl
                                                  refine pure_ (i := 1) (N := some 311) (v := ?_) (a' := ?_) #[true, true, false, false, false, false, false, false, false, false, false, false, false, false, false, false, false, false, false, false] rfl rfl (any_of HT_.out (by kernel_rfl)) (fun _ _ _ h => h) (Or.inl ⟨by rfl, ?_⟩) ?_ ?_
                                                  rotate_left
                                                  · intro w'
                                                    go_simp
                                                    with_reducible rfl
                                                  rotate_left
                                                  · simp only [Act.put, List.setIfInBounds_toArray, List.set_cons_zero, List.set_cons_succ, i64_w, i32_w]
                                                    rfl
                                                  refine pure_ (i := 2) (N := some 312) (v := ?_) (a' := ?_) #[true, true, true, false, false, false, false, false, false, false, false, false, false, false, false, false, false, false, false, false] rfl rfl (any_of HT_.out (by kernel_rfl)) (fun _ _ _ h => h) (Or.inl ⟨by rfl, ?_⟩) ?_ ?_
                                                  rotate_left
                                                  · intro w'
                                                    go_simp
                                                    with_reducible rfl
                                                  rotate_left
                                                  · simp only [Act.put, List.setIfInBounds_toArray, List.set_cons_zero, List.set_cons_succ, i64_w, i32_w]
                                                    rfl
                                                  refine pure_ (i := 3) (N := some 313) (v := ?_) (a' := ?_) #[true, true, true, true, false, false, false, false, false, false, false, false, false, false, false, false, false, false, false, false] rfl rfl (any_of HT_.out (by kernel_rfl)) (fun _ _ _ h => h) (Or.inl ⟨by rfl, ?_⟩) ?_ ?_
                                                  rotate_left
                                                  · intro w'
                                                    go_simp
                                                    with_reducible rfl
                                                  rotate_left
                                                  · simp only [Act.put, List.setIfInBounds_toArray, List.set_cons_zero, List.set_cons_succ, i64_w, i32_w]
                                                    rfl
                                                  refine pure_ (i := 4) (N := some 314) (v := ?_) (a' := ?_) #[true, true, true, true, true, false, false, false, false, false, false, false, false, false, false, false, false, false, false, false] rfl rfl (any_of HT_.out (by kernel_rfl)) (fun _ _ _ h => h) (Or.inl ⟨by rfl, ?_⟩) ?_ ?_
                                                  rotate_left
                                                  · intro w'
                                                    go_simp
                                                    with_reducible rfl
                                                  rotate_left
                                                  · simp only [Act.put, List.setIfInBounds_toArray, List.set_cons_zero, List.set_cons_succ, i64_w, i32_w]
                                                    rfl
                                                  refine pure_ (i := 5) (N := some 315) (v := ?_) (a' := ?_) #[true, true, true, true, true, true, false, false, false, false, false, false, false, false, false, false, false, false, false, false] rfl rfl (any_of HT_.out (by kernel_rfl)) (fun _ _ _ h => h) (Or.inl ⟨by rfl, ?_⟩) ?_ ?_
                                                  rotate_left
                                                  · intro w'
                                                    go_simp
                                                    with_reducible rfl
                                                  rotate_left
                                                  · simp only [Act.put, List.setIfInBounds_toArray, List.set_cons_zero, List.set_cons_succ, i64_w, i32_w]
                                                    rfl
                                                  refine pure_ (i := 6) (N := some 316) (v := ?_) (a' := ?_) #[true, true, true, true, true, true, true, false, false, false, false, false, false, false, false, false, false, false, false, false] rfl rfl (any_of HT_.out (by kernel_rfl)) (fun _ _ _ h => h) (Or.inl ⟨by rfl, ?_⟩) ?_ ?_
                                                  rotate_left
                                                  · intro w'
                                                    go_simp
                                                    with_reducible rfl
                                                  rotate_left
                                                  · simp only [Act.put, List.setIfInBounds_toArray, List.set_cons_zero, List.set_cons_succ, i64_w, i32_w]
                                                    rfl
                                                  refine pure_ (i := 7) (N := some 317) (v := ?_) (a' := ?_) #[true, true, true, true, true, true, true, true, false, false, false, false, false, false, false, false, false, false, false, false] rfl rfl (any_of HT_.out (by kernel_rfl)) (fun _ _ _ h => h) (Or.inl ⟨by rfl, ?_⟩) ?_ ?_
                                                  rotate_left
                                                  · intro w'
                                                    go_simp
                                                    with_reducible rfl
                                                  rotate_left
                                                  · simp only [Act.put, List.setIfInBounds_toArray, List.set_cons_zero, List.set_cons_succ, i64_w, i32_w]
                                                    rfl
                                                  refine pure_ (i := 8) (N := some 318) (v := undef) (a' := ?_) #[true, true, true, true, true, true, true, true, true, false, false, false, false, false, false, false, false, false, false, false] rfl rfl (any_of HT_.out (by kernel_rfl)) (fun _ _ _ h => h) (Or.inr ⟨by rfl, rfl⟩) ?_ ?_
                                                  rotate_left
                                                  · simp only [Act.put, List.setIfInBounds_toArray, List.set_cons_zero, List.set_cons_succ, i64_w, i32_w]
                                                    rfl
                                                  refine pure_ (i := 9) (N := some 319) (v := undef) (a' := ?_) #[true, true, true, true, true, true, true, true, true, true, false, false, false, false, false, false, false, false, false, false] rfl rfl (any_of HT_.out (by kernel_rfl)) (fun _ _ _ h => h) (Or.inr ⟨by rfl, rfl⟩) ?_ ?_
                                                  rotate_left
                                                  · simp only [Act.put, List.setIfInBounds_toArray, List.set_cons_zero, List.set_cons_succ, i64_w, i32_w]
                                                    rfl
                                                  refine pure_ (i := 10) (N := some 320) (v := undef) (a' := ?_) #[true, true, true, true, true, true, true, true, true, true, true, false, false, false, false, false, false, false, false, false] rfl rfl (any_of HT_.out (by kernel_rfl)) (fun _ _ _ h => h) (Or.inr ⟨by rfl, rfl⟩) ?_ ?_
                                                  rotate_left
                                                  · simp only [Act.put, List.setIfInBounds_toArray, List.set_cons_zero, List.set_cons_succ, i64_w, i32_w]
                                                    rfl
                                                  refine pure_ (i := 11) (N := some 321) (v := undef) (a' := ?_) #[true, true, true, true, true, true, true, true, true, true, true, true, false, false, false, false, false, false, false, false] rfl rfl (any_of HT_.out (by kernel_rfl)) (fun _ _ _ h => h) (Or.inr ⟨by rfl, rfl⟩) ?_ ?_
                                                  rotate_left
                                                  · simp only [Act.put, List.setIfInBounds_toArray, List.set_cons_zero, List.set_cons_succ, i64_w, i32_w]
                                                    rfl
                                                  refine pure_ (i := 12) (N := some 322) (v := undef) (a' := ?_) #[true, true, true, true, true, true, true, true, true, true, true, true, true, false, false, false, false, false, false, false] rfl rfl (any_of HT_.out (by kernel_rfl)) (fun _ _ _ h => h) (Or.inr ⟨by rfl, rfl⟩) ?_ ?_
                                                  rotate_left
                                                  · simp only [Act.put, List.setIfInBounds_toArray, List.set_cons_zero, List.set_cons_succ, i64_w, i32_w]
                                                    rfl
                                                  refine pure_ (i := 13) (N := some 323) (v := undef) (a' := ?_) #[true, true, true, true, true, true, true, true, true, true, true, true, true, true, false, false, false, false, false, false] rfl rfl (any_of HT_.out (by kernel_rfl)) (fun _ _ _ h => h) (Or.inr ⟨by rfl, rfl⟩) ?_ ?_
                                                  rotate_left
                                                  · simp only [Act.put, List.setIfInBounds_toArray, List.set_cons_zero, List.set_cons_succ, i64_w, i32_w]
                                                    rfl
                                                  refine pure_ (i := 14) (N := some 324) (v := undef) (a' := ?_) #[true, true, true, true, true, true, true, true, true, true, true, true, true, true, true, false, false, false, false, false] rfl rfl (any_of HT_.out (by kernel_rfl)) (fun _ _ _ h => h) (Or.inr ⟨by rfl, rfl⟩) ?_ ?_
                                                  rotate_left
                                                  · simp only [Act.put, List.setIfInBounds_toArray, List.set_cons_zero, List.set_cons_succ, i64_w, i32_w]
                                                    rfl
                                                  refine pure_ (i := 15) (N := some 325) (v := undef) (a' := ?_) #[true, true, true, true, true, true, true, true, true, true, true, true, true, true, true, true, false, false, false, false] rfl rfl (any_of HT_.out (by kernel_rfl)) (fun _ _ _ h => h) (Or.inr ⟨by rfl, rfl⟩) ?_ ?_
                                                  rotate_left
                                                  · simp only [Act.put, List.setIfInBounds_toArray, List.set_cons_zero, List.set_cons_succ, i64_w, i32_w]
                                                    rfl
                                                  refine pure_ (i := 16) (N := some 326) (v := undef) (a' := ?_) #[true, true, true, true, true, true, true, true, true, true, true, true, true, true, true, true, true, false, false, false] rfl rfl (any_of HT_.out (by kernel_rfl)) (fun _ _ _ h => h) (Or.inr ⟨by rfl, rfl⟩) ?_ ?_
                                                  rotate_left
                                                  · simp only [Act.put, List.setIfInBounds_toArray, List.set_cons_zero, List.set_cons_succ, i64_w, i32_w]
                                                    rfl
                                                  refine pure_ (i := 17) (N := some 327) (v := undef) (a' := ?_) #[true, true, true, true, true, true, true, true, true, true, true, true, true, true, true, true, true, true, false, false] rfl rfl (any_of HT_.out (by kernel_rfl)) (fun _ _ _ h => h) (Or.inr ⟨by rfl, rfl⟩) ?_ ?_
                                                  rotate_left
                                                  · simp only [Act.put, List.setIfInBounds_toArray, List.set_cons_zero, List.set_cons_succ, i64_w, i32_w]
                                                    rfl
                                                  refine pure_ (i := 18) (N := some 328) (v := ?_) (a' := ?_) #[true, true, true, true, true, true, true, true, true, true, true, true, true, true, true, true, true, true, true, false] rfl rfl (any_of HT_.out (by kernel_rfl)) (fun _ _ _ h => h) (Or.inl ⟨by rfl, ?_⟩) ?_ ?_
                                                  rotate_left
                                                  · intro w'
                                                    go_simp
                                                    with_reducible rfl
                                                  rotate_left
                                                  · simp only [Act.put, List.setIfInBounds_toArray, List.set_cons_zero, List.set_cons_succ, i64_w, i32_w]
                                                    rfl
                                                  refine pure_ (i := 19) (N := some 329) (v := ?_) (a' := ?_) #[true, true, true, true, true, true, true, true, true, true, true, true, true, true, true, true, true, true, true, true] rfl rfl (any_of HT_.out (by kernel_rfl)) (fun _ _ _ h => h) (Or.inl ⟨by rfl, ?_⟩) ?_ ?_
                                                  rotate_left
                                                  · intro w'
                                                    go_simp
                                                    with_reducible rfl
                                                  rotate_left
                                                  · simp only [Act.put, List.setIfInBounds_toArray, List.set_cons_zero, List.set_cons_succ, i64_w, i32_w]
                                                    rfl
                                                  refine done_ (done_of HT_.out (by kernel_rfl)) ?_
                                                  clear hHeld HT_ HW_
                                                  go_wp2
                                                  exact STEP.out _ (below_step HB13.out (by repeat (first | (with_reducible first | exact Below.refl _ _ | apply below_alloc | apply pw_below_drewN | apply below_drew1) | exact Below.refl _ _)))
                                              · as_aux_lemma =>
                                                  have hlt := HLT.out
                                                  have c1 : decide (X > Y) = false := decide_eq_false (by omega)
                                                  have c2 : decide (Y < X) = false := decide_eq_false (by omega)
                                                  have c3 : (X == Y) = true := beq_iff_eq.2 (by omega)
                                                  have o1 : decide (y ≥ x) = false := decide_eq_false (by omega)
                                                  have o2 : decide (x ≤ y) = false := decide_eq_false (by omega)
                                                  clear hXY hlt
                                                  refine start_ (n := 20) (S := fun w' => w'.cell? (ada.add m.toNat) = some (.int .i64 y) ∧ w'.cell? (ada.add p.toNat) = some (.int .i64 x)) (ds := []) #[false, false, false, false, false, false, false, false, false, false, false, false, false, false, false, false, false, false, false, false] (by kernel_rfl) rfl rfl ⟨cY, cX⟩ (fun hHeld => ?_)
                                                  refine with_tabW tab_f5_49 bits_f5_49 (fun HT_ HW_ => ?_)
                                                  refine pure_ (i := 0) (N := some 310) (v := ?_) (a' := ?_) #[true, false, false, false, false, false, false, false, false, false, false, false, false, false, false, false, false, false, false, false] rfl rfl (any_of HT_.out (by kernel_rfl)) (fun _ _ _ h => h) (Or.inl ⟨by rfl, ?_⟩) ?_ ?_
                                                  rotate_left
                                                  · intro w'
                                                    go_simp
                                                    with_reducible rfl
                                                  rotate_left
                                                  · simp only [Act.put, List.setIfInBounds_toArray, List.set_cons_zero, List.set_cons_succ, i64_w, i32_w]
                                                    rfl
                                                  refine pure_ (i := 1) (N := some 311) (v := ?_) (a' := ?_) #[true, true, false, false, false, false, false, false, false, false, false, false, false, false, false, false, false, false, false, false] rfl rfl (any_of HT_.out (by kernel_rfl)) (fun _ _ _ h => h) (Or.inl ⟨by rfl, ?_⟩) ?_ ?_
                                                  rotate_left
                                                  · intro w'
                                                    go_simp
                                                    with_reducible rfl
                                                  rotate_left
                                                  · simp only [Act.put, List.setIfInBounds_toArray, List.set_cons_zero, List.set_cons_succ, i64_w, i32_w]
                                                    rfl
                                                  refine pure_ (i := 2) (N := some 312) (v := ?_) (a' := ?_) #[true, true, true, false, false, false, false, false, false, false, false, false, false, false, false, false, false, false, false, false] rfl rfl (any_of HT_.out (by kernel_rfl)) (fun _ _ _ h => h) (Or.inl ⟨by rfl, ?_⟩) ?_ ?_
                                                  rotate_left
                                                  · intro w'
                                                    go_simp
                                                    with_reducible rfl
                                                  rotate_left
                                                  · simp only [Act.put, List.setIfInBounds_toArray, List.set_cons_zero, List.set_cons_succ, i64_w, i32_w]
                                                    rfl
                                                  refine pure_ (i := 3) (N := some 313) (v := ?_) (a' := ?_) #[true, true, true, true, false, false, false, false, false, false, false, false, false, false, false, false, false, false, false, false] rfl rfl (any_of HT_.out (by kernel_rfl)) (fun _ _ _ h => h) (Or.inl ⟨by rfl, ?_⟩) ?_ ?_
                                                  rotate_left
                                                  · intro w'
                                                    go_simp
                                                    with_reducible rfl
                                                  rotate_left
                                                  · simp only [Act.put, List.setIfInBounds_toArray, List.set_cons_zero, List.set_cons_succ, i64_w, i32_w]
                                                    rfl
                                                  refine pure_ (i := 4) (N := some 314) (v := ?_) (a' := ?_) #[true, true, true, true, true, false, false, false, false, false, false, false, false, false, false, false, false, false, false, false] rfl rfl (any_of HT_.out (by kernel_rfl)) (fun _ _ _ h => h) (Or.inl ⟨by rfl, ?_⟩) ?_ ?_
                                                  rotate_left
                                                  · intro w'
                                                    go_simp
                                                    with_reducible rfl
                                                  rotate_left
                                                  · simp only [Act.put, List.setIfInBounds_toArray, List.set_cons_zero, List.set_cons_succ, i64_w, i32_w]
                                                    rfl
                                                  refine pure_ (i := 5) (N := some 315) (v := ?_) (a' := ?_) #[true, true, true, true, true, true, false, false, false, false, false, false, false, false, false, false, false, false, false, false] rfl rfl (any_of HT_.out (by kernel_rfl)) (fun _ _ _ h => h) (Or.inl ⟨by rfl, ?_⟩) ?_ ?_
                                                  rotate_left
                                                  · intro w'
                                                    go_simp
                                                    with_reducible rfl
                                                  rotate_left
                                                  · simp only [Act.put, List.setIfInBounds_toArray, List.set_cons_zero, List.set_cons_succ, i64_w, i32_w]
                                                    rfl
                                                  refine pure_ (i := 6) (N := some 316) (v := ?_) (a' := ?_) #[true, true, true, true, true, true, true, false, false, false, false, false, false, false, false, false, false, false, false, false] rfl rfl (any_of HT_.out (by kernel_rfl)) (fun _ _ _ h => h) (Or.inl ⟨by rfl, ?_⟩) ?_ ?_
                                                  rotate_left
                                                  · intro w'
                                                    go_simp
                                                    with_reducible rfl
                                                  rotate_left
                                                  · simp only [Act.put, List.setIfInBounds_toArray, List.set_cons_zero, List.set_cons_succ, i64_w, i32_w]
                                                    rfl
                                                  refine pure_ (i := 7) (N := some 317) (v := ?_) (a' := ?_) #[true, true, true, true, true, true, true, true, false, false, false, false, false, false, false, false, false, false, false, false] rfl rfl (any_of HT_.out (by kernel_rfl)) (fun _ _ _ h => h) (Or.inl ⟨by rfl, ?_⟩) ?_ ?_
                                                  rotate_left
                                                  · intro w'
                                                    go_simp
                                                    with_reducible rfl
                                                  rotate_left
                                                  · simp only [Act.put, List.setIfInBounds_toArray, List.set_cons_zero, List.set_cons_succ, i64_w, i32_w]
                                                    rfl
                                                  refine pure_ (i := 8) (N := some 318) (v := ?_) (a' := ?_) #[true, true, true, true, true, true, true, true, true, false, false, false, false, false, false, false, false, false, false, false] rfl rfl (any_of HT_.out (by kernel_rfl)) (fun _ _ _ h => h) (Or.inl ⟨by rfl, ?_⟩) ?_ ?_
                                                  rotate_left
                                                  · intro w'
                                                    go_simp
                                                    with_reducible rfl
                                                  rotate_left
                                                  · simp only [Act.put, List.setIfInBounds_toArray, List.set_cons_zero, List.set_cons_succ, i64_w, i32_w]
                                                    rfl
                                                  refine pure_ (i := 9) (N := some 319) (v := ?_) (a' := ?_) #[true, true, true, true, true, true, true, true, true, true, false, false, false, false, false, false, false, false, false, false] rfl rfl (any_of HT_.out (by kernel_rfl)) (fun _ _ _ h => h) (Or.inl ⟨by rfl, ?_⟩) ?_ ?_
                                                  rotate_left
                                                  · intro w'
                                                    go_simp
                                                    with_reducible rfl
                                                  rotate_left
                                                  · simp only [Act.put, List.setIfInBounds_toArray, List.set_cons_zero, List.set_cons_succ, i64_w, i32_w]
                                                    rfl
                                                  refine pure_ (i := 10) (N := some 320) (v := ?_) (a' := ?_) #[true, true, true, true, true, true, true, true, true, true, true, false, false, false, false, false, false, false, false, false] rfl rfl (any_of HT_.out (by kernel_rfl)) (fun _ _ _ h => h) (Or.inl ⟨by rfl, ?_⟩) ?_ ?_
                                                  rotate_left
                                                  · intro w'
                                                    go_simp
                                                    with_reducible rfl
                                                  rotate_left
                                                  · simp only [Act.put, List.setIfInBounds_toArray, List.set_cons_zero, List.set_cons_succ, i64_w, i32_w]
                                                    rfl
                                                  refine pure_ (i := 11) (N := some 321) (v := ?_) (a' := ?_) #[true, true, true, true, true, true, true, true, true, true, true, true, false, false, false, false, false, false, false, false] rfl rfl (any_of HT_.out (by kernel_rfl)) (fun _ _ _ h => h) (Or.inl ⟨by rfl, ?_⟩) ?_ ?_
                                                  rotate_left
                                                  · intro w'
                                                    go_simp
                                                    with_reducible rfl
                                                  rotate_left
                                                  · simp only [Act.put, List.setIfInBounds_toArray, List.set_cons_zero, List.set_cons_succ, i64_w, i32_w]
                                                    rfl
                                                  refine take_ (i := 12) (N := some 322) (v := ?_) (a' := ?_) #[true, true, true, true, true, true, true, true, true, true, true, true, true, false, false, false, false, false, false, false] rfl rfl (take_ofW HT_.out HW_.out (by kernel_rfl)) (fun _ _ _ h => h) (Or.inl ⟨by rfl, ?_⟩) hHeld ?_ ?_
                                                  rotate_left
                                                  · rintro w' ⟨s1, s2⟩
                                                    go_simp
                                                    with_reducible rfl
                                                  rotate_left
                                                  · simp only [Act.put, List.setIfInBounds_toArray, List.set_cons_zero, List.set_cons_succ, i64_w, i32_w]
                                                    rfl
                                                  refine pure_ (i := 13) (N := some 323) (v := ?_) (a' := ?_) #[true, true, true, true, true, true, true, true, true, true, true, true, true, true, false, false, false, false, false, false] rfl rfl (any_of HT_.out (by kernel_rfl)) (fun _ _ _ h => h) (Or.inl ⟨by rfl, ?_⟩) ?_ ?_
                                                  rotate_left
                                                  · intro w'
                                                    go_simp
                                                    with_reducible rfl
                                                  rotate_left
                                                  · simp only [Act.put, List.setIfInBounds_toArray, List.set_cons_zero, List.set_cons_succ, i64_w, i32_w]
                                                    rfl
                                                  refine pure_ (i := 14) (N := some 324) (v := ?_) (a' := ?_) #[true, true, true, true, true, true, true, true, true, true, true, true, true, true, true, false, false, false, false, false] rfl rfl (any_of HT_.out (by kernel_rfl)) (fun _ _ _ h => h) (Or.inl ⟨by rfl, ?_⟩) ?_ ?_
                                                  rotate_left
                                                  · intro w'
                                                    go_simp
                                                    with_reducible rfl
                                                  rotate_left
                                                  · simp only [Act.put, List.setIfInBounds_toArray, List.set_cons_zero, List.set_cons_succ, i64_w, i32_w]
                                                    rfl
                                                  refine pure_ (i := 15) (N := some 325) (v := ?_) (a' := ?_) #[true, true, true, true, true, true, true, true, true, true, true, true, true, true, true, true, false, false, false, false] rfl rfl (any_of HT_.out (by kernel_rfl)) (fun _ _ _ h => h) (Or.inl ⟨by rfl, ?_⟩) ?_ ?_
                                                  rotate_left
                                                  · intro w'
                                                    go_simp
                                                    with_reducible rfl
                                                  rotate_left
                                                  · simp only [Act.put, List.setIfInBounds_toArray, List.set_cons_zero, List.set_cons_succ, i64_w, i32_w]
                                                    rfl
                                                  refine take_ (i := 16) (N := some 326) (v := ?_) (a' := ?_) #[true, true, true, true, true, true, true, true, true, true, true, true, true, true, true, true, true, false, false, false] rfl rfl (take_ofW HT_.out HW_.out (by kernel_rfl)) (fun _ _ _ h => h) (Or.inl ⟨by rfl, ?_⟩) hHeld ?_ ?_
                                                  rotate_left
                                                  · rintro w' ⟨s1, s2⟩
                                                    go_simp
                                                    with_reducible rfl
                                                  rotate_left
                                                  · simp only [Act.put, List.setIfInBounds_toArray, List.set_cons_zero, List.set_cons_succ, i64_w, i32_w]
                                                    rfl
                                                  refine pure_ (i := 17) (N := some 327) (v := ?_) (a' := ?_) #[true, true, true, true, true, true, true, true, true, true, true, true, true, true, true, true, true, true, false, false] rfl rfl (any_of HT_.out (by kernel_rfl)) (fun _ _ _ h => h) (Or.inl ⟨by rfl, ?_⟩) ?_ ?_
                                                  rotate_left
                                                  · intro w'
                                                    go_simp
                                                    with_reducible rfl
                                                  rotate_left
                                                  · simp only [Act.put, List.setIfInBounds_toArray, List.set_cons_zero, List.set_cons_succ, i64_w, i32_w]
                                                    rfl
                                                  refine pure_ (i := 18) (N := some 328) (v := ?_) (a' := ?_) #[true, true, true, true, true, true, true, true, true, true, true, true, true, true, true, true, true, true, true, false] rfl rfl (any_of HT_.out (by kernel_rfl)) (fun _ _ _ h => h) (Or.inl ⟨by rfl, ?_⟩) ?_ ?_
                                                  rotate_left
                                                  · intro w'
                                                    go_simp
                                                    with_reducible rfl
                                                  rotate_left
                                                  · simp only [Act.put, List.setIfInBounds_toArray, List.set_cons_zero, List.set_cons_succ, i64_w, i32_w]
                                                    rfl
                                                  refine pure_ (i := 19) (N := some 329) (v := ?_) (a' := ?_) #[true, true, true, true, true, true, true, true, true, true, true, true, true, true, true, true, true, true, true, true] rfl rfl (any_of HT_.out (by kernel_rfl)) (fun _ _ _ h => h) (Or.inl ⟨by rfl, ?_⟩) ?_ ?_
                                                  rotate_left
                                                  · intro w'
                                                    go_simp
                                                    with_reducible rfl
                                                  rotate_left
                                                  · simp only [Act.put, List.setIfInBounds_toArray, List.set_cons_zero, List.set_cons_succ, i64_w, i32_w]
                                                    rfl
                                                  refine done_ (done_of HT_.out (by kernel_rfl)) ?_
                                                  clear hHeld HT_ HW_
                                                  go_wp2
                                                  exact STEP.out _ (below_step HB13.out (by repeat (first | (with_reducible first | exact Below.refl _ _ | apply below_alloc | apply pw_below_drewN | apply below_drew1) | exact Below.refl _ _)))
                                          · have p0b : decide (p > 0) = false := decide_eq_false hp0
                                            have p0c : decide (0 < p) = false := decide_eq_false hp0
                                            clear hp0
                                            go_wp2
                                            exact STEP.out _ (by repeat (first | (with_reducible first | exact Below.refl _ _ | apply below_alloc | apply pw_below_drewN | apply below_drew1) | exact Below.refl _ _))
                                  · have pb : decide (p < (K : Int)) = false := decide_eq_false hp
                                    clear hbp e0 e1 hp
                                    go_wp2
                                    have e := KA.out
                                    rw [wrap_id (x := k + 1) (by unfold I64; omega)]
                                    exact ⟨⟨k + 1, rfl, by omega, by omega, by omega, below_step HBP5.out (below_step HB9.out (below_step HBP9.out (by repeat (first | (with_reducible first | exact Below.refl _ _ | apply below_alloc | apply pw_below_drewN | apply below_drew1) | exact Below.refl _ _))))⟩, by simp only [intOf]; omega⟩
            · have kb : decide (k < (l.length : Int)) = true := decide_eq_true hk
              have kb3 : decide (k < 40) = false := decide_eq_false hk3
              clear hk hk3 h0 h1 h3
              go_wp2
              go_ret
              exact ⟨rfl, below_step HBW.out (by repeat (first | (with_reducible first | exact Below.refl _ _ | apply below_alloc | apply pw_below_drewN | apply below_drew1) | exact Below.refl _ _))⟩
          · have kb : decide (k < (l.length : Int)) = false := decide_eq_false hk
            clear hk h0 h1 h3
            go_wp2
            go_ret
            exact ⟨rfl, below_step HBW.out (by repeat (first | (with_reducible first | exact Below.refl _ _ | apply below_alloc | apply pw_below_drewN | apply below_drew1) | exact Below.refl _ _))⟩
end Go.Proofs.Ytggmfmlfkhcbdaa.Gr
