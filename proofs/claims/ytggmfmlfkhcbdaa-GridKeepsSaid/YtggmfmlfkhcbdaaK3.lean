/- The walk of GridKeeps. -/
import Derived.Test.YtggmfmlfkhcbdaaK2
namespace Go.Proofs.Ytggmfmlfkhcbdaa.Gr
open Go Go.RowKit Go.Maps Go.Proofs.YtggmfmlfkhcbdaaW.PrintWords Go.Proofs.YtggmfmlfkhcbdaaW.PrintLast Go.Proofs.YtggmfmlfkhcbdaaW.PrintMore
set_option linter.unusedVariables false
set_option linter.unusedSimpArgs false

def T_6_12 : Bool × List (List Nat × List Nat) := (true, [([], []), ([], []), ([1], [1]), ([], []), ([3], [3]), ([0, 2, 4], [0, 2, 4]), ([], []), ([], []), ([7], [7]), ([], []), ([9], [9]), ([], []), ([11], [11]), ([6, 8, 10, 12, 5], [6, 8, 10, 12]), ([], []), ([], []), ([15], [15]), ([], []), ([17], [17]), ([14, 16, 18, 13], [14, 16, 18]), ([], []), ([], []), ([21], [21]), ([], []), ([23], [23]), ([], []), ([25], [25]), ([20, 22, 24, 26, 19], [20, 22, 24, 26]), ([5, 13, 19, 27], [5, 13, 19, 27]), ([], []), ([29, 28, 27, 0, 1, 2, 3, 4, 5, 6, 7, 8, 9, 10, 11, 12, 13, 14, 15, 16, 17, 18, 19, 20, 21, 22, 23, 24, 25, 26, 27, 28, 29], [28, 29])])
def B_6_12 : List Nat := [0, 0, 2, 0, 8, 31, 0, 0, 128, 0, 512, 0, 2048, 8191, 0, 0, 32768, 0, 131072, 524287, 0, 0, 2097152, 0, 8388608, 0, 33554432, 134217727, 268435455, 0, 1073741823]
theorem tab_f6_12 : rtab .any (opsOf Try.f6 12) = T_6_12 := by kernel_rfl
theorem bits_f6_12 : waitsOk T_6_12.2 B_6_12 = true := by kernel_rfl
section
variable {w w0 : World} {gb : Nat} {F : Nat → Prop} {side : Int} {n : Nat} {L : List Th}
theorem gs_near_w (h : GS w0 gb F side n L) (hb : Below w0.heap.size w0 w) (hn : n ≤ 1000000) {ax ay r : Int} (hax : I64 ax) (hay : I64 ay) (hr : I64 r) (xs : List Int) (hx : inL L ax ay r = xs) (m : Nat) (hm : xs.length = m) :
    Calls Try.prog 17 #[.pointer (some ⟨gb, 0, none⟩), .agg #[.int .i64 ax, .int .i64 ay], .int .i64 r] w fun e w' => ∃ A c, e = .returned (.slice A m c) ∧ Rw w' w.heap.size (.slice A m c) xs ∧ Below w.heap.size w w' := by
  subst hm
  refine (gs_near h hb hn hax hay hr xs hx).mono ?_
  rintro e w' ⟨A, c, rfl, hR, hc, hb⟩
  exact ⟨A, c, rfl, Rw.of_R hR, hb⟩
theorem gs_nearest_w (h : GS w0 gb F side n L) (hb : Below w0.heap.size w0 w) (hn : n ≤ 1000000) {ax ay r N : Int} (hax : I64 ax) (hay : I64 ay) (hr : I64 r) (xs : List Int) (hx : (nearS L ax ay r).take N.toNat = xs) (m : Nat) (hm : xs.length = m) :
    Calls Try.prog 19 #[.pointer (some ⟨gb, 0, none⟩), .agg #[.int .i64 ax, .int .i64 ay], .int .i64 r, .int .i64 N] w fun e w' => ∃ A, e = .returned (.slice A m m) ∧ Rw w' w.heap.size (.slice A m m) xs ∧ Below w.heap.size w w' := by
  refine (gs_nearest h hb hn hax hay hr xs hx).mono ?_
  rintro e w' ⟨A, c, ys, rfl, hR, _, hb⟩
  have hl : m ≤ (nearS L ax ay r).length := by rw [← hm, ← hx, List.length_take]; exact Nat.min_le_right _ _
  have e2 : List.take m (nearS L ax ay r) = xs := by
    rw [← hx]
    by_cases hN : N.toNat ≤ (nearS L ax ay r).length
    · have : m = N.toNat := by rw [← hm, ← hx, List.length_take]; omega
      rw [this]
    · have : m = (nearS L ax ay r).length := by rw [← hm, ← hx, List.length_take]; omega
      rw [this, List.take_length, List.take_of_length_le (by omega)]
  have := Rw.of_cut hR hl
  rw [e2] at this
  exact ⟨A, by rw [hm], this, hb⟩
end
/-- The grid and what is kept, between two steps. -/
def KP (w wr : World) (g1 : Nat) (side : Int) (n : Nat) (av mv : Value) : Prop := ∃ F L U AS MS, GS wr g1 F side n L ∧ (∀ k, F k → w.heap.size ≤ k) ∧ Keep wr U w.heap.size av mv AS MS ∧ AS.length = MS.length ∧ AS.length ≤ 2 * n ∧ (∀ k, F k → ¬ U k) ∧ Below w.heap.size w wr
/-- The four answers of a step. -/
structure Four (wN wc : World) (b11 : Nat) (N : List Sl) (xs ms : List Int) : Prop where
  box : wc.heap[b11]? = some (.cells (N.map Sl.val).toArray 51 (0, 0))
  lo : wN.heap.size ≤ b11
  four : N.length = 4
  len : ∀ (i : Nat) s, N[i]? = some s → s.n ≤ s.c ∧ s.n ≤ 1000000
  pend : Pend wc (fun k => k < wN.heap.size) wN.heap.size 0 N (fun i => if i % 2 = 0 then xs else ms)
  below : Below wN.heap.size wN wc
theorem four_mk {wN wc : World} {b11 : Nat} {xs ms : List Int} {A0 A1 A2 A3 : Option Addr} {K M c0 c2 : Nat} (hbox : wc.heap[b11]? = some (.cells #[.slice A0 K c0, .slice A1 M M, .slice A2 K c2, .slice A3 M M] 51 (0, 0))) (hlo : wN.heap.size ≤ b11)
    (hK : K ≤ 1000000) (hM : M ≤ 1000000)
    (r0 : Rw wc wN.heap.size (.slice A0 K c0) xs) (r1 : Rw wc wN.heap.size (.slice A1 M M) ms) (r2 : Rw wc wN.heap.size (.slice A2 K c2) xs) (r3 : Rw wc wN.heap.size (.slice A3 M M) ms)
(d01 : ∀ k, ownA A0 = some k → ∀ k', ownA A1 = some k' → k < k') (d02 : ∀ k, ownA A0 = some k → ∀ k', ownA A2 = some k' → k < k') (d12 : ∀ k, ownA A1 = some k → ∀ k', ownA A2 = some k' → k < k')
    (d03 : ∀ k, ownA A0 = some k → ∀ k', ownA A3 = some k' → k < k') (d13 : ∀ k, ownA A1 = some k → ∀ k', ownA A3 = some k' → k < k') (d23 : ∀ k, ownA A2 = some k → ∀ k', ownA A3 = some k' → k < k') (hb : Below wN.heap.size wN wc) : Four wN wc b11 [⟨A0, K, c0⟩, ⟨A1, M, M⟩, ⟨A2, K, c2⟩, ⟨A3, M, M⟩] xs ms where
  box := hbox
  lo := hlo
  four := rfl
  len := by
    intro i s hs
    match i, hs with
    | 0, hs => simp at hs; subst hs; exact ⟨r0.len.2, hK⟩
    | 1, hs => simp at hs; subst hs; exact ⟨Nat.le_refl _, hM⟩
    | 2, hs => simp at hs; subst hs; exact ⟨r2.len.2, hK⟩
    | 3, hs => simp at hs; subst hs; exact ⟨Nat.le_refl _, hM⟩
  pend := {
    row := by
      intro i s _ hs
      match i, hs with
      | 0, hs => simp at hs; subst hs; exact r0
      | 1, hs => simp at hs; subst hs; exact r1
      | 2, hs => simp at hs; subst hs; exact r2
      | 3, hs => simp at hs; subst hs; exact r3
    un := by
      intro i s k _ hs hk hu
      match i, hs with
      | 0, hs => simp at hs; subst hs; have := (r0.lt k (by rw [own_A]; exact hk)).2.1; omega
      | 1, hs => simp at hs; subst hs; have := (r1.lt k (by rw [own_A]; exact hk)).2.1; omega
      | 2, hs => simp at hs; subst hs; have := (r2.lt k (by rw [own_A]; exact hk)).2.1; omega
      | 3, hs => simp at hs; subst hs; have := (r3.lt k (by rw [own_A]; exact hk)).2.1; omega
    pw := by
      have key : ∀ (i j : Nat) s t k, i < j → [(⟨A0, K, c0⟩ : Sl), ⟨A1, M, M⟩, ⟨A2, K, c2⟩, ⟨A3, M, M⟩][i]? = some s → [(⟨A0, K, c0⟩ : Sl), ⟨A1, M, M⟩, ⟨A2, K, c2⟩, ⟨A3, M, M⟩][j]? = some t → ownA s.A = some k → ownA t.A = some k → False := by
        intro i j s t k hij hs ht hk hk2
        match j, ht with
        | 0, _ => omega
        | 1, ht =>
          match i, hs with
          | 0, hs => simp at hs ht; subst hs; subst ht; exact Nat.lt_irrefl _ (d01 k hk k hk2)
          | i + 1, _ => omega
        | 2, ht =>
          match i, hs with
          | 0, hs => simp at hs ht; subst hs; subst ht; exact Nat.lt_irrefl _ (d02 k hk k hk2)
          | 1, hs => simp at hs ht; subst hs; subst ht; exact Nat.lt_irrefl _ (d12 k hk k hk2)
          | i + 2, _ => omega
        | 3, ht =>
          match i, hs with
          | 0, hs => simp at hs ht; subst hs; subst ht; exact Nat.lt_irrefl _ (d03 k hk k hk2)
          | 1, hs => simp at hs ht; subst hs; subst ht; exact Nat.lt_irrefl _ (d13 k hk k hk2)
          | 2, hs => simp at hs ht; subst hs; subst ht; exact Nat.lt_irrefl _ (d23 k hk k hk2)
          | i + 3, _ => omega
      intro i j s t k hs ht hij hk hk2
      rcases Nat.lt_or_gt_of_ne hij with h | h
      · exact key i j s t k h hs ht hk hk2
      · exact key j i t s k h ht hs hk2 hk }
  below := hb
theorem bk6 {W : World} {b t : Nat} {v0 v1 v2 v3 v4 v5 : Value} (hb : W.heap[b]? = some (.cells #[v0, v1, v2, v3, v4, v5] t (0, 0))) : W.cell? ⟨b, 0, none⟩ = some v0 ∧ W.cell? ⟨b, 1, none⟩ = some v1 ∧ W.cell? ⟨b, 2, none⟩ = some v2 ∧ W.cell? ⟨b, 3, none⟩ = some v3 ∧ W.cell? ⟨b, 4, none⟩ = some v4 ∧ W.cell? ⟨b, 5, none⟩ = some v5 := by
  simp [World.cell?, hb]
theorem bk4 {w5 : World} {b10 : Nat} {s : St} (h : w5.heap[b10]? = some (.cells #[.int .i64 s.op, .int .i64 s.id, .int .i64 s.x, .int .i64 s.y, .int .i64 s.r, .int .i64 s.n] 34)) {w' : World} (hb : Below w5.heap.size w5 w') : w'.cell? ⟨b10, 2, none⟩ = some (.int .i64 s.x) ∧ w'.cell? ⟨b10, 3, none⟩ = some (.int .i64 s.y) ∧ w'.cell? ⟨b10, 4, none⟩ = some (.int .i64 s.r) ∧ w'.cell? ⟨b10, 5, none⟩ = some (.int .i64 s.n) := by
  obtain ⟨_, _, x2, x3, x4, x5⟩ := bk6 ((hb.block _ (blk_lt h)).trans h)
  exact ⟨x2, x3, x4, x5⟩
theorem put4 {w : World} {g t : Nat} {a b c d v0 v1 v2 v3 : Value} (h : w.heap[g]? = some (.cells #[v0, v1, v2, v3] t (0, 0))) : ((((w.setCell ⟨g, 0, none⟩ a).setCell ⟨g, 1, none⟩ b).setCell ⟨g, 2, none⟩ c).setCell ⟨g, 3, none⟩ d).heap[g]? = some (.cells #[a, b, c, d] t (0, 0)) :=
  blk_set (blk_set (blk_set (blk_set h 0 a) 1 b) 2 c) 3 d
theorem al_ {P : Program} {ops : Array Oper} {Q : Exit → Act → World → Prop} {oi : Oper} {N : Option Tmp} {a : Act} {w : World} {K : Act → World → Prop} {obj : Obj} (hw : Region.wanted oi (yielded ops a.tmps) = true) (hN : oi.dst = N) (hrun : (execOp a.eval oi).run P w = .ok (.value (.pointer (some ⟨w.heap.size, 0, none⟩))) (w.alloc obj))
    (h : ∀ w' b, b = w.heap.size → w'.heap[b]? = some obj → Below w.heap.size w w' → K (a.put N (.pointer (some ⟨b, 0, none⟩))) w') : if Region.wanted oi (yielded ops a.tmps) = true then Oper.wp P oi a w K Q else K (a.put N undef) w := by
  rw [if_pos hw]
  subst hN
  unfold Oper.wp
  rw [hrun]
  exact h _ _ rfl (heap_alloc_new w obj) (by repeat (first | (with_reducible first | exact Below.refl _ _ | apply below_alloc | apply pw_below_drewN | apply below_drew1) | exact Below.refl _ _))
theorem blk_below {w w' : World} {k : Nat} {o : Obj} (h : w.heap[k]? = some o) (hb : Below w.heap.size w w') : w'.heap[k]? = some o := (hb.block k (blk_lt h)).trans h
theorem grown4 {W : World} {g t : Nat} {v0 v1 v2 v3 : Value} {x0 x1 x2 x3 : Value} (h : W.heap[g]? = some (.cells #[x0, x1, x2, x3] t (0, 0))) : W.grownBy ((((W.setCell ⟨g, 0, none⟩ v0).setCell ⟨g, 1, none⟩ v1).setCell ⟨g, 2, none⟩ v2).setCell ⟨g, 3, none⟩ v3) (some g) := by
  refine ⟨rfl, rfl, rfl, by simp [World.setCell], fun k _ hne => ?_⟩
  have hk : k ≠ g := fun e => hne (by rw [e])
  rw [Below.heap_setCell _ _ _ _ hk, Below.heap_setCell _ _ _ _ hk, Below.heap_setCell _ _ _ _ hk, Below.heap_setCell _ _ _ _ hk]
theorem rw_box {W : World} {B g : Nat} {v : Value} {xs : List Int} {cs : Array Value} (h : Rw W B v xs) (hg : W.heap[g]? = some (.cells cs 51 (0, 0))) : ∀ k, v.ownBlock = some k → ¬ k = g := by
  intro k hk e
  obtain ⟨_, _, cur, hc⟩ := h.lt k hk
  rw [e, hg] at hc
  injection hc with hc
  injection hc with _ hc
  exact absurd hc (by decide)
theorem store4 {oi : Oper} {a : Act} {W : World} {g : Nat} {p q : Operand} {A0 A1 A2 A3 : Option Addr} {n0 n1 n2 n3 c0 c1 c2 c3 : Nat} {x0 x1 x2 x3 : Value} (ho : oi.op = .store 51 p q) (hp : a.eval p = .pointer (some ⟨g, 0, none⟩)) (hq : a.eval q = .agg #[.slice A0 n0 c0, .slice A1 n1 c1, .slice A2 n2 c2, .slice A3 n3 c3]) (h : W.heap[g]? = some (.cells #[x0, x1, x2, x3] 51 (0, 0))) :
    (execOp a.eval oi).run Try.prog W = .ok .skip ((((W.setCell ⟨g, 0, none⟩ (.slice A0 n0 c0)).setCell ⟨g, 1, none⟩ (.slice A1 n1 c1)).setCell ⟨g, 2, none⟩ (.slice A2 n2 c2)).setCell ⟨g, 3, none⟩ (.slice A3 n3 c3)) := by
  have h1 := blk_set h 0 (.slice A0 n0 c0)
  have h2 := blk_set h1 1 (.slice A1 n1 c1)
  have h3 := blk_set h2 2 (.slice A2 n2 c2)
  have y0 := (blk_cell h 0).trans rfl
  have y1 := (blk_cell h1 1).trans rfl
  have y2 := (blk_cell h2 2).trans rfl
  have y3 := (blk_cell h3 3).trans rfl
  have f0 := blk_frozen h 0
  have f1 := blk_frozen h1 1
  have f2 := blk_frozen h2 2
  have f3 := blk_frozen h3 3
  clear h h1 h2 h3
  unfold execOp
  simp only [ho, hp, hq]
  go_simp
set_option maxHeartbeats 8000000 in
set_option maxRecDepth 100000 in
theorem keeps_walk (side : Int) (A : Option Addr) (c : Nat) (l : List St) (w : World) (hs : I64 side) (hC : Kd.C k34 w A l.length l) (hc : l.length ≤ c) (hlen : l.length * 48 ≤ 140737488351232) (hwf : ∀ s ∈ l, s.wf) :
    Calls Try.prog 6 #[.int .i64 side, .slice A l.length c] w fun e w' => e = .returned (.bool true) ∧ Below w.heap.size w w' := by
  obtain ⟨sa, ⟨a1, a2⟩, hsa⟩ := side_calls side hs w
  have HC := Aside0.mk hC
  have HL := Aside0.mk hlen
  have HW := Aside0.mk hwf
  have HB := Aside0.mk (Below.refl w.heap.size w)
  clear hC hlen hwf
  go_enter Try.func6, Try.ntmps6
  go_upto_block 0 with (first
    | (go_at_call 7; refine (fixed_calls _).mono ?_; rintro e w1 ⟨rfl, hb⟩; have n_ := Aside0.mk (below_step (by repeat (first | (with_reducible first | exact HB.out | apply below_alloc | apply pw_below_drewN | apply below_drew1) | exact HB.out)) hb); clear HB; have HB := n_; clear n_ hb)
    | (go_at_call 23; (with_reducible refine (hsa _).mono ?_); rintro e w2 ⟨rfl, ⟨nd, rfl⟩⟩; clear hsa)
    | (go_at_call 8; (with_reducible refine (gs_new sa a1 a2 _).mono ?_); rintro e w2 ⟨g1, F, rfl, hG, hb, hF⟩; have HG := Aside0.mk hG; have HF := Aside0.mk (fun k hk => Nat.le_trans (below_size (w := w) (by repeat (first | (with_reducible first | exact HB.out | apply below_alloc | apply pw_below_drewN | apply below_drew1) | exact HB.out))) (hF k hk)); have n_ := Aside0.mk (below_step (by repeat (first | (with_reducible first | exact HB.out | apply below_alloc | apply pw_below_drewN | apply below_drew1) | exact HB.out)) hb); clear HB; have HB := n_; clear n_ hb hG hF))
  go_cut [7, 8] (fun av mv wc => ∃ AS MS U, Keep wc U w.heap.size av mv AS MS ∧ AS.length = MS.length ∧ AS.length ≤ 240 ∧ Below w.heap.size w wc)
  case first =>
    as_aux_lemma =>
      go_wp2
      go_loopw [7, 8, 9] (fun av mv iv wr => ∃ (k : Int), iv = .int .i64 k ∧ 0 ≤ k ∧ k ≤ l.length ∧ k ≤ 60 ∧ KP w wr g1 sa (2 * k.toNat) av mv) (fun _ _ iv _ => l.length - (intOf iv).toNat)
      case atStart => exact ⟨0, rfl, Int.le_refl _, by omega, by omega, F, [], fun _ => False, [], [], HG.out.below (by repeat (first | (with_reducible first | exact Below.refl _ _ | apply below_alloc | apply pw_below_drewN | apply below_drew1) | exact Below.refl _ _)), HF.out, Keep.start _ _, rfl, by simp, fun _ _ h => h, (by repeat (first | (with_reducible first | exact HB.out | apply below_alloc | apply pw_below_drewN | apply below_drew1) | exact HB.out))⟩
      case round =>
        as_aux_lemma =>
          clear HB HG HF F a1 a2
          obtain ⟨k, rfl, h0, h1, h3, F, L, U, AS, MS, hG, hF, hK, hlen, hle, hFU, hb⟩ := hrel
          have HG := Aside0.mk hG
          have HF := Aside0.mk hF
          have HKP := Aside0.mk hK
          have HLE := Aside0.mk (And.intro hlen hle)
          have HFU := Aside0.mk hFU
          have HB := Aside0.mk hb
          obtain ⟨Aa, ca, ea⟩ := Kd.R_slice hK.ra
          obtain ⟨Am, cm, em⟩ := Kd.R_slice hK.rm
          subst ea
          subst em
          clear hG hF hK hlen hle hFU hb
          by_cases hk : k < l.length ∧ k < 60
          · as_aux_lemma =>
              obtain ⟨hk, hk3⟩ := hk
              have kb : decide (k < (l.length : Int)) = true := decide_eq_true hk
              have kb3 : decide (k < 60) = true := decide_eq_true hk3
              obtain ⟨ad, s, hs, e1, hS⟩ := cells_S (W := wr) HC.out h0 hk
              subst e1
              obtain ⟨z0, z1, z2, z3, z4, z5⟩ := HW.out s (List.mem_of_getElem? hs)
              have KA := Aside0.mk (And.intro h0 (And.intro hk hk3))
              have HN : Aside0 (2 * k.toNat ≤ 1000000) := ⟨by omega⟩
              have HN2 : Aside0 (2 * k.toNat + 2 ≤ 1000000) := ⟨by omega⟩
              obtain ⟨d0, d1, d2, d3, d4, d5⟩ := hS wr HB.out
              have p0 : (0 ≤ k) = True := eq_true h0
              have p1 : (k < (l.length : Int)) = True := eq_true hk
              obtain ⟨tm, htm⟩ : ∃ t, Int.tmod s.op 3 = t := ⟨_, rfl⟩
              have hwft : (⟨tm, s.id, s.x, s.y, 0, 0⟩ : St).wf := by
                have i0 : I64 0 := i64 (by decide) (by decide)
                have t2 := Int.tmod_lt_of_pos s.op (show (0 : Int) < 3 by omega)
                have t1 := Int.lt_tmod_of_pos s.op (show (0 : Int) < 3 by omega)
                rw [htm] at t1 t2
                have it : I64 tm := i64 (by omega) (by omega)
                exact ⟨it, z1, z2, z3, i0, i0⟩
              have HWT := Aside0.mk hwft
              clear hk hk3 hs h0 h1 h3 hS hwft
              go_upto_region 12 with (go_at_call 24; (with_reducible refine (answers_calls (HG.out.below ?s1) HN.out (⟨tm, s.id, s.x, s.y, 0, 0⟩ : St) HWT.out).mono ?_); (case s1 => exact (by repeat (first | (with_reducible first | exact Below.refl _ _ | apply below_alloc | apply pw_below_drewN | apply below_drew1) | exact Below.refl _ _))); rintro e wN ⟨A1, c1, F', rfl, hR1, hc1, hG1, hM1, hF1⟩; have HGN := Aside0.mk hG1; have HFN := Aside0.mk (newF HF.out (Nat.le_trans HB.out.size (below_size (w := wr) (by repeat (first | (with_reducible first | exact Below.refl _ _ | apply below_alloc | apply pw_below_drewN | apply below_drew1) | exact Below.refl _ _)))) hF1); have HKN := Aside0.mk ((HKP.out.below (by repeat (first | (with_reducible first | exact Below.refl _ _ | apply below_alloc | apply pw_below_drewN | apply below_drew1) | exact Below.refl _ _))).mv hM1 (fun k hu hf => HFU.out k hf hu)); have HFUN := Aside0.mk (fun k (hf : F' k) (hu : U k) => (hF1 k hf).elim (fun h => HFU.out k h hu) (fun h => Nat.lt_irrefl _ (Nat.lt_of_lt_of_le (HKP.out.ul k hu) (Nat.le_trans (below_size (w := wr) (by repeat (first | (with_reducible first | exact Below.refl _ _ | apply below_alloc | apply pw_below_drewN | apply below_drew1) | exact Below.refl _ _))) h)))); have BXN := Aside0.mk ((hM1.block _ (by simp) (fun hf => by have := HG.out.lt _ hf; omega)).trans (heap_alloc_new wr (.cells #[.int .i64 s.op, .int .i64 s.id, .int .i64 s.x, .int .i64 s.y, .int .i64 s.r, .int .i64 s.n] 34))); have HBN := Aside0.mk (Below.trans (B := w.heap.size) (below_step HB.out (by repeat (first | (with_reducible first | exact Below.refl _ _ | apply below_alloc | apply pw_below_drewN | apply below_drew1) | exact Below.refl _ _))) (hM1.toB (Nat.le_trans HB.out.size (below_size (w := wr) (by repeat (first | (with_reducible first | exact Below.refl _ _ | apply below_alloc | apply pw_below_drewN | apply below_drew1) | exact Below.refl _ _)))) HF.out)); clear hR1 hc1 hG1 hM1 hF1 HKP HFU)
              obtain ⟨b10, hb10⟩ : ∃ x, wr.heap.size = x := ⟨_, rfl⟩
              rw [hb10] at BXN ⊢
              obtain ⟨L', hL'⟩ : ∃ x, nextL L (⟨tm, s.id, s.x, s.y, 0, 0⟩ : St) = x := ⟨_, rfl⟩
              rw [hL'] at HGN
              obtain ⟨xs, hxs⟩ : ∃ xs, inL L' s.x s.y s.r = xs := ⟨_, rfl⟩
              obtain ⟨ms, hms⟩ : ∃ ms, (nearS L' s.x s.y s.r).take s.n.toNat = ms := ⟨_, rfl⟩
              obtain ⟨KX, hKX⟩ : ∃ m, xs.length = m := ⟨_, rfl⟩
              obtain ⟨MX, hMX⟩ : ∃ m, ms.length = m := ⟨_, rfl⟩
              have HKM : Aside0 (KX ≤ 1000000 ∧ MX ≤ 1000000) := by
                have e1 := inL_len L' s.x s.y s.r
                have e2 := nearS_len L' s.x s.y s.r
                have e3 := HGN.out.len
                have e4 := HN2.out
                rw [hxs, hKX] at e1
                have e5 : MX ≤ (nearS L' s.x s.y s.r).length := by rw [← hMX, ← hms, List.length_take]; exact Nat.min_le_right _ _
                exact ⟨by omega, by omega⟩
              have HLB := Aside0.mk (Below.refl wN.heap.size wN)
              clear d0 d1 d2 d3 d4 d5 hb10 hL'
              go_cut [11] (fun v11 wc => ∃ b11 N, v11 = .pointer (some ⟨b11, 0, none⟩) ∧ Four wN wc b11 N xs ms)
              case first =>
                as_aux_lemma =>
                  refine start_ (n := 31) (S := fun w' => w'.cell? ⟨b10, 2, none⟩ = some (.int .i64 s.x) ∧ w'.cell? ⟨b10, 3, none⟩ = some (.int .i64 s.y) ∧ w'.cell? ⟨b10, 4, none⟩ = some (.int .i64 s.r) ∧ w'.cell? ⟨b10, 5, none⟩ = some (.int .i64 s.n)) (ds := [30]) #[false, false, false, false, false, false, false, false, false, false, false, false, false, false, false, false, false, false, false, false, false, false, false, false, false, false, false, false, false, false, false] (by kernel_rfl) rfl rfl (bk4 BXN.out (by repeat (first | (with_reducible first | exact HLB.out | apply below_alloc | apply pw_below_drewN | apply below_drew1) | exact HLB.out))) (fun hHeld => ?_)
                  refine with_tabW tab_f6_12 bits_f6_12 (fun HT_ HW_ => ?_)
                  refine pure_ (i := 0) (N := some 58) (v := ?_) (a' := ?_) #[true, false, false, false, false, false, false, false, false, false, false, false, false, false, false, false, false, false, false, false, false, false, false, false, false, false, false, false, false, false, false] rfl rfl (any_of HT_.out (by kernel_rfl)) (fun _ _ _ h => h) (Or.inl ⟨by rfl, ?_⟩) ?_ ?_
                  rotate_left
                  · intro w'
                    go_simp
                    with_reducible rfl
                  rotate_left
                  · simp only [Act.put, List.setIfInBounds_toArray, List.set_cons_zero, List.set_cons_succ, i64_w, i32_w]
                    rfl
                  refine pure_ (i := 1) (N := some 59) (v := ?_) (a' := ?_) #[true, true, false, false, false, false, false, false, false, false, false, false, false, false, false, false, false, false, false, false, false, false, false, false, false, false, false, false, false, false, false] rfl rfl (any_of HT_.out (by kernel_rfl)) (fun _ _ _ h => h) (Or.inl ⟨by rfl, ?_⟩) ?_ ?_
                  rotate_left
                  · intro w'
                    go_simp
                    with_reducible rfl
                  rotate_left
                  · simp only [Act.put, List.setIfInBounds_toArray, List.set_cons_zero, List.set_cons_succ, i64_w, i32_w]
                    rfl
                  refine take_ (i := 2) (N := some 60) (v := ?_) (a' := ?_) #[true, true, true, false, false, false, false, false, false, false, false, false, false, false, false, false, false, false, false, false, false, false, false, false, false, false, false, false, false, false, false] rfl rfl (take_ofW HT_.out HW_.out (by kernel_rfl)) (fun _ _ _ h => h) (Or.inl ⟨by rfl, ?_⟩) hHeld ?_ ?_
                  rotate_left
                  · rintro w' ⟨s1, s2, s3, s4⟩
                    go_simp
                    with_reducible rfl
                  rotate_left
                  · simp only [Act.put, List.setIfInBounds_toArray, List.set_cons_zero, List.set_cons_succ, i64_w, i32_w]
                    rfl
                  refine pure_ (i := 3) (N := some 61) (v := ?_) (a' := ?_) #[true, true, true, true, false, false, false, false, false, false, false, false, false, false, false, false, false, false, false, false, false, false, false, false, false, false, false, false, false, false, false] rfl rfl (any_of HT_.out (by kernel_rfl)) (fun _ _ _ h => h) (Or.inl ⟨by rfl, ?_⟩) ?_ ?_
                  rotate_left
                  · intro w'
                    go_simp
                    with_reducible rfl
                  rotate_left
                  · simp only [Act.put, List.setIfInBounds_toArray, List.set_cons_zero, List.set_cons_succ, i64_w, i32_w]
                    rfl
                  refine take_ (i := 4) (N := some 62) (v := ?_) (a' := ?_) #[true, true, true, true, true, false, false, false, false, false, false, false, false, false, false, false, false, false, false, false, false, false, false, false, false, false, false, false, false, false, false] rfl rfl (take_ofW HT_.out HW_.out (by kernel_rfl)) (fun _ _ _ h => h) (Or.inl ⟨by rfl, ?_⟩) hHeld ?_ ?_
                  rotate_left
                  · rintro w' ⟨s1, s2, s3, s4⟩
                    go_simp
                    with_reducible rfl
                  rotate_left
                  · simp only [Act.put, List.setIfInBounds_toArray, List.set_cons_zero, List.set_cons_succ, i64_w, i32_w]
                    rfl
                  refine pure_ (i := 6) (N := some 64) (v := ?_) (a' := ?_) #[true, true, true, true, true, false, true, false, false, false, false, false, false, false, false, false, false, false, false, false, false, false, false, false, false, false, false, false, false, false, false] rfl rfl (any_of HT_.out (by kernel_rfl)) (fun _ _ _ h => h) (Or.inl ⟨by rfl, ?_⟩) ?_ ?_
                  rotate_left
                  · intro w'
                    go_simp
                    with_reducible rfl
                  rotate_left
                  · simp only [Act.put, List.setIfInBounds_toArray, List.set_cons_zero, List.set_cons_succ, i64_w, i32_w]
                    rfl
                  refine pure_ (i := 7) (N := some 65) (v := ?_) (a' := ?_) #[true, true, true, true, true, false, true, true, false, false, false, false, false, false, false, false, false, false, false, false, false, false, false, false, false, false, false, false, false, false, false] rfl rfl (any_of HT_.out (by kernel_rfl)) (fun _ _ _ h => h) (Or.inl ⟨by rfl, ?_⟩) ?_ ?_
                  rotate_left
                  · intro w'
                    go_simp
                    with_reducible rfl
                  rotate_left
                  · simp only [Act.put, List.setIfInBounds_toArray, List.set_cons_zero, List.set_cons_succ, i64_w, i32_w]
                    rfl
                  refine take_ (i := 8) (N := some 66) (v := ?_) (a' := ?_) #[true, true, true, true, true, false, true, true, true, false, false, false, false, false, false, false, false, false, false, false, false, false, false, false, false, false, false, false, false, false, false] rfl rfl (take_ofW HT_.out HW_.out (by kernel_rfl)) (fun _ _ _ h => h) (Or.inl ⟨by rfl, ?_⟩) hHeld ?_ ?_
                  rotate_left
                  · rintro w' ⟨s1, s2, s3, s4⟩
                    go_simp
                    with_reducible rfl
                  rotate_left
                  · simp only [Act.put, List.setIfInBounds_toArray, List.set_cons_zero, List.set_cons_succ, i64_w, i32_w]
                    rfl
                  refine pure_ (i := 9) (N := some 67) (v := ?_) (a' := ?_) #[true, true, true, true, true, false, true, true, true, true, false, false, false, false, false, false, false, false, false, false, false, false, false, false, false, false, false, false, false, false, false] rfl rfl (any_of HT_.out (by kernel_rfl)) (fun _ _ _ h => h) (Or.inl ⟨by rfl, ?_⟩) ?_ ?_
                  rotate_left
                  · intro w'
                    go_simp
                    with_reducible rfl
                  rotate_left
                  · simp only [Act.put, List.setIfInBounds_toArray, List.set_cons_zero, List.set_cons_succ, i64_w, i32_w]
                    rfl
                  refine take_ (i := 10) (N := some 68) (v := ?_) (a' := ?_) #[true, true, true, true, true, false, true, true, true, true, true, false, false, false, false, false, false, false, false, false, false, false, false, false, false, false, false, false, false, false, false] rfl rfl (take_ofW HT_.out HW_.out (by kernel_rfl)) (fun _ _ _ h => h) (Or.inl ⟨by rfl, ?_⟩) hHeld ?_ ?_
                  rotate_left
                  · rintro w' ⟨s1, s2, s3, s4⟩
                    go_simp
                    with_reducible rfl
                  rotate_left
                  · simp only [Act.put, List.setIfInBounds_toArray, List.set_cons_zero, List.set_cons_succ, i64_w, i32_w]
                    rfl
                  refine pure_ (i := 11) (N := some 69) (v := ?_) (a' := ?_) #[true, true, true, true, true, false, true, true, true, true, true, true, false, false, false, false, false, false, false, false, false, false, false, false, false, false, false, false, false, false, false] rfl rfl (any_of HT_.out (by kernel_rfl)) (fun _ _ _ h => h) (Or.inl ⟨by rfl, ?_⟩) ?_ ?_
                  rotate_left
                  · intro w'
                    go_simp
                    with_reducible rfl
                  rotate_left
                  · simp only [Act.put, List.setIfInBounds_toArray, List.set_cons_zero, List.set_cons_succ, i64_w, i32_w]
                    rfl
                  refine take_ (i := 12) (N := some 70) (v := ?_) (a' := ?_) #[true, true, true, true, true, false, true, true, true, true, true, true, true, false, false, false, false, false, false, false, false, false, false, false, false, false, false, false, false, false, false] rfl rfl (take_ofW HT_.out HW_.out (by kernel_rfl)) (fun _ _ _ h => h) (Or.inl ⟨by rfl, ?_⟩) hHeld ?_ ?_
                  rotate_left
                  · rintro w' ⟨s1, s2, s3, s4⟩
                    go_simp
                    with_reducible rfl
                  rotate_left
                  · simp only [Act.put, List.setIfInBounds_toArray, List.set_cons_zero, List.set_cons_succ, i64_w, i32_w]
                    rfl
                  refine pure_ (i := 14) (N := some 72) (v := ?_) (a' := ?_) #[true, true, true, true, true, false, true, true, true, true, true, true, true, false, true, false, false, false, false, false, false, false, false, false, false, false, false, false, false, false, false] rfl rfl (any_of HT_.out (by kernel_rfl)) (fun _ _ _ h => h) (Or.inl ⟨by rfl, ?_⟩) ?_ ?_
                  rotate_left
                  · intro w'
                    go_simp
                    with_reducible rfl
                  rotate_left
                  · simp only [Act.put, List.setIfInBounds_toArray, List.set_cons_zero, List.set_cons_succ, i64_w, i32_w]
                    rfl
                  refine pure_ (i := 15) (N := some 73) (v := ?_) (a' := ?_) #[true, true, true, true, true, false, true, true, true, true, true, true, true, false, true, true, false, false, false, false, false, false, false, false, false, false, false, false, false, false, false] rfl rfl (any_of HT_.out (by kernel_rfl)) (fun _ _ _ h => h) (Or.inl ⟨by rfl, ?_⟩) ?_ ?_
                  rotate_left
                  · intro w'
                    go_simp
                    with_reducible rfl
                  rotate_left
                  · simp only [Act.put, List.setIfInBounds_toArray, List.set_cons_zero, List.set_cons_succ, i64_w, i32_w]
                    rfl
                  refine take_ (i := 16) (N := some 74) (v := ?_) (a' := ?_) #[true, true, true, true, true, false, true, true, true, true, true, true, true, false, true, true, true, false, false, false, false, false, false, false, false, false, false, false, false, false, false] rfl rfl (take_ofW HT_.out HW_.out (by kernel_rfl)) (fun _ _ _ h => h) (Or.inl ⟨by rfl, ?_⟩) hHeld ?_ ?_
                  rotate_left
                  · rintro w' ⟨s1, s2, s3, s4⟩
                    go_simp
                    with_reducible rfl
                  rotate_left
                  · simp only [Act.put, List.setIfInBounds_toArray, List.set_cons_zero, List.set_cons_succ, i64_w, i32_w]
                    rfl
                  refine pure_ (i := 17) (N := some 75) (v := ?_) (a' := ?_) #[true, true, true, true, true, false, true, true, true, true, true, true, true, false, true, true, true, true, false, false, false, false, false, false, false, false, false, false, false, false, false] rfl rfl (any_of HT_.out (by kernel_rfl)) (fun _ _ _ h => h) (Or.inl ⟨by rfl, ?_⟩) ?_ ?_
                  rotate_left
                  · intro w'
                    go_simp
                    with_reducible rfl
                  rotate_left
                  · simp only [Act.put, List.setIfInBounds_toArray, List.set_cons_zero, List.set_cons_succ, i64_w, i32_w]
                    rfl
                  refine take_ (i := 18) (N := some 76) (v := ?_) (a' := ?_) #[true, true, true, true, true, false, true, true, true, true, true, true, true, false, true, true, true, true, true, false, false, false, false, false, false, false, false, false, false, false, false] rfl rfl (take_ofW HT_.out HW_.out (by kernel_rfl)) (fun _ _ _ h => h) (Or.inl ⟨by rfl, ?_⟩) hHeld ?_ ?_
                  rotate_left
                  · rintro w' ⟨s1, s2, s3, s4⟩
                    go_simp
                    with_reducible rfl
                  rotate_left
                  · simp only [Act.put, List.setIfInBounds_toArray, List.set_cons_zero, List.set_cons_succ, i64_w, i32_w]
                    rfl
                  refine pure_ (i := 20) (N := some 78) (v := ?_) (a' := ?_) #[true, true, true, true, true, false, true, true, true, true, true, true, true, false, true, true, true, true, true, false, true, false, false, false, false, false, false, false, false, false, false] rfl rfl (any_of HT_.out (by kernel_rfl)) (fun _ _ _ h => h) (Or.inl ⟨by rfl, ?_⟩) ?_ ?_
                  rotate_left
                  · intro w'
                    go_simp
                    with_reducible rfl
                  rotate_left
                  · simp only [Act.put, List.setIfInBounds_toArray, List.set_cons_zero, List.set_cons_succ, i64_w, i32_w]
                    rfl
                  refine pure_ (i := 21) (N := some 79) (v := ?_) (a' := ?_) #[true, true, true, true, true, false, true, true, true, true, true, true, true, false, true, true, true, true, true, false, true, true, false, false, false, false, false, false, false, false, false] rfl rfl (any_of HT_.out (by kernel_rfl)) (fun _ _ _ h => h) (Or.inl ⟨by rfl, ?_⟩) ?_ ?_
                  rotate_left
                  · intro w'
                    go_simp
                    with_reducible rfl
                  rotate_left
                  · simp only [Act.put, List.setIfInBounds_toArray, List.set_cons_zero, List.set_cons_succ, i64_w, i32_w]
                    rfl
                  refine take_ (i := 22) (N := some 80) (v := ?_) (a' := ?_) #[true, true, true, true, true, false, true, true, true, true, true, true, true, false, true, true, true, true, true, false, true, true, true, false, false, false, false, false, false, false, false] rfl rfl (take_ofW HT_.out HW_.out (by kernel_rfl)) (fun _ _ _ h => h) (Or.inl ⟨by rfl, ?_⟩) hHeld ?_ ?_
                  rotate_left
                  · rintro w' ⟨s1, s2, s3, s4⟩
                    go_simp
                    with_reducible rfl
                  rotate_left
                  · simp only [Act.put, List.setIfInBounds_toArray, List.set_cons_zero, List.set_cons_succ, i64_w, i32_w]
                    rfl
                  refine pure_ (i := 23) (N := some 81) (v := ?_) (a' := ?_) #[true, true, true, true, true, false, true, true, true, true, true, true, true, false, true, true, true, true, true, false, true, true, true, true, false, false, false, false, false, false, false] rfl rfl (any_of HT_.out (by kernel_rfl)) (fun _ _ _ h => h) (Or.inl ⟨by rfl, ?_⟩) ?_ ?_
                  rotate_left
                  · intro w'
                    go_simp
                    with_reducible rfl
                  rotate_left
                  · simp only [Act.put, List.setIfInBounds_toArray, List.set_cons_zero, List.set_cons_succ, i64_w, i32_w]
                    rfl
                  refine take_ (i := 24) (N := some 82) (v := ?_) (a' := ?_) #[true, true, true, true, true, false, true, true, true, true, true, true, true, false, true, true, true, true, true, false, true, true, true, true, true, false, false, false, false, false, false] rfl rfl (take_ofW HT_.out HW_.out (by kernel_rfl)) (fun _ _ _ h => h) (Or.inl ⟨by rfl, ?_⟩) hHeld ?_ ?_
                  rotate_left
                  · rintro w' ⟨s1, s2, s3, s4⟩
                    go_simp
                    with_reducible rfl
                  rotate_left
                  · simp only [Act.put, List.setIfInBounds_toArray, List.set_cons_zero, List.set_cons_succ, i64_w, i32_w]
                    rfl
                  refine pure_ (i := 25) (N := some 83) (v := ?_) (a' := ?_) #[true, true, true, true, true, false, true, true, true, true, true, true, true, false, true, true, true, true, true, false, true, true, true, true, true, true, false, false, false, false, false] rfl rfl (any_of HT_.out (by kernel_rfl)) (fun _ _ _ h => h) (Or.inl ⟨by rfl, ?_⟩) ?_ ?_
                  rotate_left
                  · intro w'
                    go_simp
                    with_reducible rfl
                  rotate_left
                  · simp only [Act.put, List.setIfInBounds_toArray, List.set_cons_zero, List.set_cons_succ, i64_w, i32_w]
                    rfl
                  refine take_ (i := 26) (N := some 84) (v := ?_) (a' := ?_) #[true, true, true, true, true, false, true, true, true, true, true, true, true, false, true, true, true, true, true, false, true, true, true, true, true, true, true, false, false, false, false] rfl rfl (take_ofW HT_.out HW_.out (by kernel_rfl)) (fun _ _ _ h => h) (Or.inl ⟨by rfl, ?_⟩) hHeld ?_ ?_
                  rotate_left
                  · rintro w' ⟨s1, s2, s3, s4⟩
                    go_simp
                    with_reducible rfl
                  rotate_left
                  · simp only [Act.put, List.setIfInBounds_toArray, List.set_cons_zero, List.set_cons_succ, i64_w, i32_w]
                    rfl
                  refine two_ (i := 5) (j := 29) (Ni := some 63) (Nj := some 11) #[true, true, true, true, true, true, true, true, true, true, true, true, true, false, true, true, true, true, true, false, true, true, true, true, true, true, true, false, false, false, false] #[true, true, true, true, true, false, true, true, true, true, true, true, true, false, true, true, true, true, true, false, true, true, true, true, true, true, true, false, false, true, false] rfl rfl rfl rfl (two_of HT_.out (by kernel_rfl)) (by decide) (by decide) (fun K hK => ?_) (fun K hK => ?_)
                  · refine goes_ Try.func17 (by kernel_rfl) rfl #[.pointer (some ⟨g1, 0, none⟩), .agg #[.int .i64 s.x, .int .i64 s.y], .int .i64 s.r] (by rfl) rfl rfl (by (try simp only [List.map_toArray, List.map_cons, List.map_nil]); first | done | rfl) ?_
                    with_reducible refine (gs_near_w HGN.out ?s1 HN2.out z2 z3 z4 xs hxs KX hKX).mono ?_
                    case s1 => exact (by repeat (first | (with_reducible first | exact HLB.out | apply below_alloc | apply pw_below_drewN | apply below_drew1) | exact HLB.out))
                    rintro e w5 ⟨A0, c0, rfl, hR, hb5⟩
                    refine ⟨_, rfl, ?_⟩
                    have R0_ := Aside0.mk (hR.lower (below_size (w := wN) (by repeat (first | (with_reducible first | exact HLB.out | apply below_alloc | apply pw_below_drewN | apply below_drew1) | exact HLB.out))))
                    (try (have n0_ := Aside0.mk (R0.out.below (below_step (by repeat (first | (with_reducible first | exact Below.refl _ _ | apply below_alloc | apply pw_below_drewN | apply below_drew1) | exact Below.refl _ _)) hb5)); clear R0; have R0 := n0_; clear n0_))
                    (try (have n0_ := Aside0.mk (R1.out.below (below_step (by repeat (first | (with_reducible first | exact Below.refl _ _ | apply below_alloc | apply pw_below_drewN | apply below_drew1) | exact Below.refl _ _)) hb5)); clear R1; have R1 := n0_; clear n0_))
                    (try (have n0_ := Aside0.mk (R2.out.below (below_step (by repeat (first | (with_reducible first | exact Below.refl _ _ | apply below_alloc | apply pw_below_drewN | apply below_drew1) | exact Below.refl _ _)) hb5)); clear R2; have R2 := n0_; clear n0_))
                    (try (have n0_ := Aside0.mk (blk_below HA.out (below_step (by repeat (first | (with_reducible first | exact Below.refl _ _ | apply below_alloc | apply pw_below_drewN | apply below_drew1) | exact Below.refl _ _)) hb5)); clear HA; have HA := n0_; clear n0_))
                    have R0 := R0_
                    have n_ := Aside0.mk (below_step (by repeat (first | (with_reducible first | exact HLB.out | apply below_alloc | apply pw_below_drewN | apply below_drew1) | exact HLB.out)) hb5)
                    clear HLB hb5 hR R0_
                    have HLB := n_
                    clear n_
                    refine hK.out _ _ (bk4 BXN.out (by repeat (first | (with_reducible first | exact HLB.out | apply below_alloc | apply pw_below_drewN | apply below_drew1) | exact HLB.out))) (fun hHeld => ?_)
                    clear hK K
                    refine norm_ (a' := ?_) ?_ ?_
                    rotate_left
                    · show Act.put _ (some 63) _ = _
                      simp only [Act.put, List.setIfInBounds_toArray, List.set_cons_zero, List.set_cons_succ, i64_w, i32_w]
                      rfl
                    refine two_ (i := 13) (j := 29) (Ni := some 71) (Nj := some 11) #[true, true, true, true, true, true, true, true, true, true, true, true, true, true, true, true, true, true, true, false, true, true, true, true, true, true, true, false, false, false, false] #[true, true, true, true, true, true, true, true, true, true, true, true, true, false, true, true, true, true, true, false, true, true, true, true, true, true, true, false, false, true, false] rfl rfl rfl rfl (two_of HT_.out (by kernel_rfl)) (by decide) (by decide) (fun K hK => ?_) (fun K hK => ?_)
                    · refine goes_ Try.func19 (by kernel_rfl) rfl #[.pointer (some ⟨g1, 0, none⟩), .agg #[.int .i64 s.x, .int .i64 s.y], .int .i64 s.r, .int .i64 s.n] (by rfl) rfl rfl (by (try simp only [List.map_toArray, List.map_cons, List.map_nil]); first | done | rfl) ?_
                      with_reducible refine (gs_nearest_w HGN.out ?s1 HN2.out z2 z3 z4 ms hms MX hMX).mono ?_
                      case s1 => exact (by repeat (first | (with_reducible first | exact HLB.out | apply below_alloc | apply pw_below_drewN | apply below_drew1) | exact HLB.out))
                      rintro e w6 ⟨A1, rfl, hR, hb5⟩
                      refine ⟨_, rfl, ?_⟩
                      have D01 := Aside0.mk (fun k hk k' hk' => Nat.lt_of_lt_of_le (R0.out.lt k (by rw [own_A]; exact hk)).1 (Nat.le_trans (below_size (by repeat (first | (with_reducible first | exact Below.refl _ _ | apply below_alloc | apply pw_below_drewN | apply below_drew1) | exact Below.refl _ _))) (hR.lt k' (by rw [own_A]; exact hk')).2.1))
                      have R1_ := Aside0.mk (hR.lower (below_size (w := wN) (by repeat (first | (with_reducible first | exact HLB.out | apply below_alloc | apply pw_below_drewN | apply below_drew1) | exact HLB.out))))
                      (try (have n0_ := Aside0.mk (R0.out.below (below_step (by repeat (first | (with_reducible first | exact Below.refl _ _ | apply below_alloc | apply pw_below_drewN | apply below_drew1) | exact Below.refl _ _)) hb5)); clear R0; have R0 := n0_; clear n0_))
                      (try (have n0_ := Aside0.mk (R1.out.below (below_step (by repeat (first | (with_reducible first | exact Below.refl _ _ | apply below_alloc | apply pw_below_drewN | apply below_drew1) | exact Below.refl _ _)) hb5)); clear R1; have R1 := n0_; clear n0_))
                      (try (have n0_ := Aside0.mk (R2.out.below (below_step (by repeat (first | (with_reducible first | exact Below.refl _ _ | apply below_alloc | apply pw_below_drewN | apply below_drew1) | exact Below.refl _ _)) hb5)); clear R2; have R2 := n0_; clear n0_))
                      (try (have n0_ := Aside0.mk (blk_below HA.out (below_step (by repeat (first | (with_reducible first | exact Below.refl _ _ | apply below_alloc | apply pw_below_drewN | apply below_drew1) | exact Below.refl _ _)) hb5)); clear HA; have HA := n0_; clear n0_))
                      have R1 := R1_
                      have n_ := Aside0.mk (below_step (by repeat (first | (with_reducible first | exact HLB.out | apply below_alloc | apply pw_below_drewN | apply below_drew1) | exact HLB.out)) hb5)
                      clear HLB hb5 hR R1_
                      have HLB := n_
                      clear n_
                      refine hK.out _ _ (bk4 BXN.out (by repeat (first | (with_reducible first | exact HLB.out | apply below_alloc | apply pw_below_drewN | apply below_drew1) | exact HLB.out))) (fun hHeld => ?_)
                      clear hK K
                      refine norm_ (a' := ?_) ?_ ?_
                      rotate_left
                      · show Act.put _ (some 71) _ = _
                        simp only [Act.put, List.setIfInBounds_toArray, List.set_cons_zero, List.set_cons_succ, i64_w, i32_w]
                        rfl
                      refine two_ (i := 19) (j := 29) (Ni := some 77) (Nj := some 11) #[true, true, true, true, true, true, true, true, true, true, true, true, true, true, true, true, true, true, true, true, true, true, true, true, true, true, true, false, false, false, false] #[true, true, true, true, true, true, true, true, true, true, true, true, true, true, true, true, true, true, true, false, true, true, true, true, true, true, true, false, false, true, false] rfl rfl rfl rfl (two_of HT_.out (by kernel_rfl)) (by decide) (by decide) (fun K hK => ?_) (fun K hK => ?_)
                      · refine goes_ Try.func17 (by kernel_rfl) rfl #[.pointer (some ⟨g1, 0, none⟩), .agg #[.int .i64 s.x, .int .i64 s.y], .int .i64 s.r] (by rfl) rfl rfl (by (try simp only [List.map_toArray, List.map_cons, List.map_nil]); first | done | rfl) ?_
                        with_reducible refine (gs_near_w HGN.out ?s1 HN2.out z2 z3 z4 xs hxs KX hKX).mono ?_
                        case s1 => exact (by repeat (first | (with_reducible first | exact HLB.out | apply below_alloc | apply pw_below_drewN | apply below_drew1) | exact HLB.out))
                        rintro e w7 ⟨A2, c2, rfl, hR, hb5⟩
                        refine ⟨_, rfl, ?_⟩
                        have D02 := Aside0.mk (fun k hk k' hk' => Nat.lt_of_lt_of_le (R0.out.lt k (by rw [own_A]; exact hk)).1 (Nat.le_trans (below_size (by repeat (first | (with_reducible first | exact Below.refl _ _ | apply below_alloc | apply pw_below_drewN | apply below_drew1) | exact Below.refl _ _))) (hR.lt k' (by rw [own_A]; exact hk')).2.1))
                        have D12 := Aside0.mk (fun k hk k' hk' => Nat.lt_of_lt_of_le (R1.out.lt k (by rw [own_A]; exact hk)).1 (Nat.le_trans (below_size (by repeat (first | (with_reducible first | exact Below.refl _ _ | apply below_alloc | apply pw_below_drewN | apply below_drew1) | exact Below.refl _ _))) (hR.lt k' (by rw [own_A]; exact hk')).2.1))
                        have R2_ := Aside0.mk (hR.lower (below_size (w := wN) (by repeat (first | (with_reducible first | exact HLB.out | apply below_alloc | apply pw_below_drewN | apply below_drew1) | exact HLB.out))))
                        (try (have n0_ := Aside0.mk (R0.out.below (below_step (by repeat (first | (with_reducible first | exact Below.refl _ _ | apply below_alloc | apply pw_below_drewN | apply below_drew1) | exact Below.refl _ _)) hb5)); clear R0; have R0 := n0_; clear n0_))
                        (try (have n0_ := Aside0.mk (R1.out.below (below_step (by repeat (first | (with_reducible first | exact Below.refl _ _ | apply below_alloc | apply pw_below_drewN | apply below_drew1) | exact Below.refl _ _)) hb5)); clear R1; have R1 := n0_; clear n0_))
                        (try (have n0_ := Aside0.mk (R2.out.below (below_step (by repeat (first | (with_reducible first | exact Below.refl _ _ | apply below_alloc | apply pw_below_drewN | apply below_drew1) | exact Below.refl _ _)) hb5)); clear R2; have R2 := n0_; clear n0_))
                        (try (have n0_ := Aside0.mk (blk_below HA.out (below_step (by repeat (first | (with_reducible first | exact Below.refl _ _ | apply below_alloc | apply pw_below_drewN | apply below_drew1) | exact Below.refl _ _)) hb5)); clear HA; have HA := n0_; clear n0_))
                        have R2 := R2_
                        have n_ := Aside0.mk (below_step (by repeat (first | (with_reducible first | exact HLB.out | apply below_alloc | apply pw_below_drewN | apply below_drew1) | exact HLB.out)) hb5)
                        clear HLB hb5 hR R2_
                        have HLB := n_
                        clear n_
                        refine hK.out _ _ (bk4 BXN.out (by repeat (first | (with_reducible first | exact HLB.out | apply below_alloc | apply pw_below_drewN | apply below_drew1) | exact HLB.out))) (fun hHeld => ?_)
                        clear hK K
                        refine norm_ (a' := ?_) ?_ ?_
                        rotate_left
                        · show Act.put _ (some 77) _ = _
                          simp only [Act.put, List.setIfInBounds_toArray, List.set_cons_zero, List.set_cons_succ, i64_w, i32_w]
                          rfl
                        refine two_ (i := 27) (j := 29) (Ni := some 85) (Nj := some 11) #[true, true, true, true, true, true, true, true, true, true, true, true, true, true, true, true, true, true, true, true, true, true, true, true, true, true, true, true, false, false, false] #[true, true, true, true, true, true, true, true, true, true, true, true, true, true, true, true, true, true, true, true, true, true, true, true, true, true, true, false, false, true, false] rfl rfl rfl rfl (two_of HT_.out (by kernel_rfl)) (by decide) (by decide) (fun K hK => ?_) (fun K hK => ?_)
                        · refine goes_ Try.func19 (by kernel_rfl) rfl #[.pointer (some ⟨g1, 0, none⟩), .agg #[.int .i64 s.x, .int .i64 s.y], .int .i64 s.r, .int .i64 s.n] (by rfl) rfl rfl (by (try simp only [List.map_toArray, List.map_cons, List.map_nil]); first | done | rfl) ?_
                          with_reducible refine (gs_nearest_w HGN.out ?s1 HN2.out z2 z3 z4 ms hms MX hMX).mono ?_
                          case s1 => exact (by repeat (first | (with_reducible first | exact HLB.out | apply below_alloc | apply pw_below_drewN | apply below_drew1) | exact HLB.out))
                          rintro e w8 ⟨A3, rfl, hR, hb5⟩
                          refine ⟨_, rfl, ?_⟩
                          have D03 := Aside0.mk (fun k hk k' hk' => Nat.lt_of_lt_of_le (R0.out.lt k (by rw [own_A]; exact hk)).1 (Nat.le_trans (below_size (by repeat (first | (with_reducible first | exact Below.refl _ _ | apply below_alloc | apply pw_below_drewN | apply below_drew1) | exact Below.refl _ _))) (hR.lt k' (by rw [own_A]; exact hk')).2.1))
                          have D13 := Aside0.mk (fun k hk k' hk' => Nat.lt_of_lt_of_le (R1.out.lt k (by rw [own_A]; exact hk)).1 (Nat.le_trans (below_size (by repeat (first | (with_reducible first | exact Below.refl _ _ | apply below_alloc | apply pw_below_drewN | apply below_drew1) | exact Below.refl _ _))) (hR.lt k' (by rw [own_A]; exact hk')).2.1))
                          have D23 := Aside0.mk (fun k hk k' hk' => Nat.lt_of_lt_of_le (R2.out.lt k (by rw [own_A]; exact hk)).1 (Nat.le_trans (below_size (by repeat (first | (with_reducible first | exact Below.refl _ _ | apply below_alloc | apply pw_below_drewN | apply below_drew1) | exact Below.refl _ _))) (hR.lt k' (by rw [own_A]; exact hk')).2.1))
                          have R3_ := Aside0.mk (hR.lower (below_size (w := wN) (by repeat (first | (with_reducible first | exact HLB.out | apply below_alloc | apply pw_below_drewN | apply below_drew1) | exact HLB.out))))
                          (try (have n0_ := Aside0.mk (R0.out.below (below_step (by repeat (first | (with_reducible first | exact Below.refl _ _ | apply below_alloc | apply pw_below_drewN | apply below_drew1) | exact Below.refl _ _)) hb5)); clear R0; have R0 := n0_; clear n0_))
                          (try (have n0_ := Aside0.mk (R1.out.below (below_step (by repeat (first | (with_reducible first | exact Below.refl _ _ | apply below_alloc | apply pw_below_drewN | apply below_drew1) | exact Below.refl _ _)) hb5)); clear R1; have R1 := n0_; clear n0_))
                          (try (have n0_ := Aside0.mk (R2.out.below (below_step (by repeat (first | (with_reducible first | exact Below.refl _ _ | apply below_alloc | apply pw_below_drewN | apply below_drew1) | exact Below.refl _ _)) hb5)); clear R2; have R2 := n0_; clear n0_))
                          (try (have n0_ := Aside0.mk (blk_below HA.out (below_step (by repeat (first | (with_reducible first | exact Below.refl _ _ | apply below_alloc | apply pw_below_drewN | apply below_drew1) | exact Below.refl _ _)) hb5)); clear HA; have HA := n0_; clear n0_))
                          have R3 := R3_
                          have n_ := Aside0.mk (below_step (by repeat (first | (with_reducible first | exact HLB.out | apply below_alloc | apply pw_below_drewN | apply below_drew1) | exact HLB.out)) hb5)
                          clear HLB hb5 hR R3_
                          have HLB := n_
                          clear n_
                          refine hK.out _ _ (bk4 BXN.out (by repeat (first | (with_reducible first | exact HLB.out | apply below_alloc | apply pw_below_drewN | apply below_drew1) | exact HLB.out))) (fun hHeld => ?_)
                          clear hK K
                          refine norm_ (a' := ?_) ?_ ?_
                          rotate_left
                          · show Act.put _ (some 85) _ = _
                            simp only [Act.put, List.setIfInBounds_toArray, List.set_cons_zero, List.set_cons_succ, i64_w, i32_w]
                            rfl
                          refine pure_ (i := 28) (N := some 86) (v := ?_) (a' := ?_) #[true, true, true, true, true, true, true, true, true, true, true, true, true, true, true, true, true, true, true, true, true, true, true, true, true, true, true, true, true, false, false] rfl rfl (any_of HT_.out (by kernel_rfl)) (fun _ _ _ h => h) (Or.inl ⟨by rfl, ?_⟩) ?_ ?_
                          rotate_left
                          · intro w'
                            go_simp
                            with_reducible rfl
                          rotate_left
                          · simp only [Act.put, List.setIfInBounds_toArray, List.set_cons_zero, List.set_cons_succ, i64_w, i32_w]
                            rfl
                          refine one_ (i := 29) (N := some 11) #[true, true, true, true, true, true, true, true, true, true, true, true, true, true, true, true, true, true, true, true, true, true, true, true, true, true, true, true, true, true, false] rfl rfl (one_of HT_.out (by kernel_rfl)) (by decide) (fun K hK => ?_)
                          refine al_ (obj := .cells #[.slice none 0 0, .slice none 0 0, .slice none 0 0, .slice none 0 0] 51) (by rfl) rfl ?hrun ?_
                          case hrun => (go_simp <;> (refine ⟨?_, ?_⟩ <;> rfl))
                          intro wA b11 hb11 hAx hbA
                          have HA := Aside0.mk hAx
                          have HLO := Aside0.mk (show wN.heap.size ≤ b11 by rw [hb11]; exact below_size (w := wN) (by repeat (first | (with_reducible first | exact HLB.out | apply below_alloc | apply pw_below_drewN | apply below_drew1) | exact HLB.out)))
                          (try (have n0_ := Aside0.mk (R0.out.below (below_step (by repeat (first | (with_reducible first | exact Below.refl _ _ | apply below_alloc | apply pw_below_drewN | apply below_drew1) | exact Below.refl _ _)) hbA)); clear R0; have R0 := n0_; clear n0_))
                          (try (have n0_ := Aside0.mk (R1.out.below (below_step (by repeat (first | (with_reducible first | exact Below.refl _ _ | apply below_alloc | apply pw_below_drewN | apply below_drew1) | exact Below.refl _ _)) hbA)); clear R1; have R1 := n0_; clear n0_))
                          (try (have n0_ := Aside0.mk (R2.out.below (below_step (by repeat (first | (with_reducible first | exact Below.refl _ _ | apply below_alloc | apply pw_below_drewN | apply below_drew1) | exact Below.refl _ _)) hbA)); clear R2; have R2 := n0_; clear n0_))
                          (try (have n0_ := Aside0.mk (R3.out.below (below_step (by repeat (first | (with_reducible first | exact Below.refl _ _ | apply below_alloc | apply pw_below_drewN | apply below_drew1) | exact Below.refl _ _)) hbA)); clear R3; have R3 := n0_; clear n0_))
                          have n_ := Aside0.mk (below_step (by repeat (first | (with_reducible first | exact HLB.out | apply below_alloc | apply pw_below_drewN | apply below_drew1) | exact HLB.out)) hbA)
                          clear HLB hb11 hAx hbA
                          have HLB := n_
                          clear n_
                          refine hK.out _ _ (bk4 BXN.out (by repeat (first | (with_reducible first | exact HLB.out | apply below_alloc | apply pw_below_drewN | apply below_drew1) | exact HLB.out))) (fun hHeld => ?_)
                          clear hK K
                          refine norm_ (a' := ?_) ?_ ?_
                          rotate_left
                          · show Act.put _ (some 11) _ = _
                            simp only [Act.put, List.setIfInBounds_toArray, List.set_cons_zero, List.set_cons_succ, i64_w, i32_w]
                            rfl
                          refine last_ (i := 30) (N := none) #[true, true, true, true, true, true, true, true, true, true, true, true, true, true, true, true, true, true, true, true, true, true, true, true, true, true, true, true, true, true, true] rfl rfl (one_of HT_.out (by kernel_rfl)) (by decide) (fun K hK => ?_)
                          refine unit_ (w' := ?_) (by rfl) rfl ?hrun ?_
                          case hrun => (refine store4 (A0 := A0) (A1 := A1) (A2 := A2) (A3 := A3) (n0 := KX) (n1 := MX) (n2 := KX) (n3 := MX) (c0 := c0) (c1 := MX) (c2 := c2) (c3 := MX) (p := .tmp 11) (q := .tmp 86) ?_ ?_ ?_ HA.out <;> rfl)
                          refine hK.out _ _ ?_
                          clear hK K
                          refine norm_ (a' := ?_) ?_ ?_
                          rotate_left
                          · show Act.put _ (none) _ = _
                            simp only [Act.put, List.setIfInBounds_toArray, List.set_cons_zero, List.set_cons_succ, i64_w, i32_w]
                            rfl
                          refine done_ (done_of HT_.out (by kernel_rfl)) ?_
                          clear hHeld HT_ HW_
                          go_wp2
                          go_meet
                          case rel =>
                            have hm4 := Mv.of_grown (S := fun k => k = b11) (grown4 (v0 := .slice A0 KX c0) (v1 := .slice A1 MX MX) (v2 := .slice A2 KX c2) (v3 := .slice A3 MX MX) HA.out) (fun k hk => by injection hk with hk; exact hk.symm)
                            exact ⟨b11, _, rfl, four_mk (put4 HA.out) HLO.out HKM.out.1 HKM.out.2 (R0.out.mv hm4 (rw_box R0.out HA.out)) (R1.out.mv hm4 (rw_box R1.out HA.out)) (R2.out.mv hm4 (rw_box R2.out HA.out)) (R3.out.mv hm4 (rw_box R3.out HA.out)) D01.out D02.out D12.out D03.out D13.out D23.out (HLB.out.trans (hm4.toB HLB.out.size (fun k hk => hk ▸ HLO.out)))⟩
                        · refine al_ (obj := .cells #[.slice none 0 0, .slice none 0 0, .slice none 0 0, .slice none 0 0] 51) (by rfl) rfl ?hrun ?_
                          case hrun => (go_simp <;> (refine ⟨?_, ?_⟩ <;> rfl))
                          intro wA b11 hb11 hAx hbA
                          have HA := Aside0.mk hAx
                          have HLO := Aside0.mk (show wN.heap.size ≤ b11 by rw [hb11]; exact below_size (w := wN) (by repeat (first | (with_reducible first | exact HLB.out | apply below_alloc | apply pw_below_drewN | apply below_drew1) | exact HLB.out)))
                          (try (have n0_ := Aside0.mk (R0.out.below (below_step (by repeat (first | (with_reducible first | exact Below.refl _ _ | apply below_alloc | apply pw_below_drewN | apply below_drew1) | exact Below.refl _ _)) hbA)); clear R0; have R0 := n0_; clear n0_))
                          (try (have n0_ := Aside0.mk (R1.out.below (below_step (by repeat (first | (with_reducible first | exact Below.refl _ _ | apply below_alloc | apply pw_below_drewN | apply below_drew1) | exact Below.refl _ _)) hbA)); clear R1; have R1 := n0_; clear n0_))
                          (try (have n0_ := Aside0.mk (R2.out.below (below_step (by repeat (first | (with_reducible first | exact Below.refl _ _ | apply below_alloc | apply pw_below_drewN | apply below_drew1) | exact Below.refl _ _)) hbA)); clear R2; have R2 := n0_; clear n0_))
                          (try (have n0_ := Aside0.mk (R3.out.below (below_step (by repeat (first | (with_reducible first | exact Below.refl _ _ | apply below_alloc | apply pw_below_drewN | apply below_drew1) | exact Below.refl _ _)) hbA)); clear R3; have R3 := n0_; clear n0_))
                          have n_ := Aside0.mk (below_step (by repeat (first | (with_reducible first | exact HLB.out | apply below_alloc | apply pw_below_drewN | apply below_drew1) | exact HLB.out)) hbA)
                          clear HLB hb11 hAx hbA
                          have HLB := n_
                          clear n_
                          refine hK.out _ _ (bk4 BXN.out (by repeat (first | (with_reducible first | exact HLB.out | apply below_alloc | apply pw_below_drewN | apply below_drew1) | exact HLB.out))) (fun hHeld => ?_)
                          clear hK K
                          refine norm_ (a' := ?_) ?_ ?_
                          rotate_left
                          · show Act.put _ (some 11) _ = _
                            simp only [Act.put, List.setIfInBounds_toArray, List.set_cons_zero, List.set_cons_succ, i64_w, i32_w]
                            rfl
                          refine one_ (i := 27) (N := some 85) #[true, true, true, true, true, true, true, true, true, true, true, true, true, true, true, true, true, true, true, true, true, true, true, true, true, true, true, true, false, true, false] rfl rfl (one_of HT_.out (by kernel_rfl)) (by decide) (fun K hK => ?_)
                          refine goes_ Try.func19 (by kernel_rfl) rfl #[.pointer (some ⟨g1, 0, none⟩), .agg #[.int .i64 s.x, .int .i64 s.y], .int .i64 s.r, .int .i64 s.n] (by rfl) rfl rfl (by (try simp only [List.map_toArray, List.map_cons, List.map_nil]); first | done | rfl) ?_
                          with_reducible refine (gs_nearest_w HGN.out ?s1 HN2.out z2 z3 z4 ms hms MX hMX).mono ?_
                          case s1 => exact (by repeat (first | (with_reducible first | exact HLB.out | apply below_alloc | apply pw_below_drewN | apply below_drew1) | exact HLB.out))
                          rintro e w8 ⟨A3, rfl, hR, hb5⟩
                          refine ⟨_, rfl, ?_⟩
                          have D03 := Aside0.mk (fun k hk k' hk' => Nat.lt_of_lt_of_le (R0.out.lt k (by rw [own_A]; exact hk)).1 (Nat.le_trans (below_size (by repeat (first | (with_reducible first | exact Below.refl _ _ | apply below_alloc | apply pw_below_drewN | apply below_drew1) | exact Below.refl _ _))) (hR.lt k' (by rw [own_A]; exact hk')).2.1))
                          have D13 := Aside0.mk (fun k hk k' hk' => Nat.lt_of_lt_of_le (R1.out.lt k (by rw [own_A]; exact hk)).1 (Nat.le_trans (below_size (by repeat (first | (with_reducible first | exact Below.refl _ _ | apply below_alloc | apply pw_below_drewN | apply below_drew1) | exact Below.refl _ _))) (hR.lt k' (by rw [own_A]; exact hk')).2.1))
                          have D23 := Aside0.mk (fun k hk k' hk' => Nat.lt_of_lt_of_le (R2.out.lt k (by rw [own_A]; exact hk)).1 (Nat.le_trans (below_size (by repeat (first | (with_reducible first | exact Below.refl _ _ | apply below_alloc | apply pw_below_drewN | apply below_drew1) | exact Below.refl _ _))) (hR.lt k' (by rw [own_A]; exact hk')).2.1))
                          have R3_ := Aside0.mk (hR.lower (below_size (w := wN) (by repeat (first | (with_reducible first | exact HLB.out | apply below_alloc | apply pw_below_drewN | apply below_drew1) | exact HLB.out))))
                          (try (have n0_ := Aside0.mk (R0.out.below (below_step (by repeat (first | (with_reducible first | exact Below.refl _ _ | apply below_alloc | apply pw_below_drewN | apply below_drew1) | exact Below.refl _ _)) hb5)); clear R0; have R0 := n0_; clear n0_))
                          (try (have n0_ := Aside0.mk (R1.out.below (below_step (by repeat (first | (with_reducible first | exact Below.refl _ _ | apply below_alloc | apply pw_below_drewN | apply below_drew1) | exact Below.refl _ _)) hb5)); clear R1; have R1 := n0_; clear n0_))
                          (try (have n0_ := Aside0.mk (R2.out.below (below_step (by repeat (first | (with_reducible first | exact Below.refl _ _ | apply below_alloc | apply pw_below_drewN | apply below_drew1) | exact Below.refl _ _)) hb5)); clear R2; have R2 := n0_; clear n0_))
                          (try (have n0_ := Aside0.mk (blk_below HA.out (below_step (by repeat (first | (with_reducible first | exact Below.refl _ _ | apply below_alloc | apply pw_below_drewN | apply below_drew1) | exact Below.refl _ _)) hb5)); clear HA; have HA := n0_; clear n0_))
                          have R3 := R3_
                          have n_ := Aside0.mk (below_step (by repeat (first | (with_reducible first | exact HLB.out | apply below_alloc | apply pw_below_drewN | apply below_drew1) | exact HLB.out)) hb5)
                          clear HLB hb5 hR R3_
                          have HLB := n_
                          clear n_
                          refine hK.out _ _ (bk4 BXN.out (by repeat (first | (with_reducible first | exact HLB.out | apply below_alloc | apply pw_below_drewN | apply below_drew1) | exact HLB.out))) (fun hHeld => ?_)
                          clear hK K
                          refine norm_ (a' := ?_) ?_ ?_
                          rotate_left
                          · show Act.put _ (some 85) _ = _
                            simp only [Act.put, List.setIfInBounds_toArray, List.set_cons_zero, List.set_cons_succ, i64_w, i32_w]
                            rfl
                          refine pure_ (i := 28) (N := some 86) (v := ?_) (a' := ?_) #[true, true, true, true, true, true, true, true, true, true, true, true, true, true, true, true, true, true, true, true, true, true, true, true, true, true, true, true, true, true, false] rfl rfl (any_of HT_.out (by kernel_rfl)) (fun _ _ _ h => h) (Or.inl ⟨by rfl, ?_⟩) ?_ ?_
                          rotate_left
                          · intro w'
                            go_simp
                            with_reducible rfl
                          rotate_left
                          · simp only [Act.put, List.setIfInBounds_toArray, List.set_cons_zero, List.set_cons_succ, i64_w, i32_w]
                            rfl
                          refine last_ (i := 30) (N := none) #[true, true, true, true, true, true, true, true, true, true, true, true, true, true, true, true, true, true, true, true, true, true, true, true, true, true, true, true, true, true, true] rfl rfl (one_of HT_.out (by kernel_rfl)) (by decide) (fun K hK => ?_)
                          refine unit_ (w' := ?_) (by rfl) rfl ?hrun ?_
                          case hrun => (refine store4 (A0 := A0) (A1 := A1) (A2 := A2) (A3 := A3) (n0 := KX) (n1 := MX) (n2 := KX) (n3 := MX) (c0 := c0) (c1 := MX) (c2 := c2) (c3 := MX) (p := .tmp 11) (q := .tmp 86) ?_ ?_ ?_ HA.out <;> rfl)
                          refine hK.out _ _ ?_
                          clear hK K
                          refine norm_ (a' := ?_) ?_ ?_
                          rotate_left
                          · show Act.put _ (none) _ = _
                            simp only [Act.put, List.setIfInBounds_toArray, List.set_cons_zero, List.set_cons_succ, i64_w, i32_w]
                            rfl
                          refine done_ (done_of HT_.out (by kernel_rfl)) ?_
                          clear hHeld HT_ HW_
                          go_wp2
                          go_meet
                          case rel =>
                            have hm4 := Mv.of_grown (S := fun k => k = b11) (grown4 (v0 := .slice A0 KX c0) (v1 := .slice A1 MX MX) (v2 := .slice A2 KX c2) (v3 := .slice A3 MX MX) HA.out) (fun k hk => by injection hk with hk; exact hk.symm)
                            exact ⟨b11, _, rfl, four_mk (put4 HA.out) HLO.out HKM.out.1 HKM.out.2 (R0.out.mv hm4 (rw_box R0.out HA.out)) (R1.out.mv hm4 (rw_box R1.out HA.out)) (R2.out.mv hm4 (rw_box R2.out HA.out)) (R3.out.mv hm4 (rw_box R3.out HA.out)) D01.out D02.out D12.out D03.out D13.out D23.out (HLB.out.trans (hm4.toB HLB.out.size (fun k hk => hk ▸ HLO.out)))⟩
                      · refine al_ (obj := .cells #[.slice none 0 0, .slice none 0 0, .slice none 0 0, .slice none 0 0] 51) (by rfl) rfl ?hrun ?_
                        case hrun => (go_simp <;> (refine ⟨?_, ?_⟩ <;> rfl))
                        intro wA b11 hb11 hAx hbA
                        have HA := Aside0.mk hAx
                        have HLO := Aside0.mk (show wN.heap.size ≤ b11 by rw [hb11]; exact below_size (w := wN) (by repeat (first | (with_reducible first | exact HLB.out | apply below_alloc | apply pw_below_drewN | apply below_drew1) | exact HLB.out)))
                        (try (have n0_ := Aside0.mk (R0.out.below (below_step (by repeat (first | (with_reducible first | exact Below.refl _ _ | apply below_alloc | apply pw_below_drewN | apply below_drew1) | exact Below.refl _ _)) hbA)); clear R0; have R0 := n0_; clear n0_))
                        (try (have n0_ := Aside0.mk (R1.out.below (below_step (by repeat (first | (with_reducible first | exact Below.refl _ _ | apply below_alloc | apply pw_below_drewN | apply below_drew1) | exact Below.refl _ _)) hbA)); clear R1; have R1 := n0_; clear n0_))
                        (try (have n0_ := Aside0.mk (R2.out.below (below_step (by repeat (first | (with_reducible first | exact Below.refl _ _ | apply below_alloc | apply pw_below_drewN | apply below_drew1) | exact Below.refl _ _)) hbA)); clear R2; have R2 := n0_; clear n0_))
                        (try (have n0_ := Aside0.mk (R3.out.below (below_step (by repeat (first | (with_reducible first | exact Below.refl _ _ | apply below_alloc | apply pw_below_drewN | apply below_drew1) | exact Below.refl _ _)) hbA)); clear R3; have R3 := n0_; clear n0_))
                        have n_ := Aside0.mk (below_step (by repeat (first | (with_reducible first | exact HLB.out | apply below_alloc | apply pw_below_drewN | apply below_drew1) | exact HLB.out)) hbA)
                        clear HLB hb11 hAx hbA
                        have HLB := n_
                        clear n_
                        refine hK.out _ _ (bk4 BXN.out (by repeat (first | (with_reducible first | exact HLB.out | apply below_alloc | apply pw_below_drewN | apply below_drew1) | exact HLB.out))) (fun hHeld => ?_)
                        clear hK K
                        refine norm_ (a' := ?_) ?_ ?_
                        rotate_left
                        · show Act.put _ (some 11) _ = _
                          simp only [Act.put, List.setIfInBounds_toArray, List.set_cons_zero, List.set_cons_succ, i64_w, i32_w]
                          rfl
                        refine one_ (i := 19) (N := some 77) #[true, true, true, true, true, true, true, true, true, true, true, true, true, true, true, true, true, true, true, true, true, true, true, true, true, true, true, false, false, true, false] rfl rfl (one_of HT_.out (by kernel_rfl)) (by decide) (fun K hK => ?_)
                        refine goes_ Try.func17 (by kernel_rfl) rfl #[.pointer (some ⟨g1, 0, none⟩), .agg #[.int .i64 s.x, .int .i64 s.y], .int .i64 s.r] (by rfl) rfl rfl (by (try simp only [List.map_toArray, List.map_cons, List.map_nil]); first | done | rfl) ?_
                        with_reducible refine (gs_near_w HGN.out ?s1 HN2.out z2 z3 z4 xs hxs KX hKX).mono ?_
                        case s1 => exact (by repeat (first | (with_reducible first | exact HLB.out | apply below_alloc | apply pw_below_drewN | apply below_drew1) | exact HLB.out))
                        rintro e w7 ⟨A2, c2, rfl, hR, hb5⟩
                        refine ⟨_, rfl, ?_⟩
                        have D02 := Aside0.mk (fun k hk k' hk' => Nat.lt_of_lt_of_le (R0.out.lt k (by rw [own_A]; exact hk)).1 (Nat.le_trans (below_size (by repeat (first | (with_reducible first | exact Below.refl _ _ | apply below_alloc | apply pw_below_drewN | apply below_drew1) | exact Below.refl _ _))) (hR.lt k' (by rw [own_A]; exact hk')).2.1))
                        have D12 := Aside0.mk (fun k hk k' hk' => Nat.lt_of_lt_of_le (R1.out.lt k (by rw [own_A]; exact hk)).1 (Nat.le_trans (below_size (by repeat (first | (with_reducible first | exact Below.refl _ _ | apply below_alloc | apply pw_below_drewN | apply below_drew1) | exact Below.refl _ _))) (hR.lt k' (by rw [own_A]; exact hk')).2.1))
                        have R2_ := Aside0.mk (hR.lower (below_size (w := wN) (by repeat (first | (with_reducible first | exact HLB.out | apply below_alloc | apply pw_below_drewN | apply below_drew1) | exact HLB.out))))
                        (try (have n0_ := Aside0.mk (R0.out.below (below_step (by repeat (first | (with_reducible first | exact Below.refl _ _ | apply below_alloc | apply pw_below_drewN | apply below_drew1) | exact Below.refl _ _)) hb5)); clear R0; have R0 := n0_; clear n0_))
                        (try (have n0_ := Aside0.mk (R1.out.below (below_step (by repeat (first | (with_reducible first | exact Below.refl _ _ | apply below_alloc | apply pw_below_drewN | apply below_drew1) | exact Below.refl _ _)) hb5)); clear R1; have R1 := n0_; clear n0_))
                        (try (have n0_ := Aside0.mk (R2.out.below (below_step (by repeat (first | (with_reducible first | exact Below.refl _ _ | apply below_alloc | apply pw_below_drewN | apply below_drew1) | exact Below.refl _ _)) hb5)); clear R2; have R2 := n0_; clear n0_))
                        (try (have n0_ := Aside0.mk (blk_below HA.out (below_step (by repeat (first | (with_reducible first | exact Below.refl _ _ | apply below_alloc | apply pw_below_drewN | apply below_drew1) | exact Below.refl _ _)) hb5)); clear HA; have HA := n0_; clear n0_))
                        have R2 := R2_
                        have n_ := Aside0.mk (below_step (by repeat (first | (with_reducible first | exact HLB.out | apply below_alloc | apply pw_below_drewN | apply below_drew1) | exact HLB.out)) hb5)
                        clear HLB hb5 hR R2_
                        have HLB := n_
                        clear n_
                        refine hK.out _ _ (bk4 BXN.out (by repeat (first | (with_reducible first | exact HLB.out | apply below_alloc | apply pw_below_drewN | apply below_drew1) | exact HLB.out))) (fun hHeld => ?_)
                        clear hK K
                        refine norm_ (a' := ?_) ?_ ?_
                        rotate_left
                        · show Act.put _ (some 77) _ = _
                          simp only [Act.put, List.setIfInBounds_toArray, List.set_cons_zero, List.set_cons_succ, i64_w, i32_w]
                          rfl
                        refine one_ (i := 27) (N := some 85) #[true, true, true, true, true, true, true, true, true, true, true, true, true, true, true, true, true, true, true, true, true, true, true, true, true, true, true, true, false, true, false] rfl rfl (one_of HT_.out (by kernel_rfl)) (by decide) (fun K hK => ?_)
                        refine goes_ Try.func19 (by kernel_rfl) rfl #[.pointer (some ⟨g1, 0, none⟩), .agg #[.int .i64 s.x, .int .i64 s.y], .int .i64 s.r, .int .i64 s.n] (by rfl) rfl rfl (by (try simp only [List.map_toArray, List.map_cons, List.map_nil]); first | done | rfl) ?_
                        with_reducible refine (gs_nearest_w HGN.out ?s1 HN2.out z2 z3 z4 ms hms MX hMX).mono ?_
                        case s1 => exact (by repeat (first | (with_reducible first | exact HLB.out | apply below_alloc | apply pw_below_drewN | apply below_drew1) | exact HLB.out))
                        rintro e w8 ⟨A3, rfl, hR, hb5⟩
                        refine ⟨_, rfl, ?_⟩
                        have D03 := Aside0.mk (fun k hk k' hk' => Nat.lt_of_lt_of_le (R0.out.lt k (by rw [own_A]; exact hk)).1 (Nat.le_trans (below_size (by repeat (first | (with_reducible first | exact Below.refl _ _ | apply below_alloc | apply pw_below_drewN | apply below_drew1) | exact Below.refl _ _))) (hR.lt k' (by rw [own_A]; exact hk')).2.1))
                        have D13 := Aside0.mk (fun k hk k' hk' => Nat.lt_of_lt_of_le (R1.out.lt k (by rw [own_A]; exact hk)).1 (Nat.le_trans (below_size (by repeat (first | (with_reducible first | exact Below.refl _ _ | apply below_alloc | apply pw_below_drewN | apply below_drew1) | exact Below.refl _ _))) (hR.lt k' (by rw [own_A]; exact hk')).2.1))
                        have D23 := Aside0.mk (fun k hk k' hk' => Nat.lt_of_lt_of_le (R2.out.lt k (by rw [own_A]; exact hk)).1 (Nat.le_trans (below_size (by repeat (first | (with_reducible first | exact Below.refl _ _ | apply below_alloc | apply pw_below_drewN | apply below_drew1) | exact Below.refl _ _))) (hR.lt k' (by rw [own_A]; exact hk')).2.1))
                        have R3_ := Aside0.mk (hR.lower (below_size (w := wN) (by repeat (first | (with_reducible first | exact HLB.out | apply below_alloc | apply pw_below_drewN | apply below_drew1) | exact HLB.out))))
                        (try (have n0_ := Aside0.mk (R0.out.below (below_step (by repeat (first | (with_reducible first | exact Below.refl _ _ | apply below_alloc | apply pw_below_drewN | apply below_drew1) | exact Below.refl _ _)) hb5)); clear R0; have R0 := n0_; clear n0_))
                        (try (have n0_ := Aside0.mk (R1.out.below (below_step (by repeat (first | (with_reducible first | exact Below.refl _ _ | apply below_alloc | apply pw_below_drewN | apply below_drew1) | exact Below.refl _ _)) hb5)); clear R1; have R1 := n0_; clear n0_))
                        (try (have n0_ := Aside0.mk (R2.out.below (below_step (by repeat (first | (with_reducible first | exact Below.refl _ _ | apply below_alloc | apply pw_below_drewN | apply below_drew1) | exact Below.refl _ _)) hb5)); clear R2; have R2 := n0_; clear n0_))
                        (try (have n0_ := Aside0.mk (blk_below HA.out (below_step (by repeat (first | (with_reducible first | exact Below.refl _ _ | apply below_alloc | apply pw_below_drewN | apply below_drew1) | exact Below.refl _ _)) hb5)); clear HA; have HA := n0_; clear n0_))
                        have R3 := R3_
                        have n_ := Aside0.mk (below_step (by repeat (first | (with_reducible first | exact HLB.out | apply below_alloc | apply pw_below_drewN | apply below_drew1) | exact HLB.out)) hb5)
                        clear HLB hb5 hR R3_
                        have HLB := n_
                        clear n_
                        refine hK.out _ _ (bk4 BXN.out (by repeat (first | (with_reducible first | exact HLB.out | apply below_alloc | apply pw_below_drewN | apply below_drew1) | exact HLB.out))) (fun hHeld => ?_)
                        clear hK K
                        refine norm_ (a' := ?_) ?_ ?_
                        rotate_left
                        · show Act.put _ (some 85) _ = _
                          simp only [Act.put, List.setIfInBounds_toArray, List.set_cons_zero, List.set_cons_succ, i64_w, i32_w]
                          rfl
                        refine pure_ (i := 28) (N := some 86) (v := ?_) (a' := ?_) #[true, true, true, true, true, true, true, true, true, true, true, true, true, true, true, true, true, true, true, true, true, true, true, true, true, true, true, true, true, true, false] rfl rfl (any_of HT_.out (by kernel_rfl)) (fun _ _ _ h => h) (Or.inl ⟨by rfl, ?_⟩) ?_ ?_
                        rotate_left
                        · intro w'
                          go_simp
                          with_reducible rfl
                        rotate_left
                        · simp only [Act.put, List.setIfInBounds_toArray, List.set_cons_zero, List.set_cons_succ, i64_w, i32_w]
                          rfl
                        refine last_ (i := 30) (N := none) #[true, true, true, true, true, true, true, true, true, true, true, true, true, true, true, true, true, true, true, true, true, true, true, true, true, true, true, true, true, true, true] rfl rfl (one_of HT_.out (by kernel_rfl)) (by decide) (fun K hK => ?_)
                        refine unit_ (w' := ?_) (by rfl) rfl ?hrun ?_
                        case hrun => (refine store4 (A0 := A0) (A1 := A1) (A2 := A2) (A3 := A3) (n0 := KX) (n1 := MX) (n2 := KX) (n3 := MX) (c0 := c0) (c1 := MX) (c2 := c2) (c3 := MX) (p := .tmp 11) (q := .tmp 86) ?_ ?_ ?_ HA.out <;> rfl)
                        refine hK.out _ _ ?_
                        clear hK K
                        refine norm_ (a' := ?_) ?_ ?_
                        rotate_left
                        · show Act.put _ (none) _ = _
                          simp only [Act.put, List.setIfInBounds_toArray, List.set_cons_zero, List.set_cons_succ, i64_w, i32_w]
                          rfl
                        refine done_ (done_of HT_.out (by kernel_rfl)) ?_
                        clear hHeld HT_ HW_
                        go_wp2
                        go_meet
                        case rel =>
                          have hm4 := Mv.of_grown (S := fun k => k = b11) (grown4 (v0 := .slice A0 KX c0) (v1 := .slice A1 MX MX) (v2 := .slice A2 KX c2) (v3 := .slice A3 MX MX) HA.out) (fun k hk => by injection hk with hk; exact hk.symm)
                          exact ⟨b11, _, rfl, four_mk (put4 HA.out) HLO.out HKM.out.1 HKM.out.2 (R0.out.mv hm4 (rw_box R0.out HA.out)) (R1.out.mv hm4 (rw_box R1.out HA.out)) (R2.out.mv hm4 (rw_box R2.out HA.out)) (R3.out.mv hm4 (rw_box R3.out HA.out)) D01.out D02.out D12.out D03.out D13.out D23.out (HLB.out.trans (hm4.toB HLB.out.size (fun k hk => hk ▸ HLO.out)))⟩
                    · refine al_ (obj := .cells #[.slice none 0 0, .slice none 0 0, .slice none 0 0, .slice none 0 0] 51) (by rfl) rfl ?hrun ?_
                      case hrun => (go_simp <;> (refine ⟨?_, ?_⟩ <;> rfl))
                      intro wA b11 hb11 hAx hbA
                      have HA := Aside0.mk hAx
                      have HLO := Aside0.mk (show wN.heap.size ≤ b11 by rw [hb11]; exact below_size (w := wN) (by repeat (first | (with_reducible first | exact HLB.out | apply below_alloc | apply pw_below_drewN | apply below_drew1) | exact HLB.out)))
                      (try (have n0_ := Aside0.mk (R0.out.below (below_step (by repeat (first | (with_reducible first | exact Below.refl _ _ | apply below_alloc | apply pw_below_drewN | apply below_drew1) | exact Below.refl _ _)) hbA)); clear R0; have R0 := n0_; clear n0_))
                      (try (have n0_ := Aside0.mk (R1.out.below (below_step (by repeat (first | (with_reducible first | exact Below.refl _ _ | apply below_alloc | apply pw_below_drewN | apply below_drew1) | exact Below.refl _ _)) hbA)); clear R1; have R1 := n0_; clear n0_))
                      (try (have n0_ := Aside0.mk (R2.out.below (below_step (by repeat (first | (with_reducible first | exact Below.refl _ _ | apply below_alloc | apply pw_below_drewN | apply below_drew1) | exact Below.refl _ _)) hbA)); clear R2; have R2 := n0_; clear n0_))
                      (try (have n0_ := Aside0.mk (R3.out.below (below_step (by repeat (first | (with_reducible first | exact Below.refl _ _ | apply below_alloc | apply pw_below_drewN | apply below_drew1) | exact Below.refl _ _)) hbA)); clear R3; have R3 := n0_; clear n0_))
                      have n_ := Aside0.mk (below_step (by repeat (first | (with_reducible first | exact HLB.out | apply below_alloc | apply pw_below_drewN | apply below_drew1) | exact HLB.out)) hbA)
                      clear HLB hb11 hAx hbA
                      have HLB := n_
                      clear n_
                      refine hK.out _ _ (bk4 BXN.out (by repeat (first | (with_reducible first | exact HLB.out | apply below_alloc | apply pw_below_drewN | apply below_drew1) | exact HLB.out))) (fun hHeld => ?_)
                      clear hK K
                      refine norm_ (a' := ?_) ?_ ?_
                      rotate_left
                      · show Act.put _ (some 11) _ = _
                        simp only [Act.put, List.setIfInBounds_toArray, List.set_cons_zero, List.set_cons_succ, i64_w, i32_w]
                        rfl
                      refine one_ (i := 13) (N := some 71) #[true, true, true, true, true, true, true, true, true, true, true, true, true, true, true, true, true, true, true, false, true, true, true, true, true, true, true, false, false, true, false] rfl rfl (one_of HT_.out (by kernel_rfl)) (by decide) (fun K hK => ?_)
                      refine goes_ Try.func19 (by kernel_rfl) rfl #[.pointer (some ⟨g1, 0, none⟩), .agg #[.int .i64 s.x, .int .i64 s.y], .int .i64 s.r, .int .i64 s.n] (by rfl) rfl rfl (by (try simp only [List.map_toArray, List.map_cons, List.map_nil]); first | done | rfl) ?_
                      with_reducible refine (gs_nearest_w HGN.out ?s1 HN2.out z2 z3 z4 ms hms MX hMX).mono ?_
                      case s1 => exact (by repeat (first | (with_reducible first | exact HLB.out | apply below_alloc | apply pw_below_drewN | apply below_drew1) | exact HLB.out))
                      rintro e w6 ⟨A1, rfl, hR, hb5⟩
                      refine ⟨_, rfl, ?_⟩
                      have D01 := Aside0.mk (fun k hk k' hk' => Nat.lt_of_lt_of_le (R0.out.lt k (by rw [own_A]; exact hk)).1 (Nat.le_trans (below_size (by repeat (first | (with_reducible first | exact Below.refl _ _ | apply below_alloc | apply pw_below_drewN | apply below_drew1) | exact Below.refl _ _))) (hR.lt k' (by rw [own_A]; exact hk')).2.1))
                      have R1_ := Aside0.mk (hR.lower (below_size (w := wN) (by repeat (first | (with_reducible first | exact HLB.out | apply below_alloc | apply pw_below_drewN | apply below_drew1) | exact HLB.out))))
                      (try (have n0_ := Aside0.mk (R0.out.below (below_step (by repeat (first | (with_reducible first | exact Below.refl _ _ | apply below_alloc | apply pw_below_drewN | apply below_drew1) | exact Below.refl _ _)) hb5)); clear R0; have R0 := n0_; clear n0_))
                      (try (have n0_ := Aside0.mk (R1.out.below (below_step (by repeat (first | (with_reducible first | exact Below.refl _ _ | apply below_alloc | apply pw_below_drewN | apply below_drew1) | exact Below.refl _ _)) hb5)); clear R1; have R1 := n0_; clear n0_))
                      (try (have n0_ := Aside0.mk (R2.out.below (below_step (by repeat (first | (with_reducible first | exact Below.refl _ _ | apply below_alloc | apply pw_below_drewN | apply below_drew1) | exact Below.refl _ _)) hb5)); clear R2; have R2 := n0_; clear n0_))
                      (try (have n0_ := Aside0.mk (blk_below HA.out (below_step (by repeat (first | (with_reducible first | exact Below.refl _ _ | apply below_alloc | apply pw_below_drewN | apply below_drew1) | exact Below.refl _ _)) hb5)); clear HA; have HA := n0_; clear n0_))
                      have R1 := R1_
                      have n_ := Aside0.mk (below_step (by repeat (first | (with_reducible first | exact HLB.out | apply below_alloc | apply pw_below_drewN | apply below_drew1) | exact HLB.out)) hb5)
                      clear HLB hb5 hR R1_
                      have HLB := n_
                      clear n_
                      refine hK.out _ _ (bk4 BXN.out (by repeat (first | (with_reducible first | exact HLB.out | apply below_alloc | apply pw_below_drewN | apply below_drew1) | exact HLB.out))) (fun hHeld => ?_)
                      clear hK K
                      refine norm_ (a' := ?_) ?_ ?_
                      rotate_left
                      · show Act.put _ (some 71) _ = _
                        simp only [Act.put, List.setIfInBounds_toArray, List.set_cons_zero, List.set_cons_succ, i64_w, i32_w]
                        rfl
                      refine one_ (i := 19) (N := some 77) #[true, true, true, true, true, true, true, true, true, true, true, true, true, true, true, true, true, true, true, true, true, true, true, true, true, true, true, false, false, true, false] rfl rfl (one_of HT_.out (by kernel_rfl)) (by decide) (fun K hK => ?_)
                      refine goes_ Try.func17 (by kernel_rfl) rfl #[.pointer (some ⟨g1, 0, none⟩), .agg #[.int .i64 s.x, .int .i64 s.y], .int .i64 s.r] (by rfl) rfl rfl (by (try simp only [List.map_toArray, List.map_cons, List.map_nil]); first | done | rfl) ?_
                      with_reducible refine (gs_near_w HGN.out ?s1 HN2.out z2 z3 z4 xs hxs KX hKX).mono ?_
                      case s1 => exact (by repeat (first | (with_reducible first | exact HLB.out | apply below_alloc | apply pw_below_drewN | apply below_drew1) | exact HLB.out))
                      rintro e w7 ⟨A2, c2, rfl, hR, hb5⟩
                      refine ⟨_, rfl, ?_⟩
                      have D02 := Aside0.mk (fun k hk k' hk' => Nat.lt_of_lt_of_le (R0.out.lt k (by rw [own_A]; exact hk)).1 (Nat.le_trans (below_size (by repeat (first | (with_reducible first | exact Below.refl _ _ | apply below_alloc | apply pw_below_drewN | apply below_drew1) | exact Below.refl _ _))) (hR.lt k' (by rw [own_A]; exact hk')).2.1))
                      have D12 := Aside0.mk (fun k hk k' hk' => Nat.lt_of_lt_of_le (R1.out.lt k (by rw [own_A]; exact hk)).1 (Nat.le_trans (below_size (by repeat (first | (with_reducible first | exact Below.refl _ _ | apply below_alloc | apply pw_below_drewN | apply below_drew1) | exact Below.refl _ _))) (hR.lt k' (by rw [own_A]; exact hk')).2.1))
                      have R2_ := Aside0.mk (hR.lower (below_size (w := wN) (by repeat (first | (with_reducible first | exact HLB.out | apply below_alloc | apply pw_below_drewN | apply below_drew1) | exact HLB.out))))
                      (try (have n0_ := Aside0.mk (R0.out.below (below_step (by repeat (first | (with_reducible first | exact Below.refl _ _ | apply below_alloc | apply pw_below_drewN | apply below_drew1) | exact Below.refl _ _)) hb5)); clear R0; have R0 := n0_; clear n0_))
                      (try (have n0_ := Aside0.mk (R1.out.below (below_step (by repeat (first | (with_reducible first | exact Below.refl _ _ | apply below_alloc | apply pw_below_drewN | apply below_drew1) | exact Below.refl _ _)) hb5)); clear R1; have R1 := n0_; clear n0_))
                      (try (have n0_ := Aside0.mk (R2.out.below (below_step (by repeat (first | (with_reducible first | exact Below.refl _ _ | apply below_alloc | apply pw_below_drewN | apply below_drew1) | exact Below.refl _ _)) hb5)); clear R2; have R2 := n0_; clear n0_))
                      (try (have n0_ := Aside0.mk (blk_below HA.out (below_step (by repeat (first | (with_reducible first | exact Below.refl _ _ | apply below_alloc | apply pw_below_drewN | apply below_drew1) | exact Below.refl _ _)) hb5)); clear HA; have HA := n0_; clear n0_))
                      have R2 := R2_
                      have n_ := Aside0.mk (below_step (by repeat (first | (with_reducible first | exact HLB.out | apply below_alloc | apply pw_below_drewN | apply below_drew1) | exact HLB.out)) hb5)
                      clear HLB hb5 hR R2_
                      have HLB := n_
                      clear n_
                      refine hK.out _ _ (bk4 BXN.out (by repeat (first | (with_reducible first | exact HLB.out | apply below_alloc | apply pw_below_drewN | apply below_drew1) | exact HLB.out))) (fun hHeld => ?_)
                      clear hK K
                      refine norm_ (a' := ?_) ?_ ?_
                      rotate_left
                      · show Act.put _ (some 77) _ = _
                        simp only [Act.put, List.setIfInBounds_toArray, List.set_cons_zero, List.set_cons_succ, i64_w, i32_w]
                        rfl
                      refine one_ (i := 27) (N := some 85) #[true, true, true, true, true, true, true, true, true, true, true, true, true, true, true, true, true, true, true, true, true, true, true, true, true, true, true, true, false, true, false] rfl rfl (one_of HT_.out (by kernel_rfl)) (by decide) (fun K hK => ?_)
                      refine goes_ Try.func19 (by kernel_rfl) rfl #[.pointer (some ⟨g1, 0, none⟩), .agg #[.int .i64 s.x, .int .i64 s.y], .int .i64 s.r, .int .i64 s.n] (by rfl) rfl rfl (by (try simp only [List.map_toArray, List.map_cons, List.map_nil]); first | done | rfl) ?_
                      with_reducible refine (gs_nearest_w HGN.out ?s1 HN2.out z2 z3 z4 ms hms MX hMX).mono ?_
                      case s1 => exact (by repeat (first | (with_reducible first | exact HLB.out | apply below_alloc | apply pw_below_drewN | apply below_drew1) | exact HLB.out))
                      rintro e w8 ⟨A3, rfl, hR, hb5⟩
                      refine ⟨_, rfl, ?_⟩
                      have D03 := Aside0.mk (fun k hk k' hk' => Nat.lt_of_lt_of_le (R0.out.lt k (by rw [own_A]; exact hk)).1 (Nat.le_trans (below_size (by repeat (first | (with_reducible first | exact Below.refl _ _ | apply below_alloc | apply pw_below_drewN | apply below_drew1) | exact Below.refl _ _))) (hR.lt k' (by rw [own_A]; exact hk')).2.1))
                      have D13 := Aside0.mk (fun k hk k' hk' => Nat.lt_of_lt_of_le (R1.out.lt k (by rw [own_A]; exact hk)).1 (Nat.le_trans (below_size (by repeat (first | (with_reducible first | exact Below.refl _ _ | apply below_alloc | apply pw_below_drewN | apply below_drew1) | exact Below.refl _ _))) (hR.lt k' (by rw [own_A]; exact hk')).2.1))
                      have D23 := Aside0.mk (fun k hk k' hk' => Nat.lt_of_lt_of_le (R2.out.lt k (by rw [own_A]; exact hk)).1 (Nat.le_trans (below_size (by repeat (first | (with_reducible first | exact Below.refl _ _ | apply below_alloc | apply pw_below_drewN | apply below_drew1) | exact Below.refl _ _))) (hR.lt k' (by rw [own_A]; exact hk')).2.1))
                      have R3_ := Aside0.mk (hR.lower (below_size (w := wN) (by repeat (first | (with_reducible first | exact HLB.out | apply below_alloc | apply pw_below_drewN | apply below_drew1) | exact HLB.out))))
                      (try (have n0_ := Aside0.mk (R0.out.below (below_step (by repeat (first | (with_reducible first | exact Below.refl _ _ | apply below_alloc | apply pw_below_drewN | apply below_drew1) | exact Below.refl _ _)) hb5)); clear R0; have R0 := n0_; clear n0_))
                      (try (have n0_ := Aside0.mk (R1.out.below (below_step (by repeat (first | (with_reducible first | exact Below.refl _ _ | apply below_alloc | apply pw_below_drewN | apply below_drew1) | exact Below.refl _ _)) hb5)); clear R1; have R1 := n0_; clear n0_))
                      (try (have n0_ := Aside0.mk (R2.out.below (below_step (by repeat (first | (with_reducible first | exact Below.refl _ _ | apply below_alloc | apply pw_below_drewN | apply below_drew1) | exact Below.refl _ _)) hb5)); clear R2; have R2 := n0_; clear n0_))
                      (try (have n0_ := Aside0.mk (blk_below HA.out (below_step (by repeat (first | (with_reducible first | exact Below.refl _ _ | apply below_alloc | apply pw_below_drewN | apply below_drew1) | exact Below.refl _ _)) hb5)); clear HA; have HA := n0_; clear n0_))
                      have R3 := R3_
                      have n_ := Aside0.mk (below_step (by repeat (first | (with_reducible first | exact HLB.out | apply below_alloc | apply pw_below_drewN | apply below_drew1) | exact HLB.out)) hb5)
                      clear HLB hb5 hR R3_
                      have HLB := n_
                      clear n_
                      refine hK.out _ _ (bk4 BXN.out (by repeat (first | (with_reducible first | exact HLB.out | apply below_alloc | apply pw_below_drewN | apply below_drew1) | exact HLB.out))) (fun hHeld => ?_)
                      clear hK K
                      refine norm_ (a' := ?_) ?_ ?_
                      rotate_left
                      · show Act.put _ (some 85) _ = _
                        simp only [Act.put, List.setIfInBounds_toArray, List.set_cons_zero, List.set_cons_succ, i64_w, i32_w]
                        rfl
                      refine pure_ (i := 28) (N := some 86) (v := ?_) (a' := ?_) #[true, true, true, true, true, true, true, true, true, true, true, true, true, true, true, true, true, true, true, true, true, true, true, true, true, true, true, true, true, true, false] rfl rfl (any_of HT_.out (by kernel_rfl)) (fun _ _ _ h => h) (Or.inl ⟨by rfl, ?_⟩) ?_ ?_
                      rotate_left
                      · intro w'
                        go_simp
                        with_reducible rfl
                      rotate_left
                      · simp only [Act.put, List.setIfInBounds_toArray, List.set_cons_zero, List.set_cons_succ, i64_w, i32_w]
                        rfl
                      refine last_ (i := 30) (N := none) #[true, true, true, true, true, true, true, true, true, true, true, true, true, true, true, true, true, true, true, true, true, true, true, true, true, true, true, true, true, true, true] rfl rfl (one_of HT_.out (by kernel_rfl)) (by decide) (fun K hK => ?_)
                      refine unit_ (w' := ?_) (by rfl) rfl ?hrun ?_
                      case hrun => (refine store4 (A0 := A0) (A1 := A1) (A2 := A2) (A3 := A3) (n0 := KX) (n1 := MX) (n2 := KX) (n3 := MX) (c0 := c0) (c1 := MX) (c2 := c2) (c3 := MX) (p := .tmp 11) (q := .tmp 86) ?_ ?_ ?_ HA.out <;> rfl)
                      refine hK.out _ _ ?_
                      clear hK K
                      refine norm_ (a' := ?_) ?_ ?_
                      rotate_left
                      · show Act.put _ (none) _ = _
                        simp only [Act.put, List.setIfInBounds_toArray, List.set_cons_zero, List.set_cons_succ, i64_w, i32_w]
                        rfl
                      refine done_ (done_of HT_.out (by kernel_rfl)) ?_
                      clear hHeld HT_ HW_
                      go_wp2
                      go_meet
                      case rel =>
                        have hm4 := Mv.of_grown (S := fun k => k = b11) (grown4 (v0 := .slice A0 KX c0) (v1 := .slice A1 MX MX) (v2 := .slice A2 KX c2) (v3 := .slice A3 MX MX) HA.out) (fun k hk => by injection hk with hk; exact hk.symm)
                        exact ⟨b11, _, rfl, four_mk (put4 HA.out) HLO.out HKM.out.1 HKM.out.2 (R0.out.mv hm4 (rw_box R0.out HA.out)) (R1.out.mv hm4 (rw_box R1.out HA.out)) (R2.out.mv hm4 (rw_box R2.out HA.out)) (R3.out.mv hm4 (rw_box R3.out HA.out)) D01.out D02.out D12.out D03.out D13.out D23.out (HLB.out.trans (hm4.toB HLB.out.size (fun k hk => hk ▸ HLO.out)))⟩
                  · refine al_ (obj := .cells #[.slice none 0 0, .slice none 0 0, .slice none 0 0, .slice none 0 0] 51) (by rfl) rfl ?hrun ?_
                    case hrun => (go_simp <;> (refine ⟨?_, ?_⟩ <;> rfl))
                    intro wA b11 hb11 hAx hbA
                    have HA := Aside0.mk hAx
                    have HLO := Aside0.mk (show wN.heap.size ≤ b11 by rw [hb11]; exact below_size (w := wN) (by repeat (first | (with_reducible first | exact HLB.out | apply below_alloc | apply pw_below_drewN | apply below_drew1) | exact HLB.out)))
                    (try (have n0_ := Aside0.mk (R0.out.below (below_step (by repeat (first | (with_reducible first | exact Below.refl _ _ | apply below_alloc | apply pw_below_drewN | apply below_drew1) | exact Below.refl _ _)) hbA)); clear R0; have R0 := n0_; clear n0_))
                    (try (have n0_ := Aside0.mk (R1.out.below (below_step (by repeat (first | (with_reducible first | exact Below.refl _ _ | apply below_alloc | apply pw_below_drewN | apply below_drew1) | exact Below.refl _ _)) hbA)); clear R1; have R1 := n0_; clear n0_))
                    (try (have n0_ := Aside0.mk (R2.out.below (below_step (by repeat (first | (with_reducible first | exact Below.refl _ _ | apply below_alloc | apply pw_below_drewN | apply below_drew1) | exact Below.refl _ _)) hbA)); clear R2; have R2 := n0_; clear n0_))
                    (try (have n0_ := Aside0.mk (R3.out.below (below_step (by repeat (first | (with_reducible first | exact Below.refl _ _ | apply below_alloc | apply pw_below_drewN | apply below_drew1) | exact Below.refl _ _)) hbA)); clear R3; have R3 := n0_; clear n0_))
                    have n_ := Aside0.mk (below_step (by repeat (first | (with_reducible first | exact HLB.out | apply below_alloc | apply pw_below_drewN | apply below_drew1) | exact HLB.out)) hbA)
                    clear HLB hb11 hAx hbA
                    have HLB := n_
                    clear n_
                    refine hK.out _ _ (bk4 BXN.out (by repeat (first | (with_reducible first | exact HLB.out | apply below_alloc | apply pw_below_drewN | apply below_drew1) | exact HLB.out))) (fun hHeld => ?_)
                    clear hK K
                    refine norm_ (a' := ?_) ?_ ?_
                    rotate_left
                    · show Act.put _ (some 11) _ = _
                      simp only [Act.put, List.setIfInBounds_toArray, List.set_cons_zero, List.set_cons_succ, i64_w, i32_w]
                      rfl
                    refine one_ (i := 5) (N := some 63) #[true, true, true, true, true, true, true, true, true, true, true, true, true, false, true, true, true, true, true, false, true, true, true, true, true, true, true, false, false, true, false] rfl rfl (one_of HT_.out (by kernel_rfl)) (by decide) (fun K hK => ?_)
                    refine goes_ Try.func17 (by kernel_rfl) rfl #[.pointer (some ⟨g1, 0, none⟩), .agg #[.int .i64 s.x, .int .i64 s.y], .int .i64 s.r] (by rfl) rfl rfl (by (try simp only [List.map_toArray, List.map_cons, List.map_nil]); first | done | rfl) ?_
                    with_reducible refine (gs_near_w HGN.out ?s1 HN2.out z2 z3 z4 xs hxs KX hKX).mono ?_
                    case s1 => exact (by repeat (first | (with_reducible first | exact HLB.out | apply below_alloc | apply pw_below_drewN | apply below_drew1) | exact HLB.out))
                    rintro e w5 ⟨A0, c0, rfl, hR, hb5⟩
                    refine ⟨_, rfl, ?_⟩
                    have R0_ := Aside0.mk (hR.lower (below_size (w := wN) (by repeat (first | (with_reducible first | exact HLB.out | apply below_alloc | apply pw_below_drewN | apply below_drew1) | exact HLB.out))))
                    (try (have n0_ := Aside0.mk (R0.out.below (below_step (by repeat (first | (with_reducible first | exact Below.refl _ _ | apply below_alloc | apply pw_below_drewN | apply below_drew1) | exact Below.refl _ _)) hb5)); clear R0; have R0 := n0_; clear n0_))
                    (try (have n0_ := Aside0.mk (R1.out.below (below_step (by repeat (first | (with_reducible first | exact Below.refl _ _ | apply below_alloc | apply pw_below_drewN | apply below_drew1) | exact Below.refl _ _)) hb5)); clear R1; have R1 := n0_; clear n0_))
                    (try (have n0_ := Aside0.mk (R2.out.below (below_step (by repeat (first | (with_reducible first | exact Below.refl _ _ | apply below_alloc | apply pw_below_drewN | apply below_drew1) | exact Below.refl _ _)) hb5)); clear R2; have R2 := n0_; clear n0_))
                    (try (have n0_ := Aside0.mk (blk_below HA.out (below_step (by repeat (first | (with_reducible first | exact Below.refl _ _ | apply below_alloc | apply pw_below_drewN | apply below_drew1) | exact Below.refl _ _)) hb5)); clear HA; have HA := n0_; clear n0_))
                    have R0 := R0_
                    have n_ := Aside0.mk (below_step (by repeat (first | (with_reducible first | exact HLB.out | apply below_alloc | apply pw_below_drewN | apply below_drew1) | exact HLB.out)) hb5)
                    clear HLB hb5 hR R0_
                    have HLB := n_
                    clear n_
                    refine hK.out _ _ (bk4 BXN.out (by repeat (first | (with_reducible first | exact HLB.out | apply below_alloc | apply pw_below_drewN | apply below_drew1) | exact HLB.out))) (fun hHeld => ?_)
                    clear hK K
                    refine norm_ (a' := ?_) ?_ ?_
                    rotate_left
                    · show Act.put _ (some 63) _ = _
                      simp only [Act.put, List.setIfInBounds_toArray, List.set_cons_zero, List.set_cons_succ, i64_w, i32_w]
                      rfl
                    refine one_ (i := 13) (N := some 71) #[true, true, true, true, true, true, true, true, true, true, true, true, true, true, true, true, true, true, true, false, true, true, true, true, true, true, true, false, false, true, false] rfl rfl (one_of HT_.out (by kernel_rfl)) (by decide) (fun K hK => ?_)
                    refine goes_ Try.func19 (by kernel_rfl) rfl #[.pointer (some ⟨g1, 0, none⟩), .agg #[.int .i64 s.x, .int .i64 s.y], .int .i64 s.r, .int .i64 s.n] (by rfl) rfl rfl (by (try simp only [List.map_toArray, List.map_cons, List.map_nil]); first | done | rfl) ?_
                    with_reducible refine (gs_nearest_w HGN.out ?s1 HN2.out z2 z3 z4 ms hms MX hMX).mono ?_
                    case s1 => exact (by repeat (first | (with_reducible first | exact HLB.out | apply below_alloc | apply pw_below_drewN | apply below_drew1) | exact HLB.out))
                    rintro e w6 ⟨A1, rfl, hR, hb5⟩
                    refine ⟨_, rfl, ?_⟩
                    have D01 := Aside0.mk (fun k hk k' hk' => Nat.lt_of_lt_of_le (R0.out.lt k (by rw [own_A]; exact hk)).1 (Nat.le_trans (below_size (by repeat (first | (with_reducible first | exact Below.refl _ _ | apply below_alloc | apply pw_below_drewN | apply below_drew1) | exact Below.refl _ _))) (hR.lt k' (by rw [own_A]; exact hk')).2.1))
                    have R1_ := Aside0.mk (hR.lower (below_size (w := wN) (by repeat (first | (with_reducible first | exact HLB.out | apply below_alloc | apply pw_below_drewN | apply below_drew1) | exact HLB.out))))
                    (try (have n0_ := Aside0.mk (R0.out.below (below_step (by repeat (first | (with_reducible first | exact Below.refl _ _ | apply below_alloc | apply pw_below_drewN | apply below_drew1) | exact Below.refl _ _)) hb5)); clear R0; have R0 := n0_; clear n0_))
                    (try (have n0_ := Aside0.mk (R1.out.below (below_step (by repeat (first | (with_reducible first | exact Below.refl _ _ | apply below_alloc | apply pw_below_drewN | apply below_drew1) | exact Below.refl _ _)) hb5)); clear R1; have R1 := n0_; clear n0_))
                    (try (have n0_ := Aside0.mk (R2.out.below (below_step (by repeat (first | (with_reducible first | exact Below.refl _ _ | apply below_alloc | apply pw_below_drewN | apply below_drew1) | exact Below.refl _ _)) hb5)); clear R2; have R2 := n0_; clear n0_))
                    (try (have n0_ := Aside0.mk (blk_below HA.out (below_step (by repeat (first | (with_reducible first | exact Below.refl _ _ | apply below_alloc | apply pw_below_drewN | apply below_drew1) | exact Below.refl _ _)) hb5)); clear HA; have HA := n0_; clear n0_))
                    have R1 := R1_
                    have n_ := Aside0.mk (below_step (by repeat (first | (with_reducible first | exact HLB.out | apply below_alloc | apply pw_below_drewN | apply below_drew1) | exact HLB.out)) hb5)
                    clear HLB hb5 hR R1_
                    have HLB := n_
                    clear n_
                    refine hK.out _ _ (bk4 BXN.out (by repeat (first | (with_reducible first | exact HLB.out | apply below_alloc | apply pw_below_drewN | apply below_drew1) | exact HLB.out))) (fun hHeld => ?_)
                    clear hK K
                    refine norm_ (a' := ?_) ?_ ?_
                    rotate_left
                    · show Act.put _ (some 71) _ = _
                      simp only [Act.put, List.setIfInBounds_toArray, List.set_cons_zero, List.set_cons_succ, i64_w, i32_w]
                      rfl
                    refine one_ (i := 19) (N := some 77) #[true, true, true, true, true, true, true, true, true, true, true, true, true, true, true, true, true, true, true, true, true, true, true, true, true, true, true, false, false, true, false] rfl rfl (one_of HT_.out (by kernel_rfl)) (by decide) (fun K hK => ?_)
                    refine goes_ Try.func17 (by kernel_rfl) rfl #[.pointer (some ⟨g1, 0, none⟩), .agg #[.int .i64 s.x, .int .i64 s.y], .int .i64 s.r] (by rfl) rfl rfl (by (try simp only [List.map_toArray, List.map_cons, List.map_nil]); first | done | rfl) ?_
                    with_reducible refine (gs_near_w HGN.out ?s1 HN2.out z2 z3 z4 xs hxs KX hKX).mono ?_
                    case s1 => exact (by repeat (first | (with_reducible first | exact HLB.out | apply below_alloc | apply pw_below_drewN | apply below_drew1) | exact HLB.out))
                    rintro e w7 ⟨A2, c2, rfl, hR, hb5⟩
                    refine ⟨_, rfl, ?_⟩
                    have D02 := Aside0.mk (fun k hk k' hk' => Nat.lt_of_lt_of_le (R0.out.lt k (by rw [own_A]; exact hk)).1 (Nat.le_trans (below_size (by repeat (first | (with_reducible first | exact Below.refl _ _ | apply below_alloc | apply pw_below_drewN | apply below_drew1) | exact Below.refl _ _))) (hR.lt k' (by rw [own_A]; exact hk')).2.1))
                    have D12 := Aside0.mk (fun k hk k' hk' => Nat.lt_of_lt_of_le (R1.out.lt k (by rw [own_A]; exact hk)).1 (Nat.le_trans (below_size (by repeat (first | (with_reducible first | exact Below.refl _ _ | apply below_alloc | apply pw_below_drewN | apply below_drew1) | exact Below.refl _ _))) (hR.lt k' (by rw [own_A]; exact hk')).2.1))
                    have R2_ := Aside0.mk (hR.lower (below_size (w := wN) (by repeat (first | (with_reducible first | exact HLB.out | apply below_alloc | apply pw_below_drewN | apply below_drew1) | exact HLB.out))))
                    (try (have n0_ := Aside0.mk (R0.out.below (below_step (by repeat (first | (with_reducible first | exact Below.refl _ _ | apply below_alloc | apply pw_below_drewN | apply below_drew1) | exact Below.refl _ _)) hb5)); clear R0; have R0 := n0_; clear n0_))
                    (try (have n0_ := Aside0.mk (R1.out.below (below_step (by repeat (first | (with_reducible first | exact Below.refl _ _ | apply below_alloc | apply pw_below_drewN | apply below_drew1) | exact Below.refl _ _)) hb5)); clear R1; have R1 := n0_; clear n0_))
                    (try (have n0_ := Aside0.mk (R2.out.below (below_step (by repeat (first | (with_reducible first | exact Below.refl _ _ | apply below_alloc | apply pw_below_drewN | apply below_drew1) | exact Below.refl _ _)) hb5)); clear R2; have R2 := n0_; clear n0_))
                    (try (have n0_ := Aside0.mk (blk_below HA.out (below_step (by repeat (first | (with_reducible first | exact Below.refl _ _ | apply below_alloc | apply pw_below_drewN | apply below_drew1) | exact Below.refl _ _)) hb5)); clear HA; have HA := n0_; clear n0_))
                    have R2 := R2_
                    have n_ := Aside0.mk (below_step (by repeat (first | (with_reducible first | exact HLB.out | apply below_alloc | apply pw_below_drewN | apply below_drew1) | exact HLB.out)) hb5)
                    clear HLB hb5 hR R2_
                    have HLB := n_
                    clear n_
                    refine hK.out _ _ (bk4 BXN.out (by repeat (first | (with_reducible first | exact HLB.out | apply below_alloc | apply pw_below_drewN | apply below_drew1) | exact HLB.out))) (fun hHeld => ?_)
                    clear hK K
                    refine norm_ (a' := ?_) ?_ ?_
                    rotate_left
                    · show Act.put _ (some 77) _ = _
                      simp only [Act.put, List.setIfInBounds_toArray, List.set_cons_zero, List.set_cons_succ, i64_w, i32_w]
                      rfl
                    refine one_ (i := 27) (N := some 85) #[true, true, true, true, true, true, true, true, true, true, true, true, true, true, true, true, true, true, true, true, true, true, true, true, true, true, true, true, false, true, false] rfl rfl (one_of HT_.out (by kernel_rfl)) (by decide) (fun K hK => ?_)
                    refine goes_ Try.func19 (by kernel_rfl) rfl #[.pointer (some ⟨g1, 0, none⟩), .agg #[.int .i64 s.x, .int .i64 s.y], .int .i64 s.r, .int .i64 s.n] (by rfl) rfl rfl (by (try simp only [List.map_toArray, List.map_cons, List.map_nil]); first | done | rfl) ?_
                    with_reducible refine (gs_nearest_w HGN.out ?s1 HN2.out z2 z3 z4 ms hms MX hMX).mono ?_
                    case s1 => exact (by repeat (first | (with_reducible first | exact HLB.out | apply below_alloc | apply pw_below_drewN | apply below_drew1) | exact HLB.out))
                    rintro e w8 ⟨A3, rfl, hR, hb5⟩
                    refine ⟨_, rfl, ?_⟩
                    have D03 := Aside0.mk (fun k hk k' hk' => Nat.lt_of_lt_of_le (R0.out.lt k (by rw [own_A]; exact hk)).1 (Nat.le_trans (below_size (by repeat (first | (with_reducible first | exact Below.refl _ _ | apply below_alloc | apply pw_below_drewN | apply below_drew1) | exact Below.refl _ _))) (hR.lt k' (by rw [own_A]; exact hk')).2.1))
                    have D13 := Aside0.mk (fun k hk k' hk' => Nat.lt_of_lt_of_le (R1.out.lt k (by rw [own_A]; exact hk)).1 (Nat.le_trans (below_size (by repeat (first | (with_reducible first | exact Below.refl _ _ | apply below_alloc | apply pw_below_drewN | apply below_drew1) | exact Below.refl _ _))) (hR.lt k' (by rw [own_A]; exact hk')).2.1))
                    have D23 := Aside0.mk (fun k hk k' hk' => Nat.lt_of_lt_of_le (R2.out.lt k (by rw [own_A]; exact hk)).1 (Nat.le_trans (below_size (by repeat (first | (with_reducible first | exact Below.refl _ _ | apply below_alloc | apply pw_below_drewN | apply below_drew1) | exact Below.refl _ _))) (hR.lt k' (by rw [own_A]; exact hk')).2.1))
                    have R3_ := Aside0.mk (hR.lower (below_size (w := wN) (by repeat (first | (with_reducible first | exact HLB.out | apply below_alloc | apply pw_below_drewN | apply below_drew1) | exact HLB.out))))
                    (try (have n0_ := Aside0.mk (R0.out.below (below_step (by repeat (first | (with_reducible first | exact Below.refl _ _ | apply below_alloc | apply pw_below_drewN | apply below_drew1) | exact Below.refl _ _)) hb5)); clear R0; have R0 := n0_; clear n0_))
                    (try (have n0_ := Aside0.mk (R1.out.below (below_step (by repeat (first | (with_reducible first | exact Below.refl _ _ | apply below_alloc | apply pw_below_drewN | apply below_drew1) | exact Below.refl _ _)) hb5)); clear R1; have R1 := n0_; clear n0_))
                    (try (have n0_ := Aside0.mk (R2.out.below (below_step (by repeat (first | (with_reducible first | exact Below.refl _ _ | apply below_alloc | apply pw_below_drewN | apply below_drew1) | exact Below.refl _ _)) hb5)); clear R2; have R2 := n0_; clear n0_))
                    (try (have n0_ := Aside0.mk (blk_below HA.out (below_step (by repeat (first | (with_reducible first | exact Below.refl _ _ | apply below_alloc | apply pw_below_drewN | apply below_drew1) | exact Below.refl _ _)) hb5)); clear HA; have HA := n0_; clear n0_))
                    have R3 := R3_
                    have n_ := Aside0.mk (below_step (by repeat (first | (with_reducible first | exact HLB.out | apply below_alloc | apply pw_below_drewN | apply below_drew1) | exact HLB.out)) hb5)
                    clear HLB hb5 hR R3_
                    have HLB := n_
                    clear n_
                    refine hK.out _ _ (bk4 BXN.out (by repeat (first | (with_reducible first | exact HLB.out | apply below_alloc | apply pw_below_drewN | apply below_drew1) | exact HLB.out))) (fun hHeld => ?_)
                    clear hK K
                    refine norm_ (a' := ?_) ?_ ?_
                    rotate_left
                    · show Act.put _ (some 85) _ = _
                      simp only [Act.put, List.setIfInBounds_toArray, List.set_cons_zero, List.set_cons_succ, i64_w, i32_w]
                      rfl
                    refine pure_ (i := 28) (N := some 86) (v := ?_) (a' := ?_) #[true, true, true, true, true, true, true, true, true, true, true, true, true, true, true, true, true, true, true, true, true, true, true, true, true, true, true, true, true, true, false] rfl rfl (any_of HT_.out (by kernel_rfl)) (fun _ _ _ h => h) (Or.inl ⟨by rfl, ?_⟩) ?_ ?_
                    rotate_left
                    · intro w'
                      go_simp
                      with_reducible rfl
                    rotate_left
                    · simp only [Act.put, List.setIfInBounds_toArray, List.set_cons_zero, List.set_cons_succ, i64_w, i32_w]
                      rfl
                    refine last_ (i := 30) (N := none) #[true, true, true, true, true, true, true, true, true, true, true, true, true, true, true, true, true, true, true, true, true, true, true, true, true, true, true, true, true, true, true] rfl rfl (one_of HT_.out (by kernel_rfl)) (by decide) (fun K hK => ?_)
                    refine unit_ (w' := ?_) (by rfl) rfl ?hrun ?_
                    case hrun => (refine store4 (A0 := A0) (A1 := A1) (A2 := A2) (A3 := A3) (n0 := KX) (n1 := MX) (n2 := KX) (n3 := MX) (c0 := c0) (c1 := MX) (c2 := c2) (c3 := MX) (p := .tmp 11) (q := .tmp 86) ?_ ?_ ?_ HA.out <;> rfl)
                    refine hK.out _ _ ?_
                    clear hK K
                    refine norm_ (a' := ?_) ?_ ?_
                    rotate_left
                    · show Act.put _ (none) _ = _
                      simp only [Act.put, List.setIfInBounds_toArray, List.set_cons_zero, List.set_cons_succ, i64_w, i32_w]
                      rfl
                    refine done_ (done_of HT_.out (by kernel_rfl)) ?_
                    clear hHeld HT_ HW_
                    go_wp2
                    go_meet
                    case rel =>
                      have hm4 := Mv.of_grown (S := fun k => k = b11) (grown4 (v0 := .slice A0 KX c0) (v1 := .slice A1 MX MX) (v2 := .slice A2 KX c2) (v3 := .slice A3 MX MX) HA.out) (fun k hk => by injection hk with hk; exact hk.symm)
                      exact ⟨b11, _, rfl, four_mk (put4 HA.out) HLO.out HKM.out.1 HKM.out.2 (R0.out.mv hm4 (rw_box R0.out HA.out)) (R1.out.mv hm4 (rw_box R1.out HA.out)) (R2.out.mv hm4 (rw_box R2.out HA.out)) (R3.out.mv hm4 (rw_box R3.out HA.out)) D01.out D02.out D12.out D03.out D13.out D23.out (HLB.out.trans (hm4.toB HLB.out.size (fun k hk => hk ▸ HLO.out)))⟩
              case rest =>
                as_aux_lemma =>
                  obtain ⟨b11, N, rfl, hF4⟩ := hcut
                  rename World => wc
                  have H4 := Aside0.mk hF4
                  obtain ⟨s0, s1, s2, s3, hN⟩ := four_list hF4.four
                  have hbx := hF4.box
                  rw [hN] at hbx
                  have y0 : wc.cell? ⟨b11, 0, none⟩ = some (.slice s0.A s0.n s0.c) := (blk_cell hbx 0).trans rfl
                  have y1 : wc.cell? ⟨b11, 1, none⟩ = some (.slice s1.A s1.n s1.c) := (blk_cell hbx 1).trans rfl
                  have y2 : wc.cell? ⟨b11, 2, none⟩ = some (.slice s2.A s2.n s2.c) := (blk_cell hbx 2).trans rfl
                  have y3 : wc.cell? ⟨b11, 3, none⟩ = some (.slice s3.A s3.n s3.c) := (blk_cell hbx 3).trans rfl
                  have r0 : Rw wc wN.heap.size (.slice s0.A s0.n s0.c) xs := hF4.pend.row 0 s0 (Nat.zero_le _) (by rw [hN]; rfl)
                  have r1 : Rw wc wN.heap.size (.slice s1.A s1.n s1.c) ms := hF4.pend.row 1 s1 (Nat.zero_le _) (by rw [hN]; rfl)
                  have r2 : Rw wc wN.heap.size (.slice s2.A s2.n s2.c) xs := hF4.pend.row 2 s2 (Nat.zero_le _) (by rw [hN]; rfl)
                  have r3 : Rw wc wN.heap.size (.slice s3.A s3.n s3.c) ms := hF4.pend.row 3 s3 (Nat.zero_le _) (by rw [hN]; rfl)
                  have l0 := hF4.len 0 s0 (by rw [hN]; rfl)
                  have l1 := hF4.len 1 s1 (by rw [hN]; rfl)
                  have l2 := hF4.len 2 s2 (by rw [hN]; rfl)
                  have l3 := hF4.len 3 s3 (by rw [hN]; rfl)
                  have RR := Aside0.mk (And.intro r0 (And.intro r1 (And.intro r2 r3)))
                  have LL := Aside0.mk (And.intro l0 (And.intro l1 (And.intro l2 l3)))
                  clear hbx r0 r1 r2 r3 l0 l1 l2 l3 hF4
                  go_upto_block 2 with (go_at_call 16; first
                    | ((with_reducible refine (ints_calls (A := s0.A) (B := s2.A) (a := xs) (b := xs) ?ha ?hb LL.out.1.1 LL.out.2.2.1.1 ?hn true (by simp)).mono ?_); (case ha => exact (RR.out.1.below (by repeat (first | (with_reducible first | exact Below.refl _ _ | apply below_alloc | apply pw_below_drewN | apply below_drew1) | exact Below.refl _ _))).C (Nat.le_trans LL.out.1.2 (by omega))); (case hb => exact (RR.out.2.2.1.below (by repeat (first | (with_reducible first | exact Below.refl _ _ | apply below_alloc | apply pw_below_drewN | apply below_drew1) | exact Below.refl _ _))).C (Nat.le_trans LL.out.2.2.1.2 (by omega))); (case hn => exact Nat.le_trans LL.out.1.2 (by omega)); rintro e w7 ⟨rfl, ⟨nd1, rfl⟩⟩)
                    | ((with_reducible refine (ints_calls (A := s1.A) (B := s3.A) (a := ms) (b := ms) ?ha ?hb LL.out.2.1.1 LL.out.2.2.2.1 ?hn true (by simp)).mono ?_); (case ha => exact (RR.out.2.1.below (by repeat (first | (with_reducible first | exact Below.refl _ _ | apply below_alloc | apply pw_below_drewN | apply below_drew1) | exact Below.refl _ _))).C (Nat.le_trans LL.out.2.1.2 (by omega))); (case hb => exact (RR.out.2.2.2.below (by repeat (first | (with_reducible first | exact Below.refl _ _ | apply below_alloc | apply pw_below_drewN | apply below_drew1) | exact Below.refl _ _))).C (Nat.le_trans LL.out.2.2.2.2 (by omega))); (case hn => exact Nat.le_trans LL.out.2.1.2 (by omega)); rintro e w7 ⟨rfl, ⟨nd2, rfl⟩⟩))
                  obtain ⟨q, hq⟩ : ∃ x, wN.heap.size = x := ⟨_, rfl⟩
                  obtain ⟨F2, hF2⟩ : ∃ x, F' = x := ⟨_, rfl⟩
                  refine absW (fun w1 => LA w w1 g1 sa (2 * k.toNat + 2) L' F' q b11 N AS MS (.slice Am MS.length cm) xs ms 0 (.slice Aa AS.length ca)) ?_ ?_
                  · have hbw : Below wc.heap.size wc (wc.drewN (nd1 + nd2)) := (by repeat (first | (with_reducible first | exact Below.refl _ _ | apply below_alloc | apply pw_below_drewN | apply below_drew1) | exact Below.refl _ _))
                    refine ⟨U, ?_, ?_, HGN.out.below (below_step H4.out.below hbw), blk_below H4.out.box hbw, fun hu => by have := HKN.out.ul b11 hu; have := H4.out.lo; omega, HFUN.out, fun k2 hk2 => by rw [← hq]; exact HGN.out.lt k2 hk2, by rw [← hq]; exact H4.out.lo, by rw [← hq]; exact HBN.out.size, below_step HBN.out (below_step H4.out.below hbw)⟩
                    · rw [List.take_zero, List.append_nil]
                      exact HKN.out.below (below_step H4.out.below hbw)
                    · rw [CC_zero, ← hq]
                      exact (H4.out.pend.mv (Mv.of_below hbw (fun _ => False)) (fun _ _ _ _ _ _ h => h)).use (fun i s2 k2 _ _ _ hu => HKN.out.ul k2 hu)
                  rintro wM hLA
                  have HLEN := Aside0.mk H4.out.len
                  have HN4 := Aside0.mk H4.out.four
                  have HFQ := HFN
                  clear RR LL y0 y1 y2 y3 H4 HKN HGN HFUN BXN HBN HFN HLB hxs hms hKX hMX hq hF2 hN
                  have HLA := Aside0.mk hLA
                  clear hLA
                  go_wp2
                  go_loopw [7, 13] (fun av iv wr => ∃ (kk : Int), iv = .int .i64 kk ∧ 0 ≤ kk ∧ kk ≤ 4 ∧ LA w wr g1 sa (2 * k.toNat + 2) L' F' q b11 N AS MS (.slice Am MS.length cm) xs ms kk.toNat av) (fun _ iv _ => 4 - (intOf iv).toNat)
                  case atStart => exact ⟨0, rfl, Int.le_refl _, by omega, HLA.out⟩
                  case round =>
                    as_aux_lemma =>
                      clear HLA
                      obtain ⟨kk, rfl, k0, k4, U2, hK, hP, hG, hbox, hUb, hFU, hFq, hqb, hwq, hb⟩ := hrel
                      rename World => wK
                      obtain ⟨Ab, cb, eb⟩ := Kd.R_slice hK.ra
                      subst eb
                      obtain ⟨LN, hLN⟩ : ∃ m, (AS ++ List.take kk.toNat N).length = m := ⟨_, rfl⟩
                      have hLe : LN = AS.length + kk.toNat := by rw [← hLN, List.length_append, List.length_take, HN4.out]; omega
                      have hK0 := hK
                      rw [hLN] at hK ⊢
                      have HK := Aside0.mk hK
                      have HP := Aside0.mk hP
                      have HG2 := Aside0.mk hG
                      have HBX := Aside0.mk hbox
                      have HUB := Aside0.mk hUb
                      have HFU2 := Aside0.mk hFU
                      have HQ := Aside0.mk (And.intro hFq (And.intro hqb hwq))
                      have HBW := Aside0.mk hb
                      have HLN := Aside0.mk hLe
                      clear hK hK0 hP hG hUb hFU hFq hqb hwq hb hLN
                      by_cases hkk : kk < 4
                      · as_aux_lemma =>
                          have kkb : decide (kk < 4) = true := decide_eq_true hkk
                          obtain ⟨⟨sA, sn, sc⟩, hs⟩ : ∃ s, N[kk.toNat]? = some s := ⟨_, List.getElem?_eq_getElem (by rw [HN4.out]; omega)⟩
                          have hsl := HLEN.out _ _ hs
                          simp only at hsl
                          have KK := Aside0.mk (And.intro k0 (And.intro k4 hkk))
                          have HS := Aside0.mk hs
                          have HSL := Aside0.mk hsl
                          have hrow := HP.out.row _ _ (Nat.zero_le _) hs
                          have hol : (CC N AS.length kk.toNat xs ms kk.toNat).length = sn := (Rw.len hrow).1.symm
                          have HOL := Aside0.mk hol
                          obtain ⟨mm, hmm⟩ : ∃ v, mrk (AS.length + kk.toNat) = v := ⟨_, rfl⟩
                          have HMM := Aside0.mk hmm
                          have hmk : wrap64 (-5000 - (LN : Int)) = mm := by
                            rw [← hmm, hLe]
                            have e := HLE.out
                            have e2 := HN.out
                            unfold mrk
                            rw [wrap_id (by unfold I64; omega)]
                          have q0 : (0 ≤ kk) = True := eq_true k0
                          have q1 : (kk < 4) = True := eq_true hkk
                          have hcell := box_cell hbox hs
                          simp only at hcell
                          have hbo : ¬ ownA sA = some b11 := by have := box_ne hrow hbox; rwa [Sl.own] at this
                          have HBO := Aside0.mk hbo
                          have HROW := Aside0.mk hrow
                          clear k0 k4 hkk hs hsl hrow hol hmm hbox hLe hbo
                          go_wp2
                          go_loopw [14] (fun iv wr => ∃ (j : Int), iv = .int .i64 j ∧ 0 ≤ j ∧ j ≤ sn ∧ Rw wr q (.slice sA sn sc) (List.replicate j.toNat mm ++ (CC N AS.length kk.toNat xs ms kk.toNat).drop j.toNat) ∧ Mv wK wr (fun k => ownA sA = some k)) (fun iv _ => sn - (intOf iv).toNat)
                          case atStart => exact ⟨0, rfl, Int.le_refl _, by omega, HROW.out, Mv.refl _ _⟩
                          case round =>
                            as_aux_lemma =>
                              obtain ⟨j, rfl, j0, j1, hR, hm⟩ := hrel
                              have HR := Aside0.mk hR
                              have HM := Aside0.mk hm
                              have hcell2 := box_cell ((hm.block b11 (blk_lt HBX.out) HBO.out).trans HBX.out) HS.out
                              simp only at hcell2
                              by_cases hj : j < sn
                              · have jb : decide (j < (sn : Int)) = true := decide_eq_true hj
                                obtain ⟨g, x0, eA, hx, hc, hf⟩ := hR.at j j0 hj
                                subst eA
                                have JA := Aside0.mk (And.intro j0 (And.intro j1 hj))
                                have p2 : (0 ≤ j) = True := eq_true j0
                                have p3 : (j < (sn : Int)) = True := eq_true hj
                                clear hR hm hj j0 j1 hx
                                go_wp2
                                obtain ⟨j0, j1, hj⟩ := JA.out
                                have e := HSL.out
                                rw [wrap_id (x := j + 1) (by unfold I64; omega)]
                                refine ⟨⟨j + 1, rfl, by omega, by omega, ?_, HM.out.then (set_mv _ g j.toNat _) (fun k hk => Or.inl (by rw [hk]; rfl))⟩, by simp only [intOf]; omega⟩
                                rw [show (j + 1).toNat = j.toNat + 1 by omega, ← mark_step mm _ j.toNat (by rw [HOL.out]; omega)]
                                exact HR.out.set _ _
                              · have jb : decide (j < (sn : Int)) = false := decide_eq_false hj
                                have ej : j.toNat = sn := by omega
                                rw [ej, List.drop_of_length_le (by rw [HOL.out]; omega), List.append_nil] at hR
                                have HR := Aside0.mk hR
                                have hU : ∀ k, U2 k → ¬ ownA sA = some k := fun k hu hk => HP.out.un _ _ k (Nat.zero_le _) HS.out hk hu
                                have HKr := Aside0.mk (HK.out.mv hm hU)
                                have HSZ := Aside0.mk (Nat.le_trans HBW.out.size hm.size)
                                clear hR hj j0 j1 hU hm ej
                                rename World => wr
                                go_wp2_with (at_builtin; refine Kd.R_append kS (w0 := _) w.heap.size rfl (.tmp 123) (.tmp 127) 50 40 (.slice none 0 0) 24 rfl Try.underlying50 info40 rfl (by decide) (by omega) (.slice Ab LN cb) (AS ++ List.take kk.toNat N) (⟨sA, sn, sc⟩ : Sl) [.slice sA sn sc] (fun _ => True) (fun _ => False) rfl (by simp [Act.eval]) ?aP (fun _ hk => hk.elim) (fun _ _ => trivial) ?aO (Below.refl _ _) ?aS ?aL ?_; (case aP => exact rfl); (case aO => exact HKr.out.ra); (case aS => exact HSZ.out); (case aL => have e := HLE.out; have e2 := HN.out; have e3 := KK.out; rw [List.length_append, List.length_take]; omega); intro v9 w10 ho9 hb9 hg9 hat9; have HO9 := Aside0.mk ho9; have HG9 := Aside0.mk hg9; have HA9 := Aside0.mk hat9; clear ho9 hb9 hg9 hat9)
                                obtain ⟨k0, k4, hkk⟩ := KK.out
                                rw [wrap_id (x := kk + 1) (by unfold I64; omega)]
                                refine ⟨⟨kk + 1, rfl, by omega, by omega, ?_⟩, by simp only [intOf]; omega⟩
                                rw [show (kk + 1).toNat = kk.toNat + 1 by omega]
                                exact LA_next HK.out HP.out HG2.out HBX.out HUB.out HFU2.out HQ.out.1 HQ.out.2.1 HQ.out.2.2 HBW.out HS.out HM.out (by rw [HMM.out]; exact HR.out) HO9.out HG9.out HA9.out
                      · have kkb : decide (kk < 4) = false := decide_eq_false hkk
                        have ek : kk.toNat = 4 := by omega
                        have hN4 : List.take kk.toNat N = N := List.take_of_length_le (by rw [HN4.out]; omega)
                        have hLB : LB w wK g1 sa (2 * k.toNat + 2) L' F' q N AS (.slice Ab LN cb) xs ms 0 (.slice Am MS.length cm) := by
                          refine ⟨U2, MS, by have := HLE.out.1; omega, ?_, ?_, HG2.out, HFU2.out, HQ.out.1, HQ.out.2.2, Nat.le_trans HQ.out.2.1 (Nat.le_of_lt (blk_lt HBX.out)), HBW.out⟩
                          · have := HK.out
                            rwa [hN4] at this
                          · have := HP.out
                            rwa [ek] at this
                        have hLe4 : LN = AS.length + 4 := by rw [hLe, ek]
                        have HLB := Aside0.mk hLB
                        have HLe4 := Aside0.mk hLe4
                        clear k0 k4 hkk ek hN4 hLB hLe hLe4 hbox HK HP HG2 HBX HUB HFU2 HQ HBW HLN
                        go_wp2
                        go_loopw [8, 15] (fun mv iv wr => ∃ (kx : Int), iv = .int .i64 kx ∧ (AS.length : Int) ≤ kx ∧ kx ≤ AS.length + 4 ∧ LB w wr g1 sa (2 * k.toNat + 2) L' F' q N AS (.slice Ab LN cb) xs ms (kx.toNat - AS.length) mv) (fun _ iv _ => AS.length + 4 - (intOf iv).toNat)
                        case atStart => exact ⟨(AS.length : Int), rfl, Int.le_refl _, by omega, by rw [Int.toNat_natCast, Nat.sub_self]; exact HLB.out⟩
                        case round =>
                          as_aux_lemma =>
                            clear HLB
                            obtain ⟨kx, rfl, k0, k4, U3, MS3, hml, hK, hP, hG, hFU, hFq, hwq, hqB, hb⟩ := hrel
                            rename World => wB
                            obtain ⟨Am3, cm3, em3⟩ := Kd.R_slice hK.rm
                            subst em3
                            have HK := Aside0.mk hK
                            have HP := Aside0.mk hP
                            have HG2 := Aside0.mk hG
                            have HFU2 := Aside0.mk hFU
                            have HQ := Aside0.mk (And.intro hFq (And.intro hwq hqB))
                            have HBW := Aside0.mk hb
                            have HML := Aside0.mk hml
                            clear hG hFU hFq hwq hqB hb hml
                            by_cases hkx : kx < LN
                            · as_aux_lemma =>
                                have kxb : decide (kx < (LN : Int)) = true := decide_eq_true hkx
                                have hra := (RS_row hK.ra)
                                obtain ⟨ad9, ⟨sA, sn, sc⟩, hss, e9, cS⟩ := at_S hra.2.2 kx (by omega) (by rw [← hra.1]; exact hkx)
                                subst e9
                                simp only at cS
                                have hs : N[kx.toNat - AS.length]? = some (⟨sA, sn, sc⟩ : Sl) := by
                                  rw [List.getElem?_append_right (by omega)] at hss
                                  exact hss
                                have hi4 : kx.toNat - AS.length < 4 := by have := HLe4.out; omega
                                have hsl := HLEN.out _ _ hs
                                simp only at hsl
                                have hrow := HP.out.row _ _ (Nat.le_refl _) hs
                                rw [CC_at hs hi4] at hrow
                                obtain ⟨mm, hmm⟩ : ∃ v, mrk (AS.length + (kx.toNat - AS.length)) = v := ⟨_, rfl⟩
                                rw [hmm] at hrow
                                have hmk : wrap64 (-5000 - kx) = mm := by
                                  rw [← hmm]
                                  have e := HLE.out
                                  have e2 := HN.out
                                  have e3 := HLe4.out
                                  unfold mrk
                                  rw [wrap_id (by unfold I64; omega)]
                                  omega
                                have KK := Aside0.mk (And.intro k0 (And.intro k4 hkx))
                                have HS := Aside0.mk hs
                                have HSL := Aside0.mk hsl
                                have HMM := Aside0.mk hmm
                                have HROW := Aside0.mk hrow
                                have q0 : (0 ≤ kx) = True := eq_true (by omega)
                                have q1 : (kx < (LN : Int)) = True := eq_true hkx
                                clear k0 k4 hkx hss hs hi4 hsl hrow hmm hra hK hP
                                go_wp2
                                go_loopw [16, 17] (fun xv yv wr => ∃ (y : Int), yv = .int .i64 y ∧ 0 ≤ y ∧ y ≤ 40 ∧ Rw wr q xv (List.replicate (sn + y.toNat) mm) ∧ KR wr q sA sn mm ∧ Mv wB wr (fun k => ownA sA = some k) ∧ (xv.ownBlock = ownA sA ∨ ∃ b, xv.ownBlock = some b ∧ wB.heap.size ≤ b)) (fun _ yv _ => 40 - (intOf yv).toNat)
                                case atStart => exact ⟨0, rfl, Int.le_refl _, by omega, HROW.out, ⟨sn, sc, Nat.le_refl _, HROW.out⟩, Mv.refl _ _, Or.inl (own_A _ _ _)⟩
                                case round =>
                                  as_aux_lemma =>
                                    obtain ⟨y, rfl, y0, y1, hX, hKR, hm, hxo⟩ := hrel
                                    have HX := Aside0.mk hX
                                    have HKR := Aside0.mk hKR
                                    have HM := Aside0.mk hm
                                    have HXO := Aside0.mk hxo
                                    have HSZ := Aside0.mk (Nat.le_trans HQ.out.2.2 hm.size)
                                    rename World => wr
                                    by_cases hy : y < 40
                                    · have yb : decide (y < 40) = true := decide_eq_true hy
                                      have YA := Aside0.mk (And.intro y0 hy)
                                      clear hX hKR hm hxo y0 y1 hy
                                      go_wp2_with (at_builtin; refine app_rw q rfl (.tmp 144) (.tmp 147) rfl u16 (List.replicate (sn + y.toNat) mm) mm rfl (by simp [Act.eval]) HX.out HSZ.out (by have e := HSL.out; have e2 := YA.out; rw [List.length_replicate]; omega) ?_; intro v9 w10 hR9 hc9; have HR9 := Aside0.mk hR9; have HC9 := Aside0.mk hc9; clear hR9 hc9)
                                      obtain ⟨y0, hy⟩ := YA.out
                                      have hR9 := HR9.out
                                      rw [← List.replicate_succ'] at hR9
                                      rw [wrap_id (x := y + 1) (by unfold I64; omega)]
                                      refine ⟨⟨y + 1, rfl, by omega, by omega, ?_, xs_step HKR.out HX.out hR9 (by omega) HC9.out, ?_, ?_⟩, by simp only [intOf]; omega⟩
                                      · rw [show sn + (y + 1).toNat = sn + y.toNat + 1 by omega]
                                        exact hR9
                                      · rcases HXO.out with e | ⟨b, e, hb2⟩
                                        · exact HM.out.then (xs_mv HC9.out) (fun k hk => Or.inl (by rw [← e]; exact hk))
                                        · exact HM.out.then (xs_mv HC9.out) (fun k hk => Or.inr (by rw [e] at hk; injection hk with hk; omega))
                                      · rcases HC9.out with ⟨e, _⟩ | ⟨_, b, e, hb2⟩
                                        · rcases HXO.out with e2 | ⟨b, e2, hb3⟩
                                          · exact Or.inl (e.trans e2)
                                          · exact Or.inr ⟨b, e.trans e2, hb3⟩
                                        · exact Or.inr ⟨b, e, Nat.le_trans HM.out.size hb2⟩
                                    · have yb : decide (y < 40) = false := decide_eq_false hy
                                      have ey : sn + y.toNat = sn + 40 := by omega
                                      rw [ey] at hX
                                      obtain ⟨Ax, cx, ex⟩ := hX.slice
                                      rw [List.length_replicate] at ex
                                      subst ex
                                      rw [own_A] at hxo
                                      have HX := Aside0.mk hX
                                      have HXO := Aside0.mk hxo
                                      have hU : ∀ k, U3 k → ¬ ownA sA = some k := fun k hu hk => HP.out.un _ _ k (Nat.le_refl _) HS.out hk hu
                                      have HKr := Aside0.mk (HK.out.mv hm hU)
                                      have HSZW := Aside0.mk (Nat.le_trans HBW.out.size hm.size)
                                      clear hX hKR hm hxo y0 y1 hy hU ey
                                      go_wp2_with (at_builtin; refine Kd.R_append kS (w0 := _) w.heap.size rfl (.tmp 149) (.tmp 151) 50 40 (.slice none 0 0) 24 rfl Try.underlying50 info40 rfl (by decide) (by omega) (.slice Am3 MS3.length cm3) MS3 (⟨Ax, sn + 40, cx⟩ : Sl) [.slice Ax (sn + 40) cx] (fun _ => True) (fun _ => False) rfl (by simp [Act.eval]) ?aP (fun _ hk => hk.elim) (fun _ _ => trivial) ?aO (Below.refl _ _) ?aS ?aL ?_; (case aP => exact rfl); (case aO => exact HKr.out.rm); (case aS => exact HSZW.out); (case aL => have e := HLE.out; have e2 := HN.out; have e3 := KK.out; have e4 := HML.out; have e5 := HLe4.out; omega); intro v9 w10 ho9 hb9 hg9 hat9; have HO9 := Aside0.mk ho9; have HG9 := Aside0.mk hg9; have HA9 := Aside0.mk hat9; clear ho9 hb9 hg9 hat9)
                                      obtain ⟨k0, k4, hkx⟩ := KK.out
                                      have e4 := HLe4.out
                                      have e5 := HLE.out
                                      have e6 := HN.out
                                      rw [wrap_id (x := kx + 1) (by unfold I64; omega)]
                                      refine ⟨⟨kx + 1, rfl, by omega, by omega, ?_⟩, by simp only [intOf]; omega⟩
                                      rw [show (kx + 1).toNat - AS.length = kx.toNat - AS.length + 1 by omega]
                                      exact LB_next (s := ⟨sA, sn, sc⟩) (t := ⟨Ax, sn + 40, cx⟩) HML.out HK.out HP.out HG2.out HFU2.out HQ.out.1 HQ.out.2.1 HBW.out HS.out HSL.out.1 HM.out (by rw [HMM.out]; exact HX.out) (by rw [HMM.out]; exact HKR.out) HXO.out HQ.out.2.2 HO9.out HG9.out HA9.out
                            · have kxb : decide (kx < (LN : Int)) = false := decide_eq_false hkx
                              have ekx : kx.toNat - AS.length = 4 := by have := HLe4.out; omega
                              have hm4 := HML.out
                              rw [ekx] at hm4
                              have HM4 := Aside0.mk hm4
                              clear hkx k0 k4 ekx hm4 hK hP
                              go_wp2
                              have e := KA.out
                              have e4 := HLe4.out
                              rw [wrap_id (x := k + 1) (by unfold I64; omega)]
                              refine ⟨⟨k + 1, rfl, by omega, by omega, by omega, F', L', U3, AS ++ N, MS3, ?_, fun k2 hk2 => HFQ.out k2 hk2, HK.out, ?_, ?_, HFU2.out, HBW.out⟩, by simp only [intOf]; omega⟩
                              · rw [show 2 * (k + 1).toNat = 2 * k.toNat + 2 by omega]
                                exact HG2.out
                              · rw [List.length_append, HN4.out, HM4.out]
                              · have e5 := HLE.out
                                rw [List.length_append, HN4.out]
                                omega
          · by_cases hk1 : k < l.length
            · have kb : decide (k < (l.length : Int)) = true := decide_eq_true hk1
              have kb3 : decide (k < 60) = false := decide_eq_false (by omega)
              have hn : AS.length ≤ 240 := by have := HLE.out; omega
              clear hk hk1 h0 h1 h3
              go_wp2
              go_meet
              case rel => exact ⟨AS, MS, U, HKP.out.below (by repeat (first | (with_reducible first | exact Below.refl _ _ | apply below_alloc | apply pw_below_drewN | apply below_drew1) | exact Below.refl _ _)), HLE.out.1, hn, below_step HB.out (by repeat (first | (with_reducible first | exact Below.refl _ _ | apply below_alloc | apply pw_below_drewN | apply below_drew1) | exact Below.refl _ _))⟩
            · have kb : decide (k < (l.length : Int)) = false := decide_eq_false hk1
              have hn : AS.length ≤ 240 := by have := HLE.out; omega
              clear hk hk1 h0 h1 h3
              go_wp2
              go_meet
              case rel => exact ⟨AS, MS, U, HKP.out.below (by repeat (first | (with_reducible first | exact Below.refl _ _ | apply below_alloc | apply pw_below_drewN | apply below_drew1) | exact Below.refl _ _)), HLE.out.1, hn, below_step HB.out (by repeat (first | (with_reducible first | exact Below.refl _ _ | apply below_alloc | apply pw_below_drewN | apply below_drew1) | exact Below.refl _ _))⟩
  case rest =>
    as_aux_lemma =>
      clear HB HG HF F a1 a2
      obtain ⟨AS, MS, U, hK, hlen, hle, hb⟩ := hcut
      rename World => wP
      obtain ⟨Aa, ca, ea⟩ := Kd.R_slice hK.ra
      obtain ⟨Am, cm, em⟩ := Kd.R_slice hK.rm
      subst ea
      subst em
      have HK := Aside0.mk hK
      have HLE := Aside0.mk (And.intro hlen hle)
      have HBP := Aside0.mk hb
      clear hK hlen hle hb
      go_wp2
      go_loopw [18] (fun xv wr => ∃ x : Int, xv = .int .i64 x ∧ 0 ≤ x ∧ x ≤ AS.length ∧ Below wP.heap.size wP wr) (fun xv _ => AS.length - (intOf xv).toNat)
      case atStart => exact ⟨0, rfl, Int.le_refl _, by omega, (by repeat (first | (with_reducible first | exact Below.refl _ _ | apply below_alloc | apply pw_below_drewN | apply below_drew1) | exact Below.refl _ _))⟩
      case round =>
        as_aux_lemma =>
          obtain ⟨x, rfl, x0, x1, hbx⟩ := hrel
          have HX := Aside0.mk hbx
          by_cases hx : x < AS.length
          · have xb : decide (x < (AS.length : Int)) = true := decide_eq_true hx
            have hKq := HK.out.below hbx
            obtain ⟨ad1, ⟨sA, sn, sc⟩, hs, e1, c1⟩ := at_S (RS_row hKq.ra).2.2 x x0 hx
            subst e1
            have hxm : x < MS.length := by have := HLE.out; omega
            obtain ⟨ad2, ⟨tA, tn, tc⟩, ht, e2, c2⟩ := at_S (RS_row hKq.rm).2.2 x x0 hxm
            subst e2
            simp only at c1 c2
            obtain ⟨h1, h2, h3, h4, h5, _, _⟩ := hKq.ks _ _ _ hs ht
            simp only at h1 h2 h3 h4 h5
            have hbig : tn ≤ 9223372036854775807 := by
              have := h5.row_len
              omega
            obtain ⟨mm, hmm⟩ : ∃ v, mrk x.toNat = v := ⟨_, rfl⟩
            rw [hmm] at h2 h5
            have hmk : wrap64 (-5000 - x) = mm := by
              rw [← hmm]
              have e := HLE.out
              unfold mrk
              rw [wrap_id (by unfold I64; omega)]
              omega
            rename World => wx
            have XA := Aside0.mk (And.intro x0 (And.intro x1 hx))
            have HS := Aside0.mk (And.intro hs ht)
            have H25 := Aside0.mk (And.intro h2 (And.intro h5 (And.intro h3 hbig)))
            have HKx := Aside0.mk hKq
            have p0 : (0 ≤ x) = True := eq_true x0
            have p1 : (x < (AS.length : Int)) = True := eq_true hx
            have p2 : (x < (MS.length : Int)) = True := eq_true hxm
            clear hbx x0 x1 hx hs ht hKq hxm h1 h2 h3 h4 h5 hmm hbig
            go_wp2
            go_loopw [19] (fun yv wq => ∃ y : Int, yv = .int .i64 y ∧ 0 ≤ y ∧ y ≤ tn ∧ Below wx.heap.size wx wq) (fun yv _ => tn - (intOf yv).toNat)
            case atStart => exact ⟨0, rfl, Int.le_refl _, by omega, (by repeat (first | (with_reducible first | exact Below.refl _ _ | apply below_alloc | apply pw_below_drewN | apply below_drew1) | exact Below.refl _ _))⟩
            case round =>
              as_aux_lemma =>
                obtain ⟨y, rfl, y0, y1, hby⟩ := hrel
                have HY := Aside0.mk hby
                have hK2 := HKx.out.below hby
                obtain ⟨ad3, s3, hs3, e3, c3⟩ := at_S (RS_row hK2.ra).2.2 x XA.out.1 XA.out.2.2
                cases e3
                cases (Option.some.inj (HS.out.1.symm.trans hs3))
                obtain ⟨ad4, t4, ht4, e4, c4⟩ := at_S (RS_row hK2.rm).2.2 x XA.out.1 (by have e := XA.out; have e2 := HLE.out; omega)
                cases e4
                cases (Option.some.inj (HS.out.2.symm.trans ht4))
                simp only at c3 c4
                by_cases hy : y < tn
                · have yb : decide (y < (tn : Int)) = true := decide_eq_true hy
                  obtain ⟨gM, eM, cM⟩ := (H25.out.2.1.below hby).at y y0 hy
                  subst eM
                  have YA := Aside0.mk (And.intro y0 (And.intro y1 hy))
                  have p3 : (0 ≤ y) = True := eq_true y0
                  have p4 : (y < (tn : Int)) = True := eq_true hy
                  have NEXT : ∀ w8, Below wr.heap.size wr w8 → (∃ (y_1 : Int), Value.int IntKind.i64 (wrap64 (y + 1)) = Value.int IntKind.i64 y_1 ∧ 0 ≤ y_1 ∧ y_1 ≤ tn ∧ Below wx.heap.size wx w8) ∧ tn - (intOf (Value.int IntKind.i64 (wrap64 (y + 1)))).toNat < tn - (intOf (Value.int IntKind.i64 y)).toNat := by
                    intro w8 h8
                    have e := YA.out
                    have e2 := H25.out.2.2
                    rw [wrap_id (x := y + 1) (by unfold I64; omega)]
                    exact ⟨⟨y + 1, rfl, by omega, by omega, below_step HY.out h8⟩, by simp only [intOf]; omega⟩
                  have NEXT := Aside0.mk NEXT
                  by_cases hys : y < sn
                  · have ysb : decide (y < (sn : Int)) = true := decide_eq_true hys
                    obtain ⟨gA, eA, cA⟩ := (H25.out.1.below hby).at y y0 hys
                    subst eA
                    have p5 : (y < (sn : Int)) = True := eq_true hys
                    clear hby hK2 hs3 ht4 hy hys y0 y1
                    go_wp2
                    exact NEXT.out _ (by repeat (first | (with_reducible first | exact Below.refl _ _ | apply below_alloc | apply pw_below_drewN | apply below_drew1) | exact Below.refl _ _))
                  · have ysb : decide (y < (sn : Int)) = false := decide_eq_false hys
                    clear hby hK2 hs3 ht4 hy hys y0 y1
                    go_wp2
                    exact NEXT.out _ (by repeat (first | (with_reducible first | exact Below.refl _ _ | apply below_alloc | apply pw_below_drewN | apply below_drew1) | exact Below.refl _ _))
                · have yb : decide (y < (tn : Int)) = false := decide_eq_false hy
                  clear hby hK2 hs3 ht4 hy y0 y1
                  go_wp2
                  clear hmk
                  have e := XA.out
                  have e2 := HLE.out
                  rw [wrap_id (x := x + 1) (by unfold I64; omega)]
                  exact ⟨⟨x + 1, rfl, by omega, by omega, below_step HX.out (below_step HY.out (by repeat (first | (with_reducible first | exact Below.refl _ _ | apply below_alloc | apply pw_below_drewN | apply below_drew1) | exact Below.refl _ _)))⟩, by simp only [intOf]; omega⟩
          · have xb : decide (x < (AS.length : Int)) = false := decide_eq_false hx
            clear hbx x0 x1 hx
            go_wp2
            go_ret
            exact ⟨rfl, below_step HBP.out (below_step HX.out (by repeat (first | (with_reducible first | exact Below.refl _ _ | apply below_alloc | apply pw_below_drewN | apply below_drew1) | exact Below.refl _ _)))⟩
end Go.Proofs.Ytggmfmlfkhcbdaa.Gr
