/- The walk of GridPlays. -/
import Derived.Test.YtggmfmlfkhcbdaaGX
namespace Go.Proofs.Ytggmfmlfkhcbdaa.Gr
open Go Go.RowKit Go.Maps Go.Proofs.YtggmfmlfkhcbdaaW.PrintWords Go.Proofs.YtggmfmlfkhcbdaaW.PrintLast Go.Proofs.YtggmfmlfkhcbdaaW.PrintMore
set_option linter.unusedVariables false
set_option linter.unusedSimpArgs false

def T_3_27 : Bool × List (List Nat × List Nat) := (true, [([], []), ([], []), ([1], [1]), ([], []), ([3], [3]), ([0, 2, 4], [0, 2, 4]), ([], []), ([], []), ([7], [7]), ([], []), ([9], [9]), ([6, 8, 10, 5], [6, 8, 10]), ([5, 11, 11], [5, 11]), ([12], [12])])
def B_3_27 : List Nat := [0, 0, 2, 0, 8, 31, 0, 0, 128, 0, 512, 2047, 4095, 8191]
theorem tab_f3_27 : rtab .any (opsOf Try.f3 27) = T_3_27 := by kernel_rfl
theorem bits_f3_27 : waitsOk T_3_27.2 B_3_27 = true := by kernel_rfl
def T_3_30 : Bool × List (List Nat × List Nat) := (true, [([], []), ([], []), ([1], [1]), ([], []), ([3], [3]), ([], []), ([5], [5]), ([0, 2, 4, 6], [0, 2, 4, 6]), ([], []), ([], []), ([9], [9]), ([], []), ([11], [11]), ([], []), ([13], [13]), ([8, 10, 12, 14, 7], [8, 10, 12, 14]), ([7, 15, 15], [7, 15]), ([16], [16])])
def B_3_30 : List Nat := [0, 0, 2, 0, 8, 0, 32, 127, 0, 0, 512, 0, 2048, 0, 8192, 32767, 65535, 131071]
theorem tab_f3_30 : rtab .any (opsOf Try.f3 30) = T_3_30 := by kernel_rfl
theorem bits_f3_30 : waitsOk T_3_30.2 B_3_30 = true := by kernel_rfl
/-- The program's grid, the document's, and a box. -/
structure PL (w W : World) (gb rb b : Nat) (obj : Obj) (side : Int) (n : Nat) (L M : List Th) (F : Nat → Prop) (v : Value) : Prop where
  g : GS W gb F side n L
  r : ∃ B, RefAt W rb B M v
  d1 : ¬ F rb
  d2 : ∀ k, v.ownBlock = some k → ¬ F k
  f : ∀ k, F k → w.heap.size ≤ k
  rb0 : w.heap.size ≤ rb
  bx : W.heap[b]? = some obj
  nb : ¬ F b
  nr : b ≠ rb
  bw : Below w.heap.size w W
section
variable {w W w' : World} {gb rb b : Nat} {obj : Obj} {side : Int} {n n' : Nat} {L M : List Th} {F : Nat → Prop} {v : Value}
theorem PL.below (h : PL w W gb rb b obj side n L M F v) (hb : Below W.heap.size W w') : PL w w' gb rb b obj side n L M F v where
  g := h.g.below hb
  r := by obtain ⟨B, hr⟩ := h.r; exact ⟨B, hr.below hb⟩
  d1 := h.d1
  d2 := h.d2
  f := h.f
  rb0 := h.rb0
  bx := (hb.block b (blk_lt h.bx)).trans h.bx
  nb := h.nb
  nr := h.nr
  bw := below_step h.bw hb
theorem PL.mono (h : PL w W gb rb b obj side n L M F v) (hn : n ≤ n') : PL w W gb rb b obj side n' L M F v := { h with g := h.g.mono hn }
theorem PL.putg {L' : List Th} {F' : Nat → Prop} (h : PL w W gb rb b obj side n L M F v) (hg : GS w' gb F' side n' L') (hm : Mv W w' F) (hF : ∀ k, F' k → F k ∨ W.heap.size ≤ k) : PL w w' gb rb b obj side n' L' M F' v where
  g := hg
  r := by obtain ⟨B, hr⟩ := h.r; exact ⟨B, hr.mv hm h.d1 h.d2⟩
  d1 := fun hk => (hF _ hk).elim h.d1 (fun h2 => by obtain ⟨B, hr⟩ := h.r; have := hr.lt; omega)
  d2 := fun k hk hf => (hF _ hf).elim (h.d2 k hk) (fun h2 => by obtain ⟨B, hr⟩ := h.r; have := Kd.R_lt hr.row k hk; omega)
  f := newF h.f h.bw.size hF
  rb0 := h.rb0
  bx := (hm.block b (blk_lt h.bx) h.nb).trans h.bx
  nb := fun hk => (hF _ hk).elim h.nb (fun h2 => by have := blk_lt h.bx; omega)
  nr := h.nr
  bw := h.bw.trans (hm.toB h.bw.size h.f)
theorem PL.refm {M' : List Th} {v' : Value} (h : PL w W gb rb b obj side n L M F v) (hr : RefAt w' rb W.heap.size M' v') (hm : Mv W w' (fun k => k = rb)) : PL w w' gb rb b obj side n L M' F v' where
  g := h.g.mv hm (fun k hk e => h.d1 (e ▸ hk))
  r := ⟨_, hr⟩
  d1 := h.d1
  d2 := fun k hk hf => by have := Kd.R_base hr.row k hk; have := h.g.lt k hf; omega
  f := h.f
  rb0 := h.rb0
  bx := (hm.block b (blk_lt h.bx) h.nr).trans h.bx
  nb := h.nb
  nr := h.nr
  bw := h.bw.trans (hm.toB h.bw.size (fun k hk => hk ▸ h.rb0))
end
theorem bx6 {W : World} {b t : Nat} {v0 v1 v2 v3 v4 v5 : Value} (hb : W.heap[b]? = some (.cells #[v0, v1, v2, v3, v4, v5] t (0, 0))) : W.cell? ⟨b, 0, none⟩ = some v0 ∧ W.cell? ⟨b, 1, none⟩ = some v1 ∧ W.cell? ⟨b, 2, none⟩ = some v2 ∧ W.cell? ⟨b, 3, none⟩ = some v3 ∧ W.cell? ⟨b, 4, none⟩ = some v4 ∧ W.cell? ⟨b, 5, none⟩ = some v5 := by
  simp [World.cell?, hb]
theorem heap_alloc_old2 (w : World) (o : Obj) {o' : Obj} {k : Nat} (h : w.heap[k]? = some o') : (w.alloc o).heap[k]? = some o' := (heap_alloc_old w o (blk_lt h)).trans h
/-- Both grids, between two steps. -/
def P0 (w W : World) (gb rb : Nat) (side : Int) (n : Nat) (L : List Th) : Prop := ∃ F B v, GS W gb F side n L ∧ RefAt W rb B L v ∧ ¬ F rb ∧ (∀ k, v.ownBlock = some k → ¬ F k) ∧ (∀ k, F k → w.heap.size ≤ k) ∧ w.heap.size ≤ rb ∧ Below w.heap.size w W
theorem PL.p0 {w W : World} {gb rb b : Nat} {obj : Obj} {side : Int} {n : Nat} {L : List Th} {F : Nat → Prop} {v : Value} (h : PL w W gb rb b obj side n L L F v) : P0 w W gb rb side n L := by
  obtain ⟨B, hr⟩ := h.r
  exact ⟨F, B, v, h.g, hr, h.d1, h.d2, h.f, h.rb0, h.bw⟩
theorem P0.box {w W : World} {gb rb : Nat} {side : Int} {n : Nat} {L : List Th} (h : P0 w W gb rb side n L) (obj : Obj) : ∃ F v, PL w (W.alloc obj) gb rb W.heap.size obj side n L L F v := by
  obtain ⟨F, B, v, hg, hr, d1, d2, f, rb0, bw⟩ := h
  exact ⟨F, v, hg.below (by repeat (first | (with_reducible first | exact Below.refl _ _ | apply below_alloc | apply pw_below_drewN | apply below_drew1) | exact Below.refl _ _)), ⟨B, hr.below (by repeat (first | (with_reducible first | exact Below.refl _ _ | apply below_alloc | apply pw_below_drewN | apply below_drew1) | exact Below.refl _ _))⟩, d1, d2, f, rb0, heap_alloc_new W obj, fun hk => by have := hg.lt _ hk; omega, by have := hr.lt; omega, below_step bw (by repeat (first | (with_reducible first | exact Below.refl _ _ | apply below_alloc | apply pw_below_drewN | apply below_drew1) | exact Below.refl _ _))⟩
/-! The contracts of the document's functions, for arms. -/
section
variable {w w0 : World} {rb : Nat} {L : List Th} {v : Value}
theorem rs_put (h : ∃ B, RefAt w0 rb B L v) (hb : Below w0.heap.size w0 w) (hs : Srt L) (hL : L.length ≤ 1000000) (x px py : Int) (L' : List Th) (hL' : putT ⟨x, px, py⟩ L = L') :
    Calls Try.prog 11 #[.pointer (some ⟨rb, 0, none⟩), .int .i64 x, .agg #[.int .i64 px, .int .i64 py]] w fun e w' => e = .returned (.tuple #[]) ∧ (∃ v', RefAt w' rb w.heap.size L' v') ∧ Mv w w' (fun k => k = rb) := by
  obtain ⟨B, h⟩ := h
  subst hL'
  exact r_put (h.below hb) hs (by omega) x px py
theorem rs_drop (h : ∃ B, RefAt w0 rb B L v) (hb : Below w0.heap.size w0 w) (hL : L.length ≤ 1000000) (x : Int) (r : Bool) (hr : hasP L x = r) :
    Calls Try.prog 12 #[.pointer (some ⟨rb, 0, none⟩), .int .i64 x] w fun e w' => e = .returned (.bool r) ∧ (∃ v', RefAt w' rb w.heap.size (dropP L x) v') ∧ Mv w w' (fun k => k = rb) := by
  obtain ⟨B, h⟩ := h
  subst hr
  exact r_drop (h.below hb) (by omega) x
theorem rs_at (h : ∃ B, RefAt w0 rb B L v) (hb : Below w0.heap.size w0 w) (hs : Srt L) (hL : L.length ≤ 1000000) (x px py : Int) (hp : atL L x = (px, py)) (r : Bool) (hr : hasP L x = r) :
    Calls Try.prog 15 #[.pointer (some ⟨rb, 0, none⟩), .int .i64 x] w fun e w' => e = .returned (.tuple #[.agg #[.int .i64 px, .int .i64 py], .bool r]) ∧ Below w.heap.size w w' := by
  obtain ⟨B, h⟩ := h
  subst hr
  have := r_at (h.below hb) hs (by omega) x
  rwa [hp] at this
theorem rs_len (h : ∃ B, RefAt w0 rb B L v) (hb : Below w0.heap.size w0 w) (m : Nat) (hm : L.length = m) :
    Calls Try.prog 22 #[.pointer (some ⟨rb, 0, none⟩)] w fun e w' => e = .returned (.int .i64 (m : Nat)) ∧ w' = w := by
  obtain ⟨B, h⟩ := h
  subst hm
  exact r_len (h.below hb)
theorem rs_near (h : ∃ B, RefAt w0 rb B L v) (hb : Below w0.heap.size w0 w) (hwf : ∀ t ∈ L, I64 t.id ∧ I64 t.x ∧ I64 t.y) (hL : L.length ≤ 1000000) {ax ay r : Int} (hax : I64 ax) (hay : I64 ay) (xs : List Int) (hx : inL L ax ay r = xs) :
    Calls Try.prog 18 #[.pointer (some ⟨rb, 0, none⟩), .agg #[.int .i64 ax, .int .i64 ay], .int .i64 r] w fun e w' => ∃ A c, e = .returned (.slice A xs.length c) ∧ xs.length ≤ c ∧ ki.C w' A xs.length xs ∧ Below w.heap.size w w' := by
  obtain ⟨B, h⟩ := h
  subst hx
  refine (r_near (h.below hb) hwf (by omega) hax hay).mono ?_
  rintro e w' ⟨v', rfl, hR, hb⟩
  obtain ⟨A, c, rfl, hc, hC⟩ := Kd.R_reads hR
  exact ⟨A, c, rfl, hc, hC, hb⟩
theorem rs_nearest (h : ∃ B, RefAt w0 rb B L v) (hb : Below w0.heap.size w0 w) (hs : Srt L) (hwf : ∀ t ∈ L, I64 t.id ∧ I64 t.x ∧ I64 t.y) (hL : L.length ≤ 1000000) {ax ay r N : Int} (hax : I64 ax) (hay : I64 ay) (xs : List Int) (hx : (nearS L ax ay r).take N.toNat = xs) :
    Calls Try.prog 20 #[.pointer (some ⟨rb, 0, none⟩), .agg #[.int .i64 ax, .int .i64 ay], .int .i64 r, .int .i64 N] w fun e w' => ∃ A c, e = .returned (.slice A xs.length c) ∧ xs.length ≤ c ∧ ki.C w' A xs.length xs ∧ Below w.heap.size w w' := by
  obtain ⟨B, h⟩ := h
  subst hx
  refine (r_nearest (h.below hb) hs hwf hL hax hay).mono ?_
  rintro e w' ⟨v', rfl, hR, hb⟩
  obtain ⟨A, c, rfl, hc, hC⟩ := Kd.R_reads hR
  exact ⟨A, c, rfl, hc, hC, hb⟩
end
theorem putT_len (t : Th) (L : List Th) : (putT t L).length ≤ L.length + 1 := by
  unfold putT
  rw [ins_len]
  have := drop_len L t.id
  omega

set_option maxHeartbeats 4000000 in
set_option maxRecDepth 100000 in
theorem plays_walk (side : Int) (A : Option Addr) (c : Nat) (l : List St) (w : World) (hs : I64 side) (hC : Kd.C k34 w A l.length l) (hc : l.length ≤ c) (hlen : l.length * 48 ≤ 140737488351232) (hwf : ∀ s ∈ l, s.wf) :
    Calls Try.prog 3 #[.int .i64 side, .slice A l.length c] w fun e w' => e = .returned (.bool true) ∧ Below w.heap.size w w' := by
  have HC := Aside0.mk hC
  have HL := Aside0.mk hlen
  have HW := Aside0.mk hwf
  have HB := Aside0.mk (Below.refl w.heap.size w)
  clear hC hlen hwf
  by_cases hside : side < 1 ∨ 1099511627776 < side
  · have HSD := Aside0.mk hside
    clear hside
    go_enter Try.func3, Try.ntmps3
    go_wp2_with (first
      | (go_at_call 7; refine (fixed_calls _).mono ?_; rintro e w1 ⟨rfl, hb⟩; have n_ := Aside0.mk (below_step (by repeat (first | (with_reducible first | exact HB.out | apply below_alloc | apply pw_below_drewN | apply below_drew1) | exact HB.out)) hb); clear HB; have HB := n_; clear n_ hb)
      | (go_at_call 8; (with_reducible refine (new_bad side HSD.out _).mono ?_); rintro e w2 ⟨rfl, hb⟩; have n_ := Aside0.mk (below_step (by repeat (first | (with_reducible first | exact HB.out | apply below_alloc | apply pw_below_drewN | apply below_drew1) | exact HB.out)) hb); clear HB; have HB := n_; clear n_ hb)
      | (go_at_call 9; (with_reducible refine (r_new_bad side HSD.out _).mono ?_); rintro e w3 ⟨rfl, hb⟩; have n_ := Aside0.mk (below_step (by repeat (first | (with_reducible first | exact HB.out | apply below_alloc | apply pw_below_drewN | apply below_drew1) | exact HB.out)) hb); clear HB; have HB := n_; clear n_ hb))
    go_ret
    exact ⟨rfl, (by repeat (first | (with_reducible first | exact HB.out | apply below_alloc | apply pw_below_drewN | apply below_drew1) | exact HB.out))⟩
  have i1 : 1 ≤ side := by omega
  have i2 : side ≤ 1099511627776 := by omega
  clear hside
  go_enter Try.func3, Try.ntmps3
  go_wp2_with (first
    | (go_at_call 7; refine (fixed_calls _).mono ?_; rintro e w1 ⟨rfl, hb⟩; have n_ := Aside0.mk (below_step (by repeat (first | (with_reducible first | exact HB.out | apply below_alloc | apply pw_below_drewN | apply below_drew1) | exact HB.out)) hb); clear HB; have HB := n_; clear n_ hb)
    | (go_at_call 8; (with_reducible refine (gs_new side i1 i2 _).mono ?_); rintro e w2 ⟨g1, F, rfl, hG, hb, hF⟩; have HG := Aside0.mk hG; have HF := Aside0.mk (fun k hk => Nat.le_trans (below_size (w := w) (by repeat (first | (with_reducible first | exact HB.out | apply below_alloc | apply pw_below_drewN | apply below_drew1) | exact HB.out))) (hF k hk)); have n_ := Aside0.mk (below_step (by repeat (first | (with_reducible first | exact HB.out | apply below_alloc | apply pw_below_drewN | apply below_drew1) | exact HB.out)) hb); clear HB; have HB := n_; clear n_ hb hG hF)
    | (go_at_call 9; (with_reducible refine (r_new side i1 i2 _).mono ?_); rintro e w3 ⟨rb, rfl, hR, hrb, hb⟩; have HR := Aside0.mk hR; have HD1 := Aside0.mk (fun (hk : F rb) => Nat.lt_irrefl _ (Nat.lt_of_lt_of_le (HG.out.lt rb hk) (Nat.le_trans (below_size (w := w2) (by repeat (first | (with_reducible first | exact Below.refl _ _ | apply below_alloc | apply pw_below_drewN | apply below_drew1) | exact Below.refl _ _))) hrb))); have HRB := Aside0.mk (Nat.le_trans (below_size (w := w) (by repeat (first | (with_reducible first | exact HB.out | apply below_alloc | apply pw_below_drewN | apply below_drew1) | exact HB.out))) hrb); have n2_ := Aside0.mk (HG.out.below (below_step (w := w2) (by repeat (first | (with_reducible first | exact Below.refl _ _ | apply below_alloc | apply pw_below_drewN | apply below_drew1) | exact Below.refl _ _)) hb)); have n_ := Aside0.mk (below_step (by repeat (first | (with_reducible first | exact HB.out | apply below_alloc | apply pw_below_drewN | apply below_drew1) | exact HB.out)) hb); clear HB HG; have HB := n_; have HG := n2_; clear n_ n2_ hb hR hrb))
  go_loopw [9] (fun iv wr => ∃ k : Int, iv = .int .i64 k ∧ 0 ≤ k ∧ k ≤ l.length ∧ k ≤ 300 ∧ ∃ L, P0 w wr g1 rb side (2 * k.toNat) L) (fun iv _ => l.length - (intOf iv).toNat)
  case atStart => exact ⟨0, rfl, Int.le_refl _, by omega, by omega, [], F, _, _, HG.out, HR.out, HD1.out, fun k hk => (by simp [Value.ownBlock] at hk), HF.out, HRB.out, HB.out⟩
  case round =>
    clear HB HG HR HD1 HF HRB F i1 i2
    obtain ⟨k, rfl, h0, h1, h3, L, hp0⟩ := hrel
    have HB := Aside0.mk (show Below w.heap.size w wr by obtain ⟨F, B, v, _, _, _, _, _, _, hb⟩ := hp0; exact hb)
    by_cases hk : k < l.length
    · have kb : decide (k < (l.length : Int)) = true := decide_eq_true hk
      by_cases hk3 : k < 300
      · have kb3 : decide (k < 300) = true := decide_eq_true hk3
        obtain ⟨ad, s, hs, e1, d0, d1, d2, d3, d4, d5⟩ := at_T34 (Kd.C_below HC.out HB.out) k h0 hk
        subst e1
        obtain ⟨z0, z1, z2, z3, z4, z5⟩ := HW.out s (List.mem_of_getElem? hs)
        have KA := Aside0.mk (And.intro h0 (And.intro hk hk3))
        obtain ⟨F, v, hP⟩ := hp0.box (.cells #[.int .i64 s.op, .int .i64 s.id, .int .i64 s.x, .int .i64 s.y, .int .i64 s.r, .int .i64 s.n] 34)
        have HN : Aside0 (2 * k.toNat ≤ 1000000) := ⟨by omega⟩
        have HLn : Aside0 (L.length ≤ 1000000) := ⟨Nat.le_trans hP.g.len HN.out⟩
        have p0 : (0 ≤ k) = True := eq_true h0
        have p1 : (k < (l.length : Int)) = True := eq_true hk
        have HP := Aside0.mk hP
        have HSR := Aside0.mk hP.g.srt
        have HWF := Aside0.mk hP.g.wf
        clear hk hk3 hs h0 h1 h3 hp0 hP
        go_upto_block 2 with fail
        obtain ⟨bb, hbb⟩ : ∃ x, wr.heap.size = x := ⟨_, rfl⟩
        rw [hbb] at HP ⊢
        refine absW (fun w1 => PL w w1 g1 rb bb (.cells #[.int .i64 s.op, .int .i64 s.id, .int .i64 s.x, .int .i64 s.y, .int .i64 s.r, .int .i64 s.n] 34) side (2 * k.toNat) L L F v) HP.out ?_
        rintro w1 hP
        clear HP HB hbb d0 d1 d2 d3 d4 d5
        have HP := Aside0.mk hP
        obtain ⟨x0, x1, x2, x3, x4, x5⟩ := bx6 hP.bx
        clear hP
        go_cut [] (fun wc => ∃ L' F' v', PL w wc g1 rb bb (.cells #[.int .i64 s.op, .int .i64 s.id, .int .i64 s.x, .int .i64 s.y, .int .i64 s.r, .int .i64 s.n] 34) side (2 * k.toNat + 2) L' L' F' v')
        case first =>
          by_cases q1 : s.op = 1
          · have o1 : (s.op == 1) = true := beq_iff_eq.2 q1
            clear q1
            go_wp2_with (first
              | (go_at_call 10; (with_reducible refine (gs_put HP.out.g ?s1 (by have := HN.out; omega) s.id s.x s.y z1 z2 z3 _ rfl).mono ?_); (case s1 => exact (by repeat (first | (with_reducible first | exact Below.refl _ _ | apply below_alloc | apply pw_below_drewN | apply below_drew1) | exact Below.refl _ _))); rintro e w3 ⟨rfl, F2, hG2, hm2, hF2⟩; have n_ := Aside0.mk (PL.putg (HP.out.below (by repeat (first | (with_reducible first | exact Below.refl _ _ | apply below_alloc | apply pw_below_drewN | apply below_drew1) | exact Below.refl _ _))) hG2 hm2 hF2); clear hG2 hm2 hF2; clear HP; have HP := n_; clear n_; obtain ⟨x0, x1, x2, x3, x4, x5⟩ := bx6 HP.out.bx)
              | (go_at_call 11; (with_reducible refine (rs_put HP.out.r ?s1 ?s2 HLn.out s.id s.x s.y _ rfl).mono ?_); (case s1 => exact (by repeat (first | (with_reducible first | exact Below.refl _ _ | apply below_alloc | apply pw_below_drewN | apply below_drew1) | exact Below.refl _ _))); (case s2 => exact HSR.out); rintro e w4 ⟨rfl, ⟨v2, hr2⟩, hm2⟩; have n_ := Aside0.mk (PL.refm (HP.out.below (by repeat (first | (with_reducible first | exact Below.refl _ _ | apply below_alloc | apply pw_below_drewN | apply below_drew1) | exact Below.refl _ _))) hr2 hm2); clear hr2 hm2; clear HP; have HP := n_; clear n_; obtain ⟨x0, x1, x2, x3, x4, x5⟩ := bx6 HP.out.bx))
            go_meet
            case rel => exact ⟨_, _, _, HP.out⟩
          · have o1 : (s.op == 1) = false := beq_eq_false_iff_ne.2 q1
            clear q1
            by_cases q2 : s.op = 2
            · have o2 : (s.op == 2) = true := beq_iff_eq.2 q2
              clear q2
              obtain ⟨hh, hhe⟩ : ∃ b, hasP L s.id = b := ⟨_, rfl⟩
              cases hh
              · go_wp2_with (first
                  | (go_at_call 12; (with_reducible refine (rs_drop HP.out.r ?s1 HLn.out s.id _ hhe).mono ?_); (case s1 => exact (by repeat (first | (with_reducible first | exact Below.refl _ _ | apply below_alloc | apply pw_below_drewN | apply below_drew1) | exact Below.refl _ _))); rintro e w4 ⟨rfl, ⟨v2, hr2⟩, hm2⟩; have n_ := Aside0.mk (PL.refm (HP.out.below (by repeat (first | (with_reducible first | exact Below.refl _ _ | apply below_alloc | apply pw_below_drewN | apply below_drew1) | exact Below.refl _ _))) hr2 hm2); clear hr2 hm2; clear HP; have HP := n_; clear n_; obtain ⟨x0, x1, x2, x3, x4, x5⟩ := bx6 HP.out.bx)
                  | (go_at_call 13; (with_reducible refine (gs_del HP.out.g ?s1 (by have := HN.out; omega) s.id z1 _ hhe _ rfl).mono ?_); (case s1 => exact (by repeat (first | (with_reducible first | exact Below.refl _ _ | apply below_alloc | apply pw_below_drewN | apply below_drew1) | exact Below.refl _ _))); rintro e w3 ⟨rfl, hG2, hm2⟩; have n_ := Aside0.mk (PL.putg (HP.out.below (by repeat (first | (with_reducible first | exact Below.refl _ _ | apply below_alloc | apply pw_below_drewN | apply below_drew1) | exact Below.refl _ _))) hG2 hm2 (fun k hk => Or.inl hk)); clear hG2 hm2; clear HP; have HP := n_; clear n_; obtain ⟨x0, x1, x2, x3, x4, x5⟩ := bx6 HP.out.bx))
                go_meet
                case rel => exact ⟨_, _, _, HP.out.mono (Nat.le_succ _)⟩
              · go_wp2_with (first
                  | (go_at_call 12; (with_reducible refine (rs_drop HP.out.r ?s1 HLn.out s.id _ hhe).mono ?_); (case s1 => exact (by repeat (first | (with_reducible first | exact Below.refl _ _ | apply below_alloc | apply pw_below_drewN | apply below_drew1) | exact Below.refl _ _))); rintro e w4 ⟨rfl, ⟨v2, hr2⟩, hm2⟩; have n_ := Aside0.mk (PL.refm (HP.out.below (by repeat (first | (with_reducible first | exact Below.refl _ _ | apply below_alloc | apply pw_below_drewN | apply below_drew1) | exact Below.refl _ _))) hr2 hm2); clear hr2 hm2; clear HP; have HP := n_; clear n_; obtain ⟨x0, x1, x2, x3, x4, x5⟩ := bx6 HP.out.bx)
                  | (go_at_call 13; (with_reducible refine (gs_del HP.out.g ?s1 (by have := HN.out; omega) s.id z1 _ hhe _ rfl).mono ?_); (case s1 => exact (by repeat (first | (with_reducible first | exact Below.refl _ _ | apply below_alloc | apply pw_below_drewN | apply below_drew1) | exact Below.refl _ _))); rintro e w3 ⟨rfl, hG2, hm2⟩; have n_ := Aside0.mk (PL.putg (HP.out.below (by repeat (first | (with_reducible first | exact Below.refl _ _ | apply below_alloc | apply pw_below_drewN | apply below_drew1) | exact Below.refl _ _))) hG2 hm2 (fun k hk => Or.inl hk)); clear hG2 hm2; clear HP; have HP := n_; clear n_; obtain ⟨x0, x1, x2, x3, x4, x5⟩ := bx6 HP.out.bx))
                go_meet
                case rel => exact ⟨_, _, _, HP.out.mono (Nat.le_succ _)⟩
            · have o2 : (s.op == 2) = false := beq_eq_false_iff_ne.2 q2
              clear q2
              by_cases q3 : s.op = 3
              · have o3 : (s.op == 3) = true := beq_iff_eq.2 q3
                clear q3
                obtain ⟨px, hpx⟩ : ∃ x, (atL L s.id).1 = x := ⟨_, rfl⟩
                obtain ⟨py, hpy⟩ : ∃ y, (atL L s.id).2 = y := ⟨_, rfl⟩
                have hxy : atL L s.id = (px, py) := by rw [← hpx, ← hpy]
                obtain ⟨hh, hhe⟩ : ∃ b, hasP L s.id = b := ⟨_, rfl⟩
                clear hpx hpy
                cases hh
                · go_wp2_with (first
                    | (go_at_call 14; (with_reducible refine (gs_at HP.out.g ?s1 s.id z1 _ _ hxy _ hhe).mono ?_); (case s1 => exact (by repeat (first | (with_reducible first | exact Below.refl _ _ | apply below_alloc | apply pw_below_drewN | apply below_drew1) | exact Below.refl _ _))); rintro e w3 ⟨rfl, hb⟩; have n_ := Aside0.mk (HP.out.below (below_step (by repeat (first | (with_reducible first | exact Below.refl _ _ | apply below_alloc | apply pw_below_drewN | apply below_drew1) | exact Below.refl _ _)) hb)); clear hb; clear HP; have HP := n_; clear n_; obtain ⟨x0, x1, x2, x3, x4, x5⟩ := bx6 HP.out.bx; obtain ⟨_, x1', _⟩ := bx6 (heap_alloc_old2 w3 (.cells #[.int .i64 px, .int .i64 py] 32) HP.out.bx))
                    | (go_at_call 15; (with_reducible refine (rs_at HP.out.r ?s1 HSR.out HLn.out s.id _ _ hxy _ hhe).mono ?_); (case s1 => exact (by repeat (first | (with_reducible first | exact Below.refl _ _ | apply below_alloc | apply pw_below_drewN | apply below_drew1) | exact Below.refl _ _))); rintro e w4 ⟨rfl, hb⟩; obtain ⟨y0, y1⟩ := bx_cells2 (heap_alloc_old2 w4 (.cells #[.int .i64 px, .int .i64 py] 32) ((hb.block _ (by simp)).trans (heap_alloc_new w3 (.cells #[.int .i64 px, .int .i64 py] 32)))); have n_ := Aside0.mk (HP.out.below (below_step (by repeat (first | (with_reducible first | exact Below.refl _ _ | apply below_alloc | apply pw_below_drewN | apply below_drew1) | exact Below.refl _ _)) hb)); clear hb; clear HP; have HP := n_; clear n_; obtain ⟨x0, x1, x2, x3, x4, x5⟩ := bx6 HP.out.bx))
                  go_meet
                  case rel => exact ⟨_, _, _, (HP.out.below (by repeat (first | (with_reducible first | exact Below.refl _ _ | apply below_alloc | apply pw_below_drewN | apply below_drew1) | exact Below.refl _ _))).mono (by omega)⟩
                · go_wp2_with (first
                    | (go_at_call 14; (with_reducible refine (gs_at HP.out.g ?s1 s.id z1 _ _ hxy _ hhe).mono ?_); (case s1 => exact (by repeat (first | (with_reducible first | exact Below.refl _ _ | apply below_alloc | apply pw_below_drewN | apply below_drew1) | exact Below.refl _ _))); rintro e w3 ⟨rfl, hb⟩; have n_ := Aside0.mk (HP.out.below (below_step (by repeat (first | (with_reducible first | exact Below.refl _ _ | apply below_alloc | apply pw_below_drewN | apply below_drew1) | exact Below.refl _ _)) hb)); clear hb; clear HP; have HP := n_; clear n_; obtain ⟨x0, x1, x2, x3, x4, x5⟩ := bx6 HP.out.bx; obtain ⟨_, x1', _⟩ := bx6 (heap_alloc_old2 w3 (.cells #[.int .i64 px, .int .i64 py] 32) HP.out.bx))
                    | (go_at_call 15; (with_reducible refine (rs_at HP.out.r ?s1 HSR.out HLn.out s.id _ _ hxy _ hhe).mono ?_); (case s1 => exact (by repeat (first | (with_reducible first | exact Below.refl _ _ | apply below_alloc | apply pw_below_drewN | apply below_drew1) | exact Below.refl _ _))); rintro e w4 ⟨rfl, hb⟩; obtain ⟨y0, y1⟩ := bx_cells2 (heap_alloc_old2 w4 (.cells #[.int .i64 px, .int .i64 py] 32) ((hb.block _ (by simp)).trans (heap_alloc_new w3 (.cells #[.int .i64 px, .int .i64 py] 32)))); have n_ := Aside0.mk (HP.out.below (below_step (by repeat (first | (with_reducible first | exact Below.refl _ _ | apply below_alloc | apply pw_below_drewN | apply below_drew1) | exact Below.refl _ _)) hb)); clear hb; clear HP; have HP := n_; clear n_; obtain ⟨x0, x1, x2, x3, x4, x5⟩ := bx6 HP.out.bx))
                  go_meet
                  case rel => exact ⟨_, _, _, (HP.out.below (by repeat (first | (with_reducible first | exact Below.refl _ _ | apply below_alloc | apply pw_below_drewN | apply below_drew1) | exact Below.refl _ _))).mono (by omega)⟩
              · have o3 : (s.op == 3) = false := beq_eq_false_iff_ne.2 q3
                clear q3
                by_cases q4 : s.op = 4
                · have o4 : (s.op == 4) = true := beq_iff_eq.2 q4
                  clear q4
                  obtain ⟨xs, hxs⟩ : ∃ xs, inL L s.x s.y s.r = xs := ⟨_, rfl⟩
                  have hxl := Aside0.mk (show xs.length ≤ 1000000 by rw [← hxs]; exact Nat.le_trans (inL_len _ _ _ _) HLn.out)
                  go_wp2
                  refine start_ (n := 14) (S := fun w' => w'.cell? ⟨bb, 2, none⟩ = some (.int .i64 s.x) ∧ w'.cell? ⟨bb, 3, none⟩ = some (.int .i64 s.y) ∧ w'.cell? ⟨bb, 4, none⟩ = some (.int .i64 s.r)) (ds := []) #[false, false, false, false, false, false, false, false, false, false, false, false, false, false] (by kernel_rfl) rfl rfl ⟨x2, x3, x4⟩ (fun hHeld => ?_)
                  refine with_tabW tab_f3_27 bits_f3_27 (fun HT_ HW_ => ?_)
                  refine pure_ (i := 0) (N := some 108) (v := ?_) (a' := ?_) #[true, false, false, false, false, false, false, false, false, false, false, false, false, false] rfl rfl (any_of HT_.out (by kernel_rfl)) (fun _ _ _ h => h) (Or.inl ⟨by rfl, ?_⟩) ?_ ?_
                  rotate_left
                  · intro w'
                    go_simp
                    with_reducible rfl
                  rotate_left
                  · simp only [Act.put, List.setIfInBounds_toArray, List.set_cons_zero, List.set_cons_succ, i64_w, i32_w]
                    rfl
                  refine pure_ (i := 1) (N := some 109) (v := ?_) (a' := ?_) #[true, true, false, false, false, false, false, false, false, false, false, false, false, false] rfl rfl (any_of HT_.out (by kernel_rfl)) (fun _ _ _ h => h) (Or.inl ⟨by rfl, ?_⟩) ?_ ?_
                  rotate_left
                  · intro w'
                    go_simp
                    with_reducible rfl
                  rotate_left
                  · simp only [Act.put, List.setIfInBounds_toArray, List.set_cons_zero, List.set_cons_succ, i64_w, i32_w]
                    rfl
                  refine take_ (i := 2) (N := some 110) (v := ?_) (a' := ?_) #[true, true, true, false, false, false, false, false, false, false, false, false, false, false] rfl rfl (take_ofW HT_.out HW_.out (by kernel_rfl)) (fun _ _ _ h => h) (Or.inl ⟨by rfl, ?_⟩) hHeld ?_ ?_
                  rotate_left
                  · rintro w' ⟨s1, s2, s3⟩
                    go_simp
                    with_reducible rfl
                  rotate_left
                  · simp only [Act.put, List.setIfInBounds_toArray, List.set_cons_zero, List.set_cons_succ, i64_w, i32_w]
                    rfl
                  refine pure_ (i := 3) (N := some 111) (v := ?_) (a' := ?_) #[true, true, true, true, false, false, false, false, false, false, false, false, false, false] rfl rfl (any_of HT_.out (by kernel_rfl)) (fun _ _ _ h => h) (Or.inl ⟨by rfl, ?_⟩) ?_ ?_
                  rotate_left
                  · intro w'
                    go_simp
                    with_reducible rfl
                  rotate_left
                  · simp only [Act.put, List.setIfInBounds_toArray, List.set_cons_zero, List.set_cons_succ, i64_w, i32_w]
                    rfl
                  refine take_ (i := 4) (N := some 112) (v := ?_) (a' := ?_) #[true, true, true, true, true, false, false, false, false, false, false, false, false, false] rfl rfl (take_ofW HT_.out HW_.out (by kernel_rfl)) (fun _ _ _ h => h) (Or.inl ⟨by rfl, ?_⟩) hHeld ?_ ?_
                  rotate_left
                  · rintro w' ⟨s1, s2, s3⟩
                    go_simp
                    with_reducible rfl
                  rotate_left
                  · simp only [Act.put, List.setIfInBounds_toArray, List.set_cons_zero, List.set_cons_succ, i64_w, i32_w]
                    rfl
                  refine pure_ (i := 6) (N := some 114) (v := ?_) (a' := ?_) #[true, true, true, true, true, false, true, false, false, false, false, false, false, false] rfl rfl (any_of HT_.out (by kernel_rfl)) (fun _ _ _ h => h) (Or.inl ⟨by rfl, ?_⟩) ?_ ?_
                  rotate_left
                  · intro w'
                    go_simp
                    with_reducible rfl
                  rotate_left
                  · simp only [Act.put, List.setIfInBounds_toArray, List.set_cons_zero, List.set_cons_succ, i64_w, i32_w]
                    rfl
                  refine pure_ (i := 7) (N := some 115) (v := ?_) (a' := ?_) #[true, true, true, true, true, false, true, true, false, false, false, false, false, false] rfl rfl (any_of HT_.out (by kernel_rfl)) (fun _ _ _ h => h) (Or.inl ⟨by rfl, ?_⟩) ?_ ?_
                  rotate_left
                  · intro w'
                    go_simp
                    with_reducible rfl
                  rotate_left
                  · simp only [Act.put, List.setIfInBounds_toArray, List.set_cons_zero, List.set_cons_succ, i64_w, i32_w]
                    rfl
                  refine take_ (i := 8) (N := some 116) (v := ?_) (a' := ?_) #[true, true, true, true, true, false, true, true, true, false, false, false, false, false] rfl rfl (take_ofW HT_.out HW_.out (by kernel_rfl)) (fun _ _ _ h => h) (Or.inl ⟨by rfl, ?_⟩) hHeld ?_ ?_
                  rotate_left
                  · rintro w' ⟨s1, s2, s3⟩
                    go_simp
                    with_reducible rfl
                  rotate_left
                  · simp only [Act.put, List.setIfInBounds_toArray, List.set_cons_zero, List.set_cons_succ, i64_w, i32_w]
                    rfl
                  refine pure_ (i := 9) (N := some 117) (v := ?_) (a' := ?_) #[true, true, true, true, true, false, true, true, true, true, false, false, false, false] rfl rfl (any_of HT_.out (by kernel_rfl)) (fun _ _ _ h => h) (Or.inl ⟨by rfl, ?_⟩) ?_ ?_
                  rotate_left
                  · intro w'
                    go_simp
                    with_reducible rfl
                  rotate_left
                  · simp only [Act.put, List.setIfInBounds_toArray, List.set_cons_zero, List.set_cons_succ, i64_w, i32_w]
                    rfl
                  refine take_ (i := 10) (N := some 118) (v := ?_) (a' := ?_) #[true, true, true, true, true, false, true, true, true, true, true, false, false, false] rfl rfl (take_ofW HT_.out HW_.out (by kernel_rfl)) (fun _ _ _ h => h) (Or.inl ⟨by rfl, ?_⟩) hHeld ?_ ?_
                  rotate_left
                  · rintro w' ⟨s1, s2, s3⟩
                    go_simp
                    with_reducible rfl
                  rotate_left
                  · simp only [Act.put, List.setIfInBounds_toArray, List.set_cons_zero, List.set_cons_succ, i64_w, i32_w]
                    rfl
                  refine one_ (i := 5) (N := some 113) #[true, true, true, true, true, true, true, true, true, true, true, false, false, false] rfl rfl (one_of HT_.out (by kernel_rfl)) (by decide) (fun K hK => ?_)
                  refine goes_ Try.func17 (by kernel_rfl) rfl #[.pointer (some ⟨g1, 0, none⟩), .agg #[.int .i64 s.x, .int .i64 s.y], .int .i64 s.r] (by rfl) rfl rfl (by (try simp only [List.map_toArray, List.map_cons, List.map_nil]); first | done | rfl) ?_
                  with_reducible refine (gs_near HP.out.g ?s1 HN.out z2 z3 z4 xs hxs).mono ?_
                  case s1 => exact (by repeat (first | (with_reducible first | exact Below.refl _ _ | apply below_alloc | apply pw_below_drewN | apply below_drew1) | exact Below.refl _ _))
                  rintro e w5 ⟨A1, c1, rfl, hR1, hc1, hb⟩
                  refine ⟨_, rfl, ?_⟩
                  have HR1 := Aside0.mk hR1
                  have HC1 := Aside0.mk hc1
                  clear hR1 hc1
                  have n_ := Aside0.mk (HP.out.below (below_step (by repeat (first | (with_reducible first | exact Below.refl _ _ | apply below_alloc | apply pw_below_drewN | apply below_drew1) | exact Below.refl _ _)) hb)); clear hb; clear HP; have HP := n_; clear n_; obtain ⟨x0, x1, x2, x3, x4, x5⟩ := bx6 HP.out.bx
                  refine hK.out _ _ ⟨x2, x3, x4⟩ (fun hHeld => ?_)
                  clear hK K
                  refine norm_ (a' := ?_) ?_ ?_
                  rotate_left
                  · show Act.put _ (some 113) _ = _
                    simp only [Act.put, List.setIfInBounds_toArray, List.set_cons_zero, List.set_cons_succ, i64_w, i32_w]
                    rfl
                  refine one_ (i := 11) (N := some 119) #[true, true, true, true, true, true, true, true, true, true, true, true, false, false] rfl rfl (one_of HT_.out (by kernel_rfl)) (by decide) (fun K hK => ?_)
                  refine goes_ Try.func18 (by kernel_rfl) rfl #[.pointer (some ⟨rb, 0, none⟩), .agg #[.int .i64 s.x, .int .i64 s.y], .int .i64 s.r] (by rfl) rfl rfl (by (try simp only [List.map_toArray, List.map_cons, List.map_nil]); first | done | rfl) ?_
                  with_reducible refine (rs_near HP.out.r ?s1 HWF.out HLn.out z2 z3 xs hxs).mono ?_
                  case s1 => exact (by repeat (first | (with_reducible first | exact Below.refl _ _ | apply below_alloc | apply pw_below_drewN | apply below_drew1) | exact Below.refl _ _))
                  rintro e w6 ⟨A2, c2, rfl, hc2, hC2, hb⟩
                  refine ⟨_, rfl, ?_⟩
                  have n2_ := Aside0.mk (R_to HR1.out (below_step (by repeat (first | (with_reducible first | exact Below.refl _ _ | apply below_alloc | apply pw_below_drewN | apply below_drew1) | exact Below.refl _ _)) hb))
                  have HR2 := Aside0.mk hC2
                  have HC2 := Aside0.mk hc2
                  clear hC2 hc2 HR1
                  have HR1 := n2_
                  clear n2_
                  have n_ := Aside0.mk (HP.out.below (below_step (by repeat (first | (with_reducible first | exact Below.refl _ _ | apply below_alloc | apply pw_below_drewN | apply below_drew1) | exact Below.refl _ _)) hb)); clear hb; clear HP; have HP := n_; clear n_; obtain ⟨x0, x1, x2, x3, x4, x5⟩ := bx6 HP.out.bx
                  refine hK.out _ _ ⟨x2, x3, x4⟩ (fun hHeld => ?_)
                  clear hK K
                  refine norm_ (a' := ?_) ?_ ?_
                  rotate_left
                  · show Act.put _ (some 119) _ = _
                    simp only [Act.put, List.setIfInBounds_toArray, List.set_cons_zero, List.set_cons_succ, i64_w, i32_w]
                    rfl
                  refine one_ (i := 12) (N := some 120) #[true, true, true, true, true, true, true, true, true, true, true, true, true, false] rfl rfl (one_of HT_.out (by kernel_rfl)) (by decide) (fun K hK => ?_)
                  refine goes_ Try.func16 (by kernel_rfl) rfl #[.slice A1 xs.length c1, .slice A2 xs.length c2] (by rfl) rfl rfl (by (try simp only [List.map_toArray, List.map_cons, List.map_nil]); first | done | rfl) ?_
                  with_reducible refine (ints_calls (a := xs) (b := xs) ?ha ?hb HC1.out HC2.out ?hn true (by simp)).mono ?_
                  case ha => exact (Kd.R_reads' (R_to HR1.out (by repeat (first | (with_reducible first | exact Below.refl _ _ | apply below_alloc | apply pw_below_drewN | apply below_drew1) | exact Below.refl _ _)))).2.2
                  case hb => exact Kd.C_below HR2.out (by repeat (first | (with_reducible first | exact Below.refl _ _ | apply below_alloc | apply pw_below_drewN | apply below_drew1) | exact Below.refl _ _))
                  case hn => have := hxl.out; omega
                  rintro e w7 ⟨rfl, ⟨nd, rfl⟩⟩
                  refine ⟨_, rfl, ?_⟩
                  refine hK.out _ _ ⟨x2, x3, x4⟩ (fun hHeld => ?_)
                  clear hK K
                  refine norm_ (a' := ?_) ?_ ?_
                  rotate_left
                  · show Act.put _ (some 120) _ = _
                    simp only [Act.put, List.setIfInBounds_toArray, List.set_cons_zero, List.set_cons_succ, i64_w, i32_w]
                    rfl
                  refine pure_ (i := 13) (N := some 121) (v := ?_) (a' := ?_) #[true, true, true, true, true, true, true, true, true, true, true, true, true, true] rfl rfl (any_of HT_.out (by kernel_rfl)) (fun _ _ _ h => h) (Or.inl ⟨by rfl, ?_⟩) ?_ ?_
                  rotate_left
                  · intro w'
                    go_simp
                    with_reducible rfl
                  rotate_left
                  · simp only [Act.put, List.setIfInBounds_toArray, List.set_cons_zero, List.set_cons_succ, i64_w, i32_w]
                    rfl
                  refine done_ (done_of HT_.out (by kernel_rfl)) ?_
                  clear hHeld HT_ HW_
                  go_wp2
                  go_meet
                  case rel => exact ⟨_, _, _, (HP.out.below (by repeat (first | (with_reducible first | exact Below.refl _ _ | apply below_alloc | apply pw_below_drewN | apply below_drew1) | exact Below.refl _ _))).mono (by omega)⟩
                · have o4 : (s.op == 4) = false := beq_eq_false_iff_ne.2 q4
                  clear q4
                  by_cases q5 : s.op = 5
                  · have o5 : (s.op == 5) = true := beq_iff_eq.2 q5
                    clear q5
                    obtain ⟨xs, hxs⟩ : ∃ xs, (nearS L s.x s.y s.r).take s.n.toNat = xs := ⟨_, rfl⟩
                    have hxl := Aside0.mk (show xs.length ≤ 1000000 by rw [← hxs, List.length_take]; exact Nat.le_trans (Nat.min_le_right _ _) (Nat.le_trans (nearS_len _ _ _ _) HLn.out))
                    go_wp2
                    refine start_ (n := 18) (S := fun w' => w'.cell? ⟨bb, 2, none⟩ = some (.int .i64 s.x) ∧ w'.cell? ⟨bb, 3, none⟩ = some (.int .i64 s.y) ∧ w'.cell? ⟨bb, 4, none⟩ = some (.int .i64 s.r) ∧ w'.cell? ⟨bb, 5, none⟩ = some (.int .i64 s.n)) (ds := []) #[false, false, false, false, false, false, false, false, false, false, false, false, false, false, false, false, false, false] (by kernel_rfl) rfl rfl ⟨x2, x3, x4, x5⟩ (fun hHeld => ?_)
                    refine with_tabW tab_f3_30 bits_f3_30 (fun HT_ HW_ => ?_)
                    refine pure_ (i := 0) (N := some 124) (v := ?_) (a' := ?_) #[true, false, false, false, false, false, false, false, false, false, false, false, false, false, false, false, false, false] rfl rfl (any_of HT_.out (by kernel_rfl)) (fun _ _ _ h => h) (Or.inl ⟨by rfl, ?_⟩) ?_ ?_
                    rotate_left
                    · intro w'
                      go_simp
                      with_reducible rfl
                    rotate_left
                    · simp only [Act.put, List.setIfInBounds_toArray, List.set_cons_zero, List.set_cons_succ, i64_w, i32_w]
                      rfl
                    refine pure_ (i := 1) (N := some 125) (v := ?_) (a' := ?_) #[true, true, false, false, false, false, false, false, false, false, false, false, false, false, false, false, false, false] rfl rfl (any_of HT_.out (by kernel_rfl)) (fun _ _ _ h => h) (Or.inl ⟨by rfl, ?_⟩) ?_ ?_
                    rotate_left
                    · intro w'
                      go_simp
                      with_reducible rfl
                    rotate_left
                    · simp only [Act.put, List.setIfInBounds_toArray, List.set_cons_zero, List.set_cons_succ, i64_w, i32_w]
                      rfl
                    refine take_ (i := 2) (N := some 126) (v := ?_) (a' := ?_) #[true, true, true, false, false, false, false, false, false, false, false, false, false, false, false, false, false, false] rfl rfl (take_ofW HT_.out HW_.out (by kernel_rfl)) (fun _ _ _ h => h) (Or.inl ⟨by rfl, ?_⟩) hHeld ?_ ?_
                    rotate_left
                    · rintro w' ⟨s1, s2, s3, s4⟩
                      go_simp
                      with_reducible rfl
                    rotate_left
                    · simp only [Act.put, List.setIfInBounds_toArray, List.set_cons_zero, List.set_cons_succ, i64_w, i32_w]
                      rfl
                    refine pure_ (i := 3) (N := some 127) (v := ?_) (a' := ?_) #[true, true, true, true, false, false, false, false, false, false, false, false, false, false, false, false, false, false] rfl rfl (any_of HT_.out (by kernel_rfl)) (fun _ _ _ h => h) (Or.inl ⟨by rfl, ?_⟩) ?_ ?_
                    rotate_left
                    · intro w'
                      go_simp
                      with_reducible rfl
                    rotate_left
                    · simp only [Act.put, List.setIfInBounds_toArray, List.set_cons_zero, List.set_cons_succ, i64_w, i32_w]
                      rfl
                    refine take_ (i := 4) (N := some 128) (v := ?_) (a' := ?_) #[true, true, true, true, true, false, false, false, false, false, false, false, false, false, false, false, false, false] rfl rfl (take_ofW HT_.out HW_.out (by kernel_rfl)) (fun _ _ _ h => h) (Or.inl ⟨by rfl, ?_⟩) hHeld ?_ ?_
                    rotate_left
                    · rintro w' ⟨s1, s2, s3, s4⟩
                      go_simp
                      with_reducible rfl
                    rotate_left
                    · simp only [Act.put, List.setIfInBounds_toArray, List.set_cons_zero, List.set_cons_succ, i64_w, i32_w]
                      rfl
                    refine pure_ (i := 5) (N := some 129) (v := ?_) (a' := ?_) #[true, true, true, true, true, true, false, false, false, false, false, false, false, false, false, false, false, false] rfl rfl (any_of HT_.out (by kernel_rfl)) (fun _ _ _ h => h) (Or.inl ⟨by rfl, ?_⟩) ?_ ?_
                    rotate_left
                    · intro w'
                      go_simp
                      with_reducible rfl
                    rotate_left
                    · simp only [Act.put, List.setIfInBounds_toArray, List.set_cons_zero, List.set_cons_succ, i64_w, i32_w]
                      rfl
                    refine take_ (i := 6) (N := some 130) (v := ?_) (a' := ?_) #[true, true, true, true, true, true, true, false, false, false, false, false, false, false, false, false, false, false] rfl rfl (take_ofW HT_.out HW_.out (by kernel_rfl)) (fun _ _ _ h => h) (Or.inl ⟨by rfl, ?_⟩) hHeld ?_ ?_
                    rotate_left
                    · rintro w' ⟨s1, s2, s3, s4⟩
                      go_simp
                      with_reducible rfl
                    rotate_left
                    · simp only [Act.put, List.setIfInBounds_toArray, List.set_cons_zero, List.set_cons_succ, i64_w, i32_w]
                      rfl
                    refine pure_ (i := 8) (N := some 132) (v := ?_) (a' := ?_) #[true, true, true, true, true, true, true, false, true, false, false, false, false, false, false, false, false, false] rfl rfl (any_of HT_.out (by kernel_rfl)) (fun _ _ _ h => h) (Or.inl ⟨by rfl, ?_⟩) ?_ ?_
                    rotate_left
                    · intro w'
                      go_simp
                      with_reducible rfl
                    rotate_left
                    · simp only [Act.put, List.setIfInBounds_toArray, List.set_cons_zero, List.set_cons_succ, i64_w, i32_w]
                      rfl
                    refine pure_ (i := 9) (N := some 133) (v := ?_) (a' := ?_) #[true, true, true, true, true, true, true, false, true, true, false, false, false, false, false, false, false, false] rfl rfl (any_of HT_.out (by kernel_rfl)) (fun _ _ _ h => h) (Or.inl ⟨by rfl, ?_⟩) ?_ ?_
                    rotate_left
                    · intro w'
                      go_simp
                      with_reducible rfl
                    rotate_left
                    · simp only [Act.put, List.setIfInBounds_toArray, List.set_cons_zero, List.set_cons_succ, i64_w, i32_w]
                      rfl
                    refine take_ (i := 10) (N := some 134) (v := ?_) (a' := ?_) #[true, true, true, true, true, true, true, false, true, true, true, false, false, false, false, false, false, false] rfl rfl (take_ofW HT_.out HW_.out (by kernel_rfl)) (fun _ _ _ h => h) (Or.inl ⟨by rfl, ?_⟩) hHeld ?_ ?_
                    rotate_left
                    · rintro w' ⟨s1, s2, s3, s4⟩
                      go_simp
                      with_reducible rfl
                    rotate_left
                    · simp only [Act.put, List.setIfInBounds_toArray, List.set_cons_zero, List.set_cons_succ, i64_w, i32_w]
                      rfl
                    refine pure_ (i := 11) (N := some 135) (v := ?_) (a' := ?_) #[true, true, true, true, true, true, true, false, true, true, true, true, false, false, false, false, false, false] rfl rfl (any_of HT_.out (by kernel_rfl)) (fun _ _ _ h => h) (Or.inl ⟨by rfl, ?_⟩) ?_ ?_
                    rotate_left
                    · intro w'
                      go_simp
                      with_reducible rfl
                    rotate_left
                    · simp only [Act.put, List.setIfInBounds_toArray, List.set_cons_zero, List.set_cons_succ, i64_w, i32_w]
                      rfl
                    refine take_ (i := 12) (N := some 136) (v := ?_) (a' := ?_) #[true, true, true, true, true, true, true, false, true, true, true, true, true, false, false, false, false, false] rfl rfl (take_ofW HT_.out HW_.out (by kernel_rfl)) (fun _ _ _ h => h) (Or.inl ⟨by rfl, ?_⟩) hHeld ?_ ?_
                    rotate_left
                    · rintro w' ⟨s1, s2, s3, s4⟩
                      go_simp
                      with_reducible rfl
                    rotate_left
                    · simp only [Act.put, List.setIfInBounds_toArray, List.set_cons_zero, List.set_cons_succ, i64_w, i32_w]
                      rfl
                    refine pure_ (i := 13) (N := some 137) (v := ?_) (a' := ?_) #[true, true, true, true, true, true, true, false, true, true, true, true, true, true, false, false, false, false] rfl rfl (any_of HT_.out (by kernel_rfl)) (fun _ _ _ h => h) (Or.inl ⟨by rfl, ?_⟩) ?_ ?_
                    rotate_left
                    · intro w'
                      go_simp
                      with_reducible rfl
                    rotate_left
                    · simp only [Act.put, List.setIfInBounds_toArray, List.set_cons_zero, List.set_cons_succ, i64_w, i32_w]
                      rfl
                    refine take_ (i := 14) (N := some 138) (v := ?_) (a' := ?_) #[true, true, true, true, true, true, true, false, true, true, true, true, true, true, true, false, false, false] rfl rfl (take_ofW HT_.out HW_.out (by kernel_rfl)) (fun _ _ _ h => h) (Or.inl ⟨by rfl, ?_⟩) hHeld ?_ ?_
                    rotate_left
                    · rintro w' ⟨s1, s2, s3, s4⟩
                      go_simp
                      with_reducible rfl
                    rotate_left
                    · simp only [Act.put, List.setIfInBounds_toArray, List.set_cons_zero, List.set_cons_succ, i64_w, i32_w]
                      rfl
                    refine one_ (i := 7) (N := some 131) #[true, true, true, true, true, true, true, true, true, true, true, true, true, true, true, false, false, false] rfl rfl (one_of HT_.out (by kernel_rfl)) (by decide) (fun K hK => ?_)
                    refine goes_ Try.func19 (by kernel_rfl) rfl #[.pointer (some ⟨g1, 0, none⟩), .agg #[.int .i64 s.x, .int .i64 s.y], .int .i64 s.r, .int .i64 s.n] (by rfl) rfl rfl (by (try simp only [List.map_toArray, List.map_cons, List.map_nil]); first | done | rfl) ?_
                    with_reducible refine (gs_nearest HP.out.g ?s1 HN.out z2 z3 z4 xs hxs).mono ?_
                    case s1 => exact (by repeat (first | (with_reducible first | exact Below.refl _ _ | apply below_alloc | apply pw_below_drewN | apply below_drew1) | exact Below.refl _ _))
                    rintro e w5 ⟨A1, c1, ys, rfl, _, hR1, hb⟩
                    refine ⟨_, rfl, ?_⟩
                    have HR1 := Aside0.mk hR1
                    clear hR1
                    have n_ := Aside0.mk (HP.out.below (below_step (by repeat (first | (with_reducible first | exact Below.refl _ _ | apply below_alloc | apply pw_below_drewN | apply below_drew1) | exact Below.refl _ _)) hb)); clear hb; clear HP; have HP := n_; clear n_; obtain ⟨x0, x1, x2, x3, x4, x5⟩ := bx6 HP.out.bx
                    refine hK.out _ _ ⟨x2, x3, x4, x5⟩ (fun hHeld => ?_)
                    clear hK K
                    refine norm_ (a' := ?_) ?_ ?_
                    rotate_left
                    · show Act.put _ (some 131) _ = _
                      simp only [Act.put, List.setIfInBounds_toArray, List.set_cons_zero, List.set_cons_succ, i64_w, i32_w]
                      rfl
                    refine one_ (i := 15) (N := some 139) #[true, true, true, true, true, true, true, true, true, true, true, true, true, true, true, true, false, false] rfl rfl (one_of HT_.out (by kernel_rfl)) (by decide) (fun K hK => ?_)
                    refine goes_ Try.func20 (by kernel_rfl) rfl #[.pointer (some ⟨rb, 0, none⟩), .agg #[.int .i64 s.x, .int .i64 s.y], .int .i64 s.r, .int .i64 s.n] (by rfl) rfl rfl (by (try simp only [List.map_toArray, List.map_cons, List.map_nil]); first | done | rfl) ?_
                    with_reducible refine (rs_nearest HP.out.r ?s1 HSR.out HWF.out HLn.out z2 z3 xs hxs).mono ?_
                    case s1 => exact (by repeat (first | (with_reducible first | exact Below.refl _ _ | apply below_alloc | apply pw_below_drewN | apply below_drew1) | exact Below.refl _ _))
                    rintro e w6 ⟨A2, c2, rfl, hc2, hC2, hb⟩
                    refine ⟨_, rfl, ?_⟩
                    have n2_ := Aside0.mk (Kd.C_below HR1.out (below_step (by repeat (first | (with_reducible first | exact Below.refl _ _ | apply below_alloc | apply pw_below_drewN | apply below_drew1) | exact Below.refl _ _)) hb))
                    have HR2 := Aside0.mk hC2
                    have HC2 := Aside0.mk hc2
                    clear hC2 hc2 HR1
                    have HR1 := n2_
                    clear n2_
                    have n_ := Aside0.mk (HP.out.below (below_step (by repeat (first | (with_reducible first | exact Below.refl _ _ | apply below_alloc | apply pw_below_drewN | apply below_drew1) | exact Below.refl _ _)) hb)); clear hb; clear HP; have HP := n_; clear n_; obtain ⟨x0, x1, x2, x3, x4, x5⟩ := bx6 HP.out.bx
                    refine hK.out _ _ ⟨x2, x3, x4, x5⟩ (fun hHeld => ?_)
                    clear hK K
                    refine norm_ (a' := ?_) ?_ ?_
                    rotate_left
                    · show Act.put _ (some 139) _ = _
                      simp only [Act.put, List.setIfInBounds_toArray, List.set_cons_zero, List.set_cons_succ, i64_w, i32_w]
                      rfl
                    refine one_ (i := 16) (N := some 140) #[true, true, true, true, true, true, true, true, true, true, true, true, true, true, true, true, true, false] rfl rfl (one_of HT_.out (by kernel_rfl)) (by decide) (fun K hK => ?_)
                    refine goes_ Try.func16 (by kernel_rfl) rfl #[.slice A1 xs.length xs.length, .slice A2 xs.length c2] (by rfl) rfl rfl (by (try simp only [List.map_toArray, List.map_cons, List.map_nil]); first | done | rfl) ?_
                    with_reducible refine (ints_calls (a := xs) (b := xs) ?ha ?hb (Nat.le_refl _) HC2.out ?hn true (by simp)).mono ?_
                    case ha => exact Kd.C_below HR1.out (by repeat (first | (with_reducible first | exact Below.refl _ _ | apply below_alloc | apply pw_below_drewN | apply below_drew1) | exact Below.refl _ _))
                    case hb => exact Kd.C_below HR2.out (by repeat (first | (with_reducible first | exact Below.refl _ _ | apply below_alloc | apply pw_below_drewN | apply below_drew1) | exact Below.refl _ _))
                    case hn => have := hxl.out; omega
                    rintro e w7 ⟨rfl, ⟨nd, rfl⟩⟩
                    refine ⟨_, rfl, ?_⟩
                    refine hK.out _ _ ⟨x2, x3, x4, x5⟩ (fun hHeld => ?_)
                    clear hK K
                    refine norm_ (a' := ?_) ?_ ?_
                    rotate_left
                    · show Act.put _ (some 140) _ = _
                      simp only [Act.put, List.setIfInBounds_toArray, List.set_cons_zero, List.set_cons_succ, i64_w, i32_w]
                      rfl
                    refine pure_ (i := 17) (N := some 141) (v := ?_) (a' := ?_) #[true, true, true, true, true, true, true, true, true, true, true, true, true, true, true, true, true, true] rfl rfl (any_of HT_.out (by kernel_rfl)) (fun _ _ _ h => h) (Or.inl ⟨by rfl, ?_⟩) ?_ ?_
                    rotate_left
                    · intro w'
                      go_simp
                      with_reducible rfl
                    rotate_left
                    · simp only [Act.put, List.setIfInBounds_toArray, List.set_cons_zero, List.set_cons_succ, i64_w, i32_w]
                      rfl
                    refine done_ (done_of HT_.out (by kernel_rfl)) ?_
                    clear hHeld HT_ HW_
                    go_wp2
                    go_meet
                    case rel => exact ⟨_, _, _, (HP.out.below (by repeat (first | (with_reducible first | exact Below.refl _ _ | apply below_alloc | apply pw_below_drewN | apply below_drew1) | exact Below.refl _ _))).mono (by omega)⟩
                  · have o5 : (s.op == 5) = false := beq_eq_false_iff_ne.2 q5
                    clear q5
                    go_wp2
                    go_meet
                    case rel => exact ⟨_, _, _, (HP.out.below (by repeat (first | (with_reducible first | exact Below.refl _ _ | apply below_alloc | apply pw_below_drewN | apply below_drew1) | exact Below.refl _ _))).mono (by omega)⟩
        case rest =>
          clear HP x0 x1 x2 x3 x4 x5
          obtain ⟨L', F', v', hP⟩ := hcut
          have HP := Aside0.mk hP
          obtain ⟨M, hM⟩ : ∃ M, L'.length = M := ⟨_, rfl⟩
          clear hP
          go_wp2_with (first
            | (go_at_call 21; (with_reducible refine (gs_len HP.out.g ?side1 M hM).mono ?_); (case side1 => exact (by repeat (first | (with_reducible first | exact Below.refl _ _ | apply below_alloc | apply pw_below_drewN | apply below_drew1) | exact Below.refl _ _))); rintro e w3 ⟨rfl, rfl⟩)
            | (go_at_call 22; (with_reducible refine (rs_len HP.out.r ?side1 M hM).mono ?_); (case side1 => exact (by repeat (first | (with_reducible first | exact Below.refl _ _ | apply below_alloc | apply pw_below_drewN | apply below_drew1) | exact Below.refl _ _))); rintro e w4 ⟨rfl, rfl⟩))
          obtain ⟨h0, hk, hk3⟩ := KA.out
          rw [wrap_id (x := k + 1) (by unfold I64; omega)]
          have en : 2 * (k + 1).toNat = 2 * k.toNat + 2 := by omega
          refine ⟨⟨k + 1, rfl, by omega, by omega, by omega, L', ?_⟩, by simp only [intOf]; omega⟩
          rw [en]
          exact (HP.out.below (by repeat (first | (with_reducible first | exact Below.refl _ _ | apply below_alloc | apply pw_below_drewN | apply below_drew1) | exact Below.refl _ _))).p0
      · have kb3 : decide (k < 300) = false := decide_eq_false hk3
        clear hk hk3 h0 h1 h3 hp0
        go_wp2
        go_ret
        exact ⟨rfl, (by repeat (first | (with_reducible first | exact HB.out | apply below_alloc | apply pw_below_drewN | apply below_drew1) | exact HB.out))⟩
    · have kb : decide (k < (l.length : Int)) = false := decide_eq_false hk
      clear hk h0 h1 h3 hp0
      go_wp2
      go_ret
      exact ⟨rfl, (by repeat (first | (with_reducible first | exact HB.out | apply below_alloc | apply pw_below_drewN | apply below_drew1) | exact HB.out))⟩
end Go.Proofs.Ytggmfmlfkhcbdaa.Gr
