/- Contracts for the arms of walks; the law's fixed script. -/
import Derived.Test.YtggmfmlfkhcbdaaGU
namespace Go.Proofs.Ytggmfmlfkhcbdaa.Gr
open Go Go.RowKit Go.Maps Go.Proofs.YtggmfmlfkhcbdaaW.PrintWords Go.Proofs.YtggmfmlfkhcbdaaW.PrintLast Go.Proofs.YtggmfmlfkhcbdaaW.PrintMore
set_option linter.unusedVariables false
set_option linter.unusedSimpArgs false

/-- A grid in blocks of its own, F. -/
def GS (w : World) (gb : Nat) (F : Nat → Prop) (side : Int) (n : Nat) (L : List Th) : Prop := ∃ pb cb hd rows, GridIn w gb pb cb F side n L hd rows
theorem GS.below {w w' : World} {gb : Nat} {F : Nat → Prop} {side : Int} {n : Nat} {L : List Th} (h : GS w gb F side n L) (hb : Below w.heap.size w w') : GS w' gb F side n L := by
  obtain ⟨pb, cb, hd, rows, h⟩ := h
  exact ⟨pb, cb, hd, rows, h.below hb⟩
theorem GS.mv {w w' : World} {gb : Nat} {F S : Nat → Prop} {side : Int} {n : Nat} {L : List Th} (h : GS w gb F side n L) (hb : Mv w w' S) (hS : ∀ k, F k → ¬ S k) : GS w' gb F side n L := by
  obtain ⟨pb, cb, hd, rows, h⟩ := h
  exact ⟨pb, cb, hd, rows, h.mv hb hS⟩
theorem GS.mono {w : World} {gb : Nat} {F : Nat → Prop} {side : Int} {n n' : Nat} {L : List Th} (h : GS w gb F side n L) (hn : n ≤ n') : GS w gb F side n' L := by
  obtain ⟨pb, cb, hd, rows, h⟩ := h
  exact ⟨pb, cb, hd, rows, h.mono hn⟩
theorem GS.lt {w : World} {gb : Nat} {F : Nat → Prop} {side : Int} {n : Nat} {L : List Th} (h : GS w gb F side n L) : ∀ k, F k → k < w.heap.size := by
  obtain ⟨pb, cb, hd, rows, h⟩ := h
  exact h.flt
theorem GS.srt {w : World} {gb : Nat} {F : Nat → Prop} {side : Int} {n : Nat} {L : List Th} (h : GS w gb F side n L) : Srt L := by
  obtain ⟨pb, cb, hd, rows, h⟩ := h
  exact h.srt
theorem GS.wf {w : World} {gb : Nat} {F : Nat → Prop} {side : Int} {n : Nat} {L : List Th} (h : GS w gb F side n L) : ∀ t ∈ L, I64 t.id ∧ I64 t.x ∧ I64 t.y := by
  obtain ⟨pb, cb, hd, rows, h⟩ := h
  exact h.wf
theorem GS.len {w : World} {gb : Nat} {F : Nat → Prop} {side : Int} {n : Nat} {L : List Th} (h : GS w gb F side n L) : L.length ≤ n := by
  obtain ⟨pb, cb, hd, rows, h⟩ := h
  exact h.len

section
variable {w w0 : World} {gb : Nat} {F : Nat → Prop} {side : Int} {n : Nat} {L : List Th}
theorem gs_new (side : Int) (h1 : 1 ≤ side) (h2 : side ≤ 1099511627776) (w : World) :
    Calls Try.prog 8 #[.int .i64 side] w fun e w' => ∃ gb F, e = .returned (.tuple #[.pointer (some ⟨gb, 0, none⟩), .int .i64 0]) ∧ GS w' gb F side 0 [] ∧ Below w.heap.size w w' ∧ ∀ k, F k → w.heap.size ≤ k := by
  refine (new_calls side h1 h2 w).mono ?_
  rintro e w' ⟨gb, pb, cb, F, hd, rows, rfl, h, hb, hF⟩
  exact ⟨gb, F, rfl, ⟨pb, cb, hd, rows, h⟩, hb, hF⟩
theorem gs_put (h : GS w0 gb F side n L) (hb : Below w0.heap.size w0 w) (hn : n ≤ 3900000000000) (id x y : Int) (hid : I64 id) (hx : I64 x) (hy : I64 y) (L' : List Th) (hL : putT ⟨id, x, y⟩ L = L') :
    Calls Try.prog 10 #[.pointer (some ⟨gb, 0, none⟩), .int .i64 id, .agg #[.int .i64 x, .int .i64 y]] w fun e w' => e = .returned (.tuple #[]) ∧ ∃ F', GS w' gb F' side (n + 2) L' ∧ Mv w w' F ∧ ∀ k, F' k → F k ∨ w.heap.size ≤ k := by
  subst hL
  obtain ⟨pb, cb, hd, rows, h⟩ := h
  refine (put_calls (h.below hb) hn hid hx hy).mono ?_
  rintro e w' ⟨rfl, F', hd', rows', h', hm, hF⟩
  exact ⟨rfl, F', ⟨pb, cb, hd', rows', h'⟩, hm, hF⟩
theorem gs_del (h : GS w0 gb F side n L) (hb : Below w0.heap.size w0 w) (hn : n ≤ 4000000000000) (id : Int) (hid : I64 id) (r : Bool) (hr : hasP L id = r) (L' : List Th) (hL : dropP L id = L') :
    Calls Try.prog 13 #[.pointer (some ⟨gb, 0, none⟩), .int .i64 id] w fun e w' => e = .returned (.bool r) ∧ GS w' gb F side (n + 1) L' ∧ Mv w w' F := by
  subst hr
  subst hL
  obtain ⟨pb, cb, hd, rows, h⟩ := h
  refine (del_calls (h.below hb) hn hid).mono ?_
  rintro e w' ⟨rfl, hd', rows', h', hm⟩
  exact ⟨rfl, ⟨pb, cb, hd', rows', h'⟩, hm⟩
theorem gs_at (h : GS w0 gb F side n L) (hb : Below w0.heap.size w0 w) (id : Int) (hid : I64 id) (x y : Int) (hxy : atL L id = (x, y)) (r : Bool) (hr : hasP L id = r) :
    Calls Try.prog 14 #[.pointer (some ⟨gb, 0, none⟩), .int .i64 id] w fun e w' => e = .returned (.tuple #[.agg #[.int .i64 x, .int .i64 y], .bool r]) ∧ Below w.heap.size w w' := by
  subst hr
  obtain ⟨pb, cb, hd, rows, h⟩ := h
  refine (at_calls (h.below hb) hid).mono ?_
  rintro e w' ⟨rfl, hm⟩
  rw [hxy]
  exact ⟨rfl, hm⟩
theorem gs_len (h : GS w0 gb F side n L) (hb : Below w0.heap.size w0 w) (m : Nat) (hm : L.length = m) :
    Calls Try.prog 21 #[.pointer (some ⟨gb, 0, none⟩)] w fun e w' => e = .returned (.int .i64 (m : Nat)) ∧ w' = w := by
  subst hm
  obtain ⟨pb, cb, hd, rows, h⟩ := h
  exact len_calls (h.below hb)
theorem gs_near (h : GS w0 gb F side n L) (hb : Below w0.heap.size w0 w) (hn : n ≤ 1000000) {ax ay r : Int} (hax : I64 ax) (hay : I64 ay) (hr : I64 r) (xs : List Int) (hx : inL L ax ay r = xs) :
    Calls Try.prog 17 #[.pointer (some ⟨gb, 0, none⟩), .agg #[.int .i64 ax, .int .i64 ay], .int .i64 r] w fun e w' => ∃ A c, e = .returned (.slice A xs.length c) ∧ ki.R 3 w' w.heap.size (fun _ => True) (.slice A xs.length c) xs ∧ xs.length ≤ c ∧ Below w.heap.size w w' := by
  subst hx
  obtain ⟨pb, cb, hd, rows, h⟩ := h
  refine (near17 (h.below hb) hn hax hay hr).mono ?_
  rintro e w' ⟨v, rfl, hR, hb⟩
  obtain ⟨A, c, rfl, hc, _⟩ := Kd.R_reads hR
  exact ⟨A, c, rfl, hR, hc, hb⟩
theorem gs_nearest (h : GS w0 gb F side n L) (hb : Below w0.heap.size w0 w) (hn : n ≤ 1000000) {ax ay r N : Int} (hax : I64 ax) (hay : I64 ay) (hr : I64 r) (xs : List Int) (hx : (nearS L ax ay r).take N.toNat = xs) :
    Calls Try.prog 19 #[.pointer (some ⟨gb, 0, none⟩), .agg #[.int .i64 ax, .int .i64 ay], .int .i64 r, .int .i64 N] w fun e w' => ∃ A c ys, e = .returned (.slice A xs.length xs.length) ∧ ki.R 3 w' w.heap.size (fun _ => True) (.slice A ys c) (nearS L ax ay r) ∧ ki.C w' A xs.length xs ∧ Below w.heap.size w w' := by
  subst hx
  obtain ⟨pb, cb, hd, rows, h⟩ := h
  refine (near19 (h.below hb) hn hax hay hr (N := N)).mono ?_
  rintro e w' ⟨A, c, m, rfl, hm, hR, hb⟩
  have e1 : (List.take N.toNat (nearS L ax ay r)).length = m := by rw [List.length_take, hm]
  have hT := (Kd.R_reads' (Kd.R_take hR (m := m) (by omega))).2.2
  have e2 : List.take m (nearS L ax ay r) = List.take N.toNat (nearS L ax ay r) := by
    rw [hm]
    by_cases hN : N.toNat ≤ (nearS L ax ay r).length
    · rw [Nat.min_eq_left hN]
    · rw [Nat.min_eq_right (by omega), List.take_length, List.take_of_length_le (by omega)]
  rw [e2] at hT
  exact ⟨A, c, (nearS L ax ay r).length, by rw [e1], hR, hT, hb⟩
end
/-- A literal row. -/
theorem lit_C {w : World} {g : Nat} {xs : List Int} {t : TypeId} (h : w.heap[g]? = some (.cells (xs.map (Value.int .i64)).toArray t (0, 0))) (hl : xs.length ≤ 4000000000000) : ki.C w (some ⟨g, 0, none⟩) xs.length xs := by
  refine ⟨rfl, by omega, fun _ => ⟨_, rfl, fun j p hj => ?_⟩⟩
  refine ⟨[.int .i64 p], rfl, rfl, fun i u hu => ?_⟩
  match i, hu with
  | 0, hu =>
    simp at hu
    subst hu
    rw [add_plain]
    have e : w.cell? ⟨g, j, none⟩ = (xs.map (Value.int .i64)).toArray[j]? := blk_cell h j
    rw [show j * ki.sz + 0 = j from (by show j * 1 + 0 = j; omega), e]
    simp [hj]

theorem i64 {x : Int} (h1 : -9223372036854775808 ≤ x) (h2 : x ≤ 9223372036854775807) : I64 x := ⟨h1, h2⟩
theorem Mv.toB {B : Nat} {w w' : World} {S : Nat → Prop} (h : Mv w w' S) (hB : B ≤ w.heap.size) (hS : ∀ k, S k → B ≤ k) : Below B w w' := ⟨h.os, h.tape, h.output, h.size, fun k hk => h.block k (Nat.lt_of_lt_of_le hk hB) (fun hs => by have := hS k hs; omega)⟩
theorem newF {B : Nat} {W : World} {F F2 : Nat → Prop} (hF : ∀ k, F k → B ≤ k) (hB : B ≤ W.heap.size) (h2 : ∀ k, F2 k → F k ∨ W.heap.size ≤ k) : ∀ k, F2 k → B ≤ k := fun k hk => (h2 k hk).elim (hF k) (fun h => Nat.le_trans hB h)
theorem R_to {W W2 : World} {base : Nat} {v : Value} {xs : List Int} (h : ki.R 3 W base (fun _ => True) v xs) (hb : Below W.heap.size W W2) : ki.R 3 W2 base (fun _ => True) v xs := Kd.R_below h hb
theorem bx5 {w4 w5 : World} (hb : Below (w4.alloc (.cells #[.int .i64 65536, .int .i64 0] 32)).heap.size (w4.alloc (.cells #[.int .i64 65536, .int .i64 0] 32)) w5) : w5.cell? ⟨w4.heap.size, 0, none⟩ = some (.int .i64 65536) :=
  below_cell hb ((blk_cell (heap_alloc_new w4 (.cells #[.int .i64 65536, .int .i64 0] 32)) 0).trans rfl)
set_option maxHeartbeats 1000000 in
theorem fixed_calls (w : World) : Calls Try.prog 7 #[] w fun e w' => e = .returned (.bool true) ∧ Below w.heap.size w w' := by
  go_enter Try.func7, Try.ntmps7
  go_wp2_with (first
    | (go_at_call 8; first
      | ((with_reducible refine (gs_new 65536 (by decide) (by decide) _).mono ?_); rintro e w1 ⟨gb, F, rfl, hG, hb, hF⟩; have HG := Aside0.mk hG; have HB := Aside0.mk (below_step (w := w) (by repeat (first | (with_reducible first | exact Below.refl _ _ | apply below_alloc | apply pw_below_drewN | apply below_drew1) | exact Below.refl _ _)) hb); have HF := Aside0.mk (fun k hk => Nat.le_trans (below_size (w := w) (by repeat (first | (with_reducible first | exact Below.refl _ _ | apply below_alloc | apply pw_below_drewN | apply below_drew1) | exact Below.refl _ _))) (hF k hk)); clear hG hb hF)
      | ((with_reducible refine (new_bad 0 (by decide) _).mono ?_); rintro e w2 ⟨rfl, hb⟩; have n1_ := Aside0.mk (below_step (by repeat (first | (with_reducible first | exact HB.out | apply below_alloc | apply pw_below_drewN | apply below_drew1) | exact HB.out)) hb); have n2_ := Aside0.mk (HG.out.below (below_step (by repeat (first | (with_reducible first | exact Below.refl _ _ | apply below_alloc | apply pw_below_drewN | apply below_drew1) | exact Below.refl _ _)) hb)); clear HB HG hb; have HB := n1_; have HG := n2_; clear n1_ n2_))
    | (go_at_call 10; first | ((with_reducible refine (gs_put HG.out ?side1 (by omega) (5) (0) (0) (i64 (by decide) (by decide)) (i64 (by decide) (by decide)) (i64 (by decide) (by decide)) [⟨5, 0, 0⟩] (by decide +kernel)).mono ?_); (case side1 => exact (by repeat (first | (with_reducible first | exact Below.refl _ _ | apply below_alloc | apply pw_below_drewN | apply below_drew1) | exact Below.refl _ _))); rintro e w3 ⟨rfl, F2, hG2, hm2, hF2⟩; have n1_ := Aside0.mk ((Below.trans (B := w.heap.size) (by repeat (first | (with_reducible first | exact HB.out | apply below_alloc | apply pw_below_drewN | apply below_drew1) | exact HB.out)) (hm2.toB (below_size (w := w) (by repeat (first | (with_reducible first | exact HB.out | apply below_alloc | apply pw_below_drewN | apply below_drew1) | exact HB.out))) HF.out))); have n2_ := Aside0.mk hG2; have n3_ := Aside0.mk (newF HF.out (below_size (w := w) (by repeat (first | (with_reducible first | exact HB.out | apply below_alloc | apply pw_below_drewN | apply below_drew1) | exact HB.out))) hF2); clear HB HG HF hm2 hG2 hF2; have HB := n1_; have HG := n2_; have HF := n3_; clear n1_ n2_ n3_) | ((with_reducible refine (gs_put HG.out ?side1 (by omega) (3) (65536) (0) (i64 (by decide) (by decide)) (i64 (by decide) (by decide)) (i64 (by decide) (by decide)) [⟨3, 65536, 0⟩, ⟨5, 0, 0⟩] (by decide +kernel)).mono ?_); (case side1 => exact (by repeat (first | (with_reducible first | exact Below.refl _ _ | apply below_alloc | apply pw_below_drewN | apply below_drew1) | exact Below.refl _ _))); rintro e w3 ⟨rfl, F2, hG2, hm2, hF2⟩; have n1_ := Aside0.mk ((Below.trans (B := w.heap.size) (by repeat (first | (with_reducible first | exact HB.out | apply below_alloc | apply pw_below_drewN | apply below_drew1) | exact HB.out)) (hm2.toB (below_size (w := w) (by repeat (first | (with_reducible first | exact HB.out | apply below_alloc | apply pw_below_drewN | apply below_drew1) | exact HB.out))) HF.out))); have n2_ := Aside0.mk hG2; have n3_ := Aside0.mk (newF HF.out (below_size (w := w) (by repeat (first | (with_reducible first | exact HB.out | apply below_alloc | apply pw_below_drewN | apply below_drew1) | exact HB.out))) hF2); clear HB HG HF hm2 hG2 hF2; have HB := n1_; have HG := n2_; have HF := n3_; clear n1_ n2_ n3_) | ((with_reducible refine (gs_put HG.out ?side1 (by omega) (9) (-1) (0) (i64 (by decide) (by decide)) (i64 (by decide) (by decide)) (i64 (by decide) (by decide)) [⟨3, 65536, 0⟩, ⟨5, 0, 0⟩, ⟨9, -1, 0⟩] (by decide +kernel)).mono ?_); (case side1 => exact (by repeat (first | (with_reducible first | exact Below.refl _ _ | apply below_alloc | apply pw_below_drewN | apply below_drew1) | exact Below.refl _ _))); rintro e w3 ⟨rfl, F2, hG2, hm2, hF2⟩; have n1_ := Aside0.mk ((Below.trans (B := w.heap.size) (by repeat (first | (with_reducible first | exact HB.out | apply below_alloc | apply pw_below_drewN | apply below_drew1) | exact HB.out)) (hm2.toB (below_size (w := w) (by repeat (first | (with_reducible first | exact HB.out | apply below_alloc | apply pw_below_drewN | apply below_drew1) | exact HB.out))) HF.out))); have n2_ := Aside0.mk hG2; have n3_ := Aside0.mk (newF HF.out (below_size (w := w) (by repeat (first | (with_reducible first | exact HB.out | apply below_alloc | apply pw_below_drewN | apply below_drew1) | exact HB.out))) hF2); clear HB HG HF hm2 hG2 hF2; have HB := n1_; have HG := n2_; have HF := n3_; clear n1_ n2_ n3_))
    | (go_at_call 14; (with_reducible refine (gs_at HG.out ?side1 3 (i64 (by decide) (by decide)) 65536 0 (by decide +kernel) true (by decide +kernel)).mono ?_); (case side1 => exact (by repeat (first | (with_reducible first | exact Below.refl _ _ | apply below_alloc | apply pw_below_drewN | apply below_drew1) | exact Below.refl _ _))); rintro e w4 ⟨rfl, hb⟩; have n1_ := Aside0.mk (below_step (by repeat (first | (with_reducible first | exact HB.out | apply below_alloc | apply pw_below_drewN | apply below_drew1) | exact HB.out)) hb); have n2_ := Aside0.mk (HG.out.below (below_step (by repeat (first | (with_reducible first | exact Below.refl _ _ | apply below_alloc | apply pw_below_drewN | apply below_drew1) | exact Below.refl _ _)) hb)); clear HB HG hb; have HB := n1_; have HG := n2_; clear n1_ n2_)
    | (go_at_call 17; (with_reducible refine (gs_near HG.out ?side1 (by decide) (i64 (by decide) (by decide)) (i64 (by decide) (by decide)) (i64 (by decide) (by decide)) [3, 5, 9] (by decide +kernel)).mono ?_); (case side1 => exact (by repeat (first | (with_reducible first | exact Below.refl _ _ | apply below_alloc | apply pw_below_drewN | apply below_drew1) | exact Below.refl _ _))); rintro e w5 ⟨A, c, rfl, hR, hc, hb⟩; have BX := Aside0.mk (bx5 (w4 := w4) hb); have HRN := Aside0.mk hR; have HCN := Aside0.mk hc; have n1_ := Aside0.mk (below_step (by repeat (first | (with_reducible first | exact HB.out | apply below_alloc | apply pw_below_drewN | apply below_drew1) | exact HB.out)) hb); have n2_ := Aside0.mk (HG.out.below (below_step (by repeat (first | (with_reducible first | exact Below.refl _ _ | apply below_alloc | apply pw_below_drewN | apply below_drew1) | exact Below.refl _ _)) hb)); clear HB HG hb hR hc; have HB := n1_; have HG := n2_; clear n1_ n2_)
    | (go_at_call 16; first
      | ((with_reducible refine (ints_calls (a := [3, 5, 9]) (b := [3, 5, 9]) ?ha ?hb ?hc ?hd (by decide) true (by decide)).mono ?_); (case ha => exact (Kd.R_reads' (R_to HRN.out (by repeat (first | (with_reducible first | exact Below.refl _ _ | apply below_alloc | apply pw_below_drewN | apply below_drew1) | exact Below.refl _ _)))).2.2); (case hb => exact lit_C (xs := [3, 5, 9]) (heap_alloc_new w5 _) (by decide)); (case hc => exact HCN.out); (case hd => decide); rintro e w6 ⟨rfl, ⟨nd, rfl⟩⟩; clear HRN HCN)
      | ((with_reducible refine (ints_calls (a := [5, 9]) (b := [5, 9]) ?ha ?hb ?hc ?hd (by decide) true (by decide)).mono ?_); (case ha => exact Kd.C_below HXN.out (by repeat (first | (with_reducible first | exact Below.refl _ _ | apply below_alloc | apply pw_below_drewN | apply below_drew1) | exact Below.refl _ _))); (case hb => exact lit_C (xs := [5, 9]) (heap_alloc_new w7 _) (by decide)); (case hc => decide); (case hd => decide); rintro e w8 ⟨rfl, ⟨nd2, rfl⟩⟩; have x1 : (w7.alloc (.cells #[.int .i64 5, .int .i64 9] 3)).cell? ⟨w4.heap.size, 0, none⟩ = some (.int .i64 65536) := below_cell (w := w7) (by repeat (first | (with_reducible first | exact Below.refl _ _ | apply below_alloc | apply pw_below_drewN | apply below_drew1) | exact Below.refl _ _)) x0; have x2 : ((w7.alloc (.cells #[.int .i64 5, .int .i64 9] 3)).drewN nd2).cell? ⟨w4.heap.size, 0, none⟩ = some (.int .i64 65536) := x1; clear HXN x0))
    | (go_at_call 19; (with_reducible refine (gs_nearest HG.out ?side1 (by decide) (i64 (by decide) (by decide)) (i64 (by decide) (by decide)) (i64 (by decide) (by decide)) [5, 9] (by decide +kernel)).mono ?_); (case side1 => exact (by repeat (first | (with_reducible first | exact Below.refl _ _ | apply below_alloc | apply pw_below_drewN | apply below_drew1) | exact Below.refl _ _))); rintro e w7 ⟨A2, c2, ys, rfl, _, hX, hb⟩; have x0 := below_cell (below_step (w := w5) (by repeat (first | (with_reducible first | exact Below.refl _ _ | apply below_alloc | apply pw_below_drewN | apply below_drew1) | exact Below.refl _ _)) hb) BX.out; have HXN := Aside0.mk hX; have n1_ := Aside0.mk (below_step (by repeat (first | (with_reducible first | exact HB.out | apply below_alloc | apply pw_below_drewN | apply below_drew1) | exact HB.out)) hb); have n2_ := Aside0.mk (HG.out.below (below_step (by repeat (first | (with_reducible first | exact Below.refl _ _ | apply below_alloc | apply pw_below_drewN | apply below_drew1) | exact Below.refl _ _)) hb)); clear HB HG hb hX; have HB := n1_; have HG := n2_; clear n1_ n2_)
    | (go_at_call 21; (with_reducible refine (gs_len HG.out ?side1 3 (by decide +kernel)).mono ?_); (case side1 => exact (by repeat (first | (with_reducible first | exact Below.refl _ _ | apply below_alloc | apply pw_below_drewN | apply below_drew1) | exact Below.refl _ _))); rintro e w5 ⟨rfl, rfl⟩)
    | (go_at_call 13; go_loud (first | ((with_reducible refine (gs_del HG.out ?side1 (by omega) 9 (i64 (by decide) (by decide)) true (by decide +kernel) [⟨3, 65536, 0⟩, ⟨5, 0, 0⟩] (by decide +kernel)).mono ?_); (case side1 => exact (by repeat (first | (with_reducible first | exact Below.refl _ _ | apply below_alloc | apply pw_below_drewN | apply below_drew1) | exact Below.refl _ _))); rintro e w3 ⟨rfl, hG2, hm2⟩; have n1_ := Aside0.mk ((Below.trans (B := w.heap.size) (by repeat (first | (with_reducible first | exact HB.out | apply below_alloc | apply pw_below_drewN | apply below_drew1) | exact HB.out)) (hm2.toB (below_size (w := w) (by repeat (first | (with_reducible first | exact HB.out | apply below_alloc | apply pw_below_drewN | apply below_drew1) | exact HB.out))) HF.out))); have n2_ := Aside0.mk hG2; clear HB HG hm2 hG2; have HB := n1_; have HG := n2_; clear n1_ n2_) | ((with_reducible refine (gs_del HG.out ?side1 (by omega) 9 (i64 (by decide) (by decide)) false (by decide +kernel) [⟨3, 65536, 0⟩, ⟨5, 0, 0⟩] (by decide +kernel)).mono ?_); (case side1 => exact (by repeat (first | (with_reducible first | exact Below.refl _ _ | apply below_alloc | apply pw_below_drewN | apply below_drew1) | exact Below.refl _ _))); rintro e w3 ⟨rfl, hG2, hm2⟩; have n1_ := Aside0.mk ((Below.trans (B := w.heap.size) (by repeat (first | (with_reducible first | exact HB.out | apply below_alloc | apply pw_below_drewN | apply below_drew1) | exact HB.out)) (hm2.toB (below_size (w := w) (by repeat (first | (with_reducible first | exact HB.out | apply below_alloc | apply pw_below_drewN | apply below_drew1) | exact HB.out))) HF.out))); have n2_ := Aside0.mk hG2; clear HB HG hm2 hG2; have HB := n1_; have HG := n2_; clear n1_ n2_))))
  go_ret
  exact ⟨rfl, HB.out⟩
end Go.Proofs.Ytggmfmlfkhcbdaa.Gr
