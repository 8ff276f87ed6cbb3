/- The walk of GatePlays. -/
import Derived.Test.YtokemjdfcifbbaaGC
import Derived.Test.YtokemjdfcifbbaaGF
import Derived.Deep.RegionWith
import Derived.Deep.CutBlock
import Derived.Deep.DeepCutAuto
namespace Go.Proofs.Ytokemjdfcifbbaa.Gt
open Go Go.RowKit Go.Maps Go.Proofs.YtokemjdfcifbbaaW.PrintWords Go.Proofs.YtokemjdfcifbbaaW.PrintMore Go.Proofs.YtokemjdfcifbbaaW.PrintLast
set_option linter.unusedVariables false
set_option linter.unusedSimpArgs false
attribute [local go_sem high] QQA.eqA40

theorem same_l0 (L : List It) : ∀ (n : Nat) (j : Int), 0 ≤ j → j + n = L.length → L.length ≤ 4000000000000 → QQA.joustlaw18_same.l0 (n + 1) L L j = some true
  | 0, j, h0, h1, _ => by
    unfold QQA.joustlaw18_same.l0
    rw [if_neg (by omega)]
  | n + 1, j, h0, h1, h2 => by
    unfold QQA.joustlaw18_same.l0
    rw [if_pos (by omega), if_pos h0, if_pos (by omega), if_neg (by simp), wrap_id (by omega) (by omega)]
    exact same_l0 L n (j + 1) (by omega) (by omega) h2
theorem same_f (L : List It) (h : L.length ≤ 4000000000000) : QQA.joustlaw18_same.f (L.length + 1) L L = some true := by
  unfold QQA.joustlaw18_same.f
  rw [if_pos rfl]
  exact same_l0 L L.length 0 (by omega) (by omega) h
theorem same_at {w : World} {A0 A1 : Option Addr} {c0 c1 : Nat} {L : List It} (h0 : Kd.C QQA.k40 w A0 L.length L) (hc0 : L.length ≤ c0) (h1 : Kd.C QQA.k40 w A1 L.length L) (hc1 : L.length ≤ c1) (hL : L.length ≤ 4000000000000) :
    Calls Try.prog 16 #[.slice A0 L.length c0, .slice A1 L.length c1] w fun e w' => e = .returned (.bool true) ∧ Below w.heap.size w w' :=
  (QQA.joustlaw18_same.calls (L.length + 1) A0 c0 L A1 c1 L true w h0 hc0 h1 hc1 (same_f L hL)).mono fun e w' h => ⟨h.1, h.2.below⟩
theorem bx_g {W W' w9 : World} {b m : Nat} {obj : Obj} (hb : W.heap[b]? = some obj) (hB : Below W.heap.size W W') (hg : W'.grownBy w9 (some m)) (h : m ≠ b) : w9.heap[b]? = some obj := by
  have hlt := (Array.getElem?_eq_some_iff.1 hb).1
  exact (hg.block b (Nat.lt_of_lt_of_le hlt hB.size) (fun e => by injection e with e; exact h e.symm)).trans ((hB.block b hlt).trans hb)
theorem bx_c {W : World} {b : Nat} {v0 v1 v2 v3 v4 v5 : Value} (hb : W.heap[b]? = some (.cells #[v0, v1, v2, v3, v4, v5] 33 (0, 0))) : W.cell? ⟨b, 0, none⟩ = some v0 ∧ W.cell? ⟨b, 1, none⟩ = some v1 ∧ W.cell? ⟨b, 2, none⟩ = some v2 ∧ W.cell? ⟨b, 3, none⟩ = some v3 ∧ W.cell? ⟨b, 4, none⟩ = some v4 ∧ W.cell? ⟨b, 5, none⟩ = some v5 := by
  simp [World.cell?, hb]
theorem ref_legal_at (p t u : Int) (f b : Bool) (w : World) : Calls Try.prog 19 #[.int .i64 p, .agg #[.int .i64 t, .int .i64 u, .bool f, .bool b]] w fun e w' => e = .returned (.agg #[.int .i64 p, .int .i64 (cl t 100), .int .i64 (cl u 8), .bool f, .bool b]) ∧ Below w.heap.size w w' :=
  QQA.joustref18_Legal.calls p t u f b p (cl t 100) (cl u 8) f b w (ref_legal_f p t u f b)
theorem R_of_map {w0 w w' : World} {base gb mb n : Nat} {v : Value} {xs : List It} {G : List It} (hG : GateAt w gb mb n G) (h : QQA.k40.R 40 w0 base (fun _ => True) v xs) (hb : Below w0.heap.size w0 w) (hg : w.grownBy w' (some mb)) : QQA.k40.R 40 w' base (fun _ => True) v xs := by
  obtain ⟨es, clock, hm⟩ := hG.mapped
  exact R_map (Kd.R_below h hb) hm hg
theorem plays_step {W w5 : World} {g1 m1 rb len : Nat} {k : Int} (KA : 0 ≤ k ∧ k ≤ (len : Int) ∧ k < (len : Int)) (hl : len * 40 ≤ 140737488351232) (HB : Below W.heap.size W w5) (G : List It) (v : Value) (HD : GateAt w5 g1 m1 (k.toNat + 1) G) (HE : RefAt w5 rb W.heap.size G v) :
    (∃ k1 : Int, Value.int IntKind.i64 (wrap64 (k + 1)) = Value.int IntKind.i64 k1 ∧ 0 ≤ k1 ∧ k1 ≤ (len : Int) ∧ Below W.heap.size W w5 ∧ ∃ G v, GateAt w5 g1 m1 k1.toNat G ∧ RefAt w5 rb W.heap.size G v) ∧
      len - (intOf (Value.int IntKind.i64 (wrap64 (k + 1)))).toNat < len - (intOf (Value.int IntKind.i64 k)).toNat := by
  obtain ⟨h0, h1, h2⟩ := KA
  rw [wrap_id (by omega) (by omega)]
  have e : (k + 1).toNat = k.toNat + 1 := by omega
  refine ⟨⟨k + 1, rfl, by omega, by omega, HB, G, v, ?_, HE⟩, ?_⟩
  · rw [e]; exact HD
  · simp only [intOf]; omega

def T27 : Bool × List (List Nat × List Nat) := (true, [([], []), ([0], [0]), ([], []), ([2], [2]), ([1, 3], [1, 3]), ([], []), ([5], [5]), ([], []), ([7], [7]), ([6, 8, 4], [6, 8]), ([4, 9], [4, 9])])
def B27 : List Nat := [0, 1, 0, 4, 15, 0, 32, 0, 128, 495, 1023]
theorem tab_f3_27 : rtab .any (opsOf Try.f3 27) = T27 := by kernel_rfl
theorem bits_f3_27 : waitsOk T27.2 B27 = true := by kernel_rfl
def T17 : Bool × List (List Nat × List Nat) := (true, [([], []), ([], []), ([1], [1]), ([0, 2], [0, 2]), ([], []), ([], []), ([5], [5]), ([4, 6, 3], [4, 6]), ([3, 7], [3, 7])])
def B17 : List Nat := [0, 0, 2, 7, 0, 0, 32, 127, 255]
theorem tab_f3_17 : rtab .any (opsOf Try.f3 17) = T17 := by kernel_rfl
theorem bits_f3_17 : waitsOk T17.2 B17 = true := by kernel_rfl
theorem bx_b {W w6 : World} {b : Nat} {obj : Obj} (hb : W.heap[b]? = some obj) (hB : Below W.heap.size W w6) : w6.heap[b]? = some obj :=
  (hB.block b (Array.getElem?_eq_some_iff.1 hb).1).trans hb
theorem r_waits_at {w : World} {rb B : Nat} {L : List It} {v : Value} (h : RefAt w rb B L v) (hL : L.length ≤ 4000000000000) (x : Int) (r : Bool) (hr : hasP L x = r) :
    Calls Try.prog 12 #[.pointer (some ⟨rb, 0, none⟩), .int .i64 x] w fun e w' => e = .returned (.bool r) ∧ Below w.heap.size w w' := by
  subst hr
  exact r_waits h hL x
theorem r_drop_at {w : World} {rb B : Nat} {L : List It} {v : Value} (h : RefAt w rb B L v) (hB : B ≤ w.heap.size) (hL : L.length ≤ 4000000000000) (x : Int) (r : Bool) (hr : hasP L x = r) :
    Calls Try.prog 13 #[.pointer (some ⟨rb, 0, none⟩), .int .i64 x] w fun e w' => e = .returned (.bool r) ∧ (∃ v', RefAt w' rb B (dropP L x) v') ∧ w.grownBy w' (some rb) := by
  subst hr
  exact r_drop h hB hL x
set_option maxHeartbeats 4000000 in
set_option maxRecDepth 100000 in
theorem plays_walk (A : Option Addr) (c : Nat) (l : List St) (w : World) (hC : Kd.C k33 w A l.length l) (hc : l.length ≤ c) (hlen : l.length * 40 ≤ 140737488351232) (hwf : ∀ s ∈ l, (Lit.int .i64 s.p).wf = true) :
    Calls Try.prog 3 #[.slice A l.length c] w fun e w' => e = .returned (.bool true) ∧ Below w.heap.size w w' := by
  have HC := Aside0.mk hC
  have HL := Aside0.mk hlen
  have HW := Aside0.mk hwf
  have HB := Aside0.mk (Below.refl w.heap.size w)
  clear hC hlen hwf
  go_enter Try.func3, Try.ntmps3
  go_wp2_with (first
    | (go_at_call 7; refine (fixed_calls _).mono ?_; rintro e w1 ⟨rfl, hb⟩; have n_ := Aside0.mk (below_step (by repeat (first | (with_reducible first | exact HB.out | apply below_alloc | apply pw_below_drewN | apply below_drew1) | exact HB.out)) hb); clear HB; have HB := n_; clear n_ hb)
    | (go_at_call 8; refine (g_new _).mono ?_; rintro e w2 ⟨g1, m1, rfl, hG, hb, hg1', hm1'⟩; have hg1 := Nat.le_trans (below_size (by repeat (first | (with_reducible first | exact HB.out | apply below_alloc | apply pw_below_drewN | apply below_drew1) | exact HB.out))) hg1'; have hm1 := Nat.le_trans (below_size (by repeat (first | (with_reducible first | exact HB.out | apply below_alloc | apply pw_below_drewN | apply below_drew1) | exact HB.out))) hm1'; have n_ := Aside0.mk (below_step (by repeat (first | (with_reducible first | exact HB.out | apply below_alloc | apply pw_below_drewN | apply below_drew1) | exact HB.out)) hb); have HG := Aside0.mk hG; clear HB; have HB := n_; clear n_ hb hG hg1' hm1'))
  have hG := HG.out
  have hlg := hG.ltg
  have hlm := hG.ltm
  have hrb : w.heap.size ≤ w2.heap.size := below_size HB.out
  obtain ⟨rb, hrbe⟩ : ∃ r, w2.heap.size = r := ⟨_, rfl⟩
  have hF0 : RefAt (w2.alloc (.cells #[.slice none 0 0] 29)) rb w.heap.size [] (.slice none 0 0) := ⟨by rw [← hrbe]; exact heap_alloc_new w2 _, Kd.R_nil _ _ _ _ _⟩
  have hG0 := hG.below (w' := w2.alloc (.cells #[.slice none 0 0] 29)) (by repeat (first | (with_reducible first | exact Below.refl _ _ | apply below_alloc | apply pw_below_drewN | apply below_drew1) | exact Below.refl _ _))
  have hB0 : Below w.heap.size w (w2.alloc (.cells #[.slice none 0 0] 29)) := (by repeat (first | (with_reducible first | exact HB.out | apply below_alloc | apply pw_below_drewN | apply below_drew1) | exact HB.out))
  rw [hrbe] at hrb hlg hlm ⊢
  have hg1rb : g1 ≠ rb := by omega
  have hm1rb : m1 ≠ rb := by omega
  clear hG HG HB hrbe hlg hlm
  go_loopw [5] (fun iv wr => ∃ k : Int, iv = .int .i64 k ∧ 0 ≤ k ∧ k ≤ l.length ∧ Below w.heap.size w wr ∧ ∃ G v, GateAt wr g1 m1 k.toNat G ∧ RefAt wr rb w.heap.size G v) (fun iv _ => l.length - (intOf iv).toNat)
  case atStart => exact ⟨0, rfl, Int.le_refl _, by omega, hB0, [], _, hG0, hF0⟩
  case round =>
    clear hB0 hG0 hF0
    obtain ⟨k, rfl, h0, h1, hbw, G, v, hG, hF⟩ := hrel
    have HG := Aside0.mk hG
    have HF := Aside0.mk hF
    have HB := Aside0.mk hbw
    have hCw := Kd.C_below HC.out hbw
    have hm1w : m1 ≠ wr.heap.size := Nat.ne_of_lt hG.ltm
    have hrbw : rb ≠ wr.heap.size := Nat.ne_of_lt hF.lt
    have hgl := hG.len
    obtain ⟨Av, cv, rfl, hcv, _⟩ := ref_read hF
    clear hG hF hbw
    by_cases hk : k < l.length
    · have kb : decide (k < (l.length : Int)) = true := decide_eq_true hk
      obtain ⟨ad, s, hs, e1, d0, d1, d2, d3, d4, d5⟩ := at_T33 hCw k h0 hk
      subst e1
      have hwp := HW.out s (List.mem_of_getElem? hs)
      have hnk : k.toNat < maxLen := by
        have := HL.out
        simp only [maxLen]
        omega
      have HLG : Aside0 (G.length ≤ 3600000000000) := ⟨by have := HL.out; omega⟩
      have KA := Aside0.mk (And.intro h0 (And.intro h1 hk))
      have p0 : (0 ≤ k) = True := eq_true h0
      have p1 : (k < (l.length : Int)) = True := eq_true hk
      have BX := Aside0.mk (heap_alloc_new wr (.cells #[.int .i64 s.op, .int .i64 s.p, .int .i64 s.t, .int .i64 s.u, .bool s.f, .bool s.b] 33))
      have hnk4 : k.toNat ≤ 4000000000000 := by have := HL.out; omega
      clear hk hs h0 h1 hCw hgl
      go_upto_block 2 with fail
      go_cut [] (fun wc => Below w.heap.size w wc ∧ ∃ G' v', GateAt wc g1 m1 (k.toNat + 1) G' ∧ RefAt wc rb w.heap.size G' v' ∧ wc.heap[wr.heap.size]? = some (.cells #[.int .i64 s.op, .int .i64 s.p, .int .i64 s.t, .int .i64 s.u, .bool s.f, .bool s.b] 33 (0, 0)))
      case first =>
        obtain ⟨b1, hb1⟩ : ∃ b, hasP G s.p = b := ⟨_, rfl⟩
        by_cases q : s.op = 1
        · have q1 : (s.op == 1) = true := beq_iff_eq.2 q
          clear q
          obtain ⟨r, RG⟩ : ∃ r : Int, (if hasP G s.p then 180 else 0) = r := ⟨_, rfl⟩
          go_wp2_with (first | (go_at_call 9; (with_reducible refine (r_offer (HF.out.below (by repeat (first | (with_reducible first | exact Below.refl _ _ | apply below_alloc | apply pw_below_drewN | apply below_drew1) | exact Below.refl _ _))) ?side1 ?side2 s.p s.t s.u s.f s.b _ RG).mono ?_); (case side1 => exact below_size (by repeat (first | (with_reducible first | exact HB.out | apply below_alloc | apply pw_below_drewN | apply below_drew1) | exact HB.out))); (case side2 => have e := HLG.out; omega); rintro e w4 ⟨rfl, ⟨v4, hF1⟩, hg1⟩; have hmm := hrb; have hmb := hrbw; have bx := bx_g BX.out (by repeat (first | (with_reducible first | exact Below.refl _ _ | apply below_alloc | apply pw_below_drewN | apply below_drew1) | exact Below.refl _ _)) hg1 hmb; clear BX; have BX := Aside0.mk bx; clear bx; obtain ⟨x0, x1, x2, x3, x4, x5⟩ := bx_c BX.out; have HG1 := Aside0.mk (other_gate HG.out (by repeat (first | (with_reducible first | exact Below.refl _ _ | apply below_alloc | apply pw_below_drewN | apply below_drew1) | exact Below.refl _ _)) hg1 hg1rb hm1rb); have n_ := Aside0.mk (below_g (by repeat (first | (with_reducible first | exact HB.out | apply below_alloc | apply pw_below_drewN | apply below_drew1) | exact HB.out)) hg1 hmm); clear HB; have HB := n_; clear n_; clear HG HF; have HG := HG1; have HF := Aside0.mk hF1; clear HG1 hF1 hg1 hmm hmb) | (go_at_call 10; (with_reducible refine (offer_at HG.out ?side1 ?side2 s.p s.t s.u s.f s.b hwp _ RG _ rfl).mono ?_); (case side1 => exact (by repeat (first | (with_reducible first | exact Below.refl _ _ | apply below_alloc | apply pw_below_drewN | apply below_drew1) | exact Below.refl _ _))); (case side2 => exact hnk); rintro e w5 ⟨rfl, hG1, hg1⟩; have hmm := hm1; have hmb := hm1w; have bx := bx_g BX.out (by repeat (first | (with_reducible first | exact Below.refl _ _ | apply below_alloc | apply pw_below_drewN | apply below_drew1) | exact Below.refl _ _)) hg1 hmb; clear BX; have BX := Aside0.mk bx; clear bx; obtain ⟨x0, x1, x2, x3, x4, x5⟩ := bx_c BX.out; have HF1 := Aside0.mk ((HF.out.below (by repeat (first | (with_reducible first | exact Below.refl _ _ | apply below_alloc | apply pw_below_drewN | apply below_drew1) | exact Below.refl _ _))).gate (HG.out.below (by repeat (first | (with_reducible first | exact Below.refl _ _ | apply below_alloc | apply pw_below_drewN | apply below_drew1) | exact Below.refl _ _))) hg1); have n_ := Aside0.mk (below_g (by repeat (first | (with_reducible first | exact HB.out | apply below_alloc | apply pw_below_drewN | apply below_drew1) | exact HB.out)) hg1 hmm); clear HB; have HB := n_; clear n_; clear HG HF; have HF := HF1; have HG := Aside0.mk hG1; clear HF1 hG1 hg1 hmm hmb))
          go_meet
          case rel => exact ⟨HB.out, _, _, HG.out, HF.out, BX.out⟩
        · have q1 : (s.op == 1) = false := beq_eq_false_iff_ne.2 q
          clear q
          by_cases q : s.op = 2
          · have q2 : (s.op == 2) = true := beq_iff_eq.2 q
            clear q
            obtain ⟨x0, x1, x2, x3, x4, x5⟩ := bx_c BX.out
            cases b1
            · go_wp2
              refine start_ (n := 9) (S := fun w' => w'.cell? ⟨wr.heap.size, 1, none⟩ = some (.int .i64 s.p)) (ds := []) #[false, false, false, false, false, false, false, false, false] (by kernel_rfl) rfl rfl x1 (fun hHeld => ?_)
              refine with_tabW tab_f3_17 bits_f3_17 (fun HT_ HW_ => ?_)
              refine pure_ (i := 0) (N := some 48) (v := ?_) (a' := ?_) #[true, false, false, false, false, false, false, false, false] rfl rfl (any_of HT_.out (by kernel_rfl)) (fun _ _ _ h => h) (Or.inl ⟨by rfl, ?_⟩) ?_ ?_
              rotate_left
              · intro w'
                go_simp
                with_reducible rfl
              rotate_left
              · simp only [Act.put, List.setIfInBounds_toArray, List.set_cons_zero, List.set_cons_succ, i64_w, i32_w]
                rfl
              refine pure_ (i := 1) (N := some 49) (v := ?_) (a' := ?_) #[true, true, false, false, false, false, false, false, false] rfl rfl (any_of HT_.out (by kernel_rfl)) (fun _ _ _ h => h) (Or.inl ⟨by rfl, ?_⟩) ?_ ?_
              rotate_left
              · intro w'
                go_simp
                with_reducible rfl
              rotate_left
              · simp only [Act.put, List.setIfInBounds_toArray, List.set_cons_zero, List.set_cons_succ, i64_w, i32_w]
                rfl
              refine pure_ (i := 4) (N := some 52) (v := ?_) (a' := ?_) #[true, true, false, false, true, false, false, false, false] rfl rfl (any_of HT_.out (by kernel_rfl)) (fun _ _ _ h => h) (Or.inl ⟨by rfl, ?_⟩) ?_ ?_
              rotate_left
              · intro w'
                go_simp
                with_reducible rfl
              rotate_left
              · simp only [Act.put, List.setIfInBounds_toArray, List.set_cons_zero, List.set_cons_succ, i64_w, i32_w]
                rfl
              refine pure_ (i := 5) (N := some 53) (v := ?_) (a' := ?_) #[true, true, false, false, true, true, false, false, false] rfl rfl (any_of HT_.out (by kernel_rfl)) (fun _ _ _ h => h) (Or.inl ⟨by rfl, ?_⟩) ?_ ?_
              rotate_left
              · intro w'
                go_simp
                with_reducible rfl
              rotate_left
              · simp only [Act.put, List.setIfInBounds_toArray, List.set_cons_zero, List.set_cons_succ, i64_w, i32_w]
                rfl
              refine take_ (i := 2) (N := some 50) (v := ?_) (a' := ?_) #[true, true, true, false, true, true, false, false, false] rfl rfl (take_ofW HT_.out HW_.out (by kernel_rfl)) (fun _ _ _ h => h) (Or.inl ⟨by rfl, ?_⟩) hHeld ?_ ?_
              rotate_left
              · rintro w' s1
                go_simp
                with_reducible rfl
              rotate_left
              · simp only [Act.put, List.setIfInBounds_toArray, List.set_cons_zero, List.set_cons_succ, i64_w, i32_w]
                rfl
              refine take_ (i := 6) (N := some 54) (v := ?_) (a' := ?_) #[true, true, true, false, true, true, true, false, false] rfl rfl (take_ofW HT_.out HW_.out (by kernel_rfl)) (fun _ _ _ h => h) (Or.inl ⟨by rfl, ?_⟩) hHeld ?_ ?_
              rotate_left
              · rintro w' s1
                go_simp
                with_reducible rfl
              rotate_left
              · simp only [Act.put, List.setIfInBounds_toArray, List.set_cons_zero, List.set_cons_succ, i64_w, i32_w]
                rfl
              refine one_ (i := 3) (N := some 51) #[true, true, true, true, true, true, true, false, false] rfl rfl (one_of HT_.out (by kernel_rfl)) (by decide) (fun K hK => ?_)
              refine goes_ Try.func11 (by kernel_rfl) rfl #[.pointer (some ⟨g1, 0, none⟩), .int .i64 s.p] (by rfl) rfl rfl (by (try simp only [List.map_toArray, List.map_cons, List.map_nil]); first | done | rfl) ?_
              with_reducible refine (waits_at HG.out (by repeat (first | (with_reducible first | exact Below.refl _ _ | apply below_alloc | apply pw_below_drewN | apply below_drew1) | exact Below.refl _ _)) s.p hwp _ hb1).mono ?_
              rintro e w5 ⟨rfl, hG1, hg1⟩
              refine ⟨_, rfl, ?_⟩
              have hmm := hm1; have hmb := hm1w; have bx := bx_g BX.out (by repeat (first | (with_reducible first | exact Below.refl _ _ | apply below_alloc | apply pw_below_drewN | apply below_drew1) | exact Below.refl _ _)) hg1 hmb; clear BX; have BX := Aside0.mk bx; clear bx; obtain ⟨x0, x1, x2, x3, x4, x5⟩ := bx_c BX.out; have HF1 := Aside0.mk ((HF.out.below (by repeat (first | (with_reducible first | exact Below.refl _ _ | apply below_alloc | apply pw_below_drewN | apply below_drew1) | exact Below.refl _ _))).gate (HG.out.below (by repeat (first | (with_reducible first | exact Below.refl _ _ | apply below_alloc | apply pw_below_drewN | apply below_drew1) | exact Below.refl _ _))) hg1); have n_ := Aside0.mk (below_g (by repeat (first | (with_reducible first | exact HB.out | apply below_alloc | apply pw_below_drewN | apply below_drew1) | exact HB.out)) hg1 hmm); clear HB; have HB := n_; clear n_; clear HG HF; have HF := HF1; have HG := Aside0.mk hG1; clear HF1 hG1 hg1 hmm hmb
              refine hK.out _ _ x1 (fun hHeld => ?_)
              clear hK K
              refine norm_ (a' := ?_) ?_ ?_
              rotate_left
              · show Act.put _ (some 51) _ = _
                simp only [Act.put, List.setIfInBounds_toArray, List.set_cons_zero, List.set_cons_succ, i64_w, i32_w]
                rfl
              refine one_ (i := 7) (N := some 55) #[true, true, true, true, true, true, true, true, false] rfl rfl (one_of HT_.out (by kernel_rfl)) (by decide) (fun K hK => ?_)
              refine goes_ Try.func12 (by kernel_rfl) rfl #[.pointer (some ⟨rb, 0, none⟩), .int .i64 s.p] (by rfl) rfl rfl (by (try simp only [List.map_toArray, List.map_cons, List.map_nil]); first | done | rfl) ?_
              with_reducible refine (r_waits_at (HF.out.below (by repeat (first | (with_reducible first | exact Below.refl _ _ | apply below_alloc | apply pw_below_drewN | apply below_drew1) | exact Below.refl _ _))) ?side2 s.p _ hb1).mono ?_
              case side2 => have e := HLG.out; omega
              rintro e w6 ⟨rfl, hb6⟩
              refine ⟨_, rfl, ?_⟩
              have bx := bx_b BX.out (below_step (by repeat (first | (with_reducible first | exact Below.refl _ _ | apply below_alloc | apply pw_below_drewN | apply below_drew1) | exact Below.refl _ _)) hb6); clear BX; have BX := Aside0.mk bx; clear bx; obtain ⟨x0, x1, x2, x3, x4, x5⟩ := bx_c BX.out; have HG1 := Aside0.mk (HG.out.below (below_step (by repeat (first | (with_reducible first | exact Below.refl _ _ | apply below_alloc | apply pw_below_drewN | apply below_drew1) | exact Below.refl _ _)) hb6)); have HF1 := Aside0.mk (HF.out.below (below_step (by repeat (first | (with_reducible first | exact Below.refl _ _ | apply below_alloc | apply pw_below_drewN | apply below_drew1) | exact Below.refl _ _)) hb6)); have n_ := Aside0.mk (below_step (by repeat (first | (with_reducible first | exact HB.out | apply below_alloc | apply pw_below_drewN | apply below_drew1) | exact HB.out)) hb6); clear HG HF HB hb6; have HG := HG1; have HF := HF1; have HB := n_; clear n_ HG1 HF1
              refine hK.out _ _ x1 (fun hHeld => ?_)
              clear hK K
              refine norm_ (a' := ?_) ?_ ?_
              rotate_left
              · show Act.put _ (some 55) _ = _
                simp only [Act.put, List.setIfInBounds_toArray, List.set_cons_zero, List.set_cons_succ, i64_w, i32_w]
                rfl
              refine pure_ (i := 8) (N := some 56) (v := ?_) (a' := ?_) #[true, true, true, true, true, true, true, true, true] rfl rfl (any_of HT_.out (by kernel_rfl)) (fun _ _ _ h => h) (Or.inl ⟨by rfl, ?_⟩) ?_ ?_
              rotate_left
              · intro w'
                go_simp
                with_reducible rfl
              rotate_left
              · simp only [Act.put, List.setIfInBounds_toArray, List.set_cons_zero, List.set_cons_succ, i64_w, i32_w]
                rfl
              refine done_ (done_of HT_.out (by kernel_rfl)) ?_
              go_wp2
              go_meet
              case rel => exact ⟨HB.out, _, _, HG.out.mono (Nat.le_succ _), HF.out, BX.out⟩
            · go_wp2
              refine start_ (n := 9) (S := fun w' => w'.cell? ⟨wr.heap.size, 1, none⟩ = some (.int .i64 s.p)) (ds := []) #[false, false, false, false, false, false, false, false, false] (by kernel_rfl) rfl rfl x1 (fun hHeld => ?_)
              refine with_tabW tab_f3_17 bits_f3_17 (fun HT_ HW_ => ?_)
              refine pure_ (i := 0) (N := some 48) (v := ?_) (a' := ?_) #[true, false, false, false, false, false, false, false, false] rfl rfl (any_of HT_.out (by kernel_rfl)) (fun _ _ _ h => h) (Or.inl ⟨by rfl, ?_⟩) ?_ ?_
              rotate_left
              · intro w'
                go_simp
                with_reducible rfl
              rotate_left
              · simp only [Act.put, List.setIfInBounds_toArray, List.set_cons_zero, List.set_cons_succ, i64_w, i32_w]
                rfl
              refine pure_ (i := 1) (N := some 49) (v := ?_) (a' := ?_) #[true, true, false, false, false, false, false, false, false] rfl rfl (any_of HT_.out (by kernel_rfl)) (fun _ _ _ h => h) (Or.inl ⟨by rfl, ?_⟩) ?_ ?_
              rotate_left
              · intro w'
                go_simp
                with_reducible rfl
              rotate_left
              · simp only [Act.put, List.setIfInBounds_toArray, List.set_cons_zero, List.set_cons_succ, i64_w, i32_w]
                rfl
              refine pure_ (i := 4) (N := some 52) (v := ?_) (a' := ?_) #[true, true, false, false, true, false, false, false, false] rfl rfl (any_of HT_.out (by kernel_rfl)) (fun _ _ _ h => h) (Or.inl ⟨by rfl, ?_⟩) ?_ ?_
              rotate_left
              · intro w'
                go_simp
                with_reducible rfl
              rotate_left
              · simp only [Act.put, List.setIfInBounds_toArray, List.set_cons_zero, List.set_cons_succ, i64_w, i32_w]
                rfl
              refine pure_ (i := 5) (N := some 53) (v := ?_) (a' := ?_) #[true, true, false, false, true, true, false, false, false] rfl rfl (any_of HT_.out (by kernel_rfl)) (fun _ _ _ h => h) (Or.inl ⟨by rfl, ?_⟩) ?_ ?_
              rotate_left
              · intro w'
                go_simp
                with_reducible rfl
              rotate_left
              · simp only [Act.put, List.setIfInBounds_toArray, List.set_cons_zero, List.set_cons_succ, i64_w, i32_w]
                rfl
              refine take_ (i := 2) (N := some 50) (v := ?_) (a' := ?_) #[true, true, true, false, true, true, false, false, false] rfl rfl (take_ofW HT_.out HW_.out (by kernel_rfl)) (fun _ _ _ h => h) (Or.inl ⟨by rfl, ?_⟩) hHeld ?_ ?_
              rotate_left
              · rintro w' s1
                go_simp
                with_reducible rfl
              rotate_left
              · simp only [Act.put, List.setIfInBounds_toArray, List.set_cons_zero, List.set_cons_succ, i64_w, i32_w]
                rfl
              refine take_ (i := 6) (N := some 54) (v := ?_) (a' := ?_) #[true, true, true, false, true, true, true, false, false] rfl rfl (take_ofW HT_.out HW_.out (by kernel_rfl)) (fun _ _ _ h => h) (Or.inl ⟨by rfl, ?_⟩) hHeld ?_ ?_
              rotate_left
              · rintro w' s1
                go_simp
                with_reducible rfl
              rotate_left
              · simp only [Act.put, List.setIfInBounds_toArray, List.set_cons_zero, List.set_cons_succ, i64_w, i32_w]
                rfl
              refine one_ (i := 3) (N := some 51) #[true, true, true, true, true, true, true, false, false] rfl rfl (one_of HT_.out (by kernel_rfl)) (by decide) (fun K hK => ?_)
              refine goes_ Try.func11 (by kernel_rfl) rfl #[.pointer (some ⟨g1, 0, none⟩), .int .i64 s.p] (by rfl) rfl rfl (by (try simp only [List.map_toArray, List.map_cons, List.map_nil]); first | done | rfl) ?_
              with_reducible refine (waits_at HG.out (by repeat (first | (with_reducible first | exact Below.refl _ _ | apply below_alloc | apply pw_below_drewN | apply below_drew1) | exact Below.refl _ _)) s.p hwp _ hb1).mono ?_
              rintro e w5 ⟨rfl, hG1, hg1⟩
              refine ⟨_, rfl, ?_⟩
              have hmm := hm1; have hmb := hm1w; have bx := bx_g BX.out (by repeat (first | (with_reducible first | exact Below.refl _ _ | apply below_alloc | apply pw_below_drewN | apply below_drew1) | exact Below.refl _ _)) hg1 hmb; clear BX; have BX := Aside0.mk bx; clear bx; obtain ⟨x0, x1, x2, x3, x4, x5⟩ := bx_c BX.out; have HF1 := Aside0.mk ((HF.out.below (by repeat (first | (with_reducible first | exact Below.refl _ _ | apply below_alloc | apply pw_below_drewN | apply below_drew1) | exact Below.refl _ _))).gate (HG.out.below (by repeat (first | (with_reducible first | exact Below.refl _ _ | apply below_alloc | apply pw_below_drewN | apply below_drew1) | exact Below.refl _ _))) hg1); have n_ := Aside0.mk (below_g (by repeat (first | (with_reducible first | exact HB.out | apply below_alloc | apply pw_below_drewN | apply below_drew1) | exact HB.out)) hg1 hmm); clear HB; have HB := n_; clear n_; clear HG HF; have HF := HF1; have HG := Aside0.mk hG1; clear HF1 hG1 hg1 hmm hmb
              refine hK.out _ _ x1 (fun hHeld => ?_)
              clear hK K
              refine norm_ (a' := ?_) ?_ ?_
              rotate_left
              · show Act.put _ (some 51) _ = _
                simp only [Act.put, List.setIfInBounds_toArray, List.set_cons_zero, List.set_cons_succ, i64_w, i32_w]
                rfl
              refine one_ (i := 7) (N := some 55) #[true, true, true, true, true, true, true, true, false] rfl rfl (one_of HT_.out (by kernel_rfl)) (by decide) (fun K hK => ?_)
              refine goes_ Try.func12 (by kernel_rfl) rfl #[.pointer (some ⟨rb, 0, none⟩), .int .i64 s.p] (by rfl) rfl rfl (by (try simp only [List.map_toArray, List.map_cons, List.map_nil]); first | done | rfl) ?_
              with_reducible refine (r_waits_at (HF.out.below (by repeat (first | (with_reducible first | exact Below.refl _ _ | apply below_alloc | apply pw_below_drewN | apply below_drew1) | exact Below.refl _ _))) ?side2 s.p _ hb1).mono ?_
              case side2 => have e := HLG.out; omega
              rintro e w6 ⟨rfl, hb6⟩
              refine ⟨_, rfl, ?_⟩
              have bx := bx_b BX.out (below_step (by repeat (first | (with_reducible first | exact Below.refl _ _ | apply below_alloc | apply pw_below_drewN | apply below_drew1) | exact Below.refl _ _)) hb6); clear BX; have BX := Aside0.mk bx; clear bx; obtain ⟨x0, x1, x2, x3, x4, x5⟩ := bx_c BX.out; have HG1 := Aside0.mk (HG.out.below (below_step (by repeat (first | (with_reducible first | exact Below.refl _ _ | apply below_alloc | apply pw_below_drewN | apply below_drew1) | exact Below.refl _ _)) hb6)); have HF1 := Aside0.mk (HF.out.below (below_step (by repeat (first | (with_reducible first | exact Below.refl _ _ | apply below_alloc | apply pw_below_drewN | apply below_drew1) | exact Below.refl _ _)) hb6)); have n_ := Aside0.mk (below_step (by repeat (first | (with_reducible first | exact HB.out | apply below_alloc | apply pw_below_drewN | apply below_drew1) | exact HB.out)) hb6); clear HG HF HB hb6; have HG := HG1; have HF := HF1; have HB := n_; clear n_ HG1 HF1
              refine hK.out _ _ x1 (fun hHeld => ?_)
              clear hK K
              refine norm_ (a' := ?_) ?_ ?_
              rotate_left
              · show Act.put _ (some 55) _ = _
                simp only [Act.put, List.setIfInBounds_toArray, List.set_cons_zero, List.set_cons_succ, i64_w, i32_w]
                rfl
              refine pure_ (i := 8) (N := some 56) (v := ?_) (a' := ?_) #[true, true, true, true, true, true, true, true, true] rfl rfl (any_of HT_.out (by kernel_rfl)) (fun _ _ _ h => h) (Or.inl ⟨by rfl, ?_⟩) ?_ ?_
              rotate_left
              · intro w'
                go_simp
                with_reducible rfl
              rotate_left
              · simp only [Act.put, List.setIfInBounds_toArray, List.set_cons_zero, List.set_cons_succ, i64_w, i32_w]
                rfl
              refine done_ (done_of HT_.out (by kernel_rfl)) ?_
              go_wp2
              go_meet
              case rel => exact ⟨HB.out, _, _, HG.out.mono (Nat.le_succ _), HF.out, BX.out⟩
          · have q2 : (s.op == 2) = false := beq_eq_false_iff_ne.2 q
            clear q
            by_cases q : s.op = 3
            · have q3 : (s.op == 3) = true := beq_iff_eq.2 q
              clear q
              cases b1
              · go_wp2_with (first | (go_at_call 13; (with_reducible refine (r_drop_at (HF.out.below (by repeat (first | (with_reducible first | exact Below.refl _ _ | apply below_alloc | apply pw_below_drewN | apply below_drew1) | exact Below.refl _ _))) ?side1 ?side2 s.p _ hb1).mono ?_); (case side1 => exact below_size (by repeat (first | (with_reducible first | exact HB.out | apply below_alloc | apply pw_below_drewN | apply below_drew1) | exact HB.out))); (case side2 => have e := HLG.out; omega); rintro e w4 ⟨rfl, ⟨v4, hF1⟩, hg1⟩; have hmm := hrb; have hmb := hrbw; have bx := bx_g BX.out (by repeat (first | (with_reducible first | exact Below.refl _ _ | apply below_alloc | apply pw_below_drewN | apply below_drew1) | exact Below.refl _ _)) hg1 hmb; clear BX; have BX := Aside0.mk bx; clear bx; obtain ⟨x0, x1, x2, x3, x4, x5⟩ := bx_c BX.out; have HG1 := Aside0.mk (other_gate HG.out (by repeat (first | (with_reducible first | exact Below.refl _ _ | apply below_alloc | apply pw_below_drewN | apply below_drew1) | exact Below.refl _ _)) hg1 hg1rb hm1rb); have n_ := Aside0.mk (below_g (by repeat (first | (with_reducible first | exact HB.out | apply below_alloc | apply pw_below_drewN | apply below_drew1) | exact HB.out)) hg1 hmm); clear HB; have HB := n_; clear n_; clear HG HF; have HG := HG1; have HF := Aside0.mk hF1; clear HG1 hF1 hg1 hmm hmb) | (go_at_call 14; (with_reducible refine (drop_at HG.out ?side1 s.p hwp _ hb1 _ rfl).mono ?_); (case side1 => exact (by repeat (first | (with_reducible first | exact Below.refl _ _ | apply below_alloc | apply pw_below_drewN | apply below_drew1) | exact Below.refl _ _))); rintro e w5 ⟨rfl, hG1, hg1⟩; have hmm := hm1; have hmb := hm1w; have bx := bx_g BX.out (by repeat (first | (with_reducible first | exact Below.refl _ _ | apply below_alloc | apply pw_below_drewN | apply below_drew1) | exact Below.refl _ _)) hg1 hmb; clear BX; have BX := Aside0.mk bx; clear bx; obtain ⟨x0, x1, x2, x3, x4, x5⟩ := bx_c BX.out; have HF1 := Aside0.mk ((HF.out.below (by repeat (first | (with_reducible first | exact Below.refl _ _ | apply below_alloc | apply pw_below_drewN | apply below_drew1) | exact Below.refl _ _))).gate (HG.out.below (by repeat (first | (with_reducible first | exact Below.refl _ _ | apply below_alloc | apply pw_below_drewN | apply below_drew1) | exact Below.refl _ _))) hg1); have n_ := Aside0.mk (below_g (by repeat (first | (with_reducible first | exact HB.out | apply below_alloc | apply pw_below_drewN | apply below_drew1) | exact HB.out)) hg1 hmm); clear HB; have HB := n_; clear n_; clear HG HF; have HF := HF1; have HG := Aside0.mk hG1; clear HF1 hG1 hg1 hmm hmb))
                go_meet
                case rel => exact ⟨HB.out, _, _, HG.out.mono (Nat.le_succ _), HF.out, BX.out⟩
              · go_wp2_with (first | (go_at_call 13; (with_reducible refine (r_drop_at (HF.out.below (by repeat (first | (with_reducible first | exact Below.refl _ _ | apply below_alloc | apply pw_below_drewN | apply below_drew1) | exact Below.refl _ _))) ?side1 ?side2 s.p _ hb1).mono ?_); (case side1 => exact below_size (by repeat (first | (with_reducible first | exact HB.out | apply below_alloc | apply pw_below_drewN | apply below_drew1) | exact HB.out))); (case side2 => have e := HLG.out; omega); rintro e w4 ⟨rfl, ⟨v4, hF1⟩, hg1⟩; have hmm := hrb; have hmb := hrbw; have bx := bx_g BX.out (by repeat (first | (with_reducible first | exact Below.refl _ _ | apply below_alloc | apply pw_below_drewN | apply below_drew1) | exact Below.refl _ _)) hg1 hmb; clear BX; have BX := Aside0.mk bx; clear bx; obtain ⟨x0, x1, x2, x3, x4, x5⟩ := bx_c BX.out; have HG1 := Aside0.mk (other_gate HG.out (by repeat (first | (with_reducible first | exact Below.refl _ _ | apply below_alloc | apply pw_below_drewN | apply below_drew1) | exact Below.refl _ _)) hg1 hg1rb hm1rb); have n_ := Aside0.mk (below_g (by repeat (first | (with_reducible first | exact HB.out | apply below_alloc | apply pw_below_drewN | apply below_drew1) | exact HB.out)) hg1 hmm); clear HB; have HB := n_; clear n_; clear HG HF; have HG := HG1; have HF := Aside0.mk hF1; clear HG1 hF1 hg1 hmm hmb) | (go_at_call 14; (with_reducible refine (drop_at HG.out ?side1 s.p hwp _ hb1 _ rfl).mono ?_); (case side1 => exact (by repeat (first | (with_reducible first | exact Below.refl _ _ | apply below_alloc | apply pw_below_drewN | apply below_drew1) | exact Below.refl _ _))); rintro e w5 ⟨rfl, hG1, hg1⟩; have hmm := hm1; have hmb := hm1w; have bx := bx_g BX.out (by repeat (first | (with_reducible first | exact Below.refl _ _ | apply below_alloc | apply pw_below_drewN | apply below_drew1) | exact Below.refl _ _)) hg1 hmb; clear BX; have BX := Aside0.mk bx; clear bx; obtain ⟨x0, x1, x2, x3, x4, x5⟩ := bx_c BX.out; have HF1 := Aside0.mk ((HF.out.below (by repeat (first | (with_reducible first | exact Below.refl _ _ | apply below_alloc | apply pw_below_drewN | apply below_drew1) | exact Below.refl _ _))).gate (HG.out.below (by repeat (first | (with_reducible first | exact Below.refl _ _ | apply below_alloc | apply pw_below_drewN | apply below_drew1) | exact Below.refl _ _))) hg1); have n_ := Aside0.mk (below_g (by repeat (first | (with_reducible first | exact HB.out | apply below_alloc | apply pw_below_drewN | apply below_drew1) | exact HB.out)) hg1 hmm); clear HB; have HB := n_; clear n_; clear HG HF; have HF := HF1; have HG := Aside0.mk hG1; clear HF1 hG1 hg1 hmm hmb))
                go_meet
                case rel => exact ⟨HB.out, _, _, HG.out.mono (Nat.le_succ _), HF.out, BX.out⟩
            · have q3 : (s.op == 3) = false := beq_eq_false_iff_ne.2 q
              clear q
              by_cases q : s.op = 4
              · have q4 : (s.op == 4) = true := beq_iff_eq.2 q
                clear q
                go_wp2_with (first | (go_at_call 15; (with_reducible refine (r_take (HF.out.below (by repeat (first | (with_reducible first | exact Below.refl _ _ | apply below_alloc | apply pw_below_drewN | apply below_drew1) | exact Below.refl _ _)))).mono ?_); rintro e w4 ⟨rfl, hF1, hRW, hg1⟩; have HRW := Aside0.mk hRW; clear hRW; have hmm := hrb; have hmb := hrbw; have bx := bx_g BX.out (by repeat (first | (with_reducible first | exact Below.refl _ _ | apply below_alloc | apply pw_below_drewN | apply below_drew1) | exact Below.refl _ _)) hg1 hmb; clear BX; have BX := Aside0.mk bx; clear bx; obtain ⟨x0, x1, x2, x3, x4, x5⟩ := bx_c BX.out; have HG1 := Aside0.mk (other_gate HG.out (by repeat (first | (with_reducible first | exact Below.refl _ _ | apply below_alloc | apply pw_below_drewN | apply below_drew1) | exact Below.refl _ _)) hg1 hg1rb hm1rb); have n_ := Aside0.mk (below_g (by repeat (first | (with_reducible first | exact HB.out | apply below_alloc | apply pw_below_drewN | apply below_drew1) | exact HB.out)) hg1 hmm); clear HB; have HB := n_; clear n_; clear HG HF; have HG := HG1; have HF := Aside0.mk hF1; clear HG1 hF1 hg1 hmm hmb) | (go_at_call 17; (with_reducible refine (take_at HG.out ?side1 ?side2).mono ?_); (case side1 => exact (by repeat (first | (with_reducible first | exact Below.refl _ _ | apply below_alloc | apply pw_below_drewN | apply below_drew1) | exact Below.refl _ _))); (case side2 => exact hnk4); rintro e w5 ⟨A1, c1, rfl, hG1, hg1, hR1, hc1, hX1⟩; have HRW1 := Aside0.mk (R_row (R_of_map (HG.out.below (by repeat (first | (with_reducible first | exact Below.refl _ _ | apply below_alloc | apply pw_below_drewN | apply below_drew1) | exact Below.refl _ _))) HRW.out (by repeat (first | (with_reducible first | exact Below.refl _ _ | apply below_alloc | apply pw_below_drewN | apply below_drew1) | exact Below.refl _ _)) hg1)); clear HRW; have HRW := HRW1; have HX := Aside0.mk hX1; clear HRW1 hR1 hX1; have hmm := hm1; have hmb := hm1w; have bx := bx_g BX.out (by repeat (first | (with_reducible first | exact Below.refl _ _ | apply below_alloc | apply pw_below_drewN | apply below_drew1) | exact Below.refl _ _)) hg1 hmb; clear BX; have BX := Aside0.mk bx; clear bx; obtain ⟨x0, x1, x2, x3, x4, x5⟩ := bx_c BX.out; have HF1 := Aside0.mk ((HF.out.below (by repeat (first | (with_reducible first | exact Below.refl _ _ | apply below_alloc | apply pw_below_drewN | apply below_drew1) | exact Below.refl _ _))).gate (HG.out.below (by repeat (first | (with_reducible first | exact Below.refl _ _ | apply below_alloc | apply pw_below_drewN | apply below_drew1) | exact Below.refl _ _))) hg1); have n_ := Aside0.mk (below_g (by repeat (first | (with_reducible first | exact HB.out | apply below_alloc | apply pw_below_drewN | apply below_drew1) | exact HB.out)) hg1 hmm); clear HB; have HB := n_; clear n_; clear HG HF; have HF := HF1; have HG := Aside0.mk hG1; clear HF1 hG1 hg1 hmm hmb) | (go_at_call 16; (with_reducible refine (same_at HX.out hc1 HRW.out hcv ?side1).mono ?_); (case side1 => have e := HLG.out; omega); rintro e w6 ⟨rfl, hb6⟩; have bx := bx_b BX.out (below_step (by repeat (first | (with_reducible first | exact Below.refl _ _ | apply below_alloc | apply pw_below_drewN | apply below_drew1) | exact Below.refl _ _)) hb6); clear BX; have BX := Aside0.mk bx; clear bx; obtain ⟨x0, x1, x2, x3, x4, x5⟩ := bx_c BX.out; have HG1 := Aside0.mk (HG.out.below (below_step (by repeat (first | (with_reducible first | exact Below.refl _ _ | apply below_alloc | apply pw_below_drewN | apply below_drew1) | exact Below.refl _ _)) hb6)); have HF1 := Aside0.mk (HF.out.below (below_step (by repeat (first | (with_reducible first | exact Below.refl _ _ | apply below_alloc | apply pw_below_drewN | apply below_drew1) | exact Below.refl _ _)) hb6)); have n_ := Aside0.mk (below_step (by repeat (first | (with_reducible first | exact HB.out | apply below_alloc | apply pw_below_drewN | apply below_drew1) | exact HB.out)) hb6); clear HG HF HB hb6; have HG := HG1; have HF := HF1; have HB := n_; clear n_ HG1 HF1))
                go_meet
                case rel => exact ⟨HB.out, _, _, HG.out.mono (Nat.zero_le _), HF.out, BX.out⟩
              · have q4 : (s.op == 4) = false := beq_eq_false_iff_ne.2 q
                clear q
                go_wp2
                go_meet
                case rel => exact ⟨(by repeat (first | (with_reducible first | exact HB.out | apply below_alloc | apply pw_below_drewN | apply below_drew1) | exact HB.out)), _, _, (HG.out.below (by repeat (first | (with_reducible first | exact Below.refl _ _ | apply below_alloc | apply pw_below_drewN | apply below_drew1) | exact Below.refl _ _))).mono (Nat.le_succ _), HF.out.below (by repeat (first | (with_reducible first | exact Below.refl _ _ | apply below_alloc | apply pw_below_drewN | apply below_drew1) | exact Below.refl _ _)), BX.out⟩
      case rest =>
        clear HG HF HB BX d0 d1 d2 d3 d4 d5
        obtain ⟨hbw, G', v', hG, hF, hbx⟩ := hcut
        have HG := Aside0.mk hG
        have HF := Aside0.mk hF
        have HB := Aside0.mk hbw
        have BX := Aside0.mk hbx
        obtain ⟨x0, x1, x2, x3, x4, x5⟩ := bx_c hbx
        clear hbw hG hF hbx
        go_wp2
        refine start_ (n := 11) (S := fun w' => w'.cell? ⟨wr.heap.size, 1, none⟩ = some (.int .i64 s.p) ∧ w'.cell? ⟨wr.heap.size, 2, none⟩ = some (.int .i64 s.t) ∧ w'.cell? ⟨wr.heap.size, 3, none⟩ = some (.int .i64 s.u) ∧ w'.cell? ⟨wr.heap.size, 4, none⟩ = some (.bool s.f) ∧ w'.cell? ⟨wr.heap.size, 5, none⟩ = some (.bool s.b)) (ds := []) #[false, false, false, false, false, false, false, false, false, false, false] (by kernel_rfl) rfl rfl ⟨x1, x2, x3, x4, x5⟩ (fun hHeld => ?_)
        refine with_tabW tab_f3_27 bits_f3_27 (fun HT_ HW_ => ?_)
        refine pure_ (i := 0) (N := some 78) (v := ?_) (a' := ?_) #[true, false, false, false, false, false, false, false, false, false, false] rfl rfl (any_of HT_.out (by kernel_rfl)) (fun _ _ _ h => h) (Or.inl ⟨by rfl, ?_⟩) ?_ ?_
        rotate_left
        · intro w'
          go_simp
          with_reducible rfl
        rotate_left
        · simp only [Act.put, List.setIfInBounds_toArray, List.set_cons_zero, List.set_cons_succ, i64_w, i32_w]
          rfl
        refine pure_ (i := 2) (N := some 80) (v := ?_) (a' := ?_) #[true, false, true, false, false, false, false, false, false, false, false] rfl rfl (any_of HT_.out (by kernel_rfl)) (fun _ _ _ h => h) (Or.inl ⟨by rfl, ?_⟩) ?_ ?_
        rotate_left
        · intro w'
          go_simp
          with_reducible rfl
        rotate_left
        · simp only [Act.put, List.setIfInBounds_toArray, List.set_cons_zero, List.set_cons_succ, i64_w, i32_w]
          rfl
        refine pure_ (i := 5) (N := some 83) (v := ?_) (a' := ?_) #[true, false, true, false, false, true, false, false, false, false, false] rfl rfl (any_of HT_.out (by kernel_rfl)) (fun _ _ _ h => h) (Or.inl ⟨by rfl, ?_⟩) ?_ ?_
        rotate_left
        · intro w'
          go_simp
          with_reducible rfl
        rotate_left
        · simp only [Act.put, List.setIfInBounds_toArray, List.set_cons_zero, List.set_cons_succ, i64_w, i32_w]
          rfl
        refine pure_ (i := 7) (N := some 85) (v := ?_) (a' := ?_) #[true, false, true, false, false, true, false, true, false, false, false] rfl rfl (any_of HT_.out (by kernel_rfl)) (fun _ _ _ h => h) (Or.inl ⟨by rfl, ?_⟩) ?_ ?_
        rotate_left
        · intro w'
          go_simp
          with_reducible rfl
        rotate_left
        · simp only [Act.put, List.setIfInBounds_toArray, List.set_cons_zero, List.set_cons_succ, i64_w, i32_w]
          rfl
        refine take_ (i := 1) (N := some 79) (v := ?_) (a' := ?_) #[true, true, true, false, false, true, false, true, false, false, false] rfl rfl (take_ofW HT_.out HW_.out (by kernel_rfl)) (fun _ _ _ h => h) (Or.inl ⟨by rfl, ?_⟩) hHeld ?_ ?_
        rotate_left
        · rintro w' ⟨s1, s2, s3, s4, s5⟩
          go_simp
          with_reducible rfl
        rotate_left
        · simp only [Act.put, List.setIfInBounds_toArray, List.set_cons_zero, List.set_cons_succ, i64_w, i32_w]
          rfl
        refine take_ (i := 3) (N := some 81) (v := ?_) (a' := ?_) #[true, true, true, true, false, true, false, true, false, false, false] rfl rfl (take_ofW HT_.out HW_.out (by kernel_rfl)) (fun _ _ _ h => h) (Or.inl ⟨by rfl, ?_⟩) hHeld ?_ ?_
        rotate_left
        · rintro w' ⟨s1, s2, s3, s4, s5⟩
          go_simp
          with_reducible rfl
        rotate_left
        · simp only [Act.put, List.setIfInBounds_toArray, List.set_cons_zero, List.set_cons_succ, i64_w, i32_w]
          rfl
        refine take_ (i := 6) (N := some 84) (v := ?_) (a' := ?_) #[true, true, true, true, false, true, true, true, false, false, false] rfl rfl (take_ofW HT_.out HW_.out (by kernel_rfl)) (fun _ _ _ h => h) (Or.inl ⟨by rfl, ?_⟩) hHeld ?_ ?_
        rotate_left
        · rintro w' ⟨s1, s2, s3, s4, s5⟩
          go_simp
          with_reducible rfl
        rotate_left
        · simp only [Act.put, List.setIfInBounds_toArray, List.set_cons_zero, List.set_cons_succ, i64_w, i32_w]
          rfl
        refine take_ (i := 8) (N := some 86) (v := ?_) (a' := ?_) #[true, true, true, true, false, true, true, true, true, false, false] rfl rfl (take_ofW HT_.out HW_.out (by kernel_rfl)) (fun _ _ _ h => h) (Or.inl ⟨by rfl, ?_⟩) hHeld ?_ ?_
        rotate_left
        · rintro w' ⟨s1, s2, s3, s4, s5⟩
          go_simp
          with_reducible rfl
        rotate_left
        · simp only [Act.put, List.setIfInBounds_toArray, List.set_cons_zero, List.set_cons_succ, i64_w, i32_w]
          rfl
        refine one_ (i := 4) (N := some 82) #[true, true, true, true, true, true, true, true, true, false, false] rfl rfl (one_of HT_.out (by kernel_rfl)) (by decide) (fun K hK => ?_)
        refine goes_ Try.func18 (by kernel_rfl) rfl #[.int .i64 s.p, .agg #[.int .i64 s.t, .int .i64 s.u, .bool s.f, .bool s.b]] (by rfl) rfl rfl (by (try simp only [List.map_toArray, List.map_cons, List.map_nil]); first | done | rfl) ?_
        with_reducible refine (legal_at s.p s.t s.u s.f s.b _ _ _ rfl rfl).mono ?_
        rintro e w6 ⟨rfl, hb6⟩
        refine ⟨_, rfl, ?_⟩
        have bx := bx_b BX.out (below_step (by repeat (first | (with_reducible first | exact Below.refl _ _ | apply below_alloc | apply pw_below_drewN | apply below_drew1) | exact Below.refl _ _)) hb6); clear BX; have BX := Aside0.mk bx; clear bx; obtain ⟨x0, x1, x2, x3, x4, x5⟩ := bx_c BX.out; have HG1 := Aside0.mk (HG.out.below (below_step (by repeat (first | (with_reducible first | exact Below.refl _ _ | apply below_alloc | apply pw_below_drewN | apply below_drew1) | exact Below.refl _ _)) hb6)); have HF1 := Aside0.mk (HF.out.below (below_step (by repeat (first | (with_reducible first | exact Below.refl _ _ | apply below_alloc | apply pw_below_drewN | apply below_drew1) | exact Below.refl _ _)) hb6)); have n_ := Aside0.mk (below_step (by repeat (first | (with_reducible first | exact HB.out | apply below_alloc | apply pw_below_drewN | apply below_drew1) | exact HB.out)) hb6); clear HG HF HB hb6; have HG := HG1; have HF := HF1; have HB := n_; clear n_ HG1 HF1
        refine hK.out _ _ ⟨x1, x2, x3, x4, x5⟩ (fun hHeld => ?_)
        clear hK K
        refine norm_ (a' := ?_) ?_ ?_
        rotate_left
        · show Act.put _ (some 82) _ = _
          simp only [Act.put, List.setIfInBounds_toArray, List.set_cons_zero, List.set_cons_succ, i64_w, i32_w]
          rfl
        refine one_ (i := 9) (N := some 87) #[true, true, true, true, true, true, true, true, true, true, false] rfl rfl (one_of HT_.out (by kernel_rfl)) (by decide) (fun K hK => ?_)
        refine goes_ Try.func19 (by kernel_rfl) rfl #[.int .i64 s.p, .agg #[.int .i64 s.t, .int .i64 s.u, .bool s.f, .bool s.b]] (by rfl) rfl rfl (by (try simp only [List.map_toArray, List.map_cons, List.map_nil]); first | done | rfl) ?_
        with_reducible refine (ref_legal_at s.p s.t s.u s.f s.b _).mono ?_
        rintro e w7 ⟨rfl, hb6⟩
        refine ⟨_, rfl, ?_⟩
        have bx := bx_b BX.out (below_step (by repeat (first | (with_reducible first | exact Below.refl _ _ | apply below_alloc | apply pw_below_drewN | apply below_drew1) | exact Below.refl _ _)) hb6); clear BX; have BX := Aside0.mk bx; clear bx; obtain ⟨x0, x1, x2, x3, x4, x5⟩ := bx_c BX.out; have HG1 := Aside0.mk (HG.out.below (below_step (by repeat (first | (with_reducible first | exact Below.refl _ _ | apply below_alloc | apply pw_below_drewN | apply below_drew1) | exact Below.refl _ _)) hb6)); have HF1 := Aside0.mk (HF.out.below (below_step (by repeat (first | (with_reducible first | exact Below.refl _ _ | apply below_alloc | apply pw_below_drewN | apply below_drew1) | exact Below.refl _ _)) hb6)); have n_ := Aside0.mk (below_step (by repeat (first | (with_reducible first | exact HB.out | apply below_alloc | apply pw_below_drewN | apply below_drew1) | exact HB.out)) hb6); clear HG HF HB hb6; have HG := HG1; have HF := HF1; have HB := n_; clear n_ HG1 HF1
        refine hK.out _ _ ⟨x1, x2, x3, x4, x5⟩ (fun hHeld => ?_)
        clear hK K
        refine norm_ (a' := ?_) ?_ ?_
        rotate_left
        · show Act.put _ (some 87) _ = _
          simp only [Act.put, List.setIfInBounds_toArray, List.set_cons_zero, List.set_cons_succ, i64_w, i32_w]
          rfl
        refine pure_ (i := 10) (N := some 88) (v := ?_) (a' := ?_) #[true, true, true, true, true, true, true, true, true, true, true] rfl rfl (any_of HT_.out (by kernel_rfl)) (fun _ _ _ h => h) (Or.inl ⟨by rfl, ?_⟩) ?_ ?_
        rotate_left
        · intro w'
          go_simp
          with_reducible rfl
        rotate_left
        · simp only [Act.put, List.setIfInBounds_toArray, List.set_cons_zero, List.set_cons_succ, i64_w, i32_w]
          rfl
        refine done_ (done_of HT_.out (by kernel_rfl)) ?_
        go_wp2
        exact plays_step KA.out HL.out HB.out _ _ HG.out HF.out
    · have kb : decide (k < (l.length : Int)) = false := decide_eq_false hk
      have hnk4 : k.toNat ≤ 4000000000000 := by have := HL.out; omega
      have HLG : Aside0 (G.length ≤ 3600000000000) := ⟨by have := HL.out; omega⟩
      clear hk h0 h1 hCw hgl hm1w hrbw
      go_wp2_with (first
        | (go_at_call 15; (with_reducible refine (r_take (HF.out.below (by repeat (first | (with_reducible first | exact Below.refl _ _ | apply below_alloc | apply pw_below_drewN | apply below_drew1) | exact Below.refl _ _)))).mono ?_); rintro e w4 ⟨rfl, hF1, hRW, hg1⟩; have HRW := Aside0.mk hRW; have hmm := hrb; have HG1 := Aside0.mk (other_gate HG.out (by repeat (first | (with_reducible first | exact Below.refl _ _ | apply below_alloc | apply pw_below_drewN | apply below_drew1) | exact Below.refl _ _)) hg1 hg1rb hm1rb); have n_ := Aside0.mk (below_g (by repeat (first | (with_reducible first | exact HB.out | apply below_alloc | apply pw_below_drewN | apply below_drew1) | exact HB.out)) hg1 hmm); clear HB; have HB := n_; clear n_; clear HG HF; have HG := HG1; clear HG1 hF1 hg1 hmm hRW)
        | (go_at_call 17; first
            | (have hRW := HRW.out; (with_reducible refine (take_at HG.out ?side1 ?side2).mono ?_); (case side1 => exact (by repeat (first | (with_reducible first | exact Below.refl _ _ | apply below_alloc | apply pw_below_drewN | apply below_drew1) | exact Below.refl _ _))); (case side2 => exact hnk4); rintro e w5 ⟨A1, c1, rfl, hG1, hg1, hR1, hc1, hX1⟩; have HRX := Aside0.mk (R_row (R_of_map (HG.out.below (by repeat (first | (with_reducible first | exact Below.refl _ _ | apply below_alloc | apply pw_below_drewN | apply below_drew1) | exact Below.refl _ _))) hRW (by repeat (first | (with_reducible first | exact Below.refl _ _ | apply below_alloc | apply pw_below_drewN | apply below_drew1) | exact Below.refl _ _)) hg1)); have HX := Aside0.mk hX1; have hmm := hm1; have n_ := Aside0.mk (below_g (by repeat (first | (with_reducible first | exact HB.out | apply below_alloc | apply pw_below_drewN | apply below_drew1) | exact HB.out)) hg1 hmm); clear HB; have HB := n_; clear n_; clear HG HRW hRW; have HG := Aside0.mk hG1; clear hR1 hX1 hG1 hg1 hmm)
            | ((with_reducible refine (take_at HG.out ?side1 ?side2).mono ?_); (case side1 => exact (by repeat (first | (with_reducible first | exact Below.refl _ _ | apply below_alloc | apply pw_below_drewN | apply below_drew1) | exact Below.refl _ _))); (case side2 => omega); rintro e w7 ⟨A2, c2, rfl, hG1, hg1, hR1, hc2, hX1⟩; have hmm := hm1; have n_ := Aside0.mk (below_g (by repeat (first | (with_reducible first | exact HB.out | apply below_alloc | apply pw_below_drewN | apply below_drew1) | exact HB.out)) hg1 hmm); clear HB; have HB := n_; clear n_; clear HG hR1 hX1 hG1 hg1 hmm))
        | (go_at_call 16; (with_reducible refine (same_at HX.out hc1 HRX.out hcv ?side1).mono ?_); (case side1 => have e := HLG.out; omega); rintro e w6 ⟨rfl, hb6⟩; have HG1 := Aside0.mk (HG.out.below (below_step (by repeat (first | (with_reducible first | exact Below.refl _ _ | apply below_alloc | apply pw_below_drewN | apply below_drew1) | exact Below.refl _ _)) hb6)); have n_ := Aside0.mk (below_step (by repeat (first | (with_reducible first | exact HB.out | apply below_alloc | apply pw_below_drewN | apply below_drew1) | exact HB.out)) hb6); clear HG HB hb6 HX HRX; have HG := HG1; have HB := n_; clear n_ HG1))
      go_ret
      exact ⟨rfl, HB.out⟩
end Go.Proofs.Ytokemjdfcifbbaa.Gt
