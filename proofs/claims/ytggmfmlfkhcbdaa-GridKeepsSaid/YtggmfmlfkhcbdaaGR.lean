/- The document's grid: a list of things behind a pointer. -/
import Derived.Test.YtggmfmlfkhcbdaaG9
import Derived.Test.YtggmfmlfkhcbdaaGF
namespace Go.Proofs.Ytggmfmlfkhcbdaa.Gr
open Go Go.RowKit Go.Maps Go.Proofs.YtggmfmlfkhcbdaaW.PrintWords Go.Proofs.YtggmfmlfkhcbdaaW.PrintLast Go.Proofs.YtggmfmlfkhcbdaaW.PrintMore
set_option linter.unusedVariables false
set_option linter.unusedSimpArgs false

def kT : Kd Th := Kd.iso (Kd.pair (Kd.int .i64) (Kd.pair (Kd.int .i64) (Kd.int .i64))) (fun t : Th => (t.id, t.x, t.y))
theorem kT_open {w : World} {t : Th} {cs : List Value} (h : kT.K w t cs) : cs = [.int .i64 t.id, .int .i64 t.x, .int .i64 t.y] := by
  obtain ⟨_, _, rfl, rfl, ⟨_, _, rfl, rfl, rfl⟩⟩ := h
  exact rfl
theorem kT_mk (w : World) (t : Th) : kT.K w t [.int .i64 t.id, .int .i64 t.x, .int .i64 t.y] :=
  ⟨[.int .i64 t.id], [.int .i64 t.x, .int .i64 t.y], rfl, rfl, ⟨[.int .i64 t.x], [.int .i64 t.y], rfl, rfl, rfl⟩⟩
theorem kT_mkM (w : World) (base : Nat) (ok : Nat → Prop) (t : Th) : kT.M w base ok t [.int .i64 t.id, .int .i64 t.x, .int .i64 t.y] :=
  ⟨[.int .i64 t.id], [.int .i64 t.x, .int .i64 t.y], rfl, rfl, ⟨[.int .i64 t.x], [.int .i64 t.y], rfl, rfl, rfl⟩⟩
theorem info63 : (Try.prog.info? 63).map (fun i => (i.zero, i.size, i.bytes)) = some (some (.agg #[(.int .i64 0), (.int .i64 0), (.int .i64 0)]), 3, 24) := by kernel_rfl
/-- The thing at an index. -/
theorem at_Th {w : World} {A : Option Addr} {n : Nat} {xs : List Th} (h : Kd.C kT w A n xs) (i : Int) (h0 : 0 ≤ i) (h1 : i < n) : ∃ ad s, xs[i.toNat]? = some s ∧ A = some ad ∧ w.cell? (ad.add (i.toNat * 3)) = some (.int .i64 s.id) ∧ w.cell? ⟨(ad.add (i.toNat * 3)).block, (ad.add (i.toNat * 3)).off + 1, none⟩ = some (.int .i64 s.x) ∧ w.cell? ⟨(ad.add (i.toNat * 3)).block, (ad.add (i.toNat * 3)).off + 2, none⟩ = some (.int .i64 s.y) := by
  obtain ⟨ad, c, e, _, hK, hc0⟩ := Kd.C_get h (⟨0, 0, 0⟩ : Th) i h0 h1
  have hc : ∀ j u, c[j]? = some u → w.cell? (ad.add (i.toNat * 3 + j)) = some u := hc0
  obtain rfl := kT_open hK
  have hl : i.toNat < xs.length := by have := h.1; omega
  refine ⟨ad, xs.getD i.toNat ⟨0, 0, 0⟩, by simp [List.getD_eq_getElem?_getD, List.getElem?_eq_getElem hl], e, hc 0 _ rfl, by rw [← add_field _ _ 1 (by omega)]; exact hc 1 _ rfl, by rw [← add_field _ _ 2 (by omega)]; exact hc 2 _ rfl⟩

theorem set_block {w : World} {g t : Nat} {v : Value} (hb : w.heap[g]? = some (.cells #[v] t (0, 0))) (u : Value) : (w.setCell ⟨g, 0, none⟩ u).heap[g]? = some (.cells #[u] t (0, 0)) := by
  simp only [World.setCell, Array.getElem?_modify, if_true, hb, Option.map_some]
  rfl
theorem grown_set (w : World) (g : Nat) (u : Value) : w.grownBy (w.setCell ⟨g, 0, none⟩ u) (some g) :=
  ⟨rfl, rfl, rfl, by simp [World.setCell], fun k _ hne => Below.heap_setCell w ⟨g, 0, none⟩ u k (fun e => hne (by rw [e]))⟩
structure RefAt (w : World) (rb B : Nat) (L : List Th) (v : Value) : Prop where
  block : w.heap[rb]? = some (.cells #[v] 58 (0, 0))
  row : kT.R 63 w B (fun _ => True) v L
theorem RefAt.cell {w : World} {rb B : Nat} {L : List Th} {v : Value} (h : RefAt w rb B L v) : w.cell? ⟨rb, 0, none⟩ = some v := by
  simp [World.cell?, h.block]
theorem RefAt.thaw {w : World} {rb B : Nat} {L : List Th} {v : Value} (h : RefAt w rb B L v) : w.frozen? ⟨rb, 0, none⟩ = false := by
  simp [World.frozen?, h.block]
theorem RefAt.lt {w : World} {rb B : Nat} {L : List Th} {v : Value} (h : RefAt w rb B L v) : rb < w.heap.size := (Array.getElem?_eq_some_iff.1 h.block).1
theorem RefAt.below {w w' : World} {rb B : Nat} {L : List Th} {v : Value} (h : RefAt w rb B L v) (hb : Below w.heap.size w w') : RefAt w' rb B L v :=
  ⟨(hb.block rb h.lt).trans h.block, Kd.R_below h.row hb⟩
theorem RefAt.mv {w w' : World} {rb B : Nat} {L : List Th} {v : Value} {S : Nat → Prop} (h : RefAt w rb B L v) (hm : Mv w w' S) (h1 : ¬ S rb) (h2 : ∀ k, v.ownBlock = some k → ¬ S k) : RefAt w' rb B L v :=
  ⟨(hm.block rb h.lt h1).trans h.block, Kd.R_mono (Kd.R_move (Kd.R_tight2 rfl h.row) (fun k hk => hm.block k (Kd.R_lt h.row k hk.1.symm) (h2 k hk.1.symm))) (fun k hk => hk.2)⟩
theorem ref_read {w : World} {rb B : Nat} {L : List Th} {v : Value} (h : RefAt w rb B L v) : ∃ A c, v = .slice A L.length c ∧ L.length ≤ c ∧ Kd.C kT w A L.length L := Kd.R_reads h.row
theorem ref_done {w wq : World} {rb B : Nat} {L M : List Th} {v ov : Value} (h : RefAt w rb B L v) (hbw : Below w.heap.size w wq) (ho : kT.R 63 wq w.heap.size (fun _ => True) ov M) :
    RefAt (wq.setCell ⟨rb, 0, none⟩ ov) rb w.heap.size M ov ∧ Mv w (wq.setCell ⟨rb, 0, none⟩ ov) (fun k => k = rb) := by
  have hb := (h.below hbw).block
  exact ⟨⟨set_block hb _, Kd.R_set ho hb (by simp [kT, Kd.iso, Kd.pair, Kd.int, Kd.scalar]) 0 _⟩, (Mv.of_below hbw _).then (Mv.of_grown (grown_set wq rb ov) (fun k hk => by injection hk with hk; exact hk.symm)) (fun j hj => .inl hj)⟩

/-! plain -/
theorem take_at {L : List Th} {a : Nat} {x : Th} (h : L[a]? = some x) : L.take (a + 1) = L.take a ++ [x] := by
  rw [List.take_add_one, h]
  rfl
theorem drop_take_same {L : List Th} {p : Int} {a : Nat} {x : Th} (h : L[a]? = some x) (e : x.id = p) : dropP (L.take (a + 1)) p = dropP (L.take a) p := by
  rw [take_at h]
  simp [dropP, e]
theorem drop_take_other {L : List Th} {p : Int} {a : Nat} {x : Th} (h : L[a]? = some x) (e : x.id ≠ p) : dropP (L.take (a + 1)) p = dropP (L.take a) p ++ [x] := by
  rw [take_at h]
  simp [dropP, e]
theorem drop_len (L : List Th) (p : Int) : (dropP L p).length ≤ L.length := List.length_filter_le _ _
theorem drop_lt {L : List Th} {p : Int} : decide ((dropP L p).length < L.length) = hasP L p := by
  cases h : hasP L p
  · rw [dropP_none h]
    simp
  · obtain ⟨x, hx, e⟩ := hasP_iff.1 h
    rw [decide_eq_true_eq]
    have h1 := drop_len L p
    have h2 : (dropP L p).length ≠ L.length := by
      intro he
      have := List.filter_eq_self.1 (List.Sublist.eq_of_length (List.filter_sublist (p := fun x : Th => !(x.id == p)) (l := L)) he) x hx
      simp [e] at this
    omega
/-- Where the new thing has come in. -/
def putT (x : Th) (L : List Th) : List Th := ins x (dropP L x.id)
theorem ins_below {x : Th} : ∀ {L : List Th}, (∀ z ∈ L, z.id < x.id) → ins x L = L ++ [x]
  | [], _ => rfl
  | y :: r, h => by
    unfold ins
    rw [if_neg (by have := h y List.mem_cons_self; omega), ins_below (fun z hz => h z (List.mem_cons_of_mem _ hz))]
    rfl
theorem ins_mid {x y : Th} (hy : x.id < y.id) : ∀ {L : List Th} {M : List Th}, (∀ z ∈ L, z.id < x.id) → ins x (L ++ y :: M) = L ++ x :: y :: M
  | [], M, _ => by simp [ins, hy]
  | z :: r, M, h => by
    rw [List.cons_append]
    unfold ins
    rw [if_neg (by have := h z List.mem_cons_self; omega), ins_mid hy (fun z hz => h z (List.mem_cons_of_mem _ hz))]
    rfl
/-- What the walk over the list has gathered: behind a things; d: is the new one in. -/
def PutI (x : Th) (L : List Th) (a : Nat) (d : Bool) (xs : List Th) : Prop :=
  if d then xs = ins x (dropP (L.take a) x.id) ∧ (∀ z, z ∈ L.drop a → x.id < z.id) else xs = L.take a ∧ ∀ z ∈ L.take a, z.id < x.id
theorem putI_start (x : Th) (L : List Th) : PutI x L 0 false [] := by
  unfold PutI
  simp
theorem srt_at {L : List Th} (hs : Srt L) {a : Nat} {y : Th} (h : L[a]? = some y) : ∀ z ∈ L.drop (a + 1), y.id < z.id := by
  have hd : L.drop a = y :: L.drop (a + 1) := by
    obtain ⟨hl, rfl⟩ := List.getElem?_eq_some_iff.1 h
    exact List.drop_eq_getElem_cons hl
  have : (L.drop a).Pairwise (fun x y => x.id < y.id) := List.Pairwise.sublist (List.drop_sublist a L) hs
  rw [hd, List.pairwise_cons] at this
  exact this.1
theorem drop_none_of {L : List Th} {p : Int} (h : ∀ z ∈ L, z.id ≠ p) : dropP L p = L := by
  unfold dropP
  rw [List.filter_eq_self]
  intro z hz
  simp [h z hz]
/-- A thing that lies ahead. -/
theorem putI_ahead {x y : Th} {L : List Th} {a : Nat} {xs : List Th} (hs : Srt L) (h : L[a]? = some y) (hI : PutI x L a false xs) (hy : y.id < x.id) : PutI x L (a + 1) false (xs ++ [y]) := by
  unfold PutI at *
  rw [if_neg Bool.false_ne_true] at *
  obtain ⟨rfl, h2⟩ := hI
  rw [take_at h]
  refine ⟨rfl, fun z hz => ?_⟩
  rcases List.mem_append.1 hz with hz | hz
  · exact h2 z hz
  · rw [List.mem_singleton.1 hz]; exact hy
/-- The thing itself, replaced. -/
theorem putI_same {x y : Th} {L : List Th} {a : Nat} {xs : List Th} (hs : Srt L) (h : L[a]? = some y) (hI : PutI x L a false xs) (hy : y.id = x.id) : PutI x L (a + 1) true (xs ++ [x]) := by
  unfold PutI at *
  rw [if_neg Bool.false_ne_true] at hI
  rw [if_pos rfl]
  obtain ⟨rfl, h2⟩ := hI
  refine ⟨?_, fun z hz => by rw [← hy]; exact srt_at hs h z hz⟩
  rw [drop_take_same h hy, drop_none_of (fun z hz => by have := h2 z hz; omega), ins_below h2]
/-- The first thing behind it. -/
theorem putI_new {x y : Th} {L : List Th} {a : Nat} {xs : List Th} (hs : Srt L) (h : L[a]? = some y) (hI : PutI x L a false xs) (hy : x.id < y.id) : PutI x L (a + 1) true (xs ++ [x] ++ [y]) := by
  unfold PutI at *
  rw [if_neg Bool.false_ne_true] at hI
  rw [if_pos rfl]
  obtain ⟨rfl, h2⟩ := hI
  refine ⟨?_, fun z hz => by have := srt_at hs h z hz; omega⟩
  rw [drop_take_other h (by omega), drop_none_of (fun z hz => by have := h2 z hz; omega), ins_mid hy h2]
  simp
theorem ins_append {x y : Th} (hxy : x.id < y.id) : ∀ {L : List Th}, ins x (L ++ [y]) = ins x L ++ [y]
  | [] => by simp [ins, hxy]
  | z :: r => by
    rw [List.cons_append]
    unfold ins
    split
    · rfl
    · rw [ins_append hxy]; rfl
/-- A thing behind. -/
theorem putI_more {x y : Th} {L : List Th} {a : Nat} {xs : List Th} (hs : Srt L) (h : L[a]? = some y) (hI : PutI x L a true xs) : PutI x L (a + 1) true (xs ++ [y]) ∧ x.id < y.id := by
  unfold PutI at *
  rw [if_pos rfl] at hI ⊢
  obtain ⟨rfl, h2⟩ := hI
  have hd : L.drop a = y :: L.drop (a + 1) := by
    obtain ⟨hl, rfl⟩ := List.getElem?_eq_some_iff.1 h
    exact List.drop_eq_getElem_cons hl
  have hy : x.id < y.id := h2 y (by rw [hd]; exact List.mem_cons_self)
  refine ⟨⟨?_, fun z hz => h2 z (by rw [hd]; exact List.mem_cons_of_mem _ hz)⟩, hy⟩
  rw [drop_take_other h (by omega), ins_append hy]
theorem putI_end {x : Th} {L : List Th} {a : Nat} {xs : List Th} (ha : L.length ≤ a) (hI : PutI x L a true xs) : xs = putT x L := by
  unfold PutI at hI
  rw [if_pos rfl, List.take_of_length_le ha] at hI
  exact hI.1
theorem putI_last {x : Th} {L : List Th} {a : Nat} {xs : List Th} (ha : L.length ≤ a) (hI : PutI x L a false xs) : xs ++ [x] = putT x L := by
  unfold PutI at hI
  rw [if_neg Bool.false_ne_true, List.take_of_length_le ha] at hI
  obtain ⟨rfl, h2⟩ := hI
  unfold putT
  rw [drop_none_of (fun z hz => by have := h2 z hz; omega), ins_below h2]
theorem ins_len (x : Th) (L : List Th) : (ins x L).length = L.length + 1 := length_ins x L
theorem putI_len {x : Th} {L : List Th} {a : Nat} {d : Bool} {xs : List Th} (hI : PutI x L a d xs) : xs.length ≤ L.length + 1 := by
  unfold PutI at hI
  cases d
  · rw [if_neg Bool.false_ne_true] at hI
    obtain ⟨rfl, _⟩ := hI
    rw [List.length_take]
    omega
  · rw [if_pos rfl] at hI
    obtain ⟨rfl, _⟩ := hI
    rw [ins_len]
    have := drop_len (L.take a) x.id
    rw [List.length_take] at this
    omega

theorem r_new (side : Int) (h1 : 1 ≤ side) (h2 : side ≤ 1099511627776) (w : World) :
    Calls Try.prog 9 #[.int .i64 side] w fun e w' => ∃ rb, e = .returned (.tuple #[.pointer (some ⟨rb, 0, none⟩), .int .i64 0]) ∧ RefAt w' rb w.heap.size [] (.slice none 0 0) ∧ w.heap.size ≤ rb ∧ Below w.heap.size w w' := by
  have q1 : decide (side < 1) = false := decide_eq_false (by omega)
  have q2 : decide (side > 1099511627776) = false := decide_eq_false (by omega)
  go_enter Try.func9, Try.ntmps9
  go_wp2
  go_ret2
  exact ⟨w.heap.size, rfl, ⟨heap_alloc_new _ _, Kd.R_nil _ _ _ _ _⟩, Nat.le_refl _, (by repeat (first | (with_reducible first | exact Below.refl _ _ | apply below_alloc | apply pw_below_drewN | apply below_drew1) | exact Below.refl _ _))⟩
theorem r_new_bad (side : Int) (h : side < 1 ∨ 1099511627776 < side) (w : World) :
    Calls Try.prog 9 #[.int .i64 side] w fun e w' => e = .returned (.tuple #[.pointer none, .int .i64 110]) ∧ Below w.heap.size w w' := by
  by_cases h1 : side < 1
  · have q1 : decide (side < 1) = true := decide_eq_true h1
    go_enter Try.func9, Try.ntmps9
    go_wp2
    go_ret2
    exact ⟨rfl, (by repeat (first | (with_reducible first | exact Below.refl _ _ | apply below_alloc | apply pw_below_drewN | apply below_drew1) | exact Below.refl _ _))⟩
  · have q1 : decide (side < 1) = false := decide_eq_false h1
    have q2 : decide (side > 1099511627776) = true := decide_eq_true (by omega)
    go_enter Try.func9, Try.ntmps9
    go_wp2
    go_ret2
    exact ⟨rfl, (by repeat (first | (with_reducible first | exact Below.refl _ _ | apply below_alloc | apply pw_below_drewN | apply below_drew1) | exact Below.refl _ _))⟩
theorem r_len {w : World} {rb B : Nat} {L : List Th} {v : Value} (h : RefAt w rb B L v) :
    Calls Try.prog 22 #[.pointer (some ⟨rb, 0, none⟩)] w fun e w' => e = .returned (.int .i64 (L.length : Nat)) ∧ w' = w := by
  obtain ⟨A, c, rfl, hc, hC⟩ := ref_read h
  have hr := h.cell
  clear h hC
  go_enter Try.func22, Try.ntmps22
  go_wp2
  go_ret
  exact ⟨rfl, rfl⟩
set_option maxHeartbeats 1000000 in
theorem r_drop {w : World} {rb B : Nat} {L : List Th} {v : Value} (h : RefAt w rb B L v) (hL : L.length ≤ 3600000000000) (x : Int) :
    Calls Try.prog 12 #[.pointer (some ⟨rb, 0, none⟩), .int .i64 x] w fun e w' => e = .returned (.bool (hasP L x)) ∧ (∃ v', RefAt w' rb w.heap.size (dropP L x) v') ∧ Mv w w' (fun k => k = rb) := by
  obtain ⟨A, c, rfl, hc, hC⟩ := ref_read h
  have HR := Aside0.mk h
  have HC := Aside0.mk hC
  have HL := Aside0.mk hL
  clear h hC hL
  go_enter Try.func12, Try.ntmps12
  go_wp2
  go_loopw [5, 6] (fun ov iv wq => ∃ a : Int, iv = .int .i64 a ∧ 0 ≤ a ∧ a ≤ L.length ∧ kT.R 63 wq w.heap.size (fun _ => True) ov (dropP (L.take a.toNat) x) ∧ Below w.heap.size w wq) (fun _ iv _ => L.length - (intOf iv).toNat)
  case atStart => exact ⟨0, rfl, Int.le_refl _, by omega, by simpa [dropP] using Kd.R_nil _ _ _ _ _, Below.refl _ _⟩
  case round =>
    obtain ⟨a, rfl, h0, h1, ho, hbw⟩ := hrel
    have HB := Aside0.mk hbw
    have HO := Aside0.mk ho
    have HOB := Aside0.mk (Kd.R_base ho)
    have hr := (HR.out.below hbw).cell
    have hfr := (HR.out.below hbw).thaw
    have hCw := Kd.C_below HC.out hbw
    clear hbw ho
    by_cases hk : a < L.length
    · have kb : decide (a < (L.length : Int)) = true := decide_eq_true hk
      obtain ⟨ad, s, hs, e1, d0, d1, d2⟩ := at_Th hCw a h0 hk
      subst e1
      have KA := Aside0.mk (And.intro h0 (And.intro h1 hk))
      have HS := Aside0.mk hs
      have p0 : (0 ≤ a) = True := eq_true h0
      have p1 : (a < (L.length : Int)) = True := eq_true hk
      have HN : Aside0 ((dropP (L.take a.toNat) x).length ≤ 4000000000000) := by
        have e3 := drop_len (L.take a.toNat) x
        have e2 := HL.out
        rw [List.length_take] at e3
        exact ⟨by omega⟩
      clear hk hs h0 h1 hCw
      by_cases hx : s.id = x
      · have o1 : (s.id != x) = false := bne_eq_false_iff_eq.2 hx
        have OO := Aside0.mk hx
        clear hx
        go_wp2
        have e := KA.out
        have eL := HL.out
        rw [wrap_id (x := a + 1) (by unfold I64; omega)]
        have en : (a + 1).toNat = a.toNat + 1 := by omega
        refine ⟨⟨a + 1, rfl, by omega, by omega, ?_, (by repeat (first | (with_reducible first | exact HB.out | apply below_alloc | apply pw_below_drewN | apply below_drew1) | exact HB.out))⟩, by simp only [intOf]; omega⟩
        rw [en, drop_take_same HS.out OO.out]
        exact HO.out
      · have o1 : (s.id != x) = true := bne_iff_ne.2 hx
        have OO := Aside0.mk hx
        clear hx
        go_wp2_with (at_builtin; refine Kd.R_append kT (w0 := _) (w.heap.size) rfl (.tmp 27) (.tmp 35) 56 63 (.agg #[(.int .i64 0), (.int .i64 0), (.int .i64 0)]) 24 rfl Try.underlying56 info63 rfl (by decide) (by omega) u5 (dropP (L.take a.toNat) x) (s) [.int .i64 s.id, .int .i64 s.x, .int .i64 s.y] (fun _ => True) (fun _ => False) rfl (by simp [Act.eval]) ?aP (fun _ hk => hk.elim) (fun _ _ => trivial) ?aO (Below.refl _ _) ?aS ?aL ?_; (case aP => exact kT_mkM _ _ _ (s)); (case aO => exact (by (with_reducible repeat (first | apply Kd.R_alloc | apply Kd.R_drewN | apply Kd.R_drew)); exact HO.out)); (case aS => exact below_size (by repeat (first | (with_reducible first | exact HB.out | apply below_alloc | apply pw_below_drewN | apply below_drew1) | exact HB.out))); (case aL => have e := HN.out; (try simp only [List.length_append, List.length_singleton]); omega); intro v9 w9 ho9 hb9 hg9 hat9; have n_ := Aside0.mk (Below.grown (B := w.heap.size) (a := w) (by repeat (first | (with_reducible first | exact HB.out | apply below_alloc | apply pw_below_drewN | apply below_drew1) | exact HB.out)) hg9 (below_size (by repeat (first | (with_reducible first | exact HB.out | apply below_alloc | apply pw_below_drewN | apply below_drew1) | exact HB.out))) (fun k hk => by have := HOB.out k hk; omega)); have n2_ := Aside0.mk ho9; skip; clear HB HO ho9 hb9 hg9 hat9 HOB; have HB := n_; have HO := n2_; have HOB := Aside0.mk (Kd.R_base HO.out); clear n_ n2_; skip)
        have e := KA.out
        have eL := HL.out
        rw [wrap_id (x := a + 1) (by unfold I64; omega)]
        have en : (a + 1).toNat = a.toNat + 1 := by omega
        refine ⟨⟨a + 1, rfl, by omega, by omega, ?_, (by repeat (first | (with_reducible first | exact HB.out | apply below_alloc | apply pw_below_drewN | apply below_drew1) | exact HB.out))⟩, by simp only [intOf]; omega⟩
        rw [en, drop_take_other HS.out OO.out]
        exact HO.out
    · have kb : decide (a < (L.length : Int)) = false := decide_eq_false hk
      have ee : L.take a.toNat = L := List.take_of_length_le (by omega)
      have HE := Aside0.mk ee
      obtain ⟨A6, c6, e6⟩ := Kd.R_slice HO.out
      rw [ee] at e6
      subst e6
      clear hk h0 h1 hCw ee
      go_wp2
      go_ret
      have ho := HO.out
      rw [HE.out] at ho
      obtain ⟨r1, r2⟩ := ref_done HR.out (by repeat (first | (with_reducible first | exact HB.out | apply below_alloc | apply pw_below_drewN | apply below_drew1) | exact HB.out)) ho
      exact ⟨by rw [← drop_lt (L := L) (p := x)]; rfl, ⟨_, r1⟩, r2⟩
end Go.Proofs.Ytggmfmlfkhcbdaa.Gr
