/- Plain: what is gathered over the cells is what is within. -/
import Derived.Test.YtggmfmlfkhcbdaaG8
namespace Go.Proofs.Ytggmfmlfkhcbdaa.Gr
open Go Go.RowKit Go.Maps Go.Proofs.YtggmfmlfkhcbdaaW.PrintWords Go.Proofs.YtggmfmlfkhcbdaaW.PrintMore
set_option linter.unusedVariables false
set_option linter.unusedSimpArgs false

def colF (rows : Int → Int → List Int) (p : Int → Bool) (x y0 : Int) (k : Nat) : List Int := (List.range k).flatMap fun (j : Nat) => (rows x (y0 + (j : Int))).filter p
def allF (rows : Int → Int → List Int) (p : Int → Bool) (x0 y0 : Int) (h k : Nat) : List Int := (List.range k).flatMap fun (i : Nat) => colF rows p (x0 + (i : Int)) y0 h
/-- The things within, by id. -/
def inT (L : List Th) (ax ay r : Int) : List Th := L.filter fun t => wi t.x t.y ax ay r
def inL (L : List Th) (ax ay r : Int) : List Int := (inT L ax ay r).map Th.id

theorem colF_succ (rows : Int → Int → List Int) (p : Int → Bool) (x y0 : Int) (k : Nat) : colF rows p x y0 (k + 1) = colF rows p x y0 k ++ (rows x (y0 + (k : Int))).filter p := by
  unfold colF
  rw [List.range_succ, List.flatMap_append]
  simp
theorem allF_succ (rows : Int → Int → List Int) (p : Int → Bool) (x0 y0 : Int) (h k : Nat) : allF rows p x0 y0 h (k + 1) = allF rows p x0 y0 h k ++ colF rows p (x0 + (k : Int)) y0 h := by
  unfold allF
  rw [List.range_succ, List.flatMap_append]
  simp
theorem flat_len {f : Nat → List Int} {m : Nat} (h : ∀ i, (f i).length ≤ m) : ∀ k, ((List.range k).flatMap f).length ≤ k * m
  | 0 => by simp
  | k + 1 => by
    rw [List.range_succ, List.flatMap_append, List.length_append, Nat.succ_mul]
    have h1 := flat_len h k
    have h2 := h k
    simp only [List.flatMap_cons, List.flatMap_nil, List.append_nil]
    omega
theorem colF_len {rows : Int → Int → List Int} {n : Nat} (h : ∀ x y, (rows x y).length ≤ n) (p : Int → Bool) (x y0 : Int) (k : Nat) : (colF rows p x y0 k).length ≤ k * n :=
  flat_len (fun j => Nat.le_trans (List.length_filter_le _ _) (h _ _)) k
theorem allF_len {rows : Int → Int → List Int} {n : Nat} (hr : ∀ x y, (rows x y).length ≤ n) (p : Int → Bool) (x0 y0 : Int) (h k : Nat) : (allF rows p x0 y0 h k).length ≤ k * (h * n) :=
  flat_len (fun i => colF_len hr p _ y0 h) k
theorem colF_mem {rows : Int → Int → List Int} {p : Int → Bool} {x y0 : Int} {k : Nat} {id : Int} : id ∈ colF rows p x y0 k ↔ ∃ j : Nat, j < k ∧ id ∈ rows x (y0 + (j : Int)) ∧ p id = true := by
  unfold colF
  simp [List.mem_flatMap]
theorem allF_mem {rows : Int → Int → List Int} {p : Int → Bool} {x0 y0 : Int} {h k : Nat} {id : Int} : id ∈ allF rows p x0 y0 h k ↔ ∃ i j : Nat, i < k ∧ j < h ∧ id ∈ rows (x0 + (i : Int)) (y0 + (j : Int)) ∧ p id = true := by
  unfold allF
  rw [List.mem_flatMap]
  constructor
  · rintro ⟨i, hi, hm⟩
    obtain ⟨j, hj, h1, h2⟩ := colF_mem.1 hm
    exact ⟨i, j, List.mem_range.1 hi, hj, h1, h2⟩
  · rintro ⟨i, j, hi, hj, h1, h2⟩
    exact ⟨i, List.mem_range.2 hi, colF_mem.2 ⟨j, hj, h1, h2⟩⟩
theorem range_apart (k : Nat) {f : Nat → List Int} (h : ∀ i j x, i < j → x ∈ f i → x ∈ f j → False) : (List.range k).Pairwise (fun a b => ∀ x, x ∈ f a → ∀ y, y ∈ f b → x ≠ y) := by
  have := List.pairwise_lt_range (n := k)
  exact this.imp (fun {a b} hab x hx y hy (e : x = y) => h a b x hab hx (by rw [e]; exact hy))
theorem srt_nodup {L : List Th} (h : Srt L) : (L.map Th.id).Nodup := by
  unfold List.Nodup
  rw [List.pairwise_map]
  exact List.Pairwise.imp (fun {a b} h => by omega) h
theorem inL_nodup {L : List Th} (h : Srt L) (ax ay r : Int) : (inL L ax ay r).Nodup := srt_nodup (List.Pairwise.filter _ h)
theorem inL_mem {L : List Th} {ax ay r id : Int} : id ∈ inL L ax ay r ↔ ∃ t ∈ L, t.id = id ∧ wi t.x t.y ax ay r = true := by
  unfold inL inT
  rw [List.mem_map]
  constructor
  · rintro ⟨t, ht, e⟩
    obtain ⟨h1, h2⟩ := List.mem_filter.1 ht
    exact ⟨t, h1, e, h2⟩
  · rintro ⟨t, ht, e, h⟩
    exact ⟨t, List.mem_filter.2 ⟨ht, h⟩, e⟩
theorem between {p q r s : Int} (hp : I64 p) (hq : I64 q) (hs : 1 ≤ s) (h1 : q - p ≤ r) (h2 : -r ≤ q - p) (h0 : 0 ≤ r) : lo q r / s ≤ p / s ∧ p / s ≤ hi q r / s := by
  unfold I64 at hp hq
  have a : lo q r ≤ p := by unfold lo; split <;> omega
  have b : p ≤ hi q r := by unfold hi; split <;> omega
  exact ⟨Int.ediv_le_ediv (by omega) a, Int.ediv_le_ediv (by omega) b⟩
/-- All the cells that may be near have been gone over. -/
theorem allF_perm {w : World} {gb pb cb : Nat} {F : Nat → Prop} {side : Int} {n : Nat} {L : List Th} {hd : Int → Int → Hd} {rows : Int → Int → List Int} (g : GridIn w gb pb cb F side n L hd rows) {ax ay r : Int} (hax : I64 ax) (hay : I64 ay) (hr : r < 2147483647) (h0 : 0 ≤ r)
    {h k : Nat} (hk : (k : Int) = hi ax r / side - lo ax r / side + 1) (hh : (h : Int) = hi ay r / side - lo ay r / side + 1) :
    (allF rows (wid L ax ay r) (lo ax r / side) (lo ay r / side) h k).Perm (inL L ax ay r) := by
  have uniq : ∀ {x y a b id}, id ∈ rows x y → id ∈ rows a b → x = a ∧ y = b := by
    intro x y a b id h1 h2
    obtain ⟨t, ht, e1, e2, e3⟩ := (g.mem x y id).1 h1
    obtain ⟨t', ht', e1', e2', e3'⟩ := (g.mem a b id).1 h2
    have := g.srt.inj ht ht' (e1.trans e1'.symm)
    subst this
    exact ⟨e2.symm.trans e2', e3.symm.trans e3'⟩
  have hn : (allF rows (wid L ax ay r) (lo ax r / side) (lo ay r / side) h k).Nodup := by
    unfold allF List.Nodup
    rw [List.pairwise_flatMap]
    refine ⟨fun i _ => ?_, range_apart k (fun i j x hij h1 h2 => ?_)⟩
    · unfold colF
      rw [List.pairwise_flatMap]
      refine ⟨fun j _ => List.Pairwise.filter _ (g.nd _ _), range_apart h (fun j j' x hij h1 h2 => ?_)⟩
      have := uniq (List.mem_filter.1 h1).1 (List.mem_filter.1 h2).1
      omega
    · obtain ⟨j1, _, m1, _⟩ := colF_mem.1 h1
      obtain ⟨j2, _, m2, _⟩ := colF_mem.1 h2
      have := uniq m1 m2
      omega
  refine (List.perm_ext_iff_of_nodup hn (inL_nodup g.srt _ _ _)).2 (fun id => ?_)
  rw [allF_mem, inL_mem]
  constructor
  · rintro ⟨i, j, hi, hj, hm, hp⟩
    obtain ⟨t, ht, e, _⟩ := (g.mem _ _ id).1 hm
    refine ⟨t, ht, e, ?_⟩
    unfold wid at hp
    rw [← e, atL_mem g.srt ht] at hp
    exact hp
  · rintro ⟨t, ht, e, hw⟩
    obtain ⟨⟨p1, p2⟩, ⟨p3, p4⟩, _⟩ := wi_part hw hr
    have hwf := g.wf t ht
    have bx := between hwf.2.1 hax g.s1 p1 p2 h0
    have by' := between hwf.2.2 hay g.s1 p3 p4 h0
    refine ⟨(t.x / side - lo ax r / side).toNat, (t.y / side - lo ay r / side).toNat, by omega, by omega, ?_, ?_⟩
    · rw [show lo ax r / side + ((t.x / side - lo ax r / side).toNat : Int) = t.x / side by omega, show lo ay r / side + ((t.y / side - lo ay r / side).toNat : Int) = t.y / side by omega]
      exact (g.mem _ _ id).2 ⟨t, ht, e, rfl, rfl⟩
    · unfold wid
      rw [← e, atL_mem g.srt ht]
      exact hw

/-- One row, as the walk reads it. -/
theorem GridIn.row_at {w : World} {gb pb cb : Nat} {F : Nat → Prop} {side : Int} {n : Nat} {L : List Th} {hd : Int → Int → Hd} {rows : Int → Int → List Int} (g : GridIn w gb pb cb F side n L hd rows) (x y : Int) :
    ∃ A c, hdVal (hd x y) = .slice A (rows x y).length c ∧ ∀ w', GridIn w' gb pb cb F side n L hd rows → ki.C w' A (rows x y).length (rows x y) := by
  rcases hh : hd x y with _ | ⟨b, m, c⟩
  · refine ⟨none, 0, ?_, fun w' g' => ?_⟩
    · rw [g.row0 x y hh]
      rfl
    · rw [g'.row0 x y hh]
      exact Kd.C_nil _ _
  · obtain ⟨hm, hR, _⟩ := g.rowS x y b m c hh
    refine ⟨some ⟨b, 0, none⟩, c, by rw [hm]; rfl, fun w' g' => ?_⟩
    obtain ⟨_, hR', _⟩ := g'.rowS x y b m c hh
    exact (Kd.R_reads' hR').2.2
theorem filter_take_succ {xs : List Int} {p : Int → Bool} {m : Nat} {z : Int} (h : xs[m]? = some z) : (xs.take (m + 1)).filter p = if p z then (xs.take m).filter p ++ [z] else (xs.take m).filter p := by
  rw [List.take_add_one, h, List.filter_append]
  cases hp : p z <;> simp [hp]
theorem ranges_move {H : Type} {w w' : World} {P : Program} {k : TypeId} {R : Value → Option (DataW H × List MemPlace)} {b r n : Nat} {D : DataW H} {left : Lit → Bool} {cnt : Nat} (h : w.ranges P k R b r n D left cnt) (hb : w'.heap[b]? = w.heap[b]?) (hr : w'.heap[r]? = w.heap[r]?) : w'.ranges P k R b r n D left cnt := by
  obtain ⟨es, clock, since, seen, c0, h1, F, h3, h4, h5, rest⟩ := h
  exact ⟨es, clock, since, seen, c0, hb.trans h1, F, h3, h4, hr.trans h5, rest⟩
theorem ranges_has {w : World} {b r n : Nat} {D : Dt} {left : Lit → Bool} {cnt : Nat} (h : w.ranges Try.prog 3 vElem b r n D left cnt) {x : Int} (hl : left (.int .i64 x) = true) : Maps.has D (.int .i64 x) = true := by
  obtain ⟨es, clock, since, seen, c0, _, F, _, rfl, _, _, _, _, hk, _⟩ := h
  obtain ⟨e, he, hek⟩ := hk _ hl
  rw [has_eq, List.any_eq_true]
  refine ⟨_, mem_sorted.2 (List.mem_map.2 ⟨e, he, rfl⟩), ?_⟩
  rw [hek]
  simp [Lit.sameKey]
theorem next_th (w : World) {ops : Array Oper} {rest : List Oper} {o : Oper} {a : Act} {Q : Exit → Act → World → Prop} (hg : o.guard = none) (it : Operand) (hop : o.op = Op.next it false)
    (b r n : Nat) (D : Dt) (left : Lit → Bool) (cnt : Nat) (hit : a.eval it = .pointer (some ⟨r, 0, none⟩)) (h : w.ranges Try.prog 3 vElem b r n D left cnt)
    (hDone : cnt = 0 → (∀ kl, left kl = false) → wpList Try.prog ops Q rest (a.put o.dst (.tuple #[.bool false])) w)
    (hMore : ∀ (x : Int) (y : Int × Int) (w' : World) (cnt' : Nat), (Lit.int .i64 x).wf = true → left (.int .i64 x) = true →
      w'.ranges Try.prog 3 vElem b r n D (fun z => left z && !z.sameKey (.int .i64 x)) cnt' → cnt' < cnt → w.grownBy w' (some r) → w'.heap.size = w.heap.size →
      (Instr.entry (.pointer (some ⟨r, 0, none⟩))).run Try.prog w' = .ok (.tuple #[.int .i64 x, .agg #[.int .i64 y.1, .int .i64 y.2]]) w' →
      wpList Try.prog ops Q rest (a.put o.dst (.tuple #[.bool true, .int .i64 x, .agg #[.int .i64 y.1, .int .i64 y.2]])) w') :
    wpList Try.prog ops Q (o :: rest) a w :=
  wpList_next_ranges w hg it hop 3 law3 vElem (Value.int .i64) (fun y : Int × Int => .agg #[.int .i64 y.1, .int .i64 y.2]) (fun key kl hkey => by obtain ⟨x, rfl, _⟩ := Maps.keyOf_int_inv Try.underlying3 hkey; exact ⟨x, rfl⟩)
    (fun v y hv => by obtain ⟨p, t, rfl, _⟩ := vElem_inv hv; exact ⟨(p, t), rfl⟩)
    b r n D left cnt hit h hDone (fun x c kl y w' cnt' hkey hlk hv hat hrg hlt hgr hsz hen => by
      obtain ⟨x', ex, rfl, hwx⟩ := Maps.keyOf_int_inv Try.underlying3 hkey
      cases ex
      exact hMore x c w' cnt' hwx hlk hrg hlt hgr hsz hen)
end Go.Proofs.Ytggmfmlfkhcbdaa.Gr
