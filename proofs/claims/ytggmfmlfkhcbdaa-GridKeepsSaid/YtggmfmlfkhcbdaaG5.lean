/- The state of a grid; New, At, Len. -/
import Derived.Test.YtggmfmlfkhcbdaaG4
import Derived.Laws.ResultCell
import Derived.Maps.RangeWalk
namespace Go.Proofs.Ytggmfmlfkhcbdaa.Gr
open Go Go.RowKit Go.Maps Go.Proofs.YtggmfmlfkhcbdaaW.PrintWords Go.Proofs.YtggmfmlfkhcbdaaW.PrintLast Go.Proofs.YtggmfmlfkhcbdaaW.PrintMore
set_option linter.unusedVariables false
set_option linter.unusedSimpArgs false

structure GridIn (w : World) (gb pb cb : Nat) (F : Nat → Prop) (side : Int) (n : Nat) (L : List Th) (hd : Int → Int → Hd) (rows : Int → Int → List Int) : Prop where
  c0 : w.cell? ⟨gb, 0, none⟩ = some (.int .i64 side)
  c1 : w.cell? ⟨gb, 1, none⟩ = some (.map (some pb))
  c2 : w.cell? ⟨gb, 2, none⟩ = some (.map (some cb))
  own : w.ownsMap Try.prog 3 vElem pb n (GM L)
  cells : CellsAt w cb n hd
  srt : Srt L
  wf : ∀ t ∈ L, I64 t.id ∧ I64 t.x ∧ I64 t.y
  row0 : ∀ x y, hd x y = none → rows x y = []
  rowS : ∀ x y g m c, hd x y = some (g, m, c) → m = (rows x y).length ∧ ki.R 3 w 0 F (.slice (some ⟨g, 0, none⟩) (rows x y).length c) (rows x y) ∧ g ≠ gb ∧ g ≠ pb ∧ g ≠ cb
  apart : ∀ x y a b g m c m' c', hd x y = some (g, m, c) → hd a b = some (g, m', c') → x = a ∧ y = b
  mem : ∀ x y id, id ∈ rows x y ↔ ∃ t ∈ L, t.id = id ∧ t.x / side = x ∧ t.y / side = y
  nd : ∀ x y, (rows x y).Nodup
  ne : gb ≠ pb ∧ gb ≠ cb ∧ pb ≠ cb
  fg : F gb
  fp : F pb
  fc : F cb
  flt : ∀ k, F k → k < w.heap.size
  s1 : 1 ≤ side
  s2 : side ≤ 1099511627776

/-- Whatever keeps the grid's blocks keeps the grid. -/
theorem GridIn.move {w w' : World} {gb pb cb : Nat} {F : Nat → Prop} {side : Int} {n : Nat} {L : List Th} {hd : Int → Int → Hd} {rows : Int → Int → List Int} (h : GridIn w gb pb cb F side n L hd rows)
    (hs : w.heap.size ≤ w'.heap.size) (hm : ∀ k, F k → w'.heap[k]? = w.heap[k]?) : GridIn w' gb pb cb F side n L hd rows where
  c0 := (World.cell?_of_block (w := w) (a := ⟨gb, 0, none⟩) (hm gb h.fg)).trans h.c0
  c1 := (World.cell?_of_block (w := w) (a := ⟨gb, 1, none⟩) (hm gb h.fg)).trans h.c1
  c2 := (World.cell?_of_block (w := w) (a := ⟨gb, 2, none⟩) (hm gb h.fg)).trans h.c2
  own := by
    obtain ⟨es, clock, e, r⟩ := h.own
    exact ⟨es, clock, (hm pb h.fp).trans e, r⟩
  cells := h.cells.block (hm cb h.fc)
  srt := h.srt
  wf := h.wf
  row0 := h.row0
  rowS := fun x y g m c e => by
    obtain ⟨r1, r2, r3⟩ := h.rowS x y g m c e
    exact ⟨r1, Kd.R_move r2 hm, r3⟩
  apart := h.apart
  mem := h.mem
  nd := h.nd
  ne := h.ne
  fg := h.fg
  fp := h.fp
  fc := h.fc
  flt := fun k hk => Nat.lt_of_lt_of_le (h.flt k hk) hs
  s1 := h.s1
  s2 := h.s2
theorem GridIn.below {w w' : World} {gb pb cb : Nat} {F : Nat → Prop} {side : Int} {n : Nat} {L : List Th} {hd : Int → Int → Hd} {rows : Int → Int → List Int} (h : GridIn w gb pb cb F side n L hd rows) (hb : Below w.heap.size w w') : GridIn w' gb pb cb F side n L hd rows :=
  h.move hb.size (fun k hk => hb.block k (h.flt k hk))
theorem GridIn.mv {w w' : World} {gb pb cb : Nat} {F : Nat → Prop} {side : Int} {n : Nat} {L : List Th} {hd : Int → Int → Hd} {rows : Int → Int → List Int} (h : GridIn w gb pb cb F side n L hd rows) {S : Nat → Prop} (hb : Mv w w' S) (hS : ∀ k, F k → ¬ S k) : GridIn w' gb pb cb F side n L hd rows :=
  h.move hb.size (fun k hk => hb.block k (h.flt k hk) (hS k hk))
theorem GridIn.mono {w : World} {gb pb cb : Nat} {F : Nat → Prop} {side : Int} {n n' : Nat} {L : List Th} {hd : Int → Int → Hd} {rows : Int → Int → List Int} (h : GridIn w gb pb cb F side n L hd rows) (hn : n ≤ n') : GridIn w gb pb cb F side n' L hd rows :=
  { h with own := h.own.mono hn, cells := h.cells.mono hn }

/-! plain: lists without repeats -/
theorem nodup_len : ∀ {l m : List Int}, l.Nodup → (∀ x ∈ l, x ∈ m) → l.length ≤ m.length
  | [], m, _, _ => Nat.zero_le _
  | a :: r, m, hn, hs => by
    rw [List.nodup_cons] at hn
    have ha := hs a List.mem_cons_self
    have hr := nodup_len (l := r) (m := m.erase a) hn.2 (fun x hx => by
      have hne : x ≠ a := fun e => hn.1 (e ▸ hx)
      exact (List.mem_erase_of_ne hne).2 (hs x (List.mem_cons_of_mem _ hx)))
    rw [List.length_erase_of_mem ha] at hr
    have : 0 < m.length := List.length_pos_of_mem ha
    simp only [List.length_cons]
    omega
theorem GM_size (L : List Th) : Maps.size (GM L) = L.length := by simp [Maps.size, GM]
theorem GridIn.len {w : World} {gb pb cb : Nat} {F : Nat → Prop} {side : Int} {n : Nat} {L : List Th} {hd : Int → Int → Hd} {rows : Int → Int → List Int} (h : GridIn w gb pb cb F side n L hd rows) : L.length ≤ n := by
  have := h.own.size_le
  rw [GM_size] at this
  exact this
theorem GridIn.rlen {w : World} {gb pb cb : Nat} {F : Nat → Prop} {side : Int} {n : Nat} {L : List Th} {hd : Int → Int → Hd} {rows : Int → Int → List Int} (h : GridIn w gb pb cb F side n L hd rows) (x y : Int) : (rows x y).length ≤ n := by
  refine Nat.le_trans (nodup_len (m := L.map Th.id) (h.nd x y) (fun z hz => ?_)) (by rw [List.length_map]; exact h.len)
  obtain ⟨t, ht, e, _⟩ := (h.mem x y z).1 hz
  exact List.mem_map.2 ⟨t, ht, e⟩

/-- Where a thing is; the zero place if there is none. -/
def atL (L : List Th) (id : Int) : Int × Int := match L.find? (fun t => t.id == id) with | some t => (t.x, t.y) | none => (0, 0)
theorem atL_mem {L : List Th} (hs : Srt L) {t : Th} (ht : t ∈ L) : atL L t.id = (t.x, t.y) := by
  unfold atL
  rw [find_mem hs ht]
theorem atL_none {L : List Th} {id : Int} (h : hasP L id = false) : atL L id = (0, 0) := by
  unfold atL
  rw [find_none h]
theorem atL_wf {L : List Th} (h : ∀ t ∈ L, I64 t.id ∧ I64 t.x ∧ I64 t.y) (id : Int) : I64 (atL L id).1 ∧ I64 (atL L id).2 := by
  unfold atL
  split
  · rename_i t ht
    exact (h t (List.mem_of_find?_eq_some ht)).2
  · unfold I64
    decide
theorem GridIn.look {w : World} {gb pb cb : Nat} {F : Nat → Prop} {side : Int} {n : Nat} {L : List Th} {hd : Int → Int → Hd} {rows : Int → Int → List Int} (h : GridIn w gb pb cb F side n L hd rows) {id : Int} (hid : I64 id) :
    (Instr.lookup 52 (.map (some pb)) (.int .i64 id) true).run Try.prog w = .ok (.tuple #[.agg #[.int .i64 (atL L id).1, .int .i64 (atL L id).2], .bool (hasP L id)]) w ∧
    (Instr.lookup 52 (.map (some pb)) (.int .i64 id) false).run Try.prog w = .ok (.agg #[.int .i64 (atL L id).1, .int .i64 (atL L id).2]) w := by
  have hkey := keyOf_int_mk Try.underlying3 (wf_iff.2 hid)
  have hat : (GM L).atKey (.int .i64 id) (vData 0 0) = vData (atL L id).1 (atL L id).2 := by
    rw [atKey_GM]
    unfold atL
    cases L.find? (fun t => t.id == id) <;> rfl
  constructor
  · obtain ⟨v, ps, hrun, hv⟩ := h.own.look_ok law3 Try.underlying52 (zero32 w) (vElem_val 0 0) hkey
    rw [hat] at hv
    obtain ⟨a, b, rfl, e⟩ := vElem_inv hv
    injection e with e _
    obtain ⟨rfl, rfl⟩ := vData_inj e
    rw [hrun, has_GM]
  · obtain ⟨v, ps, hrun, hv⟩ := h.own.lookup law3 Try.underlying52 (zero32 w) (vElem_val 0 0) hkey
    rw [hat] at hv
    obtain ⟨a, b, rfl, e⟩ := vElem_inv hv
    injection e with e _
    obtain ⟨rfl, rfl⟩ := vData_inj e
    exact hrun

theorem results_row_tmp {P : Program} {fn : Func} {p u : Tmp} {ty : TypeId} (h : fn.results = #[.cell p ty, .tmp u]) (tmps : Array Value) (w : World) (g : Nat) (t : TypeId) (cs : Array Value) (fr : Nat × Nat) (d : TypeDesc)
    (hp : tmps.getD p undef = .pointer (some ⟨g, 0, none⟩)) (hg : w.heap[g]? = some (.cells cs t fr))
    (hu : P.underlying ty = some d) (hd : (match d with | .struct _ | .array _ _ => true | _ => false) = true) (hi : (P.info? ty).map (·.size) = some cs.size) :
    (results fn tmps).run P w = .ok (.tuple #[.agg cs, tmps.getD u undef]) w := by
  rw [results_cell_tmp h, hp]
  simp [asAddr, run_loadVar_row w g t ty cs fr d hg hu hd hi, Result.andThen]

theorem len_calls {w : World} {gb pb cb : Nat} {F : Nat → Prop} {side : Int} {n : Nat} {L : List Th} {hd : Int → Int → Hd} {rows : Int → Int → List Int} (h : GridIn w gb pb cb F side n L hd rows) :
    Calls Try.prog 21 #[.pointer (some ⟨gb, 0, none⟩)] w fun e w' => e = .returned (.int .i64 (L.length : Nat)) ∧ w' = w := by
  have c1 := h.c1
  have hlen := fun ty => h.own.len Try.underlying52 ty
  rw [GM_size] at hlen
  go_enter Try.func21, Try.ntmps21
  go_wp2
  go_ret
  exact ⟨rfl, rfl⟩

theorem at_calls {w : World} {gb pb cb : Nat} {F : Nat → Prop} {side : Int} {n : Nat} {L : List Th} {hd : Int → Int → Hd} {rows : Int → Int → List Int} (h : GridIn w gb pb cb F side n L hd rows) {id : Int} (hid : I64 id) :
    Calls Try.prog 14 #[.pointer (some ⟨gb, 0, none⟩), .int .i64 id] w fun e w' => e = .returned (.tuple #[.agg #[.int .i64 (atL L id).1, .int .i64 (atL L id).2], .bool (hasP L id)]) ∧ Below w.heap.size w w' := by
  have h1 : GridIn (w.alloc (.cells #[.int .i64 0, .int .i64 0] 32)) gb pb cb F side n L hd rows := h.below (by repeat (first | (with_reducible first | exact Below.refl _ _ | apply below_alloc | apply pw_below_drewN | apply below_drew1) | exact Below.refl _ _))
  have c1 := h1.c1
  have hl := (h1.look hid).1
  have hltg := h.flt gb h.fg
  clear h h1
  go_enter Try.func14, Try.ntmps14
  go_wp2
  (try simp only [Exit.inBlock, Exit.then])
  refine bodyPost_ret (results_row_tmp rfl _ _ w.heap.size 32 #[.int .i64 (atL L id).1, .int .i64 (atL L id).2] (0, 0) _ rfl ?hb Try.underlying32 rfl ?hi) rfl ?_
  case hb =>
    rw [heap_alloc_old _ _ (by simp)]
    exact (Go.MapKept.heap_alloc _ _).1
  case hi => kernel_rfl
  exact ⟨rfl, (by repeat (first | (with_reducible first | exact Below.refl _ _ | apply below_alloc | apply pw_below_drewN | apply below_drew1) | exact Below.refl _ _))⟩
theorem CellsAt.made2 (w : World) : CellsAt ((w.alloc (.map #[] 0)).alloc (.map #[] 0)) (w.heap.size + 1) 0 (fun _ _ => none) := by
  have := CellsAt.made (w.alloc (.map #[] 0))
  rwa [show (w.alloc (.map #[] 0)).heap.size = w.heap.size + 1 by simp] at this
theorem new_calls (side : Int) (h1 : 1 ≤ side) (h2 : side ≤ 1099511627776) (w : World) :
    Calls Try.prog 8 #[.int .i64 side] w fun e w' => ∃ gb pb cb F hd rows, e = .returned (.tuple #[.pointer (some ⟨gb, 0, none⟩), .int .i64 0]) ∧ GridIn w' gb pb cb F side 0 [] hd rows ∧ Below w.heap.size w w' ∧ ∀ k, F k → w.heap.size ≤ k := by
  have hmm := @run_makeMap Try.prog
  have q1 : decide (side < 1) = false := decide_eq_false (by omega)
  have q2 : decide (side > 1099511627776) = false := decide_eq_false (by omega)
  go_enter Try.func8, Try.ntmps8
  go_wp2
  go_ret2
  refine ⟨w.heap.size + 2, w.heap.size, w.heap.size + 1, fun k => k = w.heap.size ∨ k = w.heap.size + 1 ∨ k = w.heap.size + 2, fun _ _ => none, fun _ _ => [], rfl, ?_, (by repeat (first | (with_reducible first | exact Below.refl _ _ | apply below_alloc | apply pw_below_drewN | apply below_drew1) | exact Below.refl _ _)), fun k hk => by omega⟩
  have e2 : ((w.alloc (.map #[] 0)).alloc (.map #[] 0)).heap.size = w.heap.size + 2 := by simp
  have hcell := fun (i : Nat) v (hv : #[Value.int .i64 side, .map (some w.heap.size), .map (some (w.heap.size + 1))][i]? = some v) => new_cell ((w.alloc (.map #[] 0)).alloc (.map #[] 0)) #[Value.int .i64 side, .map (some w.heap.size), .map (some (w.heap.size + 1))] 55 hv
  rw [e2] at hcell
  exact {
    c0 := hcell 0 _ rfl
    c1 := hcell 1 _ rfl
    c2 := hcell 2 _ rfl
    own := ((World.ownsMap_made w Try.prog 3 vElem).alloc _).alloc _
    cells := (CellsAt.made2 w).block (heap_alloc_old ((w.alloc (.map #[] 0)).alloc (.map #[] 0)) (.cells #[Value.int .i64 side, .map (some w.heap.size), .map (some (w.heap.size + 1))] 55) (by simp))
    srt := List.Pairwise.nil
    wf := fun t ht => by cases ht
    row0 := fun _ _ _ => rfl
    rowS := fun _ _ _ _ _ e => by cases e
    apart := fun _ _ _ _ _ _ _ _ _ e => by cases e
    mem := fun x y id => by simp
    nd := fun _ _ => List.nodup_nil
    ne := by omega
    fg := by simp
    fp := by simp
    fc := by simp
    flt := fun k hk => by simp; omega
    s1 := h1
    s2 := h2 }
theorem new_bad (side : Int) (h : side < 1 ∨ 1099511627776 < side) (w : World) :
    Calls Try.prog 8 #[.int .i64 side] w fun e w' => e = .returned (.tuple #[.pointer none, .int .i64 110]) ∧ Below w.heap.size w w' := by
  by_cases h1 : side < 1
  · have q1 : decide (side < 1) = true := decide_eq_true h1
    go_enter Try.func8, Try.ntmps8
    go_wp2
    go_ret2
    exact ⟨rfl, Below.refl _ _⟩
  · have q1 : decide (side < 1) = false := decide_eq_false h1
    have q2 : decide (side > 1099511627776) = true := decide_eq_true (by omega)
    go_enter Try.func8, Try.ntmps8
    go_wp2
    go_ret2
    exact ⟨rfl, Below.refl _ _⟩
end Go.Proofs.Ytggmfmlfkhcbdaa.Gr
