/- Delete at any id; Put. -/
import Derived.Test.YtggmfmlfkhcbdaaG6
import Derived.Maps.AppendAt
namespace Go.Proofs.Ytggmfmlfkhcbdaa.Gr
open Go Go.RowKit Go.Maps Go.Proofs.YtggmfmlfkhcbdaaW.PrintWords Go.Proofs.YtggmfmlfkhcbdaaW.PrintLast Go.Proofs.YtggmfmlfkhcbdaaW.PrintMore
set_option linter.unusedVariables false
set_option linter.unusedSimpArgs false

theorem del_calls {w : World} {gb pb cb : Nat} {F : Nat → Prop} {side : Int} {n : Nat} {L : List Th} {hd : Int → Int → Hd} {rows : Int → Int → List Int} (h : GridIn w gb pb cb F side n L hd rows) (hn : n ≤ 4000000000000) {id : Int} (hid : I64 id) :
    Calls Try.prog 13 #[.pointer (some ⟨gb, 0, none⟩), .int .i64 id] w fun e w' => e = .returned (.bool (hasP L id)) ∧ ∃ hd' rows', GridIn w' gb pb cb F side (n + 1) (dropP L id) hd' rows' ∧ Mv w w' F := by
  cases hh : hasP L id
  · refine (del_none h hid hh).mono ?_
    rintro e w' ⟨rfl, hb⟩
    rw [dropP_none hh]
    exact ⟨rfl, hd, rows, (h.below hb).mono (Nat.le_succ _), Mv.of_below hb _⟩
  · obtain ⟨t, ht, rfl⟩ := hasP_iff.1 hh
    refine (del_some h hn ht).mono ?_
    rintro e w' ⟨rfl, hd', h1, h2⟩
    exact ⟨rfl, hd', _, h1, h2⟩

theorem info3 : (Try.prog.info? 3).map (fun i => (i.zero, i.size, i.bytes)) = some (some (.int .i64 0), 1, 8) := by kernel_rfl
theorem app_int {W : World} {ok : Nat → Prop} {v : Value} {xs : List Int} (HO : ki.R 3 W 0 ok v xs) {b0 : Nat} {x : Int} {c : Nat} (hc : W.cell? ⟨b0, 0, none⟩ = some (.int .i64 x)) (hl : xs.length ≤ 4000000000000) (hf : ∀ k, W.heap.size ≤ k → ok k) (ty : TypeId) :
    ∃ v1 w1, (Builtin.append_ #[40, 40] ty #[v, .slice (some ⟨b0, 0, none⟩) 1 c]).run Try.prog W = .ok v1 w1 ∧ ki.R 3 w1 0 ok v1 (xs ++ [x]) ∧ W.grownBy w1 v.ownBlock ∧ (v1.ownBlock = v.ownBlock ∨ ∃ b, v1.ownBlock = some b ∧ W.heap.size ≤ b) := by
  obtain ⟨h0, inner, hown, hr⟩ := HO
  obtain ⟨i, hi, e⟩ := Option.map_eq_some_iff.1 info3
  simp only [Prod.mk.injEq] at e
  obtain ⟨e1, e2, e3⟩ := e
  obtain ⟨v1, w1, hrun, h1, h2, _, h4⟩ := run_append_own_at (P := Try.prog) W 0 40 ty 3 i (.int .i64 0) 1 8 Try.underlying40 hi e1 e2 e3 rfl (by decide) v xs.length inner hown ⟨b0, 0, none⟩ 1 c [.int .i64 x] rfl
    (fun j u hj => by
      match j, hj with
      | 0, hj =>
        simp at hj
        subst hj
        rw [add_plain]
        exact hc) (by simp [Value.oneCell']) (by unfold maxLen; omega) (by omega) (Nat.zero_le _)
  have h4' : v1.ownBlock = v.ownBlock ∨ ∃ b, v1.ownBlock = some b ∧ W.heap.size ≤ b := h4.imp id (fun h => ⟨_, h, Nat.le_refl _⟩)
  exact ⟨v1, w1, hrun, Kd.R_appended (d := ki) (okp := fun _ => False) h0 hr (by show [Value.int .i64 x] = [Value.int .i64 x]; rfl) (fun _ h => h.elim) hf h1 h2 h4', h2, h4'⟩

theorem GridIn.put_done {w1 w7 : World} {gb pb cb : Nat} {F : Nat → Prop} {side : Int} {n : Nat} {L : List Th} {hd : Int → Int → Hd} {rows : Int → Int → List Int} (h : GridIn w1 gb pb cb F side n L hd rows) {t : Th} (ht : hasP L t.id = false) (hw : I64 t.id ∧ I64 t.x ∧ I64 t.y)
    (M : Mv w1 w7 (fun k => k = pb ∨ k = cb ∨ ∃ m c, hd (t.x / side) (t.y / side) = some (k, m, c))) (own : w7.ownsMap Try.prog 3 vElem pb (n + 1) (GM (ins t L))) {g cap : Nat}
    (cells : CellsAt w7 cb (n + 1) (updH hd (t.x / side) (t.y / side) (some (g, (rows (t.x / side) (t.y / side)).length + 1, cap))))
    (hR : ki.R 3 w7 0 (fun k => F k ∨ w1.heap.size ≤ k) (.slice (some ⟨g, 0, none⟩) ((rows (t.x / side) (t.y / side)).length + 1) cap) (rows (t.x / side) (t.y / side) ++ [t.id]))
    (hg : (∃ m c, hd (t.x / side) (t.y / side) = some (g, m, c)) ∨ w1.heap.size ≤ g) :
    GridIn w7 gb pb cb (fun k => F k ∨ (w1.heap.size ≤ k ∧ k < w7.heap.size)) side (n + 1) (ins t L) (updH hd (t.x / side) (t.y / side) (some (g, (rows (t.x / side) (t.y / side)).length + 1, cap))) (fun x y => if x = t.x / side ∧ y = t.y / side then rows x y ++ [t.id] else rows x y) := by
  have hne := h.ne
  have hgne : g ≠ gb ∧ g ≠ pb ∧ g ≠ cb := by
    rcases hg with ⟨m, c, hg⟩ | hg
    · exact (h.rowS _ _ _ _ _ hg).2.2
    · have := h.flt gb h.fg
      have := h.flt pb h.fp
      have := h.flt cb h.fc
      omega
  have hgb : ¬ (gb = pb ∨ gb = cb ∨ ∃ m c, hd (t.x / side) (t.y / side) = some (gb, m, c)) := by
    rintro (e | e | ⟨m, c, e⟩)
    · exact hne.1 e
    · exact hne.2.1 e
    · exact (h.rowS _ _ _ _ _ e).2.2.1 rfl
  have hg2 : ∀ a b m' c', ¬ (a = t.x / side ∧ b = t.y / side) → hd a b ≠ some (g, m', c') := by
    intro a b m' c' hab e
    rcases hg with ⟨m, c, hg⟩ | hg
    · exact hab (h.apart _ _ _ _ _ _ _ _ _ e hg)
    · have := h.flt g ((h.rowS _ _ _ _ _ e).2.1.1 g rfl)
      omega
  exact {
    c0 := M.cell h.c0 hgb
    c1 := M.cell h.c1 hgb
    c2 := M.cell h.c2 hgb
    own := own
    cells := cells
    srt := h.srt.ins ht
    wf := fun z hz => by
      rcases mem_ins.1 hz with rfl | hz
      · exact hw
      · exact h.wf z hz
    row0 := fun x y e => by
      by_cases hxy : x = t.x / side ∧ y = t.y / side
      · obtain ⟨rfl, rfl⟩ := hxy
        rw [updH_same] at e
        cases e
      · rw [updH_other _ _ hxy] at e
        rw [if_neg hxy]
        exact h.row0 x y e
    rowS := fun x y g' m' c' e => by
      by_cases hxy : x = t.x / side ∧ y = t.y / side
      · obtain ⟨rfl, rfl⟩ := hxy
        rw [updH_same] at e
        injection e with e
        injection e with e1 e2
        injection e2 with e2 e3
        subst e1
        subst e2
        subst e3
        rw [if_pos ⟨rfl, rfl⟩]
        refine ⟨by simp, ?_, hgne⟩
        rw [List.length_append, List.length_singleton]
        refine Kd.R_mono (Kd.R_bound hR) (fun k hk => ?_)
        rcases hk.1 with h1 | h1
        · exact Or.inl h1
        · exact Or.inr ⟨h1, hk.2.2.1⟩
      · rw [updH_other _ _ hxy] at e
        rw [if_neg hxy]
        obtain ⟨r1, r2, r3⟩ := h.rowS x y g' m' c' e
        refine ⟨r1, Kd.R_mono (ki_one r2 (fun k hk => M.block k (h.flt k (r2.1 k hk)) ?_)) (fun k hk => Or.inl hk), r3⟩
        injection hk with hk
        have hk : g' = k := hk
        subst hk
        rintro (e1 | e1 | ⟨m, c, e1⟩)
        · exact r3.2.1 e1
        · exact r3.2.2 e1
        · exact hxy (h.apart _ _ _ _ _ _ _ _ _ e e1)
    apart := fun x y a b g' m' c' m'' c'' e1 e2 => by
      by_cases hxy : x = t.x / side ∧ y = t.y / side
      · obtain ⟨rfl, rfl⟩ := hxy
        by_cases hab : a = t.x / side ∧ b = t.y / side
        · exact ⟨hab.1.symm, hab.2.symm⟩
        · rw [updH_same] at e1
          rw [updH_other _ _ hab] at e2
          injection e1 with e1
          injection e1 with e1 _
          subst e1
          exact absurd e2 (hg2 _ _ _ _ hab)
      · rw [updH_other _ _ hxy] at e1
        by_cases hab : a = t.x / side ∧ b = t.y / side
        · obtain ⟨rfl, rfl⟩ := hab
          rw [updH_same] at e2
          injection e2 with e2
          injection e2 with e2 _
          subst e2
          exact absurd e1 (hg2 _ _ _ _ hxy)
        · rw [updH_other _ _ hab] at e2
          exact h.apart _ _ _ _ _ _ _ _ _ e1 e2
    mem := fun x y id => by
      constructor
      · intro hm
        by_cases hxy : x = t.x / side ∧ y = t.y / side
        · rw [if_pos hxy] at hm
          rcases List.mem_append.1 hm with hm | hm
          · obtain ⟨z, hz, e⟩ := (h.mem x y id).1 hm
            exact ⟨z, mem_ins.2 (Or.inr hz), e⟩
          · rw [List.mem_singleton] at hm
            exact ⟨t, mem_ins.2 (Or.inl rfl), hm.symm, hxy.1.symm, hxy.2.symm⟩
        · rw [if_neg hxy] at hm
          obtain ⟨z, hz, e⟩ := (h.mem x y id).1 hm
          exact ⟨z, mem_ins.2 (Or.inr hz), e⟩
      · rintro ⟨z, hz, e1, e2, e3⟩
        rcases mem_ins.1 hz with rfl | hz
        · rw [if_pos ⟨e2.symm, e3.symm⟩]
          exact List.mem_append.2 (Or.inr (by rw [List.mem_singleton]; exact e1.symm))
        · have := (h.mem x y id).2 ⟨z, hz, e1, e2, e3⟩
          split
          · exact List.mem_append.2 (Or.inl this)
          · exact this
    nd := fun x y => by
      split
      · rw [List.nodup_append]
        refine ⟨h.nd x y, by simp, fun a ha b hb e => ?_⟩
        rw [List.mem_singleton] at hb
        subst hb
        subst e
        obtain ⟨z, hz, e, _⟩ := (h.mem x y t.id).1 ha
        have := hasP_iff.2 ⟨z, hz, e⟩
        rw [ht] at this
        cases this
      · exact h.nd x y
    ne := h.ne
    fg := Or.inl h.fg
    fp := Or.inl h.fp
    fc := Or.inl h.fc
    flt := fun k hk => by
      rcases hk with hk | hk
      · exact Nat.lt_of_lt_of_le (h.flt k hk) M.size
      · exact hk.2
    s1 := h.s1
    s2 := h.s2 }
theorem dropP_has (L : List Th) (p : Int) : hasP (dropP L p) p = false := by
  unfold hasP dropP
  rw [List.any_filter, List.any_eq_false]
  intro x _
  simp
theorem absA {P : Program} {md : Region.Mode} {ops : Array Oper} {Q : Exit → Act → World → Prop} {S : World → Prop} {ds : List Nat} {fuel : Nat} {l : Array Bool} {a : Act} {w : World} (Facts : World → Prop) (hf : Facts w) (h : ∀ w1, Facts w1 → wpAnyLast P md ops Q S ds fuel l a w1) : wpAnyLast P md ops Q S ds fuel l a w := h w hf

theorem append_run {P : Program} {o : Oper} {a : Act} {s x : Operand} {t : TypeId} {W w1 : World} {v u v1 : Value} (ho : o.op = .call { callee := .builtin .append, args := #[s, x], argTypes := #[t, t] }) (hs : a.eval s = v) (hx : a.eval x = u)
    (hr : (Builtin.append_ #[t, t] o.type #[v, u]).run P W = .ok v1 w1) : (execOp a.eval o).run P W = .ok (.value v1) w1 := by
  unfold execOp
  simp only [ho, resolve, invoke, builtin, Sem.run_bind, Sem.run_pure, Result.andThen_ok, List.map_toArray, List.map_cons, List.map_nil, hs, hx, hr]
theorem es_run {P : Program} {o : Oper} {a : Act} {m s x : Operand} {t : TypeId} {W w1 : World} {vm vs vx : Value} (ho : o.op = .entryStore t m s x) (hm : a.eval m = vm) (hs : a.eval s = vs) (hx : a.eval x = vx)
    (hr : (Instr.entryStore t vm vs vx).run P W = .ok () w1) : (execOp a.eval o).run P W = .ok .skip w1 := by
  unfold execOp
  simp only [ho, Sem.run_bind, Sem.run_pure, Result.andThen_ok, hm, hs, hx, hr]
set_option maxHeartbeats 2000000 in
set_option maxRecDepth 10000 in
theorem put_calls {w : World} {gb pb cb : Nat} {F : Nat → Prop} {side : Int} {n : Nat} {L : List Th} {hd : Int → Int → Hd} {rows : Int → Int → List Int} (h : GridIn w gb pb cb F side n L hd rows) (hn : n ≤ 3900000000000) {id x y : Int} (hid : I64 id) (hx : I64 x) (hy : I64 y) :
    Calls Try.prog 10 #[.pointer (some ⟨gb, 0, none⟩), .int .i64 id, .agg #[.int .i64 x, .int .i64 y]] w fun e w' => e = .returned (.tuple #[]) ∧ ∃ F' hd' rows', GridIn w' gb pb cb F' side (n + 2) (ins ⟨id, x, y⟩ (dropP L id)) hd' rows' ∧ Mv w w' F ∧ ∀ k, F' k → F k ∨ w.heap.size ≤ k := by
  have hd0 := fun w1 (hb : Below w.heap.size w w1) => del_calls (h.below hb) (by omega) hid
  have HF := Aside0.mk h.flt
  have HFP := Aside0.mk (And.intro h.fp h.fc)
  clear h
  go_enter Try.func10, Try.ntmps10
  go_wp2_with (go_at_call 13; (with_reducible refine (hd0 _ (by repeat (first | (with_reducible first | exact Below.refl _ _ | apply below_alloc | apply pw_below_drewN | apply below_drew1) | exact Below.refl _ _))).mono ?_); rintro e w1 ⟨rfl, hd1, rows1, hg1, hm1⟩)
  clear hd0
  have k1 : w1.heap[w.heap.size]? = some (.cells #[.int .i64 x, .int .i64 y] 32) := (hm1.block w.heap.size (by simp) (fun hf => by have := HF.out _ hf; omega)).trans (heap_alloc_new w _)
  have M1 : Mv w w1 F := (Mv.of_below (w := w) (by repeat (first | (with_reducible first | exact Below.refl _ _ | apply below_alloc | apply pw_below_drewN | apply below_drew1) | exact Below.refl _ _)) F).then hm1 (fun j hj => Or.inl hj)
  obtain ⟨w2, hup, hown2, ht2⟩ := (hg1.own.drew).store law3 Try.underlying52 (by unfold maxLen; omega) (keyOf_int_mk Try.underlying3 (wf_iff.2 hid)) (vElem_val x y)
  have hput := put_GM (L := dropP L id) (x := ⟨id, x, y⟩) (dropP_has L id)
  rw [hput] at hown2
  have s1 := hg1.c1
  have s2 := (blk_cell k1 0).trans rfl
  have s3 := (blk_cell k1 1).trans rfl
  have HG1 := Aside0.mk hg1
  have HM1 := Aside0.mk M1
  have K1 := Aside0.mk k1
  have HO2 := Aside0.mk hown2
  have HT2 := Aside0.mk ht2
  clear hg1 hm1 k1 M1 hown2 ht2 hput
  refine start_ (n := 7) (S := fun w' => w'.cell? ⟨gb, 1, none⟩ = some (.map (some pb)) ∧ w'.cell? ⟨w.heap.size, 0, none⟩ = some (.int .i64 x) ∧ w'.cell? ⟨w.heap.size, 1, none⟩ = some (.int .i64 y)) (ds := [6]) #[false, false, false, false, false, false, false] (by kernel_rfl) rfl rfl ⟨s1, s2, s3⟩ (fun hHeld => ?_)
  refine with_tabW tab_f10_2 bits_f10_2 (fun HT_ HW_ => ?_)
  refine pure_ (i := 0) (N := some 10) (v := ?_) (a' := ?_) #[true, false, false, false, false, false, false] rfl rfl (any_of HT_.out (by kernel_rfl)) (fun _ _ _ h => h) (Or.inl ⟨by rfl, ?_⟩) ?_ ?_
  rotate_left
  · intro w'
    go_simp
    with_reducible rfl
  rotate_left
  · simp only [Act.put, List.setIfInBounds_toArray, List.set_cons_zero, List.set_cons_succ, i64_w, i32_w]
    rfl
  refine pure_ (i := 1) (N := some 11) (v := ?_) (a' := ?_) #[true, true, false, false, false, false, false] rfl rfl (any_of HT_.out (by kernel_rfl)) (fun _ _ _ h => h) (Or.inl ⟨by rfl, ?_⟩) ?_ ?_
  rotate_left
  · intro w'
    go_simp
    with_reducible rfl
  rotate_left
  · simp only [Act.put, List.setIfInBounds_toArray, List.set_cons_zero, List.set_cons_succ, i64_w, i32_w]
    rfl
  refine pure_ (i := 2) (N := some 12) (v := ?_) (a' := ?_) #[true, true, true, false, false, false, false] rfl rfl (any_of HT_.out (by kernel_rfl)) (fun _ _ _ h => h) (Or.inl ⟨by rfl, ?_⟩) ?_ ?_
  rotate_left
  · intro w'
    go_simp
    with_reducible rfl
  rotate_left
  · simp only [Act.put, List.setIfInBounds_toArray, List.set_cons_zero, List.set_cons_succ, i64_w, i32_w]
    rfl
  refine take_ (i := 3) (N := some 13) (v := ?_) (a' := ?_) #[true, true, true, true, false, false, false] rfl rfl (take_ofW HT_.out HW_.out (by kernel_rfl)) (fun _ _ _ h => h) (Or.inl ⟨by rfl, ?_⟩) hHeld ?_ ?_
  rotate_left
  · rintro w' ⟨s1, s2, s3⟩
    go_simp
    with_reducible rfl
  rotate_left
  · simp only [Act.put, List.setIfInBounds_toArray, List.set_cons_zero, List.set_cons_succ, i64_w, i32_w]
    rfl
  refine pure_ (i := 4) (N := some 14) (v := ?_) (a' := ?_) #[true, true, true, true, true, false, false] rfl rfl (any_of HT_.out (by kernel_rfl)) (fun _ _ _ h => h) (Or.inl ⟨by rfl, ?_⟩) ?_ ?_
  rotate_left
  · intro w'
    go_simp
    with_reducible rfl
  rotate_left
  · simp only [Act.put, List.setIfInBounds_toArray, List.set_cons_zero, List.set_cons_succ, i64_w, i32_w]
    rfl
  refine take_ (i := 5) (N := some 15) (v := ?_) (a' := ?_) #[true, true, true, true, true, true, false] rfl rfl (take_ofW HT_.out HW_.out (by kernel_rfl)) (fun _ _ _ h => h) (Or.inl ⟨by rfl, ?_⟩) hHeld ?_ ?_
  rotate_left
  · rintro w' ⟨s1, s2, s3⟩
    go_simp
    with_reducible rfl
  rotate_left
  · simp only [Act.put, List.setIfInBounds_toArray, List.set_cons_zero, List.set_cons_succ, i64_w, i32_w]
    rfl
  refine last_ (i := 6) (N := none) #[true, true, true, true, true, true, true] rfl rfl (one_of HT_.out (by kernel_rfl)) (by decide) (fun K hK => ?_)
  refine unit_ (w' := w2) (by rfl) rfl ?hrun ?_
  case hrun => go_simp
  refine hK.out _ _ ?_
  clear hK K
  refine norm_ (a' := ?_) ?_ ?_
  rotate_left
  · show Act.put _ (none) _ = _
    simp only [Act.put, List.setIfInBounds_toArray, List.set_cons_zero, List.set_cons_succ, i64_w, i32_w]
    rfl
  refine done_ (done_of HT_.out (by kernel_rfl)) ?_
  clear s1 s2 s3 hup hHeld HT_ HW_
  have hne := HG1.out.ne
  have hsz := HM1.out.size
  have hpl := HF.out pb HFP.out.1
  have M2 := Aside0.mk (Mv.of_turned HT2.out).undrew
  have d0 : w2.cell? ⟨gb, 0, none⟩ = some (.int .i64 side) := M2.out.cell HG1.out.c0 (by exact hne.1)
  have d1 : w2.heap[w.heap.size]? = some (.cells #[.int .i64 x, .int .i64 y] 32) := (M2.out.block _ (blk_lt K1.out) (by omega)).trans K1.out
  have d2 := (blk_cell d1 0).trans rfl
  have d3 := (blk_cell d1 1).trans rfl
  have hof := of_calls gb x y side hx hy HG1.out.s1 w2 d0
  clear d0
  go_wp2_with (go_at_call 27; (with_reducible refine hof.mono ?_); rintro e w3 ⟨rfl, hb3⟩; clear d1 d2 d3 hof)
  refine absW (fun w4 => Mv w1 w4 (fun k => k = pb) ∧ w4.heap[w3.heap.size]? = some (.cells #[.int .i64 (x / side), .int .i64 (y / side)] 60) ∧ w4.ownsMap Try.prog 3 vElem pb (n + 1 + 1) (GM (ins ⟨id, x, y⟩ (dropP L id)))) ⟨(M2.out.below hb3).below (by repeat (first | (with_reducible first | exact Below.refl _ _ | apply below_alloc | apply pw_below_drewN | apply below_drew1) | exact Below.refl _ _)), heap_alloc_new _ _, (own_below HO2.out hb3).alloc _⟩ ?_
  rintro w4 ⟨m4, k4, o4⟩
  clear hb3
  have hix := down_I64 hx HG1.out.s1
  have hiy := down_I64 hy HG1.out.s1
  have hlen := HG1.out.rlen (x / side) (y / side)
  have hc4 : CellsAt w4 cb (n + 1) hd1 := HG1.out.cells.block (m4.block cb HG1.out.cells.lt (Ne.symm hne.2.2))
  have hcgb := HG1.out.flt cb HG1.out.fc
  obtain ⟨v, hv⟩ : ∃ v, hdVal (hd1 (x / side) (y / side)) = v := ⟨_, rfl⟩
  have hvb : ∀ k, v.ownBlock = some k → ∃ m c, hd1 (x / side) (y / side) = some (k, m, c) := by
    intro k hk
    rw [← hv] at hk
    rcases hh : hd1 (x / side) (y / side) with _ | ⟨g, m, c⟩
    · rw [hh] at hk
      cases hk
    · rw [hh] at hk
      injection hk with hk
      have hk : g = k := hk
      subst hk
      exact ⟨m, c, rfl⟩
  have hcv : v.ownBlock ≠ some cb := by
    intro e
    obtain ⟨m, c, e⟩ := hvb cb e
    exact (HG1.out.rowS _ _ _ _ _ e).2.2.2.2 rfl
  have hR4 : ki.R 3 w4 0 (fun k => F k ∨ w1.heap.size ≤ k) v (rows1 (x / side) (y / side)) := by
    rcases hh : hd1 (x / side) (y / side) with _ | ⟨g, m, c⟩
    · rw [hh] at hv
      rw [← hv, HG1.out.row0 _ _ hh]
      exact Kd.R_nil _ _ _ _ _
    · obtain ⟨hm, hR, g1, g2, g3⟩ := HG1.out.rowS _ _ _ _ _ hh
      subst hm
      rw [hh] at hv
      rw [← hv]
      exact Kd.R_mono (ki_one hR (fun k hk => by injection hk with hk; have hk : g = k := hk; subst hk; exact m4.block g (HG1.out.flt g (hR.1 g rfl)) g2)) (fun k hk => Or.inl hk)
  have r1 : w4.cell? ⟨gb, 2, none⟩ = some (.map (some cb)) := m4.cell HG1.out.c2 (by exact hne.1)
  have r2 := (blk_cell k4 0).trans rfl
  have r3 := (blk_cell k4 1).trans rfl
  have HM4 := Aside0.mk m4
  have O4 := Aside0.mk o4
  have C4 := Aside0.mk hc4
  have HX := Aside0.mk hix
  have HY := Aside0.mk hiy
  have HV0 := Aside0.mk hv
  have HVB := Aside0.mk hvb
  have HCV := Aside0.mk hcv
  have HR4 := Aside0.mk hR4
  have HS4 := Aside0.mk m4.size
  clear m4 k4 o4 hix hiy hc4 hcgb hv hvb hcv hR4
  generalize hrx : rows1 (x / side) (y / side) = rx at *
  have HRX := Aside0.mk hrx
  clear hrx
  generalize hX : x / side = X at *
  generalize hY : y / side = Y at *
  have HXe := Aside0.mk hX
  have HYe := Aside0.mk hY
  clear hX hY
  refine start_ (n := 12) (S := fun w' => w'.cell? ⟨gb, 2, none⟩ = some (.map (some cb)) ∧ w'.cell? ⟨w3.heap.size, 0, none⟩ = some (.int .i64 X) ∧ w'.cell? ⟨w3.heap.size, 1, none⟩ = some (.int .i64 Y)) (ds := [7, 9, 11]) #[false, false, false, false, false, false, false, false, false, false, false, false] (by kernel_rfl) rfl rfl ⟨r1, r2, r3⟩ (fun hHeld => ?_)
  refine with_tabW tab_f10_4 bits_f10_4 (fun HT_ HW_ => ?_)
  refine pure_ (i := 0) (N := some 19) (v := ?_) (a' := ?_) #[true, false, false, false, false, false, false, false, false, false, false, false] rfl rfl (any_of HT_.out (by kernel_rfl)) (fun _ _ _ h => h) (Or.inl ⟨by rfl, ?_⟩) ?_ ?_
  rotate_left
  · intro w'
    go_simp
    with_reducible rfl
  rotate_left
  · simp only [Act.put, List.setIfInBounds_toArray, List.set_cons_zero, List.set_cons_succ, i64_w, i32_w]
    rfl
  refine pure_ (i := 1) (N := some 20) (v := ?_) (a' := ?_) #[true, true, false, false, false, false, false, false, false, false, false, false] rfl rfl (any_of HT_.out (by kernel_rfl)) (fun _ _ _ h => h) (Or.inl ⟨by rfl, ?_⟩) ?_ ?_
  rotate_left
  · intro w'
    go_simp
    with_reducible rfl
  rotate_left
  · simp only [Act.put, List.setIfInBounds_toArray, List.set_cons_zero, List.set_cons_succ, i64_w, i32_w]
    rfl
  refine pure_ (i := 2) (N := some 21) (v := ?_) (a' := ?_) #[true, true, true, false, false, false, false, false, false, false, false, false] rfl rfl (any_of HT_.out (by kernel_rfl)) (fun _ _ _ h => h) (Or.inl ⟨by rfl, ?_⟩) ?_ ?_
  rotate_left
  · intro w'
    go_simp
    with_reducible rfl
  rotate_left
  · simp only [Act.put, List.setIfInBounds_toArray, List.set_cons_zero, List.set_cons_succ, i64_w, i32_w]
    rfl
  refine take_ (i := 3) (N := some 22) (v := ?_) (a' := ?_) #[true, true, true, true, false, false, false, false, false, false, false, false] rfl rfl (take_ofW HT_.out HW_.out (by kernel_rfl)) (fun _ _ _ h => h) (Or.inl ⟨by rfl, ?_⟩) hHeld ?_ ?_
  rotate_left
  · rintro w' ⟨s1, s2, s3⟩
    go_simp
    with_reducible rfl
  rotate_left
  · simp only [Act.put, List.setIfInBounds_toArray, List.set_cons_zero, List.set_cons_succ, i64_w, i32_w]
    rfl
  refine take_ (i := 4) (N := some 23) (v := ?_) (a' := ?_) #[true, true, true, true, true, false, false, false, false, false, false, false] rfl rfl (take_ofW HT_.out HW_.out (by kernel_rfl)) (fun _ _ _ h => h) (Or.inl ⟨by rfl, ?_⟩) hHeld ?_ ?_
  rotate_left
  · rintro w' ⟨s1, s2, s3⟩
    go_simp
    with_reducible rfl
  rotate_left
  · simp only [Act.put, List.setIfInBounds_toArray, List.set_cons_zero, List.set_cons_succ, i64_w, i32_w]
    rfl
  refine pure_ (i := 5) (N := some 25) (v := ?_) (a' := ?_) #[true, true, true, true, true, true, false, false, false, false, false, false] rfl rfl (any_of HT_.out (by kernel_rfl)) (fun _ _ _ h => h) (Or.inl ⟨by rfl, ?_⟩) ?_ ?_
  rotate_left
  · intro w'
    go_simp
    with_reducible rfl
  rotate_left
  · simp only [Act.put, List.setIfInBounds_toArray, List.set_cons_zero, List.set_cons_succ, i64_w, i32_w]
    rfl
  refine one_ (i := 6) (N := some 26) #[true, true, true, true, true, true, true, false, false, false, false, false] rfl rfl (one_of HT_.out (by kernel_rfl)) (by decide) (fun K hK => ?_)
  refine val_ (v := ?_) (w' := ?_) (by rfl) rfl ?hrun ?_
  case hrun => go_simp; refine ⟨?_, ?_⟩ <;> rfl
  refine hK.out _ _ ⟨below_cell (by repeat (first | (with_reducible first | exact Below.refl _ _ | apply below_alloc | apply pw_below_drewN | apply below_drew1) | exact Below.refl _ _)) r1, below_cell (by repeat (first | (with_reducible first | exact Below.refl _ _ | apply below_alloc | apply pw_below_drewN | apply below_drew1) | exact Below.refl _ _)) r2, below_cell (by repeat (first | (with_reducible first | exact Below.refl _ _ | apply below_alloc | apply pw_below_drewN | apply below_drew1) | exact Below.refl _ _)) r3⟩ (fun hHeld => ?_)
  refine absA (fun w5 => Below w4.heap.size w4 w5 ∧ w5.cell? ⟨w4.heap.size, 0, none⟩ = some (.int .i64 id) ∧ w5.heap.size = w4.heap.size + 1) ⟨(by repeat (first | (with_reducible first | exact Below.refl _ _ | apply below_alloc | apply pw_below_drewN | apply below_drew1) | exact Below.refl _ _)), new_cell w4 #[.int .i64 id] 3 rfl, by simp⟩ ?_
  rintro w5 ⟨hb5, n5, z5⟩
  obtain ⟨st, es1, clock1, hent, htE, hst⟩ := (C4.out.block (w' := w5) (hb5.block cb C4.out.lt)).entry (by unfold maxLen; omega) HX.out HY.out
  have HST := Aside0.mk hst
  have HTE := Aside0.mk htE
  have HB5 := Aside0.mk hb5
  have N5 := Aside0.mk n5
  have HV := HV0.out
  rw [HV] at hent
  clear HV hst htE hb5 n5
  clear hK K
  refine norm_ (a' := ?_) ?_ ?_
  rotate_left
  · show Act.put _ (some 26) _ = _
    simp only [Act.put, List.setIfInBounds_toArray, List.set_cons_zero, List.set_cons_succ, i64_w, i32_w]
    rfl
  refine last_ (i := 7) (N := some 27) #[true, true, true, true, true, true, true, true, false, false, false, false] rfl rfl (one_of HT_.out (by kernel_rfl)) (by decide) (fun K hK => ?_)
  refine val_ (v := .tuple #[v, goInt st]) (w' := ChangeMaps.setBlock w5 cb (.map es1 clock1)) (by rfl) rfl ?hrun ?_
  case hrun => go_simp
  refine hK.out _ _ ?_
  refine absA (fun w6 => w5.grownBy w6 (some cb) ∧ w6.heap[cb]? = some (.map es1 clock1)) ⟨HTE.out.grown, ?_⟩ ?_
  · obtain ⟨es, clock, es', clock', e1, e2⟩ := HTE.out
    exact ChangeMaps.heap_setBlock_same e1 _
  rintro w6 ⟨hg6, e6⟩
  have hR6 : ki.R 3 w6 0 (fun k => F k ∨ w1.heap.size ≤ k) v rx := ki_one (ki_one HR4.out (fun k hk => HB5.out.block k (Kd.R_lt HR4.out k hk))) (fun k hk => hg6.block k (Nat.lt_of_lt_of_le (Kd.R_lt HR4.out k hk) HB5.out.size) (by intro e; injection e with e; subst e; exact HCV.out hk))
  have n6 : w6.cell? ⟨w4.heap.size, 0, none⟩ = some (.int .i64 id) := hg6.cell N5.out (by have := C4.out.lt; intro e; injection e with e; have e : w4.heap.size = cb := e; omega)
  obtain ⟨v1, w7, happ, hR7, hg7, hat7⟩ := app_int hR6 (c := 1) n6 (by omega) (fun k hk => Or.inr (by have := HS4.out; have := HB5.out.size; have := hg6.size; omega)) 40
  have HG6 := Aside0.mk hg6
  have HR7 := Aside0.mk hR7
  have HG7 := Aside0.mk hg7
  have HA7 := Aside0.mk hat7
  have E6 := Aside0.mk e6
  clear hg6 hR6 hR7 hg7 hat7 e6 n6 hent
  clear hK K
  refine norm_ (a' := ?_) ?_ ?_
  rotate_left
  · show Act.put _ (some 27) _ = _
    simp only [Act.put, List.setIfInBounds_toArray, List.set_cons_zero, List.set_cons_succ, i64_w, i32_w]
    rfl
  refine pure_ (i := 8) (N := some 24) (v := ?_) (a' := ?_) #[true, true, true, true, true, true, true, true, true, false, false, false] rfl rfl (any_of HT_.out (by kernel_rfl)) (fun _ _ _ h => h) (Or.inl ⟨by rfl, ?_⟩) ?_ ?_
  rotate_left
  · intro w'
    go_simp
    with_reducible rfl
  rotate_left
  · simp only [Act.put, List.setIfInBounds_toArray, List.set_cons_zero, List.set_cons_succ, i64_w, i32_w]
    rfl
  refine pure_ (i := 10) (N := some 29) (v := ?_) (a' := ?_) #[true, true, true, true, true, true, true, true, true, false, true, false] rfl rfl (any_of HT_.out (by kernel_rfl)) (fun _ _ _ h => h) (Or.inl ⟨by rfl, ?_⟩) ?_ ?_
  rotate_left
  · intro w'
    go_simp
    with_reducible rfl
  rotate_left
  · simp only [Act.put, List.setIfInBounds_toArray, List.set_cons_zero, List.set_cons_succ, i64_w, i32_w]
    rfl
  refine last_ (i := 9) (N := some 28) #[true, true, true, true, true, true, true, true, true, true, true, false] rfl rfl (one_of HT_.out (by kernel_rfl)) (by decide) (fun K hK => ?_)
  refine val_ (v := v1) (w' := w7) (by rfl) rfl ?hrun ?_
  case hrun => exact append_run rfl rfl rfl happ
  refine hK.out _ _ ?_
  obtain ⟨g, cap, hv1, _, hlt7, _⟩ := Kd.R_form HR7.out (by simp)
  have e7 : w7.heap[cb]? = some (.map es1 clock1) := (HG7.out.block cb (Array.getElem?_eq_some_iff.1 E6.out).1 (fun e => HCV.out e.symm)).trans E6.out
  obtain ⟨w8, hes, hc8, ht8⟩ := HST.out w7 (g, (rx ++ [id]).length, cap) e7
  rw [show hdVal (some (g, (rx ++ [id]).length, cap)) = v1 from hv1.symm] at hes
  have HC8 := Aside0.mk hc8
  have HT8 := Aside0.mk ht8
  have HV1 := Aside0.mk hv1
  clear hc8 ht8 hv1 happ e7
  clear hK K
  refine norm_ (a' := ?_) ?_ ?_
  rotate_left
  · show Act.put _ (some 28) _ = _
    simp only [Act.put, List.setIfInBounds_toArray, List.set_cons_zero, List.set_cons_succ, i64_w, i32_w]
    rfl
  refine last_ (i := 11) (N := none) #[true, true, true, true, true, true, true, true, true, true, true, true] rfl rfl (one_of HT_.out (by kernel_rfl)) (by decide) (fun K hK => ?_)
  refine unit_ (w' := w8) (by rfl) rfl ?hrun ?_
  case hrun => exact es_run rfl rfl rfl rfl hes
  refine hK.out _ _ ?_
  clear hK K
  refine norm_ (a' := ?_) ?_ ?_
  rotate_left
  · show Act.put _ (none) _ = _
    simp only [Act.put, List.setIfInBounds_toArray, List.set_cons_zero, List.set_cons_succ, i64_w, i32_w]
    rfl
  refine done_ (done_of HT_.out (by kernel_rfl)) ?_
  clear hes r1 r2 r3 hHeld HT_ HW_
  go_wp2
  go_end0
  have M5 := HM4.out.below HB5.out
  have M8 : Mv w1 w8 (fun k => k = pb ∨ k = cb ∨ ∃ m c, hd1 X Y = some (k, m, c)) := by
    have a1 : Mv w1 w5 (fun k => k = pb ∨ k = cb ∨ ∃ m c, hd1 X Y = some (k, m, c)) := M5.mono (fun k hk => Or.inl hk)
    have a2 := a1.then (Mv.of_grown (S := fun k => k = cb) HG6.out (fun k hk => by injection hk with hk; exact hk.symm)) (fun j hj => Or.inl (Or.inr (Or.inl hj)))
    have a3 := a2.then (Mv.of_grown (S := fun k => v.ownBlock = some k) HG7.out (fun k hk => hk)) (fun j hj => Or.inl (Or.inr (Or.inr (HVB.out j hj))))
    exact a3.then (Mv.of_turned HT8.out) (fun j hj => Or.inl (Or.inr (Or.inl hj)))
  have hlen8 : (rx ++ [id]).length = rx.length + 1 := by simp
  have hg8 : (∃ m c, hd1 X Y = some (g, m, c)) ∨ w1.heap.size ≤ g := by
    rcases HA7.out with e | ⟨b, e, hb⟩
    · refine Or.inl (HVB.out g ?_)
      rw [← e, HV1.out]
      rfl
    · right
      rw [HV1.out] at e
      injection e with e
      have e : g = b := e
      have := HS4.out
      have := HB5.out.size
      have := HG6.out.size
      omega
  have hR8 : ki.R 3 w8 0 (fun k => F k ∨ w1.heap.size ≤ k) (.slice (some ⟨g, 0, none⟩) (rx.length + 1) cap) (rx ++ [id]) := by
    have h7 := HR7.out
    rw [HV1.out, hlen8] at h7
    refine ki_one h7 (fun k hk => HT8.out.grown.block k (Kd.R_lt h7 k hk) ?_)
    injection hk with hk
    have hk : g = k := hk
    subst hk
    intro e
    injection e with e
    rcases hg8 with ⟨m, c, e2⟩ | e2
    · exact (HG1.out.rowS _ _ _ _ _ e2).2.2.2.2 e
    · have := HG1.out.flt cb HG1.out.fc
      omega
  have hc8 := HC8.out
  rw [hlen8] at hc8
  have o8 : w8.ownsMap Try.prog 3 vElem pb (n + 1 + 1) (GM (ins ⟨id, x, y⟩ (dropP L id))) := by
    have o5 := own_below O4.out HB5.out
    have o6 := o5.kept HG6.out (by intro e; injection e with e; exact hne.2.2 e)
    have o7 := o6.kept HG7.out (by intro e; obtain ⟨m, c, e⟩ := HVB.out pb e.symm; exact (HG1.out.rowS _ _ _ _ _ e).2.2.2.1 rfl)
    exact o7.kept HT8.out.grown (by intro e; injection e with e; exact hne.2.2 e)
  have e := HXe.out
  subst e
  have e := HYe.out
  subst e
  have e := HRX.out
  subst e
  refine ⟨rfl, _, _, _, HG1.out.put_done (t := ⟨id, x, y⟩) (dropP_has L id) ⟨hid, hx, hy⟩ M8 o8 hc8 hR8 hg8, HM1.out.then M8 (fun j hj => Or.inl ?_), fun k hk => ?_⟩
  · rcases hj with rfl | rfl | ⟨m, c, e⟩
    · exact HFP.out.1
    · exact HFP.out.2
    · exact (HG1.out.rowS _ _ _ _ _ e).2.1.1 j rfl
  · rcases hk with hk | hk
    · exact Or.inl hk
    · exact Or.inr (by have := HM1.out.size; omega)
end Go.Proofs.Ytggmfmlfkhcbdaa.Gr
