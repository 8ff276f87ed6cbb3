/- Rows that are kept: plain lemmas for GridKeeps. -/
import Derived.Test.YtggmfmlfkhcbdaaGX
import Derived.Laws.Append
namespace Go.Proofs.Ytggmfmlfkhcbdaa.Gr
open Go Go.RowKit Go.Maps Go.Proofs.YtggmfmlfkhcbdaaW.PrintWords Go.Proofs.YtggmfmlfkhcbdaaW.PrintMore
set_option linter.unusedVariables false
set_option linter.unusedSimpArgs false

/-- A row of numbers; its block may be greater than it. -/
def Rw (w : World) (B : Nat) (v : Value) (xs : List Int) : Prop :=
  (v = .slice none 0 0 ∧ xs = []) ∨ ∃ g cap cur, v = .slice (some ⟨g, 0, none⟩) xs.length cap ∧ B ≤ g ∧ w.heap[g]? = some (.cells cur 3 (0, 0)) ∧ xs.length ≤ cap ∧ cap ≤ maxLen ∧ cap ≤ cur.size ∧ cur.toList.take xs.length = xs.map (Value.int .i64)
theorem encs_map (xs : List Int) : encs (Value.int .i64) xs = xs.map (Value.int .i64) := rfl
theorem Rw.of_R {w : World} {B : Nat} {v : Value} {xs : List Int} (h : ki.R 3 w B (fun _ => True) v xs) : Rw w B v xs := by
  obtain ⟨hl, hd⟩ := Kd.own_of_R h
  rcases hd with ⟨e, hn⟩ | ⟨g, cap, cur, e, hb, hg, h1, h2, h3, h4⟩
  · exact .inl ⟨e, List.eq_nil_of_length_eq_zero hn⟩
  · refine .inr ⟨g, cap, cur, e, hb, hg, h1, h2, by omega, ?_⟩
    rw [Nat.mul_one] at h4
    exact h4
theorem Rw.of_cut {w : World} {B n c m : Nat} {A : Option Addr} {ys : List Int} (h : ki.R 3 w B (fun _ => True) (.slice A n c) ys) (hm : m ≤ ys.length) : Rw w B (.slice A m m) (ys.take m) := by
  obtain ⟨hl, hd⟩ := Kd.own_of_R h
  have hn := (Kd.R_reads' h).1
  rcases hd with ⟨e, h0⟩ | ⟨g, cap, cur, e, hb, hg, h1, h2, h3, h4⟩
  · injection e with e1 e2 e3
    subst e1
    have : m = 0 := by omega
    subst this
    exact .inl ⟨rfl, rfl⟩
  · injection e with e1 e2 e3
    subst e1
    have hlm : (ys.take m).length = m := by rw [List.length_take]; omega
    refine .inr ⟨g, m, cur, by rw [hlm], hb, hg, by omega, by omega, by omega, ?_⟩
    rw [Nat.mul_one] at h4
    rw [hlm, List.map_take, ← encs_map, ← h4, List.take_take, Nat.min_eq_left hm]
theorem Rw.len {w : World} {B n c : Nat} {A : Option Addr} {xs : List Int} (h : Rw w B (.slice A n c) xs) : n = xs.length ∧ n ≤ c := by
  rcases h with ⟨e, rfl⟩ | ⟨g, cap, cur, e, _, _, h1, _⟩
  · injection e with e1 e2 e3
    subst e2
    exact ⟨rfl, Nat.zero_le _⟩
  · injection e with e1 e2 e3
    subst e2
    subst e3
    exact ⟨rfl, h1⟩
theorem Rw.slice {w : World} {B : Nat} {v : Value} {xs : List Int} (h : Rw w B v xs) : ∃ A c, v = .slice A xs.length c := by
  rcases h with ⟨e, rfl⟩ | ⟨g, cap, cur, e, _⟩
  · exact ⟨none, 0, e⟩
  · exact ⟨_, _, e⟩
theorem Rw.move {w w' : World} {B : Nat} {v : Value} {xs : List Int} (h : Rw w B v xs) (hm : ∀ k, v.ownBlock = some k → w'.heap[k]? = w.heap[k]?) : Rw w' B v xs := by
  rcases h with h | ⟨g, cap, cur, e, hb, hg, r⟩
  · exact .inl h
  · exact .inr ⟨g, cap, cur, e, hb, (hm g (by rw [e]; rfl)).trans hg, r⟩
theorem Rw.lt {w : World} {B : Nat} {v : Value} {xs : List Int} (h : Rw w B v xs) : ∀ k, v.ownBlock = some k → k < w.heap.size ∧ B ≤ k ∧ ∃ cur, w.heap[k]? = some (.cells cur 3 (0, 0)) := by
  rcases h with ⟨e, _⟩ | ⟨g, cap, cur, e, hb, hg, r⟩
  · intro k hk
    rw [e] at hk
    cases hk
  · intro k hk
    rw [e] at hk
    injection hk with hk
    subst hk
    exact ⟨blk_lt hg, hb, cur, hg⟩
theorem Rw.below {w w' : World} {B : Nat} {v : Value} {xs : List Int} (h : Rw w B v xs) (hb : Below w.heap.size w w') : Rw w' B v xs := h.move fun k hk => hb.block k (h.lt k hk).1
theorem Rw.mv {w w' : World} {B : Nat} {v : Value} {xs : List Int} {S : Nat → Prop} (h : Rw w B v xs) (hm : Mv w w' S) (hS : ∀ k, v.ownBlock = some k → ¬ S k) : Rw w' B v xs := h.move fun k hk => hm.block k (h.lt k hk).1 (hS k hk)
theorem Rw.lower {w : World} {B B' : Nat} {v : Value} {xs : List Int} (h : Rw w B v xs) (hB : B' ≤ B) : Rw w B' v xs := by
  rcases h with h | ⟨g, cap, cur, e, hb, r⟩
  · exact .inl h
  · exact .inr ⟨g, cap, cur, e, Nat.le_trans hB hb, r⟩
theorem Rw.cell {w : World} {B g n c : Nat} {xs : List Int} (h : Rw w B (.slice (some ⟨g, 0, none⟩) n c) xs) {j : Nat} {x : Int} (hx : xs[j]? = some x) : w.cell? ⟨g, j, none⟩ = some (.int .i64 x) ∧ w.frozen? ⟨g, j, none⟩ = false := by
  rcases h with ⟨e, _⟩ | ⟨g', cap, cur, e, hb, hg, h1, h2, h3, h4⟩
  · cases e
  · injection e with e1 e2 e3
    injection e1 with e1
    injection e1 with e1
    subst e1
    refine ⟨?_, blk_frozen hg j⟩
    have hj : j < xs.length := (List.getElem?_eq_some_iff.1 hx).1
    have h5 : (cur.toList.take xs.length)[j]? = some (.int .i64 x) := by rw [h4, List.getElem?_map, hx]; rfl
    rw [List.getElem?_take, if_pos hj, Array.getElem?_toList] at h5
    rw [blk_cell hg, h5]
theorem Rw.head {w : World} {B n c : Nat} {ad : Addr} {xs : List Int} (h : Rw w B (.slice (some ad) n c) xs) : ∃ g, ad = ⟨g, 0, none⟩ := by
  rcases h with ⟨e, _⟩ | ⟨g', cap, cur, e, _⟩
  · cases e
  · injection e with e1 e2 e3
    injection e1 with e1
    exact ⟨_, e1⟩
theorem Rw.none_len {w : World} {B n c : Nat} {xs : List Int} (h : Rw w B (.slice none n c) xs) : xs = [] := by
  rcases h with ⟨e, h⟩ | ⟨g', cap, cur, e, _⟩
  · exact h
  · injection e with e1
    cases e1
/-- The row's cell at an index. -/
theorem Rw.at {w : World} {B n c : Nat} {A : Option Addr} {xs : List Int} (h : Rw w B (.slice A n c) xs) (j : Int) (h0 : 0 ≤ j) (h1 : j < n) : ∃ g x, A = some ⟨g, 0, none⟩ ∧ xs[j.toNat]? = some x ∧ w.cell? ⟨g, j.toNat, none⟩ = some (.int .i64 x) ∧ w.frozen? ⟨g, j.toNat, none⟩ = false := by
  have hl := h.len.1
  cases A with
  | none => rw [h.none_len] at hl; simp at hl; omega
  | some ad =>
    obtain ⟨g, rfl⟩ := h.head
    have hx : xs[j.toNat]? = some (xs[j.toNat]'(by omega)) := List.getElem?_eq_getElem (by omega)
    exact ⟨g, _, rfl, hx, h.cell hx⟩
theorem Rw.set {w : World} {B g n c : Nat} {xs : List Int} (h : Rw w B (.slice (some ⟨g, 0, none⟩) n c) xs) (j : Nat) (x : Int) : Rw (w.setCell ⟨g, j, none⟩ (.int .i64 x)) B (.slice (some ⟨g, 0, none⟩) n c) (xs.set j x) := by
  rcases h with ⟨e, _⟩ | ⟨g', cap, cur, e, hb, hg, h1, h2, h3, h4⟩
  · cases e
  · injection e with e1 e2 e3
    injection e1 with e1
    injection e1 with e1
    subst e1
    subst e2
    subst e3
    refine .inr ⟨g, c, cur.setIfInBounds j (.int .i64 x), by rw [List.length_set], hb, blk_set hg j _, by rw [List.length_set]; exact h1, h2, by simpa using h3, ?_⟩
    rw [List.length_set, List.map_set, ← h4, Array.toList_setIfInBounds, List.take_set]
/-- append of one number. -/
theorem Rw.app {W : World} {B : Nat} {v : Value} {xs : List Int} (h : Rw W B v xs) {b0 c0 : Nat} {x : Int} (hc : W.cell? ⟨b0, 0, none⟩ = some (.int .i64 x)) (hl : xs.length ≤ 4000000000000) (hB : B ≤ W.heap.size) (ty : TypeId) :
    ∃ v1 w1, (Builtin.append_ #[40, 40] ty #[v, .slice (some ⟨b0, 0, none⟩) 1 c0]).run Try.prog W = .ok v1 w1 ∧ Rw w1 B v1 (xs ++ [x]) ∧ ((v1.ownBlock = v.ownBlock ∧ W.grownBy w1 v.ownBlock) ∨ (W.grownBy w1 none ∧ v1.ownBlock = some W.heap.size)) := by
  obtain ⟨i, hi, e⟩ := Option.map_eq_some_iff.1 info3
  simp only [Prod.mk.injEq] at e
  obtain ⟨e1, e2, e3⟩ := e
  have hnews : ∀ j u, [Value.int .i64 x][j]? = some u → W.cell? ((⟨b0, 0, none⟩ : Addr).add j) = some u := by
    intro j u hj
    match j, hj with
    | 0, hj =>
      simp at hj
      subst hj
      rw [add_plain]
      exact hc
  have news_grown : ∀ (o : Obj), W.grownBy (W.drew.alloc o) none := fun o => ⟨rfl, rfl, rfl, by simp, fun k hk _ => heap_alloc_old W.drew o hk⟩
  have new_at : ∀ (o : Obj), (W.drew.alloc o).heap[W.heap.size]? = some o := fun o => heap_alloc_new W.drew o
  have hsml : xs.length + 1 ≤ maxLen := by simp only [maxLen]; omega
  have grown : ∀ (old : Nat), old < xs.length + 1 → Rw (W.drew.alloc (.cells ((xs.map (Value.int .i64)).toArray ++ [Value.int .i64 x].toArray ++ Builtin.zeroCells (Value.int .i64 0).cells (grownCap W (xs.length + 1) old 3 - (xs.length + 1))) 3)) B
      (.slice (some ⟨W.heap.size, 0, none⟩) (xs.length + 1) (grownCap W (xs.length + 1) old 3)) (xs ++ [x]) := by
    intro old ho
    have hge := grownCap_ge W (xs.length + 1) old 3
    have hcm : grownCap W (xs.length + 1) old 3 ≤ maxLen := grownCap_le_maxLen W (xs.length + 1) old 3 hsml
    have hlx : (xs ++ [x]).length = xs.length + 1 := by simp
    refine .inr ⟨W.heap.size, _, _, by rw [hlx], hB, new_at _, by omega, hcm, ?_, ?_⟩
    · simp only [Array.size_append, List.size_toArray, size_zeroCells, List.length_map]
      have : (Value.int .i64 0).cells.size = 1 := rfl
      rw [this]
      simp
      omega
    · have hm : (xs ++ [x]).length = (xs.map (Value.int .i64) ++ [Value.int .i64 x]).length := by simp
      simp only [Array.toList_append, hm]
      rw [List.map_append]
      exact List.take_left
  rcases h with ⟨rfl, rfl⟩ | ⟨g, cap, cur, rfl, hb, hg, h1, h2, h3, h4⟩
  · have hr := run_append_nil (P := Try.prog) W 40 ty 3 i _ Try.underlying40 hi e1 ⟨b0, 0, none⟩ 1 c0 [.int .i64 x] (by rw [e2]; rfl) hnews (by omega) (by omega) (by rw [e3]; omega)
    have hgr := grown 0 (by simp)
    simp only [List.length_nil, Nat.zero_add, List.map_nil, List.nil_append, Array.empty_append] at hgr
    exact ⟨_, _, hr, hgr, .inr ⟨news_grown _, rfl⟩⟩
  · by_cases hroom : xs.length + 1 ≤ cap
    · have hr := run_append_room (P := Try.prog) W 40 ty 3 i Try.underlying40 hi g xs.length cap cur hg ⟨b0, 0, none⟩ 1 c0 [.int .i64 x] (by rw [e2]; rfl) hnews (by simp [Value.oneCell']) hroom (by rw [e2]; simp; omega)
      rw [e2] at hr
      refine ⟨_, _, hr, ?_, .inl ⟨rfl, ⟨rfl, rfl, rfl, by simp, fun k _ hk => setRow_other W g k _ (fun e => hk (by simp [Value.ownBlock, e]))⟩⟩⟩
      have hlx : (xs ++ [x]).length = xs.length + 1 := by simp
      refine .inr ⟨g, cap, _, by rw [hlx], hb, setRow_heap W g cur _ 3 _ hg, by omega, h2, ?_, ?_⟩
      · simp only [List.size_toArray, List.length_append, List.length_take, List.length_drop, Array.length_toList, List.length_singleton]
        omega
      · rw [Nat.mul_one, h4, hlx, List.map_append]
        have hm : xs.length + 1 = (xs.map (Value.int .i64) ++ [Value.int .i64 x]).length := by simp
        rw [hm]
        exact List.take_left
    · have holds : ∀ j u, (xs.map (Value.int .i64))[j]? = some u → W.cell? ((⟨g, 0, none⟩ : Addr).add j) = some u := by
        intro j u hu
        rw [List.getElem?_map] at hu
        cases hx : xs[j]? with
        | none => rw [hx] at hu; cases hu
        | some y =>
          rw [hx] at hu
          simp at hu
          subst hu
          have hrw : Rw W B (.slice (some ⟨g, 0, none⟩) xs.length cap) xs := .inr ⟨g, cap, cur, rfl, hb, hg, h1, h2, h3, h4⟩
          rw [add_plain]
          exact (hrw.cell hx).1
      have hr := run_append_grow (P := Try.prog) W 40 ty 3 i _ Try.underlying40 hi e1 ⟨g, 0, none⟩ xs.length cap (xs.map (Value.int .i64)) (by rw [e2]; simp) holds ⟨b0, 0, none⟩ 1 c0 [.int .i64 x] (by rw [e2]; rfl) hnews (by omega) (by simp; omega) (growslice_fits (by omega) (by rw [e3]; omega))
      exact ⟨_, _, hr, grown cap (by omega), .inr ⟨news_grown _, rfl⟩⟩
/-- n cells of a row that hold a mark. -/
def KR (w : World) (B : Nat) (A : Option Addr) (n : Nat) (x : Int) : Prop := ∃ m c, n ≤ m ∧ Rw w B (.slice A m c) (List.replicate m x)
def ownA (A : Option Addr) : Option Nat := A.map (·.block)
theorem own_A (A : Option Addr) (n c : Nat) : (Value.slice A n c).ownBlock = ownA A := by cases A <;> rfl
theorem KR.move {w w' : World} {B n : Nat} {A : Option Addr} {x : Int} (h : KR w B A n x) (hm : ∀ k, ownA A = some k → w'.heap[k]? = w.heap[k]?) : KR w' B A n x := by
  obtain ⟨m, c, hn, hR⟩ := h
  exact ⟨m, c, hn, hR.move fun k hk => hm k (by rw [← own_A A m c]; exact hk)⟩
theorem KR.lt {w : World} {B n : Nat} {A : Option Addr} {x : Int} (h : KR w B A n x) : ∀ k, ownA A = some k → k < w.heap.size ∧ B ≤ k ∧ ∃ cur, w.heap[k]? = some (.cells cur 3 (0, 0)) := by
  obtain ⟨m, c, hn, hR⟩ := h
  intro k hk
  exact hR.lt k (by rw [own_A]; exact hk)
theorem KR.mv {w w' : World} {B n : Nat} {A : Option Addr} {x : Int} {S : Nat → Prop} (h : KR w B A n x) (hm : Mv w w' S) (hS : ∀ k, ownA A = some k → ¬ S k) : KR w' B A n x := h.move fun k hk => hm.block k (h.lt k hk).1 (hS k hk)
theorem KR.below {w w' : World} {B n : Nat} {A : Option Addr} {x : Int} (h : KR w B A n x) (hb : Below w.heap.size w w') : KR w' B A n x := h.move fun k hk => hb.block k (h.lt k hk).1
theorem KR.lower {w : World} {B B' n : Nat} {A : Option Addr} {x : Int} (h : KR w B A n x) (hB : B' ≤ B) : KR w B' A n x := by
  obtain ⟨m, c, hn, hR⟩ := h
  exact ⟨m, c, hn, hR.lower hB⟩
/-- The mark at a place. -/
theorem KR.at {w : World} {B n : Nat} {A : Option Addr} {x : Int} (h : KR w B A n x) (k : Int) (h0 : 0 ≤ k) (h1 : k < n) : ∃ g, A = some ⟨g, 0, none⟩ ∧ w.cell? ⟨g, k.toNat, none⟩ = some (.int .i64 x) := by
  obtain ⟨m, c, hn, hR⟩ := h
  obtain ⟨g, y, e, hy, hc, _⟩ := hR.at k h0 (by omega)
  rw [List.getElem?_replicate] at hy
  split at hy
  · injection hy with hy
    subst hy
    exact ⟨g, e, hc⟩
  · cases hy
end Go.Proofs.Ytggmfmlfkhcbdaa.Gr
