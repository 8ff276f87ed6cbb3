/- A row of intents and the sort's world: the row holds what was sorted. -/
import Derived.Test.YtokemjdfcifbbaaG3
import Derived.Shelf.GgSortFunc.InsertionK
import Derived.Sort.Statements
namespace Go.Proofs.Ytokemjdfcifbbaa.Gt
open Go Go.RowKit Go.Maps Go.Sort Go.Proofs.YtokemjdfcifbbaaW.PrintWords Go.Proofs.YtokemjdfcifbbaaW.PrintMore
set_option linter.unusedVariables false

instance : Inhabited It := ⟨QQA.z40⟩
def encI (x : It) : List Value := [.int .i64 x.f0, .int .i64 x.f1, .int .i64 x.f2, .bool x.f3, .bool x.f4]
theorem encI_len (x : It) : (encI x).length = 5 := rfl

theorem flat_get (ys : List It) (t : Nat) (h : t < ys.length * 5) : (flatK encI 5 ys.toArray).toList[t]? = (encI (ys.getD (t / 5) QQA.z40))[t % 5]? := by
  have hs : t < (flatK encI 5 ys.toArray).size := by simpa using h
  have h1 := get_flatK encI 5 ys.toArray t (by simpa using h)
  rw [getElem!_pos _ t hs] at h1
  rw [Array.getElem?_toList, Array.getElem?_eq_getElem hs, h1]
  have hd : t / 5 < ys.length := by omega
  have hm : t % 5 < 5 := Nat.mod_lt _ (by omega)
  have e1 : (ys.toArray[t / 5]!) = ys.getD (t / 5) QQA.z40 := by
    rw [getElem!_pos _ _ (by simpa using hd)]
    simp [List.getD_eq_getElem?_getD, List.getElem?_eq_getElem hd]
  rw [e1]
  rw [getElem!_pos (encI _) _ (by rw [encI_len]; exact hm), List.getElem?_eq_getElem (by rw [encI_len]; exact hm)]

theorem list5 {c : List Value} {x : It} (hl : c.length = 5) (h : ∀ i, i < 5 → c[i]? = (encI x)[i]?) : c = encI x := by
  apply List.ext_getElem?
  intro i
  rcases Nat.lt_or_ge i 5 with h' | h'
  · exact h i h'
  · rw [List.getElem?_eq_none (by omega), List.getElem?_eq_none (by rw [encI_len]; omega)]

theorem reps_flat (w : World) (base : Nat) (ok : Nat → Prop) (ys : List It) : Reps (QQA.k40.M w base ok) 5 ys (flatK encI 5 ys.toArray).toList := by
  refine ⟨by simp, fun j p hj => ?_⟩
  have hlt : j < ys.length := (List.getElem?_eq_some_iff.1 hj).1
  have hc : ((flatK encI 5 ys.toArray).toList.drop (j * 5)).take 5 = encI p := by
    apply list5
    · rw [List.length_take, List.length_drop]
      simp
      omega
    · intro i hi
      rw [List.getElem?_take, if_pos hi, List.getElem?_drop, flat_get ys _ (by omega)]
      have e1 : (j * 5 + i) / 5 = j := by omega
      have e2 : (j * 5 + i) % 5 = i := by omega
      rw [e1, e2, List.getD_eq_getElem?_getD, hj]
      rfl
  rw [hc]
  exact QQA.k40_mkM w base ok p

theorem flat_of_reps {w : World} {base : Nat} {ok : Nat → Prop} {ys : List It} {inner : List Value} (h : Reps (QQA.k40.M w base ok) 5 ys inner) : inner = (flatK encI 5 ys.toArray).toList := by
  apply List.ext_getElem?
  intro t
  rcases Nat.lt_or_ge t (ys.length * 5) with ht | ht
  · rw [flat_get ys t ht]
    have hd : t / 5 < ys.length := by omega
    have h1 := QQA.k40_openM (h.2 (t / 5) ys[t / 5] (List.getElem?_eq_getElem hd))
    have h2 : inner[t]? = ((inner.drop (t / 5 * 5)).take 5)[t % 5]? := by
      rw [List.getElem?_take, if_pos (Nat.mod_lt _ (by omega)), List.getElem?_drop]
      congr 1
      omega
    rw [h2, h1, List.getD_eq_getElem?_getD, List.getElem?_eq_getElem hd]
    rfl
  · rw [List.getElem?_eq_none (by rw [h.1]; exact ht), List.getElem?_eq_none (by simp; exact ht)]

theorem holds_of_R {w : World} {base g n cap : Nat} {ok : Nat → Prop} {xs : List It} (h : QQA.k40.R 40 w base ok (.slice (some ⟨g, 0, none⟩) n cap) xs) : HoldsK encI 5 w g 0 xs.toArray := by
  obtain ⟨h0, inner, ⟨hl, hd⟩, hr⟩ := h
  rcases hd with ⟨e, _⟩ | ⟨g', cap', cur, e, hb, hg, h1, h2, h3, h4⟩
  · cases e
  · injection e with e1 e2 e3
    injection e1 with e1
    injection e1 with e1
    subst e1
    subst e2
    have hr' : Reps (QQA.k40.M w base (fun k => ok k ∧ some k ≠ (Value.slice (some ⟨g, 0, none⟩) xs.length cap).ownBlock)) 5 xs inner := hr
    have hin := flat_of_reps hr'
    intro j hj
    have hj' : j < xs.length * 5 := by simpa using hj
    have hc : cur[j]? = some (flatK encI 5 xs.toArray)[j]! := by
      have h5 : (flatK encI 5 xs.toArray).toList[j]? = some (flatK encI 5 xs.toArray)[j]! := by
        rw [Array.getElem?_toList, Array.getElem?_eq_getElem hj, getElem!_pos _ j hj]
      rw [← h5, ← hin, ← h4, List.getElem?_take, if_pos (by exact hj'), Array.getElem?_toList]
    constructor
    · simp only [World.cell?, hg, Nat.zero_add]
      simpa using hc
    · simp [World.frozen?, hg]

theorem R_sorted {w : World} {base g n cap : Nat} {ok : Nat → Prop} {xs ys : List It} (h : QQA.k40.R 40 w base ok (.slice (some ⟨g, 0, none⟩) n cap) xs) (hn : ys.length = xs.length) (m : Nat) (os : Array Obj) :
    QQA.k40.R 40 (sortWorldK encI 5 w g 0 m ys.toArray os) base ok (.slice (some ⟨g, 0, none⟩) n cap) ys ∧ w.grownBy (sortWorldK encI 5 w g 0 m ys.toArray os) (some g) := by
  obtain ⟨h0, inner, ⟨hl, hd⟩, hr⟩ := h
  rcases hd with ⟨e, _⟩ | ⟨g', cap', cur, e, hb, hg, h1, h2, h3, h4⟩
  · cases e
  · injection e with e1 e2 e3
    injection e1 with e1
    injection e1 with e1
    subst e1
    subst e2
    have hlt : g < w.heap.size := (Array.getElem?_eq_some_iff.1 hg).1
    have hblk : (sortWorldK encI 5 w g 0 m ys.toArray os).heap[g]? = some (.cells (putCells id 0 (flatK encI 5 ys.toArray) cur) 40 (0, 0)) := by
      unfold sortWorldK putRowK putRow mapBlock grow Sort.ahead
      simp only [Array.getElem?_append, Array.size_modify, hlt, if_true, Array.getElem?_modify, hg, Option.map_some]
      rfl
    constructor
    · refine ⟨h0, (flatK encI 5 ys.toArray).toList, ⟨by simp; rfl, .inr ⟨g, cap', putCells id 0 (flatK encI 5 ys.toArray) cur, by rw [hn, e3], hb, hblk, by rw [hn]; exact h1, h2, by simp [putCells]; exact h3, ?_⟩⟩, reps_flat _ _ _ _⟩
      apply List.ext_getElem?
      intro t
      show ((putCells id 0 (flatK encI 5 ys.toArray) cur).toList.take (ys.length * 5))[t]? = _
      rw [List.getElem?_take]
      have hcs : ys.length * 5 ≤ cur.size := by
        have h3' : cur.size = cap' * 5 := h3
        have := Nat.mul_le_mul_right 5 h1
        omega
      split
      · rename_i ht
        have hts : t < (flatK encI 5 ys.toArray).size := by simpa using ht
        rw [Array.getElem?_toList, Array.getElem?_toList, Array.getElem?_eq_getElem hts]
        unfold putCells
        rw [Array.getElem?_mapIdx, Array.getElem?_eq_getElem (by omega)]
        simp only [Option.map_some, Nat.zero_le, Nat.zero_add, true_and, hts, if_true, Nat.sub_zero, id]
        rw [getElem!_pos _ t hts]
      · rename_i ht
        rw [List.getElem?_eq_none]
        simp
        omega
    · refine ⟨rfl, rfl, rfl, by unfold sortWorldK putRowK putRow mapBlock grow Sort.ahead; simp, fun k hk hne => ?_⟩
      have hne' : g ≠ k := by
        intro e
        exact hne (by rw [e])
      unfold sortWorldK putRowK putRow mapBlock grow Sort.ahead
      simp only [Array.getElem?_append, Array.size_modify, hk, if_true, Array.getElem?_modify, hne', if_false]
end Go.Proofs.Ytokemjdfcifbbaa.Gt
