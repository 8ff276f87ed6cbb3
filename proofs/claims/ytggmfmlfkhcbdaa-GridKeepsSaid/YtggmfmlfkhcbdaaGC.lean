/- The sort of a row of ids. -/
import Derived.Test.YtggmfmlfkhcbdaaGB
import Derived.Test.YtggmfmlfkhcbdaaShelf
namespace Go.Proofs.Ytggmfmlfkhcbdaa.Gr
open Go Go.RowKit Go.Maps Go.Sort Go.Shelf Go.Proofs.YtggmfmlfkhcbdaaW.PrintWords Go.Proofs.YtggmfmlfkhcbdaaW.PrintLast Go.Proofs.YtggmfmlfkhcbdaaW.PrintMore
set_option linter.unusedVariables false
set_option linter.unusedSimpArgs false

/-- A number of an int's range. -/
abbrev N64 := {x : Int // I64 x}
instance : Inhabited N64 := ⟨⟨0, by unfold I64; omega⟩⟩
def encN (x : N64) : Value := .int .i64 x.1
def upN (xs : List Int) (h : ∀ x ∈ xs, I64 x) : List N64 := xs.attach.map fun x => ⟨x.1, h x.1 x.2⟩
theorem upN_val (xs : List Int) (h : ∀ x ∈ xs, I64 x) : (upN xs h).map Subtype.val = xs := by
  unfold upN
  rw [List.map_map]
  exact List.attach_map_subtype_val xs

theorem grown_sortWorld (w : World) (g m : Nat) (d : Array N64) (os : Array Obj) : w.grownBy (sortWorld encN w g 0 m d os) (some g) := by
  refine ⟨rfl, rfl, rfl, by unfold sortWorld putRow mapBlock grow Sort.ahead; simp, fun k hk hne => ?_⟩
  have hne' : g ≠ k := by
    intro e
    exact hne (by rw [e])
  unfold sortWorld putRow mapBlock grow Sort.ahead
  simp only [Array.getElem?_append, Array.size_modify, hk, if_true, Array.getElem?_modify, hne', if_false]

theorem holds_row {w : World} {base g n cap : Nat} {ok : Nat → Prop} {xs : List Int} {ys : List N64} (h : ki.R 3 w base ok (.slice (some ⟨g, 0, none⟩) n cap) xs) (hy : ys.map Subtype.val = xs) : Holds encN w g 0 ys.toArray := by
  have hn := (Kd.R_reads' h).1
  have hl : ys.length = xs.length := by rw [← hy, List.length_map]
  intro j hj
  have hj' : j < ys.length := by simpa using hj
  obtain ⟨h1, h2⟩ := Kd.R_celln 0 h (j : Int) (by omega) (by omega)
  rw [Int.toNat_natCast] at h1 h2
  rw [Nat.zero_add]
  refine ⟨?_, h2⟩
  rw [h1]
  congr 1
  unfold encN rdOf
  congr 1
  rw [Int.toNat_natCast, ← hy, List.getD_eq_getElem?_getD, List.getElem?_map, List.getElem?_eq_getElem hj', getElem!_pos ys.toArray j (by simpa using hj')]
  simp

theorem row_sorted {w : World} {base g n cap : Nat} {ok : Nat → Prop} {xs : List Int} (h : ki.R 3 w base ok (.slice (some ⟨g, 0, none⟩) n cap) xs) (zs : List N64) (hz : zs.length = xs.length) (m : Nat) (os : Array Obj) :
    ki.R 3 (sortWorld encN w g 0 m zs.toArray os) base ok (.slice (some ⟨g, 0, none⟩) n cap) (zs.map Subtype.val) := by
  obtain ⟨e0, _⟩ := Kd.R_reads' h
  have hok := h.1
  obtain ⟨hl, hd⟩ := Kd.own_of_R h
  rcases hd with ⟨e, _⟩ | ⟨g', cap', cur, e, hb, hg, h1, h2, h3, h4⟩
  · cases e
  · injection e with e1 e2 e3
    injection e1 with e1
    injection e1 with e1
    subst e1
    subst e3
    have hlt : g < w.heap.size := (Array.getElem?_eq_some_iff.1 hg).1
    have hblk : (sortWorld encN w g 0 m zs.toArray os).heap[g]? = some (.cells (putCells encN 0 zs.toArray cur) 3 (0, 0)) := by
      unfold sortWorld putRow mapBlock grow Sort.ahead
      simp only [Array.getElem?_append, Array.size_modify, hlt, if_true, Array.getElem?_modify, hg, Option.map_some]
      rfl
    refine Kd.R_of_own (enc := Value.int .i64) ?_ hok
    refine ⟨by simp [encs], .inr ⟨g, cap, putCells encN 0 zs.toArray cur, by rw [List.length_map, hz, e0], hb, hblk, by rw [List.length_map, hz]; exact h1, h2, by simp [putCells]; omega, ?_⟩⟩
    apply List.ext_getElem?
    intro t
    rw [List.length_map, Nat.mul_one, List.getElem?_take]
    unfold encs
    rw [List.map_map, List.getElem?_map]
    split
    · rename_i ht
      have hts : t < zs.toArray.size := by simpa using ht
      have hcur : t < cur.size := by omega
      rw [Array.getElem?_toList]
      unfold putCells
      rw [Array.getElem?_mapIdx, Array.getElem?_eq_getElem hcur]
      simp only [Option.map_some, Nat.zero_le, Nat.zero_add, true_and, hts, if_true, Nat.sub_zero]
      rw [getElem!_pos _ t hts, List.getElem?_eq_getElem ht]
      simp [encN]
    · rename_i ht
      rw [List.getElem?_eq_none (by omega)]
      rfl

/-- slices.SortFunc at a comparison that only reads. -/
theorem sort_calls {v : Value} {xs : List Int} {base : Nat} {w : World} (h : ki.R 3 w base (fun _ => True) v xs) (hx : ∀ x ∈ xs, I64 x) (hlen : xs.length ≤ 4000000000000) (g : Nat) (cb : Array Value) (cf : Int → Int → Int)
    (eg : ∀ args w, (callFunc g args).run Try.prog w = .ok (.enter g args) w) (hO : SWO (ltOf fun x y : N64 => cf x.1 y.1))
    (hcmp : ∀ W, w.grownBy W v.ownBlock → ∀ x y, I64 x → I64 y → Calls Try.prog g (#[.int .i64 x, .int .i64 y] ++ cb) W fun e w' => e = .returned (.int .i64 (cf x y)) ∧ Lay W w') :
    Calls Try.prog 41 #[v, .func (.func g) #[] cb] w fun e w' => e = .returned (.tuple #[]) ∧ ∃ ys : List Int, ys.Perm xs ∧ ys.Pairwise (fun x y => ¬ cf y x < 0) ∧ ki.R 3 w' base (fun _ => True) v ys ∧ w.grownBy w' v.ownBlock := by
  obtain ⟨A, c, rfl, hc, _⟩ := Kd.R_reads h
  have hsl := h
  obtain ⟨h0, inner, ⟨hl, hd⟩, hr⟩ := hsl
  rcases hd with ⟨e, hn⟩ | ⟨g', cap, cur, e, hb, hg, h1, h2, h3, h4⟩
  · injection e with e1 e2 e3
    subst e1
    obtain rfl : xs = [] := List.length_eq_zero_iff.1 e2
    subst e3
    refine (AnyF.slices_SortFunc_none (P := Try.prog) (ρ := Try.sortI_ren) { Try.sortI with } none 0 _ w).mono ?_
    rintro e w' ⟨rfl, rfl⟩
    exact ⟨rfl, [], List.Perm.refl _, List.Pairwise.nil, h, grown_of_below (RowKit.Below.refl _ _) _⟩
  · injection e with e1 e2 e3
    subst e1
    subst e3
    have hyv := upN_val xs hx
    have hyl : (upN xs hx).length = xs.length := by rw [← List.length_map (f := Subtype.val), hyv]
    have hH := holds_row h hyv
    have hcl : CmpLays1 Try.prog g cb encN (fun x y : N64 => cf x.1 y.1) g' 0 (upN xs hx).toArray.size w := fun m os dk _ x y => hcmp _ (grown_sortWorld w g' m dk os) x.1 y.1 x.2 y.2
    have hcon := Any.slices_SortFunc Try.sortI encN (fun _ => rfl) (fun x y : N64 => cf x.1 y.1) hO g cb g' 0 c (upN xs hx).toArray w eg hcl hH (Array.getElem?_eq_some_iff.1 hg).1 (by simp; omega)
    have hsz : (upN xs hx).toArray.size = xs.length := by simp [hyl]
    rw [hsz] at hcon
    change Calls Try.prog 41 _ _ _ at hcon
    refine hcon.mono ?_
    rintro e w' ⟨rfl, d', m, os, ⟨hs1, hs2, hs3⟩, hs, rfl⟩
    have hd1 : d'.size = xs.length := by rw [hs1, hsz]
    have hp : d'.toList.Perm (upN xs hx) := by
      have x1 : d'.extract 0 xs.length = d' := by rw [← hd1]; simp
      have x2 : (upN xs hx).toArray.extract 0 xs.length = (upN xs hx).toArray := by rw [← hsz]; exact Array.extract_size
      rw [x1, x2] at hs3
      exact hs3
    have hr2 := row_sorted h d'.toList (by rw [Array.length_toList, hd1]) m os
    rw [Array.toArray_toList] at hr2
    refine ⟨rfl, d'.toList.map Subtype.val, ?_, ?_, hr2, grown_sortWorld w g' m d' os⟩
    · have := hp.map Subtype.val
      rwa [hyv] at this
    · rw [List.pairwise_map, List.pairwise_iff_getElem]
      intro i j hi hj hij
      have h := hs i j (Nat.zero_le _) hij (by rw [← hd1]; simpa using hj)
      rw [getElem!_pos d' i (by simpa using hi), getElem!_pos d' j (by simpa using hj)] at h
      unfold ltOf at h
      simpa using h
end Go.Proofs.Ytggmfmlfkhcbdaa.Gr
