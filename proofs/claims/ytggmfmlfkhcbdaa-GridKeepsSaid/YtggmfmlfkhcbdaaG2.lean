/- Plain: the places' map as a sorted list of things. -/
import Derived.Test.YtggmfmlfkhcbdaaG1
import Derived.Maps.Ext
namespace Go.Proofs.Ytggmfmlfkhcbdaa.Gr
open Go Go.RowKit Go.Maps
set_option linter.unusedVariables false

def GM (L : List Th) : Dt := .map (L.map fun x => (Lit.int .i64 x.id, vData x.x x.y))
def Srt (L : List Th) : Prop := L.Pairwise (fun x y => x.id < y.id)
def hasP (L : List Th) (p : Int) : Bool := L.any (fun x => x.id == p)
def ins (x : Th) : List Th → List Th
  | [] => [x]
  | y :: r => if x.id < y.id then x :: y :: r else y :: ins x r
def dropP (L : List Th) (p : Int) : List Th := L.filter (fun x => !(x.id == p))

theorem same_int (a b : Int) : (Lit.int .i64 a).sameKey (.int .i64 b) = (a == b) := by
  simp only [Lit.sameKey]
  rw [Bool.eq_iff_iff, decide_eq_true_eq, beq_iff_eq]
  simp

theorem has_GM (L : List Th) (p : Int) : Maps.has (GM L) (.int .i64 p) = hasP L p := by
  unfold GM hasP
  rw [has_eq, List.any_map]
  congr 1
  funext x
  exact same_int _ _
theorem filter_GM (L : List Th) (p : Int) : (L.map fun x => (Lit.int .i64 x.id, vData (H := Unit) x.x x.y)).filter (fun q => !q.1.sameKey (.int .i64 p)) = (dropP L p).map fun x => (Lit.int .i64 x.id, vData x.x x.y) := by
  unfold dropP
  rw [List.filter_map]
  congr 2
  funext x
  simp only [Function.comp_apply, same_int]
theorem del_GM (L : List Th) (p : Int) : (GM L).del (.int .i64 p) = GM (dropP L p) := by
  unfold GM DataW.del
  simp only [filter_GM]
theorem dropP_none {L : List Th} {p : Int} (h : hasP L p = false) : dropP L p = L := by
  unfold dropP
  rw [List.filter_eq_self]
  intro x hx
  unfold hasP at h
  rw [List.any_eq_false] at h
  have := h x hx
  simpa using this
theorem insert_GM (x : Th) : ∀ L : List Th, DataW.insert (Lit.int .i64 x.id, vData (H := Unit) x.x x.y) (L.map fun y => (Lit.int .i64 y.id, vData y.x y.y)) = (ins x L).map fun y => (Lit.int .i64 y.id, vData y.x y.y)
  | [] => rfl
  | y :: r => by
    simp only [List.map_cons, DataW.insert, ins, Lit.before, decide_eq_true_eq]
    by_cases h : x.id < y.id
    · simp only [h, if_true, List.map_cons]
    · simp only [h, if_false, List.map_cons, insert_GM x r]
theorem put_GM {L : List Th} {x : Th} (h : hasP L x.id = false) : (GM L).put (.int .i64 x.id) (vData x.x x.y) = GM (ins x L) := by
  unfold GM DataW.put
  simp only [filter_GM, dropP_none h, insert_GM]
theorem mem_ins {x z : Th} : ∀ {L : List Th}, z ∈ ins x L ↔ z = x ∨ z ∈ L
  | [] => by simp [ins]
  | y :: r => by
    unfold ins
    split
    · simp
    · simp only [List.mem_cons, mem_ins (L := r)]
      constructor
      · rintro (h | h | h) <;> simp [h]
      · rintro (h | h | h) <;> simp [h]
theorem length_ins (x : Th) : ∀ L : List Th, (ins x L).length = L.length + 1
  | [] => rfl
  | y :: r => by
    unfold ins
    split
    · rfl
    · simp [length_ins x r]
theorem Srt.ins {x : Th} : ∀ {L : List Th}, Srt L → hasP L x.id = false → Srt (ins x L)
  | [], _, _ => by simp [Gr.ins, Srt]
  | y :: r, h, hn => by
    unfold Srt at h
    rw [List.pairwise_cons] at h
    have hy : y.id ≠ x.id := by
      intro e
      simp [hasP, e] at hn
    have hr : hasP r x.id = false := by
      unfold hasP at hn ⊢
      rw [List.any_cons, Bool.or_eq_false_iff] at hn
      exact hn.2
    unfold Gr.ins
    split
    · rename_i hlt
      unfold Srt
      rw [List.pairwise_cons]
      refine ⟨fun z hz => ?_, by rw [List.pairwise_cons]; exact h⟩
      rcases List.mem_cons.1 hz with rfl | hz
      · exact hlt
      · exact Int.lt_trans hlt (h.1 z hz)
    · rename_i hge
      unfold Srt
      rw [List.pairwise_cons]
      refine ⟨fun z hz => ?_, Srt.ins (L := r) h.2 hr⟩
      rcases mem_ins.1 hz with rfl | hz
      · omega
      · exact h.1 z hz
theorem Srt.drop {L : List Th} (h : Srt L) (p : Int) : Srt (dropP L p) := List.Pairwise.filter _ h
theorem mem_drop {L : List Th} {p : Int} {z : Th} : z ∈ dropP L p ↔ z ∈ L ∧ z.id ≠ p := by simp [dropP]
theorem hasP_iff {L : List Th} {p : Int} : hasP L p = true ↔ ∃ x ∈ L, x.id = p := by simp [hasP]
theorem Srt.inj {L : List Th} (h : Srt L) {x y : Th} (hx : x ∈ L) (hy : y ∈ L) (e : x.id = y.id) : x = y := by
  induction L with
  | nil => cases hx
  | cons z r ih =>
    unfold Srt at h
    rw [List.pairwise_cons] at h
    rcases List.mem_cons.1 hx with hx | hx <;> rcases List.mem_cons.1 hy with hy | hy
    · rw [hx, hy]
    · have := h.1 y hy; rw [← hx, e] at this; omega
    · have := h.1 x hx; rw [← hy, e] at this; omega
    · exact ih h.2 hx hy
theorem atKey_GM (L : List Th) (p : Int) (zd : Dt) : (GM L).atKey (.int .i64 p) zd = match L.find? (fun y => y.id == p) with | some y => vData y.x y.y | none => zd := by
  unfold GM DataW.atKey
  simp only [List.find?_map]
  have : ((fun q : Lit × Dt => q.1.sameKey (.int .i64 p)) ∘ fun t : Th => (Lit.int .i64 t.id, vData t.x t.y)) = fun y => y.id == p := by
    funext y
    exact same_int _ _
  rw [this]
  cases L.find? (fun y => y.id == p) <;> rfl
theorem find_mem {L : List Th} (hs : Srt L) {t : Th} (ht : t ∈ L) : L.find? (fun y => y.id == t.id) = some t := by
  rcases hf : L.find? (fun y => y.id == t.id) with _ | z
  · rw [List.find?_eq_none] at hf
    exact absurd (by simp) (hf t ht)
  · have hz := List.mem_of_find?_eq_some hf
    have hzp : z.id = t.id := by simpa using List.find?_some hf
    rw [hs.inj hz ht hzp] at hf
    exact hf
theorem find_none {L : List Th} {p : Int} (h : hasP L p = false) : L.find? (fun y => y.id == p) = none := by
  rw [List.find?_eq_none]
  intro y hy he
  have := hasP_iff.2 ⟨y, hy, by simpa using he⟩
  rw [h] at this
  cases this
/-- Two sorted lists that are permutations are one. -/
theorem Srt.perm {L M : List Th} (hL : Srt L) (hM : M.Pairwise (fun x y => ¬ y.id < x.id)) (hp : M.Perm L) : M = L := by
  refine List.Perm.eq_of_pairwise (le := fun x y => ¬ y.id < x.id) ?_ hM (List.Pairwise.imp (fun {a b} h => by omega) hL) hp
  intro a b ha hb h1 h2
  exact hL.inj (hp.mem_iff.1 ha) hb (by omega)

/-- The range's books: what has come and what is to come. -/
theorem take_step {L xs : List Th} (hs : Srt L) {left : Lit → Bool} {y : Th} (hy : y ∈ L) (hl : left (.int .i64 y.id) = true) (h : (xs ++ L.filter fun z => left (.int .i64 z.id)).Perm L) :
    ((xs ++ [y]) ++ L.filter fun z => (left (.int .i64 z.id) && !(Lit.int .i64 z.id).sameKey (.int .i64 y.id))).Perm L := by
  refine List.Perm.trans ?_ h
  rw [List.append_assoc]
  refine List.Perm.append_left xs ?_
  clear h
  induction L with
  | nil => cases hy
  | cons a r ih =>
    unfold Srt at hs
    rw [List.pairwise_cons] at hs
    rcases List.mem_cons.1 hy with rfl | hy
    · rw [List.filter_cons, List.filter_cons, if_pos hl, if_neg (by simp [same_int])]
      refine List.Perm.cons y ?_
      refine List.Perm.of_eq ?_
      apply List.filter_congr
      intro z hz
      have := hs.1 z hz
      rw [same_int, beq_eq_false_iff_ne.2 (by omega)]
      simp
    · have hne : a.id ≠ y.id := by
        have := hs.1 y hy
        omega
      rw [List.filter_cons, List.filter_cons, same_int, beq_eq_false_iff_ne.2 hne]
      simp only [Bool.not_false, Bool.and_true]
      split
      · exact (List.Perm.swap a y _).trans (List.Perm.cons a (ih hs.2 hy))
      · exact ih hs.2 hy
theorem take_start {L : List Th} : ([] ++ L.filter fun z : Th => Maps.has (GM L) (.int .i64 z.id)).Perm L := by
  rw [List.nil_append, List.filter_eq_self.2]
  intro x hx
  rw [has_GM]
  exact hasP_iff.2 ⟨x, hx, rfl⟩
end Go.Proofs.Ytggmfmlfkhcbdaa.Gr
