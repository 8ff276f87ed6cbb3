/- So many changes make one list out of another: the laws of it, and that Near's rows tell it. Plain Lean. -/
import Derived.Test.YtlmbkliieckakaaDoorNm9
set_option linter.unusedVariables false
namespace Go.Proofs.YtlmbkliieckakaaDoor.Nm
open Go

/-- b is made out of a by at most n changes: one taken out, put in, or exchanged each time. -/
inductive Ed : Nat → List Int → List Int → Prop
  | nil (n : Nat) : Ed n [] []
  | same {n : Nat} {x y : List Int} (a : Int) : Ed n x y → Ed n (a :: x) (a :: y)
  | del {n : Nat} {x y : List Int} (a : Int) : Ed n x y → Ed (n + 1) (a :: x) y
  | ins {n : Nat} {x y : List Int} (b : Int) : Ed n x y → Ed (n + 1) x (b :: y)
  | sub {n : Nat} {x y : List Int} (a b : Int) : Ed n x y → Ed (n + 1) (a :: x) (b :: y)

theorem Ed.up {n : Nat} {x y : List Int} (h : Ed n x y) : Ed (n + 1) x y := by
  induction h with
  | nil n => exact .nil _
  | same a _ ih => exact .same a ih
  | del a _ ih => exact .del a ih
  | ins b _ ih => exact .ins b ih
  | sub a b _ ih => exact .sub a b ih
theorem Ed.mono {n m : Nat} {x y : List Int} (h : Ed n x y) (hm : n ≤ m) : Ed m x y := by
  obtain ⟨d, rfl⟩ : ∃ d, m = n + d := ⟨m - n, by omega⟩
  clear hm
  induction d with
  | zero => exact h
  | succ d ih => exact ih.up
theorem Ed.refl (x : List Int) : Ed 0 x x := by
  induction x with
  | nil => exact .nil 0
  | cons a x ih => exact .same a ih
theorem Ed.symm {n : Nat} {x y : List Int} (h : Ed n x y) : Ed n y x := by
  induction h with
  | nil n => exact .nil n
  | same a _ ih => exact .same a ih
  | del a _ ih => exact .ins a ih
  | ins b _ ih => exact .del b ih
  | sub a b _ ih => exact .sub b a ih
theorem Ed.length {n : Nat} {x y : List Int} (h : Ed n x y) : x.length ≤ y.length + n ∧ y.length ≤ x.length + n := by
  induction h with
  | nil n => simp
  | same a _ ih => simp; omega
  | del a _ ih => simp; omega
  | ins b _ ih => simp; omega
  | sub a b _ ih => simp; omega
theorem Ed.most (x y : List Int) : Ed (max x.length y.length) x y := by
  induction x generalizing y with
  | nil =>
    induction y with
    | nil => exact .nil _
    | cons b y ih => simp at ih ⊢; exact .ins b ih
  | cons a x ih =>
    cases y with
    | nil =>
      have := ih []
      simp at this ⊢
      exact .del a this
    | cons b y =>
      have := ih y
      simp only [List.length_cons]
      rw [show max (x.length + 1) (y.length + 1) = max x.length y.length + 1 by omega]
      exact .sub a b this
theorem Ed.zero {x y : List Int} (h : Ed 0 x y) : x = y := by
  generalize hn : 0 = n at h
  induction h with
  | nil n => rfl
  | same a _ ih => rw [ih hn]
  | del a _ ih => omega
  | ins b _ ih => omega
  | sub a b _ ih => omega
theorem Ed.append {n m : Nat} {x y x' y' : List Int} (h : Ed n x y) (k : Ed m x' y') : Ed (n + m) (x ++ x') (y ++ y') := by
  induction h with
  | nil n => exact k.mono (by omega)
  | same a _ ih => exact .same a ih
  | del a _ ih => rw [show ∀ n, n + 1 + m = n + m + 1 from fun n => by omega]; exact .del a ih
  | ins b _ ih => rw [show ∀ n, n + 1 + m = n + m + 1 from fun n => by omega]; exact .ins b ih
  | sub a b _ ih => rw [show ∀ n, n + 1 + m = n + m + 1 from fun n => by omega]; exact .sub a b ih
theorem Ed.reverse {n : Nat} {x y : List Int} (h : Ed n x y) : Ed n x.reverse y.reverse := by
  induction h with
  | nil n => exact .nil n
  | same a _ ih => simpa using ih.append (Ed.refl [a])
  | del a _ ih => simpa using ih.append (m := 1) (.del a (.nil 0))
  | ins b _ ih => simpa using ih.append (m := 1) (.ins b (.nil 0))
  | sub a b _ ih => simpa using ih.append (m := 1) (.sub a b (.nil 0))
theorem Ed.reverse_iff {n : Nat} {x y : List Int} : Ed n x.reverse y.reverse ↔ Ed n x y :=
  ⟨fun h => by simpa using h.reverse, Ed.reverse⟩

/-- By way of a third list. -/
theorem Ed.trans : ∀ (k n m : Nat) (x y z : List Int), x.length + y.length + z.length ≤ k → Ed n x y → Ed m y z → Ed (n + m) x z := by
  intro k
  induction k with
  | zero =>
    intro n m x y z hk h1 h2
    obtain rfl : x = [] := List.length_eq_zero_iff.1 (by omega)
    obtain rfl : z = [] := List.length_eq_zero_iff.1 (by omega)
    exact .nil _
  | succ k ih =>
    intro n m x y z hk h1 h2
    cases h1 with
    | nil n => exact h2.mono (by omega)
    | del a h =>
      simp only [List.length_cons] at hk
      rw [show ∀ n, n + 1 + m = n + m + 1 from fun n => by omega]
      exact .del a (ih _ _ _ _ _ (by omega) h h2)
    | same a h =>
      cases h2 with
      | same _ h' => simp only [List.length_cons] at hk; exact .same a (ih _ _ _ _ _ (by omega) h h')
      | del _ h' => simp only [List.length_cons] at hk; exact .del a (ih _ _ _ _ _ (by omega) h h')
      | ins b h' => simp only [List.length_cons] at hk; exact .ins b (ih _ _ (a :: _) (a :: _) _ (by simp only [List.length_cons]; omega) (.same a h) h')
      | sub _ b h' => simp only [List.length_cons] at hk; exact .sub a b (ih _ _ _ _ _ (by omega) h h')
    | ins b h =>
      cases h2 with
      | same _ h' => simp only [List.length_cons] at hk; rw [show ∀ n, n + 1 + m = n + m + 1 from fun n => by omega]; exact .ins b (ih _ _ _ _ _ (by omega) h h')
      | del _ h' => simp only [List.length_cons] at hk; exact (ih _ _ _ _ _ (by omega) h h').mono (by omega)
      | ins c h' => simp only [List.length_cons] at hk; exact .ins c (ih _ _ _ (b :: _) _ (by simp only [List.length_cons]; omega) (.ins b h) h')
      | sub _ c h' => simp only [List.length_cons] at hk; exact (Ed.ins c (ih _ _ _ _ _ (by omega) h h')).mono (by omega)
    | sub a b h =>
      cases h2 with
      | same _ h' => simp only [List.length_cons] at hk; rw [show ∀ n, n + 1 + m = n + m + 1 from fun n => by omega]; exact .sub a b (ih _ _ _ _ _ (by omega) h h')
      | del _ h' => simp only [List.length_cons] at hk; exact (Ed.del a (ih _ _ _ _ _ (by omega) h h')).mono (by omega)
      | ins c h' => simp only [List.length_cons] at hk; exact .ins c (ih _ _ (a :: _) (b :: _) _ (by simp only [List.length_cons]; omega) (.sub a b h) h')
      | sub _ c h' => simp only [List.length_cons] at hk; exact (Ed.sub a c (ih _ _ _ _ _ (by omega) h h')).mono (by omega)

/-- The first change, where both lists have one. -/
theorem Ed.cons_iff {n : Nat} {a b : Int} {x y : List Int} : Ed n (a :: x) (b :: y) ↔ (a = b ∧ Ed n x y) ∨ (1 ≤ n ∧ (Ed (n - 1) x (b :: y) ∨ Ed (n - 1) (a :: x) y ∨ Ed (n - 1) x y)) := by
  constructor
  · intro h
    cases h with
    | same _ h => exact Or.inl ⟨rfl, h⟩
    | del _ h => exact Or.inr ⟨by omega, Or.inl h⟩
    | ins _ h => exact Or.inr ⟨by omega, Or.inr (Or.inl h)⟩
    | sub _ _ h => exact Or.inr ⟨by omega, Or.inr (Or.inr h)⟩
  · rintro (⟨rfl, h⟩ | ⟨hn, h⟩)
    · exact .same a h
    · obtain ⟨n, rfl⟩ : ∃ m, n = m + 1 := ⟨n - 1, by omega⟩
      simp only [Nat.add_sub_cancel] at h
      rcases h with h | h | h
      · exact .del a h
      · exact .ins b h
      · exact .sub a b h
theorem Ed.nil_left_iff {n : Nat} {y : List Int} : Ed n [] y ↔ y.length ≤ n :=
  ⟨fun h => by have := h.length; simpa using this.2, fun h => (Ed.most [] y).mono (by simpa using h)⟩
theorem Ed.nil_right_iff {n : Nat} {x : List Int} : Ed n x [] ↔ x.length ≤ n :=
  ⟨fun h => by have := h.length; simpa using this.1, fun h => (Ed.most x []).mono (by simpa using h)⟩

/-- v is the least number below 8 for which P holds; 8, if there is none. -/
def Tell (v : Int) (P : Nat → Prop) : Prop := 0 ≤ v ∧ v ≤ 8 ∧ ∀ n : Nat, n < 8 → (P n ↔ v ≤ n)

/-- The first i of x and the first j of y, from behind. -/
def Fs (x y : List Int) (i j : Nat) (n : Nat) : Prop := Ed n (x.take i).reverse (y.take j).reverse

theorem take_rev {x : List Int} {i : Nat} (h : i < x.length) : (x.take (i + 1)).reverse = x.getD i 0 :: (x.take i).reverse := by
  rw [List.take_succ_eq_append_getElem h, List.reverse_append]
  simp [List.getD_eq_getElem?_getD, h]

theorem Fs_step (x y : List Int) (i j n : Nat) (hi : i < x.length) (hj : j < y.length) :
    Fs x y (i + 1) (j + 1) n ↔ (x.getD i 0 = y.getD j 0 ∧ Fs x y i j n) ∨ (1 ≤ n ∧ (Fs x y i (j + 1) (n - 1) ∨ Fs x y (i + 1) j (n - 1) ∨ Fs x y i j (n - 1))) := by
  unfold Fs
  rw [take_rev hi, take_rev hj, Ed.cons_iff]
theorem Fs_zero_left (x y : List Int) (j n : Nat) (hj : j ≤ y.length) : Fs x y 0 j n ↔ j ≤ n := by
  unfold Fs
  rw [List.take_zero, List.reverse_nil, Ed.nil_left_iff, List.length_reverse, List.length_take, Nat.min_eq_left hj]
theorem Fs_zero_right (x y : List Int) (i n : Nat) (hi : i ≤ x.length) : Fs x y i 0 n ↔ i ≤ n := by
  unfold Fs
  rw [List.take_zero, List.reverse_nil, Ed.nil_right_iff, List.length_reverse, List.length_take, Nat.min_eq_left hi]
theorem Fs_band {x y : List Int} {i j n : Nat} (hi : i ≤ x.length) (hj : j ≤ y.length) (h : Fs x y i j n) : i ≤ j + n ∧ j ≤ i + n := by
  have := Ed.length h
  simp only [List.length_reverse, List.length_take, Nat.min_eq_left hi, Nat.min_eq_left hj] at this
  exact this

theorem mn_le {a b c : Int} : mn a b ≤ c ↔ a ≤ c ∨ b ≤ c := by
  unfold mn; split <;> omega

theorem row0_tells (x y : List Int) (t : Nat) (h8 : 8 ≤ t) (ht : t ≤ y.length + 8) : Tell (row0 y.length t) (Fs x y 0 (t - 8)) := by
  have hb := row0_bd y.length t
  refine ⟨hb.1, hb.2, fun n hn => ?_⟩
  rw [Fs_zero_left x y _ n (by omega)]
  unfold row0
  rw [if_pos ⟨h8, ht⟩, mn_le]
  omega

theorem best_tells (x y : List Int) (i t : Nat) (row : Nat → Int) (prev : Int) (hi : i < x.length) (ht : t ≤ 16) (h8 : 8 ≤ i + 1 + t) (hy : i + 1 + t ≤ y.length + 8)
    (hrow : ∀ u, u ≤ 16 → 8 ≤ i + u → i + u ≤ y.length + 8 → Tell (row u) (Fs x y i (i + u - 8))) (hbd : ∀ u, 0 ≤ row u ∧ row u ≤ 8)
    (hprev : 0 < t → 9 ≤ i + 1 + t → Tell prev (Fs x y (i + 1) (i + 1 + t - 9))) (hp0 : 0 ≤ prev) :
    Tell (best x y y.length (i + 1) t row prev) (Fs x y (i + 1) (i + 1 + t - 8)) := by
  have hb := best_bd x y y.length (i + 1) t row prev hbd hp0
  refine ⟨hb.1, hb.2, fun n hn => ?_⟩
  unfold best
  rw [if_neg (by omega)]
  -- the one taken out
  have hup : ((if t < 16 then mn 8 (row (t + 1) + 1) else 8) ≤ (n : Int)) ↔ (1 ≤ n ∧ Fs x y i (i + 1 + t - 8) (n - 1)) := by
    by_cases h16 : t < 16
    · rw [if_pos h16, mn_le]
      have hr := (hrow (t + 1) (by omega) (by omega) (by omega)).2.2 (n - 1) (by omega)
      rw [show i + (t + 1) - 8 = i + 1 + t - 8 by omega] at hr
      have hr0 := (hbd (t + 1)).1
      constructor
      · intro h
        refine ⟨by omega, hr.2 (by omega)⟩
      · rintro ⟨h1, h2⟩
        have := hr.1 h2
        omega
    · rw [if_neg h16]
      constructor
      · intro h; omega
      · rintro ⟨h1, h2⟩
        have := Fs_band (by omega) (by omega) h2
        omega
  by_cases hj : 8 < i + 1 + t
  · rw [if_pos hj]
    obtain ⟨j, hj2⟩ : ∃ j, i + 1 + t - 8 = j + 1 := ⟨i + t - 8, by omega⟩
    rw [hj2] at hup ⊢
    have hyj : i + 1 + t - 9 = j := by omega
    rw [Nat.add_sub_cancel, hyj]
    rw [hyj] at hprev
    rw [Fs_step x y i j n hi (by omega)]
    have hleft : ((if 0 < t then mn (if t < 16 then mn 8 (row (t + 1) + 1) else 8) (prev + 1) else (if t < 16 then mn 8 (row (t + 1) + 1) else 8)) ≤ (n : Int)) ↔ (1 ≤ n ∧ (Fs x y i (j + 1) (n - 1) ∨ Fs x y (i + 1) j (n - 1))) := by
      by_cases h0 : 0 < t
      · rw [if_pos h0, mn_le, hup]
        have hp := (hprev h0 (by omega)).2.2 (n - 1) (by omega)
        constructor
        · rintro (⟨h1, h2⟩ | h)
          · exact ⟨h1, Or.inl h2⟩
          · exact ⟨by omega, Or.inr (hp.2 (by omega))⟩
        · rintro ⟨h1, h2 | h2⟩
          · exact Or.inl ⟨h1, h2⟩
          · have := hp.1 h2; exact Or.inr (by omega)
      · rw [if_neg h0, hup]
        constructor
        · rintro ⟨h1, h2⟩; exact ⟨h1, Or.inl h2⟩
        · rintro ⟨h1, h2 | h2⟩
          · exact ⟨h1, h2⟩
          · have := Fs_band (by omega) (by omega) h2; omega
    have hd := hrow t ht (by omega) (by omega)
    rw [show i + t - 8 = j by omega] at hd
    have hd0 := hd.1
    by_cases he : x.getD i 0 = y.getD j 0
    · rw [if_pos he, mn_le, hleft]
      have hdn := hd.2.2 n hn
      refine Iff.symm ?_
      constructor
      · rintro (⟨h1, h2⟩ | h)
        · exact Or.inr ⟨h1, h2.elim Or.inl (fun h => Or.inr (Or.inl h))⟩
        · exact Or.inl ⟨he, hdn.2 h⟩
      · rintro (⟨_, h⟩ | ⟨h1, h | h | h⟩)
        · exact Or.inr (hdn.1 h)
        · exact Or.inl ⟨h1, Or.inl h⟩
        · exact Or.inl ⟨h1, Or.inr h⟩
        · exact Or.inr (hdn.1 (Ed.mono h (by omega)))
    · rw [if_neg he, mn_le, hleft]
      have hdn := hd.2.2 (n - 1) (by omega)
      refine Iff.symm ?_
      constructor
      · rintro (⟨h1, h2⟩ | h)
        · exact Or.inr ⟨h1, h2.elim Or.inl (fun h => Or.inr (Or.inl h))⟩
        · exact Or.inr ⟨by omega, Or.inr (Or.inr (hdn.2 (by omega)))⟩
      · rintro (⟨h, _⟩ | ⟨h1, h | h | h⟩)
        · exact absurd h he
        · exact Or.inl ⟨h1, Or.inl h⟩
        · exact Or.inl ⟨h1, Or.inr h⟩
        · have := hdn.1 h; exact Or.inr (by omega)
  · rw [if_neg hj, hup]
    have e : i + 1 + t - 8 = 0 := by omega
    rw [e, Fs_zero_right x y _ _ (by omega), Fs_zero_right x y _ _ (by omega)]
    omega

theorem nxt_tells (x y : List Int) (i : Nat) (row : Nat → Int) (hi : i < x.length)
    (hrow : ∀ u, u ≤ 16 → 8 ≤ i + u → i + u ≤ y.length + 8 → Tell (row u) (Fs x y i (i + u - 8))) (hbd : ∀ u, 0 ≤ row u ∧ row u ≤ 8) :
    ∀ t, t ≤ 16 → 8 ≤ i + 1 + t → i + 1 + t ≤ y.length + 8 → Tell (nxt x y y.length (i + 1) row t) (Fs x y (i + 1) (i + 1 + t - 8))
  | 0, h16, h8, hy => best_tells x y i 0 row 0 hi h16 h8 hy hrow hbd (fun h => by omega) (by omega)
  | t + 1, h16, h8, hy => best_tells x y i (t + 1) row _ hi h16 h8 hy hrow hbd
      (fun _ h9 => by
        have := nxt_tells x y i row hi hrow hbd t (by omega) (by omega) (by omega)
        rw [show i + 1 + (t + 1) - 9 = i + 1 + t - 8 by omega]
        exact this) (nxt_bd x y _ _ row hbd t).1

theorem rowAt_tells (x y : List Int) : ∀ i, i ≤ x.length → ∀ t, t ≤ 16 → 8 ≤ i + t → i + t ≤ y.length + 8 → Tell (rowAt x y i t) (Fs x y i (i + t - 8))
  | 0, _, t, h16, h8, hy => by
    rw [Nat.zero_add] at h8 hy ⊢
    exact row0_tells x y t h8 hy
  | i + 1, hi, t, h16, h8, hy => nxt_tells x y i (rowAt x y i) (by omega) (fun u h1 h2 h3 => rowAt_tells x y i (by omega) u h1 h2 h3) (rowAt_bd x y i) t h16 h8 hy

/-- NEAR TELLS the least number of changes, below 8. -/
theorem nearL_tells (x y : List Int) : Tell (nearL x y) (fun n => Ed n x y) := by
  unfold nearL
  split
  · rename_i h
    refine ⟨by omega, by omega, fun n hn => ⟨fun he => ?_, fun h' => by omega⟩⟩
    have := he.length
    omega
  · rename_i h
    have hr := rowAt_tells x y x.length (Nat.le_refl _) (8 + y.length - x.length) (by omega) (by omega) (by omega)
    rw [show x.length + (8 + y.length - x.length) - 8 = y.length by omega] at hr
    refine ⟨hr.1, hr.2.1, fun n hn => ?_⟩
    rw [← hr.2.2 n hn]
    unfold Fs
    rw [List.take_of_length_le (Nat.le_refl _), List.take_of_length_le (Nat.le_refl _), Ed.reverse_iff]

theorem tell_eq {v w : Int} {P Q : Nat → Prop} (h : Tell v P) (k : Tell w Q) (hpq : ∀ n, P n ↔ Q n) : v = w := by
  obtain ⟨h0, h1, h2⟩ := h
  obtain ⟨k0, k1, k2⟩ := k
  rcases Int.lt_trichotomy v w with h | h | h
  · exfalso
    have a := (h2 v.toNat (by omega)).2 (by omega)
    have b := (k2 v.toNat (by omega)).1 ((hpq _).1 a)
    omega
  · exact h
  · exfalso
    have a := (k2 w.toNat (by omega)).2 (by omega)
    have b := (h2 w.toNat (by omega)).1 ((hpq _).2 a)
    omega

theorem near_symm (x y : List Int) : nearL x y = nearL y x := tell_eq (nearL_tells x y) (nearL_tells y x) (fun n => ⟨Ed.symm, Ed.symm⟩)
theorem near_zero (x y : List Int) : nearL x y = 0 ↔ x = y := by
  have h := nearL_tells x y
  have h0 := h.2.2 0 (by omega)
  constructor
  · intro e; exact (h0.2 (by omega)).zero
  · rintro rfl
    have := h0.1 (Ed.refl x)
    have := h.1
    omega
theorem near_tri (x y z : List Int) : nearL x z ≤ nearL x y + nearL y z := by
  have h1 := nearL_tells x y
  have h2 := nearL_tells y z
  have h3 := nearL_tells x z
  by_cases h : nearL x y + nearL y z < 8
  · have a := (h1.2.2 (nearL x y).toNat (by have := h1.1; have := h2.1; omega)).2 (by have := h1.1; omega)
    have b := (h2.2.2 (nearL y z).toNat (by have := h1.1; have := h2.1; omega)).2 (by have := h2.1; omega)
    have c := (h3.2.2 ((nearL x y).toNat + (nearL y z).toNat) (by have := h1.1; have := h2.1; omega)).1 (Ed.trans _ _ _ x y z (Nat.le_refl _) a b)
    have := h1.1; have := h2.1
    omega
  · have := h3.2.1; omega
theorem near_le (x y : List Int) {n : Nat} (h : Ed n x y) : nearL x y ≤ n := by
  have h1 := nearL_tells x y
  by_cases hn : n < 8
  · exact (h1.2.2 n hn).1 h
  · have := h1.2.1; omega
theorem near_ge (x y : List Int) : mn ((x.length : Int) - y.length) 8 ≤ nearL x y := by
  have h1 := nearL_tells x y
  rw [mn_le]
  by_cases h : nearL x y < 8
  · have a := (h1.2.2 (nearL x y).toNat (by have := h1.1; omega)).2 (by have := h1.1; omega)
    have := a.length
    have := h1.1
    omega
  · omega
theorem near_bd (x y : List Int) : 0 ≤ nearL x y ∧ nearL x y ≤ 8 := ⟨(nearL_tells x y).1, (nearL_tells x y).2.1⟩
end Go.Proofs.YtlmbkliieckakaaDoor.Nm
