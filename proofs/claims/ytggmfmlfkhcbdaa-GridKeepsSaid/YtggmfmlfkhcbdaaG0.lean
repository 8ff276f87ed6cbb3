/- Plain numbers of chapter 20: cells, squares of distances, what is within. -/
import Derived.Test.YtggmfmlfkhcbdaaQQA1
import Derived.Test.YtggmfmlfkhcbdaaQQA2
namespace Go.Proofs.Ytggmfmlfkhcbdaa.Gr
open Go Go.RowKit Go.Proofs.YtggmfmlfkhcbdaaW.PrintWords
set_option linter.unusedVariables false

def I64 (x : Int) : Prop := -9223372036854775808 ≤ x ∧ x ≤ 9223372036854775807
theorem wf_iff {x : Int} : (Lit.int .i64 x).wf = true ↔ I64 x := by
  unfold I64 Lit.wf
  rw [Bool.and_eq_true, decide_eq_true_eq, decide_eq_true_eq]
  exact Iff.rfl
theorem wrap_id {x : Int} (h : I64 x) : wrap64 x = x := by unfold I64 at h; unfold wrap64; omega

theorem lt_ge (a b : Int) : a < b ∨ b ≤ a := by omega
theorem down_f (a b : Int) (ha : I64 a) (h1 : 1 ≤ b) : QQA.grid_down.f a b = some (a / b) := by
  unfold QQA.grid_down.f
  unfold I64 at ha
  have hd := Int.mul_tdiv_add_tmod a b
  have he := Int.mul_ediv_add_emod a b
  have hm0 := Int.emod_nonneg a (show b ≠ 0 by omega)
  have hm1 := Int.emod_lt_of_pos a (show 0 < b by omega)
  have t1 : -b < Int.tmod a b := by
    rcases Int.le_total 0 a with h | h
    · have := Int.tmod_nonneg b h; omega
    · have := Int.lt_tmod_of_pos a (show 0 < b by omega); omega
  have t2 := Int.tmod_lt_of_pos a (show 0 < b by omega)
  rw [if_neg (by omega)]
  have key : ∀ q q' r r' : Int, b * q + r = b * q' + r' → -b < r → r < b → 0 ≤ r' → r' < b → (r < 0 → q' = q - 1) ∧ (0 ≤ r → q' = q) := by
    intro q q' r r' e r1 r2 r3 r4
    have e2 : b * (q - q') = r' - r := by rw [Int.mul_sub]; omega
    constructor
    · intro hr
      have h3 : 0 < q - q' := by
        rcases lt_ge 0 (q - q') with h | h
        · exact h
        · have := Int.mul_nonpos_of_nonneg_of_nonpos (show 0 ≤ b by omega) h; omega
      have h4 : q - q' < 2 := by
        rcases lt_ge (q - q') 2 with h | h
        · exact h
        · have := Int.mul_le_mul_of_nonneg_left h (show 0 ≤ b by omega); omega
      omega
    · intro hr
      have h3 : -1 < q - q' := by
        rcases lt_ge (-1) (q - q') with h | h
        · exact h
        · have := Int.mul_le_mul_of_nonneg_left h (show 0 ≤ b by omega); omega
      have h4 : q - q' < 1 := by
        rcases lt_ge (q - q') 1 with h | h
        · exact h
        · have := Int.mul_le_mul_of_nonneg_left h (show 0 ≤ b by omega); omega
      omega
  have k := key (Int.tdiv a b) (a / b) (Int.tmod a b) (a % b) (by omega) t1 t2 hm0 hm1
  have hq : I64 (a / b) := by
    unfold I64
    constructor
    · rw [Int.le_ediv_iff_mul_le (by omega)]
      have := Int.mul_le_mul_of_nonpos_left (a := (-9223372036854775808 : Int)) (by omega) h1
      omega
    · have : a / b < 9223372036854775808 := by
        rw [Int.ediv_lt_iff_lt_mul (by omega)]
        have := Int.mul_le_mul_of_nonneg_left (c := (9223372036854775808 : Int)) h1 (by omega)
        omega
      omega
  by_cases h : Int.tmod a b < 0
  · rw [if_pos h]
    have e := k.1 h
    have hneg : a < 0 := by
      rcases lt_ge a 0 with h' | h'
      · exact h'
      · have := Int.tmod_nonneg b h'; omega
    have ht : I64 (Int.tdiv a b) := by
      unfold I64 at hq ⊢
      have : Int.tdiv a b ≤ 0 := by
        have := Int.ediv_neg_of_neg_of_pos hneg (show 0 < b by omega)
        omega
      omega
    rw [wrap_id ht, ← e, wrap_id hq]
  · rw [if_neg h, ← k.2 (by omega), wrap_id hq]

theorem down_I64 {a b : Int} (ha : I64 a) (h1 : 1 ≤ b) : I64 (a / b) := by
  unfold I64 at ha
  unfold I64
  constructor
  · rw [Int.le_ediv_iff_mul_le (by omega)]
    have := Int.mul_le_mul_of_nonpos_left (a := (-9223372036854775808 : Int)) (by omega) h1
    omega
  · have : a / b < 9223372036854775808 := by
      rw [Int.ediv_lt_iff_lt_mul (by omega)]
      have := Int.mul_le_mul_of_nonneg_left (c := (9223372036854775808 : Int)) h1 (by omega)
      omega
    omega
def c31 (d : Int) : Int := if d < -2147483647 then -2147483647 else if 2147483647 < d then 2147483647 else d
theorem c31_le (d : Int) : -2147483647 ≤ c31 d ∧ c31 d ≤ 2147483647 := by
  unfold c31
  repeat' split
  all_goals omega
theorem c31_neg (d : Int) : c31 (-d) = -c31 d := by unfold c31; repeat' split <;> omega
theorem sq_le {d m : Int} (h : -m ≤ d) (h2 : d ≤ m) : 0 ≤ d * d ∧ d * d ≤ m * m := by
  constructor
  · rcases Int.le_total 0 d with h3 | h3
    · exact Int.mul_nonneg h3 h3
    · exact Int.mul_nonneg_of_nonpos_of_nonpos h3 h3
  · rcases Int.le_total 0 d with h3 | h3
    · exact Int.mul_le_mul h2 h2 h3 (by omega)
    · have := Int.mul_le_mul (show -d ≤ m by omega) (show -d ≤ m by omega) (by omega) (by omega)
      rwa [Int.neg_mul_neg] at this
def dd (x y a b : Int) : Int := c31 (a - x) * c31 (a - x) + c31 (b - y) * c31 (b - y)
theorem dd_comm (x y a b : Int) : dd x y a b = dd a b x y := by
  unfold dd
  rw [show a - x = -(x - a) by omega, show b - y = -(y - b) by omega, c31_neg, c31_neg, Int.neg_mul_neg, Int.neg_mul_neg]
theorem dd_lt (x y a b : Int) : 0 ≤ dd x y a b ∧ dd x y a b ≤ 9223372028264841218 := by
  unfold dd
  have h1 := sq_le (c31_le (a - x)).1 (c31_le (a - x)).2
  have h2 := sq_le (c31_le (b - y)).1 (c31_le (b - y)).2
  omega
def wi (x y a b r : Int) : Bool := !decide (r < 0) && (decide (3037000500 ≤ r) || decide (dd x y a b ≤ r * r))
theorem wi_comm (x y a b r : Int) : wi x y a b r = wi a b x y r := by unfold wi; rw [dd_comm]

theorem less_f (a b : Int) (ha : I64 a) (hb : I64 b) : ∃ d, QQA.vec_less.f 1 a b = some d ∧ mn (mx d (-2147483647)) 2147483647 = c31 (a - b) := by
  unfold I64 at ha hb
  have e : (wrap64 (a - b) = a - b ∧ I64 (a - b)) ∨ (9223372036854775807 < a - b ∧ wrap64 (a - b) = a - b - 18446744073709551616) ∨ (a - b < -9223372036854775808 ∧ wrap64 (a - b) = a - b + 18446744073709551616) := by
    unfold I64 wrap64
    omega
  simp only [QQA.vec_less.f, QQA.vec_less.j0, decide_eq_true_eq, Bool.false_eq_true, if_false]
  unfold I64 at e
  refine ⟨if a ≥ 0 then (if b < 0 then (if wrap64 (a - b) < 0 then 9223372036854775807 else wrap64 (a - b)) else wrap64 (a - b)) else (if b > 0 then (if wrap64 (a - b) ≥ 0 then -9223372036854775808 else wrap64 (a - b)) else wrap64 (a - b)), ?_, ?_⟩
  · repeat' split
    all_goals first | rfl | (exfalso; omega) | (congr 1; omega)
  · unfold c31 mn mx
    repeat' split
    all_goals omega
theorem dist2_f (x y a b : Int) (hx : I64 x) (hy : I64 y) (ha : I64 a) (hb : I64 b) : QQA.vec_Dist2.f 1 x y a b = some (dd x y a b) := by
  obtain ⟨d1, e1, c1⟩ := less_f a x ha hx
  obtain ⟨d2, e2, c2⟩ := less_f b y hb hy
  simp only [QQA.vec_Dist2.f, QQA.vec_way.f, e1, e2, QQA.vec_within_int64.f, Option.bind_some, c1, c2]
  have h := dd_lt x y a b
  have h1 := sq_le (c31_le (a - x)).1 (c31_le (a - x)).2
  have h2 := sq_le (c31_le (b - y)).1 (c31_le (b - y)).2
  unfold dd at h ⊢
  rw [wrap_id (x := c31 (a - x) * c31 (a - x)) (by unfold I64; omega), wrap_id (x := c31 (b - y) * c31 (b - y)) (by unfold I64; omega), wrap_id (by unfold I64; omega)]
theorem within_f (x y a b r : Int) (hx : I64 x) (hy : I64 y) (ha : I64 a) (hb : I64 b) : QQA.vec_Within.f 1 x y a b r = some (wi x y a b r) := by
  unfold QQA.vec_Within.f wi
  by_cases h : r < 0
  · rw [if_pos h]; simp [h]
  · rw [if_neg h]
    by_cases h2 : r ≥ 3037000500
    · rw [if_pos h2]; simp [h, h2]
    · rw [if_neg h2, dist2_f x y a b hx hy ha hb]
      have h3 := sq_le (d := r) (m := 3037000499) (by omega) (by omega)
      rw [Option.bind_some, wrap_id (x := r * r) (by unfold I64; omega)]
      have : decide (r < 0) = false := by simp [h]
      have h4 : decide (3037000500 ≤ r) = false := by simp; omega
      rw [this, h4]
      simp

theorem rless_f (a b : Int) (ha : I64 a) (hb : I64 b) : QQA.joustref13_Less.f 1 a b 2147483647 = some (c31 (a - b)) := by
  unfold I64 at ha hb
  have e : (wrap64 (a - b) = a - b ∧ I64 (a - b)) ∨ (9223372036854775807 < a - b) ∨ (a - b < -9223372036854775808) := by
    unfold I64 wrap64
    omega
  have m1 : wrap64 (-2147483647) = -2147483647 := wrap_id (by unfold I64; omega)
  have m2 : b < 0 → wrap64 (9223372036854775807 + b) = 9223372036854775807 + b := fun h => wrap_id (by unfold I64; omega)
  have m3 : 0 < b → wrap64 (-9223372036854775808 + b) = -9223372036854775808 + b := fun h => wrap_id (by unfold I64; omega)
  simp only [QQA.joustref13_Less.f, QQA.joustref13_Less.j0, QQA.joustref13_keep.f, decide_eq_true_eq, Bool.false_eq_true, if_false, m1]
  unfold I64 at e
  unfold c31
  by_cases hb1 : b < 0
  · rw [m2 hb1]
    repeat' split
    all_goals first | (exfalso; omega) | (simp only [Option.bind_some, Option.some.injEq]; done) | (simp only [Option.bind_some, Option.some.injEq]; omega)
  · by_cases hb2 : 0 < b
    · rw [m3 hb2]
      repeat' split
      all_goals first | (exfalso; omega) | (simp only [Option.bind_some, Option.some.injEq]; done) | (simp only [Option.bind_some, Option.some.injEq]; omega)
    · repeat' split
      all_goals first | (exfalso; omega) | (simp only [Option.bind_some, Option.some.injEq]; done) | (simp only [Option.bind_some, Option.some.injEq]; omega)
theorem rdist2_f (x y a b : Int) (hx : I64 x) (hy : I64 y) (ha : I64 a) (hb : I64 b) : QQA.joustref13_Dist2.f 1 x y a b = some (dd a b x y) := by
  simp only [QQA.joustref13_Dist2.f, rless_f x a hx ha, rless_f y b hy hb, Option.bind_some]
  have h := dd_lt a b x y
  have h1 := sq_le (c31_le (x - a)).1 (c31_le (x - a)).2
  have h2 := sq_le (c31_le (y - b)).1 (c31_le (y - b)).2
  unfold dd at h ⊢
  rw [wrap_id (x := c31 (x - a) * c31 (x - a)) (by unfold I64; omega), wrap_id (x := c31 (y - b) * c31 (y - b)) (by unfold I64; omega), wrap_id (by unfold I64; omega)]
theorem rwithin_f (x y a b r : Int) (hx : I64 x) (hy : I64 y) (ha : I64 a) (hb : I64 b) : QQA.joustref13_Within.f 1 x y a b r = some (wi x y a b r) := by
  unfold QQA.joustref13_Within.f wi
  by_cases h : r < 0
  · rw [if_pos h]; simp [h]
  · rw [if_neg h]
    by_cases h2 : r ≥ 3037000500
    · rw [if_pos h2]; simp [h, h2]
    · rw [if_neg h2, rdist2_f x y a b hx hy ha hb, dd_comm]
      have h3 := sq_le (d := r) (m := 3037000499) (by omega) (by omega)
      rw [Option.bind_some, wrap_id (x := r * r) (by unfold I64; omega)]
      have : decide (r < 0) = false := by simp [h]
      have h4 : decide (3037000500 ≤ r) = false := by simp; omega
      rw [this, h4]
      simp

theorem side_f (n : Int) (hn : I64 n) : ∃ s, QQA.joustlaw20_side.f n = some s ∧ 1 ≤ s ∧ s ≤ 1099511627776 := by
  unfold QQA.joustlaw20_side.f
  have t2 := Int.tmod_lt_of_pos n (show (0 : Int) < 1099511627776 by omega)
  have t1 := Int.lt_tmod_of_pos n (show (0 : Int) < 1099511627776 by omega)
  by_cases h : Int.tmod n 1099511627776 < 0
  · rw [if_pos h, wrap_id (x := Int.tmod n 1099511627776 + 1099511627776) (by unfold I64; omega), wrap_id (by unfold I64; omega)]
    exact ⟨_, rfl, by omega, by omega⟩
  · rw [if_neg h, wrap_id (by unfold I64; omega)]
    exact ⟨_, rfl, by omega, by omega⟩

theorem sqlt {r c : Int} (h0 : 0 ≤ r) (h : r < c) : r * r < c * c := by
  have h1 := Int.mul_le_mul_of_nonneg_left (Int.le_of_lt h) h0
  have h2 := Int.mul_lt_mul_of_pos_right h (show 0 < c by omega)
  omega
/-- What is within lies, part by part, within. -/
theorem wi_part {x y a b r : Int} (h : wi x y a b r = true) (hr : r < 2147483647) : (a - x ≤ r ∧ -r ≤ a - x) ∧ (b - y ≤ r ∧ -r ≤ b - y) ∧ 0 ≤ r := by
  unfold wi at h
  simp only [Bool.and_eq_true, Bool.not_eq_true', decide_eq_false_iff_not, Bool.or_eq_true, decide_eq_true_eq] at h
  have h0 : 0 ≤ r := by omega
  have h1 : dd x y a b ≤ r * r := by
    rcases h.2 with h | h
    · omega
    · exact h
  have part : ∀ d e : Int, 0 ≤ e * e → c31 d * c31 d + e * e ≤ r * r → d ≤ r ∧ -r ≤ d := by
    intro d e he hd
    have hs : c31 d * c31 d ≤ r * r := by omega
    have hc : c31 d ≤ r ∧ -r ≤ c31 d := by
      constructor
      · rcases lt_ge r (c31 d) with h | h
        · have := sqlt h0 h; omega
        · exact h
      · rcases lt_ge (c31 d) (-r) with h | h
        · have := sqlt h0 (show r < -c31 d by omega)
          rw [Int.neg_mul_neg] at this
          omega
        · exact h
    unfold c31 at hc
    split at hc
    · omega
    · split at hc
      · omega
      · exact hc
  unfold dd at h1
  exact ⟨part _ _ (sq_le (c31_le (b - y)).1 (c31_le (b - y)).2).1 h1, part _ _ (sq_le (c31_le (a - x)).1 (c31_le (a - x)).2).1 (by omega), h0⟩
end Go.Proofs.Ytggmfmlfkhcbdaa.Gr
