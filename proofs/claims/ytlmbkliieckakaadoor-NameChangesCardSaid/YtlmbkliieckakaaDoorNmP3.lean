/- The pure side of NameNear. -/
import Derived.Test.YtlmbkliieckakaaDoorQA10
import Derived.Test.YtlmbkliieckakaaDoorNmP0
import Derived.Test.YtlmbkliieckakaaDoorNmK
set_option linter.unusedVariables false
namespace Go.Proofs.YtlmbkliieckakaaDoor.Nm
open Go QA Go.RowKit Go.Proofs.YtlmbkliieckakaaDoorW.PrintWords

theorem less_f (n : Int) : joustlaw06_less.f n = some (mn 8 n) := by
  unfold joustlaw06_less.f mn
  split
  · rw [if_neg (by omega)]
  · by_cases h : n < 8
    · rw [if_pos h]
    · rw [if_neg h]; congr 1; omega

theorem odd_f (s : ByteArray) (hs : 0 < s.size) : joustlaw06_odd.f (cut s 1) = some (decide ((Utf8.decode s 0).1 = 65533)) := by
  have fs := decode_fits s 0 hs
  have hwd := Lib.decode_width_pos s 0 hs
  have hsz : (cut s 1).size = (Utf8.decode s 0).2 := by rw [cut_one s hs, ByteArray.size_extract]; omega
  have hi := odd_iff s hs
  have hb0 : bt (cut s 1) 0 = bAt (cut s 1) 0 := bt_bAt (cut s 1) 0 (by omega)
  have key : ∀ b : Bool, (b = true ↔ (Utf8.decode s 0).1 = 65533) → b = decide ((Utf8.decode s 0).1 = 65533) := by
    intro b h
    rw [Bool.eq_iff_iff, h, decide_eq_true_eq]
  unfold joustlaw06_odd.f
  by_cases h1 : ((cut s 1).size : Int) = 1
  · rw [if_pos h1, if_pos (by omega), hb0]
    by_cases h2 : (bAt (cut s 1) 0 : Int) ≥ 128
    · rw [if_pos h2]
      congr 1
      exact key true ⟨fun _ => hi.1 (Or.inl ⟨by omega, by omega⟩), fun _ => rfl⟩
    · rw [if_neg h2]
      congr 1
      refine key _ ⟨fun h => hi.1 (Or.inr (by simpa using h)), fun h => ?_⟩
      rcases hi.2 h with h | h
      · omega
      · simpa using h
  · rw [if_neg h1]
    congr 1
    refine key _ ⟨fun h => hi.1 (Or.inr (by simpa using h)), fun h => ?_⟩
    rcases hi.2 h with h | h
    · omega
    · simpa using h

theorem alike_l0 : ∀ (L k : Nat) (a b : ByteArray), a.size ≤ 140737488351232 → b.size ≤ 140737488351232 → (nums a).length = L → (nums b).length = L → 2 * L + 2 < k → joustlaw06_alike.l0 k a b = some (decide (nums a = nums b))
  | 0, k, a, b, ha, hb, hla, hlb, hk => by
    have ea : a.size = 0 := by
      rcases Nat.eq_zero_or_pos a.size with h | h
      · exact h
      · rw [nums_cons a h] at hla; simp at hla
    have eb : b.size = 0 := by
      rcases Nat.eq_zero_or_pos b.size with h | h
      · exact h
      · rw [nums_cons b h] at hlb; simp at hlb
    obtain ⟨k, rfl⟩ : ∃ m, k = m + 2 := ⟨k - 2, by omega⟩
    simp only [joustlaw06_alike.l0]
    rw [if_neg (by omega)]
    simp only [joustlaw06_alike.j1]
    rw [if_neg (by decide), nums_nil ea, nums_nil eb, ea, eb]
    rfl
  | L + 1, k, a, b, ha, hb, hla, hlb, hk => by
    have pa : 0 < a.size := by
      rcases Nat.eq_zero_or_pos a.size with h | h
      · rw [nums_nil h] at hla; simp at hla
      · exact h
    have pb : 0 < b.size := by
      rcases Nat.eq_zero_or_pos b.size with h | h
      · rw [nums_nil h] at hlb; simp at hlb
      · exact h
    have fa := decode_fits a 0 pa
    have fb := decode_fits b 0 pb
    have wa := Lib.decode_width_pos a 0 pa
    have wb := Lib.decode_width_pos b 0 pb
    have sa : (cut a 1).size = (Utf8.decode a 0).2 := by rw [cut_one a pa, ByteArray.size_extract]; omega
    have sb : (cut b 1).size = (Utf8.decode b 0).2 := by rw [cut_one b pb, ByteArray.size_extract]; omega
    have ca := nums_cons a pa
    have cb := nums_cons b pb
    rw [← sa] at ca
    rw [← sb] at cb
    have ra := rest_size a (cut a 1).size
    have rb := rest_size b (cut b 1).size
    obtain ⟨k, rfl⟩ : ∃ m, k = m + 2 := ⟨k - 2, by omega⟩
    have ih := alike_l0 L k (a.extract (cut a 1).size a.size) (b.extract (cut b 1).size b.size) (by omega) (by omega) (by rw [ca] at hla; simpa using hla) (by rw [cb] at hlb; simpa using hlb) (by omega)
    simp only [joustlaw06_alike.l0]
    rw [if_pos (by omega), decide_eq_true (by omega)]
    simp only [joustlaw06_alike.j1]
    rw [if_pos trivial, Cut_f ha (by omega) (by omega), Option.bind_some, Cut_f hb (by omega) (by omega), Option.bind_some, if_neg (by omega), if_neg (by omega)]
    have hgo : (if 0 ≤ ((cut a 1).size : Int) then (if ((cut a 1).size : Int) ≤ (a.size : Int) then (if 0 ≤ ((cut b 1).size : Int) then (if ((cut b 1).size : Int) ≤ (b.size : Int) then (joustlaw06_alike.l0 k (a.extract (((cut a 1).size : Int) : Int).toNat a.size) (b.extract (((cut b 1).size : Int) : Int).toNat b.size)) else (none)) else (none)) else (none)) else (none)) =
        some (decide (nums (a.extract (cut a 1).size a.size) = nums (b.extract (cut b 1).size b.size))) := by
      rw [if_pos (by omega), if_pos (by omega), if_pos (by omega), if_pos (by omega), Int.toNat_natCast, Int.toNat_natCast]
      exact ih
    have hhead : ∀ h : (Utf8.decode a 0).1 = (Utf8.decode b 0).1, decide (nums a = nums b) = decide (nums (a.extract (cut a 1).size a.size) = nums (b.extract (cut b 1).size b.size)) := by
      intro h
      rw [ca, cb, h, Bool.eq_iff_iff, decide_eq_true_eq, decide_eq_true_eq]
      simp
    have hdiff : ∀ h : (Utf8.decode a 0).1 ≠ (Utf8.decode b 0).1, decide (nums a = nums b) = false := by
      intro h
      rw [ca, cb]
      apply decide_eq_false
      intro e
      exact h (by have := (List.cons.inj e).1; omega)
    by_cases he : (cut a 1).toList = (cut b 1).toList
    · rw [if_pos he, hgo, hhead (first_of_cut pa pb (toList_eq_iff.1 he))]
    · rw [if_neg he, odd_f a pa, Option.bind_some]
      by_cases o1 : (Utf8.decode a 0).1 = 65533
      · rw [if_pos (decide_eq_true o1), odd_f b pb, Option.bind_some]
        by_cases o2 : (Utf8.decode b 0).1 = 65533
        · rw [if_pos (decide_eq_true o2), hgo, hhead (by rw [o1, o2])]
        · rw [if_neg (by rw [decide_eq_false o2]; decide), hdiff (by rw [o1]; exact fun h => o2 h.symm)]
      · rw [if_neg (by rw [decide_eq_false o1]; decide), hdiff]
        intro h
        exact he (toList_eq_iff.2 (first_same pa pb h o1))

theorem nums_len (s : ByteArray) : (nums s).length = (runesOf s).length := by simp [nums]

theorem alike_f (a b : ByteArray) (ha : a.size ≤ 140737488351232) (hb : b.size ≤ 140737488351232) (k : Nat) (hk : 2 * a.size + 3 < k) : joustlaw06_alike.f k a b = some (decide (nums a = nums b)) := by
  have h1 := nums_le a
  unfold joustlaw06_alike.f
  rw [Runes_f ha, Option.bind_some, Runes_f hb, Option.bind_some]
  by_cases h : ((runesOf a).length : Int) = ((runesOf b).length : Int)
  · rw [if_pos h]
    have := nums_len a; have := nums_len b
    exact alike_l0 (nums a).length k a b ha hb rfl (by omega) (by omega)
  · rw [if_neg h]
    congr 1
    symm
    apply decide_eq_false
    intro e
    have q1 := nums_len a
    have q2 := nums_len b
    rw [e] at q1
    omega

theorem near_pure (a b c : ByteArray) (ha : a.size ≤ 140737488351232) (hb : b.size ≤ 140737488351232) (hc : c.size ≤ 140737488351232) : ∃ k, joustlaw06_NameNear.f k a b c = some true := by
  refine ⟨6020, ?_⟩
  unfold joustlaw06_NameNear.f
  rw [alive_true, Option.bind_some, if_pos rfl, wrap_id (x := (a.size : Int) + b.size) (by omega) (by omega), wrap_id (by omega) (by omega)]
  simp only [joustlaw06_NameNear.j0]
  by_cases h : (a.size : Int) + b.size + c.size > 3000
  · rw [if_pos (decide_eq_true h), alive_true]; rfl
  rw [if_neg (by rw [decide_eq_false h]; decide), Near_f (by omega) (by omega), Option.bind_some, Runes_f ha, Option.bind_some, Runes_f hb, Option.bind_some]
  have na := nums_len a; have nb := nums_len b
  have la := nums_le a; have lb := nums_le b
  have hbd := near_bd (nums a) (nums b)
  have hsy := near_symm (nums a) (nums b)
  have hz := near_zero (nums a) (nums b)
  have hj2 : ∀ k, joustlaw06_NameNear.j2 (k + 1) a b c (near a b) false = some true := by
    intro k
    simp only [joustlaw06_NameNear.j2]
    have hb2 := near_bd (nums b) (nums c)
    have ht := near_tri (nums a) (nums b) (nums c)
    have h8 := near_bd (nums a) (nums c)
    rw [if_neg (by decide), Near_f (by omega) (by omega), Option.bind_some, Near_f (by omega) (by omega), Option.bind_some, wrap_id (by unfold near; omega) (by unfold near; omega), less_f, Option.bind_some, if_pos (by unfold near mn; split <;> omega), Near_f (by omega) (by omega), Option.bind_some]
    rw [show near a a = 0 from (near_zero _ _).2 rfl]
    rfl
  have hj1 : ∀ (k : Nat) (p q : Int), 6010 < k → 0 ≤ q → q ≤ p → p ≤ 3000 → mn 8 (p - q) ≤ near a b → near a b ≤ mn 8 p → joustlaw06_NameNear.j1 k a b c (near a b) p q = some true := by
    intro k p q hk h0 h1 h2 hlo hhi
    obtain ⟨k, rfl⟩ : ∃ m, k = m + 2 := ⟨k - 2, by omega⟩
    simp only [joustlaw06_NameNear.j1]
    rw [wrap_id (by omega) (by omega), less_f, Option.bind_some, if_neg (by omega), less_f, Option.bind_some, if_neg (by omega), Near_f (by omega) (by omega), Option.bind_some, if_pos (by unfold near; exact hsy), alike_f a b ha hb _ (by omega), Option.bind_some]
    have : ((near a b == 0) != decide (nums a = nums b)) = false := by
      rw [bne_eq_false_iff_eq, Bool.eq_iff_iff, beq_iff_eq, decide_eq_true_eq]
      exact hz
    rw [this]
    exact hj2 k
  have hge := near_ge (nums a) (nums b)
  have hge2 := near_ge (nums b) (nums a)
  rw [← hsy] at hge2
  have hle := near_le (nums a) (nums b) (Ed.most (nums a) (nums b))
  have hcomm : ∀ x : Int, mn 8 x = mn x 8 := by intro x; unfold mn; split <;> split <;> omega
  have hmono : ∀ x : Int, near a b ≤ x → near a b ≤ mn 8 x := by
    intro x hx; unfold mn near at *; split <;> omega
  by_cases hbig : ((runesOf b).length : Int) > (runesOf a).length
  · rw [if_pos hbig]
    refine hj1 _ _ _ (by omega) (by omega) (by omega) (by omega) ?_ (hmono _ (by unfold near; omega))
    rw [hcomm, ← na, ← nb]; exact hge2
  · rw [if_neg hbig]
    refine hj1 _ _ _ (by omega) (by omega) (by omega) (by omega) ?_ (hmono _ (by unfold near; omega))
    rw [hcomm, ← na, ← nb]; exact hge
end Go.Proofs.YtlmbkliieckakaaDoor.Nm
