/- The pure side of NameCuts. -/
import Derived.Test.YtlmbkliieckakaaDoorQA9
import Derived.Test.YtlmbkliieckakaaDoorNmP1
import Derived.Test.YtlmbkliieckakaaDoorNmI
set_option linter.unusedVariables false
namespace Go.Proofs.YtlmbkliieckakaaDoor.Nm
open Go QA Go.RowKit Go.Proofs.YtlmbkliieckakaaDoorW.PrintWords

theorem Cut_f {a : ByteArray} {n : Int} (h : a.size ≤ 140737488351232) (h1 : -9223372036854775808 ≤ n) (h2 : n ≤ 9223372036854775807) : name_Cut.f a n = some (cut a n) := if_pos ⟨h, h1, h2⟩
theorem Pad_f {a : ByteArray} {n : Int} (h : a.size ≤ 140737488351232) (h1 : -9223372036854775808 ≤ n) (h2 : n ≤ 9223372036854775807) : name_Pad.f a n = some (pad a n) := if_pos ⟨h, h1, h2⟩

theorem bt_bAt (s : ByteArray) (i : Nat) (h : i < s.size) : bt s (i : Int) = bAt s i := by
  unfold bt
  rw [dif_pos (show ((i : Int).toNat) < s.size by simpa using h), bAt_ge h]
  simp

theorem wrap_id {x : Int} (h : -9223372036854775808 ≤ x) (h2 : x ≤ 9223372036854775807) : wrap64 x = x := by unfold wrap64; omega

theorem cuts_l0 (p : ByteArray) (hp : p.size ≤ 140737488351232) : ∀ (d k i : Nat), i + d = p.size → d < k → (∀ j, i ≤ j → j < p.size → bAt p j = 32) → joustlaw06_NameCuts.l0 k p (i : Int) = some true
  | 0, k, i, h, hk, hb => by
    obtain ⟨k, rfl⟩ : ∃ m, k = m + 1 := ⟨k - 1, by omega⟩
    simp only [joustlaw06_NameCuts.l0]
    rw [if_neg (by omega)]
  | d + 1, k, i, h, hk, hb => by
    obtain ⟨k, rfl⟩ : ∃ m, k = m + 1 := ⟨k - 1, by omega⟩
    simp only [joustlaw06_NameCuts.l0]
    rw [if_pos (by omega), if_pos (by omega), bt_bAt p i (by omega), hb i (by omega) (by omega), if_pos (by decide), wrap_id (by omega) (by omega)]
    exact cuts_l0 p hp d k (i + 1) (by omega) (by omega) (fun j h1 h2 => hb j (by omega) h2)

theorem toList_inj {s t : ByteArray} (h : s = t) : s.toList = t.toList := by rw [h]

theorem cuts_pure (a : ByteArray) (n m : Int) (ha : a.size ≤ 140737488351232) (hn : (Lit.int .i64 n).wf = true) (hm : (Lit.int .i64 m).wf = true) : ∃ k, joustlaw06_NameCuts.f k a n m = some true := by
  have hn' : -9223372036854775808 ≤ n ∧ n ≤ 9223372036854775807 := by simpa [Lit.wf, IntKind.min, IntKind.max, IntKind.signed, IntKind.bits] using hn
  have hm' : -9223372036854775808 ≤ m ∧ m ≤ 9223372036854775807 := by simpa [Lit.wf, IntKind.min, IntKind.max, IntKind.signed, IntKind.bits] using hm
  have hc := cut_size_le a n
  have hall : (runesOf a).length ≤ a.size := by rw [← runeCount_eq]; exact Lib.runeCount_le a
  -- the last part: Pad
  have hkb := kept_bd n
  obtain ⟨K, hK⟩ : ∃ K, kept n = K := ⟨_, rfl⟩
  rw [hK] at hkb
  have hsh := cut_short a K
  have hlc := runesOf_len_cut a K
  have hpe : pad a n = cut a K ++ blanks (K.toNat - (runesOf (cut a K)).length) := by rw [pad_eq, hK]
  have hps : (pad a n).size = (cut a K).size + (K.toNat - (runesOf (cut a K)).length) := by rw [hpe, ByteArray.size_append, blanks_size]
  have hpr : ((runesOf (pad a n)).length : Int) = K := by rw [hpe, runesOf_blanks]; omega
  have hpb : ∀ j, (cut a K).size ≤ j → j < (pad a n).size → bAt (pad a n) j = 32 := by
    intro j h1 h2
    rw [hpe, bAt_right _ _ j h1 (by rw [blanks_size]; omega), bAt_blanks _ _ (by omega)]
  have hp1 : (pad a n).size ≤ 20480 := by omega
  have hpx : (pad a n).extract 0 (cut a K).size = cut a K := by
    apply bytes_ext
    · rw [ByteArray.size_extract]; omega
    · intro i hi
      rw [ByteArray.size_extract] at hi
      rw [bAt_extract _ 0 _ i (by omega) (by omega), Nat.zero_add, hpe, bAt_left _ _ i (by omega)]
  have hj6 : ∀ k, 20481 < k → joustlaw06_NameCuts.j6 k (cut a K) (pad a n) false = some true := by
    intro k hk
    obtain ⟨k, rfl⟩ : ∃ m, k = m + 1 := ⟨k - 1, by omega⟩
    simp only [joustlaw06_NameCuts.j6]
    rw [if_neg (by decide)]
    exact cuts_l0 (pad a n) (by omega) ((pad a n).size - (cut a K).size) k (cut a K).size (by omega) (by omega) hpb
  have hj5 : ∀ k, 20482 < k → joustlaw06_NameCuts.j5 k a (pad a n) K = some true := by
    intro k hk
    obtain ⟨k, rfl⟩ : ∃ m, k = m + 1 := ⟨k - 1, by omega⟩
    simp only [joustlaw06_NameCuts.j5]
    have hcK := cut_size_le a K
    rw [Cut_f ha (by omega) (by omega), Option.bind_some, Runes_f (by omega), Option.bind_some, if_pos hpr, if_neg (by omega), if_pos (by omega), if_pos (by omega), Int.toNat_natCast, hpx, if_pos rfl, Runes_f (by omega), Option.bind_some,
      wrap_id (by omega) (by omega), wrap_id (by omega) (by omega)]
    have e : ((pad a n).size : Int) - (cut a K).size = K - ((runesOf (cut a K)).length : Int) := by omega
    rw [e]
    simp only [bne_self_eq_false]
    exact hj6 k (by omega)
  have hj4 : ∀ k, 20483 < k → (if n < 0 then joustlaw06_NameCuts.j4 k a (pad a n) 0 else joustlaw06_NameCuts.j4 k a (pad a n) n) = some true := by
    intro k hk
    obtain ⟨k, rfl⟩ : ∃ m, k = m + 1 := ⟨k - 1, by omega⟩
    have h5 := hj5 k (by omega)
    unfold kept at hK
    by_cases h0 : n < 0
    · rw [if_pos h0] at hK ⊢
      subst hK
      simp only [joustlaw06_NameCuts.j4]
      rw [if_neg (by decide)]
      exact h5
    · rw [if_neg h0] at hK ⊢
      simp only [joustlaw06_NameCuts.j4]
      by_cases h1 : 4096 < n
      · rw [if_pos h1] at hK
        rw [if_pos h1, hK]
        exact h5
      · rw [if_neg h1] at hK
        subst hK
        rw [if_neg h1]
        exact h5
  have hj3 : ∀ k, 20484 < k → joustlaw06_NameCuts.j3 k a n m (cut a n) (if m < n then m else n) = some true := by
    intro k hk
    obtain ⟨k, rfl⟩ : ∃ m, k = m + 1 := ⟨k - 1, by omega⟩
    simp only [joustlaw06_NameCuts.j3]
    rw [Cut_f (by omega) hm'.1 hm'.2, Option.bind_some, Cut_f (n := if m < n then m else n) ha (by split <;> omega) (by split <;> omega), Option.bind_some, cut_cut, if_pos rfl, Pad_f ha hn'.1 hn'.2, Option.bind_some]
    exact hj4 k (by omega)
  have hj2 : ∀ k, 20485 < k → joustlaw06_NameCuts.j2 k a n m (cut a n) false = some true := by
    intro k hk
    obtain ⟨k, rfl⟩ : ∃ m, k = m + 1 := ⟨k - 1, by omega⟩
    simp only [joustlaw06_NameCuts.j2]
    rw [if_neg (by decide)]
    have h3 := hj3 k (by omega)
    by_cases h : m < n
    · rw [if_pos h] at h3 ⊢; exact h3
    · rw [if_neg h] at h3 ⊢; exact h3
  have hlen := runesOf_len_cut a n
  have hj1 : ∀ k w, 20486 < k → w = (((runesOf (cut a n)).length : Nat) : Int) → joustlaw06_NameCuts.j1 k a n m (cut a n) ((runesOf a).length : Int) w = some true := by
    rintro k w hk rfl
    obtain ⟨k, rfl⟩ : ∃ m, k = m + 1 := ⟨k - 1, by omega⟩
    simp only [joustlaw06_NameCuts.j1]
    rw [if_neg (by omega), if_pos (by omega), if_pos (by omega), Int.toNat_natCast, cut_begins, if_pos rfl, Runes_f (by omega), Option.bind_some, if_pos rfl]
    have h2 := hj2 k (by omega)
    by_cases h : n ≥ ((runesOf a).length : Int)
    · rw [if_pos h, cut_all a n h]
      rw [cut_all a n h] at h2
      simp only [bne_self_eq_false]
      exact h2
    · rw [if_neg h]; exact h2
  refine ⟨20490, ?_⟩
  unfold joustlaw06_NameCuts.f
  rw [alive_true, Option.bind_some, if_pos rfl, Cut_f ha hn'.1 hn'.2, Option.bind_some, Runes_f ha, Option.bind_some]
  by_cases h0 : n < 0
  · rw [if_pos h0]
    simp only [joustlaw06_NameCuts.j0]
    rw [if_neg (by omega)]
    exact hj1 _ _ (by omega) (by omega)
  · rw [if_neg h0]
    simp only [joustlaw06_NameCuts.j0]
    by_cases h1 : n > ((runesOf a).length : Int)
    · rw [if_pos h1]; exact hj1 _ _ (by omega) (by omega)
    · rw [if_neg h1]; exact hj1 _ _ (by omega) (by omega)
end Go.Proofs.YtlmbkliieckakaaDoor.Nm
