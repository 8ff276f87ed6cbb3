/- The runes of a folded text; Fold of Fold; a name's Fold. Plain Lean. -/
import Derived.Test.YtlmbkliieckakaaDoorNmF
import Derived.Test.YtlmbkliieckakaaDoorNm4
set_option linter.unusedVariables false
namespace Go.Proofs.YtlmbkliieckakaaDoor.Nm
open Go

/-- A rune's small one. -/
def low (c : Nat) : Nat := if bigB c then c + 32 else c

theorem low_big {c : Nat} (h : (65 ≤ c ∧ c ≤ 90) ∨ (192 ≤ c ∧ c ≤ 214) ∨ (216 ≤ c ∧ c ≤ 222)) : low c = c + 32 := by
  unfold low; rw [if_pos ((bigB_iff _).2 (by omega))]
theorem low_not {c : Nat} (h : ¬ ((65 ≤ c ∧ c ≤ 90) ∨ (192 ≤ c ∧ c ≤ 214) ∨ (216 ≤ c ∧ c ≤ 222))) : low c = c := by
  unfold low
  rw [if_neg]
  intro hb
  exact h (by have := (bigB_iff (c : Int)).1 hb; omega)

theorem fb_cases (s : ByteArray) (i : Nat) : (65 ≤ bAt s i ∧ bAt s i ≤ 90 ∧ fb s i = bAt s i + 32) ∨ (0 < i ∧ bAt s (i - 1) = 195 ∧ 128 ≤ bAt s i ∧ bAt s i ≤ 158 ∧ bAt s i ≠ 151 ∧ fb s i = bAt s i + 32) ∨
    (¬ (65 ≤ bAt s i ∧ bAt s i ≤ 90) ∧ ¬ (0 < i ∧ bAt s (i - 1) = 195 ∧ 128 ≤ bAt s i ∧ bAt s i ≤ 158 ∧ bAt s i ≠ 151) ∧ fb s i = bAt s i) := by
  unfold fb
  by_cases h1 : 65 ≤ bAt s i ∧ bAt s i ≤ 90
  · rw [if_pos h1]; exact Or.inl ⟨h1.1, h1.2, rfl⟩
  · rw [if_neg h1]
    by_cases h2 : 0 < i ∧ bAt s (i - 1) = 195 ∧ 128 ≤ bAt s i ∧ bAt s i ≤ 158 ∧ bAt s i ≠ 151
    · rw [if_pos h2]; exact Or.inr (Or.inl ⟨h2.1, h2.2.1, h2.2.2.1, h2.2.2.2.1, h2.2.2.2.2, rfl⟩)
    · rw [if_neg h2]; exact Or.inr (Or.inr ⟨h1, h2, rfl⟩)

/-- A lead byte stands as it is; a byte that goes on does so still; and is the same, where C3 is not ahead. -/
theorem fb_lead {s : ByteArray} {i : Nat} (h : 192 ≤ fb s i) : bAt s i = fb s i := by
  rcases fb_cases s i with ⟨a, b, e⟩ | ⟨_, _, a, b, _, e⟩ | ⟨_, _, e⟩ <;> omega
theorem fb_cont {s : ByteArray} {i : Nat} (h : fb s i / 64 = 2) : bAt s i / 64 = 2 := by
  rcases fb_cases s i with ⟨a, b, e⟩ | ⟨_, _, a, b, _, e⟩ | ⟨_, _, e⟩ <;> omega
theorem fb_cont_same {s : ByteArray} {i : Nat} (h : fb s i / 64 = 2) (h' : bAt s (i - 1) ≠ 195) : bAt s i = fb s i := by
  rcases fb_cases s i with ⟨a, b, e⟩ | ⟨_, a, _⟩ | ⟨_, _, e⟩ <;> omega
theorem fb_ascii {s : ByteArray} {i : Nat} (h : fb s i < 128) : bAt s i < 128 := by
  rcases fb_cases s i with ⟨a, b, e⟩ | ⟨_, _, a, b, _, e⟩ | ⟨_, _, e⟩ <;> omega

theorem enc_fold {s : ByteArray} {p c w : Nat} (h : Enc s p c w) : Enc (fold s) p (low c) w := by
  have hle := enc_le h
  have hF : ∀ i, i < s.size → bAt (fold s) i = fb s i := fold_at s
  rcases h with ⟨rfl, h1, hp, e0⟩ | ⟨rfl, h1, h2, hp, e0, e1⟩ | ⟨rfl, h1, h2, h3, hp, e0, e1, e2⟩ | ⟨rfl, h1, h2, hp, e0, e1, e2, e3⟩
  · by_cases hb : 65 ≤ c ∧ c ≤ 90
    · rw [low_big (Or.inl hb)]
      exact Or.inl ⟨rfl, by omega, by rw [fold_size]; exact hp, by rw [hF p hp, fb_big1 (by omega), e0]⟩
    · rw [low_not (by omega)]
      exact Or.inl ⟨rfl, by omega, by rw [fold_size]; exact hp, by rw [hF p hp, fb_same (by omega) (by omega), e0]⟩
  · have f0 : fb s p = bAt s p := fb_same (by omega) (by omega)
    by_cases hb : (192 ≤ c ∧ c ≤ 214) ∨ (216 ≤ c ∧ c ≤ 222)
    · rw [low_big (Or.inr hb)]
      refine Or.inr (Or.inl ⟨rfl, by omega, by omega, by rw [fold_size]; exact hp, by rw [hF p (by omega), f0]; omega, ?_⟩)
      rw [hF (p + 1) hp, fb_big2 (by rw [show p + 1 - 1 = p by omega]; omega), e1]
      omega
    · rw [low_not (by omega)]
      refine Or.inr (Or.inl ⟨rfl, by omega, by omega, by rw [fold_size]; exact hp, by rw [hF p (by omega), f0]; omega, ?_⟩)
      rw [hF (p + 1) hp, fb_same (by omega) (by rw [show p + 1 - 1 = p by omega]; omega), e1]
  · rw [low_not (by omega)]
    have f0 : fb s p = bAt s p := fb_same (by omega) (by omega)
    have f1 : fb s (p + 1) = bAt s (p + 1) := fb_same (by omega) (by rw [show p + 1 - 1 = p by omega]; omega)
    have f2 : fb s (p + 2) = bAt s (p + 2) := fb_same (by omega) (by rw [show p + 2 - 1 = p + 1 by omega]; omega)
    exact Or.inr (Or.inr (Or.inl ⟨rfl, h1, h2, h3, by rw [fold_size]; exact hp, by rw [hF p (by omega), f0, e0], by rw [hF (p + 1) (by omega), f1, e1], by rw [hF (p + 2) (by omega), f2, e2]⟩))
  · rw [low_not (by omega)]
    have f0 : fb s p = bAt s p := fb_same (by omega) (by omega)
    have f1 : fb s (p + 1) = bAt s (p + 1) := fb_same (by omega) (by rw [show p + 1 - 1 = p by omega]; omega)
    have f2 : fb s (p + 2) = bAt s (p + 2) := fb_same (by omega) (by rw [show p + 2 - 1 = p + 1 by omega]; omega)
    have f3 : fb s (p + 3) = bAt s (p + 3) := fb_same (by omega) (by rw [show p + 3 - 1 = p + 2 by omega]; omega)
    exact Or.inr (Or.inr (Or.inr ⟨rfl, h1, h2, by rw [fold_size]; exact hp, by rw [hF p (by omega), f0, e0], by rw [hF (p + 1) (by omega), f1, e1], by rw [hF (p + 2) (by omega), f2, e2], by rw [hF (p + 3) (by omega), f3, e3]⟩))

/-- Where the folded text has a rune, the text has one. -/
theorem enc_of_fold {s : ByteArray} {p c w : Nat} (h : Enc (fold s) p c w) : ∃ c', Enc s p c' w := by
  have hF : ∀ i, i < s.size → bAt (fold s) i = fb s i := fold_at s
  have hsz := fold_size s
  rcases h with ⟨rfl, h1, hp, e0⟩ | ⟨rfl, h1, h2, hp, e0, e1⟩ | ⟨rfl, h1, h2, h3, hp, e0, e1, e2⟩ | ⟨rfl, h1, h2, hp, e0, e1, e2, e3⟩ <;> rw [hsz] at hp
  · rw [hF p hp] at e0
    exact ⟨bAt s p, Or.inl ⟨rfl, fb_ascii (by omega), hp, rfl⟩⟩
  · rw [hF p (by omega)] at e0
    rw [hF (p + 1) hp] at e1
    have g0 := fb_lead (s := s) (i := p) (by omega)
    have g1 := fb_cont (s := s) (i := p + 1) (by omega)
    refine ⟨(bAt s p - 192) * 64 + (bAt s (p + 1) - 128), Or.inr (Or.inl ⟨rfl, by omega, by omega, hp, by omega, by omega⟩)⟩
  · rw [hF p (by omega)] at e0
    rw [hF (p + 1) (by omega)] at e1
    rw [hF (p + 2) hp] at e2
    have g0 := fb_lead (s := s) (i := p) (by omega)
    have g1 := fb_cont_same (s := s) (i := p + 1) (by omega) (by rw [show p + 1 - 1 = p by omega]; omega)
    have g2 := fb_cont_same (s := s) (i := p + 2) (by omega) (by rw [show p + 2 - 1 = p + 1 by omega]; omega)
    exact ⟨c, Or.inr (Or.inr (Or.inl ⟨rfl, h1, h2, h3, hp, by omega, by omega, by omega⟩))⟩
  · rw [hF p (by omega)] at e0
    rw [hF (p + 1) (by omega)] at e1
    rw [hF (p + 2) (by omega)] at e2
    rw [hF (p + 3) hp] at e3
    have g0 := fb_lead (s := s) (i := p) (by omega)
    have g1 := fb_cont_same (s := s) (i := p + 1) (by omega) (by rw [show p + 1 - 1 = p by omega]; omega)
    have g2 := fb_cont_same (s := s) (i := p + 2) (by omega) (by rw [show p + 2 - 1 = p + 1 by omega]; omega)
    have g3 := fb_cont_same (s := s) (i := p + 3) (by omega) (by rw [show p + 3 - 1 = p + 2 by omega]; omega)
    exact ⟨c, Or.inr (Or.inr (Or.inr ⟨rfl, h1, h2, hp, by omega, by omega, by omega, by omega⟩))⟩

theorem decode_fold (s : ByteArray) (p : Nat) (hp : p < s.size) : Utf8.decode (fold s) p = (low (Utf8.decode s p).1, (Utf8.decode s p).2) := by
  rcases enc_or s p hp with he | ⟨he, hb⟩
  · exact decode_of_enc (enc_fold he)
  · rw [he]
    rcases enc_or (fold s) p (by rw [fold_size]; exact hp) with h2 | ⟨h2, _⟩
    · obtain ⟨c', h'⟩ := enc_of_fold h2
      exact absurd h' (not_enc he _ _)
    · rw [h2]; rfl

theorem runesFrom_fold (s : ByteArray) : ∀ (f p : Nat), runesFrom (fold s) f p = (runesFrom s f p).map fun r => (r.1, low r.2.1, r.2.2)
  | 0, _ => rfl
  | f + 1, p => by
    by_cases hp : p < s.size
    · rw [runesFrom_step s f p hp, runesFrom_step _ f p (by rw [fold_size]; exact hp), decode_fold s p hp, List.map_cons, runesFrom_fold s f]
    · rw [runesFrom_end s _ p hp, runesFrom_end _ _ p (by rw [fold_size]; exact hp)]; rfl
theorem runesOf_fold (s : ByteArray) : runesOf (fold s) = (runesOf s).map fun r => (r.1, low r.2.1, r.2.2) := by
  unfold runesOf
  rw [fold_size]
  exact runesFrom_fold s _ _

theorem bytes_ext {s t : ByteArray} (h : s.size = t.size) (hb : ∀ i, i < s.size → bAt s i = bAt t i) : s = t := by
  apply ByteArray.ext
  apply Array.ext
  · exact h
  · intro i h1 h2
    have := hb i h1
    rw [bAt_ge (show i < s.size from h1), bAt_ge (show i < t.size from h2)] at this
    exact UInt8.toNat_inj.1 this

theorem fb_fold (s : ByteArray) (i : Nat) (hi : i < s.size) : fb (fold s) i = fb s i := by
  have h0 := fold_at s i hi
  have h1 : bAt (fold s) (i - 1) = fb s (i - 1) := fold_at s (i - 1) (by omega)
  rcases fb_cases (fold s) i with ⟨a, b, e⟩ | ⟨q, r, a, b, c, e⟩ | ⟨_, _, e⟩
  · exfalso
    rw [h0] at a b
    rcases fb_cases s i with ⟨a', b', e'⟩ | ⟨_, _, a', b', _, e'⟩ | ⟨n, _, e'⟩
    · omega
    · omega
    · exact n (by omega)
  · exfalso
    rw [h0] at a b c
    rw [h1] at r
    have r' : bAt s (i - 1) = 195 := by
      have := fb_lead (s := s) (i := i - 1) (by omega)
      omega
    rcases fb_cases s i with ⟨a', b', e'⟩ | ⟨_, _, a', b', _, e'⟩ | ⟨_, n, e'⟩
    · omega
    · omega
    · exact n ⟨q, r', by omega, by omega, by omega⟩
  · rw [e, h0]

theorem fold_fold (s : ByteArray) : fold (fold s) = fold s := by
  apply bytes_ext
  · rw [fold_size]
  · intro i hi
    rw [fold_size, fold_size] at hi
    rw [fold_at (fold s) i (by rw [fold_size]; exact hi), fold_at s i hi, fb_fold s i hi]

theorem fits_low (c : Nat) : fitsB (low c) = fitsB c := by
  have hiff : ∀ c : Nat, fitsB (c : Int) = true ↔ (97 ≤ c ∧ c ≤ 122) ∨ (65 ≤ c ∧ c ≤ 90) ∨ (48 ≤ c ∧ c ≤ 57) ∨ c = 95 ∨ c = 45 ∨ (192 ≤ c ∧ c ≤ 214) ∨ (216 ≤ c ∧ c ≤ 246) ∨ (248 ≤ c ∧ c ≤ 255) ∨ (945 ≤ c ∧ c ≤ 969) := by
    intro c
    simp [fitsB, fitsL, inSpan]
    omega
  rw [Bool.eq_iff_iff, hiff, hiff]
  by_cases h : (65 ≤ c ∧ c ≤ 90) ∨ (192 ≤ c ∧ c ≤ 214) ∨ (216 ≤ c ∧ c ≤ 222)
  · rw [low_big h]; omega
  · rw [low_not h]

theorem checkFrom_fold (s : ByteArray) : ∀ (f p k : Nat), checkFrom fitsB (fold s) f p k = checkFrom fitsB s f p k
  | 0, p, k => by simp only [checkFrom]; rw [fold_size]
  | f + 1, p, k => by
    by_cases hp : p < s.size
    · simp only [checkFrom]
      rw [if_pos hp, if_pos (by rw [fold_size]; exact hp), decode_fold s p hp]
      simp only [fits_low, checkFrom_fold s f]
    · rw [checkFrom_end _ s _ _ _ hp, checkFrom_end _ _ _ _ _ (by rw [fold_size]; exact hp), fold_size]
theorem checkOf_fold (s : ByteArray) : checkOf fitsB (fold s) = checkOf fitsB s := by
  unfold checkOf
  rw [fold_size]
  exact checkFrom_fold s _ _ _

theorem checkFrom_tells (ok : Int → Bool) (s : ByteArray) : ∀ (f p k : Nat), s.size ≤ p + f → k ≤ 12 → checkFrom ok s f p k = true → 1 ≤ k + (runesFrom s f p).length ∧ k + (runesFrom s f p).length ≤ 12 ∧ s.size ≤ 24
  | 0, p, k, hf, hk, h => by
    simp [checkFrom] at h
    simp [runesFrom]
    omega
  | f + 1, p, k, hf, hk, h => by
    by_cases hp : p < s.size
    · have hwd := Lib.decode_width_pos s p hp
      simp only [checkFrom] at h
      rw [if_pos hp] at h
      split at h
      · cases h
      · split at h
        · have ih := checkFrom_tells ok s f (p + (Utf8.decode s p).2) (k + 1) (by omega) (by omega) h
          rw [runesFrom_step s f p hp, List.length_cons]
          omega
        · cases h
    · rw [checkFrom_end _ s _ _ _ hp] at h
      rw [runesFrom_end s _ p hp]
      simp at h ⊢
      omega
theorem checkOf_tells {s : ByteArray} (h : checkOf fitsB s = true) : 1 ≤ (runesOf s).length ∧ (runesOf s).length ≤ 12 ∧ s.size ≤ 24 := by
  have := checkFrom_tells fitsB s s.size 0 0 (by omega) (by omega) h
  simpa [runesOf] using this
end Go.Proofs.YtlmbkliieckakaaDoor.Nm
