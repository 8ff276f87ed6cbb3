/- A rune's bytes: which they are, and that decode finds just them. Plain Lean. -/
import Derived.Test.YtlmbkliieckakaaDoorNm5
set_option linter.unusedVariables false
namespace Go.Proofs.YtlmbkliieckakaaDoor.Nm
open Go

/-- The byte at a place, as a number; 0 beyond the end. -/
def bAt (s : ByteArray) (i : Nat) : Nat := (s.get! i).toNat

/-- At place p stand the w bytes of rune c. -/
def Enc (s : ByteArray) (p c w : Nat) : Prop :=
  (w = 1 ∧ c < 128 ∧ p < s.size ∧ bAt s p = c) ∨
  (w = 2 ∧ 128 ≤ c ∧ c ≤ 2047 ∧ p + 1 < s.size ∧ bAt s p = 192 + c / 64 ∧ bAt s (p + 1) = 128 + c % 64) ∨
  (w = 3 ∧ 2048 ≤ c ∧ c ≤ 65535 ∧ ¬ (55296 ≤ c ∧ c ≤ 57343) ∧ p + 2 < s.size ∧ bAt s p = 224 + c / 4096 ∧ bAt s (p + 1) = 128 + c / 64 % 64 ∧ bAt s (p + 2) = 128 + c % 64) ∨
  (w = 4 ∧ 65536 ≤ c ∧ c ≤ 1114111 ∧ p + 3 < s.size ∧ bAt s p = 240 + c / 262144 ∧ bAt s (p + 1) = 128 + c / 4096 % 64 ∧ bAt s (p + 2) = 128 + c / 64 % 64 ∧ bAt s (p + 3) = 128 + c % 64)

theorem enc_or (s : ByteArray) (p : Nat) (hp : p < s.size) :
    Enc s p (Utf8.decode s p).1 (Utf8.decode s p).2 ∨ (Utf8.decode s p = (65533, 1) ∧ 128 ≤ bAt s p) := by
  rcases decode_cases s p hp with ⟨c, e, h⟩ | ⟨c, e, h⟩ | ⟨c, e, h⟩ | ⟨c, e, h⟩ | ⟨e, h, _⟩ <;> rw [e]
  · exact Or.inl (Or.inl ⟨rfl, h.1, hp, h.2⟩)
  · exact Or.inl (Or.inr (Or.inl ⟨rfl, h⟩))
  · exact Or.inl (Or.inr (Or.inr (Or.inl ⟨rfl, h⟩)))
  · exact Or.inl (Or.inr (Or.inr (Or.inr ⟨rfl, h⟩)))
  · exact Or.inr ⟨rfl, h⟩

theorem decode_of_enc {s : ByteArray} {p c w : Nat} (h : Enc s p c w) : Utf8.decode s p = (c, w) := by
  simp only [Utf8.decode, Utf8.runeError, Utf8.valid, ge_iff_le, Bool.and_eq_true, Bool.or_eq_true, decide_eq_true_eq, beq_iff_eq]
  unfold Enc bAt at h
  obtain ⟨b0, f0⟩ : ∃ b, (s.get! (p + 0)).toNat = b := ⟨_, rfl⟩
  have g0 : (s.get! p).toNat = b0 := f0
  obtain ⟨b1, f1⟩ : ∃ b, (s.get! (p + 1)).toNat = b := ⟨_, rfl⟩
  obtain ⟨b2, f2⟩ : ∃ b, (s.get! (p + 2)).toNat = b := ⟨_, rfl⟩
  obtain ⟨b3, f3⟩ : ∃ b, (s.get! (p + 3)).toNat = b := ⟨_, rfl⟩
  simp only [f0, f1, f2, f3]
  simp only [g0, f1, f2, f3] at h
  clear f0 f1 f2 f3 g0
  rcases h with ⟨rfl, h1, hp, e0⟩ | ⟨rfl, h1, h2, hp, e0, e1⟩ | ⟨rfl, h1, h2, h3, hp, e0, e1, e2⟩ | ⟨rfl, h1, h2, hp, e0, e1, e2, e3⟩
  · rw [if_pos (by omega), e0]
  · obtain ⟨a, b, rfl, hb⟩ : ∃ a b, c = 64 * a + b ∧ b < 64 := ⟨c / 64, c % 64, by omega, by omega⟩
    rw [show (64 * a + b) / 64 = a by omega] at e0
    rw [show (64 * a + b) % 64 = b by omega] at e1
    have ha : a < 32 := by omega
    have ha2 : 2 ≤ a := by omega
    rw [if_neg (by omega), if_pos ⟨by omega, by omega, by omega⟩]
    have e : b0 % 32 * 64 + b1 % 64 = 64 * a + b := by omega
    rw [e, if_pos h1]
  · obtain ⟨a, b, d, rfl, hb, hd⟩ : ∃ a b d, c = 4096 * a + 64 * b + d ∧ b < 64 ∧ d < 64 := ⟨c / 4096, c / 64 % 64, c % 64, by omega, by omega, by omega⟩
    rw [show (4096 * a + 64 * b + d) / 4096 = a by omega] at e0
    rw [show (4096 * a + 64 * b + d) / 64 % 64 = b by omega] at e1
    rw [show (4096 * a + 64 * b + d) % 64 = d by omega] at e2
    have ha : a < 16 := by omega
    rw [if_neg (by omega), if_neg (by omega), if_pos ⟨⟨by omega, by omega, by omega⟩, by omega, by omega⟩]
    have e : b0 % 16 * 4096 + b1 % 64 * 64 + b2 % 64 = 4096 * a + 64 * b + d := by omega
    rw [e, if_pos ⟨h1, by omega⟩]
  · obtain ⟨a, b, d, f, rfl, hb, hd, hf⟩ : ∃ a b d f, c = 262144 * a + 4096 * b + 64 * d + f ∧ b < 64 ∧ d < 64 ∧ f < 64 := ⟨c / 262144, c / 4096 % 64, c / 64 % 64, c % 64, by omega, by omega, by omega, by omega⟩
    rw [show (262144 * a + 4096 * b + 64 * d + f) / 262144 = a by omega] at e0
    rw [show (262144 * a + 4096 * b + 64 * d + f) / 4096 % 64 = b by omega] at e1
    rw [show (262144 * a + 4096 * b + 64 * d + f) / 64 % 64 = d by omega] at e2
    rw [show (262144 * a + 4096 * b + 64 * d + f) % 64 = f by omega] at e3
    have ha : a < 5 := by omega
    rw [if_neg (by omega), if_neg (by omega), if_neg (by omega), if_pos ⟨⟨⟨by omega, by omega, by omega⟩, by omega, by omega⟩, by omega, by omega⟩]
    have e : b0 % 8 * 262144 + b1 % 64 * 4096 + b2 % 64 * 64 + b3 % 64 = 262144 * a + 4096 * b + 64 * d + f := by omega
    rw [e, if_pos ⟨h1, by omega⟩]

theorem not_enc {s : ByteArray} {p : Nat} (h : Utf8.decode s p = (65533, 1)) (c w : Nat) : ¬ Enc s p c w := by
  intro he
  have e := decode_of_enc he
  rw [h] at e
  obtain ⟨rfl, rfl⟩ : 65533 = c ∧ 1 = w := by simpa using e
  rcases he with ⟨_, h1, _⟩ | ⟨h0, _⟩ | ⟨h0, _⟩ | ⟨h0, _⟩
  · omega
  · cases h0
  · cases h0
  · cases h0

theorem enc_le {s : ByteArray} {p c w : Nat} (h : Enc s p c w) : p + w ≤ s.size := by
  rcases h with ⟨rfl, h⟩ | ⟨rfl, h⟩ | ⟨rfl, h⟩ | ⟨rfl, h⟩ <;> omega

/-- The same bytes are the same rune. -/
theorem enc_same {s t : ByteArray} {p q c w : Nat} (h : Enc s p c w) (hq : q + w ≤ t.size) (hb : ∀ i, i < w → bAt t (q + i) = bAt s (p + i)) : Enc t q c w := by
  rcases h with ⟨rfl, h1, hp, e0⟩ | ⟨rfl, h1, h2, hp, e0, e1⟩ | ⟨rfl, h1, h2, h3, hp, e0, e1, e2⟩ | ⟨rfl, h1, h2, hp, e0, e1, e2, e3⟩
  · have b0 := hb 0 (by omega)
    exact Or.inl ⟨rfl, h1, by omega, b0.trans e0⟩
  · have b0 := hb 0 (by omega); have b1 := hb 1 (by omega)
    exact Or.inr (Or.inl ⟨rfl, h1, h2, by omega, b0.trans e0, b1.trans e1⟩)
  · have b0 := hb 0 (by omega); have b1 := hb 1 (by omega); have b2 := hb 2 (by omega)
    exact Or.inr (Or.inr (Or.inl ⟨rfl, h1, h2, h3, by omega, b0.trans e0, b1.trans e1, b2.trans e2⟩))
  · have b0 := hb 0 (by omega); have b1 := hb 1 (by omega); have b2 := hb 2 (by omega); have b3 := hb 3 (by omega)
    exact Or.inr (Or.inr (Or.inr ⟨rfl, h1, h2, by omega, b0.trans e0, b1.trans e1, b2.trans e2, b3.trans e3⟩))

theorem bAt_ge {s : ByteArray} {i : Nat} (h : i < s.size) : bAt s i = s[i].toNat := by
  unfold bAt; rw [get_bang s i h]

theorem bAt_extract (s : ByteArray) (a b i : Nat) (hb : b ≤ s.size) (h : a + i < b) : bAt (s.extract a b) i = bAt s (a + i) := by
  have h1 : i < (s.extract a b).size := by rw [ByteArray.size_extract]; omega
  rw [bAt_ge h1, bAt_ge (by omega : a + i < s.size)]
  congr 1
  simp [ByteArray.getElem_extract]

/-- In a beginning of a text that does not cut the rune at p it is the same rune. -/
theorem decode_take (s : ByteArray) (q p : Nat) (hq : q ≤ s.size) (hp : p < s.size) (h : p + (Utf8.decode s p).2 ≤ q) : Utf8.decode (s.extract 0 q) p = Utf8.decode s p := by
  have hsz : (s.extract 0 q).size = q := by rw [ByteArray.size_extract]; omega
  rcases enc_or s p hp with he | ⟨he, hb⟩
  · have he2 : Enc (s.extract 0 q) p (Utf8.decode s p).1 (Utf8.decode s p).2 := by
      refine enc_same he (by omega) fun i hi => ?_
      rw [bAt_extract s 0 q (p + i) hq (by omega), Nat.zero_add]
    have h3 := decode_of_enc he2
    rw [h3]
  · have h1 : p + 1 ≤ q := by rw [he] at h; exact h
    rcases enc_or (s.extract 0 q) p (by omega) with he2 | ⟨he2, _⟩
    · have hle := enc_le he2
      exfalso
      refine not_enc he _ _ (enc_same he2 (by omega) fun i hi => ?_)
      rw [bAt_extract s 0 q (p + i) hq (by omega), Nat.zero_add]
    · rw [he, he2]

/-- The runes of a beginning that ends with a rune are the runes ahead of that place. -/
theorem runesFrom_take (s : ByteArray) (q : Nat) (hq : q ≤ s.size) : ∀ (f p : Nat) (n : Int), s.size ≤ p + f → p ≤ s.size → cutFrom s f p n = q →
    runesFrom (s.extract 0 q) f p = (runesFrom s f p).take n.toNat
  | 0, p, n, hf, hp, hc => by simp [runesFrom]
  | f + 1, p, n, hf, hp, hc => by
    have hsz : (s.extract 0 q).size = q := by rw [ByteArray.size_extract]; omega
    by_cases h : p < s.size
    · by_cases hn : n ≤ 0
      · rw [cutFrom_now s _ p n hn] at hc
        subst hc
        rw [runesFrom_end _ _ _ (by omega), show n.toNat = 0 by omega]
        rfl
      · rw [cutFrom_step s f p n h hn] at hc
        have hfit := decode_fits s p h
        have hwd := Lib.decode_width_pos s p h
        have hle : p + (Utf8.decode s p).2 ≤ q := by rw [← hc]; exact cutFrom_ge s f _ _
        have hd := decode_take s q p hq h hle
        rw [runesFrom_step s f p h, runesFrom_step _ f p (by omega), hd, runesFrom_take s q hq f _ (n - 1) (by omega) hfit hc, show n.toNat = (n - 1).toNat + 1 by omega]
        rfl
    · rw [runesFrom_end s _ p h, runesFrom_end _ _ p (by omega)]
      simp
where
  cutFrom_ge (s : ByteArray) : ∀ (f p : Nat) (n : Int), p ≤ cutFrom s f p n
  | 0, p, n => Nat.le_refl _
  | f + 1, p, n => by
    unfold cutFrom
    split
    · split
      · exact Nat.le_refl _
      · exact Nat.le_trans (Nat.le_add_right _ _) (cutFrom_ge s f _ _)
    · exact Nat.le_refl _

theorem runesOf_cut (s : ByteArray) (n : Int) : runesOf (cut s n) = (runesOf s).take n.toNat := by
  have hq := cutFrom_le s s.size 0 n (by omega)
  have h := runesFrom_take s (cutAt s n) hq s.size 0 n (by omega) (by omega) rfl
  have hsz : (cut s n).size = cutAt s n := by unfold cut; rw [ByteArray.size_extract]; unfold cutAt at *; omega
  unfold runesOf
  rw [runesFrom_fuel (cut s n) (cut s n).size s.size 0 (by omega) (by unfold cutAt at hsz; omega)]
  exact h

theorem runeCount_cut (s : ByteArray) (n : Int) : Lib.runeCount (cut s n) = min n.toNat (Lib.runeCount s) := by
  rw [runeCount_eq, runeCount_eq, runesOf_cut, List.length_take]
end Go.Proofs.YtlmbkliieckakaaDoor.Nm
