/- Fold, byte by byte; the runes of a folded text. Plain Lean. -/
import Derived.Test.YtlmbkliieckakaaDoorNm6
import Derived.Test.YtlmbkliieckakaaDoorNm7
set_option linter.unusedVariables false
namespace Go.Proofs.YtlmbkliieckakaaDoor.Nm
open Go

/-- The byte that Fold writes at place i. -/
def fb (s : ByteArray) (i : Nat) : Nat :=
  if 65 ≤ bAt s i ∧ bAt s i ≤ 90 then bAt s i + 32
  else if 0 < i ∧ bAt s (i - 1) = 195 ∧ 128 ≤ bAt s i ∧ bAt s i ≤ 158 ∧ bAt s i ≠ 151 then bAt s i + 32 else bAt s i

theorem bAt_lt (s : ByteArray) (i : Nat) : bAt s i < 256 := (s.get! i).toNat_lt

/-- Place p is no second byte behind C3. -/
def Inv (s : ByteArray) (p : Nat) : Prop := ¬ (0 < p ∧ p < s.size ∧ bAt s (p - 1) = 195 ∧ bAt s p / 64 = 2)

theorem inv_next (s : ByteArray) (p : Nat) (hp : p < s.size) : Inv s (p + (Utf8.decode s p).2) := by
  rintro ⟨_, h1, h2, h3⟩
  rcases enc_or s p hp with he | ⟨he, hb⟩
  · rcases he with ⟨hw, h, _, e0⟩ | ⟨hw, h, h', _, e0, e1⟩ | ⟨hw, h, h', _, _, e0, e1, e2⟩ | ⟨hw, h, h', _, e0, e1, e2, e3⟩ <;> rw [hw] at h2
    · rw [show p + 1 - 1 = p by omega] at h2; omega
    · rw [show p + 2 - 1 = p + 1 by omega] at h2; omega
    · rw [show p + 3 - 1 = p + 2 by omega] at h2; omega
    · rw [show p + 4 - 1 = p + 3 by omega] at h2; omega
  · rw [he] at h1 h2 h3
    simp only [] at h1 h2 h3
    rw [show p + 1 - 1 = p by omega] at h2
    have hx := bAt_lt s (p + 1)
    refine not_enc he (192 + (bAt s (p + 1) - 128)) 2 (Or.inr (Or.inl ⟨rfl, by omega, by omega, h1, ?_, ?_⟩)) <;> omega

theorem bigB_not {c : Nat} (h : bigB c = false) : ¬ ((65 ≤ c ∧ c ≤ 90) ∨ (192 ≤ c ∧ c ≤ 214) ∨ (216 ≤ c ∧ c ≤ 222)) := by
  intro h'
  have := (bigB_iff (c : Int)).2 (by omega)
  rw [h] at this
  cases this

theorem fb_same {s : ByteArray} {i : Nat} (h1 : ¬ (65 ≤ bAt s i ∧ bAt s i ≤ 90)) (h2 : ¬ (0 < i ∧ bAt s (i - 1) = 195 ∧ 128 ≤ bAt s i ∧ bAt s i ≤ 158 ∧ bAt s i ≠ 151)) : fb s i = bAt s i := by
  unfold fb; rw [if_neg h1, if_neg h2]
theorem fb_big1 {s : ByteArray} {i : Nat} (h1 : 65 ≤ bAt s i ∧ bAt s i ≤ 90) : fb s i = bAt s i + 32 := by
  unfold fb; rw [if_pos h1]
theorem fb_big2 {s : ByteArray} {i : Nat} (h2 : 0 < i ∧ bAt s (i - 1) = 195 ∧ 128 ≤ bAt s i ∧ bAt s i ≤ 158 ∧ bAt s i ≠ 151) : fb s i = bAt s i + 32 := by
  unfold fb; rw [if_neg (by omega), if_pos h2]

/-- A run of folded bytes. -/
def fbs (s : ByteArray) (p n : Nat) : List UInt8 := (List.range' p n).map fun i => (fb s i).toUInt8

theorem fbs_add (s : ByteArray) (p n m : Nat) : fbs s p n ++ fbs s (p + n) m = fbs s p (n + m) := by
  unfold fbs
  rw [← List.map_append, List.range'_append_1]

theorem piece_eq (s : ByteArray) (p : Nat) (hp : p < s.size) : piece s p = (List.range' p (Utf8.decode s p).2).map fun i => (bAt s i).toUInt8 := by
  have hfit := decode_fits s p hp
  apply List.ext_getElem?
  intro i
  unfold piece
  rw [Lib.extract_data, List.getElem?_take, List.getElem?_drop]
  by_cases hi : i < (Utf8.decode s p).2
  · rw [if_pos (by omega)]
    rw [Array.getElem?_toList, Array.getElem?_eq_getElem (by show p + i < s.size; omega)]
    simp only [List.getElem?_map]
    rw [List.getElem?_range' hi]
    simp only [Option.map_some, Option.some.injEq, Nat.one_mul]
    rw [bAt_ge (by omega : p + i < s.size)]
    show s[p + i] = _
    simp
  · rw [if_neg (by omega)]
    symm
    exact List.getElem?_eq_none (by simp; omega)

theorem step_bytes (s : ByteArray) (p : Nat) (hp : p < s.size) (hI : Inv s p) :
    (if bigB (Utf8.decode s p).1 then Lib.encodeRune ((Utf8.decode s p).1 + 32) else piece s p) = fbs s p (Utf8.decode s p).2 := by
  have h63 : ∀ c : Nat, (65533 : Nat) = c → bigB c = false := by rintro c rfl; rfl
  rcases enc_or s p hp with he | ⟨he, hb⟩
  · obtain ⟨c, hc⟩ : ∃ c, (Utf8.decode s p).1 = c := ⟨_, rfl⟩
    obtain ⟨w, hw⟩ : ∃ w, (Utf8.decode s p).2 = w := ⟨_, rfl⟩
    have hpe := piece_eq s p hp
    rw [hw] at hpe
    rw [hc, hw] at he ⊢
    cases hbig : bigB c with
    | true =>
      rw [if_pos rfl]
      have hB := (bigB_iff _).1 hbig
      rcases he with ⟨rfl, h, _, e0⟩ | ⟨rfl, h, h', _, e0, e1⟩ | ⟨rfl, h, h', _⟩ | ⟨rfl, h, h', _⟩
      · rw [Lib.encodeRune, Lib.encodeRuneZ_one (by omega) (by omega)]
        have : fb s p = c + 32 := by rw [fb_big1 (by omega), e0]
        simp only [fbs, List.range'_one, List.map_cons, List.map_nil, this]
        congr 1
      · have hI' : ¬ (0 < p ∧ bAt s (p - 1) = 195 ∧ 128 ≤ bAt s p ∧ bAt s p ≤ 158 ∧ bAt s p ≠ 151) := by omega
        have f0 : fb s p = 195 := by rw [fb_same (by omega) hI']; omega
        have f1 : fb s (p + 1) = 128 + c % 64 + 32 := by rw [fb_big2 (by rw [show p + 1 - 1 = p by omega]; omega), e1]
        rw [Lib.encodeRune, Lib.encodeRuneZ_two (by omega) (by omega)]
        simp only [fbs, show List.range' p 2 = [p, p + 1] from rfl, List.map_cons, List.map_nil, f0, f1]
        have g0 : (192 + ((c : Int) + 32) / 64).toNat = 195 := by omega
        have g1 : (128 + ((c : Int) + 32) % 64).toNat = 128 + c % 64 + 32 := by omega
        rw [g0, g1]
      · omega
      · omega
    | false =>
      rw [if_neg (by decide), hpe]
      have hB := bigB_not hbig
      unfold fbs
      apply List.map_congr_left
      intro i hi
      congr 1
      symm
      have hi' := List.mem_range'_1.1 hi
      rcases he with ⟨rfl, h, _, e0⟩ | ⟨rfl, h, h', _, e0, e1⟩ | ⟨rfl, h, h', _, _, e0, e1, e2⟩ | ⟨rfl, h, h', _, e0, e1, e2, e3⟩
      · obtain rfl : i = p := by omega
        exact fb_same (by omega) (by omega)
      · obtain rfl | rfl : i = p ∨ i = p + 1 := by omega
        · exact fb_same (by omega) (by omega)
        · exact fb_same (by omega) (by rw [show p + 1 - 1 = p by omega]; omega)
      · obtain rfl | rfl | rfl : i = p ∨ i = p + 1 ∨ i = p + 2 := by omega
        · exact fb_same (by omega) (by omega)
        · exact fb_same (by omega) (by rw [show p + 1 - 1 = p by omega]; omega)
        · exact fb_same (by omega) (by rw [show p + 2 - 1 = p + 1 by omega]; omega)
      · obtain rfl | rfl | rfl | rfl : i = p ∨ i = p + 1 ∨ i = p + 2 ∨ i = p + 3 := by omega
        · exact fb_same (by omega) (by omega)
        · exact fb_same (by omega) (by rw [show p + 1 - 1 = p by omega]; omega)
        · exact fb_same (by omega) (by rw [show p + 2 - 1 = p + 1 by omega]; omega)
        · exact fb_same (by omega) (by rw [show p + 3 - 1 = p + 2 by omega]; omega)
  · have hpe := piece_eq s p hp
    rw [he] at hpe ⊢
    simp only [] at hpe ⊢
    rw [if_neg (by rw [h63 65533 rfl]; decide), hpe]
    unfold fbs
    apply List.map_congr_left
    intro i hi
    congr 1
    symm
    have hi' := List.mem_range'_1.1 hi
    obtain rfl : i = p := by omega
    refine fb_same (by omega) ?_
    rintro ⟨q1, q2, q3, q4, _⟩
    exact hI ⟨q1, hp, q2, by omega⟩

theorem foldFrom_bytes (s : ByteArray) : ∀ (f p : Nat), s.size ≤ p + f → p ≤ s.size → Inv s p → foldFrom bigB s f p = fbs s p (s.size - p)
  | 0, p, h, h', _ => by rw [show s.size - p = 0 by omega]; rfl
  | f + 1, p, h, h', hI => by
    by_cases hp : p < s.size
    · have hfit := decode_fits s p hp
      have hwd := Lib.decode_width_pos s p hp
      have ih := foldFrom_bytes s f (p + (Utf8.decode s p).2) (by omega) hfit (inv_next s p hp)
      have hs := step_bytes s p hp hI
      simp only [foldFrom]
      rw [if_pos hp, ih]
      rw [show (if bigB ↑(Utf8.decode s p).fst = true then Lib.encodeRune (↑(Utf8.decode s p).fst + 32) else (s.extract p (p + (Utf8.decode s p).snd)).data.toList) = fbs s p (Utf8.decode s p).2 from hs]
      rw [fbs_add]
      congr 1
      omega
    · rw [foldFrom_end _ s _ p hp, show s.size - p = 0 by omega]; rfl

theorem foldOf_bytes (s : ByteArray) : foldOf bigB s = fbs s 0 s.size :=
  foldFrom_bytes s s.size 0 (by omega) (by omega) (by rintro ⟨h, _⟩; omega)

theorem fold_size (s : ByteArray) : (fold s).size = s.size := by
  rw [Lib.size_eq]
  unfold fold
  rw [foldOf_bytes]
  simp [fbs]

theorem fb_lt (s : ByteArray) (i : Nat) : fb s i < 256 := by
  have := bAt_lt s i
  unfold fb; split
  · omega
  · split <;> omega

theorem fold_at (s : ByteArray) (i : Nat) (h : i < s.size) : bAt (fold s) i = fb s i := by
  have h' : i < (fold s).size := by rw [fold_size]; exact h
  rw [bAt_ge h']
  have e : (fold s).data.toList[i]? = some ((fb s i).toUInt8) := by
    unfold fold
    rw [foldOf_bytes]
    simp [fbs, h]
  rw [Array.getElem?_toList, Array.getElem?_eq_getElem (by exact h')] at e
  have e2 := Option.some.inj e
  show ((fold s).data[i]).toNat = _
  rw [e2]
  simp
  exact fb_lt s i
end Go.Proofs.YtlmbkliieckakaaDoor.Nm
