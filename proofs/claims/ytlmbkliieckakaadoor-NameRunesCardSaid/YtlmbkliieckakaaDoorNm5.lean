/- Plain laws of one rune's number and width. -/
import Derived.Test.YtlmbkliieckakaaDoorNm0
import Derived.Lib.Small
import Derived.Lib.Strings
set_option linter.unusedVariables false
namespace Go.Proofs.YtlmbkliieckakaaDoor.Nm
open Go

theorem runeLen_one {r : Int} (h0 : 0 ≤ r) (h1 : r ≤ 127) : Lib.runeLen r = 1 := by
  unfold Lib.runeLen; rw [if_neg (by omega), if_pos (by omega)]
theorem runeLen_two {r : Int} (h0 : 128 ≤ r) (h1 : r ≤ 2047) : Lib.runeLen r = 2 := by
  unfold Lib.runeLen; rw [if_neg (by omega), if_neg (by omega), if_pos (by omega)]
theorem runeLen_three {r : Int} (h0 : 2048 ≤ r) (h1 : r ≤ 65535) (h2 : ¬ (55296 ≤ r ∧ r ≤ 57343)) : Lib.runeLen r = 3 := by
  unfold Lib.runeLen; rw [if_neg (by omega), if_neg (by omega), if_neg (by omega), if_neg (by omega), if_pos (by omega)]
theorem runeLen_four {r : Int} (h0 : 65536 ≤ r) (h1 : r ≤ 1114111) : Lib.runeLen r = 4 := by
  unfold Lib.runeLen; rw [if_neg (by omega), if_neg (by omega), if_neg (by omega), if_neg (by omega), if_neg (by omega), if_pos (by omega)]

theorem two_arith (b0 b1 : Nat) (h : b0 / 32 = 6) (h1 : b1 / 64 = 2) : b0 % 32 * 64 + b1 % 64 ≤ 2047 ∧ b0 = 192 + (b0 % 32 * 64 + b1 % 64) / 64 ∧ b1 = 128 + (b0 % 32 * 64 + b1 % 64) % 64 := by omega
theorem three_arith (b0 b1 b2 : Nat) (h : b0 / 16 = 14) (h1 : b1 / 64 = 2) (h2 : b2 / 64 = 2) :
    b0 % 16 * 4096 + b1 % 64 * 64 + b2 % 64 ≤ 65535 ∧ b0 = 224 + (b0 % 16 * 4096 + b1 % 64 * 64 + b2 % 64) / 4096 ∧ b1 = 128 + (b0 % 16 * 4096 + b1 % 64 * 64 + b2 % 64) / 64 % 64 ∧ b2 = 128 + (b0 % 16 * 4096 + b1 % 64 * 64 + b2 % 64) % 64 := by
  obtain ⟨x, rfl⟩ : ∃ x, b0 = 224 + x := ⟨b0 - 224, by omega⟩
  obtain ⟨y, rfl⟩ : ∃ x, b1 = 128 + x := ⟨b1 - 128, by omega⟩
  obtain ⟨z, rfl⟩ : ∃ x, b2 = 128 + x := ⟨b2 - 128, by omega⟩
  have hx : x < 16 := by omega
  have hy : y < 64 := by omega
  have hz : z < 64 := by omega
  rw [show (224 + x) % 16 = x by omega, show (128 + y) % 64 = y by omega, show (128 + z) % 64 = z by omega]
  clear h h1 h2
  omega
theorem four_arith (b0 b1 b2 b3 : Nat) (h : b0 / 8 = 30) (h1 : b1 / 64 = 2) (h2 : b2 / 64 = 2) (h3 : b3 / 64 = 2) :
    b0 = 240 + (b0 % 8 * 262144 + b1 % 64 * 4096 + b2 % 64 * 64 + b3 % 64) / 262144 ∧ b1 = 128 + (b0 % 8 * 262144 + b1 % 64 * 4096 + b2 % 64 * 64 + b3 % 64) / 4096 % 64 ∧ b2 = 128 + (b0 % 8 * 262144 + b1 % 64 * 4096 + b2 % 64 * 64 + b3 % 64) / 64 % 64 ∧ b3 = 128 + (b0 % 8 * 262144 + b1 % 64 * 4096 + b2 % 64 * 64 + b3 % 64) % 64 := by
  obtain ⟨x, rfl⟩ : ∃ x, b0 = 240 + x := ⟨b0 - 240, by omega⟩
  obtain ⟨y, rfl⟩ : ∃ x, b1 = 128 + x := ⟨b1 - 128, by omega⟩
  obtain ⟨z, rfl⟩ : ∃ x, b2 = 128 + x := ⟨b2 - 128, by omega⟩
  obtain ⟨u, rfl⟩ : ∃ x, b3 = 128 + x := ⟨b3 - 128, by omega⟩
  have hx : x < 8 := by omega
  have hy : y < 64 := by omega
  have hz : z < 64 := by omega
  have hu : u < 64 := by omega
  rw [show (240 + x) % 8 = x by omega, show (128 + y) % 64 = y by omega, show (128 + z) % 64 = z by omega, show (128 + u) % 64 = u by omega]
  clear h h1 h2 h3
  refine ⟨by omega, ?_, ?_, by omega⟩
  · have : (x * 262144 + y * 4096 + z * 64 + u) / 4096 = x * 64 + y := by omega
    omega
  · have : (x * 262144 + y * 4096 + z * 64 + u) / 64 = (x * 64 + y) * 64 + z := by omega
    omega

/-- What decode can answer: by the first byte and those that go on. -/
theorem decode_cases (s : ByteArray) (p : Nat) (hp : p < s.size) :
    (∃ c, Utf8.decode s p = (c, 1) ∧ c < 128 ∧ (s.get! (p + 0)).toNat = c) ∨
    (∃ c, Utf8.decode s p = (c, 2) ∧ 128 ≤ c ∧ c ≤ 2047 ∧ p + 1 < s.size ∧ (s.get! (p + 0)).toNat = 192 + c / 64 ∧ (s.get! (p + 1)).toNat = 128 + c % 64) ∨
    (∃ c, Utf8.decode s p = (c, 3) ∧ 2048 ≤ c ∧ c ≤ 65535 ∧ ¬ (55296 ≤ c ∧ c ≤ 57343) ∧ p + 2 < s.size ∧ (s.get! (p + 0)).toNat = 224 + c / 4096 ∧ (s.get! (p + 1)).toNat = 128 + c / 64 % 64 ∧ (s.get! (p + 2)).toNat = 128 + c % 64) ∨
    (∃ c, Utf8.decode s p = (c, 4) ∧ 65536 ≤ c ∧ c ≤ 1114111 ∧ p + 3 < s.size ∧ (s.get! (p + 0)).toNat = 240 + c / 262144 ∧ (s.get! (p + 1)).toNat = 128 + c / 4096 % 64 ∧ (s.get! (p + 2)).toNat = 128 + c / 64 % 64 ∧ (s.get! (p + 3)).toNat = 128 + c % 64) ∨
    (Utf8.decode s p = (65533, 1) ∧ 128 ≤ (s.get! (p + 0)).toNat ∧ ¬ (p + 2 < s.size ∧ (s.get! (p + 0)).toNat = 239 ∧ (s.get! (p + 1)).toNat = 191 ∧ (s.get! (p + 2)).toNat = 189)) := by
  simp only [Utf8.decode, Utf8.runeError, Utf8.valid, ge_iff_le, Bool.and_eq_true, Bool.or_eq_true, decide_eq_true_eq, beq_iff_eq]
  obtain ⟨b0, e0⟩ : ∃ b, (s.get! (p + 0)).toNat = b := ⟨_, rfl⟩
  obtain ⟨b1, e1⟩ : ∃ b, (s.get! (p + 1)).toNat = b := ⟨_, rfl⟩
  obtain ⟨b2, e2⟩ : ∃ b, (s.get! (p + 2)).toNat = b := ⟨_, rfl⟩
  obtain ⟨b3, e3⟩ : ∃ b, (s.get! (p + 3)).toNat = b := ⟨_, rfl⟩
  simp only [e0, e1, e2, e3]
  clear e0 e1 e2 e3
  by_cases c0 : b0 < 128
  · rw [if_pos c0]; exact Or.inl ⟨b0, rfl, c0, rfl⟩
  rw [if_neg c0]
  by_cases c1 : b0 / 32 = 6 ∧ p + 1 < s.size ∧ b1 / 64 = 2
  · rw [if_pos c1]
    by_cases d : 128 ≤ b0 % 32 * 64 + b1 % 64
    · rw [if_pos d]
      obtain ⟨q1, q2, q3⟩ := two_arith b0 b1 c1.1 c1.2.2
      exact Or.inr (Or.inl ⟨_, rfl, d, q1, c1.2.1, q2, q3⟩)
    · rw [if_neg d]
      refine Or.inr (Or.inr (Or.inr (Or.inr ⟨rfl, Nat.le_of_not_lt c0, ?_⟩)))
      rintro ⟨_, rfl, _, _⟩
      exact absurd c1.1 (by decide)
  rw [if_neg c1]
  by_cases c2 : (b0 / 16 = 14 ∧ p + 1 < s.size ∧ b1 / 64 = 2) ∧ p + 2 < s.size ∧ b2 / 64 = 2
  · rw [if_pos c2]
    obtain ⟨q1, q2, q3, q4⟩ := three_arith b0 b1 b2 c2.1.1 c2.1.2.2 c2.2.2
    split
    · rename_i d
      refine Or.inr (Or.inr (Or.inl ⟨_, rfl, d.1, q1, ?_, c2.2.1, q2, q3, q4⟩))
      have := d.2
      intro hh
      clear c1 c2 q2 q3 q4 c0
      omega
    · rename_i d
      refine Or.inr (Or.inr (Or.inr (Or.inr ⟨rfl, Nat.le_of_not_lt c0, ?_⟩)))
      rintro ⟨_, rfl, rfl, rfl⟩
      exact d (by decide)
  rw [if_neg c2]
  by_cases c3 : ((b0 / 8 = 30 ∧ p + 1 < s.size ∧ b1 / 64 = 2) ∧ p + 2 < s.size ∧ b2 / 64 = 2) ∧ p + 3 < s.size ∧ b3 / 64 = 2
  · rw [if_pos c3]
    obtain ⟨q1, q2, q3, q4⟩ := four_arith b0 b1 b2 b3 c3.1.1.1 c3.1.1.2.2 c3.1.2.2 c3.2.2
    split
    · rename_i d
      refine Or.inr (Or.inr (Or.inr (Or.inl ⟨_, rfl, d.1, ?_, c3.2.1, q1, q2, q3, q4⟩)))
      have h1 := d.1
      have h2 := d.2
      clear c1 c2 c3 q1 q2 q3 q4 c0
      omega
    · rename_i d
      refine Or.inr (Or.inr (Or.inr (Or.inr ⟨rfl, Nat.le_of_not_lt c0, ?_⟩)))
      rintro ⟨_, rfl, _, _⟩
      exact absurd c3.1.1.1 (by decide)
  rw [if_neg c3]
  refine Or.inr (Or.inr (Or.inr (Or.inr ⟨rfl, Nat.le_of_not_lt c0, ?_⟩)))
  rintro ⟨hs, rfl, rfl, rfl⟩
  exact c2 ⟨⟨by decide, by omega, by decide⟩, hs, by decide⟩

theorem decode_runeLen (s : ByteArray) (p : Nat) (hp : p < s.size) (hr : (Utf8.decode s p).1 ≠ 65533) : Lib.runeLen (Utf8.decode s p).1 = (Utf8.decode s p).2 := by
  rcases decode_cases s p hp with ⟨c, e, h⟩ | ⟨c, e, h⟩ | ⟨c, e, h⟩ | ⟨c, e, h⟩ | ⟨e, h⟩ <;> rw [e] at hr ⊢
  · exact runeLen_one (by simp only []; omega) (by simp only []; omega)
  · exact runeLen_two (by simp only []; omega) (by simp only []; omega)
  · exact runeLen_three (by simp only []; omega) (by simp only []; omega) (by simp only []; omega)
  · exact runeLen_four (by simp only []; omega) (by simp only []; omega)
  · exact absurd rfl hr

theorem get_bang (s : ByteArray) (i : Nat) (h : i < s.size) : s.get! i = s[i] := by
  simp [ByteArray.get!, getElem!_pos, h]
  rfl

theorem extract_toList (s : ByteArray) (a b : Nat) : (s.extract a b).data.toList = (s.data.toList.drop a).take (b - a) := by
  simp [ByteArray.data_extract, Array.toList_extract]

theorem prefix_three (l : List UInt8) (a b c : UInt8) : Lib.hasPrefix l [a, b, c] = true ↔ l[0]? = some a ∧ l[1]? = some b ∧ l[2]? = some c := by
  unfold Lib.hasPrefix
  match l with
  | [] => simp [List.isPrefixOf]
  | [x] => simp [List.isPrefixOf]
  | [x, y] => simp [List.isPrefixOf]
  | x :: y :: z :: t => simp [List.isPrefixOf]; exact ⟨fun ⟨h1, h2, h3⟩ => ⟨h1.symm, h2.symm, h3.symm⟩, fun ⟨h1, h2, h3⟩ => ⟨h1.symm, h2.symm, h3.symm⟩⟩

theorem at_drop (s : ByteArray) (p i : Nat) : ((s.extract p s.size).data.toList)[i]? = if h : p + i < s.size then some s[p + i] else none := by
  rw [extract_toList, List.getElem?_take]
  split
  · rw [List.getElem?_drop]
    split
    · rename_i h
      rw [Array.getElem?_toList, Array.getElem?_eq_getElem (by simpa using h)]
      rfl
    · rename_i h
      exact List.getElem?_eq_none (by simp; simp at h; omega)
  · rw [dif_neg (by omega)]

/-- U+FFFD: written well, or a byte that begins no rune. -/
theorem decode_err (s : ByteArray) (p : Nat) (hp : p < s.size) (hr : (Utf8.decode s p).1 = 65533) :
    (Lib.hasPrefix (s.extract p s.size).data.toList [239, 191, 189] = true ∧ (Utf8.decode s p).2 = 3) ∨ (Lib.hasPrefix (s.extract p s.size).data.toList [239, 191, 189] = false ∧ (Utf8.decode s p).2 = 1) := by
  rcases decode_cases s p hp with ⟨c, e, h⟩ | ⟨c, e, h⟩ | ⟨c, e, h⟩ | ⟨c, e, h⟩ | ⟨e, h0, h⟩ <;> rw [e] at hr ⊢ <;> simp only [] at hr
  · omega
  · omega
  · subst hr
    obtain ⟨-, -, -, hs, h0, h1, h2⟩ := h
    rw [get_bang s _ (by omega)] at h0 h1 h2
    refine Or.inl ⟨(prefix_three _ _ _ _).2 ⟨?_, ?_, ?_⟩, rfl⟩
    · rw [at_drop, dif_pos (by omega)]; exact congrArg some (UInt8.toNat_inj.1 h0)
    · rw [at_drop, dif_pos (by omega)]; exact congrArg some (UInt8.toNat_inj.1 h1)
    · rw [at_drop, dif_pos (by omega)]; exact congrArg some (UInt8.toNat_inj.1 h2)
  · omega
  · refine Or.inr ⟨?_, rfl⟩
    cases hq : Lib.hasPrefix (s.extract p s.size).data.toList [239, 191, 189] with
    | false => rfl
    | true =>
      obtain ⟨q0, q1, q2⟩ := (prefix_three _ _ _ _).1 hq
      rw [at_drop] at q0 q1 q2
      by_cases hs : p + 2 < s.size
      · rw [dif_pos (by omega)] at q0 q1 q2
        refine absurd ⟨hs, ?_, ?_, ?_⟩ h
        · rw [get_bang s _ (by omega), Option.some.inj q0]; rfl
        · rw [get_bang s _ (by omega), Option.some.inj q1]; rfl
        · rw [get_bang s _ (by omega), Option.some.inj q2]; rfl
      · rw [dif_neg hs] at q2; cases q2

/-- A large letter and its small one are written with as many bytes. -/
theorem big_width (s : ByteArray) (p : Nat) (hp : p < s.size) (h : (65 ≤ (Utf8.decode s p).1 ∧ (Utf8.decode s p).1 ≤ 90) ∨ (192 ≤ (Utf8.decode s p).1 ∧ (Utf8.decode s p).1 ≤ 222)) :
    (Lib.encodeRune ((Utf8.decode s p).1 + 32)).length = (Utf8.decode s p).2 := by
  rcases decode_cases s p hp with ⟨c, e, h'⟩ | ⟨c, e, h'⟩ | ⟨c, e, h'⟩ | ⟨c, e, h'⟩ | ⟨e, h'⟩ <;> rw [e] at h ⊢ <;> simp only [] at h ⊢
  · rw [Lib.encodeRune, Lib.encodeRuneZ_one (by omega) (by omega)]; rfl
  · rw [Lib.encodeRune, Lib.encodeRuneZ_two (by omega) (by omega)]; rfl
  · omega
  · omega
  · omega
end Go.Proofs.YtlmbkliieckakaaDoor.Nm
