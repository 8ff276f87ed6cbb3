/- A text from a place on; its first rune; which texts have the same runes. Plain Lean. -/
import Derived.Test.YtlmbkliieckakaaDoorNmI
import Derived.Test.YtlmbkliieckakaaDoorNmJ
set_option linter.unusedVariables false
namespace Go.Proofs.YtlmbkliieckakaaDoor.Nm
open Go

theorem rest_size (s : ByteArray) (p : Nat) : (s.extract p s.size).size = s.size - p := by rw [ByteArray.size_extract]; omega
theorem bAt_rest (s : ByteArray) (p i : Nat) (h : p + i < s.size) : bAt (s.extract p s.size) i = bAt s (p + i) := bAt_extract s p s.size i (Nat.le_refl _) h

theorem decode_rest (s : ByteArray) (p q : Nat) (h : p + q < s.size) : Utf8.decode (s.extract p s.size) q = Utf8.decode s (p + q) := by
  have hsz := rest_size s p
  rcases enc_or s (p + q) h with he | ⟨he, hb⟩
  · have hle := enc_le he
    have h2 := decode_of_enc (enc_same (t := s.extract p s.size) (q := q) he (by omega) fun i hi => by rw [bAt_rest s p (q + i) (by omega), Nat.add_assoc])
    rw [h2]
  · rcases enc_or (s.extract p s.size) q (by omega) with h2 | ⟨h2, _⟩
    · exfalso
      have hle := enc_le h2
      exact not_enc he _ _ (enc_same h2 (by omega) fun i hi => by rw [bAt_rest s p (q + i) (by omega), Nat.add_assoc])
    · rw [he, h2]

theorem runesFrom_rest (s : ByteArray) (p : Nat) : ∀ (f q : Nat), (runesFrom (s.extract p s.size) f q).map (fun r => (r.2.1 : Int)) = (runesFrom s f (p + q)).map (fun r => (r.2.1 : Int))
  | 0, q => rfl
  | f + 1, q => by
    have hsz := rest_size s p
    by_cases h : p + q < s.size
    · rw [runesFrom_step s f (p + q) h, runesFrom_step _ f q (by omega), decode_rest s p q h, List.map_cons, List.map_cons, runesFrom_rest s p f, Nat.add_assoc]
    · rw [runesFrom_end s _ _ h, runesFrom_end _ _ q (by omega)]

/-- The first rune and the rest. -/
theorem nums_cons (s : ByteArray) (h : 0 < s.size) : nums s = ((Utf8.decode s 0).1 : Int) :: nums (s.extract (Utf8.decode s 0).2 s.size) := by
  have hfit := decode_fits s 0 h
  have hwd := Lib.decode_width_pos s 0 h
  have hsz := rest_size s (Utf8.decode s 0).2
  have e : runesOf s = (0, (Utf8.decode s 0).1, (Utf8.decode s 0).2) :: runesFrom s (s.size - 1) (0 + (Utf8.decode s 0).2) := by
    unfold runesOf
    obtain ⟨n, hn⟩ : ∃ n, s.size = n + 1 := ⟨s.size - 1, by omega⟩
    rw [hn, runesFrom_step s n 0 h, Nat.add_sub_cancel]
  unfold nums
  rw [e, List.map_cons]
  refine congrArg (List.cons _) ?_
  unfold runesOf
  rw [runesFrom_rest s (Utf8.decode s 0).2 _ 0, Nat.zero_add, Nat.add_zero]
  refine congrArg _ ?_
  exact runesFrom_fuel s _ _ _ (by omega) (by omega)
theorem nums_nil {s : ByteArray} (h : s.size = 0) : nums s = [] := by
  unfold nums runesOf; rw [runesFrom_end s _ 0 (by omega)]; rfl

theorem cut_one (s : ByteArray) (h : 0 < s.size) : cut s 1 = s.extract 0 (Utf8.decode s 0).2 := by
  unfold cut cutAt
  rw [show s.size = s.size - 1 + 1 by omega, cutFrom_step s _ 0 1 h (by omega), cutFrom_now s _ _ _ (by omega), Nat.zero_add]

/-- Two places with the same rune have the same bytes. -/
theorem enc_unique {s t : ByteArray} {p q c w w' : Nat} (h : Enc s p c w) (k : Enc t q c w') : w = w' ∧ ∀ i, i < w → bAt s (p + i) = bAt t (q + i) := by
  rcases h with ⟨rfl, h1, hp, e0⟩ | ⟨rfl, h1, h2, hp, e0, e1⟩ | ⟨rfl, h1, h2, h3, hp, e0, e1, e2⟩ | ⟨rfl, h1, h2, hp, e0, e1, e2, e3⟩
  · rcases k with ⟨rfl, k1, kp, g0⟩ | ⟨rfl, k1, k2, _⟩ | ⟨rfl, k1, k2, _⟩ | ⟨rfl, k1, k2, _⟩
    · refine ⟨rfl, fun i hi => ?_⟩
      obtain rfl : i = 0 := by omega
      exact e0.trans g0.symm
    · omega
    · omega
    · omega
  · rcases k with ⟨rfl, k1, _⟩ | ⟨rfl, k1, k2, kp, g0, g1⟩ | ⟨rfl, k1, k2, _⟩ | ⟨rfl, k1, k2, _⟩
    · omega
    · refine ⟨rfl, fun i hi => ?_⟩
      obtain rfl | rfl : i = 0 ∨ i = 1 := by omega
      · exact e0.trans g0.symm
      · exact e1.trans g1.symm
    · omega
    · omega
  · rcases k with ⟨rfl, k1, _⟩ | ⟨rfl, k1, k2, _⟩ | ⟨rfl, k1, k2, k3, kp, g0, g1, g2⟩ | ⟨rfl, k1, k2, _⟩
    · omega
    · omega
    · refine ⟨rfl, fun i hi => ?_⟩
      obtain rfl | rfl | rfl : i = 0 ∨ i = 1 ∨ i = 2 := by omega
      · exact e0.trans g0.symm
      · exact e1.trans g1.symm
      · exact e2.trans g2.symm
    · omega
  · rcases k with ⟨rfl, k1, _⟩ | ⟨rfl, k1, k2, _⟩ | ⟨rfl, k1, k2, _⟩ | ⟨rfl, k1, k2, kp, g0, g1, g2, g3⟩
    · omega
    · omega
    · omega
    · refine ⟨rfl, fun i hi => ?_⟩
      obtain rfl | rfl | rfl | rfl : i = 0 ∨ i = 1 ∨ i = 2 ∨ i = 3 := by omega
      · exact e0.trans g0.symm
      · exact e1.trans g1.symm
      · exact e2.trans g2.symm
      · exact e3.trans g3.symm

theorem toList_eq_iff {s t : ByteArray} : s.toList = t.toList ↔ s = t := by
  rw [Lib.toList_data, Lib.toList_data]
  constructor
  · intro h
    apply ByteArray.ext
    exact Array.toList_inj.1 h
  · rintro rfl; rfl

/-- A first rune that is told by its bytes. -/
theorem first_same {s t : ByteArray} (hs : 0 < s.size) (ht : 0 < t.size) (h : (Utf8.decode s 0).1 = (Utf8.decode t 0).1) (hne : (Utf8.decode s 0).1 ≠ 65533) : cut s 1 = cut t 1 := by
  have fs := decode_fits s 0 hs
  have ft := decode_fits t 0 ht
  rcases enc_or s 0 hs with he | ⟨he, _⟩
  · rcases enc_or t 0 ht with hk | ⟨hk, _⟩
    · rw [h] at he
      obtain ⟨hw, hb⟩ := enc_unique he hk
      rw [cut_one s hs, cut_one t ht]
      apply bytes_ext
      · rw [ByteArray.size_extract, ByteArray.size_extract]; omega
      · intro i hi
        rw [ByteArray.size_extract] at hi
        rw [bAt_extract s 0 _ i (by omega) (by omega), bAt_extract t 0 _ i (by omega) (by omega)]
        exact hb i (by omega)
    · rw [hk] at h; exact absurd h hne
  · rw [he] at hne; exact absurd rfl hne
theorem first_of_cut {s t : ByteArray} (hs : 0 < s.size) (ht : 0 < t.size) (h : cut s 1 = cut t 1) : (Utf8.decode s 0).1 = (Utf8.decode t 0).1 := by
  have fs := decode_fits s 0 hs
  have ft := decode_fits t 0 ht
  have h1 := decode_take s (Utf8.decode s 0).2 0 (by omega) hs (by omega)
  have h2 := decode_take t (Utf8.decode t 0).2 0 (by omega) ht (by omega)
  rw [← cut_one s hs] at h1
  rw [← cut_one t ht] at h2
  rw [← h1, ← h2, h]

/-- Is it U+FFFD, or a byte that begins no rune? -/
theorem odd_iff (s : ByteArray) (hs : 0 < s.size) :
    (((cut s 1).size = 1 ∧ 128 ≤ bAt (cut s 1) 0) ∨ (cut s 1).toList = [239, 191, 189]) ↔ (Utf8.decode s 0).1 = 65533 := by
  have fs := decode_fits s 0 hs
  have hsz : (cut s 1).size = (Utf8.decode s 0).2 := by rw [cut_one s hs, ByteArray.size_extract]; omega
  have hwd := Lib.decode_width_pos s 0 hs
  have hb : ∀ i, i < (Utf8.decode s 0).2 → bAt (cut s 1) i = bAt s i := fun i hi => by
    rw [cut_one s hs, bAt_extract s 0 _ i (by omega) (by omega), Nat.zero_add]
  have hlist : (cut s 1).toList = [239, 191, 189] ↔ ((Utf8.decode s 0).2 = 3 ∧ bAt s 0 = 239 ∧ bAt s 1 = 191 ∧ bAt s 2 = 189) := by
    constructor
    · intro h
      have hl : (cut s 1).size = 3 := by rw [Lib.size_eq, ← Lib.toList_data, h]; rfl
      have hat : ∀ i (hi : i < 3), bAt (cut s 1) i = ([239, 191, 189] : List UInt8)[i].toNat := by
        intro i hi
        rw [bAt_ge (by omega)]
        congr 1
        have h3 : (cut s 1).data.toList[i]? = ([239, 191, 189] : List UInt8)[i]? := by rw [← Lib.toList_data, h]
        rw [Array.getElem?_toList, Array.getElem?_eq_getElem (show i < (cut s 1).data.size from by show i < (cut s 1).size; omega), List.getElem?_eq_getElem (by simpa using hi)] at h3
        exact Option.some.inj h3
      refine ⟨by omega, ?_, ?_, ?_⟩
      · rw [← hb 0 (by omega), hat 0 (by omega)]; rfl
      · rw [← hb 1 (by omega), hat 1 (by omega)]; rfl
      · rw [← hb 2 (by omega), hat 2 (by omega)]; rfl
    · rintro ⟨h0, h1, h2, h3⟩
      have e : cut s 1 = (⟨#[239, 191, 189]⟩ : ByteArray) := by
        apply bytes_ext
        · rw [hsz, h0]; rfl
        · intro i hi
          rw [hsz, h0] at hi
          rw [hb i (by omega)]
          obtain rfl | rfl | rfl : i = 0 ∨ i = 1 ∨ i = 2 := by omega
          · rw [h1]; rfl
          · rw [h2]; rfl
          · rw [h3]; rfl
      rw [e, Lib.toList_data]
  rw [hlist, hsz]
  rcases enc_or s 0 hs with he | ⟨he, h128⟩
  · obtain ⟨c, hc⟩ : ∃ c, (Utf8.decode s 0).1 = c := ⟨_, rfl⟩
    obtain ⟨w, hw⟩ : ∃ w, (Utf8.decode s 0).2 = w := ⟨_, rfl⟩
    rw [hc, hw] at he ⊢
    rw [hw] at hb
    rcases he with ⟨rfl, h1, hp, e0⟩ | ⟨rfl, h1, h2, hp, e0, e1⟩ | ⟨rfl, h1, h2, h3, hp, e0, e1, e2⟩ | ⟨rfl, h1, h2, hp, e0, e1, e2, e3⟩
    · rw [hb 0 (by omega)]; omega
    · omega
    · rw [Nat.zero_add] at e1 e2
      omega
    · omega
  · rw [he] at hb ⊢
    simp only [] at hb ⊢
    rw [hb 0 (by omega)]
    exact ⟨fun _ => trivial, fun _ => Or.inl ⟨trivial, h128⟩⟩
end Go.Proofs.YtlmbkliieckakaaDoor.Nm
