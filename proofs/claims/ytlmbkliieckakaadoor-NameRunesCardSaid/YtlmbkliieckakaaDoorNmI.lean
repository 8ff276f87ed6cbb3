/- Laws of Cut and Pad. Plain Lean. -/
import Derived.Test.YtlmbkliieckakaaDoorNmH
import Derived.Test.YtlmbkliieckakaaDoorNm8
set_option linter.unusedVariables false
namespace Go.Proofs.YtlmbkliieckakaaDoor.Nm
open Go

theorem cutAt_le (s : ByteArray) (n : Int) : cutAt s n ≤ s.size := cutFrom_le s s.size 0 n (by omega)
theorem cut_size (s : ByteArray) (n : Int) : (cut s n).size = cutAt s n := by
  have := cutAt_le s n
  unfold cut; rw [ByteArray.size_extract]; omega
theorem cut_size_le (s : ByteArray) (n : Int) : (cut s n).size ≤ s.size := by rw [cut_size]; exact cutAt_le s n
theorem cut_begins (s : ByteArray) (n : Int) : s.extract 0 (cut s n).size = cut s n := by rw [cut_size]; rfl

theorem runesOf_len_cut (s : ByteArray) (n : Int) : (runesOf (cut s n)).length = min n.toNat (runesOf s).length := by
  rw [runesOf_cut, List.length_take]

theorem cutFrom_fuel (s : ByteArray) : ∀ (f g p : Nat) (n : Int), s.size ≤ p + f → s.size ≤ p + g → cutFrom s f p n = cutFrom s g p n
  | 0, g, p, n, h1, _ => by rw [cutFrom_end s g p n (by omega)]; rfl
  | f + 1, 0, p, n, h1, h2 => by rw [cutFrom_end s (f + 1) p n (by omega)]; rfl
  | f + 1, g + 1, p, n, h1, h2 => by
    by_cases hp : p < s.size
    · have := Lib.decode_width_pos s p hp
      by_cases hn : n ≤ 0
      · rw [cutFrom_now s _ p n hn, cutFrom_now s _ p n hn]
      · rw [cutFrom_step s f p n hp hn, cutFrom_step s g p n hp hn, cutFrom_fuel s f g _ _ (by omega) (by omega)]
    · rw [cutFrom_end s _ p n hp, cutFrom_end s _ p n hp]

theorem cutFrom_all (s : ByteArray) : ∀ (f p : Nat) (n : Int), s.size ≤ p + f → p ≤ s.size → ((runesFrom s f p).length : Int) ≤ n → cutFrom s f p n = s.size
  | 0, p, n, h, h', _ => by show p = s.size; omega
  | f + 1, p, n, h, h', hn => by
    by_cases hp : p < s.size
    · have hfit := decode_fits s p hp
      have hwd := Lib.decode_width_pos s p hp
      rw [runesFrom_step s f p hp, List.length_cons] at hn
      rw [cutFrom_step s f p n hp (by omega)]
      exact cutFrom_all s f _ _ (by omega) hfit (by omega)
    · rw [cutFrom_end s _ p n hp]; omega
theorem cut_all (s : ByteArray) (n : Int) (h : ((runesOf s).length : Int) ≤ n) : cut s n = s := by
  unfold cut cutAt
  rw [cutFrom_all s s.size 0 n (by omega) (by omega) h]
  simp

theorem cutFrom_cut (s : ByteArray) (q : Nat) (hq : q ≤ s.size) : ∀ (f p : Nat) (n m : Int), s.size ≤ p + f → p ≤ s.size → cutFrom s f p n = q →
    cutFrom (s.extract 0 q) f p m = cutFrom s f p (if m < n then m else n)
  | 0, p, n, m, hf, hp, hc => rfl
  | f + 1, p, n, m, hf, hp, hc => by
    have hsz : (s.extract 0 q).size = q := by rw [ByteArray.size_extract]; omega
    by_cases h : p < s.size
    · have hfit := decode_fits s p h
      have hwd := Lib.decode_width_pos s p h
      by_cases hn : n ≤ 0
      · rw [cutFrom_now s _ p n hn] at hc
        subst hc
        rw [cutFrom_end _ _ _ _ (by omega), cutFrom_now s _ p _ (by split <;> omega)]
      · rw [cutFrom_step s f p n h hn] at hc
        have hle : p + (Utf8.decode s p).2 ≤ q := by rw [← hc]; exact runesFrom_take.cutFrom_ge s f _ _
        have hd := decode_take s q p hq h hle
        by_cases hm : m ≤ 0
        · rw [cutFrom_now _ _ p m hm, cutFrom_now s _ p _ (by split <;> omega)]
        · rw [cutFrom_step _ f p m (by omega) hm, hd, cutFrom_cut s q hq f _ (n - 1) (m - 1) (by omega) hfit hc, cutFrom_step s f p _ h (by split <;> omega)]
          congr 1
          split <;> split <;> omega
    · rw [cutFrom_end s _ p _ h, cutFrom_end _ _ p _ (by omega)]
theorem cut_cut (s : ByteArray) (n m : Int) : cut (cut s n) m = cut s (if m < n then m else n) := by
  have hq := cutAt_le s n
  have h := cutFrom_cut s (cutAt s n) hq s.size 0 n m (by omega) (by omega) rfl
  have hsz := cut_size s n
  have e : cutAt (cut s n) m = cutAt s (if m < n then m else n) := by
    unfold cutAt at *
    rw [cutFrom_fuel (cut s n) (cut s n).size s.size 0 m (by omega) (by omega)]
    exact h
  have hle : cutAt s (if m < n then m else n) ≤ cutAt s n := by
    rw [← e, ← hsz]; exact cutAt_le _ _
  unfold cut at e ⊢
  rw [e]
  apply bytes_ext
  · rw [ByteArray.size_extract, ByteArray.size_extract, ByteArray.size_extract]; omega
  · intro i hi
    have hi2 : i < cutAt s (if m < n then m else n) := by
      rw [ByteArray.size_extract, ByteArray.size_extract] at hi; omega
    rw [bAt_extract _ 0 _ i (by rw [ByteArray.size_extract]; omega) (by omega), bAt_extract s 0 _ _ hq (by omega), bAt_extract s 0 _ i (by omega) (by omega)]
    simp

theorem decode_width_le (s : ByteArray) (p : Nat) : (Utf8.decode s p).2 ≤ 4 := by
  simp only [Utf8.decode]
  repeat' split
  all_goals simp

theorem cutFrom_short (s : ByteArray) : ∀ (f p : Nat) (n : Int), (cutFrom s f p n : Int) ≤ p + 4 * max n 0
  | 0, p, n => by show (p : Int) ≤ _; omega
  | f + 1, p, n => by
    by_cases hp : p < s.size
    · by_cases hn : n ≤ 0
      · rw [cutFrom_now s _ p n hn]; omega
      · rw [cutFrom_step s f p n hp hn]
        have := cutFrom_short s f (p + (Utf8.decode s p).2) (n - 1)
        have := decode_width_le s p
        omega
    · rw [cutFrom_end s _ p n hp]; omega
theorem cut_short (s : ByteArray) (k : Int) : ((cut s k).size : Int) ≤ 4 * max k 0 := by
  rw [cut_size]
  have := cutFrom_short s s.size 0 k
  unfold cutAt
  omega

/-- d blanks. -/
def blanks (d : Nat) : ByteArray := ⟨(List.replicate d (32 : UInt8)).toArray⟩
theorem blanks_size (d : Nat) : (blanks d).size = d := by rw [Lib.size_eq]; simp [blanks]

theorem bAt_left (s t : ByteArray) (i : Nat) (h : i < s.size) : bAt (s ++ t) i = bAt s i := by
  rw [bAt_ge (by rw [ByteArray.size_append]; omega), bAt_ge h, ByteArray.getElem_append_left h]
theorem bAt_right (s t : ByteArray) (i : Nat) (h : s.size ≤ i) (h2 : i < s.size + t.size) : bAt (s ++ t) i = bAt t (i - s.size) := by
  rw [bAt_ge (by rw [ByteArray.size_append]; omega), bAt_ge (by omega : i - s.size < t.size), ByteArray.getElem_append_right h]
theorem bAt_blanks (d i : Nat) (h : i < d) : bAt (blanks d) i = 32 := by
  rw [bAt_ge (by rw [blanks_size]; exact h)]
  simp [blanks, ByteArray.getElem_eq_getElem_data]

theorem decode_left (s : ByteArray) (d p : Nat) (hp : p < s.size) : Utf8.decode (s ++ blanks d) p = Utf8.decode s p := by
  have hsz : (s ++ blanks d).size = s.size + d := by rw [ByteArray.size_append, blanks_size]
  rcases enc_or s p hp with he | ⟨he, hb⟩
  · have hle := enc_le he
    have h2 := decode_of_enc (enc_same (t := s ++ blanks d) (q := p) he (by omega) fun i hi => bAt_left s _ _ (by omega))
    rw [h2]
  · rcases enc_or (s ++ blanks d) p (by omega) with h2 | ⟨h2, _⟩
    · exfalso
      have hle := enc_le h2
      by_cases hin : p + (Utf8.decode (s ++ blanks d) p).2 ≤ s.size
      · exact not_enc he _ _ (enc_same h2 hin fun i hi => (bAt_left s _ _ (by omega)).symm)
      · have hbl : ∀ i, s.size ≤ i → i < s.size + d → bAt (s ++ blanks d) i = 32 := fun i h1 h3 => by
          rw [bAt_right s _ i h1 (by rw [blanks_size]; exact h3), bAt_blanks d _ (by omega)]
        rcases h2 with ⟨hw, _, _, e0⟩ | ⟨hw, _, _, _, e0, e1⟩ | ⟨hw, _, _, _, _, e0, e1, e2⟩ | ⟨hw, _, _, _, e0, e1, e2, e3⟩ <;> rw [hw] at hin hle
        · omega
        · have := hbl (p + 1) (by omega) (by omega); omega
        · have := hbl (p + 2) (by omega) (by omega); omega
        · have := hbl (p + 3) (by omega) (by omega); omega
    · rw [he, h2]
theorem decode_right (s : ByteArray) (d p : Nat) (h : s.size ≤ p) (hp : p < s.size + d) : Utf8.decode (s ++ blanks d) p = (32, 1) := by
  have hsz : (s ++ blanks d).size = s.size + d := by rw [ByteArray.size_append, blanks_size]
  exact decode_of_enc (Or.inl ⟨rfl, by omega, by omega, by rw [bAt_right s _ p h (by rw [blanks_size]; exact hp), bAt_blanks d _ (by omega)]⟩)

theorem runes_right (s : ByteArray) (d : Nat) : ∀ (f p : Nat), s.size ≤ p → s.size + d ≤ p + f → (runesFrom (s ++ blanks d) f p).length = s.size + d - p
  | 0, p, h, h' => by show 0 = _; omega
  | f + 1, p, h, h' => by
    have hsz : (s ++ blanks d).size = s.size + d := by rw [ByteArray.size_append, blanks_size]
    by_cases hp : p < s.size + d
    · rw [runesFrom_step _ f p (by omega), decode_right s d p h hp, List.length_cons, runes_right s d f (p + 1) (by omega) (by omega)]
      omega
    · rw [runesFrom_end _ _ p (by omega)]
      show 0 = _
      omega
theorem runes_left (s : ByteArray) (d : Nat) : ∀ (f p : Nat), p ≤ s.size → s.size + d ≤ p + f → (runesFrom (s ++ blanks d) f p).length = (runesFrom s f p).length + d
  | 0, p, h, h' => by show 0 = 0 + d; omega
  | f + 1, p, h, h' => by
    have hsz : (s ++ blanks d).size = s.size + d := by rw [ByteArray.size_append, blanks_size]
    by_cases hp : p < s.size
    · have hfit := decode_fits s p hp
      have hwd := Lib.decode_width_pos s p hp
      rw [runesFrom_step _ f p (by omega), runesFrom_step s f p hp, decode_left s d p hp, List.length_cons, List.length_cons, runes_left s d f _ hfit (by omega)]
      omega
    · rw [runes_right s d (f + 1) p (by omega) h', runesFrom_end s _ p hp]
      show _ = 0 + d
      omega
theorem runesOf_blanks (s : ByteArray) (d : Nat) : (runesOf (s ++ blanks d)).length = (runesOf s).length + d := by
  have hsz : (s ++ blanks d).size = s.size + d := by rw [ByteArray.size_append, blanks_size]
  unfold runesOf
  rw [runes_left s d _ 0 (by omega) (by omega), hsz, runesFrom_fuel s (s.size + d) s.size 0 (by omega) (by omega)]

theorem pad_eq (s : ByteArray) (n : Int) : pad s n = cut s (kept n) ++ blanks ((kept n).toNat - (runesOf (cut s (kept n))).length) := by
  unfold pad blanks
  rw [runeCount_eq]
  congr 3
  have := Lib.repeatL_replicate 32 1 ((kept n).toNat - (runesOf (cut s (kept n))).length)
  simpa using this
end Go.Proofs.YtlmbkliieckakaaDoor.Nm
