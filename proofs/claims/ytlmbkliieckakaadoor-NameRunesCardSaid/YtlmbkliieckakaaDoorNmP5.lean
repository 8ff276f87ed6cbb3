/- The plain side of NameRunes: one rune alone. -/
import Derived.Test.YtlmbkliieckakaaDoorNmH
import Derived.Test.YtlmbkliieckakaaDoorNmI
import Derived.Test.YtlmbkliieckakaaDoorNmK
import Derived.Test.YtlmbkliieckakaaDoorNmP0
import Derived.Test.YtlmbkliieckakaaDoorNmR
set_option linter.unusedVariables false
namespace Go.Proofs.YtlmbkliieckakaaDoor.Nm
open Go QA Go.RowKit Go.Proofs.YtlmbkliieckakaaDoorW.PrintWords

theorem bAt_s0 (a : Int) (l : List Int) : bAt (strOfNums (a :: l)) 0 = a.toNat % 256 := by
  rw [bAt_ge (by rw [strOfNums_size]; simp)]
  show (UInt8.ofNat a.toNat).toNat = _
  rw [UInt8.toNat_ofNat']
theorem bAt_s1 (a b : Int) (l : List Int) : bAt (strOfNums (a :: b :: l)) (0 + 1) = b.toNat % 256 := by
  rw [bAt_ge (by rw [strOfNums_size]; simp)]
  show (UInt8.ofNat b.toNat).toNat = _
  rw [UInt8.toNat_ofNat']
theorem bAt_s2 (a b c : Int) (l : List Int) : bAt (strOfNums (a :: b :: c :: l)) (0 + 2) = c.toNat % 256 := by
  rw [bAt_ge (by rw [strOfNums_size]; simp)]
  show (UInt8.ofNat c.toNat).toNat = _
  rw [UInt8.toNat_ofNat']
theorem bAt_s3 (a b c d : Int) (l : List Int) : bAt (strOfNums (a :: b :: c :: d :: l)) (0 + 3) = d.toNat % 256 := by
  rw [bAt_ge (by rw [strOfNums_size]; simp)]
  show (UInt8.ofNat d.toNat).toNat = _
  rw [UInt8.toNat_ofNat']

theorem enc1 (n : Nat) (a : Int) (h : n < 128) (ha : a.toNat % 256 = n) : Enc (strOfNums [a]) 0 n 1 ∧ (strOfNums [a]).size = 1 :=
  ⟨Or.inl ⟨rfl, h, by rw [strOfNums_size]; simp, by rw [bAt_s0, ha]⟩, strOfNums_size _⟩
theorem enc2 (n : Nat) (a b : Int) (h : 128 ≤ n) (h' : n ≤ 2047) (ha : a.toNat % 256 = 192 + n / 64) (hb : b.toNat % 256 = 128 + n % 64) : Enc (strOfNums [a, b]) 0 n 2 ∧ (strOfNums [a, b]).size = 2 :=
  ⟨Or.inr (Or.inl ⟨rfl, h, h', by rw [strOfNums_size]; simp, by rw [bAt_s0, ha], by rw [bAt_s1, hb]⟩), strOfNums_size _⟩
theorem enc3 (n : Nat) (a b c : Int) (h : 2048 ≤ n) (h' : n ≤ 65535) (hs : ¬ (55296 ≤ n ∧ n ≤ 57343)) (ha : a.toNat % 256 = 224 + n / 4096) (hb : b.toNat % 256 = 128 + n / 64 % 64) (hc : c.toNat % 256 = 128 + n % 64) : Enc (strOfNums [a, b, c]) 0 n 3 ∧ (strOfNums [a, b, c]).size = 3 :=
  ⟨Or.inr (Or.inr (Or.inl ⟨rfl, h, h', hs, by rw [strOfNums_size]; simp, by rw [bAt_s0, ha], by rw [bAt_s1, hb], by rw [bAt_s2, hc]⟩)), strOfNums_size _⟩
theorem enc4 (n : Nat) (a b c d : Int) (h : 65536 ≤ n) (h' : n ≤ 1114111) (ha : a.toNat % 256 = 240 + n / 262144) (hb : b.toNat % 256 = 128 + n / 4096 % 64) (hc : c.toNat % 256 = 128 + n / 64 % 64) (hd : d.toNat % 256 = 128 + n % 64) : Enc (strOfNums [a, b, c, d]) 0 n 4 ∧ (strOfNums [a, b, c, d]).size = 4 :=
  ⟨Or.inr (Or.inr (Or.inr ⟨rfl, h, h', by rw [strOfNums_size]; simp, by rw [bAt_s0, ha], by rw [bAt_s1, hb], by rw [bAt_s2, hc], by rw [bAt_s3, hd]⟩)), strOfNums_size _⟩

theorem td (n : Nat) (d : Nat) : Int.tdiv (n : Int) (d : Int) = ((n / d : Nat) : Int) := by
  rw [Int.tdiv_eq_ediv_of_nonneg (by omega)]; rfl
theorem tm (n : Nat) (d : Nat) : Int.tmod (n : Int) (d : Int) = ((n % d : Nat) : Int) := by
  rw [Int.tmod_eq_emod_of_nonneg (by omega)]; rfl
theorem td64 (n : Nat) : Int.tdiv (n : Int) 64 = ((n / 64 : Nat) : Int) := td n 64
theorem td4096 (n : Nat) : Int.tdiv (n : Int) 4096 = ((n / 4096 : Nat) : Int) := td n 4096
theorem td262144 (n : Nat) : Int.tdiv (n : Int) 262144 = ((n / 262144 : Nat) : Int) := td n 262144
theorem tm64 (n : Nat) : Int.tmod (n : Int) 64 = ((n % 64 : Nat) : Int) := tm n 64
theorem wrn (n : Nat) (h : n ≤ 2000000) : wrap64 (n : Int) = (n : Int) := wrap_id (by omega) (by omega)

theorem mod_at (m : Nat) (h : m < 256) : (((m : Nat) : Int) % 256).toNat % 256 = m := by omega
theorem wr_add (a m : Nat) (h : m ≤ 2000000) (ha : a ≤ 300) : wrap64 ((a : Int) + (m : Int)) = ((a + m : Nat) : Int) := by
  rw [wrap_id (by omega) (by omega)]; omega

theorem spell_f (n : Nat) (hn : n ≤ 1114111) (hs : ¬ (55296 ≤ n ∧ n ≤ 57343)) : ∃ s w, joustlaw06_spell.f 2 (n : Int) = some (s, true) ∧ Enc s 0 n w ∧ s.size = w := by
  have hj : joustlaw06_spell.f 2 (n : Int) = joustlaw06_spell.j0 2 (n : Int) false := by
    unfold joustlaw06_spell.f
    rw [if_neg (by omega), if_neg (by omega)]
    by_cases h : (n : Int) ≥ 55296
    · rw [if_pos h, decide_eq_false (by omega)]
    · rw [if_neg h]
  rw [hj]
  simp only [joustlaw06_spell.j0]
  rw [if_neg (by decide)]
  by_cases h1 : (n : Int) < 128
  · rw [if_pos h1]
    exact ⟨_, 1, rfl, enc1 n _ (by omega) (mod_at n (by omega))⟩
  rw [if_neg h1]
  have e64 : wrap64 ((128 : Int) + Int.tmod (n : Int) 64) = ((128 + n % 64 : Nat) : Int) := by rw [tm64]; exact wr_add 128 (n % 64) (by omega) (by omega)
  have f64 : wrap64 ((128 : Int) + Int.tmod (wrap64 (Int.tdiv (n : Int) 64)) 64) = ((128 + n / 64 % 64 : Nat) : Int) := by
    rw [td64, wrn (n / 64) (by omega), tm64]; exact wr_add 128 (n / 64 % 64) (by omega) (by omega)
  have g64 : wrap64 ((128 : Int) + Int.tmod (wrap64 (Int.tdiv (n : Int) 4096)) 64) = ((128 + n / 4096 % 64 : Nat) : Int) := by
    rw [td4096, wrn (n / 4096) (by omega), tm64]; exact wr_add 128 (n / 4096 % 64) (by omega) (by omega)
  have a2 : wrap64 ((192 : Int) + wrap64 (Int.tdiv (n : Int) 64)) = ((192 + n / 64 : Nat) : Int) := by
    rw [td64, wrn (n / 64) (by omega)]; exact wr_add 192 (n / 64) (by omega) (by omega)
  have a3 : wrap64 ((224 : Int) + wrap64 (Int.tdiv (n : Int) 4096)) = ((224 + n / 4096 : Nat) : Int) := by
    rw [td4096, wrn (n / 4096) (by omega)]; exact wr_add 224 (n / 4096) (by omega) (by omega)
  have a4 : wrap64 ((240 : Int) + wrap64 (Int.tdiv (n : Int) 262144)) = ((240 + n / 262144 : Nat) : Int) := by
    rw [td262144, wrn (n / 262144) (by omega)]; exact wr_add 240 (n / 262144) (by omega) (by omega)
  rw [e64, f64, g64, a2, a3, a4]
  clear e64 f64 g64 a2 a3 a4 hj
  by_cases h2 : (n : Int) < 2048
  · rw [if_pos h2]
    exact ⟨_, 2, rfl, enc2 n _ _ (by omega) (by omega) (mod_at _ (by omega)) (mod_at _ (by omega))⟩
  rw [if_neg h2]
  by_cases h3 : (n : Int) < 65536
  · rw [if_pos h3]
    exact ⟨_, 3, rfl, enc3 n _ _ _ (by omega) (by omega) hs (mod_at _ (by omega)) (mod_at _ (by omega)) (mod_at _ (by omega))⟩
  rw [if_neg h3]
  exact ⟨_, 4, rfl, enc4 n _ _ _ _ (by omega) (by omega) (mod_at _ (by omega)) (mod_at _ (by omega)) (mod_at _ (by omega)) (mod_at _ (by omega))⟩

theorem spell_bad (n : Int) (h : n < 0 ∨ 1114111 < n ∨ (55296 ≤ n ∧ n ≤ 57343)) : joustlaw06_spell.f 2 n = some (⟨#[]⟩, false) := by
  unfold joustlaw06_spell.f
  have hj : joustlaw06_spell.j0 2 n true = some (⟨#[]⟩, false) := rfl
  by_cases h1 : n < 0
  · rw [if_pos h1, hj]
  rw [if_neg h1]
  by_cases h2 : n > 1114111
  · rw [if_pos h2, hj]
  rw [if_neg h2, if_pos (by omega), decide_eq_true (by omega), hj]

theorem enc_eq {s t : ByteArray} {c w w' : Nat} (h : Enc s 0 c w) (k : Enc t 0 c w') (hs : s.size = w) (ht : t.size = w') : s = t := by
  obtain ⟨e, hb⟩ := enc_unique h k
  refine bytes_ext (by omega) fun i hi => ?_
  have := hb i (by omega)
  simpa using this

theorem fits_good (n : Nat) : fitsB (n : Int) = goodP n := by
  rw [Bool.eq_iff_iff]
  unfold fitsB goodP
  simp [fitsL, inSpan]
  omega

theorem enc_w {s : ByteArray} {p c w : Nat} (h : Enc s p c w) : 1 ≤ w ∧ w ≤ 4 := by
  rcases h with h | h | h | h <;> omega

theorem one_runes {s : ByteArray} {n w : Nat} (h : Enc s 0 n w) (hw : s.size = w) : runesOf s = [(0, n, w)] := by
  have hb := enc_w h
  obtain ⟨f, hf⟩ : ∃ f, s.size = f + 1 := ⟨s.size - 1, by omega⟩
  unfold runesOf
  rw [hf, runesFrom_step s f 0 (by omega), decode_of_enc h, runesFrom_end s _ _ (by simp; omega)]

theorem one_check {s : ByteArray} {n w : Nat} (h : Enc s 0 n w) (hw : s.size = w) : checkOf fitsB s = goodP n := by
  have hb := enc_w h
  obtain ⟨f, hf⟩ : ∃ f, s.size = f + 1 := ⟨s.size - 1, by omega⟩
  unfold checkOf
  rw [hf]
  simp only [checkFrom]
  rw [if_pos (by omega), if_neg (by omega), decode_of_enc h]
  simp only []
  rw [fits_good]
  cases hg : goodP n
  · rfl
  · rw [if_pos rfl, checkFrom_end _ _ _ _ _ (by omega), decide_eq_true (by omega)]

theorem low_m (n : Nat) : mOf n = (low n : Int) := by
  by_cases h : (65 ≤ n ∧ n ≤ 90) ∨ (192 ≤ n ∧ n ≤ 214) ∨ (216 ≤ n ∧ n ≤ 222)
  · rw [low_big h]
    unfold mOf bigP
    rw [if_pos (decide_eq_true (by omega))]
    omega
  · rw [low_not h]
    unfold mOf bigP
    rw [if_neg (by simp only [decide_eq_true_eq]; omega)]

theorem cont_no {u : ByteArray} {p : Nat} (h : bAt u p / 64 = 2) (c w : Nat) : ¬ Enc u p c w := by
  rintro (⟨_, h1, _, e⟩ | ⟨_, _, h2, _, e, _⟩ | ⟨_, _, h2, _, _, e, _⟩ | ⟨_, _, h2, _, e, _⟩) <;> omega
theorem lead_no {u : ByteArray} (h : (192 ≤ bAt u 0 ∧ bAt u 0 ≤ 223 ∧ u.size = 1) ∨ (224 ≤ bAt u 0 ∧ bAt u 0 ≤ 239 ∧ u.size = 2) ∨ (240 ≤ bAt u 0 ∧ u.size = 3)) (c w : Nat) : ¬ Enc u 0 c w := by
  rintro (⟨_, h1, _, e⟩ | ⟨_, _, h2, z, e, _⟩ | ⟨_, _, h2, _, z, e, _⟩ | ⟨_, _, h2, z, e, _⟩) <;> omega

/-- A rune with its last byte cut off. -/
theorem cut_bytes {s : ByteArray} {n w : Nat} (h : Enc s 0 n w) (hw : s.size = w) (hne : w ≠ 1) (p : Nat) (hp : p < w - 1) :
    128 ≤ bAt (s.extract 0 (w - 1)) p ∧ (0 < p → bAt (s.extract 0 (w - 1)) (p - 1) ≠ 195) ∧ ∀ c w', ¬ Enc (s.extract 0 (w - 1)) p c w' := by
  have hb := enc_w h
  have hx : ∀ i, i < w - 1 → bAt (s.extract 0 (w - 1)) i = bAt s i := by
    intro i hi
    have := bAt_extract s 0 (w - 1) i (by omega) (by omega)
    simpa using this
  have hsz : (s.extract 0 (w - 1)).size = w - 1 := by rw [ByteArray.size_extract]; omega
  obtain ⟨u, hu⟩ : ∃ u, s.extract 0 (w - 1) = u := ⟨_, rfl⟩
  rw [hu] at hsz ⊢
  simp only [hu] at hx
  clear hu
  have g0 := hx p hp
  have g1 := hx 0 (by omega)
  have g2 : 0 < p → bAt u (p - 1) = bAt s (p - 1) := fun h => hx (p - 1) (by omega)
  clear hx
  have key : (192 ≤ bAt s 0) ∧ (w = 2 → bAt s 0 ≤ 223) ∧ (w = 3 → 224 ≤ bAt s 0 ∧ bAt s 0 ≤ 239) ∧ (w = 4 → 240 ≤ bAt s 0) ∧ (∀ i, 0 < i → i < w → bAt s i / 64 = 2) := by
    rcases h with ⟨h, _⟩ | ⟨rfl, h1, h2, _, e0, e1⟩ | ⟨rfl, h1, h2, _, _, e0, e1, e2⟩ | ⟨rfl, h1, h2, _, e0, e1, e2, e3⟩
    · exact absurd h hne
    · refine ⟨by omega, by omega, by omega, by omega, fun i h0 hi => ?_⟩
      obtain rfl : i = 1 := by omega
      simp only [Nat.zero_add] at e1
      clear e0
      omega
    · refine ⟨by omega, by omega, by omega, by omega, fun i h0 hi => ?_⟩
      simp only [Nat.zero_add] at e1 e2
      clear e0
      rcases (show i = 1 ∨ i = 2 by omega) with rfl | rfl <;> omega
    · refine ⟨by omega, by omega, by omega, by omega, fun i h0 hi => ?_⟩
      simp only [Nat.zero_add] at e1 e2 e3
      clear e0
      rcases (show i = 1 ∨ i = 2 ∨ i = 3 by omega) with rfl | rfl | rfl <;> omega
  obtain ⟨k1, k2, k3, k4, k5⟩ := key
  clear h
  by_cases h0 : p = 0
  · subst h0
    refine ⟨by omega, by omega, lead_no ?_⟩
    rcases (show w = 2 ∨ w = 3 ∨ w = 4 by omega) with rfl | rfl | rfl
    · have := k2 rfl; omega
    · have := k3 rfl; omega
    · have := k4 rfl; omega
  · have q := k5 p (by omega) (by omega)
    refine ⟨by omega, fun _ => ?_, cont_no (by rw [g0]; exact q)⟩
    rw [g2 (by omega)]
    by_cases h1 : p - 1 = 0
    · rw [h1]
      rcases (show w = 2 ∨ w = 3 ∨ w = 4 by omega) with rfl | rfl | rfl
      · omega
      · have := k3 rfl; omega
      · have := k4 rfl; omega
    · have := k5 (p - 1) (by omega) (by omega)
      omega

theorem odd_len (u : ByteArray) (h : ∀ p, p < u.size → Utf8.decode u p = (65533, 1)) : ∀ f p, u.size ≤ p + f → p ≤ u.size → (runesFrom u f p).length = u.size - p
  | 0, p, h1, h2 => by rw [runesFrom_end u 0 p (by omega)]; simp; omega
  | f + 1, p, h1, h2 => by
    by_cases hp : p < u.size
    · rw [runesFrom_step u f p hp, h p hp, List.length_cons, odd_len u h f (p + 1) (by omega) (by omega)]; omega
    · rw [runesFrom_end u _ p hp]; simp; omega

theorem cut_laws {s : ByteArray} {n w : Nat} (h : Enc s 0 n w) (hw : s.size = w) (hne : w ≠ 1) :
    ((runesOf (s.extract 0 (w - 1))).length = (s.extract 0 (w - 1)).size) ∧ checkOf fitsB (s.extract 0 (w - 1)) = false ∧ fold (s.extract 0 (w - 1)) = s.extract 0 (w - 1) := by
  have hb := enc_w h
  have H := fun p hp => cut_bytes h hw hne p hp
  have hsz : (s.extract 0 (w - 1)).size = w - 1 := by rw [ByteArray.size_extract]; omega
  obtain ⟨u, hu⟩ : ∃ u, s.extract 0 (w - 1) = u := ⟨_, rfl⟩
  rw [hu] at hsz ⊢
  simp only [hu] at H
  have hd : ∀ p, p < u.size → Utf8.decode u p = (65533, 1) := by
    intro p hp
    rcases enc_or u p hp with he | ⟨he, _⟩
    · exact absurd he ((H p (by omega)).2.2 _ _)
    · exact he
  refine ⟨?_, ?_, ?_⟩
  · unfold runesOf
    rw [odd_len u hd u.size 0 (by omega) (by omega)]; omega
  · unfold checkOf
    obtain ⟨f, hf⟩ : ∃ f, u.size = f + 1 := ⟨u.size - 1, by omega⟩
    rw [hf]
    simp only [checkFrom]
    rw [if_pos (by omega), if_neg (by omega), hd 0 (by omega)]
    rfl
  · refine bytes_ext (fold_size u) fun i hi => ?_
    rw [fold_size] at hi
    rw [fold_at u i hi]
    have := H i (by omega)
    exact fb_same (by omega) (fun k => this.2.1 k.1 k.2.1)

theorem twice {s : ByteArray} {n w : Nat} (h : Enc s 0 n w) (hw : s.size = w) : (runesOf (s ++ s)).length = 2 := by
  have hb := enc_w h
  have hsz : (s ++ s).size = w + w := by rw [ByteArray.size_append]; omega
  have e0 : Enc (s ++ s) 0 n w := enc_same h (by omega) (fun i hi => by rw [bAt_left s s _ (by omega)])
  have e1 : Enc (s ++ s) w n w := enc_same h (by omega) (fun i hi => by rw [bAt_right s s _ (by omega) (by omega)]; congr 1; omega)
  obtain ⟨f, hf⟩ : ∃ f, (s ++ s).size = f + 1 + 1 := ⟨(s ++ s).size - 2, by omega⟩
  unfold runesOf
  rw [hf, runesFrom_step _ _ 0 (by omega), decode_of_enc e0, runesFrom_step _ _ _ (by simp; omega)]
  simp only [Nat.zero_add]
  rw [decode_of_enc e1, runesFrom_end _ _ _ (by simp; omega)]
  rfl
end Go.Proofs.YtlmbkliieckakaaDoor.Nm
