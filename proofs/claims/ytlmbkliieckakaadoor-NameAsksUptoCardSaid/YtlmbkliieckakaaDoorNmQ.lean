/- NameAsks, plain: the document's runes, Check, Fold, Cut, Pad and Near are the program's. -/
import Derived.Test.YtlmbkliieckakaaDoorQA3
import Derived.Test.YtlmbkliieckakaaDoorNmP0
import Derived.Test.YtlmbkliieckakaaDoorNmK
import Derived.Test.YtlmbkliieckakaaDoorNmF
import Derived.Test.YtlmbkliieckakaaDoorQA4
import Derived.Test.YtlmbkliieckakaaDoorNmH
import Derived.Test.YtlmbkliieckakaaDoorQA5
import Derived.Test.YtlmbkliieckakaaDoorNmI
import Derived.Test.YtlmbkliieckakaaDoorQA8
import Derived.Test.YtlmbkliieckakaaDoorNmJ
set_option linter.unusedVariables false
namespace Go.Proofs.YtlmbkliieckakaaDoor.Nm
open Go QA Go.RowKit Go.Proofs.YtlmbkliieckakaaDoorW.PrintWords

theorem wrap_byte (s : ByteArray) (i : Nat) : wrap64 (bAt s i : Int) = (bAt s i : Int) := by
  have := bAt_lt s i
  exact wrap_id (by omega) (by omega)

theorem goes_f (s : ByteArray) (i : Nat) (lo hi : Int) : joustref06_goes.f s (i : Int) lo hi = some (decide (i < s.size ∧ lo ≤ (bAt s i : Int) ∧ (bAt s i : Int) ≤ hi)) := by
  unfold joustref06_goes.f
  by_cases h : i < s.size
  · rw [if_pos (by omega), if_pos (by omega), bt_bAt s i h, wrap_byte]
    by_cases h1 : (bAt s i : Int) ≥ lo
    · rw [if_pos h1]
      congr 1
      rw [Bool.eq_iff_iff, decide_eq_true_eq, decide_eq_true_eq]
      exact ⟨fun h2 => ⟨h, h1, h2⟩, fun h2 => h2.2.2⟩
    · rw [if_neg h1, decide_eq_false (fun k => h1 k.2.1)]
  · rw [if_neg (by omega), decide_eq_false (fun k => h k.1)]

theorem wr_at (p d : Nat) (h : p ≤ 140737488351232) (hd : d ≤ 10) : wrap64 ((p : Int) + (d : Int)) = ((p + d : Nat) : Int) := by
  rw [wrap_id (by omega) (by omega)]; omega

def Sz (s : ByteArray) (p r : Nat) : Prop := (r = 0 ∧ ∀ c w, ¬ Enc s p c w) ∨ ∃ c, Enc s p c r

theorem size3 (s : ByteArray) (p : Nat) (hs : p ≤ 140737488351232) (k : Nat) (lo hi : Int) :
    joustref06_size.j3 (k + 1) s (p : Int) lo hi = some (if (p + 1 < s.size ∧ lo ≤ (bAt s (p + 1) : Int) ∧ (bAt s (p + 1) : Int) ≤ hi) ∧ (p + 2 < s.size ∧ (128 : Int) ≤ (bAt s (p + 2) : Int) ∧ (bAt s (p + 2) : Int) ≤ 191) then (3 : Int) else 0) := by
  simp only [joustref06_size.j3]
  rw [show wrap64 ((p : Int) + 1) = ((p + 1 : Nat) : Int) from wr_at p 1 hs (by decide), show wrap64 ((p : Int) + 2) = ((p + 2 : Nat) : Int) from wr_at p 2 hs (by decide), goes_f, goes_f, Option.bind_some, Option.bind_some]
  by_cases h1 : p + 1 < s.size ∧ lo ≤ (bAt s (p + 1) : Int) ∧ (bAt s (p + 1) : Int) ≤ hi
  · rw [if_pos (decide_eq_true h1)]
    by_cases h2 : p + 2 < s.size ∧ (128 : Int) ≤ (bAt s (p + 2) : Int) ∧ (bAt s (p + 2) : Int) ≤ 191
    · rw [if_pos (decide_eq_true h2), if_pos ⟨h1, h2⟩]
    · rw [if_neg (by rw [decide_eq_false h2]; decide), if_neg (fun k => h2 k.2)]
  · rw [if_neg (by rw [decide_eq_false h1]; decide), if_neg (fun k => h1 k.1)]

theorem size4 (s : ByteArray) (p : Nat) (hs : p ≤ 140737488351232) (k : Nat) (lo hi : Int) :
    joustref06_size.j6 (k + 1) s (p : Int) lo hi = some (if (p + 1 < s.size ∧ lo ≤ (bAt s (p + 1) : Int) ∧ (bAt s (p + 1) : Int) ≤ hi) ∧ (p + 2 < s.size ∧ (128 : Int) ≤ (bAt s (p + 2) : Int) ∧ (bAt s (p + 2) : Int) ≤ 191) ∧ (p + 3 < s.size ∧ (128 : Int) ≤ (bAt s (p + 3) : Int) ∧ (bAt s (p + 3) : Int) ≤ 191) then (4 : Int) else 0) := by
  simp only [joustref06_size.j6]
  rw [show wrap64 ((p : Int) + 1) = ((p + 1 : Nat) : Int) from wr_at p 1 hs (by decide), show wrap64 ((p : Int) + 2) = ((p + 2 : Nat) : Int) from wr_at p 2 hs (by decide), show wrap64 ((p : Int) + 3) = ((p + 3 : Nat) : Int) from wr_at p 3 hs (by decide), goes_f, goes_f, goes_f, Option.bind_some, Option.bind_some, Option.bind_some]
  by_cases h1 : p + 1 < s.size ∧ lo ≤ (bAt s (p + 1) : Int) ∧ (bAt s (p + 1) : Int) ≤ hi
  · rw [if_pos (decide_eq_true h1)]
    by_cases h2 : p + 2 < s.size ∧ (128 : Int) ≤ (bAt s (p + 2) : Int) ∧ (bAt s (p + 2) : Int) ≤ 191
    · rw [if_pos (decide_eq_true h2)]
      by_cases h3 : p + 3 < s.size ∧ (128 : Int) ≤ (bAt s (p + 3) : Int) ∧ (bAt s (p + 3) : Int) ≤ 191
      · rw [if_pos (decide_eq_true h3), if_pos ⟨h1, h2, h3⟩]
      · rw [if_neg (by rw [decide_eq_false h3]; decide), if_neg (fun k => h3 k.2.2)]
    · rw [if_neg (by rw [decide_eq_false h2]; decide), if_neg (fun k => h2 k.2.1)]
  · rw [if_neg (by rw [decide_eq_false h1]; decide), if_neg (fun k => h1 k.1)]

theorem end3 (s : ByteArray) (p : Nat) (hb : 224 ≤ bAt s p ∧ bAt s p ≤ 239) (lo hi : Int) (hlo : lo = if bAt s p = 224 then 160 else 128) (hhi : hi = if bAt s p = 237 then 159 else 191) :
    ∃ r : Nat, (if (p + 1 < s.size ∧ lo ≤ (bAt s (p + 1) : Int) ∧ (bAt s (p + 1) : Int) ≤ hi) ∧ (p + 2 < s.size ∧ (128 : Int) ≤ (bAt s (p + 2) : Int) ∧ (bAt s (p + 2) : Int) ≤ 191) then (3 : Int) else 0) = (r : Int) ∧ Sz s p r := by
  obtain ⟨b0, e0⟩ : ∃ b, bAt s p = b := ⟨_, rfl⟩
  obtain ⟨b1, e1⟩ : ∃ b, bAt s (p + 1) = b := ⟨_, rfl⟩
  obtain ⟨b2, e2⟩ : ∃ b, bAt s (p + 2) = b := ⟨_, rfl⟩
  rw [e0] at hb hlo hhi
  rw [e1, e2]
  split
  · rename_i h
    refine ⟨3, rfl, Or.inr ⟨(b0 - 224) * 4096 + (b1 - 128) * 64 + (b2 - 128), Or.inr (Or.inr (Or.inl ⟨rfl, ?_, ?_, ?_, h.2.1, ?_, ?_, ?_⟩))⟩⟩
    · split at hlo <;> omega
    · omega
    · split at hhi <;> omega
    · rw [e0]; omega
    · rw [e1]; split at hlo <;> split at hhi <;> omega
    · rw [e2]; split at hlo <;> split at hhi <;> omega
  · rename_i h
    refine ⟨0, rfl, Or.inl ⟨rfl, fun c w k => h ?_⟩⟩
    rcases k with ⟨_, h1, _, e⟩ | ⟨_, _, h2, _, e, _⟩ | ⟨_, h1, h2, h3, z, e, e', e''⟩ | ⟨_, h1, h2, _, e, _⟩
    · omega
    · omega
    · rw [e0] at e; rw [e1] at e'; rw [e2] at e''
      refine ⟨⟨by omega, ?_, ?_⟩, z, by omega, by omega⟩
      · split at hlo <;> omega
      · split at hhi <;> omega
    · omega

theorem end4 (s : ByteArray) (p : Nat) (hb : 240 ≤ bAt s p ∧ bAt s p ≤ 244) (lo hi : Int) (hlo : lo = if bAt s p = 240 then 144 else 128) (hhi : hi = if bAt s p = 244 then 143 else 191) :
    ∃ r : Nat, (if (p + 1 < s.size ∧ lo ≤ (bAt s (p + 1) : Int) ∧ (bAt s (p + 1) : Int) ≤ hi) ∧ (p + 2 < s.size ∧ (128 : Int) ≤ (bAt s (p + 2) : Int) ∧ (bAt s (p + 2) : Int) ≤ 191) ∧ (p + 3 < s.size ∧ (128 : Int) ≤ (bAt s (p + 3) : Int) ∧ (bAt s (p + 3) : Int) ≤ 191) then (4 : Int) else 0) = (r : Int) ∧ Sz s p r := by
  obtain ⟨b0, e0⟩ : ∃ b, bAt s p = b := ⟨_, rfl⟩
  obtain ⟨b1, e1⟩ : ∃ b, bAt s (p + 1) = b := ⟨_, rfl⟩
  obtain ⟨b2, e2⟩ : ∃ b, bAt s (p + 2) = b := ⟨_, rfl⟩
  obtain ⟨b3, e3⟩ : ∃ b, bAt s (p + 3) = b := ⟨_, rfl⟩
  rw [e0] at hb hlo hhi
  rw [e1, e2, e3]
  split
  · rename_i h
    have h128 : 128 ≤ b1 ∧ b1 ≤ 191 := by split at hlo <;> split at hhi <;> omega
    refine ⟨4, rfl, Or.inr ⟨(b0 - 240) * 262144 + (b1 - 128) * 4096 + (b2 - 128) * 64 + (b3 - 128), Or.inr (Or.inr (Or.inr ⟨rfl, ?_, ?_, h.2.2.1, ?_, ?_, ?_, ?_⟩))⟩⟩
    · split at hlo <;> omega
    · split at hhi <;> omega
    · rw [e0]; omega
    · rw [e1]; omega
    · rw [e2]; omega
    · rw [e3]; omega
  · rename_i h
    refine ⟨0, rfl, Or.inl ⟨rfl, fun c w k => h ?_⟩⟩
    rcases k with ⟨_, h1, _, e⟩ | ⟨_, _, h2, _, e, _⟩ | ⟨_, h1, h2, h3, z, e, e', e''⟩ | ⟨_, h1, h2, z, e, e', e'', e3'⟩
    · omega
    · omega
    · omega
    · rw [e0] at e; rw [e1] at e'; rw [e2] at e''; rw [e3] at e3'
      refine ⟨⟨by omega, ?_, ?_⟩, ⟨by omega, by omega, by omega⟩, z, by omega, by omega⟩
      · split at hlo <;> omega
      · split at hhi <;> omega

theorem size_f (s : ByteArray) (p : Nat) (hp : p < s.size) (hs : s.size ≤ 140737488351232) (k : Nat) : ∃ r : Nat, joustref06_size.f (k + 6) s (p : Int) = some (r : Int) ∧ Sz s p r := by
  unfold joustref06_size.f
  rw [if_pos (by omega), if_pos (by omega), bt_bAt s p hp, wrap_byte]
  have hl := bAt_lt s p
  have no : ∀ (b : Nat), bAt s p = b → (128 ≤ b ∧ b < 194) ∨ 244 < b → ∀ c w, ¬ Enc s p c w := by
    intro b e h c w
    rintro (⟨_, h1, _, e'⟩ | ⟨_, h1, h2, _, e', _⟩ | ⟨_, _, h2, _, _, e', _⟩ | ⟨_, _, h2, _, e', _⟩) <;> omega
  by_cases h1 : (bAt s p : Int) < 128
  · rw [if_pos h1]
    exact ⟨1, rfl, Or.inr ⟨bAt s p, Or.inl ⟨rfl, by omega, hp, rfl⟩⟩⟩
  rw [if_neg h1]
  by_cases h2 : 194 ≤ bAt s p ∧ bAt s p ≤ 223
  · rw [if_pos (by omega), decide_eq_true (by omega)]
    simp only [joustref06_size.j0]
    rw [if_pos trivial, show wrap64 ((p : Int) + 1) = ((p + 1 : Nat) : Int) from wr_at p 1 (by omega) (by decide), goes_f, Option.bind_some]
    by_cases h3 : p + 1 < s.size ∧ (128 : Int) ≤ (bAt s (p + 1) : Int) ∧ (bAt s (p + 1) : Int) ≤ 191
    · rw [if_pos (decide_eq_true h3)]
      exact ⟨2, rfl, Or.inr ⟨(bAt s p - 192) * 64 + (bAt s (p + 1) - 128), Or.inr (Or.inl ⟨rfl, by omega, by omega, h3.1, by omega, by omega⟩)⟩⟩
    · rw [if_neg (by rw [decide_eq_false h3]; decide)]
      refine ⟨0, rfl, Or.inl ⟨rfl, fun c w k => h3 ?_⟩⟩
      rcases k with ⟨_, h1, _, e⟩ | ⟨_, _, h2, z, e, e'⟩ | ⟨_, h1, h2, h3, z, e, _⟩ | ⟨_, h1, h2, _, e, _⟩
      · omega
      · exact ⟨z, by omega, by omega⟩
      · omega
      · omega
  have g : (if (bAt s p : Int) ≥ 194 then (joustref06_size.j0 (k + 6) s (p : Int) (bAt s p : Int) 128 191 (decide ((bAt s p : Int) ≤ 223))) else (joustref06_size.j0 (k + 6) s (p : Int) (bAt s p : Int) 128 191 false)) = joustref06_size.j0 (k + 6) s (p : Int) (bAt s p : Int) 128 191 false := by
    by_cases h : (bAt s p : Int) ≥ 194
    · rw [if_pos h, decide_eq_false (by omega)]
    · rw [if_neg h]
  rw [g]
  simp only [joustref06_size.j0]
  rw [if_neg (by decide)]
  by_cases h3 : 224 ≤ bAt s p ∧ bAt s p ≤ 239
  · rw [if_pos (by omega), decide_eq_true (by omega)]
    simp only [joustref06_size.j1]
    rw [if_pos trivial]
    simp only [joustref06_size.j2]
    have e := fun lo hi => end3 s p h3 lo hi
    by_cases h4 : bAt s p = 224
    · rw [if_pos (by omega), if_neg (by omega), size3 s p (by omega)]
      obtain ⟨r, hr, hz⟩ := e 160 191 (by rw [if_pos h4]) (by rw [if_neg (by omega)])
      exact ⟨r, by rw [hr], hz⟩
    · rw [if_neg (by omega)]
      by_cases h5 : bAt s p = 237
      · rw [if_pos (by omega), size3 s p (by omega)]
        obtain ⟨r, hr, hz⟩ := e 128 159 (by rw [if_neg h4]) (by rw [if_pos h5])
        exact ⟨r, by rw [hr], hz⟩
      · rw [if_neg (by omega), size3 s p (by omega)]
        obtain ⟨r, hr, hz⟩ := e 128 191 (by rw [if_neg h4]) (by rw [if_neg h5])
        exact ⟨r, by rw [hr], hz⟩
  have g : (if (bAt s p : Int) ≥ 224 then (joustref06_size.j1 (k + 5) s (p : Int) (bAt s p : Int) 128 191 (decide ((bAt s p : Int) ≤ 239))) else (joustref06_size.j1 (k + 5) s (p : Int) (bAt s p : Int) 128 191 false)) = joustref06_size.j1 (k + 5) s (p : Int) (bAt s p : Int) 128 191 false := by
    by_cases h : (bAt s p : Int) ≥ 224
    · rw [if_pos h, decide_eq_false (by omega)]
    · rw [if_neg h]
  rw [g]
  simp only [joustref06_size.j1]
  rw [if_neg (by decide)]
  by_cases h4 : 240 ≤ bAt s p ∧ bAt s p ≤ 244
  · rw [if_pos (by omega), decide_eq_true (by omega)]
    simp only [joustref06_size.j4]
    rw [if_pos trivial]
    simp only [joustref06_size.j5]
    have e := fun lo hi => end4 s p h4 lo hi
    by_cases h5 : bAt s p = 240
    · rw [if_pos (by omega), if_neg (by omega), size4 s p (by omega)]
      obtain ⟨r, hr, hz⟩ := e 144 191 (by rw [if_pos h5]) (by rw [if_neg (by omega)])
      exact ⟨r, by rw [hr], hz⟩
    · rw [if_neg (by omega)]
      by_cases h6 : bAt s p = 244
      · rw [if_pos (by omega), size4 s p (by omega)]
        obtain ⟨r, hr, hz⟩ := e 128 143 (by rw [if_neg h5]) (by rw [if_pos h6])
        exact ⟨r, by rw [hr], hz⟩
      · rw [if_neg (by omega), size4 s p (by omega)]
        obtain ⟨r, hr, hz⟩ := e 128 191 (by rw [if_neg h5]) (by rw [if_neg h6])
        exact ⟨r, by rw [hr], hz⟩
  have g : (if (bAt s p : Int) ≥ 240 then (joustref06_size.j4 (k + 4) s (p : Int) (bAt s p : Int) 128 191 (decide ((bAt s p : Int) ≤ 244))) else (joustref06_size.j4 (k + 4) s (p : Int) (bAt s p : Int) 128 191 false)) = some ((0 : Nat) : Int) := by
    by_cases h : (bAt s p : Int) ≥ 240
    · rw [if_pos h, decide_eq_false (by omega)]; rfl
    · rw [if_neg h]; rfl
  rw [g]
  exact ⟨0, rfl, Or.inl ⟨rfl, no _ rfl (by omega)⟩⟩

theorem number_step (t : ByteArray) (k i : Nat) (x : Int) (hi : i < t.size) (hs : t.size ≤ 100) (hx0 : 0 ≤ x) (hx1 : x ≤ 100000000) :
    joustref06_number.l0 (k + 1) t x (i : Int) = joustref06_number.l0 k t (64 * x + (bAt t i : Int) - 128) ((i + 1 : Nat) : Int) := by
  have hb := bAt_lt t i
  simp only [joustref06_number.l0]
  rw [if_pos (by omega), if_pos (by omega), bt_bAt t i hi, wrap_byte, wrap_id (x := 64 * x) (by omega) (by omega), wrap_id (x := 64 * x + (bAt t i : Int)) (by omega) (by omega), wrap_id (x := 64 * x + (bAt t i : Int) - 128) (by omega) (by omega), show wrap64 ((i : Int) + 1) = ((i + 1 : Nat) : Int) from wr_at i 1 (by omega) (by decide)]
theorem number_end (t : ByteArray) (k i : Nat) (x : Int) (hi : t.size = i) : joustref06_number.l0 (k + 1) t x (i : Int) = some x := by
  simp only [joustref06_number.l0]
  rw [if_neg (by omega)]

theorem number_f (t : ByteArray) (c w : Nat) (h : Enc t 0 c w) (hw : t.size = w) (k : Nat) : joustref06_number.f (k + 6) t = some (c : Int) := by
  have hb0 : 0 < t.size → bt t 0 = bAt t 0 := fun h => bt_bAt t 0 h
  unfold joustref06_number.f
  rcases h with ⟨rfl, h1, z, e0⟩ | ⟨rfl, h1, h2, z, e0, e1⟩ | ⟨rfl, h1, h2, h3, z, e0, e1, e2⟩ | ⟨rfl, h1, h2, z, e0, e1, e2, e3⟩
  · rw [if_pos (by omega), if_neg (by omega), if_neg (by omega), if_neg (by omega), hb0 (by omega), wrap_byte]
    simp only [joustref06_number.j0]
    exact (number_end t _ 1 _ hw).trans (by rw [e0])
  · simp only [Nat.zero_add] at e1
    rw [if_pos (by omega), if_pos (by omega), hb0 (by omega), wrap_byte, wrap_id (x := (bAt t 0 : Int) - 192) (by omega) (by omega)]
    simp only [joustref06_number.j0]
    refine (number_step t _ 1 _ (by omega) (by omega) (by omega) (by omega)).trans ((number_end t _ 2 _ hw).trans ?_)
    congr 1
    omega
  · simp only [Nat.zero_add] at e1 e2
    rw [if_pos (by omega), if_neg (by omega), if_pos (by omega), hb0 (by omega), wrap_byte, wrap_id (x := (bAt t 0 : Int) - 224) (by omega) (by omega)]
    simp only [joustref06_number.j0]
    refine (number_step t _ 1 _ (by omega) (by omega) (by omega) (by omega)).trans ((number_step t _ 2 _ (by omega) (by omega) (by omega) (by omega)).trans ((number_end t _ 3 _ hw).trans ?_))
    congr 1
    omega
  · simp only [Nat.zero_add] at e1 e2 e3
    rw [if_pos (by omega), if_neg (by omega), if_neg (by omega), if_pos (by omega), hb0 (by omega), wrap_byte, wrap_id (x := (bAt t 0 : Int) - 240) (by omega) (by omega)]
    simp only [joustref06_number.j0]
    refine (number_step t _ 1 _ (by omega) (by omega) (by omega) (by omega)).trans ((number_step t _ 2 _ (by omega) (by omega) (by omega) (by omega)).trans ((number_step t _ 3 _ (by omega) (by omega) (by omega) (by omega)).trans ((number_end t _ 4 _ hw).trans ?_)))
    congr 1
    omega

/-- The runes as the document has them. -/
def one (s : ByteArray) (r : Nat × Nat × Nat) : S60 := ⟨(r.2.1 : Int), s.extract r.1 (r.1 + r.2.2)⟩
def allFrom (s : ByteArray) (f p : Nat) : List S60 := (runesFrom s f p).map (one s)
def allOf (s : ByteArray) : List S60 := (runesOf s).map (one s)

theorem all_l0 (s : ByteArray) (hs : s.size ≤ 1100000) : ∀ (f p k : Nat) (acc : List S60), s.size ≤ p + f → p ≤ s.size → acc.length ≤ p → f + 8 ≤ k →
    joustref06_All.l0 k s acc (p : Int) = some (acc ++ allFrom s f p)
  | 0, p, k, acc, h1, h2, ha, hk => by
    obtain ⟨k, rfl⟩ : ∃ m, k = m + 1 := ⟨k - 1, by omega⟩
    simp only [joustref06_All.l0]
    rw [if_neg (by omega)]
    simp [allFrom, runesFrom]
  | f + 1, p, k, acc, h1, h2, ha, hk => by
    obtain ⟨k, rfl⟩ : ∃ m, k = m + 1 := ⟨k - 1, by omega⟩
    by_cases hp : p < s.size
    · have hfit := decode_fits s p hp
      have hwd := Lib.decode_width_pos s p hp
      obtain ⟨r, hr, hz⟩ := size_f s p hp (by omega) (k - 6)
      rw [show k - 6 + 6 = k by omega] at hr
      have ih := fun acc' (ha' : acc'.length ≤ p + (Utf8.decode s p).2) => all_l0 s hs f (p + (Utf8.decode s p).2) k acc' (by omega) hfit ha' (by omega)
      have hstep : allFrom s (f + 1) p = one s (p, (Utf8.decode s p).1, (Utf8.decode s p).2) :: allFrom s f (p + (Utf8.decode s p).2) := by
        unfold allFrom
        rw [runesFrom_step s f p hp]; rfl
      simp only [joustref06_All.l0]
      rw [if_pos (by omega), hr, Option.bind_some, hstep]
      rcases hz with ⟨rfl, hno⟩ | ⟨c, hE⟩
      · have hd : Utf8.decode s p = (65533, 1) := by
          rcases enc_or s p hp with he | ⟨he, _⟩
          · exact absurd he (hno _ _)
          · exact he
        rw [hd] at ih ⊢
        have ih2 := ih (acc ++ [one s (p, 65533, 1)]) (by simp; omega)
        rw [if_pos (show ((0 : Nat) : Int) = 0 from rfl), if_pos (by omega), show wrap64 ((p : Int) + 1) = ((p + 1 : Nat) : Int) from wr_at p 1 (by omega) (by decide), if_pos (by omega), if_pos (by omega), if_pos (by omega)]
        refine Eq.trans ?_ (ih2.trans (by simp))
        rfl
      · have hd := decode_of_enc hE
        have hr1 : 1 ≤ r ∧ r ≤ 4 := by rcases hE with h | h | h | h <;> omega
        rw [hd] at ih hfit ⊢
        simp only [] at ih hfit
        have hE2 : Enc (s.extract p (p + r)) 0 c r := by
          refine enc_same hE (by rw [ByteArray.size_extract]; omega) (fun i hi => ?_)
          rw [Nat.zero_add]
          exact bAt_extract s p (p + r) i hfit (by omega)
        have hn := number_f (s.extract p (p + r)) c r hE2 (by rw [ByteArray.size_extract]; omega) (k - 6)
        rw [show k - 6 + 6 = k by omega] at hn
        have ih2 := ih (acc ++ [one s (p, c, r)]) (by simp; omega)
        rw [if_neg (by omega), if_pos (by omega), show wrap64 ((p : Int) + (r : Int)) = ((p + r : Nat) : Int) from wr_at p r (by omega) (by omega), if_pos (by omega), if_pos (by omega), Int.toNat_natCast, Int.toNat_natCast, hn, Option.bind_some, if_pos (by omega)]
        exact ih2.trans (by simp)
    · simp only [joustref06_All.l0]
      rw [if_neg (by omega)]
      unfold allFrom
      rw [runesFrom_end s _ p hp]
      simp

theorem All_f (s : ByteArray) (hs : s.size ≤ 1100000) (k : Nat) (hk : s.size + 8 ≤ k) : joustref06_All.f k s = some (allOf s) := by
  unfold joustref06_All.f
  exact (all_l0 s hs s.size 0 k [] (by omega) (by omega) (by simp) hk).trans (by simp [allFrom, allOf, runesOf])

theorem fits_iff (n : Int) : fitsB n = true ↔ ((97 ≤ n ∧ n ≤ 122) ∨ (65 ≤ n ∧ n ≤ 90) ∨ (48 ≤ n ∧ n ≤ 57) ∨ n = 95 ∨ n = 45 ∨ (192 ≤ n ∧ n ≤ 255 ∧ n ≠ 215 ∧ n ≠ 247) ∨ (945 ≤ n ∧ n ≤ 969)) := by
  unfold fitsB
  simp [fitsL, inSpan]
  omega

theorem good_j3f (k : Nat) (n : Int) (h : ¬ ((97 ≤ n ∧ n ≤ 122) ∨ (65 ≤ n ∧ n ≤ 90) ∨ (48 ≤ n ∧ n ≤ 57) ∨ n = 95 ∨ n = 45)) : joustref06_good.j3 (k + 1) n false = some (fitsB n) := by
  have hf := fits_iff n
  simp only [joustref06_good.j3]
  rw [if_neg (by decide)]
  by_cases h1 : n ≥ 192
  · rw [if_pos h1]
    by_cases h2 : n ≤ 255
    · rw [if_pos h2]
      by_cases h3 : n = 215
      · rw [if_pos h3]
        congr 1
        symm
        rw [Bool.eq_false_iff]
        intro h'
        have := hf.1 h'
        omega
      · rw [if_neg h3]
        congr 1
        rw [Bool.eq_iff_iff, bne_iff_ne, hf]
        omega
    · rw [if_neg h2]
      by_cases h3 : n ≥ 945
      · rw [if_pos h3]
        congr 1
        rw [Bool.eq_iff_iff, decide_eq_true_eq, hf]
        omega
      · rw [if_neg h3]
        congr 1
        symm
        rw [Bool.eq_false_iff]
        intro h'
        have := hf.1 h'
        omega
  · rw [if_neg h1, if_neg (by omega)]
    congr 1
    symm
    rw [Bool.eq_false_iff]
    intro h'
    have := hf.1 h'
    omega

theorem good_j3t (k : Nat) (n : Int) (h : fitsB n = true) : joustref06_good.j3 (k + 1) n true = some (fitsB n) := by
  simp only [joustref06_good.j3]
  rw [if_pos trivial, h]

theorem good_f (n : Int) (k : Nat) : joustref06_good.f (k + 5) n = some (fitsB n) := by
  have hf := fits_iff n
  unfold joustref06_good.f
  have t3 : ∀ j, (97 ≤ n ∧ n ≤ 122) ∨ (65 ≤ n ∧ n ≤ 90) ∨ (48 ≤ n ∧ n ≤ 57) ∨ n = 95 ∨ n = 45 → joustref06_good.j3 (j + 1) n true = some (fitsB n) := fun j h => good_j3t j n (hf.2 (by omega))
  by_cases h1 : 97 ≤ n ∧ n ≤ 122
  · rw [if_pos h1.1, decide_eq_true h1.2]
    simp only [joustref06_good.j0]
    rw [if_pos trivial]
    exact t3 _ (by omega)
  have g : (if n ≥ 97 then (joustref06_good.j0 (k + 5) n (decide (n ≤ 122))) else (joustref06_good.j0 (k + 5) n false)) = joustref06_good.j0 (k + 5) n false := by
    by_cases h : n ≥ 97
    · rw [if_pos h, decide_eq_false (by omega)]
    · rw [if_neg h]
  rw [g]
  simp only [joustref06_good.j0]
  rw [if_neg (by decide)]
  by_cases h2 : 65 ≤ n ∧ n ≤ 90
  · rw [if_pos h2.1, decide_eq_true h2.2]
    simp only [joustref06_good.j1]
    rw [if_pos trivial]
    exact t3 _ (by omega)
  have g : (if n ≥ 65 then (joustref06_good.j1 (k + 4) n (decide (n ≤ 90))) else (joustref06_good.j1 (k + 4) n false)) = joustref06_good.j1 (k + 4) n false := by
    by_cases h : n ≥ 65
    · rw [if_pos h, decide_eq_false (by omega)]
    · rw [if_neg h]
  rw [g]
  simp only [joustref06_good.j1]
  rw [if_neg (by decide)]
  by_cases h3 : 48 ≤ n ∧ n ≤ 57
  · rw [if_pos h3.1, decide_eq_true h3.2]
    simp only [joustref06_good.j2]
    rw [if_pos trivial]
    exact t3 _ (by omega)
  have g : (if n ≥ 48 then (joustref06_good.j2 (k + 3) n (decide (n ≤ 57))) else (joustref06_good.j2 (k + 3) n false)) = joustref06_good.j2 (k + 3) n false := by
    by_cases h : n ≥ 48
    · rw [if_pos h, decide_eq_false (by omega)]
    · rw [if_neg h]
  rw [g]
  simp only [joustref06_good.j2]
  rw [if_neg (by decide)]
  by_cases h4 : n = 95
  · rw [if_pos h4, show (n == 95) = true from beq_iff_eq.2 h4]
    exact t3 _ (by omega)
  rw [if_neg h4]
  by_cases h5 : n = 45
  · rw [show (n == 45) = true from beq_iff_eq.2 h5]
    exact t3 _ (by omega)
  · rw [show (n == 45) = false from beq_eq_false_iff_ne.2 h5]
    exact good_j3f _ n (by omega)

theorem check_l0 (x : List S60) : ∀ (m i k : Nat), x.length ≤ 1000000 → i + m = x.length → m + 7 ≤ k → joustref06_Check.l0 k x (i : Int) = some (if (x.drop i).all (fun r => fitsB r.f0) = true then 0 else 60)
  | 0, i, k, hx, hi, hk => by
    obtain ⟨k, rfl⟩ : ∃ m, k = m + 1 := ⟨k - 1, by omega⟩
    simp only [joustref06_Check.l0]
    rw [if_neg (by omega), List.drop_eq_nil_of_le (by omega)]
    rfl
  | m + 1, i, k, hx, hi, hk => by
    obtain ⟨k, rfl⟩ : ∃ m, k = m + 1 := ⟨k - 1, by omega⟩
    have ih := check_l0 x m (i + 1) k hx (by omega) (by omega)
    have hd : x.drop i = rd_T60 x (i : Int) :: x.drop (i + 1) := by
      rw [List.drop_eq_getElem_cons (by omega)]
      unfold rd_T60
      rw [Int.toNat_natCast, List.getD_eq_getElem?_getD, List.getElem?_eq_getElem (by omega)]
      rfl
    have hg := good_f (rd_T60 x (i : Int)).f0 (k - 5)
    rw [show k - 5 + 5 = k by omega] at hg
    simp only [joustref06_Check.l0]
    rw [if_pos (by omega), if_pos (by omega), hg, Option.bind_some, hd, List.all_cons, show wrap64 ((i : Int) + 1) = ((i + 1 : Nat) : Int) by rw [wrap_id (by omega) (by omega)]; omega, ih]
    cases fitsB (rd_T60 x (i : Int)).f0
    · rw [if_neg (by decide)]; rfl
    · rw [if_pos rfl, Bool.true_and]

/-- Check's answer by the list of the runes. -/
theorem checkFrom_iff (s : ByteArray) : ∀ (f p k : Nat), s.size ≤ p + f → k ≤ 12 →
    (checkFrom fitsB s f p k = true ↔ (k + (runesFrom s f p).length ≠ 0 ∧ k + (runesFrom s f p).length ≤ 12 ∧ s.size ≤ 24 ∧ (runesFrom s f p).all (fun r => fitsB (r.2.1 : Int)) = true))
  | 0, p, k, h, hk => by
    rw [checkFrom_end _ _ _ _ _ (by omega), runesFrom_end s 0 p (by omega)]
    simp
    omega
  | f + 1, p, k, h, hk => by
    by_cases hp : p < s.size
    · have hw := Lib.decode_width_pos s p hp
      rw [runesFrom_step s f p hp]
      simp only [checkFrom]
      rw [if_pos hp, List.all_cons, List.length_cons]
      by_cases h12 : 12 < k + 1
      · rw [if_pos h12]
        constructor
        · intro h'; cases h'
        · intro h'; omega
      · rw [if_neg h12]
        have ih := checkFrom_iff s f (p + (Utf8.decode s p).2) (k + 1) (by omega) (by omega)
        simp only []
        cases fitsB ((Utf8.decode s p).1 : Int)
        · rw [if_neg (by decide)]
          constructor
          · intro h'; cases h'
          · intro h'; simp at h'
        · rw [if_pos rfl, ih, Bool.true_and]
          constructor
          · rintro ⟨a, b, c, d⟩; exact ⟨by omega, by omega, c, d⟩
          · rintro ⟨a, b, c, d⟩; exact ⟨by omega, by omega, c, d⟩
    · rw [checkFrom_end _ _ _ _ _ hp, runesFrom_end s _ p hp]
      simp
      omega
theorem checkOf_iff (s : ByteArray) : checkOf fitsB s = true ↔ (runesOf s).length ≠ 0 ∧ (runesOf s).length ≤ 12 ∧ s.size ≤ 24 ∧ (runesOf s).all (fun r => fitsB (r.2.1 : Int)) = true := by
  have := checkFrom_iff s s.size 0 0 (by omega) (by omega)
  simpa [checkOf, runesOf] using this

theorem join_piece (s : ByteArray) (p w : Nat) (h : p + w ≤ s.size) : s.extract 0 p ++ s.extract p (p + w) = s.extract 0 (p + w) := by
  have s1 : (s.extract 0 p).size = p := by rw [ByteArray.size_extract]; omega
  have s2 : (s.extract p (p + w)).size = w := by rw [ByteArray.size_extract]; omega
  have s3 : (s.extract 0 (p + w)).size = p + w := by rw [ByteArray.size_extract]; omega
  refine bytes_ext (by rw [ByteArray.size_append, s1, s2, s3]) fun i hi => ?_
  rw [ByteArray.size_append, s1, s2] at hi
  rw [bAt_extract s 0 (p + w) i h (by omega), Nat.zero_add]
  by_cases hp : i < p
  · rw [bAt_left _ _ i (by omega), bAt_extract s 0 p i (by omega) (by omega), Nat.zero_add]
  · rw [bAt_right _ _ i (by omega) (by omega), s1, bAt_extract s p (p + w) (i - p) h (by omega)]
    congr 1
    omega

theorem rd_of_drop {x : List S60} {i : Nat} {a : S60} {l : List S60} (h : x.drop i = a :: l) : i < x.length ∧ rd_T60 x (i : Int) = a ∧ x.drop (i + 1) = l := by
  have hi : i < x.length := by
    rcases Nat.lt_or_ge i x.length with h' | h'
    · exact h'
    · rw [List.drop_eq_nil_of_le h'] at h; cases h
  rw [List.drop_eq_getElem_cons hi] at h
  refine ⟨hi, ?_, (List.cons.inj h).2⟩
  unfold rd_T60
  rw [Int.toNat_natCast, List.getD_eq_getElem?_getD, List.getElem?_eq_getElem hi]
  exact (List.cons.inj h).1

theorem wr_one (i : Nat) (h : i ≤ 2000000) : wrap64 ((i : Int) + 1) = ((i + 1 : Nat) : Int) := wr_at i 1 (by omega) (by decide)

theorem cut_l0 (s : ByteArray) (n : Int) (x : List S60) (hx : x.length ≤ 1100000) (hs : s.size ≤ 1100000) : ∀ (f p i k : Nat), x.drop i = allFrom s f p → p ≤ s.size → s.size ≤ p + f → f + 2 ≤ k → i ≤ 1100000 →
    joustref06_Cut.l0 k n x (s.extract 0 p) (i : Int) = some (s.extract 0 (cutFrom s f p (n - i)))
  | 0, p, i, k, hd, hp, hf, hk, hi => by
    obtain ⟨k, rfl⟩ : ∃ m, k = m + 1 := ⟨k - 1, by omega⟩
    have hl := List.drop_eq_nil_iff.1 (hd.trans (by simp [allFrom, runesFrom]))
    simp only [joustref06_Cut.l0]
    rw [if_neg (by omega)]
    rfl
  | f + 1, p, i, k, hd, hp, hf, hk, hi => by
    obtain ⟨k, rfl⟩ : ∃ m, k = m + 1 := ⟨k - 1, by omega⟩
    simp only [joustref06_Cut.l0]
    by_cases hps : p < s.size
    · have hfit := decode_fits s p hps
      have hwd := Lib.decode_width_pos s p hps
      have hd' : x.drop i = one s (p, (Utf8.decode s p).1, (Utf8.decode s p).2) :: allFrom s f (p + (Utf8.decode s p).2) := by
        rw [hd]; unfold allFrom; rw [runesFrom_step s f p hps]; rfl
      obtain ⟨h1, h2, h3⟩ := rd_of_drop hd'
      rw [if_pos (by omega)]
      have hc : cutFrom s (f + 1) p (n - i) = if n - i ≤ 0 then p else cutFrom s f (p + (Utf8.decode s p).2) (n - i - 1) := by
        simp only [cutFrom]; rw [if_pos hps]
      rw [hc]
      by_cases hn : (i : Int) < n
      · rw [if_pos hn, if_pos (by omega), h2]
        have e : (one s (p, (Utf8.decode s p).1, (Utf8.decode s p).2)).f1 = s.extract p (p + (Utf8.decode s p).2) := rfl
        rw [e, join_piece s p _ hfit, if_pos (by rw [ByteArray.size_extract, ByteArray.size_extract]; omega), wr_one i (by omega)]
        have := cut_l0 s n x hx hs f (p + (Utf8.decode s p).2) (i + 1) k h3 hfit (by omega) (by omega) (by omega)
        rw [this, if_neg (by omega), show n - ((i + 1 : Nat) : Int) = n - i - 1 by omega]
      · rw [if_neg hn, if_pos (by omega)]
    · have hl : x.drop i = [] := by rw [hd]; unfold allFrom; rw [runesFrom_end s _ p hps]; rfl
      have hl := List.drop_eq_nil_iff.1 hl
      rw [if_neg (by omega), cutFrom_end s _ p _ hps]

theorem allOf_len (s : ByteArray) : (allOf s).length = (runesOf s).length := by simp [allOf]

theorem Cut_ref (s : ByteArray) (n : Int) (hs : s.size ≤ 1100000) (hr : (runesOf s).length ≤ s.size) (k : Nat) (hk : s.size + 8 ≤ k) : joustref06_Cut.f k s n = some (cut s n) := by
  unfold joustref06_Cut.f
  rw [All_f s hs k hk, Option.bind_some]
  have h := cut_l0 s n (allOf s) (by rw [allOf_len]; omega) hs s.size 0 0 k rfl (by omega) (by omega) (by omega) (by omega)
  have e : s.extract 0 0 = ⟨#[]⟩ := by
    apply ByteArray.ext
    rw [ByteArray.data_extract]
    simp
  rw [e] at h
  refine h.trans ?_
  unfold cut cutAt
  rw [show n - ((0 : Nat) : Int) = n by omega]

theorem Runes_ref (s : ByteArray) (hs : s.size ≤ 1100000) (k : Nat) (hk : s.size + 8 ≤ k) : joustref06_Runes.f k s = some ((runesOf s).length : Int) := by
  unfold joustref06_Runes.f
  rw [All_f s hs k hk, Option.bind_some, allOf_len]

theorem blanks_step (out : ByteArray) (d : Nat) : out ++ (⟨#[32]⟩ : ByteArray) ++ blanks d = out ++ blanks (d + 1) := by
  have e : (⟨#[32]⟩ : ByteArray) ++ blanks d = blanks (d + 1) := by
    have s1 : (⟨#[32]⟩ : ByteArray).size = 1 := rfl
    refine bytes_ext (by rw [ByteArray.size_append, s1, blanks_size, blanks_size]; omega) fun i hi => ?_
    rw [ByteArray.size_append, s1, blanks_size] at hi
    rw [bAt_blanks (d + 1) i (by omega)]
    by_cases h0 : i = 0
    · subst h0
      rw [bAt_left _ _ 0 (by rw [s1]; omega)]
      rfl
    · rw [bAt_right _ _ i (by rw [s1]; omega) (by rw [s1, blanks_size]; omega), s1, bAt_blanks d _ (by omega)]
  rw [ByteArray.append_assoc, e]

theorem pad_l0 (n : Int) (hn : n ≤ 4096) : ∀ (d i k : Nat) (out : ByteArray), (i : Int) + d = max n i → i ≤ 1100000 → out.size ≤ 2000000 + i → d + 1 ≤ k → joustref06_Pad.l0 k n out (i : Int) = some (out ++ blanks d)
  | 0, i, k, out, h, hi, ho, hk => by
    obtain ⟨k, rfl⟩ : ∃ m, k = m + 1 := ⟨k - 1, by omega⟩
    simp only [joustref06_Pad.l0]
    rw [if_neg (by omega)]
    congr 1
    refine (bytes_ext (by rw [ByteArray.size_append, blanks_size]; omega) fun i hi => ?_).symm
    rw [ByteArray.size_append, blanks_size] at hi
    exact bAt_left _ _ i (by omega)
  | d + 1, i, k, out, h, hi, ho, hk => by
    obtain ⟨k, rfl⟩ : ∃ m, k = m + 1 := ⟨k - 1, by omega⟩
    have s1 : (⟨#[32]⟩ : ByteArray).size = 1 := rfl
    simp only [joustref06_Pad.l0]
    rw [if_pos (by omega), if_pos (by omega), wr_one i (by omega), pad_l0 n hn d (i + 1) k _ (by omega) (by omega) (by rw [ByteArray.size_append, s1]; omega) (by omega), blanks_step]

theorem Pad_ref (s : ByteArray) (n : Int) (hs : s.size ≤ 1048576) (hr : (runesOf s).length ≤ s.size) (hrc : ∀ m : Int, (runesOf (cut s m)).length ≤ (cut s m).size) (k : Nat) (hk : s.size + 5000 ≤ k) : joustref06_Pad.f (k + 2) s n = some (pad s n) := by
  have hj : joustref06_Pad.f (k + 2) s n = joustref06_Pad.j1 (k + 1) s (kept n) := by
    unfold joustref06_Pad.f kept
    by_cases h : n < 0
    · rw [if_pos h, if_pos h]
      simp only [joustref06_Pad.j0]
      rw [if_neg (by decide)]
    · rw [if_neg h, if_neg h]
      simp only [joustref06_Pad.j0]
      by_cases h2 : n > 4096
      · rw [if_pos h2, if_pos (by omega)]
      · rw [if_neg h2, if_neg (by omega)]
  have hkb : 0 ≤ kept n ∧ kept n ≤ 4096 := by
    unfold kept
    refine ⟨?_, ?_⟩ <;> repeat' split
    all_goals omega
  have hcs := cut_size_le s (kept n)
  have hl := runesOf_len_cut s (kept n)
  rw [hj, pad_eq]
  simp only [joustref06_Pad.j1]
  rw [Cut_ref s (kept n) (by omega) hr k (by omega), Option.bind_some, Runes_ref _ (by omega) k (by omega), Option.bind_some]
  refine pad_l0 (kept n) hkb.2 _ _ k _ ?_ ?_ ?_ ?_
  · omega
  · have := hrc (kept n); omega
  · omega
  · omega

/-- A rune's bytes in small letters. -/
def smallB (s : ByteArray) (p : Nat) : List UInt8 := if bigB ((Utf8.decode s p).1 : Int) then Lib.encodeRune (((Utf8.decode s p).1 : Int) + 32) else (s.extract p (p + (Utf8.decode s p).2)).data.toList

theorem small_main (s t : ByteArray) (p c w : Nat) (F : Enc s p c w ∨ (c = 65533 ∧ w = 1)) (hsz : t.size = w) (hw1 : 1 ≤ w) (hw4 : w ≤ 4) (hbt : ∀ i, i < t.size → bt t ((i : Nat) : Int) = bAt s (p + i)) (k : Nat) :
    joustref06_small.f (k + 1) (c : Int) t = some ⟨(if bigB (c : Int) = true then Lib.encodeRune ((c : Int) + 32) else t.data.toList).toArray⟩ ∧ (if bigB (c : Int) = true then Lib.encodeRune ((c : Int) + 32) else t.data.toList).length ≤ 4 := by
  have hbig := bigB_iff (c : Int)
  have plain : bigB (c : Int) = false → (⟨(if bigB (c : Int) = true then Lib.encodeRune ((c : Int) + 32) else t.data.toList).toArray⟩ : ByteArray) = t ∧ (if bigB (c : Int) = true then Lib.encodeRune ((c : Int) + 32) else t.data.toList).length ≤ 4 := by
    intro hb
    rw [if_neg (by rw [hb]; decide)]
    refine ⟨rfl, ?_⟩
    have : t.data.toList.length = t.size := Array.length_toList
    omega
  unfold joustref06_small.f
  have hnb : ¬ ((65 ≤ (c : Int) ∧ (c : Int) ≤ 90) ∨ (192 ≤ (c : Int) ∧ (c : Int) ≤ 214) ∨ (216 ≤ (c : Int) ∧ (c : Int) ≤ 222)) → bigB (c : Int) = false := by
    intro h
    rw [Bool.eq_false_iff]
    exact fun h' => h (hbig.1 h')
  have j0f : ∀ b, (b = true → False) → joustref06_small.j0 (k + 1) b (c : Int) t = (if (t.size : Int) = 2 then (if (c : Int) ≥ 192 then (if (c : Int) ≤ 222 then (if (c : Int) = 215 then (some t) else (if 0 < (t.size : Int) then (if 1 < (t.size : Int) then (some (strOfNums (([bt t 0, ((bt t 1) + 32) % 256] : List Int)))) else (none)) else (none))) else (some t)) else (some t)) else (some t)) := by
    intro b hb
    simp only [joustref06_small.j0]
    rw [if_neg hb]
  by_cases h1 : (t.size : Int) = 1
  · rw [if_pos h1]
    by_cases h2 : 65 ≤ c ∧ c ≤ 90
    · rw [if_pos (by omega), decide_eq_true (by omega)]
      simp only [joustref06_small.j0]
      have hb : bigB (c : Int) = true := hbig.2 (by omega)
      rw [if_pos trivial, if_pos hb]
      have e : Lib.encodeRune ((c : Int) + 32) = [((c : Int) + 32).toNat.toUInt8] := by
        unfold Lib.encodeRune
        rw [Lib.encodeRuneZ_one (by omega) (by omega)]; rfl
      rw [e]
      refine ⟨?_, by simp⟩
      rw [wrap_id (by omega) (by omega), show ((c : Int) + 32) % 256 = (c : Int) + 32 by omega]
      rfl
    · have hb := hnb (by rcases F with (F | F | F | F) | F <;> omega)
      have hq : (if (c : Int) ≥ 65 then joustref06_small.j0 (k + 1) (decide ((c : Int) ≤ 90)) (c : Int) t else joustref06_small.j0 (k + 1) false (c : Int) t) = joustref06_small.j0 (k + 1) false (c : Int) t := by
        by_cases h : (c : Int) ≥ 65
        · rw [if_pos h, decide_eq_false (by omega)]
        · rw [if_neg h]
      rw [hq, j0f false (by decide), if_neg (by omega)]
      exact ⟨by rw [(plain hb).1], (plain hb).2⟩
  · rw [if_neg h1, j0f false (by decide)]
    by_cases h2 : (t.size : Int) = 2
    · rw [if_pos h2]
      have hE : 128 ≤ c ∧ bAt s p = 192 + c / 64 ∧ bAt s (p + 1) = 128 + c % 64 := by
        rcases F with F | F
        · rcases F with F | ⟨_, a, _, _, b, d⟩ | F | F
          · omega
          · exact ⟨a, b, d⟩
          · omega
          · omega
        · omega
      by_cases h3 : (192 ≤ c ∧ c ≤ 214) ∨ (216 ≤ c ∧ c ≤ 222)
      · have hb : bigB (c : Int) = true := hbig.2 (by omega)
        have b0 : bt t 0 = bAt s (p + 0) := hbt 0 (by omega)
        have b1 : bt t 1 = bAt s (p + 1) := hbt 1 (by omega)
        rw [if_pos (by omega), if_pos (by omega), if_neg (by omega), if_pos (by omega), if_pos (by omega), if_pos hb, b0, b1, Nat.add_zero, hE.2.1, hE.2.2]
        have e : Lib.encodeRune ((c : Int) + 32) = [((192 : Int) + ((c : Int) + 32) / 64).toNat.toUInt8, ((128 : Int) + ((c : Int) + 32) % 64).toNat.toUInt8] := by
          unfold Lib.encodeRune
          rw [Lib.encodeRuneZ_two (by omega) (by omega)]; rfl
        rw [e]
        refine ⟨?_, by simp⟩
        rw [show (((192 + c / 64 : Nat) : Int)) = (192 : Int) + ((c : Int) + 32) / 64 by omega, show (((128 + c % 64 : Nat) : Int) + 32) % 256 = (128 : Int) + ((c : Int) + 32) % 64 by omega]
        rfl
      · have hb := hnb (by omega)
        have hq : (if (c : Int) ≥ 192 then (if (c : Int) ≤ 222 then (if (c : Int) = 215 then (some t) else (if 0 < (t.size : Int) then (if 1 < (t.size : Int) then (some (strOfNums (([bt t 0, ((bt t 1) + 32) % 256] : List Int)))) else (none)) else (none))) else (some t)) else (some t)) = some t := by
          by_cases h4 : (c : Int) ≥ 192
          · rw [if_pos h4]
            by_cases h5 : (c : Int) ≤ 222
            · rw [if_pos h5, if_pos (by omega)]
            · rw [if_neg h5]
          · rw [if_neg h4]
        rw [hq]
        exact ⟨by rw [(plain hb).1], (plain hb).2⟩
    · have hb := hnb (by rcases F with (F | F | F | F) | F <;> omega)
      rw [if_neg h2]
      exact ⟨by rw [(plain hb).1], (plain hb).2⟩

theorem small_ok (s : ByteArray) (p : Nat) (hp : p < s.size) (k : Nat) :
    joustref06_small.f (k + 1) ((Utf8.decode s p).1 : Int) (s.extract p (p + (Utf8.decode s p).2)) = some ⟨(smallB s p).toArray⟩ ∧ (smallB s p).length ≤ 4 := by
  have hfit := decode_fits s p hp
  have hsz : (s.extract p (p + (Utf8.decode s p).2)).size = (Utf8.decode s p).2 := by rw [ByteArray.size_extract]; omega
  refine small_main s (s.extract p (p + (Utf8.decode s p).2)) p _ _ ?_ hsz (Lib.decode_width_pos s p hp) (decode_width_le s p) (fun i hi => ?_) k
  · rcases enc_or s p hp with he | ⟨he, _⟩
    · exact Or.inl he
    · exact Or.inr ⟨congrArg Prod.fst he, congrArg Prod.snd he⟩
  · rw [bt_bAt _ i hi, bAt_extract s p _ i (by omega) (by omega)]

theorem join_list (l m : List UInt8) : (⟨l.toArray⟩ : ByteArray) ++ (⟨m.toArray⟩ : ByteArray) = ⟨(l ++ m).toArray⟩ := by
  apply ByteArray.ext
  rw [ByteArray.data_append]
  simp

theorem fold_l0 (s : ByteArray) (x : List S60) (hx : x.length ≤ 1100000) : ∀ (f p i k : Nat) (l : List UInt8), x.drop i = allFrom s f p → p ≤ s.size → s.size ≤ p + f → f + 3 ≤ k → i ≤ 1100000 → l.length ≤ 4 * i →
    joustref06_Fold.l0 k x ⟨l.toArray⟩ (i : Int) = some ⟨(l ++ foldFrom bigB s f p).toArray⟩
  | 0, p, i, k, l, hd, hp, hf, hk, hi, hll => by
    obtain ⟨k, rfl⟩ : ∃ m, k = m + 1 := ⟨k - 1, by omega⟩
    have hl := List.drop_eq_nil_iff.1 (hd.trans (by simp [allFrom, runesFrom]))
    simp only [joustref06_Fold.l0]
    rw [if_neg (by omega)]
    simp [foldFrom]
  | f + 1, p, i, k, l, hd, hp, hf, hk, hi, hll => by
    obtain ⟨k, rfl⟩ : ∃ m, k = m + 1 := ⟨k - 1, by omega⟩
    simp only [joustref06_Fold.l0]
    by_cases hps : p < s.size
    · have hfit := decode_fits s p hps
      have hwd := Lib.decode_width_pos s p hps
      have hd' : x.drop i = one s (p, (Utf8.decode s p).1, (Utf8.decode s p).2) :: allFrom s f (p + (Utf8.decode s p).2) := by
        rw [hd]; unfold allFrom; rw [runesFrom_step s f p hps]; rfl
      obtain ⟨h1, h2, h3⟩ := rd_of_drop hd'
      obtain ⟨g1, g2⟩ := small_ok s p hps (k - 1)
      rw [show k - 1 + 1 = k by omega] at g1
      have e0 : (one s (p, (Utf8.decode s p).1, (Utf8.decode s p).2)).f0 = ((Utf8.decode s p).1 : Int) := rfl
      have e1 : (one s (p, (Utf8.decode s p).1, (Utf8.decode s p).2)).f1 = s.extract p (p + (Utf8.decode s p).2) := rfl
      have z1 : (⟨l.toArray⟩ : ByteArray).size = l.length := by simp [ByteArray.size]
      have z2 : (⟨(smallB s p).toArray⟩ : ByteArray).size = (smallB s p).length := by simp [ByteArray.size]
      rw [if_pos (by omega), if_pos (by omega), h2, e0, e1, g1, Option.bind_some, if_pos (by rw [z1, z2]; omega), join_list, wr_one i (by omega),
        fold_l0 s x hx f (p + (Utf8.decode s p).2) (i + 1) k (l ++ smallB s p) h3 hfit (by omega) (by omega) (by omega) (by rw [List.length_append]; omega)]
      have hc : foldFrom bigB s (f + 1) p = smallB s p ++ foldFrom bigB s f (p + (Utf8.decode s p).2) := by
        simp only [foldFrom]; rw [if_pos hps]; rfl
      rw [hc, List.append_assoc]
    · have hl : x.drop i = [] := by rw [hd]; unfold allFrom; rw [runesFrom_end s _ p hps]; rfl
      have hl := List.drop_eq_nil_iff.1 hl
      rw [if_neg (by omega), foldFrom_end bigB s _ p hps]
      simp

theorem Fold_ref (s : ByteArray) (hs : s.size ≤ 1100000) (hr : (runesOf s).length ≤ s.size) (k : Nat) (hk : s.size + 8 ≤ k) : joustref06_Fold.f k s = some (fold s) := by
  unfold joustref06_Fold.f
  rw [All_f s hs k hk, Option.bind_some]
  have h := fold_l0 s (allOf s) (by rw [allOf_len]; omega) s.size 0 0 k [] rfl (by omega) (by omega) (by omega) (by omega) (by simp)
  exact h

def ns (x : List S60) : List Int := x.map fun r => r.f0
theorem ns_cons (a : S60) (x : List S60) : ns (a :: x) = a.f0 :: ns x := rfl
theorem ns_nil : ns [] = [] := rfl
theorem ns_len (x : List S60) : (ns x).length = x.length := by simp [ns]

theorem Ed.head {n : Nat} {a : Int} {x y : List Int} : Ed n (a :: x) (a :: y) ↔ Ed n x y := by
  refine ⟨fun h => ?_, fun h => .same a h⟩
  rcases Ed.cons_iff.1 h with ⟨_, h⟩ | ⟨h1, h | h | h⟩
  · exact h
  · have := Ed.trans _ (n - 1) 1 x (a :: y) y (Nat.le_refl _) h (.del a (Ed.refl y))
    rwa [show n - 1 + 1 = n by omega] at this
  · have := Ed.trans _ 1 (n - 1) x (a :: x) y (Nat.le_refl _) (.ins a (Ed.refl x)) h
    rwa [show 1 + (n - 1) = n by omega] at this
  · exact h.mono (by omega)

def Differ (x y : List S60) : Prop := ∀ a x' b y', x = a :: x' → y = b :: y' → a.f0 ≠ b.f0
def Ans (v : Option Bool) (P : Prop) : Prop := ∃ r, v = some r ∧ (r = true ↔ P)
theorem ans_true {v : Option Bool} {P : Prop} (h : v = some true) (hP : P) : Ans v P := ⟨true, h, by simp [hP]⟩
theorem ans_false {v : Option Bool} {P : Prop} (h : v = some false) (hP : ¬ P) : Ans v P := ⟨false, h, by simp [hP]⟩

def Within (c : Nat) : Prop := ∀ (x y : List S60) (k : Nat), x.length ≤ 2000000 → y.length ≤ 2000000 → x.length + 6 * c + 7 ≤ k → Ans (joustref06_within.f k x y (c : Int)) (Ed c (ns x) (ns y))

theorem wrap_sub (a b : Nat) (ha : a ≤ 2000000) (hb : b ≤ 2000000) : wrap64 ((a : Int) - (b : Int)) = (a : Int) - b := wrap_id (by omega) (by omega)

theorem j2_ok (c : Nat) (hc : c ≤ 8) (IH : ∀ c', c = c' + 1 → Within c') (x y : List S60) (k : Nat) (hx : x.length ≤ 2000000) (hy : y.length ≤ 2000000) (hd : Differ x y) (hk : x.length + 6 * c + 4 ≤ k) (b : Bool) (hb : b = true ↔ x.length = 0 ∧ y.length = 0) :
    Ans (joustref06_within.j2 k x y (c : Int) b) (Ed c (ns x) (ns y)) := by
  obtain ⟨k, rfl⟩ : ∃ m, k = m + 4 := ⟨k - 4, by omega⟩
  simp only [joustref06_within.j2]
  by_cases h0 : x.length = 0 ∧ y.length = 0
  · rw [if_pos (hb.2 h0)]
    refine ans_true rfl ?_
    rw [List.length_eq_zero_iff.1 h0.1, List.length_eq_zero_iff.1 h0.2]
    exact .nil _
  rw [if_neg (fun h => h0 (hb.1 h))]
  have hstop : ∀ k', joustref06_within.j3 (k' + 1) x y (c : Int) true = some false := by
    intro k'; simp only [joustref06_within.j3]; rw [if_pos trivial]
  by_cases hc0 : (c : Int) = 0
  · rw [if_pos hc0]
    refine ans_false (hstop _) fun h => ?_
    have c0 : c = 0 := by omega
    rw [c0] at h
    have e := Ed.zero h
    cases x with
    | nil =>
      cases y with
      | nil => exact h0 ⟨rfl, rfl⟩
      | cons b y => simp [ns] at e
    | cons a x =>
      cases y with
      | nil => simp [ns] at e
      | cons b y =>
        rw [ns_cons, ns_cons] at e
        exact hd a x b y rfl rfl (List.cons.inj e).1
  rw [if_neg hc0, wrap_sub _ _ hx hy, wrap_sub _ _ hy hx]
  have hlen := fun h => Ed.length (n := c) (x := ns x) (y := ns y) h
  rw [ns_len, ns_len] at hlen
  by_cases h1 : (x.length : Int) - y.length > c
  · rw [if_pos h1]
    exact ans_false (hstop _) fun h => by have := hlen h; omega
  rw [if_neg h1]
  by_cases h2 : (y.length : Int) - x.length > c
  · rw [decide_eq_true h2]
    exact ans_false (hstop _) fun h => by have := hlen h; omega
  rw [decide_eq_false h2]
  simp only [joustref06_within.j3]
  rw [if_neg (by decide)]
  obtain ⟨c', rfl⟩ : ∃ c', c = c' + 1 := ⟨c - 1, by omega⟩
  have W := IH c' rfl
  have hw : wrap64 (((c' + 1 : Nat) : Int) - 1) = (c' : Int) := by rw [wrap_id (by omega) (by omega)]; omega
  rw [hw]
  cases x with
  | nil =>
    rw [if_neg (by simp)]
    simp only [joustref06_within.j4]
    rw [if_neg (by decide), hw]
    cases y with
    | nil => exact absurd ⟨rfl, rfl⟩ h0
    | cons b y =>
      rw [if_pos (by simp <;> omega), if_pos (by simp <;> omega)]
      simp only [List.length_cons] at hy
      obtain ⟨r, hr, hz⟩ := W [] y (k + 1) (by simp) (by omega) (by simp at hk ⊢; omega)
      rw [show List.drop 1 (b :: y) = y from rfl, hr, Option.bind_some]
      rw [ns_nil, Ed.nil_left_iff, ns_len] at hz
      rw [ns_nil, ns_cons]
      cases r
      · rw [if_neg (by decide), if_neg (by simp)]
        refine ans_false rfl ?_
        rw [Ed.nil_left_iff, List.length_cons, ns_len]
        intro h; have := hz.2 (by omega); cases this
      · rw [if_pos rfl]
        refine ans_true rfl ?_
        rw [Ed.nil_left_iff, List.length_cons, ns_len]
        have := hz.1 rfl; omega
  | cons a x =>
    rw [if_pos (by simp <;> omega), if_pos (by simp <;> omega)]
    simp only [List.length_cons] at hx hk
    obtain ⟨r, hr, hz⟩ := W x y (k + 2) (by omega) hy (by omega)
    rw [show List.drop 1 (a :: x) = x from rfl, hr, Option.bind_some]
    simp only [joustref06_within.j4]
    cases r
    · rw [if_neg (by decide)]
      cases y with
      | nil =>
        rw [if_neg (by simp)]
        refine ans_false (by split <;> rfl) ?_
        rw [ns_nil, Ed.nil_right_iff, ns_cons, List.length_cons]
        rw [ns_nil, Ed.nil_right_iff] at hz
        intro h; have := hz.2 (by omega); cases this
      | cons b y =>
        simp only [List.length_cons] at hy
        have hne := hd a x b y rfl rfl
        rw [if_pos (by simp <;> omega), if_pos (by simp <;> omega), hw]
        obtain ⟨r2, hr2, hz2⟩ := W (a :: x) y (k + 1) (by simp <;> omega) (by omega) (by simp <;> omega)
        rw [show List.drop 1 (b :: y) = y from rfl, hr2, Option.bind_some]
        cases r2
        · rw [if_neg (by decide), if_pos (by simp <;> omega), if_pos (by simp <;> omega)]
          obtain ⟨r3, hr3, hz3⟩ := W x y (k + 1) (by omega) (by omega) (by omega)
          rw [show List.drop 1 (a :: x) = x from rfl, hr3, Option.bind_some]
          refine ⟨r3, rfl, ?_⟩
          rw [ns_cons, ns_cons, Ed.cons_iff]
          rw [ns_cons] at hz hz2
          rw [hz3]
          constructor
          · intro h
            exact Or.inr ⟨by omega, Or.inr (Or.inr h)⟩
          · rintro (⟨h, _⟩ | ⟨_, h | h | h⟩)
            · exact absurd h hne
            · have := hz.2 h; cases this
            · have := hz2.2 h; cases this
            · exact h
        · rw [if_pos rfl]
          refine ans_true rfl ?_
          have := hz2.1 rfl
          rw [ns_cons] at this ⊢
          exact Ed.ins _ this
    · rw [if_pos rfl]
      refine ans_true rfl ?_
      rw [ns_cons]
      exact Ed.del _ (hz.1 rfl)

theorem rd_at (x : List S60) (i : Nat) (h : i < x.length) : x.drop i = rd_T60 x (i : Int) :: x.drop (i + 1) := by
  rw [List.drop_eq_getElem_cons h]
  unfold rd_T60
  rw [Int.toNat_natCast, List.getD_eq_getElem?_getD, List.getElem?_eq_getElem h]
  rfl

theorem l0_ok (c : Nat) (hc : c ≤ 8) (IH : ∀ c', c = c' + 1 → Within c') (x y : List S60) (hx : x.length ≤ 2000000) (hy : y.length ≤ 2000000) : ∀ (m i k : Nat), i + m = x.length → i ≤ y.length → m + 6 * c + 6 ≤ k →
    Ans (joustref06_within.l0 k x y (c : Int) (i : Int)) (Ed c (ns (x.drop i)) (ns (y.drop i))) := by
  have stop : ∀ (m i k : Nat), i + m = x.length → i ≤ y.length → m + 6 * c + 5 ≤ k → Differ (x.drop i) (y.drop i) → Ans (joustref06_within.j1 k x y (c : Int) (i : Int)) (Ed c (ns (x.drop i)) (ns (y.drop i))) := by
    intro m i k hi hiy hk hd
    obtain ⟨k, rfl⟩ : ∃ m, k = m + 1 := ⟨k - 1, by omega⟩
    have l1 := List.length_drop (i := i) (l := x)
    have l2 := List.length_drop (i := i) (l := y)
    simp only [joustref06_within.j1]
    rw [if_pos (by omega), if_pos (by omega), Option.bind_some, Int.toNat_natCast, if_pos (by omega), Option.bind_some]
    have J := fun b hb => j2_ok c hc IH (x.drop i) (y.drop i) k (by omega) (by omega) hd (by omega) b hb
    by_cases h : ((x.drop i).length : Int) = 0
    · rw [if_pos h]
      refine J _ ?_
      rw [beq_iff_eq]
      constructor
      · intro h'; exact ⟨by omega, by omega⟩
      · intro h'; omega
    · rw [if_neg h]
      refine J false ⟨fun h' => (by cases h'), fun h' => absurd h'.1 (by omega)⟩
  intro m
  induction m with
  | zero =>
    intro i k hi hiy hk
    obtain ⟨k, rfl⟩ : ∃ m, k = m + 1 := ⟨k - 1, by omega⟩
    simp only [joustref06_within.l0]
    rw [if_neg (by omega)]
    refine stop 0 i k hi hiy (by omega) ?_
    intro a x' b y' e _
    rw [List.drop_eq_nil_of_le (by omega)] at e
    cases e
  | succ m ih =>
    intro i k hi hiy hk
    obtain ⟨k, rfl⟩ : ∃ m, k = m + 1 := ⟨k - 1, by omega⟩
    simp only [joustref06_within.l0]
    rw [if_pos (by omega)]
    by_cases h : (i : Int) < y.length
    · rw [if_pos h, if_pos (by omega)]
      have ex := rd_at x i (by omega)
      have ey := rd_at y i (by omega)
      by_cases he : (rd_T60 x (i : Int)).f0 = (rd_T60 y (i : Int)).f0
      · rw [if_pos he, show wrap64 ((i : Int) + 1) = ((i + 1 : Nat) : Int) by rw [wrap_id (by omega) (by omega)]; omega]
        rw [ex, ey, ns_cons, ns_cons, he, Ed.head]
        exact ih (i + 1) k (by omega) (by omega) (by omega)
      · rw [if_neg he]
        refine stop (m + 1) i k hi hiy (by omega) ?_
        intro a x' b y' e1 e2
        rw [ex] at e1
        rw [ey] at e2
        rw [← (List.cons.inj e1).1, ← (List.cons.inj e2).1]
        exact he
    · rw [if_neg h]
      refine stop (m + 1) i k hi hiy (by omega) ?_
      intro a x' b y' _ e
      rw [List.drop_eq_nil_of_le (by omega)] at e
      cases e

theorem within_ok : ∀ c, c ≤ 8 → Within c := by
  intro c
  induction c with
  | zero =>
    intro hc x y k hx hy hk
    obtain ⟨k, rfl⟩ : ∃ m, k = m + 1 := ⟨k - 1, by omega⟩
    simp only [joustref06_within.f]
    exact l0_ok 0 hc (fun c' h => by omega) x y hx hy x.length 0 k (by omega) (by omega) (by omega)
  | succ c ih =>
    intro hc x y k hx hy hk
    obtain ⟨k, rfl⟩ : ∃ m, k = m + 1 := ⟨k - 1, by omega⟩
    simp only [joustref06_within.f]
    refine l0_ok (c + 1) hc (fun c' h => ?_) x y hx hy x.length 0 k (by omega) (by omega) (by omega)
    obtain rfl : c' = c := by omega
    exact ih (by omega)

theorem near_l0 (x y : List S60) (hx : x.length ≤ 2000000) (hy : y.length ≤ 2000000) : ∀ (m i k : Nat), i + m = 8 → (∀ j, j < i → ¬ Ed j (ns x) (ns y)) → x.length + 100 + m ≤ k →
    joustref06_Near.l0 k x y (i : Int) = some (nearL (ns x) (ns y))
  | 0, i, k, hi, hn, hk => by
    obtain ⟨k, rfl⟩ : ∃ m, k = m + 1 := ⟨k - 1, by omega⟩
    simp only [joustref06_Near.l0]
    rw [if_neg (by omega)]
    have T := nearL_tells (ns x) (ns y)
    congr 1
    obtain ⟨v0, v8, hv⟩ := T
    by_cases h : nearL (ns x) (ns y) = 8
    · exact h.symm
    · obtain ⟨v, e⟩ := Int.eq_ofNat_of_zero_le v0
      have := (hv v (by omega)).2 (by omega)
      exact absurd this (hn v (by omega))
  | m + 1, i, k, hi, hn, hk => by
    obtain ⟨k, rfl⟩ : ∃ m, k = m + 1 := ⟨k - 1, by omega⟩
    simp only [joustref06_Near.l0]
    rw [if_pos (by omega)]
    obtain ⟨r, hr, hz⟩ := within_ok i (by omega) x y k hx hy (by omega)
    rw [hr, Option.bind_some]
    obtain ⟨v0, v8, hv⟩ := nearL_tells (ns x) (ns y)
    cases r
    · rw [if_neg (by decide), show wrap64 ((i : Int) + 1) = ((i + 1 : Nat) : Int) by rw [wrap_id (by omega) (by omega)]; omega]
      refine near_l0 x y hx hy m (i + 1) k (by omega) (fun j hj => ?_) (by omega)
      by_cases h : j < i
      · exact hn j h
      · obtain rfl : j = i := by omega
        intro h'
        have := hz.2 h'
        cases this
    · rw [if_pos rfl]
      congr 1
      have h1 := (hv i (by omega)).1 (hz.1 rfl)
      obtain ⟨v, e⟩ := Int.eq_ofNat_of_zero_le v0
      by_cases h : v < i
      · have := (hv v (by omega)).2 (by omega)
        exact absurd this (hn v h)
      · omega

theorem runes_le (s : ByteArray) : (runesOf s).length ≤ s.size := by
  have := nums_le s
  simpa [nums] using this

theorem ns_all (s : ByteArray) : ns (allOf s) = nums s := by
  simp [ns, allOf, nums, one]

theorem all_fits (s : ByteArray) : (allOf s).all (fun r => fitsB r.f0) = (runesOf s).all (fun r => fitsB (r.2.1 : Int)) := by
  simp [allOf, List.all_map]
  rfl

theorem Check_ref (s : ByteArray) (hs : s.size ≤ 1048576) (k : Nat) (hk : s.size + 20 ≤ k) : joustref06_Check.f k s = some (errOf (checkOf fitsB s)) := by
  unfold joustref06_Check.f
  have hr := runes_le s
  have hi := checkOf_iff s
  rw [All_f s (by omega) k (by omega), Option.bind_some, allOf_len]
  obtain ⟨k, rfl⟩ : ∃ m, k = m + 1 := ⟨k - 1, by omega⟩
  have bad : ¬ checkOf fitsB s = true → errOf (checkOf fitsB s) = 60 := by
    intro h
    rw [Bool.not_eq_true] at h
    rw [h]; rfl
  have hj : joustref06_Check.j0 (k + 1) (allOf s) true = some 60 := by
    simp only [joustref06_Check.j0]
    rw [if_pos trivial]
  by_cases h1 : ((runesOf s).length : Int) < 1
  · rw [if_pos h1, hj, bad (fun h => by have := hi.1 h; omega)]
  rw [if_neg h1]
  by_cases h2 : ((runesOf s).length : Int) > 12
  · rw [if_pos h2, hj, bad (fun h => by have := hi.1 h; omega)]
  rw [if_neg h2]
  by_cases h3 : (s.size : Int) > 24
  · rw [decide_eq_true h3, hj, bad (fun h => by have := hi.1 h; omega)]
  rw [decide_eq_false h3]
  simp only [joustref06_Check.j0]
  rw [if_neg (by decide)]
  have hl := check_l0 (allOf s) (runesOf s).length 0 k (by rw [allOf_len]; omega) (by rw [allOf_len]; omega) (by omega)
  refine hl.trans ?_
  rw [List.drop_zero, all_fits]
  by_cases h : (runesOf s).all (fun r => fitsB (r.2.1 : Int)) = true
  · rw [if_pos h, hi.2 ⟨by omega, by omega, by omega, h⟩]; rfl
  · rw [if_neg h, bad (fun h' => h (hi.1 h').2.2.2)]

theorem asks_true (s : ByteArray) (n : Int) (hs : s.size ≤ 1048576) (h1 : -9223372036854775808 ≤ n) (h2 : n ≤ 9223372036854775807) (k : Nat) (hk : s.size + 6000 ≤ k) : joustlaw06_asks.f k s n = some true := by
  have hr := runes_le s
  obtain ⟨k, rfl⟩ : ∃ m, k = m + 2 := ⟨k - 2, by omega⟩
  unfold joustlaw06_asks.f
  rw [Check_f (by omega), Option.bind_some, num_f, Option.bind_some, Check_ref s hs _ (by omega), Option.bind_some, num_f, Option.bind_some, if_pos rfl,
    Fold_f (by omega), Option.bind_some, Fold_ref s (by omega) hr _ (by omega), Option.bind_some, if_pos rfl,
    Runes_f (by omega), Option.bind_some, Runes_ref s (by omega) _ (by omega), Option.bind_some, if_pos rfl,
    Cut_f (by omega) h1 h2, Option.bind_some, Cut_ref s n (by omega) hr _ (by omega), Option.bind_some, if_pos rfl,
    Pad_f (by omega) h1 h2, Option.bind_some, Pad_ref s n hs hr (fun m => runes_le _) k (by omega), Option.bind_some, beq_self_eq_true]

theorem Near_ref (a b : ByteArray) (ha : a.size ≤ 1048576) (hb : b.size ≤ 1048576) (k : Nat) (hk : a.size + b.size + 200 ≤ k) : joustref06_Near.f k a b = some (near a b) := by
  have hr := runes_le a
  have hq := runes_le b
  unfold joustref06_Near.f
  rw [All_f a (by omega) k (by omega), Option.bind_some, All_f b (by omega) k (by omega), Option.bind_some]
  have h := near_l0 (allOf a) (allOf b) (by rw [allOf_len]; omega) (by rw [allOf_len]; omega) 8 0 k (by omega) (fun j hj => by omega) (by rw [allOf_len]; omega)
  rw [ns_all, ns_all] at h
  exact h

theorem asks_pure (a b : ByteArray) (n : Int) (ha : a.size ≤ 1048576) (hb : b.size ≤ 1048576) (hn : (Lit.int .i64 n).wf = true) : ∃ k, joustlaw06_NameAsks.f k a b n = some true := by
  refine ⟨3000000, ?_⟩
  have h12 : -9223372036854775808 ≤ n ∧ n ≤ 9223372036854775807 := by
    simp [Lit.wf, IntKind.min, IntKind.max, IntKind.signed, IntKind.bits] at hn
    omega
  obtain ⟨K, hK⟩ : ∃ K, K = 3000000 := ⟨_, rfl⟩
  rw [← hK]
  unfold joustlaw06_NameAsks.f joustref06_Same.f
  rw [alive_true, Option.bind_some, if_pos rfl, asks_true a n ha h12.1 h12.2 K (by omega), Option.bind_some, if_pos rfl, asks_true b n hb h12.1 h12.2 K (by omega), Option.bind_some, if_pos rfl,
    Same_f (by omega) (by omega), Option.bind_some, Fold_ref a (by omega) (runes_le a) K (by omega), Option.bind_some, Fold_ref b (by omega) (runes_le b) K (by omega), Option.bind_some, Option.bind_some, beq_self_eq_true, if_pos rfl,
    Near_f (by omega) (by omega), Option.bind_some, Near_ref a b ha hb K (by omega), Option.bind_some, beq_self_eq_true]
end Go.Proofs.YtlmbkliieckakaaDoor.Nm
