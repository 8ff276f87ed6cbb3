/- A text's runes as a list, and what the functions of package name come to over it: plain Lean. -/
import Derived.Lib.RuneCount
import Derived.Lib.RuneBytes
namespace Go.Proofs.YtlmbkliieckakaaDoor.Nm
open Go

/-- The runes from place p on, by at most f of them: place, number, width. -/
def runesFrom (s : ByteArray) : Nat → Nat → List (Nat × Nat × Nat)
  | 0, _ => []
  | f + 1, p => if p < s.size then (p, (Utf8.decode s p).1, (Utf8.decode s p).2) :: runesFrom s f (p + (Utf8.decode s p).2) else []
def runesOf (s : ByteArray) : List (Nat × Nat × Nat) := runesFrom s s.size 0

theorem runesFrom_end (s : ByteArray) (f p : Nat) (h : ¬ p < s.size) : runesFrom s f p = [] := by
  cases f with
  | zero => rfl
  | succ f => simp [runesFrom, h]

theorem runesFrom_step (s : ByteArray) (f p : Nat) (h : p < s.size) : runesFrom s (f + 1) p = (p, (Utf8.decode s p).1, (Utf8.decode s p).2) :: runesFrom s f (p + (Utf8.decode s p).2) := by
  simp [runesFrom, h]

theorem decode_fits (s : ByteArray) (p : Nat) (h : p < s.size) : p + (Utf8.decode s p).2 ≤ s.size := by
  simp only [Utf8.decode]
  repeat' split
  all_goals simp_all
  all_goals omega

/-- Enough fuel is enough. -/
theorem runesFrom_fuel (s : ByteArray) : ∀ (f g p : Nat), s.size ≤ p + f → s.size ≤ p + g → runesFrom s f p = runesFrom s g p
  | 0, g, p, h1, _ => by rw [runesFrom_end s g p (by omega)]; rfl
  | f + 1, 0, p, _, h2 => by rw [runesFrom_end s (f + 1) p (by omega)]; rfl
  | f + 1, g + 1, p, h1, h2 => by
    by_cases hp : p < s.size
    · have := Lib.decode_width_pos s p hp
      rw [runesFrom_step s f p hp, runesFrom_step s g p hp, runesFrom_fuel s f g (p + (Utf8.decode s p).2) (by omega) (by omega)]
    · rw [runesFrom_end s _ p hp, runesFrom_end s _ p hp]

theorem runeCountFrom_eq (s : ByteArray) : ∀ (f p : Nat), Lib.runeCountFrom s f p = (runesFrom s f p).length
  | 0, _ => rfl
  | f + 1, p => by
    unfold Lib.runeCountFrom runesFrom
    split
    · rw [runeCountFrom_eq s f, List.length_cons]; omega
    · rfl
theorem runeCount_eq (s : ByteArray) : Lib.runeCount s = (runesOf s).length := runeCountFrom_eq s _ _

/-- The first n runes' end, from p on. -/
def cutFrom (s : ByteArray) : Nat → Nat → Int → Nat
  | 0, p, _ => p
  | f + 1, p, n => if p < s.size then (if n ≤ 0 then p else cutFrom s f (p + (Utf8.decode s p).2) (n - 1)) else p
def cutAt (s : ByteArray) (n : Int) : Nat := cutFrom s s.size 0 n
def cut (s : ByteArray) (n : Int) : ByteArray := s.extract 0 (cutAt s n)

theorem cutFrom_le (s : ByteArray) : ∀ (f p : Nat) (n : Int), p ≤ s.size → cutFrom s f p n ≤ s.size
  | 0, p, _, h => h
  | f + 1, p, n, h => by
    unfold cutFrom
    split
    · split
      · exact h
      · exact cutFrom_le s f _ _ (decode_fits s p (by assumption))
    · exact h

theorem cutFrom_end (s : ByteArray) (f p : Nat) (n : Int) (h : ¬ p < s.size) : cutFrom s f p n = p := by
  cases f with
  | zero => rfl
  | succ f => simp [cutFrom, h]
theorem cutFrom_now (s : ByteArray) (f p : Nat) (n : Int) (hn : n ≤ 0) : cutFrom s f p n = p := by
  cases f with
  | zero => rfl
  | succ f => simp [cutFrom, hn]
theorem cutFrom_step (s : ByteArray) (f p : Nat) (n : Int) (h : p < s.size) (hn : ¬ n ≤ 0) : cutFrom s (f + 1) p n = cutFrom s f (p + (Utf8.decode s p).2) (n - 1) := by
  simp [cutFrom, h, hn]

/-- What Check finds from place p on, behind k runes: is it a name? -/
def checkFrom (ok : Int → Bool) (s : ByteArray) : Nat → Nat → Nat → Bool
  | 0, _, k => decide (k ≠ 0 ∧ s.size ≤ 24)
  | f + 1, p, k => if p < s.size then (if 12 < k + 1 then false else if ok (Utf8.decode s p).1 then checkFrom ok s f (p + (Utf8.decode s p).2) (k + 1) else false) else decide (k ≠ 0 ∧ s.size ≤ 24)
def checkOf (ok : Int → Bool) (s : ByteArray) : Bool := checkFrom ok s s.size 0 0

theorem checkFrom_end (ok : Int → Bool) (s : ByteArray) (f p k : Nat) (h : ¬ p < s.size) : checkFrom ok s f p k = decide (k ≠ 0 ∧ s.size ≤ 24) := by
  cases f with
  | zero => rfl
  | succ f => simp only [checkFrom]; rw [if_neg h]

/-- The bytes that Fold writes from place p on. -/
def foldFrom (big : Int → Bool) (s : ByteArray) : Nat → Nat → List UInt8
  | 0, _ => []
  | f + 1, p => if p < s.size then (if big (Utf8.decode s p).1 then Lib.encodeRune ((Utf8.decode s p).1 + 32) else (s.extract p (p + (Utf8.decode s p).2)).data.toList) ++ foldFrom big s f (p + (Utf8.decode s p).2) else []
def foldOf (big : Int → Bool) (s : ByteArray) : List UInt8 := foldFrom big s s.size 0

theorem foldFrom_end (big : Int → Bool) (s : ByteArray) (f p : Nat) (h : ¬ p < s.size) : foldFrom big s f p = [] := by
  cases f with
  | zero => rfl
  | succ f => simp [foldFrom, h]

end Go.Proofs.YtlmbkliieckakaaDoor.Nm
