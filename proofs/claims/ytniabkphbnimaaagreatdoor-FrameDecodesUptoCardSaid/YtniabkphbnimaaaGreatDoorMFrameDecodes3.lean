/- What the statement FrameDecodes leans on, part 3: words, walks and plain laws of this session's own. -/
import Derived.Test.YtniabkphbnimaaaGreatDoorProg
import Derived.Test.YtniabkphbnimaaaGreatDoorRows
import Derived.Test.YtniabkphbnimaaaGreatDoorMFrameDecodes2
import Derived.ArgAppend
import Derived.Below
import Derived.BigQuiet
import Derived.ChangeSame
import Derived.Deep.AppendLies
import Derived.Deep.CutBlock
import Derived.Deep.DeepCutAuto
import Derived.Deep.Draws
import Derived.Deep.LoopGhost
import Derived.Deep.OwnRows
import Derived.Deep.QuietTactic
import Derived.Deep.RegionHeld3
import Derived.Deep.RegionLaw
import Derived.Deep.RegionWith
import Derived.Defers
import Derived.Great.Walk
import Derived.KernelRfl
import Derived.Laws.AppendOwn
import Derived.Laws.BitsLemmas
import Derived.Laws.BytesArg
import Derived.Laws.CopyOwn
import Derived.Laws.CopyRow
import Derived.Laws.IdiomCopy
import Derived.Laws.IdiomStrings
import Derived.Laws.MakeOwn
import Derived.Laws.OwnMore
import Derived.Laws.Rows
import Derived.Laws.Slices
import Derived.Lib.AppendStr
import Derived.Lib.ConvBytes
import Derived.Lib.LaidTab
import Derived.Maps.AppendAt
import Derived.Maps.OwnSet
import Derived.OrdersHeld
import Derived.OwnWalk
import Derived.Recover
import Derived.RowKit
import Derived.RowKit3
import Derived.Shelf.Strings.Repeat
import Derived.Shelf.Strings.Trim
import Derived.Tactics
import Derived.WalkKit
import Derived.WalkSmall
import Derived.WideLaws
set_option linter.unusedVariables false
set_option linter.unusedSimpArgs false
namespace Go.Proofs.YtniabkphbnimaaaGreatDoor.Sh
open Go Go.RowKit Go.Maps Go.Proofs.YtniabkphbnimaaaGreatDoorW.PrintWords Go.Proofs.YtniabkphbnimaaaGreatDoorW.PrintLast Go.Proofs.YtniabkphbnimaaaGreatDoor.Bs
theorem dw_nil {α : Type} (p : α → Bool) (l : List α) : l.dropWhile p = [] ↔ ∀ b ∈ l, p b = true := by
  induction l with
  | nil => simp
  | cons x l ih =>
    by_cases h : p x = true
    · rw [List.dropWhile_cons_of_pos h, ih]
      simp [h]
    · rw [List.dropWhile_cons_of_neg h]
      simp [h]
theorem trimB_nil (l : List UInt8) (c : UInt8) : Lib.trimB l c = [] ↔ ∀ b ∈ l, b = c := by
  have e1 : ∀ m : List UInt8, Lib.trimLeftB m c = [] ↔ ∀ b ∈ m, b = c := by
    intro m
    unfold Lib.trimLeftB
    rw [dw_nil]
    simp
  unfold Lib.trimB
  rw [e1]
  unfold Lib.trimRightB
  constructor
  · intro h
    have hn : l.reverse.dropWhile (· == c) = [] := by
      cases hy : l.reverse.dropWhile (· == c) with
      | nil => rfl
      | cons y ys =>
        exfalso
        have h1 := List.head?_dropWhile_not (· == c) l.reverse
        rw [hy] at h1
        have h2 := h y (by rw [hy]; simp)
        simp [h2] at h1
    intro b hb
    have := (dw_nil _ _).mp hn b (List.mem_reverse.mpr hb)
    simpa using this
  · intro h b hb
    have h2 : l.reverse.dropWhile (· == c) = [] := (dw_nil _ _).mpr (fun b hb => by simp [h b (List.mem_reverse.mp hb)])
    rw [h2] at hb
    cases hb
@[reducible] def dk (k : Nat) : Dg := { Dg.zero with kind := (k : Int) }
/-- What comes behind the fields. -/
def fin (o : Option (Dg × Bool × List UInt8)) : Dg × Int :=
  match o with
  | none => (.zero, 72)
  | some (d, bad, r) => if r ≠ [] then (.zero, 72) else if bad = true then (.zero, 73) else (d, 0)
theorem nil_drop (t : List UInt8) (n : Nat) : t.drop n ≠ [] ↔ n < t.length := by
  rw [Ne, List.drop_eq_nil_iff]
  omega
theorem dec1 (t : List UInt8) : fin (getAll (fieldsOf 1) (dk 1, false, t)) = if t.length = 92 then (if ∀ b ∈ t.drop 16, b = 0 then ({ dk 1 with nonce := str (t.take 16) }, 0) else (.zero, 73)) else (.zero, 72) := by
  show fin (getAll [.nonce, .zeros] (dk 1, false, t)) = _
  simp only [getAll, getF]
  by_cases h1 : 16 ≤ t.length
  · rw [if_pos h1]
    simp only [Option.bind_some, List.length_drop, List.drop_drop]
    by_cases h2 : 76 ≤ t.length - 16
    · rw [if_pos h2]
      simp only [Option.bind_some, fin]
      by_cases h3 : t.length = 92
      · rw [if_pos h3, if_neg (by rw [nil_drop]; omega), List.take_of_length_le (by rw [List.length_drop]; omega)]
        by_cases h4 : ∀ b ∈ t.drop 16, b = 0
        · rw [if_pos h4, if_neg (by simp only [decide_eq_true_eq]; exact fun h => h ((trimB_nil _ _).mpr h4))]
        · rw [if_neg h4, if_pos (decide_eq_true (p := Lib.trimB (t.drop 16) 0 ≠ []) (fun h => h4 ((trimB_nil _ _).mp h)))]
      · rw [if_neg h3, if_pos (by rw [nil_drop]; omega)]
    · rw [if_neg h2, if_neg (by omega)]
      rfl
  · rw [if_neg h1, if_neg (by omega)]
    rfl
theorem dec2 (t : List UInt8) : fin (getAll (fieldsOf 2) (dk 2, false, t)) = if t.length = 56 then ({ dk 2 with nonce := str (t.take 16), epoch := num ((t.drop 16).take 8), cookie := str ((t.drop 24).take 32) }, 0) else (.zero, 72) := by
  show fin (getAll [.nonce, .epoch, .cookie] (dk 2, false, t)) = _
  simp only [getAll, getF]
  by_cases h1 : 16 ≤ t.length
  · rw [if_pos h1]
    simp only [Option.bind_some, List.length_drop, List.drop_drop]
    by_cases h2 : 8 ≤ t.length - 16
    · rw [if_pos h2]
      simp only [Option.bind_some, List.length_drop, List.drop_drop]
      by_cases h3 : 32 ≤ t.length - (16 + 8)
      · rw [if_pos h3]
        simp only [Option.bind_some, fin]
        by_cases h4 : t.length = 56
        · rw [if_pos h4, if_neg (by rw [nil_drop]; omega), if_neg (by decide)]
        · rw [if_neg h4, if_pos (by rw [nil_drop]; omega)]
      · rw [if_neg h3, if_neg (by omega)]
        rfl
    · rw [if_neg h2, if_neg (by omega)]
      rfl
  · rw [if_neg h1, if_neg (by omega)]
    rfl
theorem dec3 (t : List UInt8) : fin (getAll (fieldsOf 3) (dk 3, false, t)) = if 89 ≤ t.length ∧ t.length = 89 + (t.getD 56 0).toNat then ({ dk 3 with nonce := str (t.take 16), epoch := num ((t.drop 16).take 8), cookie := str ((t.drop 24).take 32), name := str ((t.drop 57).take (t.getD 56 0).toNat), tag := str ((t.drop (t.length - 32)).take 32) }, 0) else (.zero, 72) := by
  show fin (getAll [.nonce, .epoch, .cookie, .name, .tag] (dk 3, false, t)) = _
  simp only [getAll, getF]
  by_cases h1 : 16 ≤ t.length
  · rw [if_pos h1]
    simp only [Option.bind_some, List.length_drop, List.drop_drop]
    by_cases h2 : 8 ≤ t.length - 16
    · rw [if_pos h2]
      simp only [Option.bind_some, List.length_drop, List.drop_drop]
      by_cases h3 : 32 ≤ t.length - (16 + 8)
      · rw [if_pos h3]
        simp only [Option.bind_some]
        by_cases h4 : 57 ≤ t.length
        · have e : t.drop (16 + 8 + 32) = t.getD 56 0 :: t.drop 57 := by
            rw [show 16 + 8 + 32 = 56 from rfl, List.drop_eq_getElem_cons (by omega), List.getD_eq_getElem?_getD, List.getElem?_eq_getElem (by omega)]
            rfl
          rw [e]
          simp only [Option.bind_some, List.length_drop, List.drop_drop]
          by_cases h5 : (t.getD 56 0).toNat ≤ t.length - 57
          · rw [if_pos h5]
            simp only [Option.bind_some, List.length_drop, List.drop_drop]
            by_cases h6 : 32 ≤ t.length - (57 + (t.getD 56 0).toNat)
            · rw [if_pos h6]
              simp only [Option.bind_some, fin]
              by_cases h7 : t.length = 89 + (t.getD 56 0).toNat
              · rw [if_neg (by rw [nil_drop]; omega), if_neg (by decide), if_pos ⟨by omega, h7⟩, show 57 + (t.getD 56 0).toNat = t.length - 32 by omega]
              · rw [if_pos (by rw [nil_drop]; omega), if_neg (fun h => h7 h.2)]
            · rw [if_neg h6, if_neg (by omega)]
              rfl
          · rw [if_neg h5, if_neg (by omega)]
            rfl
        · rw [List.drop_of_length_le (by omega), if_neg (by omega)]
          rfl
      · rw [if_neg h3, if_neg (by omega)]
        rfl
    · rw [if_neg h2, if_neg (by omega)]
      rfl
  · rw [if_neg h1, if_neg (by omega)]
    rfl
theorem dec4 (t : List UInt8) : fin (getAll (fieldsOf 4) (dk 4, false, t)) = if t.length = 73 then ({ dk 4 with nonce := str (t.take 16), session := num ((t.drop 16).take 8), player := ((t.getD 24 0).toNat : Int), salt := str ((t.drop 25).take 16), tag := str ((t.drop 41).take 32) }, 0) else (.zero, 72) := by
  show fin (getAll [.nonce, .session, .player, .salt, .tag] (dk 4, false, t)) = _
  simp only [getAll, getF]
  by_cases h1 : 16 ≤ t.length
  · rw [if_pos h1]
    simp only [Option.bind_some, List.length_drop, List.drop_drop]
    by_cases h2 : 8 ≤ t.length - 16
    · rw [if_pos h2]
      simp only [Option.bind_some, List.length_drop, List.drop_drop]
      by_cases h4 : 25 ≤ t.length
      · have e : t.drop (16 + 8) = t.getD 24 0 :: t.drop 25 := by
          rw [show 16 + 8 = 24 from rfl, List.drop_eq_getElem_cons (by omega), List.getD_eq_getElem?_getD, List.getElem?_eq_getElem (by omega)]
          rfl
        rw [e]
        simp only [Option.bind_some, List.length_drop, List.drop_drop]
        by_cases h5 : 16 ≤ t.length - 25
        · rw [if_pos h5]
          simp only [Option.bind_some, List.length_drop, List.drop_drop]
          by_cases h6 : 32 ≤ t.length - (25 + 16)
          · rw [if_pos h6]
            simp only [Option.bind_some, fin]
            by_cases h7 : t.length = 73
            · rw [if_pos h7, if_neg (by rw [nil_drop]; omega), if_neg (by decide)]
            · rw [if_neg h7, if_pos (by rw [nil_drop]; omega)]
          · rw [if_neg h6, if_neg (by omega)]
            rfl
        · rw [if_neg h5, if_neg (by omega)]
          rfl
      · rw [List.drop_of_length_le (by omega), if_neg (by omega)]
        rfl
    · rw [if_neg h2, if_neg (by omega)]
      rfl
  · rw [if_neg h1, if_neg (by omega)]
    rfl
theorem dec5 (t : List UInt8) : fin (getAll (fieldsOf 5) (dk 5, false, t)) = if t.length = 51 then (if 3 < (t.getD 18 0).toNat then (.zero, 73) else ({ dk 5 with session := num (t.take 8), seq := num ((t.drop 8).take 8), thr := sbyte (t.getD 16 0), trn := sbyte (t.getD 17 0), fire := bit0 (t.getD 18 0), boost := bit1 (t.getD 18 0), tag := str ((t.drop 19).take 32) }, 0)) else (.zero, 72) := by
  show fin (getAll [.session, .seq, .command, .tag] (dk 5, false, t)) = _
  simp only [getAll, getF]
  by_cases h1 : 8 ≤ t.length
  · rw [if_pos h1]
    simp only [Option.bind_some, List.length_drop, List.drop_drop]
    by_cases h2 : 8 ≤ t.length - 8
    · rw [if_pos h2]
      simp only [Option.bind_some, List.length_drop, List.drop_drop]
      by_cases h4 : 19 ≤ t.length
      · have e : t.drop (8 + 8) = t.getD 16 0 :: t.getD 17 0 :: t.getD 18 0 :: t.drop 19 := by
          rw [show 8 + 8 = 16 from rfl, List.drop_eq_getElem_cons (by omega), List.drop_eq_getElem_cons (i := 16 + 1) (by omega), List.drop_eq_getElem_cons (i := 16 + 1 + 1) (by omega)]
          simp only [List.getD_eq_getElem?_getD]
          rw [List.getElem?_eq_getElem (i := 16) (by omega), List.getElem?_eq_getElem (i := 17) (by omega), List.getElem?_eq_getElem (i := 18) (by omega)]
          rfl
        rw [e]
        simp only [Option.bind_some, List.length_drop, List.drop_drop]
        by_cases h5 : 32 ≤ t.length - 19
        · rw [if_pos h5]
          simp only [Option.bind_some, fin]
          by_cases h7 : t.length = 51
          · rw [if_pos h7, if_neg (by rw [nil_drop]; omega)]
            simp only [decide_eq_true_eq]
          · rw [if_neg h7, if_pos (by rw [nil_drop]; omega)]
        · rw [if_neg h5, if_neg (by omega)]
          rfl
      · have e : (match t.drop (8 + 8) with | a :: b :: c :: t => some (({ { { dk 5 with session := num (t.take 8) } with seq := num ((t.drop 8).take 8) } with thr := sbyte a, trn := sbyte b, fire := bit0 c, boost := bit1 c } : Dg), decide (3 < c.toNat), t) | _ => none) = none := by
          have hl : (t.drop (8 + 8)).length ≤ 2 := by rw [List.length_drop]; omega
          match h : t.drop (8 + 8), hl with
          | [], _ => rfl
          | [_], _ => rfl
          | [_, _], _ => rfl
        have hl : (t.drop (8 + 8)).length ≤ 2 := by rw [List.length_drop]; omega
        rw [if_neg (by omega)]
        match h : t.drop (8 + 8), hl with
        | [], _ => rfl
        | [_], _ => rfl
        | [_, _], _ => rfl
    · rw [if_neg h2, if_neg (by omega)]
      rfl
  · rw [if_neg h1, if_neg (by omega)]
    rfl
theorem dec6 (t : List UInt8) : fin (getAll (fieldsOf 6) (dk 6, false, t)) = if 48 ≤ t.length then ({ dk 6 with session := num (t.take 8), seq := num ((t.drop 8).take 8), data := str ((t.drop 16).take (t.length - 48)), tag := str ((t.drop (t.length - 32)).take 32) }, 0) else (.zero, 72) := by
  show fin (getAll [.session, .seq, .data, .tag] (dk 6, false, t)) = _
  simp only [getAll, getF]
  by_cases h1 : 8 ≤ t.length
  · rw [if_pos h1]
    simp only [Option.bind_some, List.length_drop, List.drop_drop]
    by_cases h2 : 8 ≤ t.length - 8
    · rw [if_pos h2]
      simp only [Option.bind_some, List.length_drop, List.drop_drop]
      by_cases h4 : 32 ≤ t.length - (8 + 8)
      · rw [if_pos h4]
        simp only [Option.bind_some, List.length_drop, List.drop_drop]
        rw [if_pos (by omega)]
        simp only [Option.bind_some, fin]
        rw [if_neg (by rw [nil_drop]; omega), if_neg (by decide), if_pos (by omega), show t.length - (8 + 8) - 32 = t.length - 48 by omega, show 8 + 8 + (t.length - 48) = t.length - 32 by omega]
      · rw [if_neg h4, if_neg (by omega)]
        rfl
    · rw [if_neg h2, if_neg (by omega)]
      rfl
  · rw [if_neg h1, if_neg (by omega)]
    rfl
theorem dec7 (t : List UInt8) : fin (getAll (fieldsOf 7) (dk 7, false, t)) = if t.length = 48 then ({ dk 7 with session := num (t.take 8), seq := num ((t.drop 8).take 8), tag := str ((t.drop 16).take 32) }, 0) else (.zero, 72) := by
  show fin (getAll [.session, .seq, .tag] (dk 7, false, t)) = _
  simp only [getAll, getF]
  by_cases h1 : 8 ≤ t.length
  · rw [if_pos h1]
    simp only [Option.bind_some, List.length_drop, List.drop_drop]
    by_cases h2 : 8 ≤ t.length - 8
    · rw [if_pos h2]
      simp only [Option.bind_some, List.length_drop, List.drop_drop]
      by_cases h4 : 32 ≤ t.length - (8 + 8)
      · rw [if_pos h4]
        simp only [Option.bind_some, fin]
        by_cases h7 : t.length = 48
        · rw [if_pos h7, if_neg (by rw [nil_drop]; omega), if_neg (by decide)]
        · rw [if_neg h7, if_pos (by rw [nil_drop]; omega)]
      · rw [if_neg h4, if_neg (by omega)]
        rfl
    · rw [if_neg h2, if_neg (by omega)]
      rfl
  · rw [if_neg h1, if_neg (by omega)]
    rfl
theorem dec_at (k : UInt8) (t : List UInt8) (h : (74 :: 48 :: 49 :: k :: t : List UInt8).length ≤ 1200) (hk : 1 ≤ k.toNat ∧ k.toNat ≤ 7) : dec (74 :: 48 :: 49 :: k :: t) = fin (getAll (fieldsOf (k.toNat : Int)) (dk k.toNat, false, t)) := by
  unfold dec
  rw [if_neg (by omega), if_pos (show List.take 3 (74 :: 48 :: 49 :: k :: t : List UInt8) = [74, 48, 49] from rfl)]
  show (if 1 ≤ (k.toNat : Int) ∧ (k.toNat : Int) ≤ 7 then _ else _) = _
  rw [if_pos (by omega)]
  rfl
end Go.Proofs.YtniabkphbnimaaaGreatDoor.Sh
namespace Go.Proofs.YtniabkphbnimaaaGreatDoor.Sh
open Go Go.RowKit Go.Maps Go.Proofs.YtniabkphbnimaaaGreatDoorW.PrintWords Go.Proofs.YtniabkphbnimaaaGreatDoorW.PrintLast Go.Proofs.YtniabkphbnimaaaGreatDoor.Bs
theorem num_le (l : List UInt8) (h : l.length ≤ 8) : num l < 18446744073709551616 := by
  have h1 := num_lt l
  have h2 : 256 ^ l.length ≤ 256 ^ 8 := Nat.pow_le_pow_right (by decide) h
  have h3 : 256 ^ 8 = 18446744073709551616 := by decide
  omega
theorem number_l (l : List UInt8) (p : Nat) (hp : p + 8 ≤ l.length) (hl : l.length < 4611686018427387904) : ∀ (m i k : Nat), m = 8 - i → i ≤ 8 → m < k →
    QQA.joustref07_number.l0 k (str l) (p : Int) (num ((l.drop p).take i) : Int) (i : Int) = some (num ((l.drop p).take 8) : Int) := by
  intro m
  induction m with
  | zero =>
    intro i k hm hi hk
    obtain ⟨k, rfl⟩ : ∃ j, k = j + 1 := ⟨k - 1, by omega⟩
    have : i = 8 := by omega
    subst this
    unfold QQA.joustref07_number.l0
    rw [if_neg (by omega)]
  | succ m ih =>
    intro i k hm hi hk
    obtain ⟨k, rfl⟩ : ∃ j, k = j + 1 := ⟨k - 1, by omega⟩
    have s1 : ((str l).size : Int) = (l.length : Int) := rfl
    have hz : wrap64 ((i : Int) + 1) = ((i + 1 : Nat) : Int) := by unfold wrap64; omega
    have hq : wrap64 ((p : Int) + (i : Int)) = ((p + i : Nat) : Int) := by unfold wrap64; omega
    have hb := (l.getD (p + i) 0).toNat_lt
    have ht : (l.drop p).take (i + 1) = (l.drop p).take i ++ [l.getD (p + i) 0] := by
      rw [List.take_add_one, List.getElem?_drop, List.getD_eq_getElem?_getD, List.getElem?_eq_getElem (by omega)]
      rfl
    have h1 := num_le ((l.drop p).take i) (by rw [List.length_take]; omega)
    have h2 := num_le ((l.drop p).take (i + 1)) (by rw [List.length_take]; omega)
    rw [ht, num_snoc] at h2
    have hv : IntKind.u64.wrap (IntKind.u64.wrap ((num ((l.drop p).take i) : Int) * 256) + IntKind.u64.wrap ((l.getD (p + i) 0).toNat : Int)) = (num ((l.drop p).take (i + 1)) : Int) := by
      rw [ht, num_snoc, wrap_u64, wrap_u64, wrap_u64]
      omega
    unfold QQA.joustref07_number.l0
    rw [if_pos (by omega), hq, if_pos (by omega), if_pos (by omega), bt_str, Int.toNat_natCast, hz, hv]
    exact ih (i + 1) k (by omega) (by omega) (by omega)
theorem number_f (l : List UInt8) (p : Nat) (hp : p + 8 ≤ l.length) (hl : l.length < 4611686018427387904) : QQA.joustref07_number.f 9 (str l) (p : Int) = some (num ((l.drop p).take 8) : Int) :=
  number_l l p hp hl 8 0 9 rfl (by omega) (by omega)
theorem number_calls (l : List UInt8) (p : Nat) (pi : Int) (hpi : pi = (p : Int)) (hp : p + 8 ≤ l.length) (hl : l.length < 4611686018427387904) (w : World) : Calls Tryz.prog 32 #[.string (str l), .int .i64 pi] w fun e w' => e = .returned (.int .u64 (num ((l.drop p).take 8) : Int)) ∧ Below w.heap.size w w' := by
  subst hpi
  exact (QQA.joustref07_number.calls _ _ _ _ w (number_f l p hp hl)).mono fun e w' hh => ⟨hh.1, drawn_below hh.2⟩
theorem rsigned_f (b : UInt8) : QQA.joustref07_signed.f (b.toNat : Int) = some (sbyte b) := by
  have hb := b.toNat_lt
  have hw : wrap64 (b.toNat : Int) = (b.toNat : Int) := by unfold wrap64; omega
  unfold QQA.joustref07_signed.f sbyte
  rw [hw]
  by_cases h : b.toNat > 127
  · have hw2 : wrap64 ((b.toNat : Int) - 256) = (b.toNat : Int) - 256 := by unfold wrap64; omega
    rw [if_pos (by omega), if_pos h, hw2]
  · rw [if_neg (by omega), if_neg h]
theorem rsg_calls (b : UInt8) (w : World) : Calls Tryz.prog 33 #[.int .u8 (b.toNat : Int)] w fun e w' => e = .returned (.int .i64 (sbyte b)) ∧ Below w.heap.size w w' :=
  (QQA.joustref07_signed.calls _ _ w (rsigned_f b)).mono fun e w' hh => ⟨hh.1, drawn_below hh.2⟩
theorem jud_l (l : List UInt8) (hl : l.length = 96) (h3 : (l.getD 3 0).toNat = 1) : ∀ (m i k : Nat), m = 96 - i → i ≤ 96 → m < k →
    QQA.joustref07_judged.l0 k (str l) (i : Int) = some (if ∀ b ∈ l.drop i, b = 0 then 0 else 73) := by
  intro m
  have s1 : ((str l).size : Int) = (l.length : Int) := rfl
  have b3 : bt (str l) 3 = 1 := by rw [bt_str]; show ((l.getD 3 0).toNat : Int) = 1; omega
  induction m with
  | zero =>
    intro i k hm hi hk
    obtain ⟨k, rfl⟩ : ∃ j, k = j + 1 := ⟨k - 1, by omega⟩
    unfold QQA.joustref07_judged.l0
    rw [if_neg (by omega), if_pos (by omega), b3, if_neg (by decide), List.drop_of_length_le (by omega), if_pos (by simp)]
  | succ m ih =>
    intro i k hm hi hk
    obtain ⟨k, rfl⟩ : ∃ j, k = j + 1 := ⟨k - 1, by omega⟩
    have hz : wrap64 ((i : Int) + 1) = ((i + 1 : Nat) : Int) := by unfold wrap64; omega
    have hil : i < l.length := by omega
    unfold QQA.joustref07_judged.l0
    rw [if_pos (by omega), if_pos (by omega), if_pos (by omega), bt_str, Int.toNat_natCast, List.drop_eq_getElem_cons hil, List.getD_eq_getElem?_getD, List.getElem?_eq_getElem hil]
    simp only [Option.getD_some, List.forall_mem_cons]
    by_cases h : l[i] = 0
    · rw [if_pos (by rw [h]; rfl), hz, ih (i + 1) k (by omega) (by omega) (by omega)]
      congr 1
      by_cases h4 : ∀ b ∈ l.drop (i + 1), b = 0
      · rw [if_pos h4, if_pos ⟨h, h4⟩]
      · rw [if_neg h4, if_neg (fun h5 => h4 h5.2)]
    · have hn : ¬ ((l[i].toNat : Int) = 0) := fun e => h (UInt8.toNat_inj.mp (by show l[i].toNat = 0; omega))
      rw [if_neg hn, if_neg (fun h5 => h h5.1)]
theorem beq_dec (a b : Int) (p : Prop) [Decidable p] (h : a = b ↔ p) : (a == b) = decide p := by
  rw [Bool.eq_iff_iff]
  simp [h]
theorem judged_f (l : List UInt8) : QQA.joustref07_judged.f 100 (str l) = some (dec l).2 := by
  have s1 : ((str l).size : Int) = (l.length : Int) := rfl
  have e3 : (3 : Int).toNat = 3 := rfl
  have j0 : ∀ k b, QQA.joustref07_judged.j0 (k + 1) (str l) b = if b = true then (some 70) else (if ((str l).size : Int) < 4 then (QQA.joustref07_judged.j1 k (str l) true) else (if 3 < ((str l).size : Int) then (if (bt (str l) 3) < 1 then (QQA.joustref07_judged.j1 k (str l) true) else (QQA.joustref07_judged.j1 k (str l) (decide ((bt (str l) 3) > 7)))) else (none))) := fun k b => by rw [QQA.joustref07_judged.j0]
  have j1t : ∀ k, QQA.joustref07_judged.j1 (k + 1) (str l) true = some 71 := fun k => by rw [QQA.joustref07_judged.j1]; rfl
  have j1f : ∀ k, QQA.joustref07_judged.j1 (k + 1) (str l) false = (QQA.joustref07_long.f (str l)).bind fun t122 => (if t122 = true then (if 3 < ((str l).size : Int) then (if (bt (str l) 3) = 1 then (QQA.joustref07_judged.l0 k (str l) 20) else (if (bt (str l) 3) = 5 then (if 22 < ((str l).size : Int) then (if (bt (str l) 22) > 3 then (some 73) else (some 0)) else (none)) else (some 0))) else (none)) else (some 72)) := fun k => by rw [QQA.joustref07_judged.j1]; rfl
  unfold QQA.joustref07_judged.f
  rw [s1]
  by_cases h1 : 1200 < l.length
  · rw [if_pos (by omega), show dec l = (Dg.zero, 72) from if_pos h1]
  rw [if_neg (by omega)]
  by_cases h2 : l.take 3 = [74, 48, 49]
  · have hl3 : 3 ≤ l.length := by have := congrArg List.length h2; rw [List.length_take] at this; simp at this; omega
    rw [if_neg (by omega), if_pos (by decide), if_pos (by omega), str_take, str_list, h2]
    show QQA.joustref07_judged.j0 100 (str l) false = _
    obtain ⟨m, rfl⟩ : ∃ m, l = 74 :: 48 :: 49 :: m := ⟨l.drop 3, by rw [← List.take_append_drop 3 l, h2]; rfl⟩
    rw [j0 99, if_neg (by decide), s1]
    cases m with
    | nil => rw [if_pos (by decide), j1t 98]; rfl
    | cons k t =>
      have hk := k.toNat_lt
      have hlen : ((74 :: 48 :: 49 :: k :: t : List UInt8).length : Int) = (t.length : Int) + 4 := by simp only [List.length_cons]; omega
      have b3 : bt (str (74 :: 48 :: 49 :: k :: t)) 3 = (k.toNat : Int) := by rw [bt_str]; rfl
      rw [hlen, if_neg (by omega), if_pos (by omega), b3]
      by_cases hk1 : (k.toNat : Int) < 1
      · rw [if_pos hk1, j1t 98]
        unfold dec
        rw [if_neg h1, if_pos h2]
        show _ = some (if 1 ≤ (k.toNat : Int) ∧ (k.toNat : Int) ≤ 7 then _ else (Dg.zero, 71)).2
        rw [if_neg (by omega)]
      rw [if_neg hk1]
      by_cases hk7 : (k.toNat : Int) > 7
      · rw [decide_eq_true hk7, j1t 98]
        unfold dec
        rw [if_neg h1, if_pos h2]
        show _ = some (if 1 ≤ (k.toNat : Int) ∧ (k.toNat : Int) ≤ 7 then _ else (Dg.zero, 71)).2
        rw [if_neg (by omega)]
      rw [decide_eq_false hk7, j1f 98, s1, hlen, b3, dec_at k t (by omega) (by omega)]
      unfold QQA.joustref07_long.f
      rw [s1, hlen, b3, if_pos (by omega)]
      obtain ⟨n, en⟩ : ∃ n, n = k.toNat := ⟨_, rfl⟩
      rw [← en]
      have hn : n = 1 ∨ n = 2 ∨ n = 3 ∨ n = 4 ∨ n = 5 ∨ n = 6 ∨ n = 7 := by omega
      rcases hn with rfl | rfl | rfl | rfl | rfl | rfl | rfl
      · show _ = some (fin (getAll (fieldsOf 1) (dk 1, false, t))).2
        rw [if_pos (by decide), dec1]
        simp only [Option.bind_some]
        rw [beq_dec _ _ (t.length = 92) (by omega)]
        by_cases ht : t.length = 92
        · rw [decide_eq_true ht, if_pos rfl, if_pos (by omega), if_pos (by decide), if_pos ht]
          refine (jud_l (74 :: 48 :: 49 :: k :: t) (by simp only [List.length_cons]; omega) (by show k.toNat = 1; omega) 76 20 98 (by omega) (by omega) (by omega)).trans ?_
          show some (if ∀ b ∈ t.drop 16, b = 0 then (0 : Int) else 73) = _
          split <;> rfl
        · rw [decide_eq_false ht, if_neg (by decide), if_neg ht]
      · show _ = some (fin (getAll (fieldsOf 2) (dk 2, false, t))).2
        rw [if_neg (by decide), if_pos (by decide), dec2]
        simp only [Option.bind_some]
        rw [beq_dec _ _ (t.length = 56) (by omega)]
        by_cases ht : t.length = 56
        · rw [decide_eq_true ht, if_pos rfl, if_pos (by omega), if_neg (by decide), if_neg (by decide), if_pos ht]
        · rw [decide_eq_false ht, if_neg (by decide), if_neg ht]
      · show _ = some (fin (getAll (fieldsOf 3) (dk 3, false, t))).2
        rw [if_neg (by decide), if_neg (by decide), if_pos (by decide), dec3]
        by_cases ht : 89 ≤ t.length
        · have hb := (t.getD 56 0).toNat_lt
          have e60 : bt (str (74 :: 48 :: 49 :: k :: t)) 60 = ((t.getD 56 0).toNat : Int) := by rw [bt_str]; rfl
          have hw : wrap64 ((t.getD 56 0).toNat : Int) = ((t.getD 56 0).toNat : Int) := by unfold wrap64; omega
          have hw2 : wrap64 (93 + ((t.getD 56 0).toNat : Int)) = 93 + ((t.getD 56 0).toNat : Int) := by unfold wrap64; omega
          rw [if_pos (by omega), if_pos (by omega), e60, hw, hw2]
          simp only [Option.bind_some]
          rw [beq_dec _ _ (t.length = 89 + (t.getD 56 0).toNat) (by omega)]
          by_cases h5 : t.length = 89 + (t.getD 56 0).toNat
          · rw [decide_eq_true h5, if_pos rfl, if_pos (by omega), if_neg (by decide), if_neg (by decide), if_pos ⟨ht, h5⟩]
          · rw [decide_eq_false h5, if_neg (by decide), if_neg (fun h => h5 h.2)]
        · rw [if_neg (show ¬ ((t.length : Int) + 4 ≥ 93) by omega), if_neg (show ¬ (89 ≤ t.length ∧ t.length = 89 + (t.getD 56 0).toNat) from fun h => ht h.1)]
          rfl
      · show _ = some (fin (getAll (fieldsOf 4) (dk 4, false, t))).2
        rw [if_neg (by decide), if_neg (by decide), if_neg (by decide), if_pos (by decide), dec4]
        simp only [Option.bind_some]
        rw [beq_dec _ _ (t.length = 73) (by omega)]
        by_cases ht : t.length = 73
        · rw [decide_eq_true ht, if_pos rfl, if_pos (by omega), if_neg (by decide), if_neg (by decide), if_pos ht]
        · rw [decide_eq_false ht, if_neg (by decide), if_neg ht]
      · show _ = some (fin (getAll (fieldsOf 5) (dk 5, false, t))).2
        have e22 : bt (str (74 :: 48 :: 49 :: k :: t)) 22 = ((t.getD 18 0).toNat : Int) := by rw [bt_str]; rfl
        rw [if_neg (by decide), if_neg (by decide), if_neg (by decide), if_neg (by decide), if_pos (by decide), dec5, e22]
        simp only [Option.bind_some]
        rw [beq_dec _ _ (t.length = 51) (by omega)]
        by_cases ht : t.length = 51
        · rw [decide_eq_true ht, if_pos rfl, if_pos (by omega), if_neg (by decide), if_pos (by decide), if_pos (by omega), if_pos ht]
          by_cases h5 : 3 < (t.getD 18 0).toNat
          · rw [if_pos (by omega), if_pos h5]
          · rw [if_neg (by omega), if_neg h5]
        · rw [decide_eq_false ht, if_neg (by decide), if_neg ht]
      · show _ = some (fin (getAll (fieldsOf 6) (dk 6, false, t))).2
        rw [if_neg (by decide), if_neg (by decide), if_neg (by decide), if_neg (by decide), if_neg (by decide), if_pos (by decide), dec6]
        simp only [Option.bind_some]
        by_cases ht : 48 ≤ t.length
        · rw [decide_eq_true (show (t.length : Int) + 4 ≥ 52 by omega), if_pos rfl, if_pos (by omega), if_neg (by decide), if_neg (by decide), if_pos ht]
        · rw [decide_eq_false (show ¬ (t.length : Int) + 4 ≥ 52 by omega), if_neg (by decide), if_neg ht]
      · show _ = some (fin (getAll (fieldsOf 7) (dk 7, false, t))).2
        rw [if_neg (by decide), if_neg (by decide), if_neg (by decide), if_neg (by decide), if_neg (by decide), if_neg (by decide), dec7]
        simp only [Option.bind_some]
        rw [beq_dec _ _ (t.length = 48) (by omega)]
        by_cases ht : t.length = 48
        · rw [decide_eq_true ht, if_pos rfl, if_pos (by omega), if_neg (by decide), if_neg (by decide), if_pos ht]
        · rw [decide_eq_false ht, if_neg (by decide), if_neg ht]
  · by_cases h3 : l.length < 3
    · rw [if_pos (by omega), j0 99, if_pos rfl, show dec l = (Dg.zero, 70) from (if_neg h1).trans (if_neg h2)]
    · rw [if_neg (by omega), if_pos (by decide), if_pos (by omega), str_take, str_list, j0 99, if_pos (by simpa using h2), show dec l = (Dg.zero, 70) from (if_neg h1).trans (if_neg h2)]
end Go.Proofs.YtniabkphbnimaaaGreatDoor.Sh
namespace Go.Proofs.YtniabkphbnimaaaGreatDoor.Bs
open Go Go.RowKit Go.Maps Go.Proofs.YtniabkphbnimaaaGreatDoorW.PrintWords Go.Proofs.YtniabkphbnimaaaGreatDoorW.PrintLast Go.Proofs.YtniabkphbnimaaaGreatDoor.Sh
section
variable {P : Program} {ops : Array Oper} {rest : List Oper} {a : Act} {w : World} {Q : Exit → Act → World → Prop} {d : Option Tmp} {ty : TypeId} {pos : String} {af : Array Edge} {g : Option (Tmp × Bool)}
theorem at_load_ {t : TypeId} {x : Operand} (h : wpList P ops Q (⟨d, .load t x, ty, pos, af, g⟩ :: rest) a w) : wpList P ops Q (⟨d, .load t x, ty, pos, af, g⟩ :: rest) a w := h
theorem at_store_ {t : TypeId} {x y : Operand} (h : wpList P ops Q (⟨d, .store t x y, ty, pos, af, g⟩ :: rest) a w) : wpList P ops Q (⟨d, .store t x y, ty, pos, af, g⟩ :: rest) a w := h
theorem at_alloc_ {t : TypeId} (h : wpList P ops Q (⟨d, .alloc t, ty, pos, af, g⟩ :: rest) a w) : wpList P ops Q (⟨d, .alloc t, ty, pos, af, g⟩ :: rest) a w := h
end
section
variable {P : Program} {ops : Array Oper} {rest : List Oper} {o : Oper} {a : Act} {w : World} {Q : Exit → Act → World → Prop}
theorem str_cat (l m : List UInt8) : str l ++ str m = str (l ++ m) := by
  apply ByteArray.ext
  simp [str]
theorem cat_yields (t t2 : TypeId) (x y : Operand) (ho : o.op = .binOp .add t x y t2) (l m : List UInt8) (hx : a.eval x = .string (str l)) (hy : a.eval y = .string (str m)) (hs : l.length + m.length ≤ 9223372036854775807) (w : World) :
    (execOp a.eval o).run P w = .ok (.value (.string (str (l ++ m)))) w := by
  have hrun := run_string_add_sum (P := P) w (str l) (str m) hs
  unfold execOp
  simp only [ho, hx, hy, Sem.run_bind, eqGuard_add, binOp_string_add, hrun, Result.andThen_ok, Sem.run_pure, str_cat]
end
end Go.Proofs.YtniabkphbnimaaaGreatDoor.Bs
namespace Go.Proofs.YtniabkphbnimaaaGreatDoor.Sh
open Go Go.RowKit Go.Maps Go.Proofs.YtniabkphbnimaaaGreatDoorW.PrintWords Go.Proofs.YtniabkphbnimaaaGreatDoorW.PrintLast Go.Proofs.YtniabkphbnimaaaGreatDoor.Bs
theorem rjudged_calls (l : List UInt8) (w : World) : Calls Tryz.prog 31 #[.string (str l)] w fun e w' => e = .returned (.int .i64 (dec l).2) ∧ Below w.heap.size w w' :=
  (QQA.joustref07_judged.calls _ _ _ w (judged_f l)).mono fun e w' hh => ⟨hh.1, drawn_below hh.2⟩
theorem fin_err (o : Option (Dg × Bool × List UInt8)) (h : (fin o).2 ≠ 0) : (fin o).1 = Dg.zero := by
  unfold fin at h ⊢
  split
  · rfl
  · rename_i d bad r
    simp only at h
    split
    · rfl
    · rename_i h1
      rw [if_neg h1] at h
      split
      · rfl
      · rename_i h2
        rw [if_neg h2] at h
        exact absurd rfl h
theorem dec_err (l : List UInt8) (h : (dec l).2 ≠ 0) : (dec l).1 = Dg.zero := by
  unfold dec at h ⊢
  split
  · rfl
  · rename_i h1
    rw [if_neg h1] at h
    split
    · rename_i h2
      rw [if_pos h2] at h
      split
      · rfl
      · rename_i k t h3
        rw [h3] at h
        simp only at h
        split
        · rename_i h4
          rw [if_pos h4] at h
          exact fin_err _ h
        · rfl
    · rfl
theorem dec_ok (l : List UInt8) (h : (dec l).2 = 0) : ∃ k t, l = 74 :: 48 :: 49 :: k :: t ∧ l.length ≤ 1200 ∧ 1 ≤ k.toNat ∧ k.toNat ≤ 7 := by
  unfold dec at h
  by_cases h1 : 1200 < l.length
  · rw [if_pos h1] at h; cases h
  rw [if_neg h1] at h
  by_cases h2 : l.take 3 = [74, 48, 49]
  · rw [if_pos h2] at h
    cases hd : l.drop 3 with
    | nil => rw [hd] at h; cases h
    | cons k t =>
      rw [hd] at h
      simp only at h
      refine ⟨k, t, ?_, by omega, ?_⟩
      · rw [← List.take_append_drop 3 l, h2, hd]; rfl
      · by_cases h3 : 1 ≤ (k.toNat : Int) ∧ (k.toNat : Int) ≤ 7
        · omega
        · rw [if_neg h3] at h; cases h
  · rw [if_neg h2] at h; cases h
theorem results_rdec (tmps : Array Value) (w : World) (G : Nat) (d : Dg) (e : Int) (h2 : tmps.getD 2 undef = .pointer (some ⟨G, 0, none⟩)) (h3 : tmps.getD 3 undef = .int .i64 e) (hG : w.heap[G]? = some (.cells d.cells.toArray 27 (0, 0))) :
    (results Tryz.f11 tmps).run Tryz.prog w = .ok (.tuple #[.agg d.cells.toArray, .int .i64 e]) w := by
  have hr : (Tryz.f11).results = #[.cell 2 27, .tmp 3] := rfl
  have p2 : tmps[2]?.getD undef = .pointer (some ⟨G, 0, none⟩) := by simpa using h2
  have p3 : tmps[3]?.getD undef = .int .i64 e := by simpa using h3
  have hl := run_loadVar_row (P := Tryz.prog) w G 27 27 d.cells.toArray (0, 0) _ hG Tryz.underlying27 rfl (by kernel_rfl)
  simp [results, hr, p2, p3, asAddr, hl]
set_option maxHeartbeats 8000000 in
set_option maxRecDepth 100000 in
theorem rdec_bad (l : List UInt8) (w : World) (hc : (dec l).2 ≠ 0) : Calls Tryz.prog 11 #[.string (str l)] w fun e w' => e = .returned (.tuple #[.agg Dg.zero.cells.toArray, .int .i64 (dec l).2]) ∧ Below w.heap.size w w' := by
  obtain ⟨s, es⟩ : ∃ s, s = str l := ⟨_, rfl⟩
  obtain ⟨c, ec⟩ : ∃ c, c = (dec l).2 := ⟨_, rfl⟩
  have JC := Aside0.mk (show ∀ w, Calls Tryz.prog 31 #[.string s] w fun e w' => e = .returned (.int .i64 c) ∧ Below w.heap.size w w' from fun w => by rw [es, ec]; exact rjudged_calls l w)
  rw [← es, ← ec]
  rw [← ec] at hc
  have o1 : (c == 0) = false := beq_eq_false_iff_ne.mpr hc
  have o2 : (c != 0) = true := by simp [bne, o1]
  clear es ec hc
  have MARK : True := trivial
  go_enter Tryz.func11, Tryz.ntmps11
  go_wp2_with (first
    | ((with_reducible first | refine at_alloc_ ?_ | refine at_alloc2_ ?_); clear MARK; refine wpList_alloc_v rfl 27 rfl Dg.zero.cells (by kernel_rfl) ?_; intro G w1 eG hG1 hb1 hz1; have HG := Aside0.mk (show w1.heap[G]? = some (.cells Dg.zero.cells.toArray 27 (0, 0)) from hG1.out); have HGG := Aside0.mk eG.out; have HB := Aside0.mk (show Below w.heap.size w w1 from hb1.out); clear hG1 hb1 hz1 eG)
    | (go_at_call 31; (with_reducible refine (JC.out _).mono ?_); rintro e w2 ⟨rfl, hb2⟩; have n1_ := Aside0.mk ((hb2.block G (blk_lt HG.out)).trans HG.out); have n2_ := Aside0.mk (HB.out.trans (hb2.mono HB.out.size)); clear HG HB hb2; have HG := n1_; have HB := n2_; clear n1_ n2_)
    | ((with_reducible first | refine at_store_ ?_ | refine at_store2_ ?_); refine wpList_store_agg rfl 27 _ _ rfl G 0 rfl Dg.zero.cells Dg.zero.cells rfl _ HG.out (by exact Nat.le_refl 15) (fun v hv => one_cells hv) (by kernel_rfl) ?_; intro w9 hG9 hm9 hz9; have HG9 := Aside0.mk (show w9.heap[G]? = some (.cells (Dg.zero.cells).toArray 27 (0, 0)) from hG9.out); have HM9 := Aside0.mk (show Below w.heap.size w w9 from toBelow' HB.out hm9.out (Nat.le_of_eq HGG.out.symm))))
  refine bodyPost_ret (results_rdec _ _ G Dg.zero c rfl rfl HG9.out) rfl ⟨rfl, HM9.out⟩
set_option maxHeartbeats 8000000 in
set_option maxRecDepth 100000 in
theorem rdec_1 (s : ByteArray) (w : World) (hs : s.size = 96) (hk : ∀ h : 3 < s.size, wrap64 ((s[3]'h).toNat : Int) = ((1 : Nat) : Int)) (hj : ∀ w, Calls Tryz.prog 31 #[.string s] w fun e w' => e = .returned (.int .i64 0) ∧ Below w.heap.size w w') : Calls Tryz.prog 11 #[.string s] w fun e w' => e = .returned (.tuple #[.agg ({ dk 1 with nonce := s.extract 4 20 } : Dg).cells.toArray, .int .i64 0]) ∧ Below w.heap.size w w' := by
  have HK3 := Aside0.mk hk
  have JC := Aside0.mk hj
  clear hk hj
  have MARK : True := trivial
  go_enter Tryz.func11, Tryz.ntmps11
  go_wp2_with (first
    | ((with_reducible first | refine at_alloc_ ?_ | refine at_alloc2_ ?_); clear MARK; refine wpList_alloc_v rfl 27 rfl Dg.zero.cells (by kernel_rfl) ?_; intro G w1 eG hG1 hb1 hz1; have HG := Aside0.mk (show w1.heap[G]? = some (.cells Dg.zero.cells.toArray 27 (0, 0)) from hG1.out); have HGG := Aside0.mk eG.out; have HB := Aside0.mk (show Below w.heap.size w w1 from hb1.out); clear hG1 hb1 hz1 eG)
    | (go_at_call 31; (with_reducible refine (JC.out _).mono ?_); rintro e w2 ⟨rfl, hb2⟩; have n1_ := Aside0.mk ((hb2.block G (blk_lt HG.out)).trans HG.out); have n2_ := Aside0.mk (HB.out.trans (hb2.mono HB.out.size)); clear HG HB hb2; have HG := n1_; have HB := n2_; clear n1_ n2_)
    | ((with_reducible first | refine at_alloc_ ?_ | refine at_alloc2_ ?_); refine wpList_alloc_v rfl 27 rfl Dg.zero.cells (by kernel_rfl) ?_; intro H w3 eH hH3 hb3 hz3; have n1_ := Aside0.mk ((hb3.out.block G (blk_lt HG.out)).trans HG.out); have n2_ := Aside0.mk (HB.out.trans (hb3.out.mono HB.out.size)); have HN := Aside0.mk (show G ≠ H ∧ w.heap.size ≤ H from ⟨by have := eH.out; have := blk_lt HG.out; omega, by have := eH.out; have := HB.out.size; omega⟩); clear HG HB; have HG := n1_; have HB := n2_; have HH := Aside0.mk (show w3.heap[H]? = some (.cells Dg.zero.cells.toArray 27 (0, 0)) from hH3.out); clear n1_ n2_ hH3 hb3 hz3 eH)
    | ((with_reducible first | refine at_store_ ?_ | refine at_store2_ ?_); refine wpList_store_agg rfl 27 _ _ rfl H 0 rfl (dk 1).cells Dg.zero.cells (congrArg (fun x => Value.agg ({ Dg.zero with kind := x } : Dg).cells.toArray) (HK3.out _)) _ HH.out (by exact Nat.le_refl 15) (fun v hv => one_cells hv) (by kernel_rfl) ?_; intro w4 hH4 hm4 hz4; rw [splice_all Dg.zero.cells (dk 1).cells rfl] at hH4; have n1_ := Aside0.mk (hm4.out.blk HG.out HN.out.1); have n2_ := Aside0.mk (toBelow' HB.out hm4.out HN.out.2); clear HG HB HH; have HG := n1_; have HB := n2_; have HH := Aside0.mk hH4.out; clear n1_ n2_ hH4 hm4 hz4; (try clear cK); have cK := cell_of (i := 0) HH.out rfl)
    | ((with_reducible first | refine at_store_ ?_ | refine at_store2_ ?_); refine wpList_store_cell rfl 9 _ _ rfl H 1 rfl _ rfl _ _ HH.out (by exact (by decide : 1 < 15)) rfl (by kernel_rfl) ?_; intro w4 hH4 hm4 hz4; have n1_ := Aside0.mk (hm4.out.blk HG.out HN.out.1); have n2_ := Aside0.mk (toBelow' HB.out hm4.out HN.out.2); clear HG HB HH; have HG := n1_; have HB := n2_; have HH := Aside0.mk hH4.out; clear n1_ n2_ hH4 hm4 hz4; (try clear cK); have cK := cell_of (i := 0) HH.out rfl)
    | ((with_reducible first | refine at_load_ ?_ | refine at_load2_ ?_); refine wpList_load_agg rfl 27 _ rfl H 0 rfl ({ dk 1 with nonce := s.extract 4 20 } : Dg).cells (load_all HH.out) _ Tryz.underlying27 rfl (by kernel_rfl) ?_)
    | ((with_reducible first | refine at_store_ ?_ | refine at_store2_ ?_); refine wpList_store_agg rfl 27 _ _ rfl G 0 rfl ({ dk 1 with nonce := s.extract 4 20 } : Dg).cells Dg.zero.cells rfl _ HG.out (by exact Nat.le_refl 15) (fun v hv => one_cells hv) (by kernel_rfl) ?_; intro w9 hG9 hm9 hz9; have HG9 := Aside0.mk (show w9.heap[G]? = some (.cells (({ dk 1 with nonce := s.extract 4 20 } : Dg).cells).toArray 27 (0, 0)) from hG9.out); have HM9 := Aside0.mk (show Below w.heap.size w w9 from toBelow' HB.out hm9.out (Nat.le_of_eq HGG.out.symm))))
  refine bodyPost_ret (results_rdec _ _ G { dk 1 with nonce := s.extract 4 20 } 0 rfl rfl HG9.out) rfl ⟨rfl, HM9.out⟩
set_option maxHeartbeats 8000000 in
set_option maxRecDepth 100000 in
theorem rdec_2 (s : ByteArray) (w : World) (hs : s.size = 60) (hk : ∀ h : 3 < s.size, wrap64 ((s[3]'h).toNat : Int) = ((2 : Nat) : Int)) (hj : ∀ w, Calls Tryz.prog 31 #[.string s] w fun e w' => e = .returned (.int .i64 0) ∧ Below w.heap.size w w') (n20 : Nat) (hn20 : ∀ w, Calls Tryz.prog 32 #[.string s, .int .i64 20] w fun e w' => e = .returned (.int .u64 (n20 : Int)) ∧ Below w.heap.size w w') : Calls Tryz.prog 11 #[.string s] w fun e w' => e = .returned (.tuple #[.agg ({ dk 2 with nonce := s.extract 4 20, epoch := n20, cookie := s.extract 28 60 } : Dg).cells.toArray, .int .i64 0]) ∧ Below w.heap.size w w' := by
  have HK3 := Aside0.mk hk
  have JC := Aside0.mk hj
  have NB20 := Aside0.mk hn20
  clear hk hj hn20
  have MARK : True := trivial
  go_enter Tryz.func11, Tryz.ntmps11
  go_wp2_with (first
    | ((with_reducible first | refine at_alloc_ ?_ | refine at_alloc2_ ?_); clear MARK; refine wpList_alloc_v rfl 27 rfl Dg.zero.cells (by kernel_rfl) ?_; intro G w1 eG hG1 hb1 hz1; have HG := Aside0.mk (show w1.heap[G]? = some (.cells Dg.zero.cells.toArray 27 (0, 0)) from hG1.out); have HGG := Aside0.mk eG.out; have HB := Aside0.mk (show Below w.heap.size w w1 from hb1.out); clear hG1 hb1 hz1 eG)
    | (go_at_call 31; (with_reducible refine (JC.out _).mono ?_); rintro e w2 ⟨rfl, hb2⟩; have n1_ := Aside0.mk ((hb2.block G (blk_lt HG.out)).trans HG.out); have n2_ := Aside0.mk (HB.out.trans (hb2.mono HB.out.size)); clear HG HB hb2; have HG := n1_; have HB := n2_; clear n1_ n2_)
    | ((with_reducible first | refine at_alloc_ ?_ | refine at_alloc2_ ?_); refine wpList_alloc_v rfl 27 rfl Dg.zero.cells (by kernel_rfl) ?_; intro H w3 eH hH3 hb3 hz3; have n1_ := Aside0.mk ((hb3.out.block G (blk_lt HG.out)).trans HG.out); have n2_ := Aside0.mk (HB.out.trans (hb3.out.mono HB.out.size)); have HN := Aside0.mk (show G ≠ H ∧ w.heap.size ≤ H from ⟨by have := eH.out; have := blk_lt HG.out; omega, by have := eH.out; have := HB.out.size; omega⟩); clear HG HB; have HG := n1_; have HB := n2_; have HH := Aside0.mk (show w3.heap[H]? = some (.cells Dg.zero.cells.toArray 27 (0, 0)) from hH3.out); clear n1_ n2_ hH3 hb3 hz3 eH)
    | ((with_reducible first | refine at_store_ ?_ | refine at_store2_ ?_); refine wpList_store_agg rfl 27 _ _ rfl H 0 rfl (dk 2).cells Dg.zero.cells (congrArg (fun x => Value.agg ({ Dg.zero with kind := x } : Dg).cells.toArray) (HK3.out _)) _ HH.out (by exact Nat.le_refl 15) (fun v hv => one_cells hv) (by kernel_rfl) ?_; intro w4 hH4 hm4 hz4; rw [splice_all Dg.zero.cells (dk 2).cells rfl] at hH4; have n1_ := Aside0.mk (hm4.out.blk HG.out HN.out.1); have n2_ := Aside0.mk (toBelow' HB.out hm4.out HN.out.2); clear HG HB HH; have HG := n1_; have HB := n2_; have HH := Aside0.mk hH4.out; clear n1_ n2_ hH4 hm4 hz4; (try clear cK); have cK := cell_of (i := 0) HH.out rfl)
    | (go_at_call 32; (with_reducible refine (NB20.out _).mono ?_); rintro e w5 ⟨rfl, hb5⟩; have n1_ := Aside0.mk ((hb5.block G (blk_lt HG.out)).trans HG.out); have n2_ := Aside0.mk (HB.out.trans (hb5.mono HB.out.size)); have n3_ := Aside0.mk ((hb5.block H (blk_lt HH.out)).trans HH.out); clear HG HB HH hb5; have HG := n1_; have HB := n2_; have HH := n3_; clear n1_ n2_ n3_; (try clear cK); have cK := cell_of (i := 0) HH.out rfl)
    | ((with_reducible first | refine at_store_ ?_ | refine at_store2_ ?_); refine wpList_store_cell rfl 9 _ _ rfl H 1 rfl _ rfl _ _ HH.out (by exact (by decide : 1 < 15)) rfl (by kernel_rfl) ?_; intro w4 hH4 hm4 hz4; have n1_ := Aside0.mk (hm4.out.blk HG.out HN.out.1); have n2_ := Aside0.mk (toBelow' HB.out hm4.out HN.out.2); clear HG HB HH; have HG := n1_; have HB := n2_; have HH := Aside0.mk hH4.out; clear n1_ n2_ hH4 hm4 hz4; (try clear cK); have cK := cell_of (i := 0) HH.out rfl)
    | ((with_reducible first | refine at_store_ ?_ | refine at_store2_ ?_); refine wpList_store_cell rfl 23 _ _ rfl H 2 rfl _ rfl _ _ HH.out (by exact (by decide : 2 < 15)) rfl (by kernel_rfl) ?_; intro w4 hH4 hm4 hz4; have n1_ := Aside0.mk (hm4.out.blk HG.out HN.out.1); have n2_ := Aside0.mk (toBelow' HB.out hm4.out HN.out.2); clear HG HB HH; have HG := n1_; have HB := n2_; have HH := Aside0.mk hH4.out; clear n1_ n2_ hH4 hm4 hz4; (try clear cK); have cK := cell_of (i := 0) HH.out rfl)
    | ((with_reducible first | refine at_store_ ?_ | refine at_store2_ ?_); refine wpList_store_cell rfl 9 _ _ rfl H 3 rfl _ rfl _ _ HH.out (by exact (by decide : 3 < 15)) rfl (by kernel_rfl) ?_; intro w4 hH4 hm4 hz4; have n1_ := Aside0.mk (hm4.out.blk HG.out HN.out.1); have n2_ := Aside0.mk (toBelow' HB.out hm4.out HN.out.2); clear HG HB HH; have HG := n1_; have HB := n2_; have HH := Aside0.mk hH4.out; clear n1_ n2_ hH4 hm4 hz4; (try clear cK); have cK := cell_of (i := 0) HH.out rfl)
    | ((with_reducible first | refine at_load_ ?_ | refine at_load2_ ?_); refine wpList_load_agg rfl 27 _ rfl H 0 rfl ({ dk 2 with nonce := s.extract 4 20, epoch := n20, cookie := s.extract 28 60 } : Dg).cells (load_all HH.out) _ Tryz.underlying27 rfl (by kernel_rfl) ?_)
    | ((with_reducible first | refine at_store_ ?_ | refine at_store2_ ?_); refine wpList_store_agg rfl 27 _ _ rfl G 0 rfl ({ dk 2 with nonce := s.extract 4 20, epoch := n20, cookie := s.extract 28 60 } : Dg).cells Dg.zero.cells rfl _ HG.out (by exact Nat.le_refl 15) (fun v hv => one_cells hv) (by kernel_rfl) ?_; intro w9 hG9 hm9 hz9; have HG9 := Aside0.mk (show w9.heap[G]? = some (.cells (({ dk 2 with nonce := s.extract 4 20, epoch := n20, cookie := s.extract 28 60 } : Dg).cells).toArray 27 (0, 0)) from hG9.out); have HM9 := Aside0.mk (show Below w.heap.size w w9 from toBelow' HB.out hm9.out (Nat.le_of_eq HGG.out.symm))))
  refine bodyPost_ret (results_rdec _ _ G ({ dk 2 with nonce := s.extract 4 20, epoch := n20, cookie := s.extract 28 60 } : Dg) 0 rfl rfl HG9.out) rfl ⟨rfl, HM9.out⟩
set_option maxHeartbeats 8000000 in
set_option maxRecDepth 100000 in
theorem rdec_4 (s : ByteArray) (w : World) (hs : s.size = 77) (hk : ∀ h : 3 < s.size, wrap64 ((s[3]'h).toNat : Int) = ((4 : Nat) : Int)) (hj : ∀ w, Calls Tryz.prog 31 #[.string s] w fun e w' => e = .returned (.int .i64 0) ∧ Below w.heap.size w w') (n20 : Nat) (hn20 : ∀ w, Calls Tryz.prog 32 #[.string s, .int .i64 20] w fun e w' => e = .returned (.int .u64 (n20 : Int)) ∧ Below w.heap.size w w') (h28 : 28 < s.size) : Calls Tryz.prog 11 #[.string s] w fun e w' => e = .returned (.tuple #[.agg ({ dk 4 with nonce := s.extract 4 20, session := n20, player := wrap64 ((s[28]'h28).toNat : Int), salt := s.extract 29 45, tag := s.extract 45 77 } : Dg).cells.toArray, .int .i64 0]) ∧ Below w.heap.size w w' := by
  have HK3 := Aside0.mk hk
  have JC := Aside0.mk hj
  have NB20 := Aside0.mk hn20
  clear hk hj hn20
  have MARK : True := trivial
  go_enter Tryz.func11, Tryz.ntmps11
  go_wp2_with (first
    | ((with_reducible first | refine at_alloc_ ?_ | refine at_alloc2_ ?_); clear MARK; refine wpList_alloc_v rfl 27 rfl Dg.zero.cells (by kernel_rfl) ?_; intro G w1 eG hG1 hb1 hz1; have HG := Aside0.mk (show w1.heap[G]? = some (.cells Dg.zero.cells.toArray 27 (0, 0)) from hG1.out); have HGG := Aside0.mk eG.out; have HB := Aside0.mk (show Below w.heap.size w w1 from hb1.out); clear hG1 hb1 hz1 eG)
    | (go_at_call 31; (with_reducible refine (JC.out _).mono ?_); rintro e w2 ⟨rfl, hb2⟩; have n1_ := Aside0.mk ((hb2.block G (blk_lt HG.out)).trans HG.out); have n2_ := Aside0.mk (HB.out.trans (hb2.mono HB.out.size)); clear HG HB hb2; have HG := n1_; have HB := n2_; clear n1_ n2_)
    | ((with_reducible first | refine at_alloc_ ?_ | refine at_alloc2_ ?_); refine wpList_alloc_v rfl 27 rfl Dg.zero.cells (by kernel_rfl) ?_; intro H w3 eH hH3 hb3 hz3; have n1_ := Aside0.mk ((hb3.out.block G (blk_lt HG.out)).trans HG.out); have n2_ := Aside0.mk (HB.out.trans (hb3.out.mono HB.out.size)); have HN := Aside0.mk (show G ≠ H ∧ w.heap.size ≤ H from ⟨by have := eH.out; have := blk_lt HG.out; omega, by have := eH.out; have := HB.out.size; omega⟩); clear HG HB; have HG := n1_; have HB := n2_; have HH := Aside0.mk (show w3.heap[H]? = some (.cells Dg.zero.cells.toArray 27 (0, 0)) from hH3.out); clear n1_ n2_ hH3 hb3 hz3 eH)
    | ((with_reducible first | refine at_store_ ?_ | refine at_store2_ ?_); refine wpList_store_agg rfl 27 _ _ rfl H 0 rfl (dk 4).cells Dg.zero.cells (congrArg (fun x => Value.agg ({ Dg.zero with kind := x } : Dg).cells.toArray) (HK3.out _)) _ HH.out (by exact Nat.le_refl 15) (fun v hv => one_cells hv) (by kernel_rfl) ?_; intro w4 hH4 hm4 hz4; rw [splice_all Dg.zero.cells (dk 4).cells rfl] at hH4; have n1_ := Aside0.mk (hm4.out.blk HG.out HN.out.1); have n2_ := Aside0.mk (toBelow' HB.out hm4.out HN.out.2); clear HG HB HH; have HG := n1_; have HB := n2_; have HH := Aside0.mk hH4.out; clear n1_ n2_ hH4 hm4 hz4; (try clear cK); have cK := cell_of (i := 0) HH.out rfl)
    | (go_at_call 32; (with_reducible refine (NB20.out _).mono ?_); rintro e w5 ⟨rfl, hb5⟩; have n1_ := Aside0.mk ((hb5.block G (blk_lt HG.out)).trans HG.out); have n2_ := Aside0.mk (HB.out.trans (hb5.mono HB.out.size)); have n3_ := Aside0.mk ((hb5.block H (blk_lt HH.out)).trans HH.out); clear HG HB HH hb5; have HG := n1_; have HB := n2_; have HH := n3_; clear n1_ n2_ n3_; (try clear cK); have cK := cell_of (i := 0) HH.out rfl)
    | ((with_reducible first | refine at_store_ ?_ | refine at_store2_ ?_); refine wpList_store_cell rfl 9 _ _ rfl H 14 rfl _ rfl _ _ HH.out (by exact (by decide : 14 < 15)) rfl (by kernel_rfl) ?_; intro w4 hH4 hm4 hz4; have n1_ := Aside0.mk (hm4.out.blk HG.out HN.out.1); have n2_ := Aside0.mk (toBelow' HB.out hm4.out HN.out.2); clear HG HB HH; have HG := n1_; have HB := n2_; have HH := Aside0.mk hH4.out; clear n1_ n2_ hH4 hm4 hz4; (try clear cK); have cK := cell_of (i := 0) HH.out rfl)
    | ((with_reducible first | refine at_store_ ?_ | refine at_store2_ ?_); refine wpList_store_cell rfl 9 _ _ rfl H 1 rfl _ rfl _ _ HH.out (by exact (by decide : 1 < 15)) rfl (by kernel_rfl) ?_; intro w4 hH4 hm4 hz4; have n1_ := Aside0.mk (hm4.out.blk HG.out HN.out.1); have n2_ := Aside0.mk (toBelow' HB.out hm4.out HN.out.2); clear HG HB HH; have HG := n1_; have HB := n2_; have HH := Aside0.mk hH4.out; clear n1_ n2_ hH4 hm4 hz4; (try clear cK); have cK := cell_of (i := 0) HH.out rfl)
    | ((with_reducible first | refine at_store_ ?_ | refine at_store2_ ?_); refine wpList_store_cell rfl 23 _ _ rfl H 5 rfl _ rfl _ _ HH.out (by exact (by decide : 5 < 15)) rfl (by kernel_rfl) ?_; intro w4 hH4 hm4 hz4; have n1_ := Aside0.mk (hm4.out.blk HG.out HN.out.1); have n2_ := Aside0.mk (toBelow' HB.out hm4.out HN.out.2); clear HG HB HH; have HG := n1_; have HB := n2_; have HH := Aside0.mk hH4.out; clear n1_ n2_ hH4 hm4 hz4; (try clear cK); have cK := cell_of (i := 0) HH.out rfl)
    | ((with_reducible first | refine at_store_ ?_ | refine at_store2_ ?_); refine wpList_store_cell rfl 3 _ _ rfl H 6 rfl _ rfl _ _ HH.out (by exact (by decide : 6 < 15)) rfl (by kernel_rfl) ?_; intro w4 hH4 hm4 hz4; have n1_ := Aside0.mk (hm4.out.blk HG.out HN.out.1); have n2_ := Aside0.mk (toBelow' HB.out hm4.out HN.out.2); clear HG HB HH; have HG := n1_; have HB := n2_; have HH := Aside0.mk hH4.out; clear n1_ n2_ hH4 hm4 hz4; (try clear cK); have cK := cell_of (i := 0) HH.out rfl)
    | ((with_reducible first | refine at_store_ ?_ | refine at_store2_ ?_); refine wpList_store_cell rfl 9 _ _ rfl H 7 rfl _ rfl _ _ HH.out (by exact (by decide : 7 < 15)) rfl (by kernel_rfl) ?_; intro w4 hH4 hm4 hz4; have n1_ := Aside0.mk (hm4.out.blk HG.out HN.out.1); have n2_ := Aside0.mk (toBelow' HB.out hm4.out HN.out.2); clear HG HB HH; have HG := n1_; have HB := n2_; have HH := Aside0.mk hH4.out; clear n1_ n2_ hH4 hm4 hz4; (try clear cK); have cK := cell_of (i := 0) HH.out rfl)
    | ((with_reducible first | refine at_load_ ?_ | refine at_load2_ ?_); refine wpList_load_agg rfl 27 _ rfl H 0 rfl ({ dk 4 with nonce := s.extract 4 20, session := n20, player := wrap64 ((s[28]'h28).toNat : Int), salt := s.extract 29 45, tag := s.extract 45 77 } : Dg).cells (load_all HH.out) _ Tryz.underlying27 rfl (by kernel_rfl) ?_)
    | ((with_reducible first | refine at_store_ ?_ | refine at_store2_ ?_); refine wpList_store_agg rfl 27 _ _ rfl G 0 rfl ({ dk 4 with nonce := s.extract 4 20, session := n20, player := wrap64 ((s[28]'h28).toNat : Int), salt := s.extract 29 45, tag := s.extract 45 77 } : Dg).cells Dg.zero.cells rfl _ HG.out (by exact Nat.le_refl 15) (fun v hv => one_cells hv) (by kernel_rfl) ?_; intro w9 hG9 hm9 hz9; have HG9 := Aside0.mk (show w9.heap[G]? = some (.cells (({ dk 4 with nonce := s.extract 4 20, session := n20, player := wrap64 ((s[28]'h28).toNat : Int), salt := s.extract 29 45, tag := s.extract 45 77 } : Dg).cells).toArray 27 (0, 0)) from hG9.out); have HM9 := Aside0.mk (show Below w.heap.size w w9 from toBelow' HB.out hm9.out (Nat.le_of_eq HGG.out.symm))))
  refine bodyPost_ret (results_rdec _ _ G ({ dk 4 with nonce := s.extract 4 20, session := n20, player := wrap64 ((s[28]'h28).toNat : Int), salt := s.extract 29 45, tag := s.extract 45 77 } : Dg) 0 rfl rfl HG9.out) rfl ⟨rfl, HM9.out⟩
set_option maxHeartbeats 8000000 in
set_option maxRecDepth 100000 in
theorem rdec_7 (s : ByteArray) (w : World) (hs : s.size = 52) (hk : ∀ h : 3 < s.size, wrap64 ((s[3]'h).toNat : Int) = ((7 : Nat) : Int)) (hj : ∀ w, Calls Tryz.prog 31 #[.string s] w fun e w' => e = .returned (.int .i64 0) ∧ Below w.heap.size w w') (n4 : Nat) (hn4 : ∀ w, Calls Tryz.prog 32 #[.string s, .int .i64 4] w fun e w' => e = .returned (.int .u64 (n4 : Int)) ∧ Below w.heap.size w w') (n12 : Nat) (hn12 : ∀ w, Calls Tryz.prog 32 #[.string s, .int .i64 12] w fun e w' => e = .returned (.int .u64 (n12 : Int)) ∧ Below w.heap.size w w') : Calls Tryz.prog 11 #[.string s] w fun e w' => e = .returned (.tuple #[.agg ({ dk 7 with session := n4, seq := n12, tag := s.extract 20 52 } : Dg).cells.toArray, .int .i64 0]) ∧ Below w.heap.size w w' := by
  have HK3 := Aside0.mk hk
  have JC := Aside0.mk hj
  have NB4 := Aside0.mk hn4
  have NB12 := Aside0.mk hn12
  clear hk hj hn4 hn12
  have MARK : True := trivial
  go_enter Tryz.func11, Tryz.ntmps11
  go_wp2_with (first
    | ((with_reducible first | refine at_alloc_ ?_ | refine at_alloc2_ ?_); clear MARK; refine wpList_alloc_v rfl 27 rfl Dg.zero.cells (by kernel_rfl) ?_; intro G w1 eG hG1 hb1 hz1; have HG := Aside0.mk (show w1.heap[G]? = some (.cells Dg.zero.cells.toArray 27 (0, 0)) from hG1.out); have HGG := Aside0.mk eG.out; have HB := Aside0.mk (show Below w.heap.size w w1 from hb1.out); clear hG1 hb1 hz1 eG)
    | (go_at_call 31; (with_reducible refine (JC.out _).mono ?_); rintro e w2 ⟨rfl, hb2⟩; have n1_ := Aside0.mk ((hb2.block G (blk_lt HG.out)).trans HG.out); have n2_ := Aside0.mk (HB.out.trans (hb2.mono HB.out.size)); clear HG HB hb2; have HG := n1_; have HB := n2_; clear n1_ n2_)
    | ((with_reducible first | refine at_alloc_ ?_ | refine at_alloc2_ ?_); refine wpList_alloc_v rfl 27 rfl Dg.zero.cells (by kernel_rfl) ?_; intro H w3 eH hH3 hb3 hz3; have n1_ := Aside0.mk ((hb3.out.block G (blk_lt HG.out)).trans HG.out); have n2_ := Aside0.mk (HB.out.trans (hb3.out.mono HB.out.size)); have HN := Aside0.mk (show G ≠ H ∧ w.heap.size ≤ H from ⟨by have := eH.out; have := blk_lt HG.out; omega, by have := eH.out; have := HB.out.size; omega⟩); clear HG HB; have HG := n1_; have HB := n2_; have HH := Aside0.mk (show w3.heap[H]? = some (.cells Dg.zero.cells.toArray 27 (0, 0)) from hH3.out); clear n1_ n2_ hH3 hb3 hz3 eH)
    | ((with_reducible first | refine at_store_ ?_ | refine at_store2_ ?_); refine wpList_store_agg rfl 27 _ _ rfl H 0 rfl (dk 7).cells Dg.zero.cells (congrArg (fun x => Value.agg ({ Dg.zero with kind := x } : Dg).cells.toArray) (HK3.out _)) _ HH.out (by exact Nat.le_refl 15) (fun v hv => one_cells hv) (by kernel_rfl) ?_; intro w4 hH4 hm4 hz4; rw [splice_all Dg.zero.cells (dk 7).cells rfl] at hH4; have n1_ := Aside0.mk (hm4.out.blk HG.out HN.out.1); have n2_ := Aside0.mk (toBelow' HB.out hm4.out HN.out.2); clear HG HB HH; have HG := n1_; have HB := n2_; have HH := Aside0.mk hH4.out; clear n1_ n2_ hH4 hm4 hz4; (try clear cK); have cK := cell_of (i := 0) HH.out rfl)
    | (go_at_call 32; (with_reducible refine (NB4.out _).mono ?_); rintro e w5 ⟨rfl, hb5⟩; have n1_ := Aside0.mk ((hb5.block G (blk_lt HG.out)).trans HG.out); have n2_ := Aside0.mk (HB.out.trans (hb5.mono HB.out.size)); have n3_ := Aside0.mk ((hb5.block H (blk_lt HH.out)).trans HH.out); clear HG HB HH hb5; have HG := n1_; have HB := n2_; have HH := n3_; clear n1_ n2_ n3_; (try clear cK); have cK := cell_of (i := 0) HH.out rfl)
    | (go_at_call 32; (with_reducible refine (NB12.out _).mono ?_); rintro e w5 ⟨rfl, hb5⟩; have n1_ := Aside0.mk ((hb5.block G (blk_lt HG.out)).trans HG.out); have n2_ := Aside0.mk (HB.out.trans (hb5.mono HB.out.size)); have n3_ := Aside0.mk ((hb5.block H (blk_lt HH.out)).trans HH.out); clear HG HB HH hb5; have HG := n1_; have HB := n2_; have HH := n3_; clear n1_ n2_ n3_; (try clear cK); have cK := cell_of (i := 0) HH.out rfl)
    | ((with_reducible first | refine at_store_ ?_ | refine at_store2_ ?_); refine wpList_store_cell rfl 9 _ _ rfl H 14 rfl _ rfl _ _ HH.out (by exact (by decide : 14 < 15)) rfl (by kernel_rfl) ?_; intro w4 hH4 hm4 hz4; have n1_ := Aside0.mk (hm4.out.blk HG.out HN.out.1); have n2_ := Aside0.mk (toBelow' HB.out hm4.out HN.out.2); clear HG HB HH; have HG := n1_; have HB := n2_; have HH := Aside0.mk hH4.out; clear n1_ n2_ hH4 hm4 hz4; (try clear cK); have cK := cell_of (i := 0) HH.out rfl)
    | ((with_reducible first | refine at_store_ ?_ | refine at_store2_ ?_); refine wpList_store_cell rfl 23 _ _ rfl H 5 rfl _ rfl _ _ HH.out (by exact (by decide : 5 < 15)) rfl (by kernel_rfl) ?_; intro w4 hH4 hm4 hz4; have n1_ := Aside0.mk (hm4.out.blk HG.out HN.out.1); have n2_ := Aside0.mk (toBelow' HB.out hm4.out HN.out.2); clear HG HB HH; have HG := n1_; have HB := n2_; have HH := Aside0.mk hH4.out; clear n1_ n2_ hH4 hm4 hz4; (try clear cK); have cK := cell_of (i := 0) HH.out rfl)
    | ((with_reducible first | refine at_store_ ?_ | refine at_store2_ ?_); refine wpList_store_cell rfl 23 _ _ rfl H 8 rfl _ rfl _ _ HH.out (by exact (by decide : 8 < 15)) rfl (by kernel_rfl) ?_; intro w4 hH4 hm4 hz4; have n1_ := Aside0.mk (hm4.out.blk HG.out HN.out.1); have n2_ := Aside0.mk (toBelow' HB.out hm4.out HN.out.2); clear HG HB HH; have HG := n1_; have HB := n2_; have HH := Aside0.mk hH4.out; clear n1_ n2_ hH4 hm4 hz4; (try clear cK); have cK := cell_of (i := 0) HH.out rfl)
    | ((with_reducible first | refine at_load_ ?_ | refine at_load2_ ?_); refine wpList_load_agg rfl 27 _ rfl H 0 rfl ({ dk 7 with session := n4, seq := n12, tag := s.extract 20 52 } : Dg).cells (load_all HH.out) _ Tryz.underlying27 rfl (by kernel_rfl) ?_)
    | ((with_reducible first | refine at_store_ ?_ | refine at_store2_ ?_); refine wpList_store_agg rfl 27 _ _ rfl G 0 rfl ({ dk 7 with session := n4, seq := n12, tag := s.extract 20 52 } : Dg).cells Dg.zero.cells rfl _ HG.out (by exact Nat.le_refl 15) (fun v hv => one_cells hv) (by kernel_rfl) ?_; intro w9 hG9 hm9 hz9; have HG9 := Aside0.mk (show w9.heap[G]? = some (.cells (({ dk 7 with session := n4, seq := n12, tag := s.extract 20 52 } : Dg).cells).toArray 27 (0, 0)) from hG9.out); have HM9 := Aside0.mk (show Below w.heap.size w w9 from toBelow' HB.out hm9.out (Nat.le_of_eq HGG.out.symm))))
  refine bodyPost_ret (results_rdec _ _ G ({ dk 7 with session := n4, seq := n12, tag := s.extract 20 52 } : Dg) 0 rfl rfl HG9.out) rfl ⟨rfl, HM9.out⟩
end Go.Proofs.YtniabkphbnimaaaGreatDoor.Sh
namespace Go.Proofs.YtniabkphbnimaaaGreatDoor.Sh
open Go Go.RowKit Go.Maps Go.Proofs.YtniabkphbnimaaaGreatDoorW.PrintWords Go.Proofs.YtniabkphbnimaaaGreatDoorW.PrintLast Go.Proofs.YtniabkphbnimaaaGreatDoor.Bs
theorem slice_lh {P : Program} (w : World) (t : TypeId) (s : ByteArray) (ht : P.underlying t = some .string) (kl kh : IntKind) (l h : Int) (h0 : 0 ≤ l) (h1 : l ≤ h) (h2 : h ≤ s.size) : (Instr.slice t (.string s) (some (.int kl l)) (some (.int kh h)) none).run P w = .ok (.string (s.extract l.toNat h.toNat)) w := by
  have eh : (h.toNat : Int) = h := Int.toNat_of_nonneg (by omega)
  simp [Instr.slice, run_underlying ht, Instr.sliceBounds, run_sliceBound, *, (by omega : 0 ≤ h)]
theorem slice_lh' {P : Program} (w : World) (t : TypeId) (s : ByteArray) (ht : P.underlying t = some .string) (l h : Int) (a b : Nat) (ha : l = (a : Int)) (hb : h = (b : Int)) (h1 : a ≤ b) (h2 : b ≤ s.size) : (Instr.slice t (.string s) (some (.int .i64 l)) (some (.int .i64 h)) none).run P w = .ok (.string (s.extract a b)) w := by
  have := slice_lh w t s ht .i64 .i64 l h (by omega) (by omega) (by omega)
  rw [this, ha, hb]
  rfl
set_option maxHeartbeats 8000000 in
set_option maxRecDepth 100000 in
theorem rdec_6 (s : ByteArray) (w : World) (hs : 52 ≤ s.size ∧ s.size ≤ 1200) (hk : ∀ h : 3 < s.size, wrap64 ((s[3]'h).toNat : Int) = ((6 : Nat) : Int)) (hj : ∀ w, Calls Tryz.prog 31 #[.string s] w fun e w' => e = .returned (.int .i64 0) ∧ Below w.heap.size w w') (n4 : Nat) (hn4 : ∀ w, Calls Tryz.prog 32 #[.string s, .int .i64 4] w fun e w' => e = .returned (.int .u64 (n4 : Int)) ∧ Below w.heap.size w w') (n12 : Nat) (hn12 : ∀ w, Calls Tryz.prog 32 #[.string s, .int .i64 12] w fun e w' => e = .returned (.int .u64 (n12 : Int)) ∧ Below w.heap.size w w') : Calls Tryz.prog 11 #[.string s] w fun e w' => e = .returned (.tuple #[.agg ({ dk 6 with session := n4, seq := n12, data := s.extract 20 (s.size - 32), tag := s.extract (s.size - 32) s.size } : Dg).cells.toArray, .int .i64 0]) ∧ Below w.heap.size w w' := by
  have HK3 := Aside0.mk hk
  have JC := Aside0.mk hj
  have NB4 := Aside0.mk hn4
  have NB12 := Aside0.mk hn12
  have g0 : 3 < s.size := by omega
  have g1 : 20 ≤ s.size := by omega
  have g32 : s.size - 32 ≤ s.size := by omega
  have g2 : 20 ≤ s.size - 32 := by omega
  have q1 : ∀ w, (Instr.slice 9 (.string s) (some (.int .i64 20)) (some (.int .i64 ((s.size : Int) - 32))) none).run Tryz.prog w = .ok (.string (s.extract 20 (s.size - 32))) w := fun w => slice_lh' w _ s Tryz.underlying9 _ _ 20 (s.size - 32) rfl (by omega) (by omega) (by omega)
  have z : wrap64 ((s.size : Int) - 32) = (s.size : Int) - 32 := by unfold wrap64; omega
  clear hk hj hn4 hn12
  have MARK : True := trivial
  go_enter Tryz.func11, Tryz.ntmps11
  go_wp2_with (first
    | ((with_reducible first | refine at_alloc_ ?_ | refine at_alloc2_ ?_); clear MARK; refine wpList_alloc_v rfl 27 rfl Dg.zero.cells (by kernel_rfl) ?_; intro G w1 eG hG1 hb1 hz1; have HG := Aside0.mk (show w1.heap[G]? = some (.cells Dg.zero.cells.toArray 27 (0, 0)) from hG1.out); have HGG := Aside0.mk eG.out; have HB := Aside0.mk (show Below w.heap.size w w1 from hb1.out); clear hG1 hb1 hz1 eG)
    | (go_at_call 31; (with_reducible refine (JC.out _).mono ?_); rintro e w2 ⟨rfl, hb2⟩; have n1_ := Aside0.mk ((hb2.block G (blk_lt HG.out)).trans HG.out); have n2_ := Aside0.mk (HB.out.trans (hb2.mono HB.out.size)); clear HG HB hb2; have HG := n1_; have HB := n2_; clear n1_ n2_)
    | ((with_reducible first | refine at_alloc_ ?_ | refine at_alloc2_ ?_); refine wpList_alloc_v rfl 27 rfl Dg.zero.cells (by kernel_rfl) ?_; intro H w3 eH hH3 hb3 hz3; have n1_ := Aside0.mk ((hb3.out.block G (blk_lt HG.out)).trans HG.out); have n2_ := Aside0.mk (HB.out.trans (hb3.out.mono HB.out.size)); have HN := Aside0.mk (show G ≠ H ∧ w.heap.size ≤ H from ⟨by have := eH.out; have := blk_lt HG.out; omega, by have := eH.out; have := HB.out.size; omega⟩); clear HG HB; have HG := n1_; have HB := n2_; have HH := Aside0.mk (show w3.heap[H]? = some (.cells Dg.zero.cells.toArray 27 (0, 0)) from hH3.out); clear n1_ n2_ hH3 hb3 hz3 eH)
    | ((with_reducible first | refine at_store_ ?_ | refine at_store2_ ?_); refine wpList_store_agg rfl 27 _ _ rfl H 0 rfl (dk 6).cells Dg.zero.cells (congrArg (fun x => Value.agg ({ Dg.zero with kind := x } : Dg).cells.toArray) (HK3.out _)) _ HH.out (by exact Nat.le_refl 15) (fun v hv => one_cells hv) (by kernel_rfl) ?_; intro w4 hH4 hm4 hz4; rw [splice_all Dg.zero.cells (dk 6).cells rfl] at hH4; have n1_ := Aside0.mk (hm4.out.blk HG.out HN.out.1); have n2_ := Aside0.mk (toBelow' HB.out hm4.out HN.out.2); clear HG HB HH; have HG := n1_; have HB := n2_; have HH := Aside0.mk hH4.out; clear n1_ n2_ hH4 hm4 hz4; (try clear cK); have cK := cell_of (i := 0) HH.out rfl)
    | (go_at_call 32; (with_reducible refine (NB4.out _).mono ?_); rintro e w5 ⟨rfl, hb5⟩; have n1_ := Aside0.mk ((hb5.block G (blk_lt HG.out)).trans HG.out); have n2_ := Aside0.mk (HB.out.trans (hb5.mono HB.out.size)); have n3_ := Aside0.mk ((hb5.block H (blk_lt HH.out)).trans HH.out); clear HG HB HH hb5; have HG := n1_; have HB := n2_; have HH := n3_; clear n1_ n2_ n3_; (try clear cK); have cK := cell_of (i := 0) HH.out rfl)
    | (go_at_call 32; (with_reducible refine (NB12.out _).mono ?_); rintro e w5 ⟨rfl, hb5⟩; have n1_ := Aside0.mk ((hb5.block G (blk_lt HG.out)).trans HG.out); have n2_ := Aside0.mk (HB.out.trans (hb5.mono HB.out.size)); have n3_ := Aside0.mk ((hb5.block H (blk_lt HH.out)).trans HH.out); clear HG HB HH hb5; have HG := n1_; have HB := n2_; have HH := n3_; clear n1_ n2_ n3_; (try clear cK); have cK := cell_of (i := 0) HH.out rfl)
    | ((with_reducible first | refine at_store_ ?_ | refine at_store2_ ?_); refine wpList_store_cell rfl 9 _ _ rfl H 14 rfl _ rfl _ _ HH.out (by exact (by decide : 14 < 15)) rfl (by kernel_rfl) ?_; intro w4 hH4 hm4 hz4; have n1_ := Aside0.mk (hm4.out.blk HG.out HN.out.1); have n2_ := Aside0.mk (toBelow' HB.out hm4.out HN.out.2); clear HG HB HH; have HG := n1_; have HB := n2_; have HH := Aside0.mk hH4.out; clear n1_ n2_ hH4 hm4 hz4; (try clear cK); have cK := cell_of (i := 0) HH.out rfl)
    | ((with_reducible first | refine at_store_ ?_ | refine at_store2_ ?_); refine wpList_store_cell rfl 23 _ _ rfl H 5 rfl _ rfl _ _ HH.out (by exact (by decide : 5 < 15)) rfl (by kernel_rfl) ?_; intro w4 hH4 hm4 hz4; have n1_ := Aside0.mk (hm4.out.blk HG.out HN.out.1); have n2_ := Aside0.mk (toBelow' HB.out hm4.out HN.out.2); clear HG HB HH; have HG := n1_; have HB := n2_; have HH := Aside0.mk hH4.out; clear n1_ n2_ hH4 hm4 hz4; (try clear cK); have cK := cell_of (i := 0) HH.out rfl)
    | ((with_reducible first | refine at_store_ ?_ | refine at_store2_ ?_); refine wpList_store_cell rfl 23 _ _ rfl H 8 rfl _ rfl _ _ HH.out (by exact (by decide : 8 < 15)) rfl (by kernel_rfl) ?_; intro w4 hH4 hm4 hz4; have n1_ := Aside0.mk (hm4.out.blk HG.out HN.out.1); have n2_ := Aside0.mk (toBelow' HB.out hm4.out HN.out.2); clear HG HB HH; have HG := n1_; have HB := n2_; have HH := Aside0.mk hH4.out; clear n1_ n2_ hH4 hm4 hz4; (try clear cK); have cK := cell_of (i := 0) HH.out rfl)
    | ((with_reducible first | refine at_store_ ?_ | refine at_store2_ ?_); refine wpList_store_cell rfl 9 _ _ rfl H 13 rfl _ rfl _ _ HH.out (by exact (by decide : 13 < 15)) rfl (by kernel_rfl) ?_; intro w4 hH4 hm4 hz4; have n1_ := Aside0.mk (hm4.out.blk HG.out HN.out.1); have n2_ := Aside0.mk (toBelow' HB.out hm4.out HN.out.2); clear HG HB HH; have HG := n1_; have HB := n2_; have HH := Aside0.mk hH4.out; clear n1_ n2_ hH4 hm4 hz4; (try clear cK); have cK := cell_of (i := 0) HH.out rfl)
    | ((with_reducible first | refine at_load_ ?_ | refine at_load2_ ?_); refine wpList_load_agg rfl 27 _ rfl H 0 rfl ({ dk 6 with session := n4, seq := n12, data := s.extract 20 (s.size - 32), tag := s.extract (s.size - 32) s.size } : Dg).cells (load_all HH.out) _ Tryz.underlying27 rfl (by kernel_rfl) ?_)
    | ((with_reducible first | refine at_store_ ?_ | refine at_store2_ ?_); refine wpList_store_agg rfl 27 _ _ rfl G 0 rfl ({ dk 6 with session := n4, seq := n12, data := s.extract 20 (s.size - 32), tag := s.extract (s.size - 32) s.size } : Dg).cells Dg.zero.cells rfl _ HG.out (by exact Nat.le_refl 15) (fun v hv => one_cells hv) (by kernel_rfl) ?_; intro w9 hG9 hm9 hz9; have HG9 := Aside0.mk (show w9.heap[G]? = some (.cells (({ dk 6 with session := n4, seq := n12, data := s.extract 20 (s.size - 32), tag := s.extract (s.size - 32) s.size } : Dg).cells).toArray 27 (0, 0)) from hG9.out); have HM9 := Aside0.mk (show Below w.heap.size w w9 from toBelow' HB.out hm9.out (Nat.le_of_eq HGG.out.symm))))
  refine bodyPost_ret (results_rdec _ _ G ({ dk 6 with session := n4, seq := n12, data := s.extract 20 (s.size - 32), tag := s.extract (s.size - 32) s.size } : Dg) 0 rfl rfl HG9.out) rfl ⟨rfl, HM9.out⟩
set_option maxHeartbeats 8000000 in
set_option maxRecDepth 100000 in
theorem rdec_3 (s : ByteArray) (w : World) (hs : 93 ≤ s.size ∧ s.size ≤ 1200) (hk : ∀ h : 3 < s.size, wrap64 ((s[3]'h).toNat : Int) = ((3 : Nat) : Int)) (hj : ∀ w, Calls Tryz.prog 31 #[.string s] w fun e w' => e = .returned (.int .i64 0) ∧ Below w.heap.size w w') (n20 : Nat) (hn20 : ∀ w, Calls Tryz.prog 32 #[.string s, .int .i64 20] w fun e w' => e = .returned (.int .u64 (n20 : Int)) ∧ Below w.heap.size w w') : Calls Tryz.prog 11 #[.string s] w fun e w' => e = .returned (.tuple #[.agg ({ dk 3 with nonce := s.extract 4 20, epoch := n20, cookie := s.extract 28 60, name := s.extract 61 (s.size - 32), tag := s.extract (s.size - 32) s.size } : Dg).cells.toArray, .int .i64 0]) ∧ Below w.heap.size w w' := by
  have HK3 := Aside0.mk hk
  have JC := Aside0.mk hj
  have NB20 := Aside0.mk hn20
  have g0 : 3 < s.size := by omega
  have g1 : 20 ≤ s.size := by omega
  have g32 : s.size - 32 ≤ s.size := by omega
  have g2 : 60 ≤ s.size := by omega
  have g3 : 61 ≤ s.size - 32 := by omega
  have q1 : ∀ w, (Instr.slice 9 (.string s) (some (.int .i64 4)) (some (.int .i64 20)) none).run Tryz.prog w = .ok (.string (s.extract 4 20)) w := fun w => slice_lh' w _ s Tryz.underlying9 _ _ 4 20 rfl rfl (by omega) (by omega)
  have q2 : ∀ w, (Instr.slice 9 (.string s) (some (.int .i64 28)) (some (.int .i64 60)) none).run Tryz.prog w = .ok (.string (s.extract 28 60)) w := fun w => slice_lh' w _ s Tryz.underlying9 _ _ 28 60 rfl rfl (by omega) (by omega)
  have q3 : ∀ w, (Instr.slice 9 (.string s) (some (.int .i64 61)) (some (.int .i64 ((s.size : Int) - 32))) none).run Tryz.prog w = .ok (.string (s.extract 61 (s.size - 32))) w := fun w => slice_lh' w _ s Tryz.underlying9 _ _ 61 (s.size - 32) rfl (by omega) (by omega) (by omega)
  have z : wrap64 ((s.size : Int) - 32) = (s.size : Int) - 32 := by unfold wrap64; omega
  clear hk hj hn20
  have MARK : True := trivial
  go_enter Tryz.func11, Tryz.ntmps11
  go_wp2_with (first
    | ((with_reducible first | refine at_alloc_ ?_ | refine at_alloc2_ ?_); clear MARK; refine wpList_alloc_v rfl 27 rfl Dg.zero.cells (by kernel_rfl) ?_; intro G w1 eG hG1 hb1 hz1; have HG := Aside0.mk (show w1.heap[G]? = some (.cells Dg.zero.cells.toArray 27 (0, 0)) from hG1.out); have HGG := Aside0.mk eG.out; have HB := Aside0.mk (show Below w.heap.size w w1 from hb1.out); clear hG1 hb1 hz1 eG)
    | (go_at_call 31; (with_reducible refine (JC.out _).mono ?_); rintro e w2 ⟨rfl, hb2⟩; have n1_ := Aside0.mk ((hb2.block G (blk_lt HG.out)).trans HG.out); have n2_ := Aside0.mk (HB.out.trans (hb2.mono HB.out.size)); clear HG HB hb2; have HG := n1_; have HB := n2_; clear n1_ n2_)
    | ((with_reducible first | refine at_alloc_ ?_ | refine at_alloc2_ ?_); refine wpList_alloc_v rfl 27 rfl Dg.zero.cells (by kernel_rfl) ?_; intro H w3 eH hH3 hb3 hz3; have n1_ := Aside0.mk ((hb3.out.block G (blk_lt HG.out)).trans HG.out); have n2_ := Aside0.mk (HB.out.trans (hb3.out.mono HB.out.size)); have HN := Aside0.mk (show G ≠ H ∧ w.heap.size ≤ H from ⟨by have := eH.out; have := blk_lt HG.out; omega, by have := eH.out; have := HB.out.size; omega⟩); clear HG HB; have HG := n1_; have HB := n2_; have HH := Aside0.mk (show w3.heap[H]? = some (.cells Dg.zero.cells.toArray 27 (0, 0)) from hH3.out); clear n1_ n2_ hH3 hb3 hz3 eH)
    | ((with_reducible first | refine at_store_ ?_ | refine at_store2_ ?_); refine wpList_store_agg rfl 27 _ _ rfl H 0 rfl (dk 3).cells Dg.zero.cells (congrArg (fun x => Value.agg ({ Dg.zero with kind := x } : Dg).cells.toArray) (HK3.out _)) _ HH.out (by exact Nat.le_refl 15) (fun v hv => one_cells hv) (by kernel_rfl) ?_; intro w4 hH4 hm4 hz4; rw [splice_all Dg.zero.cells (dk 3).cells rfl] at hH4; have n1_ := Aside0.mk (hm4.out.blk HG.out HN.out.1); have n2_ := Aside0.mk (toBelow' HB.out hm4.out HN.out.2); clear HG HB HH; have HG := n1_; have HB := n2_; have HH := Aside0.mk hH4.out; clear n1_ n2_ hH4 hm4 hz4; (try clear cK); have cK := cell_of (i := 0) HH.out rfl)
    | (go_at_call 32; (with_reducible refine (NB20.out _).mono ?_); rintro e w5 ⟨rfl, hb5⟩; have n1_ := Aside0.mk ((hb5.block G (blk_lt HG.out)).trans HG.out); have n2_ := Aside0.mk (HB.out.trans (hb5.mono HB.out.size)); have n3_ := Aside0.mk ((hb5.block H (blk_lt HH.out)).trans HH.out); clear HG HB HH hb5; have HG := n1_; have HB := n2_; have HH := n3_; clear n1_ n2_ n3_; (try clear cK); have cK := cell_of (i := 0) HH.out rfl)
    | ((with_reducible first | refine at_store_ ?_ | refine at_store2_ ?_); refine wpList_store_cell rfl 9 _ _ rfl H 14 rfl _ rfl _ _ HH.out (by exact (by decide : 14 < 15)) rfl (by kernel_rfl) ?_; intro w4 hH4 hm4 hz4; have n1_ := Aside0.mk (hm4.out.blk HG.out HN.out.1); have n2_ := Aside0.mk (toBelow' HB.out hm4.out HN.out.2); clear HG HB HH; have HG := n1_; have HB := n2_; have HH := Aside0.mk hH4.out; clear n1_ n2_ hH4 hm4 hz4; (try clear cK); have cK := cell_of (i := 0) HH.out rfl)
    | ((with_reducible first | refine at_store_ ?_ | refine at_store2_ ?_); refine wpList_store_cell rfl 9 _ _ rfl H 1 rfl _ rfl _ _ HH.out (by exact (by decide : 1 < 15)) rfl (by kernel_rfl) ?_; intro w4 hH4 hm4 hz4; have n1_ := Aside0.mk (hm4.out.blk HG.out HN.out.1); have n2_ := Aside0.mk (toBelow' HB.out hm4.out HN.out.2); clear HG HB HH; have HG := n1_; have HB := n2_; have HH := Aside0.mk hH4.out; clear n1_ n2_ hH4 hm4 hz4; (try clear cK); have cK := cell_of (i := 0) HH.out rfl)
    | ((with_reducible first | refine at_store_ ?_ | refine at_store2_ ?_); refine wpList_store_cell rfl 23 _ _ rfl H 2 rfl _ rfl _ _ HH.out (by exact (by decide : 2 < 15)) rfl (by kernel_rfl) ?_; intro w4 hH4 hm4 hz4; have n1_ := Aside0.mk (hm4.out.blk HG.out HN.out.1); have n2_ := Aside0.mk (toBelow' HB.out hm4.out HN.out.2); clear HG HB HH; have HG := n1_; have HB := n2_; have HH := Aside0.mk hH4.out; clear n1_ n2_ hH4 hm4 hz4; (try clear cK); have cK := cell_of (i := 0) HH.out rfl)
    | ((with_reducible first | refine at_store_ ?_ | refine at_store2_ ?_); refine wpList_store_cell rfl 9 _ _ rfl H 3 rfl _ rfl _ _ HH.out (by exact (by decide : 3 < 15)) rfl (by kernel_rfl) ?_; intro w4 hH4 hm4 hz4; have n1_ := Aside0.mk (hm4.out.blk HG.out HN.out.1); have n2_ := Aside0.mk (toBelow' HB.out hm4.out HN.out.2); clear HG HB HH; have HG := n1_; have HB := n2_; have HH := Aside0.mk hH4.out; clear n1_ n2_ hH4 hm4 hz4; (try clear cK); have cK := cell_of (i := 0) HH.out rfl)
    | ((with_reducible first | refine at_store_ ?_ | refine at_store2_ ?_); refine wpList_store_cell rfl 9 _ _ rfl H 4 rfl _ rfl _ _ HH.out (by exact (by decide : 4 < 15)) rfl (by kernel_rfl) ?_; intro w4 hH4 hm4 hz4; have n1_ := Aside0.mk (hm4.out.blk HG.out HN.out.1); have n2_ := Aside0.mk (toBelow' HB.out hm4.out HN.out.2); clear HG HB HH; have HG := n1_; have HB := n2_; have HH := Aside0.mk hH4.out; clear n1_ n2_ hH4 hm4 hz4; (try clear cK); have cK := cell_of (i := 0) HH.out rfl)
    | ((with_reducible first | refine at_load_ ?_ | refine at_load2_ ?_); refine wpList_load_agg rfl 27 _ rfl H 0 rfl ({ dk 3 with nonce := s.extract 4 20, epoch := n20, cookie := s.extract 28 60, name := s.extract 61 (s.size - 32), tag := s.extract (s.size - 32) s.size } : Dg).cells (load_all HH.out) _ Tryz.underlying27 rfl (by kernel_rfl) ?_)
    | ((with_reducible first | refine at_store_ ?_ | refine at_store2_ ?_); refine wpList_store_agg rfl 27 _ _ rfl G 0 rfl ({ dk 3 with nonce := s.extract 4 20, epoch := n20, cookie := s.extract 28 60, name := s.extract 61 (s.size - 32), tag := s.extract (s.size - 32) s.size } : Dg).cells Dg.zero.cells rfl _ HG.out (by exact Nat.le_refl 15) (fun v hv => one_cells hv) (by kernel_rfl) ?_; intro w9 hG9 hm9 hz9; have HG9 := Aside0.mk (show w9.heap[G]? = some (.cells (({ dk 3 with nonce := s.extract 4 20, epoch := n20, cookie := s.extract 28 60, name := s.extract 61 (s.size - 32), tag := s.extract (s.size - 32) s.size } : Dg).cells).toArray 27 (0, 0)) from hG9.out); have HM9 := Aside0.mk (show Below w.heap.size w w9 from toBelow' HB.out hm9.out (Nat.le_of_eq HGG.out.symm))))
  refine bodyPost_ret (results_rdec _ _ G ({ dk 3 with nonce := s.extract 4 20, epoch := n20, cookie := s.extract 28 60, name := s.extract 61 (s.size - 32), tag := s.extract (s.size - 32) s.size } : Dg) 0 rfl rfl HG9.out) rfl ⟨rfl, HM9.out⟩
end Go.Proofs.YtniabkphbnimaaaGreatDoor.Sh
namespace Go.Proofs.YtniabkphbnimaaaGreatDoor.Sh
open Go Go.RowKit Go.Maps Go.Proofs.YtniabkphbnimaaaGreatDoorW.PrintWords Go.Proofs.YtniabkphbnimaaaGreatDoorW.PrintLast Go.Proofs.YtniabkphbnimaaaGreatDoor.Bs
def T_11_26 : Bool × List (List Nat × List Nat) := (true, [([], []), ([0], [0]), ([1], [1]), ([], []), ([3], [3]), ([4, 2], [4]), ([], []), ([6], [6]), ([7], [7]), ([8], [8]), ([], []), ([10], [10]), ([11], [11]), ([2, 5, 9, 12], [2, 5, 9, 12]), ([0, 1, 2, 3, 4, 5, 6, 7, 8, 9, 10, 11, 12, 13], []), ([14, 13, 5, 0, 1, 2, 3, 4, 5, 6, 7, 8, 9, 10, 11, 12, 13], [13, 14])])
def B_11_26 : List Nat := [0, 1, 3, 0, 8, 31, 0, 64, 192, 448, 0, 1024, 3072, 8191, 16383, 32767]
theorem tab_f11_26 : rtab .any (opsOf Tryz.f11 26) = T_11_26 := by kernel_rfl
theorem bits_f11_26 : waitsOk T_11_26.2 B_11_26 = true := by kernel_rfl
set_option maxHeartbeats 8000000 in
set_option maxRecDepth 100000 in
theorem rdec_5 (s : ByteArray) (w : World) (hs : s.size = 55) (hk : ∀ h : 3 < s.size, wrap64 ((s[3]'h).toNat : Int) = ((5 : Nat) : Int)) (hj : ∀ w, Calls Tryz.prog 31 #[.string s] w fun e w' => e = .returned (.int .i64 0) ∧ Below w.heap.size w w') (n4 : Nat) (hn4 : ∀ w, Calls Tryz.prog 32 #[.string s, .int .i64 4] w fun e w' => e = .returned (.int .u64 (n4 : Int)) ∧ Below w.heap.size w w') (n12 : Nat) (hn12 : ∀ w, Calls Tryz.prog 32 #[.string s, .int .i64 12] w fun e w' => e = .returned (.int .u64 (n12 : Int)) ∧ Below w.heap.size w w') (k20 : 20 < s.size) (k21 : 21 < s.size) (k22 : 22 < s.size) (c : UInt8) (hc : s[22]'k22 = c) : Calls Tryz.prog 11 #[.string s] w fun e w' => e = .returned (.tuple #[.agg ({ dk 5 with session := n4, seq := n12, thr := sbyte (s[20]'k20), trn := sbyte (s[21]'k21), fire := decide (c.toNat % 2 = 1), boost := decide (1 < c.toNat), tag := s.extract 23 55 } : Dg).cells.toArray, .int .i64 0]) ∧ Below w.heap.size w w' := by
  have HK3 := Aside0.mk hk
  have JC := Aside0.mk hj
  have NB4 := Aside0.mk hn4
  have NB12 := Aside0.mk hn12
  obtain ⟨a, ea⟩ : ∃ a, a = sbyte (s[20]'k20) := ⟨_, rfl⟩
  obtain ⟨b, eb⟩ : ∃ b, b = sbyte (s[21]'k21) := ⟨_, rfl⟩
  have SG20 := Aside0.mk (show ∀ w, Calls Tryz.prog 33 #[.int .u8 ((s[20]'k20).toNat : Int)] w fun e w' => e = .returned (.int .i64 a) ∧ Below w.heap.size w w' from fun w => by rw [ea]; exact rsg_calls _ w)
  have SG21 := Aside0.mk (show ∀ w, Calls Tryz.prog 33 #[.int .u8 ((s[21]'k21).toNat : Int)] w fun e w' => e = .returned (.int .i64 b) ∧ Below w.heap.size w w' from fun w => by rw [eb]; exact rsg_calls _ w)
  rw [← ea, ← eb]
  obtain ⟨D5, eD⟩ : ∃ D5 : Dg, D5 = { dk 5 with session := n4, seq := n12, thr := a, trn := b, fire := ((c.toNat : Int).tmod 2 == 1), boost := decide (1 < (c.toNat : Int)), tag := s.extract 23 55 } := ⟨_, rfl⟩
  have ED := Aside0.mk eD
  clear hk hj hn4 hn12 ea eb eD
  have MARK : True := trivial
  go_enter Tryz.func11, Tryz.ntmps11
  go_upto_region 26 with (first | ((with_reducible first | refine at_alloc_ ?_ | refine at_alloc2_ ?_); clear MARK; refine wpList_alloc_v rfl 27 rfl Dg.zero.cells (by kernel_rfl) ?_; intro G w1 eG hG1 hb1 hz1; have HG := Aside0.mk (show w1.heap[G]? = some (.cells Dg.zero.cells.toArray 27 (0, 0)) from hG1.out); have HGG := Aside0.mk eG.out; have HB := Aside0.mk (show Below w.heap.size w w1 from hb1.out); clear hG1 hb1 hz1 eG) | (go_at_call 31; (with_reducible refine (JC.out _).mono ?_); rintro e w2 ⟨rfl, hb2⟩; have n1_ := Aside0.mk ((hb2.block G (blk_lt HG.out)).trans HG.out); have n2_ := Aside0.mk (HB.out.trans (hb2.mono HB.out.size)); clear HG HB hb2; have HG := n1_; have HB := n2_; clear n1_ n2_) | ((with_reducible first | refine at_alloc_ ?_ | refine at_alloc2_ ?_); refine wpList_alloc_v rfl 27 rfl Dg.zero.cells (by kernel_rfl) ?_; intro H w3 eH hH3 hb3 hz3; have n1_ := Aside0.mk ((hb3.out.block G (blk_lt HG.out)).trans HG.out); have n2_ := Aside0.mk (HB.out.trans (hb3.out.mono HB.out.size)); have HN := Aside0.mk (show G ≠ H ∧ w.heap.size ≤ H from ⟨by have := eH.out; have := blk_lt HG.out; omega, by have := eH.out; have := HB.out.size; omega⟩); clear HG HB; have HG := n1_; have HB := n2_; have HH := Aside0.mk (show w3.heap[H]? = some (.cells Dg.zero.cells.toArray 27 (0, 0)) from hH3.out); clear n1_ n2_ hH3 hb3 hz3 eH) | ((with_reducible first | refine at_store_ ?_ | refine at_store2_ ?_); refine wpList_store_agg rfl 27 _ _ rfl H 0 rfl (dk 5).cells Dg.zero.cells (congrArg (fun x => Value.agg ({ Dg.zero with kind := x } : Dg).cells.toArray) (HK3.out _)) _ HH.out (by exact Nat.le_refl 15) (fun v hv => one_cells hv) (by kernel_rfl) ?_; intro w4 hH4 hm4 hz4; rw [splice_all Dg.zero.cells (dk 5).cells rfl] at hH4; have n1_ := Aside0.mk (hm4.out.blk HG.out HN.out.1); have n2_ := Aside0.mk (toBelow' HB.out hm4.out HN.out.2); clear HG HB HH; have HG := n1_; have HB := n2_; have HH := Aside0.mk hH4.out; clear n1_ n2_ hH4 hm4 hz4; (try clear cK); have cK := cell_of (i := 0) HH.out rfl) | (go_at_call 32; (with_reducible refine (NB4.out _).mono ?_); rintro e w5 ⟨rfl, hb5⟩; have n1_ := Aside0.mk ((hb5.block G (blk_lt HG.out)).trans HG.out); have n2_ := Aside0.mk (HB.out.trans (hb5.mono HB.out.size)); have n3_ := Aside0.mk ((hb5.block H (blk_lt HH.out)).trans HH.out); clear HG HB HH hb5; have HG := n1_; have HB := n2_; have HH := n3_; clear n1_ n2_ n3_; (try clear cK); have cK := cell_of (i := 0) HH.out rfl) | (go_at_call 32; (with_reducible refine (NB12.out _).mono ?_); rintro e w5 ⟨rfl, hb5⟩; have n1_ := Aside0.mk ((hb5.block G (blk_lt HG.out)).trans HG.out); have n2_ := Aside0.mk (HB.out.trans (hb5.mono HB.out.size)); have n3_ := Aside0.mk ((hb5.block H (blk_lt HH.out)).trans HH.out); clear HG HB HH hb5; have HG := n1_; have HB := n2_; have HH := n3_; clear n1_ n2_ n3_; (try clear cK); have cK := cell_of (i := 0) HH.out rfl) | ((with_reducible first | refine at_store_ ?_ | refine at_store2_ ?_); refine wpList_store_cell rfl 9 _ _ rfl H 14 rfl _ rfl _ _ HH.out (by exact (by decide : 14 < 15)) rfl (by kernel_rfl) ?_; intro w4 hH4 hm4 hz4; have n1_ := Aside0.mk (hm4.out.blk HG.out HN.out.1); have n2_ := Aside0.mk (toBelow' HB.out hm4.out HN.out.2); clear HG HB HH; have HG := n1_; have HB := n2_; have HH := Aside0.mk hH4.out; clear n1_ n2_ hH4 hm4 hz4; (try clear cK); have cK := cell_of (i := 0) HH.out rfl) | ((with_reducible first | refine at_store_ ?_ | refine at_store2_ ?_); refine wpList_store_cell rfl 23 _ _ rfl H 5 rfl _ rfl _ _ HH.out (by exact (by decide : 5 < 15)) rfl (by kernel_rfl) ?_; intro w4 hH4 hm4 hz4; have n1_ := Aside0.mk (hm4.out.blk HG.out HN.out.1); have n2_ := Aside0.mk (toBelow' HB.out hm4.out HN.out.2); clear HG HB HH; have HG := n1_; have HB := n2_; have HH := Aside0.mk hH4.out; clear n1_ n2_ hH4 hm4 hz4; (try clear cK); have cK := cell_of (i := 0) HH.out rfl) | ((with_reducible first | refine at_store_ ?_ | refine at_store2_ ?_); refine wpList_store_cell rfl 23 _ _ rfl H 8 rfl _ rfl _ _ HH.out (by exact (by decide : 8 < 15)) rfl (by kernel_rfl) ?_; intro w4 hH4 hm4 hz4; have n1_ := Aside0.mk (hm4.out.blk HG.out HN.out.1); have n2_ := Aside0.mk (toBelow' HB.out hm4.out HN.out.2); clear HG HB HH; have HG := n1_; have HB := n2_; have HH := Aside0.mk hH4.out; clear n1_ n2_ hH4 hm4 hz4; (try clear cK); have cK := cell_of (i := 0) HH.out rfl) | ((with_reducible first | refine at_load_ ?_ | refine at_load2_ ?_); refine wpList_load_agg rfl 27 _ rfl H 0 rfl D5.cells (load_all HH.out) _ Tryz.underlying27 rfl (by kernel_rfl) ?_) | ((with_reducible first | refine at_store_ ?_ | refine at_store2_ ?_); refine wpList_store_agg rfl 27 _ _ rfl G 0 rfl D5.cells Dg.zero.cells rfl _ HG.out (by exact Nat.le_refl 15) (fun v hv => one_cells hv) (by kernel_rfl) ?_; intro w9 hG9 hm9 hz9; have HG9 := Aside0.mk (show w9.heap[G]? = some (.cells (D5.cells).toArray 27 (0, 0)) from hG9.out); have HM9 := Aside0.mk (show Below w.heap.size w w9 from toBelow' HB.out hm9.out (Nat.le_of_eq HGG.out.symm))))
  refine start_ (n := 16) (S := fun w' => True) (ds := []) #[false, false, false, false, false, false, false, false, false, false, false, false, false, false, false, false] (by kernel_rfl) rfl rfl trivial (fun hHeld => ?_)
  refine with_tabW tab_f11_26 bits_f11_26 (fun HT_ HW_ => ?_)
  refine pure_ (i := 0) (N := some 81) (v := ?_) (a' := ?_) #[true, false, false, false, false, false, false, false, false, false, false, false, false, false, false, false] rfl rfl (any_of HT_.out (by kernel_rfl)) (fun _ _ _ h => h) (Or.inl ⟨by rfl, ?_⟩) ?_ ?_
  rotate_left
  · intro w'
    go_simp
    with_reducible rfl
  rotate_left
  · simp only [Act.put, List.setIfInBounds_toArray, List.set_cons_zero, List.set_cons_succ, i64_w, i32_w]
    rfl
  refine pure_ (i := 1) (N := some 82) (v := ?_) (a' := ?_) #[true, true, false, false, false, false, false, false, false, false, false, false, false, false, false, false] rfl rfl (any_of HT_.out (by kernel_rfl)) (fun _ _ _ h => h) (Or.inl ⟨by rfl, ?_⟩) ?_ ?_
  rotate_left
  · intro w'
    go_simp
    with_reducible rfl
  rotate_left
  · simp only [Act.put, List.setIfInBounds_toArray, List.set_cons_zero, List.set_cons_succ, i64_w, i32_w]
    rfl
  refine pure_ (i := 3) (N := some 84) (v := ?_) (a' := ?_) #[true, true, false, true, false, false, false, false, false, false, false, false, false, false, false, false] rfl rfl (any_of HT_.out (by kernel_rfl)) (fun _ _ _ h => h) (Or.inl ⟨by rfl, ?_⟩) ?_ ?_
  rotate_left
  · intro w'
    go_simp
    with_reducible rfl
  rotate_left
  · simp only [Act.put, List.setIfInBounds_toArray, List.set_cons_zero, List.set_cons_succ, i64_w, i32_w]
    rfl
  refine pure_ (i := 4) (N := some 85) (v := ?_) (a' := ?_) #[true, true, false, true, true, false, false, false, false, false, false, false, false, false, false, false] rfl rfl (any_of HT_.out (by kernel_rfl)) (fun _ _ _ h => h) (Or.inl ⟨by rfl, ?_⟩) ?_ ?_
  rotate_left
  · intro w'
    go_simp
    with_reducible rfl
  rotate_left
  · simp only [Act.put, List.setIfInBounds_toArray, List.set_cons_zero, List.set_cons_succ, i64_w, i32_w]
    rfl
  refine pure_ (i := 6) (N := some 87) (v := ?_) (a' := ?_) #[true, true, false, true, true, false, true, false, false, false, false, false, false, false, false, false] rfl rfl (any_of HT_.out (by kernel_rfl)) (fun _ _ _ h => h) (Or.inl ⟨by rfl, ?_⟩) ?_ ?_
  rotate_left
  · intro w'
    go_simp
    with_reducible rfl
  rotate_left
  · simp only [Act.put, List.setIfInBounds_toArray, List.set_cons_zero, List.set_cons_succ, i64_w, i32_w]
    rfl
  refine pure_ (i := 7) (N := some 88) (v := ?_) (a' := ?_) #[true, true, false, true, true, false, true, true, false, false, false, false, false, false, false, false] rfl rfl (any_of HT_.out (by kernel_rfl)) (fun _ _ _ h => h) (Or.inl ⟨by rfl, ?_⟩) ?_ ?_
  rotate_left
  · intro w'
    go_simp
    with_reducible rfl
  rotate_left
  · simp only [Act.put, List.setIfInBounds_toArray, List.set_cons_zero, List.set_cons_succ, i64_w, i32_w]
    rfl
  refine pure_ (i := 8) (N := some 89) (v := ?_) (a' := ?_) #[true, true, false, true, true, false, true, true, true, false, false, false, false, false, false, false] rfl rfl (any_of HT_.out (by kernel_rfl)) (fun _ _ _ h => h) (Or.inl ⟨by rfl, ?_⟩) ?_ ?_
  rotate_left
  · intro w'
    go_simp
    with_reducible rfl
  rotate_left
  · simp only [Act.put, List.setIfInBounds_toArray, List.set_cons_zero, List.set_cons_succ, i64_w, i32_w]
    rfl
  refine pure_ (i := 9) (N := some 90) (v := ?_) (a' := ?_) #[true, true, false, true, true, false, true, true, true, true, false, false, false, false, false, false] rfl rfl (any_of HT_.out (by kernel_rfl)) (fun _ _ _ h => h) (Or.inl ⟨by rfl, ?_⟩) ?_ ?_
  rotate_left
  · intro w'
    go_simp
    with_reducible rfl
  rotate_left
  · simp only [Act.put, List.setIfInBounds_toArray, List.set_cons_zero, List.set_cons_succ, i64_w, i32_w]
    rfl
  refine pure_ (i := 10) (N := some 91) (v := ?_) (a' := ?_) #[true, true, false, true, true, false, true, true, true, true, true, false, false, false, false, false] rfl rfl (any_of HT_.out (by kernel_rfl)) (fun _ _ _ h => h) (Or.inl ⟨by rfl, ?_⟩) ?_ ?_
  rotate_left
  · intro w'
    go_simp
    with_reducible rfl
  rotate_left
  · simp only [Act.put, List.setIfInBounds_toArray, List.set_cons_zero, List.set_cons_succ, i64_w, i32_w]
    rfl
  refine pure_ (i := 11) (N := some 92) (v := ?_) (a' := ?_) #[true, true, false, true, true, false, true, true, true, true, true, true, false, false, false, false] rfl rfl (any_of HT_.out (by kernel_rfl)) (fun _ _ _ h => h) (Or.inl ⟨by rfl, ?_⟩) ?_ ?_
  rotate_left
  · intro w'
    go_simp
    with_reducible rfl
  rotate_left
  · simp only [Act.put, List.setIfInBounds_toArray, List.set_cons_zero, List.set_cons_succ, i64_w, i32_w]
    rfl
  refine pure_ (i := 12) (N := some 93) (v := ?_) (a' := ?_) #[true, true, false, true, true, false, true, true, true, true, true, true, true, false, false, false] rfl rfl (any_of HT_.out (by kernel_rfl)) (fun _ _ _ h => h) (Or.inl ⟨by rfl, ?_⟩) ?_ ?_
  rotate_left
  · intro w'
    go_simp
    with_reducible rfl
  rotate_left
  · simp only [Act.put, List.setIfInBounds_toArray, List.set_cons_zero, List.set_cons_succ, i64_w, i32_w]
    rfl
  refine one_ (i := 2) (N := some 83) #[true, true, true, true, true, false, true, true, true, true, true, true, true, false, false, false] rfl rfl (one_of HT_.out (by kernel_rfl)) (by decide) (fun K hK => ?_)
  refine goes_ Tryz.func33 (by kernel_rfl) rfl #[.int .u8 ((s[20]'k20).toNat : Int)] (by rfl) rfl rfl (by (try simp only [List.map_toArray, List.map_cons, List.map_nil]); first | done | rfl) ?_
  with_reducible refine (SG20.out _).mono ?_
  rintro e w5 ⟨rfl, hb5⟩
  refine ⟨_, rfl, ?_⟩
  have n1_ := Aside0.mk ((hb5.block G (blk_lt HG.out)).trans HG.out)
  have n2_ := Aside0.mk (show Below w.heap.size w w5 from (below_drew1 HB.out).trans (hb5.mono HB.out.size))
  have n3_ := Aside0.mk ((hb5.block H (blk_lt HH.out)).trans HH.out)
  clear HG HB HH hb5
  have HG := n1_
  have HB := n2_
  have HH := n3_
  clear n1_ n2_ n3_
  refine hK.out _ _ trivial (fun hHeld => ?_)
  clear hK K
  refine norm_ (a' := ?_) ?_ ?_
  rotate_left
  · show Act.put _ (some 83) _ = _
    simp only [Act.put, List.setIfInBounds_toArray, List.set_cons_zero, List.set_cons_succ, i64_w, i32_w]
    rfl
  refine one_ (i := 5) (N := some 86) #[true, true, true, true, true, true, true, true, true, true, true, true, true, false, false, false] rfl rfl (one_of HT_.out (by kernel_rfl)) (by decide) (fun K hK => ?_)
  refine goes_ Tryz.func33 (by kernel_rfl) rfl #[.int .u8 ((s[21]'k21).toNat : Int)] (by rfl) rfl rfl (by (try simp only [List.map_toArray, List.map_cons, List.map_nil]); first | done | rfl) ?_
  with_reducible refine (SG21.out _).mono ?_
  rintro e w5 ⟨rfl, hb5⟩
  refine ⟨_, rfl, ?_⟩
  have n1_ := Aside0.mk ((hb5.block G (blk_lt HG.out)).trans HG.out)
  have n2_ := Aside0.mk (HB.out.trans (hb5.mono HB.out.size))
  have n3_ := Aside0.mk ((hb5.block H (blk_lt HH.out)).trans HH.out)
  clear HG HB HH hb5
  have HG := n1_
  have HB := n2_
  have HH := n3_
  clear n1_ n2_ n3_
  refine hK.out _ _ trivial (fun hHeld => ?_)
  clear hK K
  refine norm_ (a' := ?_) ?_ ?_
  rotate_left
  · show Act.put _ (some 86) _ = _
    simp only [Act.put, List.setIfInBounds_toArray, List.set_cons_zero, List.set_cons_succ, i64_w, i32_w]
    rfl
  refine pure_ (i := 13) (N := some 94) (v := ?_) (a' := ?_) #[true, true, true, true, true, true, true, true, true, true, true, true, true, true, false, false] rfl rfl (any_of HT_.out (by kernel_rfl)) (fun _ _ _ h => h) (Or.inl ⟨by rfl, ?_⟩) ?_ ?_
  rotate_left
  · intro w'
    go_simp
    with_reducible rfl
  rotate_left
  · simp only [Act.put, List.setIfInBounds_toArray, List.set_cons_zero, List.set_cons_succ, i64_w, i32_w]
    rfl
  refine pure_ (i := 14) (N := some 95) (v := ?_) (a' := ?_) #[true, true, true, true, true, true, true, true, true, true, true, true, true, true, true, false] rfl rfl (any_of HT_.out (by kernel_rfl)) (fun _ _ _ h => h) (Or.inl ⟨by rfl, ?_⟩) ?_ ?_
  rotate_left
  · intro w'
    go_simp
    with_reducible rfl
  rotate_left
  · simp only [Act.put, List.setIfInBounds_toArray, List.set_cons_zero, List.set_cons_succ, i64_w, i32_w]
    rfl
  refine one_ (i := 15) (N := none) #[true, true, true, true, true, true, true, true, true, true, true, true, true, true, true, true] rfl rfl (one_of HT_.out (by kernel_rfl)) (by decide) (fun K hK => ?_)
  refine step_of_wp rfl (wp_store_agg 25 _ _ rfl H 9 rfl [.int .i64 a, .int .i64 b, .bool _, .bool _] _ rfl _ HH.out (by exact (by decide : 9 + 4 ≤ 15)) (fun v hv => by simp only [List.mem_cons, List.not_mem_nil, or_false] at hv; rcases hv with rfl | rfl | rfl | rfl <;> rfl) (by kernel_rfl) ?_)
  intro w4 hH4 hm4 hz4
  have n1_ := Aside0.mk (hm4.out.blk HG.out HN.out.1); have n2_ := Aside0.mk (toBelow' HB.out hm4.out HN.out.2); clear HG HB HH; have HG := n1_; have HB := n2_; have HH := Aside0.mk hH4.out; clear n1_ n2_ hH4 hm4 hz4; (try clear cK); have cK := cell_of (i := 0) HH.out rfl
  refine hK.out _ _ trivial (fun hHeld => ?_)
  clear hK K
  refine norm_ (a' := ?_) ?_ ?_
  rotate_left
  · show Act.put _ (none) _ = _
    simp only [Act.put, List.setIfInBounds_toArray, List.set_cons_zero, List.set_cons_succ, i64_w, i32_w]
    rfl
  refine done_ (done_of HT_.out (by kernel_rfl)) ?_
  clear HT_ HW_ hHeld
  have n1_ := Aside0.mk (show w4.heap[H]? = some (.cells D5.cells.toArray 27 (0, 0)) from by rw [ED.out]; exact HH.out)
  clear HH
  have HH := n1_
  clear n1_
  have EV := Aside0.mk (show D5 = { dk 5 with session := n4, seq := n12, thr := a, trn := b, fire := decide (c.toNat % 2 = 1), boost := decide (1 < c.toNat), tag := s.extract 23 55 } from by
    rw [ED.out]
    congr 1
    · rw [show (c.toNat : Int).tmod 2 = ((c.toNat % 2 : Nat) : Int) from rfl, Bool.eq_iff_iff]
      simp only [beq_iff_eq, decide_eq_true_eq]
      omega
    · exact decide_eq_decide.mpr (by omega))
  go_wp2_with (first | ((with_reducible first | refine at_alloc_ ?_ | refine at_alloc2_ ?_); clear MARK; refine wpList_alloc_v rfl 27 rfl Dg.zero.cells (by kernel_rfl) ?_; intro G w1 eG hG1 hb1 hz1; have HG := Aside0.mk (show w1.heap[G]? = some (.cells Dg.zero.cells.toArray 27 (0, 0)) from hG1.out); have HGG := Aside0.mk eG.out; have HB := Aside0.mk (show Below w.heap.size w w1 from hb1.out); clear hG1 hb1 hz1 eG) | (go_at_call 31; (with_reducible refine (JC.out _).mono ?_); rintro e w2 ⟨rfl, hb2⟩; have n1_ := Aside0.mk ((hb2.block G (blk_lt HG.out)).trans HG.out); have n2_ := Aside0.mk (HB.out.trans (hb2.mono HB.out.size)); clear HG HB hb2; have HG := n1_; have HB := n2_; clear n1_ n2_) | ((with_reducible first | refine at_alloc_ ?_ | refine at_alloc2_ ?_); refine wpList_alloc_v rfl 27 rfl Dg.zero.cells (by kernel_rfl) ?_; intro H w3 eH hH3 hb3 hz3; have n1_ := Aside0.mk ((hb3.out.block G (blk_lt HG.out)).trans HG.out); have n2_ := Aside0.mk (HB.out.trans (hb3.out.mono HB.out.size)); have HN := Aside0.mk (show G ≠ H ∧ w.heap.size ≤ H from ⟨by have := eH.out; have := blk_lt HG.out; omega, by have := eH.out; have := HB.out.size; omega⟩); clear HG HB; have HG := n1_; have HB := n2_; have HH := Aside0.mk (show w3.heap[H]? = some (.cells Dg.zero.cells.toArray 27 (0, 0)) from hH3.out); clear n1_ n2_ hH3 hb3 hz3 eH) | ((with_reducible first | refine at_store_ ?_ | refine at_store2_ ?_); refine wpList_store_agg rfl 27 _ _ rfl H 0 rfl (dk 5).cells Dg.zero.cells (congrArg (fun x => Value.agg ({ Dg.zero with kind := x } : Dg).cells.toArray) (HK3.out _)) _ HH.out (by exact Nat.le_refl 15) (fun v hv => one_cells hv) (by kernel_rfl) ?_; intro w4 hH4 hm4 hz4; rw [splice_all Dg.zero.cells (dk 5).cells rfl] at hH4; have n1_ := Aside0.mk (hm4.out.blk HG.out HN.out.1); have n2_ := Aside0.mk (toBelow' HB.out hm4.out HN.out.2); clear HG HB HH; have HG := n1_; have HB := n2_; have HH := Aside0.mk hH4.out; clear n1_ n2_ hH4 hm4 hz4; (try clear cK); have cK := cell_of (i := 0) HH.out rfl) | (go_at_call 32; (with_reducible refine (NB4.out _).mono ?_); rintro e w5 ⟨rfl, hb5⟩; have n1_ := Aside0.mk ((hb5.block G (blk_lt HG.out)).trans HG.out); have n2_ := Aside0.mk (HB.out.trans (hb5.mono HB.out.size)); have n3_ := Aside0.mk ((hb5.block H (blk_lt HH.out)).trans HH.out); clear HG HB HH hb5; have HG := n1_; have HB := n2_; have HH := n3_; clear n1_ n2_ n3_; (try clear cK); have cK := cell_of (i := 0) HH.out rfl) | (go_at_call 32; (with_reducible refine (NB12.out _).mono ?_); rintro e w5 ⟨rfl, hb5⟩; have n1_ := Aside0.mk ((hb5.block G (blk_lt HG.out)).trans HG.out); have n2_ := Aside0.mk (HB.out.trans (hb5.mono HB.out.size)); have n3_ := Aside0.mk ((hb5.block H (blk_lt HH.out)).trans HH.out); clear HG HB HH hb5; have HG := n1_; have HB := n2_; have HH := n3_; clear n1_ n2_ n3_; (try clear cK); have cK := cell_of (i := 0) HH.out rfl) | ((with_reducible first | refine at_store_ ?_ | refine at_store2_ ?_); refine wpList_store_cell rfl 9 _ _ rfl H 14 rfl _ rfl _ _ HH.out (by exact (by decide : 14 < 15)) rfl (by kernel_rfl) ?_; intro w4 hH4 hm4 hz4; have n1_ := Aside0.mk (hm4.out.blk HG.out HN.out.1); have n2_ := Aside0.mk (toBelow' HB.out hm4.out HN.out.2); clear HG HB HH; have HG := n1_; have HB := n2_; have HH := Aside0.mk hH4.out; clear n1_ n2_ hH4 hm4 hz4; (try clear cK); have cK := cell_of (i := 0) HH.out rfl) | ((with_reducible first | refine at_store_ ?_ | refine at_store2_ ?_); refine wpList_store_cell rfl 23 _ _ rfl H 5 rfl _ rfl _ _ HH.out (by exact (by decide : 5 < 15)) rfl (by kernel_rfl) ?_; intro w4 hH4 hm4 hz4; have n1_ := Aside0.mk (hm4.out.blk HG.out HN.out.1); have n2_ := Aside0.mk (toBelow' HB.out hm4.out HN.out.2); clear HG HB HH; have HG := n1_; have HB := n2_; have HH := Aside0.mk hH4.out; clear n1_ n2_ hH4 hm4 hz4; (try clear cK); have cK := cell_of (i := 0) HH.out rfl) | ((with_reducible first | refine at_store_ ?_ | refine at_store2_ ?_); refine wpList_store_cell rfl 23 _ _ rfl H 8 rfl _ rfl _ _ HH.out (by exact (by decide : 8 < 15)) rfl (by kernel_rfl) ?_; intro w4 hH4 hm4 hz4; have n1_ := Aside0.mk (hm4.out.blk HG.out HN.out.1); have n2_ := Aside0.mk (toBelow' HB.out hm4.out HN.out.2); clear HG HB HH; have HG := n1_; have HB := n2_; have HH := Aside0.mk hH4.out; clear n1_ n2_ hH4 hm4 hz4; (try clear cK); have cK := cell_of (i := 0) HH.out rfl) | ((with_reducible first | refine at_load_ ?_ | refine at_load2_ ?_); refine wpList_load_agg rfl 27 _ rfl H 0 rfl D5.cells (load_all HH.out) _ Tryz.underlying27 rfl (by kernel_rfl) ?_) | ((with_reducible first | refine at_store_ ?_ | refine at_store2_ ?_); refine wpList_store_agg rfl 27 _ _ rfl G 0 rfl D5.cells Dg.zero.cells rfl _ HG.out (by exact Nat.le_refl 15) (fun v hv => one_cells hv) (by kernel_rfl) ?_; intro w9 hG9 hm9 hz9; have HG9 := Aside0.mk (show w9.heap[G]? = some (.cells (D5.cells).toArray 27 (0, 0)) from hG9.out); have HM9 := Aside0.mk (show Below w.heap.size w w9 from toBelow' HB.out hm9.out (Nat.le_of_eq HGG.out.symm))))
  refine bodyPost_ret (results_rdec _ _ G D5 0 rfl rfl HG9.out) rfl ⟨?_, HM9.out⟩
  rw [EV.out]
  rfl
end Go.Proofs.YtniabkphbnimaaaGreatDoor.Sh
namespace Go.Proofs.YtniabkphbnimaaaGreatDoor.Sh
open Go Go.RowKit Go.Maps Go.Proofs.YtniabkphbnimaaaGreatDoorW.PrintWords Go.Proofs.YtniabkphbnimaaaGreatDoorW.PrintLast Go.Proofs.YtniabkphbnimaaaGreatDoor.Bs
theorem ext_str (l : List UInt8) (a b : Nat) : (str l).extract a b = str ((l.take b).drop a) := by
  apply ByteArray.ext
  simp [str, List.drop_take]
theorem ex4 (k : UInt8) (t : List UInt8) (a b : Nat) : (str (74 :: 48 :: 49 :: k :: t)).extract (a + 4) (b + 4) = str ((t.drop a).take (b - a)) := by
  rw [ext_str, ← List.drop_take]
  rfl
theorem get_str (l : List UInt8) (i : Nat) (h : i < (str l).size) : (str l)[i]'h = l.getD i 0 := by
  have h' : i < l.length := h
  rw [List.getD_eq_getElem?_getD, List.getElem?_eq_getElem h']
  show (l.toArray)[i] = _
  simp
theorem wrap_byte8 (b : UInt8) : wrap64 (b.toNat : Int) = (b.toNat : Int) := by
  have := b.toNat_lt
  unfold wrap64
  omega
set_option maxHeartbeats 2000000 in
theorem rdecode_calls (l : List UInt8) (w : World) : Calls Tryz.prog 11 #[.string (str l)] w fun e w' => e = .returned (.tuple #[.agg (dec l).1.cells.toArray, .int .i64 (dec l).2]) ∧ Below w.heap.size w w' := by
  by_cases hc : (dec l).2 = 0
  · obtain ⟨k, t, rfl, hl, h1, h7⟩ := dec_ok l hc
    have hd := dec_at k t hl ⟨h1, h7⟩
    have hj : ∀ w, Calls Tryz.prog 31 #[.string (str (74 :: 48 :: 49 :: k :: t))] w fun e w' => e = .returned (.int .i64 0) ∧ Below w.heap.size w w' := fun w => by
      have h := rjudged_calls (74 :: 48 :: 49 :: k :: t) w
      rw [hc] at h
      exact h
    have hlen : (74 :: 48 :: 49 :: k :: t : List UInt8).length = t.length + 4 := rfl
    have hss : (str (74 :: 48 :: 49 :: k :: t)).size = t.length + 4 := rfl
    have hk : ∀ h : 3 < (str (74 :: 48 :: 49 :: k :: t)).size, wrap64 (((str (74 :: 48 :: 49 :: k :: t))[3]'h).toNat : Int) = (k.toNat : Int) := fun h => by
      rw [get_str]
      exact wrap_byte8 k
    have hn : ∀ (p : Nat) (pi : Int), pi = (p : Int) → p + 4 ≤ t.length → ∀ w, Calls Tryz.prog 32 #[.string (str (74 :: 48 :: 49 :: k :: t)), .int .i64 pi] w fun e w' => e = .returned (.int .u64 (num (((74 :: 48 :: 49 :: k :: t : List UInt8).drop p).take 8) : Int)) ∧ Below w.heap.size w w' := fun p pi e h w => number_calls (74 :: 48 :: 49 :: k :: t) p pi e (by omega) (by omega) w
    rw [hd] at hc ⊢
    clear hd
    rw [hlen] at hl
    obtain ⟨n, en⟩ : ∃ n, n = k.toNat := ⟨_, rfl⟩
    rw [← en] at h1 h7 hk hc ⊢
    have hnn : n = 1 ∨ n = 2 ∨ n = 3 ∨ n = 4 ∨ n = 5 ∨ n = 6 ∨ n = 7 := by omega
    rcases hnn with rfl | rfl | rfl | rfl | rfl | rfl | rfl
    · replace hc : (fin (getAll (fieldsOf 1) (dk 1, false, t))).2 = 0 := hc
      show Calls Tryz.prog 11 #[.string (str (74 :: 48 :: 49 :: k :: t))] w fun e w' => e = .returned (.tuple #[.agg (fin (getAll (fieldsOf 1) (dk 1, false, t))).1.cells.toArray, .int .i64 (fin (getAll (fieldsOf 1) (dk 1, false, t))).2]) ∧ Below w.heap.size w w'
      rw [hc]
      rw [dec1] at hc ⊢
      by_cases ht : t.length = 92
      · rw [if_pos ht] at hc ⊢
        by_cases h0 : ∀ b ∈ t.drop 16, b = 0
        case neg => rw [if_neg h0] at hc; cases hc
        rw [if_pos h0]
        have e0 : (str (74 :: 48 :: 49 :: k :: t)).extract 4 20 = str (t.take 16) := ex4 k t 0 16
        have H := rdec_1 (str (74 :: 48 :: 49 :: k :: t)) w (by rw [hss]; omega) hk hj
        rw [e0] at H
        exact H
      · rw [if_neg ht] at hc
        cases hc
    · replace hc : (fin (getAll (fieldsOf 2) (dk 2, false, t))).2 = 0 := hc
      show Calls Tryz.prog 11 #[.string (str (74 :: 48 :: 49 :: k :: t))] w fun e w' => e = .returned (.tuple #[.agg (fin (getAll (fieldsOf 2) (dk 2, false, t))).1.cells.toArray, .int .i64 (fin (getAll (fieldsOf 2) (dk 2, false, t))).2]) ∧ Below w.heap.size w w'
      rw [hc]
      rw [dec2] at hc ⊢
      by_cases ht : t.length = 56
      · rw [if_pos ht] at hc ⊢
        have e0 : (str (74 :: 48 :: 49 :: k :: t)).extract 4 20 = str (t.take 16) := ex4 k t 0 16
        have e1 : (str (74 :: 48 :: 49 :: k :: t)).extract 28 60 = str ((t.drop 24).take 32) := ex4 k t 24 56
        have H := rdec_2 (str (74 :: 48 :: 49 :: k :: t)) w (by rw [hss]; omega) hk hj _ (hn 20 20 rfl (by omega))
        rw [e0, e1] at H
        exact H
      · rw [if_neg ht] at hc
        cases hc
    · replace hc : (fin (getAll (fieldsOf 3) (dk 3, false, t))).2 = 0 := hc
      show Calls Tryz.prog 11 #[.string (str (74 :: 48 :: 49 :: k :: t))] w fun e w' => e = .returned (.tuple #[.agg (fin (getAll (fieldsOf 3) (dk 3, false, t))).1.cells.toArray, .int .i64 (fin (getAll (fieldsOf 3) (dk 3, false, t))).2]) ∧ Below w.heap.size w w'
      rw [hc]
      rw [dec3] at hc ⊢
      by_cases ht : 89 ≤ t.length ∧ t.length = 89 + (t.getD 56 0).toNat
      · rw [if_pos ht] at hc ⊢
        have e0 : (str (74 :: 48 :: 49 :: k :: t)).extract 4 20 = str (t.take 16) := ex4 k t 0 16
        have e1 : (str (74 :: 48 :: 49 :: k :: t)).extract 28 60 = str ((t.drop 24).take 32) := ex4 k t 24 56
        have e2 : (str (74 :: 48 :: 49 :: k :: t)).extract 61 ((str (74 :: 48 :: 49 :: k :: t)).size - 32) = str ((t.drop 57).take (t.getD 56 0).toNat) := by rw [hss, show t.length + 4 - 32 = (t.length - 32) + 4 by omega, show (61 : Nat) = 57 + 4 from rfl, ex4, show t.length - 32 - 57 = (t.getD 56 0).toNat by omega]
        have e3 : (str (74 :: 48 :: 49 :: k :: t)).extract ((str (74 :: 48 :: 49 :: k :: t)).size - 32) (str (74 :: 48 :: 49 :: k :: t)).size = str ((t.drop (t.length - 32)).take 32) := by rw [hss, show t.length + 4 - 32 = (t.length - 32) + 4 by omega, ex4, show t.length - (t.length - 32) = 32 by omega]
        have H := rdec_3 (str (74 :: 48 :: 49 :: k :: t)) w (by rw [hss]; omega) hk hj _ (hn 20 20 rfl (by omega))
        rw [e0, e1, e2, e3] at H
        exact H
      · rw [if_neg ht] at hc
        cases hc
    · replace hc : (fin (getAll (fieldsOf 4) (dk 4, false, t))).2 = 0 := hc
      show Calls Tryz.prog 11 #[.string (str (74 :: 48 :: 49 :: k :: t))] w fun e w' => e = .returned (.tuple #[.agg (fin (getAll (fieldsOf 4) (dk 4, false, t))).1.cells.toArray, .int .i64 (fin (getAll (fieldsOf 4) (dk 4, false, t))).2]) ∧ Below w.heap.size w w'
      rw [hc]
      rw [dec4] at hc ⊢
      by_cases ht : t.length = 73
      · rw [if_pos ht] at hc ⊢
        have e0 : (str (74 :: 48 :: 49 :: k :: t)).extract 4 20 = str (t.take 16) := ex4 k t 0 16
        have e1 : (str (74 :: 48 :: 49 :: k :: t)).extract 29 45 = str ((t.drop 25).take 16) := ex4 k t 25 41
        have e2 : (str (74 :: 48 :: 49 :: k :: t)).extract 45 77 = str ((t.drop 41).take 32) := ex4 k t 41 73
        have e3 : wrap64 (((str (74 :: 48 :: 49 :: k :: t))[28]'(by rw [hss]; omega)).toNat : Int) = ((t.getD 24 0).toNat : Int) := by rw [get_str]; exact wrap_byte8 _
        have H := rdec_4 (str (74 :: 48 :: 49 :: k :: t)) w (by rw [hss]; omega) hk hj _ (hn 20 20 rfl (by omega)) (by rw [hss]; omega)
        rw [e0, e1, e2, e3] at H
        exact H
      · rw [if_neg ht] at hc
        cases hc
    · replace hc : (fin (getAll (fieldsOf 5) (dk 5, false, t))).2 = 0 := hc
      show Calls Tryz.prog 11 #[.string (str (74 :: 48 :: 49 :: k :: t))] w fun e w' => e = .returned (.tuple #[.agg (fin (getAll (fieldsOf 5) (dk 5, false, t))).1.cells.toArray, .int .i64 (fin (getAll (fieldsOf 5) (dk 5, false, t))).2]) ∧ Below w.heap.size w w'
      rw [hc]
      rw [dec5] at hc ⊢
      by_cases ht : t.length = 51
      · rw [if_pos ht] at hc ⊢
        by_cases h0 : 3 < (t.getD 18 0).toNat
        case pos => rw [if_pos h0] at hc; cases hc
        rw [if_neg h0]
        have e0 : (str (74 :: 48 :: 49 :: k :: t)).extract 23 55 = str ((t.drop 19).take 32) := ex4 k t 19 51
        have e1 : (str (74 :: 48 :: 49 :: k :: t))[20]'(by rw [hss]; omega) = t.getD 16 0 := get_str _ _ _
        have e2 : (str (74 :: 48 :: 49 :: k :: t))[21]'(by rw [hss]; omega) = t.getD 17 0 := get_str _ _ _
        have e3 : decide (1 < (t.getD 18 0).toNat) = bit1 (t.getD 18 0) := decide_eq_decide.mpr (by omega)
        have H := rdec_5 (str (74 :: 48 :: 49 :: k :: t)) w (by rw [hss]; omega) hk hj _ (hn 4 4 rfl (by omega)) _ (hn 12 12 rfl (by omega)) (by rw [hss]; omega) (by rw [hss]; omega) (by rw [hss]; omega) (t.getD 18 0) (get_str _ _ _)
        rw [e0, e1, e2, e3] at H
        exact H
      · rw [if_neg ht] at hc
        cases hc
    · replace hc : (fin (getAll (fieldsOf 6) (dk 6, false, t))).2 = 0 := hc
      show Calls Tryz.prog 11 #[.string (str (74 :: 48 :: 49 :: k :: t))] w fun e w' => e = .returned (.tuple #[.agg (fin (getAll (fieldsOf 6) (dk 6, false, t))).1.cells.toArray, .int .i64 (fin (getAll (fieldsOf 6) (dk 6, false, t))).2]) ∧ Below w.heap.size w w'
      rw [hc]
      rw [dec6] at hc ⊢
      by_cases ht : 48 ≤ t.length
      · rw [if_pos ht] at hc ⊢
        have e0 : (str (74 :: 48 :: 49 :: k :: t)).extract 20 ((str (74 :: 48 :: 49 :: k :: t)).size - 32) = str ((t.drop 16).take (t.length - 48)) := by rw [hss, show t.length + 4 - 32 = (t.length - 32) + 4 by omega, show (20 : Nat) = 16 + 4 from rfl, ex4, show t.length - 32 - 16 = t.length - 48 by omega]
        have e1 : (str (74 :: 48 :: 49 :: k :: t)).extract ((str (74 :: 48 :: 49 :: k :: t)).size - 32) (str (74 :: 48 :: 49 :: k :: t)).size = str ((t.drop (t.length - 32)).take 32) := by rw [hss, show t.length + 4 - 32 = (t.length - 32) + 4 by omega, ex4, show t.length - (t.length - 32) = 32 by omega]
        have H := rdec_6 (str (74 :: 48 :: 49 :: k :: t)) w (by rw [hss]; omega) hk hj _ (hn 4 4 rfl (by omega)) _ (hn 12 12 rfl (by omega))
        rw [e0, e1] at H
        exact H
      · rw [if_neg ht] at hc
        cases hc
    · replace hc : (fin (getAll (fieldsOf 7) (dk 7, false, t))).2 = 0 := hc
      show Calls Tryz.prog 11 #[.string (str (74 :: 48 :: 49 :: k :: t))] w fun e w' => e = .returned (.tuple #[.agg (fin (getAll (fieldsOf 7) (dk 7, false, t))).1.cells.toArray, .int .i64 (fin (getAll (fieldsOf 7) (dk 7, false, t))).2]) ∧ Below w.heap.size w w'
      rw [hc]
      rw [dec7] at hc ⊢
      by_cases ht : t.length = 48
      · rw [if_pos ht] at hc ⊢
        have e0 : (str (74 :: 48 :: 49 :: k :: t)).extract 20 52 = str ((t.drop 16).take 32) := ex4 k t 16 48
        have H := rdec_7 (str (74 :: 48 :: 49 :: k :: t)) w (by rw [hss]; omega) hk hj _ (hn 4 4 rfl (by omega)) _ (hn 12 12 rfl (by omega))
        rw [e0] at H
        exact H
      · rw [if_neg ht] at hc
        cases hc
  · rw [dec_err l hc]
    exact rdec_bad l w hc
end Go.Proofs.YtniabkphbnimaaaGreatDoor.Sh
namespace Go.Proofs.YtniabkphbnimaaaGreatDoor.Sh
open Go Go.RowKit Go.Maps Go.Proofs.YtniabkphbnimaaaGreatDoorW.PrintWords Go.Proofs.YtniabkphbnimaaaGreatDoorW.PrintLast Go.Proofs.YtniabkphbnimaaaGreatDoor.Bs
/-- Does each field that the kind has fit its place? -/
def fitP (d : Dg) : Prop := (d.kind ≤ 4 → d.nonce.size = 16) ∧ ((d.kind = 2 ∨ d.kind = 3) → d.cookie.size = 32) ∧ (d.kind = 3 → d.name.size ≤ 255) ∧ (d.kind = 4 → d.salt.size = 16 ∧ 0 ≤ d.player ∧ d.player ≤ 255) ∧ (d.kind = 5 → -128 ≤ d.thr ∧ d.thr ≤ 127 ∧ -128 ≤ d.trn ∧ d.trn ≤ 127) ∧ (3 ≤ d.kind → d.tag.size = 32)
instance (d : Dg) : Decidable (fitP d) := by unfold fitP; exact inferInstance
end Go.Proofs.YtniabkphbnimaaaGreatDoor.Sh
namespace Go.Proofs.YtniabkphbnimaaaGreatDoor.Sh
open Go Go.RowKit Go.Maps Go.Proofs.YtniabkphbnimaaaGreatDoorW.PrintWords Go.Proofs.YtniabkphbnimaaaGreatDoorW.PrintLast Go.Proofs.YtniabkphbnimaaaGreatDoor.Bs
def T_15_2 : Bool × List (List Nat × List Nat) := (true, [([], []), ([0], [0]), ([1], [1]), ([2], [2]), ([2], [2]), ([4, 2], [2, 4]), ([3, 5, 2], [2, 3, 5]), ([2], [2]), ([2], [2]), ([7, 8, 2, 2], [2, 7, 8]), ([6, 9, 2], [2, 6, 9]), ([2, 10], [2, 10]), ([11, 9, 0, 1, 2, 3, 4, 5, 6, 7, 8, 9, 10, 11], [11])])
def B_15_2 : List Nat := [0, 1, 3, 7, 7, 23, 63, 7, 7, 391, 1023, 2047, 4095]
theorem tab_f15_2 : rtab .any (opsOf Tryz.f15 2) = T_15_2 := by kernel_rfl
theorem bits_f15_2 : waitsOk T_15_2.2 B_15_2 = true := by kernel_rfl
theorem streq_yields {P : Program} {o : Oper} {a : Act} (t t2 : TypeId) (x y : Operand) (ho : o.op = .binOp .eql t x y t2) (s r : ByteArray) (hx : a.eval x = .string s) (hy : a.eval y = .string r) (b : Bool) (hb : (s.toList == r.toList) = b) (w : World) :
    (execOp a.eval o).run P w = .ok (.value (.bool b)) w := by
  subst hb
  unfold execOp
  simp [ho, hx, hy, Sem.run_bind, eqGuard, binOp, Op.stringOp]
set_option maxHeartbeats 8000000 in
set_option maxRecDepth 100000 in
theorem rsealed_calls (l : List UInt8) (k : ByteArray) (w : World) (hg : GR w) (hl : l.length < 274877906944) (hk : k.size < 274877906944) : Calls Tryz.prog 15 #[.string (str l), .string k] w fun e w' => e = .returned (.bool (sealedB l (bl k))) ∧ Below w.heap.size w w' := by
  have HG := Aside0.mk hg
  have HK := Aside0.mk hk
  have HL := Aside0.mk hl
  obtain ⟨t, et⟩ : ∃ t, t = str l := ⟨_, rfl⟩
  have hts : t.size = l.length := by rw [et]; rfl
  obtain ⟨b, eb⟩ : ∃ b, b = str (bodyB l) := ⟨_, rfl⟩
  have hbs : b.size = (bodyB l).length := by rw [eb]; rfl
  rw [← et]
  have BC := Aside0.mk (show ∀ w, Calls Tryz.prog 13 #[.string t] w fun e w' => e = .returned (.string b) ∧ Below w.heap.size w w' from fun w => by rw [et, eb]; exact rbody_calls l (by omega) w)
  by_cases hb : bodyB l = []
  · have o1 : b.toList = [] := by rw [eb, hb]; exact str_list []
    have o2 : b.toList.isEmpty = true := by rw [o1]; rfl
    have ES := Aside0.mk (show sealedB l (bl k) = false from decide_eq_false (fun h => h.1 hb))
    clear et eb hts hbs hb hg hk hl
    go_enter Tryz.func15, Tryz.ntmps15
    go_wp2_with (go_at_call 13; (with_reducible refine (BC.out w).mono ?_); rintro e w1 ⟨rfl, hb1⟩; have HB1 := Aside0.mk hb1; clear hb1)
    refine start_ (n := 13) (S := fun w' => True) (ds := []) #[false, false, false, false, false, false, false, false, false, false, false, false, false] (by kernel_rfl) rfl rfl trivial (fun hHeld => ?_)
    refine with_tabW tab_f15_2 bits_f15_2 (fun HT_ HW_ => ?_)
    refine pure_ (i := 0) (N := some 8) (v := ?_) (a' := ?_) #[true, false, false, false, false, false, false, false, false, false, false, false, false] rfl rfl (any_of HT_.out (by kernel_rfl)) (fun _ _ _ h => h) (Or.inl ⟨by rfl, ?_⟩) ?_ ?_
    rotate_left
    · intro w'
      go_simp
      with_reducible rfl
    rotate_left
    · simp only [Act.put, List.setIfInBounds_toArray, List.set_cons_zero, List.set_cons_succ, i64_w, i32_w]
      rfl
    refine pure_ (i := 1) (N := some 9) (v := ?_) (a' := ?_) #[true, true, false, false, false, false, false, false, false, false, false, false, false] rfl rfl (any_of HT_.out (by kernel_rfl)) (fun _ _ _ h => h) (Or.inl ⟨by rfl, ?_⟩) ?_ ?_
    rotate_left
    · intro w'
      go_simp
      with_reducible rfl
    rotate_left
    · simp only [Act.put, List.setIfInBounds_toArray, List.set_cons_zero, List.set_cons_succ, i64_w, i32_w]
      rfl
    refine pure_ (i := 2) (N := some 10) (v := ?_) (a' := ?_) #[true, true, true, false, false, false, false, false, false, false, false, false, false] rfl rfl (any_of HT_.out (by kernel_rfl)) (fun _ _ _ h => h) (Or.inl ⟨by rfl, ?_⟩) ?_ ?_
    rotate_left
    · intro w'
      go_simp
      with_reducible rfl
    rotate_left
    · simp only [Act.put, List.setIfInBounds_toArray, List.set_cons_zero, List.set_cons_succ, i64_w, i32_w]
      rfl
    refine pure_ (i := 3) (N := some 11) (v := undef) (a' := ?_) #[true, true, true, true, false, false, false, false, false, false, false, false, false] rfl rfl (any_of HT_.out (by kernel_rfl)) (fun _ _ _ h => h) (Or.inr ⟨by rfl, rfl⟩) ?_ ?_
    rotate_left
    · simp only [Act.put, List.setIfInBounds_toArray, List.set_cons_zero, List.set_cons_succ, i64_w, i32_w]
      rfl
    refine pure_ (i := 4) (N := some 12) (v := undef) (a' := ?_) #[true, true, true, true, true, false, false, false, false, false, false, false, false] rfl rfl (any_of HT_.out (by kernel_rfl)) (fun _ _ _ h => h) (Or.inr ⟨by rfl, rfl⟩) ?_ ?_
    rotate_left
    · simp only [Act.put, List.setIfInBounds_toArray, List.set_cons_zero, List.set_cons_succ, i64_w, i32_w]
      rfl
    refine pure_ (i := 5) (N := some 13) (v := undef) (a' := ?_) #[true, true, true, true, true, true, false, false, false, false, false, false, false] rfl rfl (any_of HT_.out (by kernel_rfl)) (fun _ _ _ h => h) (Or.inr ⟨by rfl, rfl⟩) ?_ ?_
    rotate_left
    · simp only [Act.put, List.setIfInBounds_toArray, List.set_cons_zero, List.set_cons_succ, i64_w, i32_w]
      rfl
    refine pure_ (i := 6) (N := some 14) (v := undef) (a' := ?_) #[true, true, true, true, true, true, true, false, false, false, false, false, false] rfl rfl (any_of HT_.out (by kernel_rfl)) (fun _ _ _ h => h) (Or.inr ⟨by rfl, rfl⟩) ?_ ?_
    rotate_left
    · simp only [Act.put, List.setIfInBounds_toArray, List.set_cons_zero, List.set_cons_succ, i64_w, i32_w]
      rfl
    refine pure_ (i := 7) (N := some 15) (v := undef) (a' := ?_) #[true, true, true, true, true, true, true, true, false, false, false, false, false] rfl rfl (any_of HT_.out (by kernel_rfl)) (fun _ _ _ h => h) (Or.inr ⟨by rfl, rfl⟩) ?_ ?_
    rotate_left
    · simp only [Act.put, List.setIfInBounds_toArray, List.set_cons_zero, List.set_cons_succ, i64_w, i32_w]
      rfl
    refine pure_ (i := 8) (N := some 16) (v := undef) (a' := ?_) #[true, true, true, true, true, true, true, true, true, false, false, false, false] rfl rfl (any_of HT_.out (by kernel_rfl)) (fun _ _ _ h => h) (Or.inr ⟨by rfl, rfl⟩) ?_ ?_
    rotate_left
    · simp only [Act.put, List.setIfInBounds_toArray, List.set_cons_zero, List.set_cons_succ, i64_w, i32_w]
      rfl
    refine pure_ (i := 9) (N := some 17) (v := undef) (a' := ?_) #[true, true, true, true, true, true, true, true, true, true, false, false, false] rfl rfl (any_of HT_.out (by kernel_rfl)) (fun _ _ _ h => h) (Or.inr ⟨by rfl, rfl⟩) ?_ ?_
    rotate_left
    · simp only [Act.put, List.setIfInBounds_toArray, List.set_cons_zero, List.set_cons_succ, i64_w, i32_w]
      rfl
    refine pure_ (i := 10) (N := some 18) (v := undef) (a' := ?_) #[true, true, true, true, true, true, true, true, true, true, true, false, false] rfl rfl (any_of HT_.out (by kernel_rfl)) (fun _ _ _ h => h) (Or.inr ⟨by rfl, rfl⟩) ?_ ?_
    rotate_left
    · simp only [Act.put, List.setIfInBounds_toArray, List.set_cons_zero, List.set_cons_succ, i64_w, i32_w]
      rfl
    refine pure_ (i := 11) (N := some 19) (v := ?_) (a' := ?_) #[true, true, true, true, true, true, true, true, true, true, true, true, false] rfl rfl (any_of HT_.out (by kernel_rfl)) (fun _ _ _ h => h) (Or.inl ⟨by rfl, ?_⟩) ?_ ?_
    rotate_left
    · intro w'
      go_simp
      with_reducible rfl
    rotate_left
    · simp only [Act.put, List.setIfInBounds_toArray, List.set_cons_zero, List.set_cons_succ, i64_w, i32_w]
      rfl
    refine pure_ (i := 12) (N := some 4) (v := ?_) (a' := ?_) #[true, true, true, true, true, true, true, true, true, true, true, true, true] rfl rfl (any_of HT_.out (by kernel_rfl)) (fun _ _ _ h => h) (Or.inl ⟨by rfl, ?_⟩) ?_ ?_
    rotate_left
    · intro w'
      go_simp
      with_reducible rfl
    rotate_left
    · simp only [Act.put, List.setIfInBounds_toArray, List.set_cons_zero, List.set_cons_succ, i64_w, i32_w]
      rfl
    refine done_ (done_of HT_.out (by kernel_rfl)) ?_
    clear HT_ HW_ hHeld
    go_wp2
    go_ret
    rw [ES.out]
    exact ⟨rfl, below_drew1 HB1.out⟩
  · have o1 : b.toList.isEmpty = false := by
      rw [eb, str_list]
      cases h : bodyB l with
      | nil => exact absurd h hb
      | cons x y => rfl
    have o2 : ¬ b.toList = [] := by rw [eb, str_list]; exact hb
    have o3 : b.size ≤ t.size := by rw [hbs, hts]; exact body_len l
    obtain ⟨m, em⟩ : ∃ m, m = str (hmac (bl k) (bodyB l)) := ⟨_, rfl⟩
    have TC := Aside0.mk (show ∀ w, GR w → Calls Tryz.prog 37 #[.string k, .string b] w fun e w' => e = .returned (.string m) ∧ Below w.heap.size w w' from fun w hg => by
      have h := rtag_calls k b w hg (by omega) (by rw [hbs]; exact Nat.lt_of_le_of_lt (body_len l) (by omega))
      rw [em]
      rw [show bl b = bodyB l by rw [eb]; rfl] at h
      exact h)
    have ES : sealedB l (bl k) = decide (l.drop (bodyB l).length = hmac (bl k) (bodyB l)) := decide_eq_decide.mpr ⟨fun h => h.2, fun h => ⟨hb, h⟩⟩
    have EQB := Aside0.mk (show ((t.extract b.size t.size).toList == m.toList) = sealedB l (bl k) from by
      rw [ES, em, hbs, et, str_drop, str_list, str_list]
      by_cases h : l.drop (bodyB l).length = hmac (bl k) (bodyB l)
      · rw [h, decide_eq_true rfl]
        exact beq_self_eq_true _
      · rw [decide_eq_false h]
        exact beq_eq_false_iff_ne.mpr h)
    clear ES
    clear et eb em hts hbs hb hg hk hl
    go_enter Tryz.func15, Tryz.ntmps15
    go_wp2_with (go_at_call 13; (with_reducible refine (BC.out w).mono ?_); rintro e w1 ⟨rfl, hb1⟩; have HB1 := Aside0.mk hb1; clear hb1)
    refine start_ (n := 13) (S := fun w' => True) (ds := []) #[false, false, false, false, false, false, false, false, false, false, false, false, false] (by kernel_rfl) rfl rfl trivial (fun hHeld => ?_)
    refine with_tabW tab_f15_2 bits_f15_2 (fun HT_ HW_ => ?_)
    refine pure_ (i := 0) (N := some 8) (v := ?_) (a' := ?_) #[true, false, false, false, false, false, false, false, false, false, false, false, false] rfl rfl (any_of HT_.out (by kernel_rfl)) (fun _ _ _ h => h) (Or.inl ⟨by rfl, ?_⟩) ?_ ?_
    rotate_left
    · intro w'
      go_simp
      with_reducible rfl
    rotate_left
    · simp only [Act.put, List.setIfInBounds_toArray, List.set_cons_zero, List.set_cons_succ, i64_w, i32_w]
      rfl
    refine pure_ (i := 1) (N := some 9) (v := ?_) (a' := ?_) #[true, true, false, false, false, false, false, false, false, false, false, false, false] rfl rfl (any_of HT_.out (by kernel_rfl)) (fun _ _ _ h => h) (Or.inl ⟨by rfl, ?_⟩) ?_ ?_
    rotate_left
    · intro w'
      go_simp
      with_reducible rfl
    rotate_left
    · simp only [Act.put, List.setIfInBounds_toArray, List.set_cons_zero, List.set_cons_succ, i64_w, i32_w]
      rfl
    refine pure_ (i := 2) (N := some 10) (v := ?_) (a' := ?_) #[true, true, true, false, false, false, false, false, false, false, false, false, false] rfl rfl (any_of HT_.out (by kernel_rfl)) (fun _ _ _ h => h) (Or.inl ⟨by rfl, ?_⟩) ?_ ?_
    rotate_left
    · intro w'
      go_simp
      with_reducible rfl
    rotate_left
    · simp only [Act.put, List.setIfInBounds_toArray, List.set_cons_zero, List.set_cons_succ, i64_w, i32_w]
      rfl
    refine pure_ (i := 3) (N := some 11) (v := ?_) (a' := ?_) #[true, true, true, true, false, false, false, false, false, false, false, false, false] rfl rfl (any_of HT_.out (by kernel_rfl)) (fun _ _ _ h => h) (Or.inl ⟨by rfl, ?_⟩) ?_ ?_
    rotate_left
    · intro w'
      go_simp
      with_reducible rfl
    rotate_left
    · simp only [Act.put, List.setIfInBounds_toArray, List.set_cons_zero, List.set_cons_succ, i64_w, i32_w]
      rfl
    refine pure_ (i := 4) (N := some 12) (v := ?_) (a' := ?_) #[true, true, true, true, true, false, false, false, false, false, false, false, false] rfl rfl (any_of HT_.out (by kernel_rfl)) (fun _ _ _ h => h) (Or.inl ⟨by rfl, ?_⟩) ?_ ?_
    rotate_left
    · intro w'
      go_simp
      with_reducible rfl
    rotate_left
    · simp only [Act.put, List.setIfInBounds_toArray, List.set_cons_zero, List.set_cons_succ, i64_w, i32_w]
      rfl
    refine pure_ (i := 5) (N := some 13) (v := ?_) (a' := ?_) #[true, true, true, true, true, true, false, false, false, false, false, false, false] rfl rfl (any_of HT_.out (by kernel_rfl)) (fun _ _ _ h => h) (Or.inl ⟨by rfl, ?_⟩) ?_ ?_
    rotate_left
    · intro w'
      go_simp
      with_reducible rfl
    rotate_left
    · simp only [Act.put, List.setIfInBounds_toArray, List.set_cons_zero, List.set_cons_succ, i64_w, i32_w]
      rfl
    refine pure_ (i := 6) (N := some 14) (v := ?_) (a' := ?_) #[true, true, true, true, true, true, true, false, false, false, false, false, false] rfl rfl (any_of HT_.out (by kernel_rfl)) (fun _ _ _ h => h) (Or.inl ⟨by rfl, ?_⟩) ?_ ?_
    rotate_left
    · intro w'
      go_simp
      with_reducible rfl
    rotate_left
    · simp only [Act.put, List.setIfInBounds_toArray, List.set_cons_zero, List.set_cons_succ, i64_w, i32_w]
      rfl
    refine pure_ (i := 7) (N := some 15) (v := ?_) (a' := ?_) #[true, true, true, true, true, true, true, true, false, false, false, false, false] rfl rfl (any_of HT_.out (by kernel_rfl)) (fun _ _ _ h => h) (Or.inl ⟨by rfl, ?_⟩) ?_ ?_
    rotate_left
    · intro w'
      go_simp
      with_reducible rfl
    rotate_left
    · simp only [Act.put, List.setIfInBounds_toArray, List.set_cons_zero, List.set_cons_succ, i64_w, i32_w]
      rfl
    refine pure_ (i := 8) (N := some 16) (v := ?_) (a' := ?_) #[true, true, true, true, true, true, true, true, true, false, false, false, false] rfl rfl (any_of HT_.out (by kernel_rfl)) (fun _ _ _ h => h) (Or.inl ⟨by rfl, ?_⟩) ?_ ?_
    rotate_left
    · intro w'
      go_simp
      with_reducible rfl
    rotate_left
    · simp only [Act.put, List.setIfInBounds_toArray, List.set_cons_zero, List.set_cons_succ, i64_w, i32_w]
      rfl
    refine one_ (i := 9) (N := some 17) #[true, true, true, true, true, true, true, true, true, true, false, false, false] rfl rfl (one_of HT_.out (by kernel_rfl)) (by decide) (fun K hK => ?_)
    refine goes_ Tryz.func37 (by kernel_rfl) rfl #[.string k, .string b] (by rfl) rfl rfl (by (try simp only [List.map_toArray, List.map_cons, List.map_nil]); first | done | rfl) ?_
    with_reducible refine (TC.out _ (GR.below HG.out (below_drew1 HB1.out))).mono ?_
    rintro e w2 ⟨rfl, hb2⟩
    refine ⟨_, rfl, ?_⟩
    have HB2 := Aside0.mk (show Below w.heap.size w w2 from (below_drew1 HB1.out).trans (hb2.mono HB1.out.size))
    refine hK.out _ _ trivial (fun hHeld => ?_)
    clear hK K
    refine norm_ (a' := ?_) ?_ ?_
    rotate_left
    · show Act.put _ (some 17) _ = _
      simp only [Act.put, List.setIfInBounds_toArray, List.set_cons_zero, List.set_cons_succ, i64_w, i32_w]
      rfl
    refine pure_ (i := 10) (N := some 18) (a' := ?_) #[true, true, true, true, true, true, true, true, true, true, true, false, false] rfl rfl (any_of HT_.out (by kernel_rfl)) (fun _ _ _ h => h) (Or.inl ⟨by rfl, streq_yields _ _ _ _ (by rfl) _ _ (by rfl) (by rfl) (sealedB l (bl k)) EQB.out⟩) ?_ ?_
    rotate_left
    · simp only [Act.put, List.setIfInBounds_toArray, List.set_cons_zero, List.set_cons_succ, i64_w, i32_w]
      rfl
    refine pure_ (i := 11) (N := some 19) (v := ?_) (a' := ?_) #[true, true, true, true, true, true, true, true, true, true, true, true, false] rfl rfl (any_of HT_.out (by kernel_rfl)) (fun _ _ _ h => h) (Or.inl ⟨by rfl, ?_⟩) ?_ ?_
    rotate_left
    · intro w'
      go_simp
      with_reducible rfl
    rotate_left
    · simp only [Act.put, List.setIfInBounds_toArray, List.set_cons_zero, List.set_cons_succ, i64_w, i32_w]
      rfl
    refine pure_ (i := 12) (N := some 4) (v := ?_) (a' := ?_) #[true, true, true, true, true, true, true, true, true, true, true, true, true] rfl rfl (any_of HT_.out (by kernel_rfl)) (fun _ _ _ h => h) (Or.inl ⟨by rfl, ?_⟩) ?_ ?_
    rotate_left
    · intro w'
      go_simp
      with_reducible rfl
    rotate_left
    · simp only [Act.put, List.setIfInBounds_toArray, List.set_cons_zero, List.set_cons_succ, i64_w, i32_w]
      rfl
    refine done_ (done_of HT_.out (by kernel_rfl)) ?_
    clear HT_ HW_ hHeld
    go_wp2
    go_ret
    exact ⟨rfl, HB2.out⟩
end Go.Proofs.YtniabkphbnimaaaGreatDoor.Sh
namespace Go.Proofs.YtniabkphbnimaaaGreatDoor.Sh
open Go Go.RowKit Go.Maps Go.Proofs.YtniabkphbnimaaaGreatDoorW.PrintWords Go.Proofs.YtniabkphbnimaaaGreatDoorW.PrintLast Go.Proofs.YtniabkphbnimaaaGreatDoor.Bs
theorem times_l (c : UInt8) (n : Nat) (hn : n < 4611686018427387904) : ∀ (m i k : Nat), m = n - i → i ≤ n → m < k →
    QQA.joustlaw07_times.l0 k (c.toNat : Int) (n : Int) (List.replicate i (c.toNat : Int) ++ List.replicate (n - i) 0) (i : Int) = some (strOfNums (List.replicate n (c.toNat : Int))) := by
  intro m
  induction m with
  | zero =>
    intro i k hm hi hk
    obtain ⟨k, rfl⟩ : ∃ j, k = j + 1 := ⟨k - 1, by omega⟩
    have : i = n := by omega
    subst this
    unfold QQA.joustlaw07_times.l0
    rw [if_neg (by omega)]
    simp
  | succ m ih =>
    intro i k hm hi hk
    obtain ⟨k, rfl⟩ : ∃ j, k = j + 1 := ⟨k - 1, by omega⟩
    have hz : wrap64 ((i : Int) + 1) = ((i + 1 : Nat) : Int) := by unfold wrap64; omega
    unfold QQA.joustlaw07_times.l0
    rw [if_pos (by omega), if_pos (by omega), if_pos (by simp; omega), hz]
    have e : (List.replicate i (c.toNat : Int) ++ List.replicate (n - i) 0).set ((i : Int)).toNat (c.toNat : Int) = List.replicate (i + 1) (c.toNat : Int) ++ List.replicate (n - (i + 1)) 0 := by
      rw [Int.toNat_natCast, List.set_append_right _ _ (by simp), List.length_replicate, Nat.sub_self, show n - i = (n - (i + 1)) + 1 by omega, List.replicate_succ, List.set_cons_zero, List.replicate_succ' (n := i), List.append_assoc]
      rfl
    rw [e]
    exact ih (i + 1) k (by omega) (by omega) (by omega)
theorem strOf_rep (c : UInt8) (n : Nat) : strOfNums (List.replicate n (c.toNat : Int)) = str (List.replicate n c) := by
  unfold strOfNums str
  simp
theorem times_f (c : UInt8) (n : Nat) (hn : n ≤ 281474976710656) : QQA.joustlaw07_times.f (n + 1) (c.toNat : Int) (n : Int) = some (str (List.replicate n c)) := by
  unfold QQA.joustlaw07_times.f
  rw [if_pos (by omega), if_pos (by omega)]
  have := times_l c n (by omega) n 0 (n + 1) (by omega) (by omega) (by omega)
  rw [strOf_rep] at this
  simpa using this
theorem times_calls (c : UInt8) (ci : Int) (hc : ci = (c.toNat : Int)) (n : Nat) (ni : Int) (hni : ni = (n : Int)) (hn : n ≤ 281474976710656) (w : World) : Calls Tryz.prog 21 #[.int .u8 ci, .int .i64 ni] w fun e w' => e = .returned (.string (str (List.replicate n c))) ∧ Below w.heap.size w w' := by
  subst hc hni
  exact (QQA.joustlaw07_times.calls _ _ _ _ w (times_f c n hn)).mono fun e w' hh => ⟨hh.1, hh.2⟩
def bA : List UInt8 := [74, 48, 49, 5, 0, 0, 0, 0, 0, 0, 0, 1, 0, 0, 0, 0, 0, 0, 0, 2, 255, 5, 1]
def tA : List UInt8 := List.replicate 32 116
def dA : Dg := ⟨5, ⟨#[]⟩, 0, ⟨#[]⟩, ⟨#[]⟩, 1, 0, ⟨#[]⟩, 2, -1, 5, true, false, ⟨#[]⟩, str tA⟩
def hA : List UInt8 := hmac [107] bA
theorem hA_len : hA.length = 32 := length_sha _
theorem enc_A : enc dA = (str (bA ++ tA), 0) := by kernel_rfl
theorem body_A (m : List UInt8) (hm : m.length = 32) : bodyB (bA ++ m) = bA := by
  have hl : (bA ++ m).length = 55 := by rw [List.length_append, hm]; rfl
  unfold bodyB
  rw [hl, if_pos ⟨rfl, by omega, by show 3 ≤ 5; omega, by show 5 ≤ 7; omega⟩]
  exact List.take_left (l₁ := bA) (l₂ := m)
theorem enc_A0 : enc { dA with tag := str (List.replicate 32 0) } = (str (bA ++ List.replicate 32 0), 0) := by kernel_rfl
theorem seal_A : sealB dA [107] = (str (bA ++ hA), 0) := by
  unfold sealB
  rw [if_pos (show 3 ≤ dA.kind ∧ dA.kind ≤ 7 by decide), enc_A0]
  rw [if_neg (show ¬ ((str (bA ++ List.replicate 32 (0 : UInt8)), (0 : Int)).2 ≠ 0) by simp)]
  show (str (bodyB (bA ++ List.replicate 32 0) ++ hmac [107] (bodyB (bA ++ List.replicate 32 0))), (0 : Int)) = _
  rw [body_A _ (by rw [List.length_replicate])]
  rfl
theorem dec_A : (dec (bA ++ hA)).1.seq = 2 ∧ (dec (bA ++ hA)).2 = 0 := by
  have hl := hA_len
  obtain ⟨t, et⟩ : ∃ t : List UInt8, t = [0, 0, 0, 0, 0, 0, 0, 1, 0, 0, 0, 0, 0, 0, 0, 2, 255, 5, 1] ++ hA := ⟨_, rfl⟩
  have e : bA ++ hA = 74 :: 48 :: 49 :: 5 :: t := by rw [et]; rfl
  have ht : t.length = 51 := by rw [et, List.length_append, hl]; rfl
  rw [e, dec_at 5 t (by simp only [List.length_cons]; omega) (by decide)]
  show (fin (getAll (fieldsOf 5) (dk 5, false, t))).1.seq = 2 ∧ _
  have h3 : ¬ 3 < (t.getD 18 0).toNat := by rw [et]; decide
  have hs : num ((t.drop 8).take 8) = 2 := by rw [et]; rfl
  have hd := dec5 t
  rw [if_pos ht, if_neg h3] at hd
  refine ⟨?_, ?_⟩
  · show (fin (getAll (fieldsOf 5) (dk 5, false, t))).1.seq = 2
    rw [hd]
    exact hs
  · show (fin (getAll (fieldsOf 5) (dk 5, false, t))).2 = 0
    rw [hd]
theorem seald_A (m k : List UInt8) (hm : m.length = 32) : sealedB (bA ++ m) k = decide (m = hmac k bA) := by
  unfold sealedB
  rw [body_A m hm]
  refine decide_eq_decide.mpr ⟨fun h => ?_, fun h => ⟨by decide, ?_⟩⟩
  · have := h.2
    rwa [List.drop_left] at this
  · rw [List.drop_left]
    exact h
theorem tags_0 : (hmac [107] bA).getD 0 0 ≠ (hmac [108] bA).getD 0 0 := by decide +kernel
theorem tags_1 : (hmac [107] bA).getD 0 0 ≠ 116 := by decide +kernel
theorem seald_1 : sealedB (bA ++ hA) [107] = true := by
  rw [seald_A _ _ hA_len]
  exact decide_eq_true rfl
theorem seald_2 : sealedB (bA ++ hA) [108] = false := by
  rw [seald_A _ _ hA_len]
  refine decide_eq_false (fun h => tags_0 ?_)
  exact congrArg (fun l : List UInt8 => l.getD 0 0) h
theorem seald_3 : sealedB (bA ++ tA) [107] = false := by
  rw [seald_A _ _ (by unfold tA; rw [List.length_replicate])]
  refine decide_eq_false (fun h => tags_1 ?_)
  have := congrArg (fun l : List UInt8 => l.getD 0 0) h
  exact this.symm
theorem dA_ok : dA.ok := by
  unfold Dg.ok
  decide
end Go.Proofs.YtniabkphbnimaaaGreatDoor.Sh
namespace Go.Proofs.YtniabkphbnimaaaGreatDoor.Sh
open Go Go.RowKit Go.Maps Go.Proofs.YtniabkphbnimaaaGreatDoorW.PrintWords Go.Proofs.YtniabkphbnimaaaGreatDoorW.PrintLast Go.Proofs.YtniabkphbnimaaaGreatDoor.Bs
def T_9_5 : Bool × List (List Nat × List Nat) := (true, [([], []), ([0], [0]), ([1], [1]), ([2], [2]), ([3], [3]), ([4, 3], [3, 4]), ([3, 5], [3, 5]), ([6, 3], [6]), ([7], [7]), ([8, 7], [7, 8]), ([7, 9], [7, 9]), ([10, 7], [10]), ([11], [11]), ([12, 11], [11, 12]), ([11, 13], [11, 13]), ([14, 11], [14]), ([15], [15]), ([15, 15], [15]), ([17, 15], [15, 17]), ([18, 15], [15, 18]), ([17, 15], [15]), ([19, 20, 15], [15, 19, 20]), ([21, 15], [15, 21]), ([20, 15], [15]), ([22, 23, 15], [15, 22, 23]), ([16, 24, 15], [15, 16, 24]), ([15, 25], [15, 25]), ([26, 23], [26]), ([27], [27]), ([28, 27], [27, 28]), ([29, 27], [27, 29]), ([27, 30], [27, 30]), ([31, 27], [31]), ([32], [32]), ([33, 32, 32], [32, 33]), ([32], [32]), ([35, 32], [32, 35]), ([34, 36, 32], [32, 34, 36]), ([32, 37], [32, 37]), ([38, 34], [38]), ([39], [39]), ([40, 39, 39], [39, 40]), ([39, 41], [39, 41]), ([42, 41], [42]), ([43], [43]), ([44, 43, 43], [43, 44]), ([45, 43], [43, 45]), ([43, 46], [43, 46]), ([47, 45], [47]), ([48], [48]), ([49, 48, 48], [48, 49]), ([50, 48], [48, 50]), ([48, 51], [48, 51]), ([52, 50, 0, 1, 2, 3, 4, 5, 6, 7, 8, 9, 10, 11, 12, 13, 14, 15, 16, 17, 18, 19, 20, 21, 22, 23, 24, 25, 26, 27, 28, 29, 30, 31, 32, 33, 34, 35, 36, 37, 38, 39, 40, 41, 42, 43, 44, 45, 46, 47, 48, 49, 50, 51, 52], [52])])
def B_9_5 : List Nat := [0, 1, 3, 7, 15, 31, 63, 127, 255, 511, 1023, 2047, 4095, 8191, 16383, 32767, 65535, 65535, 196607, 458751, 196607, 2031615, 4128767, 1245183, 16711679, 33554431, 67108863, 134217727, 268435455, 536870911, 1073741823, 2147483647, 4294967295, 8589934591, 17179869183, 8589934591, 42949672959, 137438953471, 274877906943, 549755813887, 1099511627775, 2199023255551, 4398046511103, 8796093022207, 17592186044415, 35184372088831, 70368744177663, 140737488355327, 281474976710655, 562949953421311, 1125899906842623, 2251799813685247, 4503599627370495, 9007199254740991]
theorem tab_f9_5 : rtab .any (opsOf Tryz.f9 5) = T_9_5 := by kernel_rfl
theorem bits_f9_5 : waitsOk T_9_5.2 B_9_5 = true := by kernel_rfl
set_option maxHeartbeats 8000000 in
set_option maxRecDepth 100000 in
theorem alive_calls (w : World) (hg : GL w) : Calls Tryz.prog 9 #[] w fun e w' => e = .returned (.bool true) ∧ Below w.heap.size w w' := by
  have HG := Aside0.mk hg
  obtain ⟨ta, eta⟩ : ∃ ta : List UInt8, ta = tA := ⟨_, rfl⟩
  have HTA := Aside0.mk (show ta.length = 32 by rw [eta]; rfl)
  obtain ⟨s, es⟩ : ∃ s, s = str (bA ++ tA) := ⟨_, rfl⟩
  obtain ⟨t, et⟩ : ∃ t, t = str (bA ++ hA) := ⟨_, rfl⟩
  obtain ⟨dB, edB⟩ : ∃ d : Dg, d = (dec (bA ++ hA)).1 := ⟨_, rfl⟩
  have TC32 := Aside0.mk (show ∀ w, Calls Tryz.prog 21 #[.int .u8 116, .int .i64 32] w fun e w' => e = .returned (.string (str ta)) ∧ Below w.heap.size w w' from fun w => by rw [eta]; exact times_calls 116 _ rfl 32 _ rfl (by omega) w)
  have TC7 := Aside0.mk (show ∀ w, Calls Tryz.prog 21 #[.int .u8 0, .int .i64 7] w fun e w' => e = .returned (.string (str [0, 0, 0, 0, 0, 0, 0])) ∧ Below w.heap.size w w' from fun w => times_calls 0 _ rfl 7 _ rfl (by omega) w)
  have EC := Aside0.mk (show ∀ w, Calls Tryz.prog 16 #[.agg dA.cells.toArray] w fun e w' => e = .returned (.tuple #[.string s, .int .i64 0]) ∧ Below w.heap.size w w' from fun w => by
    have h := encode_calls dA dA_ok (by decide) w
    rw [enc_A, ← es] at h
    exact h)
  have SC := Aside0.mk (show ∀ w, GL w → Calls Tryz.prog 18 #[.agg dA.cells.toArray, .string ⟨#[107]⟩] w fun e w' => e = .returned (.tuple #[.string t, .int .i64 0]) ∧ Below w.heap.size w w' from fun w hg => by
    have h := seal_calls dA ⟨#[107]⟩ w hg dA_ok (by decide) (by decide)
    rw [show sealB dA (bl ⟨#[107]⟩) = (str (bA ++ hA), 0) from seal_A, ← et] at h
    exact h)
  have DC := Aside0.mk (show ∀ w, Calls Tryz.prog 10 #[.string t] w fun e w' => e = .returned (.tuple #[.agg dB.cells.toArray, .int .i64 0]) ∧ Below w.heap.size w w' from fun w => by
    have h := decode_calls (bA ++ hA) w
    rw [dec_A.2, ← et, ← edB] at h
    exact h)
  have DAC := Aside0.mk (show Value.agg #[.int .i64 5, .string ⟨#[]⟩, .int .u64 0, .string ⟨#[]⟩, .string ⟨#[]⟩, .int .u64 1, .int .i64 0, .string ⟨#[]⟩, .int .u64 2, .int .i64 (-1), .int .i64 5, .bool true, .bool false, .string ⟨#[]⟩, .string (str ta)] = .agg dA.cells.toArray from by rw [eta]; rfl)
  have hts : s.size = 55 := by rw [es]; rfl
  have S8 := Aside0.mk (show dB.cells[8]? = some (.int .u64 2) from by
    show some (Value.int .u64 (dB.seq : Int)) = _
    rw [edB, dec_A.1]
    rfl)
  have BC := Aside0.mk (show ∀ w, Calls Tryz.prog 12 #[.string s] w fun e w' => e = .returned (.string (str bA)) ∧ Below w.heap.size w w' from fun w => by
    have h := body_calls (bA ++ tA) (by decide) w
    rw [body_A tA (by decide), ← es] at h
    exact h)
  have S1 := Aside0.mk (show ∀ w, GL w → Calls Tryz.prog 14 #[.string t, .string ⟨#[107]⟩] w fun e w' => e = .returned (.bool true) ∧ Below w.heap.size w w' from fun w hg => by
    have h := sealed_calls (bA ++ hA) ⟨#[107]⟩ w hg (by rw [List.length_append, hA_len]; decide) (by decide)
    rw [show sealedB (bA ++ hA) (bl ⟨#[107]⟩) = true from seald_1, ← et] at h
    exact h)
  have S2 := Aside0.mk (show ∀ w, GL w → Calls Tryz.prog 14 #[.string t, .string ⟨#[108]⟩] w fun e w' => e = .returned (.bool false) ∧ Below w.heap.size w w' from fun w hg => by
    have h := sealed_calls (bA ++ hA) ⟨#[108]⟩ w hg (by rw [List.length_append, hA_len]; decide) (by decide)
    rw [show sealedB (bA ++ hA) (bl ⟨#[108]⟩) = false from seald_2, ← et] at h
    exact h)
  have S3 := Aside0.mk (show ∀ w, GL w → Calls Tryz.prog 14 #[.string s, .string ⟨#[107]⟩] w fun e w' => e = .returned (.bool false) ∧ Below w.heap.size w w' from fun w hg => by
    have h := sealed_calls (bA ++ tA) ⟨#[107]⟩ w hg (by decide) (by decide)
    rw [show sealedB (bA ++ tA) (bl ⟨#[107]⟩) = false from seald_3, ← es] at h
    exact h)
  have EQ1 := Aside0.mk (show (s.toList == (str (((((([74, 48, 49, 5] : List UInt8) ++ [0, 0, 0, 0, 0, 0, 0]) ++ [1]) ++ [0, 0, 0, 0, 0, 0, 0]) ++ [2, 255, 5, 1]) ++ ta)).toList) = true from by
    rw [es, eta, str_list, str_list]
    exact beq_iff_eq.mpr rfl)
  have EQ2 := Aside0.mk (show ((str bA).toList == (s.extract 0 23).toList) = true from by
    rw [es, str_take, str_list, str_list]
    exact beq_iff_eq.mpr rfl)
  clear es et eta edB hg
  go_enter Tryz.func9, Tryz.ntmps9
  go_upto_region 4 with (first
    | (go_at_call 21; (with_reducible refine (TC32.out _).mono ?_); rintro e w1 ⟨rfl, hb1⟩; have HB := Aside0.mk hb1; clear hb1)
    | ((with_reducible first | refine at_alloc_ ?_ | refine at_alloc2_ ?_); refine wpList_alloc_v rfl 27 rfl Dg.zero.cells (by kernel_rfl) ?_; intro D w2 eD hD2 hb2 hz2; have HDD := Aside0.mk (show w.heap.size ≤ D from by have := eD.out; have := HB.out.size; omega); have n1_ := Aside0.mk (HB.out.trans (hb2.out.mono HB.out.size)); clear HB; have HB := n1_; clear n1_ hb2 hz2)
    | ((with_reducible first | refine at_store_ ?_ | refine at_store2_ ?_); refine wpList_store_agg rfl 27 _ _ rfl D 0 rfl dA.cells Dg.zero.cells (by exact DAC.out) _ hD2.out (by exact Nat.le_refl 15) (fun v hv => one_cells hv) (by kernel_rfl) ?_; intro w3 hD3 hm3 hz3; rw [splice_all Dg.zero.cells dA.cells rfl] at hD3; have HD := Aside0.mk hD3.out; have n1_ := Aside0.mk (toBelow' HB.out hm3.out HDD.out); clear HB; have HB := n1_; clear n1_ hD2 hD3 hm3 hz3)
    | ((with_reducible first | refine at_load_ ?_ | refine at_load2_ ?_); refine wpList_load_agg rfl 27 _ rfl D 0 rfl dA.cells (load_all HD.out) _ Tryz.underlying27 rfl (by kernel_rfl) ?_)
    | (go_at_call 16; (with_reducible refine (EC.out _).mono ?_); rintro e w4 ⟨rfl, hb4⟩; have n1_ := Aside0.mk (HB.out.trans (hb4.mono HB.out.size)); have n2_ := Aside0.mk ((hb4.block D (blk_lt HD.out)).trans HD.out); clear HB HD hb4; have HB := n1_; have HD := n2_; clear n1_ n2_)
    | (go_at_call 18; (with_reducible refine (SC.out _ (gl_below HG.out HB.out)).mono ?_); rintro e w5 ⟨rfl, hb5⟩; have n1_ := Aside0.mk (HB.out.trans (hb5.mono HB.out.size)); have n2_ := Aside0.mk ((hb5.block D (blk_lt HD.out)).trans HD.out); clear HB HD hb5; have HB := n1_; have HD := n2_; clear n1_ n2_))
  go_wp2_with (first
    | (go_at_call 10; (with_reducible refine (DC.out _).mono ?_); rintro e w6 ⟨rfl, hb6⟩; have n1_ := Aside0.mk (HB.out.trans (hb6.mono HB.out.size)); have n2_ := Aside0.mk ((hb6.block D (blk_lt HD.out)).trans HD.out); clear HB HD hb6; have HB := n1_; have HD := n2_; clear n1_ n2_)
    | ((with_reducible first | refine at_alloc_ ?_ | refine at_alloc2_ ?_); refine wpList_alloc_v rfl 27 rfl Dg.zero.cells (by kernel_rfl) ?_; intro E w7 eE hE7 hb7 hz7; have HEE := Aside0.mk (show w.heap.size ≤ E from by have := eE.out; have := HB.out.size; omega); have n1_ := Aside0.mk (HB.out.trans (hb7.out.mono HB.out.size)); clear HB; have HB := n1_; clear n1_ hb7 hz7)
    | ((with_reducible first | refine at_store_ ?_ | refine at_store2_ ?_); refine wpList_store_agg rfl 27 _ _ rfl E 0 rfl dB.cells Dg.zero.cells (by rfl) _ hE7.out (by exact Nat.le_refl 15) (fun v hv => one_cells hv) (by kernel_rfl) ?_; intro w8 hE8 hm8 hz8; rw [splice_all Dg.zero.cells dB.cells rfl] at hE8; have HE := Aside0.mk hE8.out; have n1_ := Aside0.mk (toBelow' HB.out hm8.out HEE.out); clear HB; have HB := n1_; clear n1_ hE7 hE8 hm8 hz8))
  refine start_ (n := 54) (S := fun w' => w'.cell? ⟨E, 8, none⟩ = some (.int .u64 2)) (ds := []) #[false, false, false, false, false, false, false, false, false, false, false, false, false, false, false, false, false, false, false, false, false, false, false, false, false, false, false, false, false, false, false, false, false, false, false, false, false, false, false, false, false, false, false, false, false, false, false, false, false, false, false, false, false, false] (by kernel_rfl) rfl rfl (cell_of HE.out S8.out) (fun hHeld => ?_)
  refine with_tabW tab_f9_5 bits_f9_5 (fun HT_ HW_ => ?_)
  refine pure_ (i := 0) (N := some 26) (v := ?_) (a' := ?_) #[true, false, false, false, false, false, false, false, false, false, false, false, false, false, false, false, false, false, false, false, false, false, false, false, false, false, false, false, false, false, false, false, false, false, false, false, false, false, false, false, false, false, false, false, false, false, false, false, false, false, false, false, false, false] rfl rfl (any_of HT_.out (by kernel_rfl)) (fun _ _ _ h => h) (Or.inl ⟨by rfl, ?_⟩) ?_ ?_
  rotate_left
  · intro w'
    go_simp
    with_reducible rfl
  rotate_left
  · simp only [Act.put, List.setIfInBounds_toArray, List.set_cons_zero, List.set_cons_succ, i64_w, i32_w]
    rfl
  refine pure_ (i := 1) (N := some 27) (v := ?_) (a' := ?_) #[true, true, false, false, false, false, false, false, false, false, false, false, false, false, false, false, false, false, false, false, false, false, false, false, false, false, false, false, false, false, false, false, false, false, false, false, false, false, false, false, false, false, false, false, false, false, false, false, false, false, false, false, false, false] rfl rfl (any_of HT_.out (by kernel_rfl)) (fun _ _ _ h => h) (Or.inl ⟨by rfl, ?_⟩) ?_ ?_
  rotate_left
  · intro w'
    go_simp
    with_reducible rfl
  rotate_left
  · simp only [Act.put, List.setIfInBounds_toArray, List.set_cons_zero, List.set_cons_succ, i64_w, i32_w]
    rfl
  refine pure_ (i := 2) (N := some 28) (v := ?_) (a' := ?_) #[true, true, true, false, false, false, false, false, false, false, false, false, false, false, false, false, false, false, false, false, false, false, false, false, false, false, false, false, false, false, false, false, false, false, false, false, false, false, false, false, false, false, false, false, false, false, false, false, false, false, false, false, false, false] rfl rfl (any_of HT_.out (by kernel_rfl)) (fun _ _ _ h => h) (Or.inl ⟨by rfl, ?_⟩) ?_ ?_
  rotate_left
  · intro w'
    go_simp
    with_reducible rfl
  rotate_left
  · simp only [Act.put, List.setIfInBounds_toArray, List.set_cons_zero, List.set_cons_succ, i64_w, i32_w]
    rfl
  refine pure_ (i := 3) (N := some 29) (v := ?_) (a' := ?_) #[true, true, true, true, false, false, false, false, false, false, false, false, false, false, false, false, false, false, false, false, false, false, false, false, false, false, false, false, false, false, false, false, false, false, false, false, false, false, false, false, false, false, false, false, false, false, false, false, false, false, false, false, false, false] rfl rfl (any_of HT_.out (by kernel_rfl)) (fun _ _ _ h => h) (Or.inl ⟨by rfl, ?_⟩) ?_ ?_
  rotate_left
  · intro w'
    go_simp
    with_reducible rfl
  rotate_left
  · simp only [Act.put, List.setIfInBounds_toArray, List.set_cons_zero, List.set_cons_succ, i64_w, i32_w]
    rfl
  refine pure_ (i := 4) (N := some 30) (v := ?_) (a' := ?_) #[true, true, true, true, true, false, false, false, false, false, false, false, false, false, false, false, false, false, false, false, false, false, false, false, false, false, false, false, false, false, false, false, false, false, false, false, false, false, false, false, false, false, false, false, false, false, false, false, false, false, false, false, false, false] rfl rfl (any_of HT_.out (by kernel_rfl)) (fun _ _ _ h => h) (Or.inl ⟨by rfl, ?_⟩) ?_ ?_
  rotate_left
  · intro w'
    go_simp
    with_reducible rfl
  rotate_left
  · simp only [Act.put, List.setIfInBounds_toArray, List.set_cons_zero, List.set_cons_succ, i64_w, i32_w]
    rfl
  refine pure_ (i := 5) (N := some 31) (v := ?_) (a' := ?_) #[true, true, true, true, true, true, false, false, false, false, false, false, false, false, false, false, false, false, false, false, false, false, false, false, false, false, false, false, false, false, false, false, false, false, false, false, false, false, false, false, false, false, false, false, false, false, false, false, false, false, false, false, false, false] rfl rfl (any_of HT_.out (by kernel_rfl)) (fun _ _ _ h => h) (Or.inl ⟨by rfl, ?_⟩) ?_ ?_
  rotate_left
  · intro w'
    go_simp
    with_reducible rfl
  rotate_left
  · simp only [Act.put, List.setIfInBounds_toArray, List.set_cons_zero, List.set_cons_succ, i64_w, i32_w]
    rfl
  refine pure_ (i := 6) (N := some 32) (v := ?_) (a' := ?_) #[true, true, true, true, true, true, true, false, false, false, false, false, false, false, false, false, false, false, false, false, false, false, false, false, false, false, false, false, false, false, false, false, false, false, false, false, false, false, false, false, false, false, false, false, false, false, false, false, false, false, false, false, false, false] rfl rfl (any_of HT_.out (by kernel_rfl)) (fun _ _ _ h => h) (Or.inl ⟨by rfl, ?_⟩) ?_ ?_
  rotate_left
  · intro w'
    go_simp
    with_reducible rfl
  rotate_left
  · simp only [Act.put, List.setIfInBounds_toArray, List.set_cons_zero, List.set_cons_succ, i64_w, i32_w]
    rfl
  refine pure_ (i := 7) (N := some 33) (v := ?_) (a' := ?_) #[true, true, true, true, true, true, true, true, false, false, false, false, false, false, false, false, false, false, false, false, false, false, false, false, false, false, false, false, false, false, false, false, false, false, false, false, false, false, false, false, false, false, false, false, false, false, false, false, false, false, false, false, false, false] rfl rfl (any_of HT_.out (by kernel_rfl)) (fun _ _ _ h => h) (Or.inl ⟨by rfl, ?_⟩) ?_ ?_
  rotate_left
  · intro w'
    go_simp
    with_reducible rfl
  rotate_left
  · simp only [Act.put, List.setIfInBounds_toArray, List.set_cons_zero, List.set_cons_succ, i64_w, i32_w]
    rfl
  refine pure_ (i := 8) (N := some 34) (v := ?_) (a' := ?_) #[true, true, true, true, true, true, true, true, true, false, false, false, false, false, false, false, false, false, false, false, false, false, false, false, false, false, false, false, false, false, false, false, false, false, false, false, false, false, false, false, false, false, false, false, false, false, false, false, false, false, false, false, false, false] rfl rfl (any_of HT_.out (by kernel_rfl)) (fun _ _ _ h => h) (Or.inl ⟨by rfl, ?_⟩) ?_ ?_
  rotate_left
  · intro w'
    go_simp
    with_reducible rfl
  rotate_left
  · simp only [Act.put, List.setIfInBounds_toArray, List.set_cons_zero, List.set_cons_succ, i64_w, i32_w]
    rfl
  refine pure_ (i := 9) (N := some 35) (v := ?_) (a' := ?_) #[true, true, true, true, true, true, true, true, true, true, false, false, false, false, false, false, false, false, false, false, false, false, false, false, false, false, false, false, false, false, false, false, false, false, false, false, false, false, false, false, false, false, false, false, false, false, false, false, false, false, false, false, false, false] rfl rfl (any_of HT_.out (by kernel_rfl)) (fun _ _ _ h => h) (Or.inl ⟨by rfl, ?_⟩) ?_ ?_
  rotate_left
  · intro w'
    go_simp
    with_reducible rfl
  rotate_left
  · simp only [Act.put, List.setIfInBounds_toArray, List.set_cons_zero, List.set_cons_succ, i64_w, i32_w]
    rfl
  refine pure_ (i := 10) (N := some 36) (v := ?_) (a' := ?_) #[true, true, true, true, true, true, true, true, true, true, true, false, false, false, false, false, false, false, false, false, false, false, false, false, false, false, false, false, false, false, false, false, false, false, false, false, false, false, false, false, false, false, false, false, false, false, false, false, false, false, false, false, false, false] rfl rfl (any_of HT_.out (by kernel_rfl)) (fun _ _ _ h => h) (Or.inl ⟨by rfl, ?_⟩) ?_ ?_
  rotate_left
  · intro w'
    go_simp
    with_reducible rfl
  rotate_left
  · simp only [Act.put, List.setIfInBounds_toArray, List.set_cons_zero, List.set_cons_succ, i64_w, i32_w]
    rfl
  refine pure_ (i := 11) (N := some 37) (v := ?_) (a' := ?_) #[true, true, true, true, true, true, true, true, true, true, true, true, false, false, false, false, false, false, false, false, false, false, false, false, false, false, false, false, false, false, false, false, false, false, false, false, false, false, false, false, false, false, false, false, false, false, false, false, false, false, false, false, false, false] rfl rfl (any_of HT_.out (by kernel_rfl)) (fun _ _ _ h => h) (Or.inl ⟨by rfl, ?_⟩) ?_ ?_
  rotate_left
  · intro w'
    go_simp
    with_reducible rfl
  rotate_left
  · simp only [Act.put, List.setIfInBounds_toArray, List.set_cons_zero, List.set_cons_succ, i64_w, i32_w]
    rfl
  refine pure_ (i := 12) (N := some 38) (v := ?_) (a' := ?_) #[true, true, true, true, true, true, true, true, true, true, true, true, true, false, false, false, false, false, false, false, false, false, false, false, false, false, false, false, false, false, false, false, false, false, false, false, false, false, false, false, false, false, false, false, false, false, false, false, false, false, false, false, false, false] rfl rfl (any_of HT_.out (by kernel_rfl)) (fun _ _ _ h => h) (Or.inl ⟨by rfl, ?_⟩) ?_ ?_
  rotate_left
  · intro w'
    go_simp
    with_reducible rfl
  rotate_left
  · simp only [Act.put, List.setIfInBounds_toArray, List.set_cons_zero, List.set_cons_succ, i64_w, i32_w]
    rfl
  refine pure_ (i := 13) (N := some 39) (v := ?_) (a' := ?_) #[true, true, true, true, true, true, true, true, true, true, true, true, true, true, false, false, false, false, false, false, false, false, false, false, false, false, false, false, false, false, false, false, false, false, false, false, false, false, false, false, false, false, false, false, false, false, false, false, false, false, false, false, false, false] rfl rfl (any_of HT_.out (by kernel_rfl)) (fun _ _ _ h => h) (Or.inl ⟨by rfl, ?_⟩) ?_ ?_
  rotate_left
  · intro w'
    go_simp
    with_reducible rfl
  rotate_left
  · simp only [Act.put, List.setIfInBounds_toArray, List.set_cons_zero, List.set_cons_succ, i64_w, i32_w]
    rfl
  refine pure_ (i := 14) (N := some 40) (v := ?_) (a' := ?_) #[true, true, true, true, true, true, true, true, true, true, true, true, true, true, true, false, false, false, false, false, false, false, false, false, false, false, false, false, false, false, false, false, false, false, false, false, false, false, false, false, false, false, false, false, false, false, false, false, false, false, false, false, false, false] rfl rfl (any_of HT_.out (by kernel_rfl)) (fun _ _ _ h => h) (Or.inl ⟨by rfl, ?_⟩) ?_ ?_
  rotate_left
  · intro w'
    go_simp
    with_reducible rfl
  rotate_left
  · simp only [Act.put, List.setIfInBounds_toArray, List.set_cons_zero, List.set_cons_succ, i64_w, i32_w]
    rfl
  refine pure_ (i := 15) (N := some 41) (v := ?_) (a' := ?_) #[true, true, true, true, true, true, true, true, true, true, true, true, true, true, true, true, false, false, false, false, false, false, false, false, false, false, false, false, false, false, false, false, false, false, false, false, false, false, false, false, false, false, false, false, false, false, false, false, false, false, false, false, false, false] rfl rfl (any_of HT_.out (by kernel_rfl)) (fun _ _ _ h => h) (Or.inl ⟨by rfl, ?_⟩) ?_ ?_
  rotate_left
  · intro w'
    go_simp
    with_reducible rfl
  rotate_left
  · simp only [Act.put, List.setIfInBounds_toArray, List.set_cons_zero, List.set_cons_succ, i64_w, i32_w]
    rfl
  refine pure_ (i := 16) (N := some 42) (v := ?_) (a' := ?_) #[true, true, true, true, true, true, true, true, true, true, true, true, true, true, true, true, true, false, false, false, false, false, false, false, false, false, false, false, false, false, false, false, false, false, false, false, false, false, false, false, false, false, false, false, false, false, false, false, false, false, false, false, false, false] rfl rfl (any_of HT_.out (by kernel_rfl)) (fun _ _ _ h => h) (Or.inl ⟨by rfl, ?_⟩) ?_ ?_
  rotate_left
  · intro w'
    go_simp
    with_reducible rfl
  rotate_left
  · simp only [Act.put, List.setIfInBounds_toArray, List.set_cons_zero, List.set_cons_succ, i64_w, i32_w]
    rfl
  refine one_ (i := 17) (N := some 43) #[true, true, true, true, true, true, true, true, true, true, true, true, true, true, true, true, true, true, false, false, false, false, false, false, false, false, false, false, false, false, false, false, false, false, false, false, false, false, false, false, false, false, false, false, false, false, false, false, false, false, false, false, false, false] rfl rfl (one_of HT_.out (by kernel_rfl)) (by decide) (fun K hK => ?_)
  refine goes_ Tryz.func21 (by kernel_rfl) rfl #[.int .u8 0, .int .i64 7] (by rfl) rfl rfl (by (try simp only [List.map_toArray, List.map_cons, List.map_nil]); first | done | rfl) ?_
  with_reducible refine (TC7.out _).mono ?_
  rintro e w9 ⟨rfl, hb9⟩
  refine ⟨_, rfl, ?_⟩
  have n1_ := Aside0.mk ((show Below w.heap.size w _ from by first | exact HB.out | exact below_drew1 HB.out).trans (hb9.mono HB.out.size)); have n2_ := Aside0.mk ((hb9.block E (blk_lt HE.out)).trans HE.out); clear HB HE hb9; have HB := n1_; have HE := n2_; clear n1_ n2_
  refine hK.out _ _ (cell_of HE.out S8.out) (fun hHeld => ?_)
  clear hK K
  refine norm_ (a' := ?_) ?_ ?_
  rotate_left
  · show Act.put _ (some 43) _ = _
    simp only [Act.put, List.setIfInBounds_toArray, List.set_cons_zero, List.set_cons_succ, i64_w, i32_w]
    rfl
  refine pure_ (i := 18) (N := some 44) (a' := ?_) #[true, true, true, true, true, true, true, true, true, true, true, true, true, true, true, true, true, true, true, false, false, false, false, false, false, false, false, false, false, false, false, false, false, false, false, false, false, false, false, false, false, false, false, false, false, false, false, false, false, false, false, false, false, false] rfl rfl (any_of HT_.out (by kernel_rfl)) (fun _ _ _ h => h) (Or.inl ⟨by rfl, cat_yields _ _ _ _ (by rfl) _ _ (by rfl) (by rfl) (by decide)⟩) ?_ ?_
  rotate_left
  · simp only [Act.put, List.setIfInBounds_toArray, List.set_cons_zero, List.set_cons_succ, i64_w, i32_w]
    rfl
  refine pure_ (i := 19) (N := some 45) (a' := ?_) #[true, true, true, true, true, true, true, true, true, true, true, true, true, true, true, true, true, true, true, true, false, false, false, false, false, false, false, false, false, false, false, false, false, false, false, false, false, false, false, false, false, false, false, false, false, false, false, false, false, false, false, false, false, false] rfl rfl (any_of HT_.out (by kernel_rfl)) (fun _ _ _ h => h) (Or.inl ⟨by rfl, cat_yields _ _ _ _ (by rfl) _ _ (by rfl) (by rfl) (by decide)⟩) ?_ ?_
  rotate_left
  · simp only [Act.put, List.setIfInBounds_toArray, List.set_cons_zero, List.set_cons_succ, i64_w, i32_w]
    rfl
  refine one_ (i := 20) (N := some 46) #[true, true, true, true, true, true, true, true, true, true, true, true, true, true, true, true, true, true, true, true, true, false, false, false, false, false, false, false, false, false, false, false, false, false, false, false, false, false, false, false, false, false, false, false, false, false, false, false, false, false, false, false, false, false] rfl rfl (one_of HT_.out (by kernel_rfl)) (by decide) (fun K hK => ?_)
  refine goes_ Tryz.func21 (by kernel_rfl) rfl #[.int .u8 0, .int .i64 7] (by rfl) rfl rfl (by (try simp only [List.map_toArray, List.map_cons, List.map_nil]); first | done | rfl) ?_
  with_reducible refine (TC7.out _).mono ?_
  rintro e w9 ⟨rfl, hb9⟩
  refine ⟨_, rfl, ?_⟩
  have n1_ := Aside0.mk ((show Below w.heap.size w _ from by first | exact HB.out | exact below_drew1 HB.out).trans (hb9.mono HB.out.size)); have n2_ := Aside0.mk ((hb9.block E (blk_lt HE.out)).trans HE.out); clear HB HE hb9; have HB := n1_; have HE := n2_; clear n1_ n2_
  refine hK.out _ _ (cell_of HE.out S8.out) (fun hHeld => ?_)
  clear hK K
  refine norm_ (a' := ?_) ?_ ?_
  rotate_left
  · show Act.put _ (some 46) _ = _
    simp only [Act.put, List.setIfInBounds_toArray, List.set_cons_zero, List.set_cons_succ, i64_w, i32_w]
    rfl
  refine pure_ (i := 21) (N := some 47) (a' := ?_) #[true, true, true, true, true, true, true, true, true, true, true, true, true, true, true, true, true, true, true, true, true, true, false, false, false, false, false, false, false, false, false, false, false, false, false, false, false, false, false, false, false, false, false, false, false, false, false, false, false, false, false, false, false, false] rfl rfl (any_of HT_.out (by kernel_rfl)) (fun _ _ _ h => h) (Or.inl ⟨by rfl, cat_yields _ _ _ _ (by rfl) _ _ (by rfl) (by rfl) (by decide)⟩) ?_ ?_
  rotate_left
  · simp only [Act.put, List.setIfInBounds_toArray, List.set_cons_zero, List.set_cons_succ, i64_w, i32_w]
    rfl
  refine pure_ (i := 22) (N := some 48) (a' := ?_) #[true, true, true, true, true, true, true, true, true, true, true, true, true, true, true, true, true, true, true, true, true, true, true, false, false, false, false, false, false, false, false, false, false, false, false, false, false, false, false, false, false, false, false, false, false, false, false, false, false, false, false, false, false, false] rfl rfl (any_of HT_.out (by kernel_rfl)) (fun _ _ _ h => h) (Or.inl ⟨by rfl, cat_yields _ _ _ _ (by rfl) _ _ (by rfl) (by rfl) (by decide)⟩) ?_ ?_
  rotate_left
  · simp only [Act.put, List.setIfInBounds_toArray, List.set_cons_zero, List.set_cons_succ, i64_w, i32_w]
    rfl
  refine one_ (i := 23) (N := some 49) #[true, true, true, true, true, true, true, true, true, true, true, true, true, true, true, true, true, true, true, true, true, true, true, true, false, false, false, false, false, false, false, false, false, false, false, false, false, false, false, false, false, false, false, false, false, false, false, false, false, false, false, false, false, false] rfl rfl (one_of HT_.out (by kernel_rfl)) (by decide) (fun K hK => ?_)
  refine goes_ Tryz.func21 (by kernel_rfl) rfl #[.int .u8 116, .int .i64 32] (by rfl) rfl rfl (by (try simp only [List.map_toArray, List.map_cons, List.map_nil]); first | done | rfl) ?_
  with_reducible refine (TC32.out _).mono ?_
  rintro e w9 ⟨rfl, hb9⟩
  refine ⟨_, rfl, ?_⟩
  have n1_ := Aside0.mk ((show Below w.heap.size w _ from by first | exact HB.out | exact below_drew1 HB.out).trans (hb9.mono HB.out.size)); have n2_ := Aside0.mk ((hb9.block E (blk_lt HE.out)).trans HE.out); clear HB HE hb9; have HB := n1_; have HE := n2_; clear n1_ n2_
  refine hK.out _ _ (cell_of HE.out S8.out) (fun hHeld => ?_)
  clear hK K
  refine norm_ (a' := ?_) ?_ ?_
  rotate_left
  · show Act.put _ (some 49) _ = _
    simp only [Act.put, List.setIfInBounds_toArray, List.set_cons_zero, List.set_cons_succ, i64_w, i32_w]
    rfl
  refine pure_ (i := 24) (N := some 50) (a' := ?_) #[true, true, true, true, true, true, true, true, true, true, true, true, true, true, true, true, true, true, true, true, true, true, true, true, true, false, false, false, false, false, false, false, false, false, false, false, false, false, false, false, false, false, false, false, false, false, false, false, false, false, false, false, false, false] rfl rfl (any_of HT_.out (by kernel_rfl)) (fun _ _ _ h => h) (Or.inl ⟨by rfl, cat_yields _ _ _ _ (by rfl) _ ta (by rfl) (by rfl) (by have := HTA.out; simp only [List.length_append, List.length_cons, List.length_nil]; omega)⟩) ?_ ?_
  rotate_left
  · simp only [Act.put, List.setIfInBounds_toArray, List.set_cons_zero, List.set_cons_succ, i64_w, i32_w]
    rfl
  refine pure_ (i := 25) (N := some 51) (a' := ?_) #[true, true, true, true, true, true, true, true, true, true, true, true, true, true, true, true, true, true, true, true, true, true, true, true, true, true, false, false, false, false, false, false, false, false, false, false, false, false, false, false, false, false, false, false, false, false, false, false, false, false, false, false, false, false] rfl rfl (any_of HT_.out (by kernel_rfl)) (fun _ _ _ h => h) (Or.inl ⟨by rfl, streq_yields _ _ _ _ (by rfl) _ _ (by rfl) (by rfl) true EQ1.out⟩) ?_ ?_
  rotate_left
  · simp only [Act.put, List.setIfInBounds_toArray, List.set_cons_zero, List.set_cons_succ, i64_w, i32_w]
    rfl
  refine pure_ (i := 26) (N := some 52) (v := ?_) (a' := ?_) #[true, true, true, true, true, true, true, true, true, true, true, true, true, true, true, true, true, true, true, true, true, true, true, true, true, true, true, false, false, false, false, false, false, false, false, false, false, false, false, false, false, false, false, false, false, false, false, false, false, false, false, false, false, false] rfl rfl (any_of HT_.out (by kernel_rfl)) (fun _ _ _ h => h) (Or.inl ⟨by rfl, ?_⟩) ?_ ?_
  rotate_left
  · intro w'
    go_simp
    with_reducible rfl
  rotate_left
  · simp only [Act.put, List.setIfInBounds_toArray, List.set_cons_zero, List.set_cons_succ, i64_w, i32_w]
    rfl
  refine pure_ (i := 27) (N := some 53) (v := ?_) (a' := ?_) #[true, true, true, true, true, true, true, true, true, true, true, true, true, true, true, true, true, true, true, true, true, true, true, true, true, true, true, true, false, false, false, false, false, false, false, false, false, false, false, false, false, false, false, false, false, false, false, false, false, false, false, false, false, false] rfl rfl (any_of HT_.out (by kernel_rfl)) (fun _ _ _ h => h) (Or.inl ⟨by rfl, ?_⟩) ?_ ?_
  rotate_left
  · intro w'
    go_simp
    with_reducible rfl
  rotate_left
  · simp only [Act.put, List.setIfInBounds_toArray, List.set_cons_zero, List.set_cons_succ, i64_w, i32_w]
    rfl
  refine pure_ (i := 28) (N := some 54) (v := ?_) (a' := ?_) #[true, true, true, true, true, true, true, true, true, true, true, true, true, true, true, true, true, true, true, true, true, true, true, true, true, true, true, true, true, false, false, false, false, false, false, false, false, false, false, false, false, false, false, false, false, false, false, false, false, false, false, false, false, false] rfl rfl (any_of HT_.out (by kernel_rfl)) (fun _ _ _ h => h) (Or.inl ⟨by rfl, ?_⟩) ?_ ?_
  rotate_left
  · intro w'
    go_simp
    with_reducible rfl
  rotate_left
  · simp only [Act.put, List.setIfInBounds_toArray, List.set_cons_zero, List.set_cons_succ, i64_w, i32_w]
    rfl
  refine take_ (i := 29) (N := some 55) (v := ?_) (a' := ?_) #[true, true, true, true, true, true, true, true, true, true, true, true, true, true, true, true, true, true, true, true, true, true, true, true, true, true, true, true, true, true, false, false, false, false, false, false, false, false, false, false, false, false, false, false, false, false, false, false, false, false, false, false, false, false] rfl rfl (take_ofW HT_.out HW_.out (by kernel_rfl)) (fun _ _ _ h => h) (Or.inl ⟨by rfl, ?_⟩) hHeld ?_ ?_
  rotate_left
  · rintro w' s8
    go_simp
    with_reducible rfl
  rotate_left
  · simp only [Act.put, List.setIfInBounds_toArray, List.set_cons_zero, List.set_cons_succ, i64_w, i32_w]
    rfl
  refine pure_ (i := 30) (N := some 56) (v := ?_) (a' := ?_) #[true, true, true, true, true, true, true, true, true, true, true, true, true, true, true, true, true, true, true, true, true, true, true, true, true, true, true, true, true, true, true, false, false, false, false, false, false, false, false, false, false, false, false, false, false, false, false, false, false, false, false, false, false, false] rfl rfl (any_of HT_.out (by kernel_rfl)) (fun _ _ _ h => h) (Or.inl ⟨by rfl, ?_⟩) ?_ ?_
  rotate_left
  · intro w'
    go_simp
    with_reducible rfl
  rotate_left
  · simp only [Act.put, List.setIfInBounds_toArray, List.set_cons_zero, List.set_cons_succ, i64_w, i32_w]
    rfl
  refine pure_ (i := 31) (N := some 57) (v := ?_) (a' := ?_) #[true, true, true, true, true, true, true, true, true, true, true, true, true, true, true, true, true, true, true, true, true, true, true, true, true, true, true, true, true, true, true, true, false, false, false, false, false, false, false, false, false, false, false, false, false, false, false, false, false, false, false, false, false, false] rfl rfl (any_of HT_.out (by kernel_rfl)) (fun _ _ _ h => h) (Or.inl ⟨by rfl, ?_⟩) ?_ ?_
  rotate_left
  · intro w'
    go_simp
    with_reducible rfl
  rotate_left
  · simp only [Act.put, List.setIfInBounds_toArray, List.set_cons_zero, List.set_cons_succ, i64_w, i32_w]
    rfl
  refine pure_ (i := 32) (N := some 58) (v := ?_) (a' := ?_) #[true, true, true, true, true, true, true, true, true, true, true, true, true, true, true, true, true, true, true, true, true, true, true, true, true, true, true, true, true, true, true, true, true, false, false, false, false, false, false, false, false, false, false, false, false, false, false, false, false, false, false, false, false, false] rfl rfl (any_of HT_.out (by kernel_rfl)) (fun _ _ _ h => h) (Or.inl ⟨by rfl, ?_⟩) ?_ ?_
  rotate_left
  · intro w'
    go_simp
    with_reducible rfl
  rotate_left
  · simp only [Act.put, List.setIfInBounds_toArray, List.set_cons_zero, List.set_cons_succ, i64_w, i32_w]
    rfl
  refine pure_ (i := 33) (N := some 59) (v := ?_) (a' := ?_) #[true, true, true, true, true, true, true, true, true, true, true, true, true, true, true, true, true, true, true, true, true, true, true, true, true, true, true, true, true, true, true, true, true, true, false, false, false, false, false, false, false, false, false, false, false, false, false, false, false, false, false, false, false, false] rfl rfl (any_of HT_.out (by kernel_rfl)) (fun _ _ _ h => h) (Or.inl ⟨by rfl, ?_⟩) ?_ ?_
  rotate_left
  · intro w'
    go_simp
    with_reducible rfl
  rotate_left
  · simp only [Act.put, List.setIfInBounds_toArray, List.set_cons_zero, List.set_cons_succ, i64_w, i32_w]
    rfl
  refine pure_ (i := 35) (N := some 61) (v := ?_) (a' := ?_) #[true, true, true, true, true, true, true, true, true, true, true, true, true, true, true, true, true, true, true, true, true, true, true, true, true, true, true, true, true, true, true, true, true, true, false, true, false, false, false, false, false, false, false, false, false, false, false, false, false, false, false, false, false, false] rfl rfl (any_of HT_.out (by kernel_rfl)) (fun _ _ _ h => h) (Or.inl ⟨by rfl, ?_⟩) ?_ ?_
  rotate_left
  · intro w'
    go_simp
    with_reducible rfl
  rotate_left
  · simp only [Act.put, List.setIfInBounds_toArray, List.set_cons_zero, List.set_cons_succ, i64_w, i32_w]
    rfl
  refine pure_ (i := 36) (N := some 62) (v := ?_) (a' := ?_) #[true, true, true, true, true, true, true, true, true, true, true, true, true, true, true, true, true, true, true, true, true, true, true, true, true, true, true, true, true, true, true, true, true, true, false, true, true, false, false, false, false, false, false, false, false, false, false, false, false, false, false, false, false, false] rfl rfl (any_of HT_.out (by kernel_rfl)) (fun _ _ _ h => h) (Or.inl ⟨by rfl, ?_⟩) ?_ ?_
  rotate_left
  · intro w'
    go_simp
    with_reducible rfl
  rotate_left
  · simp only [Act.put, List.setIfInBounds_toArray, List.set_cons_zero, List.set_cons_succ, i64_w, i32_w]
    rfl
  refine one_ (i := 34) (N := some 60) #[true, true, true, true, true, true, true, true, true, true, true, true, true, true, true, true, true, true, true, true, true, true, true, true, true, true, true, true, true, true, true, true, true, true, true, true, true, false, false, false, false, false, false, false, false, false, false, false, false, false, false, false, false, false] rfl rfl (one_of HT_.out (by kernel_rfl)) (by decide) (fun K hK => ?_)
  refine goes_ Tryz.func12 (by kernel_rfl) rfl #[.string s] (by rfl) rfl rfl (by (try simp only [List.map_toArray, List.map_cons, List.map_nil]); first | done | rfl) ?_
  with_reducible refine (BC.out _).mono ?_
  rintro e w9 ⟨rfl, hb9⟩
  refine ⟨_, rfl, ?_⟩
  have n1_ := Aside0.mk ((show Below w.heap.size w _ from by first | exact HB.out | exact below_drew1 HB.out).trans (hb9.mono HB.out.size)); have n2_ := Aside0.mk ((hb9.block E (blk_lt HE.out)).trans HE.out); clear HB HE hb9; have HB := n1_; have HE := n2_; clear n1_ n2_
  refine hK.out _ _ (cell_of HE.out S8.out) (fun hHeld => ?_)
  clear hK K
  refine norm_ (a' := ?_) ?_ ?_
  rotate_left
  · show Act.put _ (some 60) _ = _
    simp only [Act.put, List.setIfInBounds_toArray, List.set_cons_zero, List.set_cons_succ, i64_w, i32_w]
    rfl
  refine pure_ (i := 37) (N := some 63) (a' := ?_) #[true, true, true, true, true, true, true, true, true, true, true, true, true, true, true, true, true, true, true, true, true, true, true, true, true, true, true, true, true, true, true, true, true, true, true, true, true, true, false, false, false, false, false, false, false, false, false, false, false, false, false, false, false, false] rfl rfl (any_of HT_.out (by kernel_rfl)) (fun _ _ _ h => h) (Or.inl ⟨by rfl, streq_yields _ _ _ _ (by rfl) _ _ (by rfl) (by rfl) true EQ2.out⟩) ?_ ?_
  rotate_left
  · simp only [Act.put, List.setIfInBounds_toArray, List.set_cons_zero, List.set_cons_succ, i64_w, i32_w]
    rfl
  refine pure_ (i := 38) (N := some 64) (v := ?_) (a' := ?_) #[true, true, true, true, true, true, true, true, true, true, true, true, true, true, true, true, true, true, true, true, true, true, true, true, true, true, true, true, true, true, true, true, true, true, true, true, true, true, true, false, false, false, false, false, false, false, false, false, false, false, false, false, false, false] rfl rfl (any_of HT_.out (by kernel_rfl)) (fun _ _ _ h => h) (Or.inl ⟨by rfl, ?_⟩) ?_ ?_
  rotate_left
  · intro w'
    go_simp
    with_reducible rfl
  rotate_left
  · simp only [Act.put, List.setIfInBounds_toArray, List.set_cons_zero, List.set_cons_succ, i64_w, i32_w]
    rfl
  refine pure_ (i := 39) (N := some 65) (v := ?_) (a' := ?_) #[true, true, true, true, true, true, true, true, true, true, true, true, true, true, true, true, true, true, true, true, true, true, true, true, true, true, true, true, true, true, true, true, true, true, true, true, true, true, true, true, false, false, false, false, false, false, false, false, false, false, false, false, false, false] rfl rfl (any_of HT_.out (by kernel_rfl)) (fun _ _ _ h => h) (Or.inl ⟨by rfl, ?_⟩) ?_ ?_
  rotate_left
  · intro w'
    go_simp
    with_reducible rfl
  rotate_left
  · simp only [Act.put, List.setIfInBounds_toArray, List.set_cons_zero, List.set_cons_succ, i64_w, i32_w]
    rfl
  refine pure_ (i := 40) (N := some 66) (v := ?_) (a' := ?_) #[true, true, true, true, true, true, true, true, true, true, true, true, true, true, true, true, true, true, true, true, true, true, true, true, true, true, true, true, true, true, true, true, true, true, true, true, true, true, true, true, true, false, false, false, false, false, false, false, false, false, false, false, false, false] rfl rfl (any_of HT_.out (by kernel_rfl)) (fun _ _ _ h => h) (Or.inl ⟨by rfl, ?_⟩) ?_ ?_
  rotate_left
  · intro w'
    go_simp
    with_reducible rfl
  rotate_left
  · simp only [Act.put, List.setIfInBounds_toArray, List.set_cons_zero, List.set_cons_succ, i64_w, i32_w]
    rfl
  refine one_ (i := 41) (N := some 67) #[true, true, true, true, true, true, true, true, true, true, true, true, true, true, true, true, true, true, true, true, true, true, true, true, true, true, true, true, true, true, true, true, true, true, true, true, true, true, true, true, true, true, false, false, false, false, false, false, false, false, false, false, false, false] rfl rfl (one_of HT_.out (by kernel_rfl)) (by decide) (fun K hK => ?_)
  refine goes_ Tryz.func14 (by kernel_rfl) rfl #[.string t, .string ⟨#[107]⟩] (by rfl) rfl rfl (by (try simp only [List.map_toArray, List.map_cons, List.map_nil]); first | done | rfl) ?_
  with_reducible refine (S1.out _ (gl_below HG.out HB.out)).mono ?_
  rintro e w9 ⟨rfl, hb9⟩
  refine ⟨_, rfl, ?_⟩
  have n1_ := Aside0.mk ((show Below w.heap.size w _ from by first | exact HB.out | exact below_drew1 HB.out).trans (hb9.mono HB.out.size)); have n2_ := Aside0.mk ((hb9.block E (blk_lt HE.out)).trans HE.out); clear HB HE hb9; have HB := n1_; have HE := n2_; clear n1_ n2_
  refine hK.out _ _ (cell_of HE.out S8.out) (fun hHeld => ?_)
  clear hK K
  refine norm_ (a' := ?_) ?_ ?_
  rotate_left
  · show Act.put _ (some 67) _ = _
    simp only [Act.put, List.setIfInBounds_toArray, List.set_cons_zero, List.set_cons_succ, i64_w, i32_w]
    rfl
  refine pure_ (i := 42) (N := some 68) (v := ?_) (a' := ?_) #[true, true, true, true, true, true, true, true, true, true, true, true, true, true, true, true, true, true, true, true, true, true, true, true, true, true, true, true, true, true, true, true, true, true, true, true, true, true, true, true, true, true, true, false, false, false, false, false, false, false, false, false, false, false] rfl rfl (any_of HT_.out (by kernel_rfl)) (fun _ _ _ h => h) (Or.inl ⟨by rfl, ?_⟩) ?_ ?_
  rotate_left
  · intro w'
    go_simp
    with_reducible rfl
  rotate_left
  · simp only [Act.put, List.setIfInBounds_toArray, List.set_cons_zero, List.set_cons_succ, i64_w, i32_w]
    rfl
  refine pure_ (i := 43) (N := some 69) (v := ?_) (a' := ?_) #[true, true, true, true, true, true, true, true, true, true, true, true, true, true, true, true, true, true, true, true, true, true, true, true, true, true, true, true, true, true, true, true, true, true, true, true, true, true, true, true, true, true, true, true, false, false, false, false, false, false, false, false, false, false] rfl rfl (any_of HT_.out (by kernel_rfl)) (fun _ _ _ h => h) (Or.inl ⟨by rfl, ?_⟩) ?_ ?_
  rotate_left
  · intro w'
    go_simp
    with_reducible rfl
  rotate_left
  · simp only [Act.put, List.setIfInBounds_toArray, List.set_cons_zero, List.set_cons_succ, i64_w, i32_w]
    rfl
  refine pure_ (i := 44) (N := some 70) (v := ?_) (a' := ?_) #[true, true, true, true, true, true, true, true, true, true, true, true, true, true, true, true, true, true, true, true, true, true, true, true, true, true, true, true, true, true, true, true, true, true, true, true, true, true, true, true, true, true, true, true, true, false, false, false, false, false, false, false, false, false] rfl rfl (any_of HT_.out (by kernel_rfl)) (fun _ _ _ h => h) (Or.inl ⟨by rfl, ?_⟩) ?_ ?_
  rotate_left
  · intro w'
    go_simp
    with_reducible rfl
  rotate_left
  · simp only [Act.put, List.setIfInBounds_toArray, List.set_cons_zero, List.set_cons_succ, i64_w, i32_w]
    rfl
  refine one_ (i := 45) (N := some 71) #[true, true, true, true, true, true, true, true, true, true, true, true, true, true, true, true, true, true, true, true, true, true, true, true, true, true, true, true, true, true, true, true, true, true, true, true, true, true, true, true, true, true, true, true, true, true, false, false, false, false, false, false, false, false] rfl rfl (one_of HT_.out (by kernel_rfl)) (by decide) (fun K hK => ?_)
  refine goes_ Tryz.func14 (by kernel_rfl) rfl #[.string t, .string ⟨#[108]⟩] (by rfl) rfl rfl (by (try simp only [List.map_toArray, List.map_cons, List.map_nil]); first | done | rfl) ?_
  with_reducible refine (S2.out _ (gl_below HG.out HB.out)).mono ?_
  rintro e w9 ⟨rfl, hb9⟩
  refine ⟨_, rfl, ?_⟩
  have n1_ := Aside0.mk ((show Below w.heap.size w _ from by first | exact HB.out | exact below_drew1 HB.out).trans (hb9.mono HB.out.size)); have n2_ := Aside0.mk ((hb9.block E (blk_lt HE.out)).trans HE.out); clear HB HE hb9; have HB := n1_; have HE := n2_; clear n1_ n2_
  refine hK.out _ _ (cell_of HE.out S8.out) (fun hHeld => ?_)
  clear hK K
  refine norm_ (a' := ?_) ?_ ?_
  rotate_left
  · show Act.put _ (some 71) _ = _
    simp only [Act.put, List.setIfInBounds_toArray, List.set_cons_zero, List.set_cons_succ, i64_w, i32_w]
    rfl
  refine pure_ (i := 46) (N := some 72) (v := ?_) (a' := ?_) #[true, true, true, true, true, true, true, true, true, true, true, true, true, true, true, true, true, true, true, true, true, true, true, true, true, true, true, true, true, true, true, true, true, true, true, true, true, true, true, true, true, true, true, true, true, true, true, false, false, false, false, false, false, false] rfl rfl (any_of HT_.out (by kernel_rfl)) (fun _ _ _ h => h) (Or.inl ⟨by rfl, ?_⟩) ?_ ?_
  rotate_left
  · intro w'
    go_simp
    with_reducible rfl
  rotate_left
  · simp only [Act.put, List.setIfInBounds_toArray, List.set_cons_zero, List.set_cons_succ, i64_w, i32_w]
    rfl
  refine pure_ (i := 47) (N := some 73) (v := ?_) (a' := ?_) #[true, true, true, true, true, true, true, true, true, true, true, true, true, true, true, true, true, true, true, true, true, true, true, true, true, true, true, true, true, true, true, true, true, true, true, true, true, true, true, true, true, true, true, true, true, true, true, true, false, false, false, false, false, false] rfl rfl (any_of HT_.out (by kernel_rfl)) (fun _ _ _ h => h) (Or.inl ⟨by rfl, ?_⟩) ?_ ?_
  rotate_left
  · intro w'
    go_simp
    with_reducible rfl
  rotate_left
  · simp only [Act.put, List.setIfInBounds_toArray, List.set_cons_zero, List.set_cons_succ, i64_w, i32_w]
    rfl
  refine pure_ (i := 48) (N := some 74) (v := ?_) (a' := ?_) #[true, true, true, true, true, true, true, true, true, true, true, true, true, true, true, true, true, true, true, true, true, true, true, true, true, true, true, true, true, true, true, true, true, true, true, true, true, true, true, true, true, true, true, true, true, true, true, true, true, false, false, false, false, false] rfl rfl (any_of HT_.out (by kernel_rfl)) (fun _ _ _ h => h) (Or.inl ⟨by rfl, ?_⟩) ?_ ?_
  rotate_left
  · intro w'
    go_simp
    with_reducible rfl
  rotate_left
  · simp only [Act.put, List.setIfInBounds_toArray, List.set_cons_zero, List.set_cons_succ, i64_w, i32_w]
    rfl
  refine pure_ (i := 49) (N := some 75) (v := ?_) (a' := ?_) #[true, true, true, true, true, true, true, true, true, true, true, true, true, true, true, true, true, true, true, true, true, true, true, true, true, true, true, true, true, true, true, true, true, true, true, true, true, true, true, true, true, true, true, true, true, true, true, true, true, true, false, false, false, false] rfl rfl (any_of HT_.out (by kernel_rfl)) (fun _ _ _ h => h) (Or.inl ⟨by rfl, ?_⟩) ?_ ?_
  rotate_left
  · intro w'
    go_simp
    with_reducible rfl
  rotate_left
  · simp only [Act.put, List.setIfInBounds_toArray, List.set_cons_zero, List.set_cons_succ, i64_w, i32_w]
    rfl
  refine one_ (i := 50) (N := some 76) #[true, true, true, true, true, true, true, true, true, true, true, true, true, true, true, true, true, true, true, true, true, true, true, true, true, true, true, true, true, true, true, true, true, true, true, true, true, true, true, true, true, true, true, true, true, true, true, true, true, true, true, false, false, false] rfl rfl (one_of HT_.out (by kernel_rfl)) (by decide) (fun K hK => ?_)
  refine goes_ Tryz.func14 (by kernel_rfl) rfl #[.string s, .string ⟨#[107]⟩] (by rfl) rfl rfl (by (try simp only [List.map_toArray, List.map_cons, List.map_nil]); first | done | rfl) ?_
  with_reducible refine (S3.out _ (gl_below HG.out HB.out)).mono ?_
  rintro e w9 ⟨rfl, hb9⟩
  refine ⟨_, rfl, ?_⟩
  have n1_ := Aside0.mk ((show Below w.heap.size w _ from by first | exact HB.out | exact below_drew1 HB.out).trans (hb9.mono HB.out.size)); have n2_ := Aside0.mk ((hb9.block E (blk_lt HE.out)).trans HE.out); clear HB HE hb9; have HB := n1_; have HE := n2_; clear n1_ n2_
  refine hK.out _ _ (cell_of HE.out S8.out) (fun hHeld => ?_)
  clear hK K
  refine norm_ (a' := ?_) ?_ ?_
  rotate_left
  · show Act.put _ (some 76) _ = _
    simp only [Act.put, List.setIfInBounds_toArray, List.set_cons_zero, List.set_cons_succ, i64_w, i32_w]
    rfl
  refine pure_ (i := 51) (N := some 77) (v := ?_) (a' := ?_) #[true, true, true, true, true, true, true, true, true, true, true, true, true, true, true, true, true, true, true, true, true, true, true, true, true, true, true, true, true, true, true, true, true, true, true, true, true, true, true, true, true, true, true, true, true, true, true, true, true, true, true, true, false, false] rfl rfl (any_of HT_.out (by kernel_rfl)) (fun _ _ _ h => h) (Or.inl ⟨by rfl, ?_⟩) ?_ ?_
  rotate_left
  · intro w'
    go_simp
    with_reducible rfl
  rotate_left
  · simp only [Act.put, List.setIfInBounds_toArray, List.set_cons_zero, List.set_cons_succ, i64_w, i32_w]
    rfl
  refine pure_ (i := 52) (N := some 78) (v := ?_) (a' := ?_) #[true, true, true, true, true, true, true, true, true, true, true, true, true, true, true, true, true, true, true, true, true, true, true, true, true, true, true, true, true, true, true, true, true, true, true, true, true, true, true, true, true, true, true, true, true, true, true, true, true, true, true, true, true, false] rfl rfl (any_of HT_.out (by kernel_rfl)) (fun _ _ _ h => h) (Or.inl ⟨by rfl, ?_⟩) ?_ ?_
  rotate_left
  · intro w'
    go_simp
    with_reducible rfl
  rotate_left
  · simp only [Act.put, List.setIfInBounds_toArray, List.set_cons_zero, List.set_cons_succ, i64_w, i32_w]
    rfl
  refine pure_ (i := 53) (N := some 0) (v := ?_) (a' := ?_) #[true, true, true, true, true, true, true, true, true, true, true, true, true, true, true, true, true, true, true, true, true, true, true, true, true, true, true, true, true, true, true, true, true, true, true, true, true, true, true, true, true, true, true, true, true, true, true, true, true, true, true, true, true, true] rfl rfl (any_of HT_.out (by kernel_rfl)) (fun _ _ _ h => h) (Or.inl ⟨by rfl, ?_⟩) ?_ ?_
  rotate_left
  · intro w'
    go_simp
    with_reducible rfl
  rotate_left
  · simp only [Act.put, List.setIfInBounds_toArray, List.set_cons_zero, List.set_cons_succ, i64_w, i32_w]
    rfl
  refine done_ (done_of HT_.out (by kernel_rfl)) ?_
  clear HT_ HW_ hHeld
  go_wp2
  go_ret
  exact ⟨rfl, HB.out⟩
end Go.Proofs.YtniabkphbnimaaaGreatDoor.Sh
namespace Go.Proofs.YtniabkphbnimaaaGreatDoor.Sh
open Go Go.RowKit Go.Maps Go.Proofs.YtniabkphbnimaaaGreatDoorW.PrintWords Go.Proofs.YtniabkphbnimaaaGreatDoorW.PrintLast Go.Proofs.YtniabkphbnimaaaGreatDoor.Bs
theorem eqA25 (d : Nat) (w : World) (x0 y0 : Int) (x1 y1 : Int) (x2 y2 : Bool) (x3 y3 : Bool) :
    (Op.equalIn (d + 2) 25 (.agg #[.int .i64 x0, .int .i64 x1, .bool x2, .bool x3]) (.agg #[.int .i64 y0, .int .i64 y1, .bool y2, .bool y3])).run Tryz.prog w = .ok (x0 == y0 && (x1 == y1 && (x2 == y2 && (x3 == y3)))) w := by
  refine eqA_of Tryz.underlying25 (by kernel_rfl) ?_
  refine eqf_cons (by rfl) (by go_simp; rfl) (by go_simp; rfl) (by go_simp) ?_
  refine eqf_cons (by rfl) (by go_simp; rfl) (by go_simp; rfl) (by go_simp) ?_
  refine eqf_cons (by rfl) (by go_simp; rfl) (by go_simp; rfl) (by go_simp) ?_
  exact eqf_last (by rfl) (by go_simp; rfl) (by go_simp; rfl) (by go_simp)
theorem eqA27 (d : Nat) (w : World) (x0 y0 : Int) (x1 y1 : ByteArray) (x2 y2 : Int) (x3 y3 : ByteArray) (x4 y4 : ByteArray) (x5 y5 : Int) (x6 y6 : Int) (x7 y7 : ByteArray) (x8 y8 : Int) (x9 y9 : Int) (x10 y10 : Int) (x11 y11 : Bool) (x12 y12 : Bool) (x13 y13 : ByteArray) (x14 y14 : ByteArray) :
    (Op.equalIn (d + 3) 27 (.agg #[.int .i64 x0, .string x1, .int .u64 x2, .string x3, .string x4, .int .u64 x5, .int .i64 x6, .string x7, .int .u64 x8, .int .i64 x9, .int .i64 x10, .bool x11, .bool x12, .string x13, .string x14]) (.agg #[.int .i64 y0, .string y1, .int .u64 y2, .string y3, .string y4, .int .u64 y5, .int .i64 y6, .string y7, .int .u64 y8, .int .i64 y9, .int .i64 y10, .bool y11, .bool y12, .string y13, .string y14])).run Tryz.prog w = .ok (x0 == y0 && (x1.toList == y1.toList && (x2 == y2 && (x3.toList == y3.toList && (x4.toList == y4.toList && (x5 == y5 && (x6 == y6 && (x7.toList == y7.toList && (x8 == y8 && ((x9 == y9 && (x10 == y10 && (x11 == y11 && (x12 == y12)))) && (x13.toList == y13.toList && (x14.toList == y14.toList)))))))))))) w := by
  refine eqA_of Tryz.underlying27 (by kernel_rfl) ?_
  refine eqf_cons (by rfl) (by go_simp; rfl) (by go_simp; rfl) (by go_simp) ?_
  refine eqf_cons (by rfl) (by go_simp; rfl) (by go_simp; rfl) (by go_simp) ?_
  refine eqf_cons (by rfl) (by go_simp; rfl) (by go_simp; rfl) (by go_simp) ?_
  refine eqf_cons (by rfl) (by go_simp; rfl) (by go_simp; rfl) (by go_simp) ?_
  refine eqf_cons (by rfl) (by go_simp; rfl) (by go_simp; rfl) (by go_simp) ?_
  refine eqf_cons (by rfl) (by go_simp; rfl) (by go_simp; rfl) (by go_simp) ?_
  refine eqf_cons (by rfl) (by go_simp; rfl) (by go_simp; rfl) (by go_simp) ?_
  refine eqf_cons (by rfl) (by go_simp; rfl) (by go_simp; rfl) (by go_simp) ?_
  refine eqf_cons (by rfl) (by go_simp; rfl) (by go_simp; rfl) (by go_simp) ?_
  refine eqf_cons (by rfl) (by go_simp) (by go_simp) (eqA25 (d + 0) w _ _ _ _ _ _ _ _) ?_
  refine eqf_cons (by rfl) (by go_simp; rfl) (by go_simp; rfl) (by go_simp) ?_
  exact eqf_last (by rfl) (by go_simp; rfl) (by go_simp; rfl) (by go_simp)
section
variable {ops : Array Oper} {rest : List Oper} {o : Oper} {a : Act} {w : World} {Q : Exit → Act → World → Prop}
theorem run_dgeq (d : Dg) (w : World) : (Op.equalIn 10000 27 (.agg d.cells.toArray) (.agg d.cells.toArray)).run Tryz.prog w = .ok true w := by
  have h := eqA27 9997 w d.kind d.kind d.nonce d.nonce (d.epoch : Int) (d.epoch : Int) d.cookie d.cookie d.name d.name (d.session : Int) (d.session : Int) d.player d.player d.salt d.salt (d.seq : Int) (d.seq : Int) d.thr d.thr d.trn d.trn d.fire d.fire d.boost d.boost d.data d.data d.tag d.tag
  simp only [beq_self_eq_true, Bool.and_true] at h
  exact h
theorem wp_dgeq {K : Act → World → Prop} (d e : Dg) (hde : d = e) (t2 : TypeId) (x y : Operand) (ho : o.op = .binOp .eql 27 x y t2) (hx : a.eval x = .agg d.cells.toArray) (hy : a.eval y = .agg e.cells.toArray)
    (h : K (a.put o.dst (.bool true)) w) : Oper.wp Tryz.prog o a w K Q := by
  subst hde
  unfold Oper.wp execOp
  simp only [ho, hx, hy, Sem.run_bind, run_eqGuard_agg (P := Tryz.prog) w .eql 27 x y _ _ (by kernel_rfl), run_eql_struct, run_dgeq, Result.andThen_ok, Sem.run_pure]
  exact h
theorem wpList_dgeq (hgd : o.guard = none) (d e : Dg) (hde : d = e) (t2 : TypeId) (x y : Operand) (ho : o.op = .binOp .eql 27 x y t2) (hx : a.eval x = .agg d.cells.toArray) (hy : a.eval y = .agg e.cells.toArray)
    (h : wpList Tryz.prog ops Q rest (a.put o.dst (.bool true)) w) : wpList Tryz.prog ops Q (o :: rest) a w :=
  wpList_plain hgd fun K hK => wp_dgeq d e hde t2 x y ho hx hy (hK _ _ h)
end
section
variable {P : Program} {ops : Array Oper} {rest : List Oper} {a : Act} {w : World} {Q : Exit → Act → World → Prop} {d : Option Tmp} {ty : TypeId} {pos : String} {af : Array Edge} {g : Option (Tmp × Bool)}
theorem at_eqdg_ {x y : Operand} {t2 : TypeId} (h : wpList P ops Q (⟨d, .binOp .eql 27 x y t2, ty, pos, af, g⟩ :: rest) a w) : wpList P ops Q (⟨d, .binOp .eql 27 x y t2, ty, pos, af, g⟩ :: rest) a w := h
end
end Go.Proofs.YtniabkphbnimaaaGreatDoor.Sh
namespace Go.Proofs.YtniabkphbnimaaaGreatDoor.Sh
open Go Go.RowKit Go.Maps Go.Proofs.YtniabkphbnimaaaGreatDoorW.PrintWords Go.Proofs.YtniabkphbnimaaaGreatDoorW.PrintLast Go.Proofs.YtniabkphbnimaaaGreatDoor.Bs
set_option maxHeartbeats 8000000 in
set_option maxRecDepth 100000 in
theorem decodes_walk (s k : ByteArray) (w : World) (hg : GL w) (hr : GR w) (hs : s.size ≤ 1048576) (hk : k.size ≤ 1048576) : Calls Tryz.prog 3 #[.string s, .string k] w fun e w' => e = .returned (.bool true) ∧ Below w.heap.size w w' := by
  have HG := Aside0.mk hg
  have HR := Aside0.mk hr
  have hl : (bl s).length ≤ 1048576 := by rw [bl_len]; exact hs
  obtain ⟨d, ed⟩ : ∃ d, d = (dec (bl s)).1 := ⟨_, rfl⟩
  obtain ⟨c, ec⟩ : ∃ c, c = (dec (bl s)).2 := ⟨_, rfl⟩
  obtain ⟨b, eb⟩ : ∃ b, b = str (bodyB (bl s)) := ⟨_, rfl⟩
  obtain ⟨z, ez⟩ : ∃ z, z = sealedB (bl s) (bl k) := ⟨_, rfl⟩
  have AC := Aside0.mk alive_calls
  have DC := Aside0.mk (show ∀ w, Calls Tryz.prog 10 #[.string s] w fun e w' => e = .returned (.tuple #[.agg d.cells.toArray, .int .i64 c]) ∧ Below w.heap.size w w' from fun w => by rw [ed, ec]; exact decode_calls (bl s) w)
  have RDC := Aside0.mk (show ∀ w, Calls Tryz.prog 11 #[.string s] w fun e w' => e = .returned (.tuple #[.agg d.cells.toArray, .int .i64 c]) ∧ Below w.heap.size w w' from fun w => by rw [ed, ec]; exact rdecode_calls (bl s) w)
  have BC := Aside0.mk (show ∀ w, Calls Tryz.prog 12 #[.string s] w fun e w' => e = .returned (.string b) ∧ Below w.heap.size w w' from fun w => by rw [eb]; exact body_calls (bl s) (by omega) w)
  have RBC := Aside0.mk (show ∀ w, Calls Tryz.prog 13 #[.string s] w fun e w' => e = .returned (.string b) ∧ Below w.heap.size w w' from fun w => by rw [eb]; exact rbody_calls (bl s) (by omega) w)
  have SC := Aside0.mk (show ∀ w, GL w → Calls Tryz.prog 14 #[.string s, .string k] w fun e w' => e = .returned (.bool z) ∧ Below w.heap.size w w' from fun w hg => by rw [ez]; exact sealed_calls (bl s) k w hg (by omega) (by omega))
  have RSC := Aside0.mk (show ∀ w, GR w → Calls Tryz.prog 15 #[.string s, .string k] w fun e w' => e = .returned (.bool z) ∧ Below w.heap.size w w' from fun w hg => by rw [ez]; exact rsealed_calls (bl s) k w hg (by omega) (by omega))
  clear ed ec eb ez hl hg hr
  go_enter Tryz.func3, Tryz.ntmps3
  go_wp2_with (first
    | (go_at_call 9; (with_reducible refine (AC.out w HG.out).mono ?_); rintro e w1 ⟨rfl, hb1⟩; have HB := Aside0.mk hb1; clear hb1)
    | (go_at_call 10; (with_reducible refine (DC.out _).mono ?_); rintro e w9 ⟨rfl, hb9⟩; have n1_ := Aside0.mk (HB.out.trans (hb9.mono HB.out.size)); clear HB; have HB := n1_; clear n1_; (try (have n2_ := Aside0.mk ((hb9.block D (blk_lt HD.out)).trans HD.out); clear HD; have HD := n2_; clear n2_)); (try (have n2_ := Aside0.mk ((hb9.block E (blk_lt HE.out)).trans HE.out); clear HE; have HE := n2_; clear n2_)); clear hb9)
    | (go_at_call 11; (with_reducible refine (RDC.out _).mono ?_); rintro e w9 ⟨rfl, hb9⟩; have n1_ := Aside0.mk (HB.out.trans (hb9.mono HB.out.size)); clear HB; have HB := n1_; clear n1_; (try (have n2_ := Aside0.mk ((hb9.block D (blk_lt HD.out)).trans HD.out); clear HD; have HD := n2_; clear n2_)); (try (have n2_ := Aside0.mk ((hb9.block E (blk_lt HE.out)).trans HE.out); clear HE; have HE := n2_; clear n2_)); clear hb9)
    | ((with_reducible first | refine at_alloc_ ?_ | refine at_alloc2_ ?_); refine wpList_alloc_v rfl 27 rfl Dg.zero.cells (by kernel_rfl) ?_; intro E w4 eE hE2 hb4 hz4; have HEE := Aside0.mk (show w.heap.size ≤ E ∧ D ≠ E from by have := eE.out; have := HB.out.size; have := blk_lt HD.out; omega); have n2_ := Aside0.mk ((hb4.out.block D (blk_lt HD.out)).trans HD.out); have n1_ := Aside0.mk (HB.out.trans (hb4.out.mono HB.out.size)); clear HB HD; have HB := n1_; have HD := n2_; clear n1_ n2_ hb4 hz4 eE)
    | ((with_reducible first | refine at_alloc_ ?_ | refine at_alloc2_ ?_); refine wpList_alloc_v rfl 27 rfl Dg.zero.cells (by kernel_rfl) ?_; intro D w2 eD hD2 hb2 hz2; have HDD := Aside0.mk (show w.heap.size ≤ D from by have := eD.out; have := HB.out.size; omega); have n1_ := Aside0.mk (HB.out.trans (hb2.out.mono HB.out.size)); clear HB; have HB := n1_; clear n1_ hb2 hz2 eD)
    | ((with_reducible first | refine at_store_ ?_ | refine at_store2_ ?_); refine wpList_store_agg rfl 27 _ _ rfl E 0 rfl d.cells Dg.zero.cells rfl _ hE2.out (by exact Nat.le_refl 15) (fun v hv => one_cells hv) (by kernel_rfl) ?_; intro w5 hE3 hm5 hz5; rw [splice_all Dg.zero.cells d.cells rfl] at hE3; have HE := Aside0.mk hE3.out; have n2_ := Aside0.mk (hm5.out.blk HD.out HEE.out.2); have n1_ := Aside0.mk (toBelow' HB.out hm5.out HEE.out.1); clear HB HD; have HB := n1_; have HD := n2_; clear n1_ n2_ hE2 hE3 hm5 hz5)
    | ((with_reducible first | refine at_store_ ?_ | refine at_store2_ ?_); refine wpList_store_agg rfl 27 _ _ rfl D 0 rfl d.cells Dg.zero.cells rfl _ hD2.out (by exact Nat.le_refl 15) (fun v hv => one_cells hv) (by kernel_rfl) ?_; intro w3 hD3 hm3 hz3; rw [splice_all Dg.zero.cells d.cells rfl] at hD3; have HD := Aside0.mk hD3.out; have n1_ := Aside0.mk (toBelow' HB.out hm3.out HDD.out); clear HB; have HB := n1_; clear n1_ hD2 hD3 hm3 hz3)
    | ((with_reducible first | refine at_load_ ?_ | refine at_load2_ ?_); refine wpList_load_agg rfl 27 _ rfl D 0 rfl d.cells (load_all HD.out) _ Tryz.underlying27 rfl (by kernel_rfl) ?_)
    | ((with_reducible first | refine at_load_ ?_ | refine at_load2_ ?_); refine wpList_load_agg rfl 27 _ rfl E 0 rfl d.cells (load_all HE.out) _ Tryz.underlying27 rfl (by kernel_rfl) ?_)
    | ((with_reducible first | refine at_eqdg_ ?_ | refine at_eqdg2_ ?_); refine wpList_dgeq rfl d d rfl _ _ _ rfl rfl rfl ?_)
    | (go_at_call 12; (with_reducible refine (BC.out _).mono ?_); rintro e w9 ⟨rfl, hb9⟩; have n1_ := Aside0.mk (HB.out.trans (hb9.mono HB.out.size)); clear HB; have HB := n1_; clear n1_; (try (have n2_ := Aside0.mk ((hb9.block D (blk_lt HD.out)).trans HD.out); clear HD; have HD := n2_; clear n2_)); (try (have n2_ := Aside0.mk ((hb9.block E (blk_lt HE.out)).trans HE.out); clear HE; have HE := n2_; clear n2_)); clear hb9)
    | (go_at_call 13; (with_reducible refine (RBC.out _).mono ?_); rintro e w9 ⟨rfl, hb9⟩; have n1_ := Aside0.mk (HB.out.trans (hb9.mono HB.out.size)); clear HB; have HB := n1_; clear n1_; (try (have n2_ := Aside0.mk ((hb9.block D (blk_lt HD.out)).trans HD.out); clear HD; have HD := n2_; clear n2_)); (try (have n2_ := Aside0.mk ((hb9.block E (blk_lt HE.out)).trans HE.out); clear HE; have HE := n2_; clear n2_)); clear hb9)
    | (go_at_call 14; (with_reducible refine (SC.out _ (gl_below HG.out HB.out)).mono ?_); rintro e w9 ⟨rfl, hb9⟩; have n1_ := Aside0.mk (HB.out.trans (hb9.mono HB.out.size)); clear HB; have HB := n1_; clear n1_; (try (have n2_ := Aside0.mk ((hb9.block D (blk_lt HD.out)).trans HD.out); clear HD; have HD := n2_; clear n2_)); (try (have n2_ := Aside0.mk ((hb9.block E (blk_lt HE.out)).trans HE.out); clear HE; have HE := n2_; clear n2_)); clear hb9)
    | (go_at_call 15; (with_reducible refine (RSC.out _ (GR.below HR.out HB.out)).mono ?_); rintro e w9 ⟨rfl, hb9⟩; have n1_ := Aside0.mk (HB.out.trans (hb9.mono HB.out.size)); clear HB; have HB := n1_; clear n1_; (try (have n2_ := Aside0.mk ((hb9.block D (blk_lt HD.out)).trans HD.out); clear HD; have HD := n2_; clear n2_)); (try (have n2_ := Aside0.mk ((hb9.block E (blk_lt HE.out)).trans HE.out); clear HE; have HE := n2_; clear n2_)); clear hb9))
  go_ret
  exact ⟨rfl, HB.out⟩
end Go.Proofs.YtniabkphbnimaaaGreatDoor.Sh
namespace Go.Proofs.YtniabkphbnimaaaGreatDoor.Sh
open Go Go.RowKit Go.Maps
theorem gRounds : Tryz.prog.globalNamed "joust/sha.rounds" = some 0 := by kernel_rfl
theorem gRoots : Tryz.prog.globalNamed "joust/joustref01.roots" = some 1 := by kernel_rfl
theorem gCubes : Tryz.prog.globalNamed "joust/joustref01.cubes" = some 2 := by kernel_rfl
theorem tRounds : (Tryz.prog.globals[0]?).map (·.type) = some 130 := by kernel_rfl
theorem tRoots : (Tryz.prog.globals[1]?).map (·.type) = some 116 := by kernel_rfl
theorem tCubes : (Tryz.prog.globals[2]?).map (·.type) = some 130 := by kernel_rfl
def KSz : List Int := KS.map fun x => (x.toNat : Int)
def H0z : List Int := H0.l.map fun x => (x.toNat : Int)
theorem dRounds : (Rows.laid_joust_sha_rounds : DataW Unit) = Lib.tabData .u32 KSz := by kernel_rfl
theorem dRoots : (Rows.laid_joust_joustref01_roots : DataW Unit) = Lib.tabData .u32 H0z := by kernel_rfl
theorem dCubes : (Rows.laid_joust_joustref01_cubes : DataW Unit) = Lib.tabData .u32 KSz := by kernel_rfl
theorem ksz : (KSz.map fun z => Value.int .u32 z) = KS.map vW := by
  unfold KSz
  rw [List.map_map]
  rfl
theorem h0z : (H0z.map fun z => Value.int .u32 z) = H0.l.map vW := by
  unfold H0z
  rw [List.map_map]
  rfl
theorem heap_of_var {W : World} {name : String} {g : Nat} {cs : Array Value} (hg : Tryz.prog.globalNamed name = some g) (h : W.var? Tryz.prog name = some cs) : ∃ t fr, W.heap[g]? = some (.cells cs t fr) := by
  unfold World.var? at h
  rw [hg] at h
  simp only [Option.bind_some] at h
  split at h
  · rename_i c t fr hh
    cases h
    exact ⟨_, _, hh⟩
  · cases h
theorem tab_of {W : World} {name : String} {g : Nat} {t e : TypeId} {n : Nat} {zs : List Int} {d : DataW Unit} (hdz : d = Lib.tabData .u32 zs) (hg : Tryz.prog.globalNamed name = some g) (ht : Tryz.prog.underlying t = some (.array n e)) (he : Tryz.prog.underlying e = some (.int .u32)) (hce : Tryz.prog.cellsOf e = 1) (hct : Tryz.prog.cellsOf t = n)
    {enc : TypeId × Value → Unit} {base : Nat} {sp : Nat → Bool} {held : Bool} {fuel : Nat} {cs : Array Value} {p : List MemPlace} (hvar : W.var? Tryz.prog name = some cs) (hd : DataW.trod enc Tryz.prog W base sp held fuel t cs.toList = some (d, p)) : ∃ u fr, W.heap[g]? = some (.cells (zs.map fun z => Value.int .u32 z).toArray u fr) := by
  subst hdz
  have e1 := Lib.cells_of_tab ht he hce hct hd
  obtain ⟨u, fr, hh⟩ := heap_of_var hg hvar
  refine ⟨u, fr, ?_⟩
  rw [hh, ← e1]
theorem gs_of_laid {W : World} (h : laidMet Tryz.prog [("joust/joustref01.roots", Rows.laid_joust_joustref01_roots), ("joust/joustref01.cubes", Rows.laid_joust_joustref01_cubes), ("joust/sha.rounds", Rows.laid_joust_sha_rounds), ("unicode/utf8.acceptRanges", Rows.laid_unicode_utf8_acceptRanges), ("unicode/utf8.first", Rows.laid_unicode_utf8_first)] W) : GL W ∧ GR W := by
  obtain ⟨ps, ⟨g1, t1, cs1, fuel1, p1, q1, hg1, ht1, hvar1, hd1, ⟨g2, t2, cs2, fuel2, p2, q2, hg2, ht2, hvar2, hd2, ⟨g3, t3, cs3, fuel3, p3, q3, hg3, ht3, hvar3, hd3, _, _⟩, _⟩, _⟩, _⟩ := h
  obtain rfl := Option.some.inj (gRoots.symm.trans hg1)
  obtain rfl := Option.some.inj (tRoots.symm.trans ht1)
  obtain rfl := Option.some.inj (gCubes.symm.trans hg2)
  obtain rfl := Option.some.inj (tCubes.symm.trans ht2)
  obtain rfl := Option.some.inj (gRounds.symm.trans hg3)
  obtain rfl := Option.some.inj (tRounds.symm.trans ht3)
  obtain ⟨u1, fr1, hh1⟩ := tab_of dRoots gRoots Tryz.underlying116 Tryz.underlying110 (by kernel_rfl) (by kernel_rfl) hvar1 hd1
  obtain ⟨u2, fr2, hh2⟩ := tab_of dCubes gCubes Tryz.underlying130 Tryz.underlying110 (by kernel_rfl) (by kernel_rfl) hvar2 hd2
  obtain ⟨u3, fr3, hh3⟩ := tab_of dRounds gRounds Tryz.underlying130 Tryz.underlying110 (by kernel_rfl) (by kernel_rfl) hvar3 hd3
  rw [h0z] at hh1
  rw [ksz] at hh2 hh3
  exact ⟨⟨u3, fr3, hh3⟩, ⟨u1, fr1, hh1⟩, u2, fr2, hh2⟩
/-- The cells of the listed tables, for a witness. -/
def roundsC : Array Value := (KS.map vW).toArray
def rootsC : Array Value := (H0.l.map vW).toArray
def firstC : Array Value := (Pinned.utf8FirstZ.map fun z : Nat => Value.int .u8 (z : Int)).toArray
def acceptC : Array Value := #[.int .u8 128, .int .u8 191, .int .u8 160, .int .u8 191, .int .u8 128, .int .u8 159, .int .u8 144, .int .u8 191, .int .u8 128, .int .u8 143, .int .u8 0, .int .u8 0, .int .u8 0, .int .u8 0, .int .u8 0, .int .u8 0, .int .u8 0, .int .u8 0, .int .u8 0, .int .u8 0, .int .u8 0, .int .u8 0, .int .u8 0, .int .u8 0, .int .u8 0, .int .u8 0, .int .u8 0, .int .u8 0, .int .u8 0, .int .u8 0, .int .u8 0, .int .u8 0]
end Go.Proofs.YtniabkphbnimaaaGreatDoor.Sh
