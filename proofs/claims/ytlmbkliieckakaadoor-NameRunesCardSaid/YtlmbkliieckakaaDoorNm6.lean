/- The walks of name.Fold and name.Same. -/
import Derived.Test.YtlmbkliieckakaaDoorNm4
import Derived.Test.YtlmbkliieckakaaDoorNm5
set_option linter.unusedVariables false
namespace Go.Proofs.YtlmbkliieckakaaDoor.Nm
open Go.RowKit

def fold (s : ByteArray) : ByteArray := ⟨(foldOf bigB s).toArray⟩

theorem bigB_iff (c : Int) : bigB c = true ↔ (65 ≤ c ∧ c ≤ 90) ∨ (192 ≤ c ∧ c ≤ 214) ∨ (216 ≤ c ∧ c ≤ 222) := by
  simp [bigB, bigL, inSpan]

theorem size_extract (s : ByteArray) (a b : Nat) (h1 : a ≤ b) (h2 : b ≤ s.size) : (s.extract a b).size = b - a := by
  rw [ByteArray.size_extract]; omega

theorem runeLen_of (r : Int) (n : Int) (h : Lib.runeLen r = n) (w : World) : Calls Tryd.prog 34 #[.int .i32 r] w fun e w' => e = .returned (.int .i64 n) ∧ w' = w := by
  rw [← h]; exact Tryd.utf8_RuneLen r w

theorem hasPrefix_of (s : ByteArray) (b : Bool) (h : Lib.hasPrefix s.data.toList [239, 191, 189] = b) (w : World) :
    Calls Tryd.prog 33 #[.string s, .string ⟨#[239, 191, 189]⟩] w fun e w' => e = .returned (.bool b) ∧ w' = w := by
  rw [← h]; exact Tryd.strings_HasPrefix s ⟨#[239, 191, 189]⟩ w

def pieceB (s : ByteArray) (p : Nat) : ByteArray := s.extract p (p + (Utf8.decode s p).2)
theorem pieceB_size (s : ByteArray) (p : Nat) (hp : p < s.size) : (pieceB s p).size = (Utf8.decode s p).2 := by
  have h := decode_fits s p hp
  unfold pieceB
  rw [size_extract s _ _ (by omega) h]
  omega
theorem slice_piece (s : ByteArray) (p : Nat) (hp : p < s.size) (W : World) : (Instr.slice 9 (.string s) (some (.int .i64 p)) (some (.int .i64 ((p : Int) + (Utf8.decode s p).2))) none).run Tryd.prog W = .ok (.string (pieceB s p)) W := by
  have h := decode_fits s p hp
  rw [run_slice_string W 9 s .i64 .i64 p ((p : Int) + (Utf8.decode s p).2) Tryd.underlying9 (by omega) (by omega) (by omega)]
  congr 3
def piece (s : ByteArray) (p : Nat) : List UInt8 := (s.extract p (p + (Utf8.decode s p).2)).data.toList

theorem piece_length (s : ByteArray) (p : Nat) (hp : p < s.size) : (piece s p).length = (Utf8.decode s p).2 := by
  have h := decode_fits s p hp
  unfold piece
  rw [← Lib.size_eq, size_extract s _ _ (by omega) h]
  omega

theorem foldFrom_big (s : ByteArray) (f p : Nat) (h : p < s.size) (hb : bigB (Utf8.decode s p).1 = true) : foldFrom bigB s (f + 1) p = Lib.encodeRune ((Utf8.decode s p).1 + 32) ++ foldFrom bigB s f (p + (Utf8.decode s p).2) := by
  simp only [foldFrom]; rw [if_pos h, if_pos hb]
theorem foldFrom_not (s : ByteArray) (f p : Nat) (h : p < s.size) (hb : bigB (Utf8.decode s p).1 = false) : foldFrom bigB s (f + 1) p = piece s p ++ foldFrom bigB s f (p + (Utf8.decode s p).2) := by
  simp only [foldFrom]; rw [if_pos h, if_neg (by rw [hb]; decide)]; rfl

theorem builderAt_below {T e : TypeId} {B b : Nat} {p : Value} {bs : List Value} {w w' : World} (h : Lib.BuilderAtF T e B b p bs w) (hb : Below w.heap.size w w') : Lib.BuilderAtF T e B b p bs w' := by
  obtain ⟨hB, v, hbk, hown, hne⟩ := h
  have lt : ∀ {k : Nat} {o : Obj}, w.heap[k]? = some o → k < w.heap.size := fun hk => (Array.getElem?_eq_some_iff.1 hk).1
  refine ⟨hB, v, (hb.block b (lt hbk)).trans hbk, ⟨hown.1, ?_⟩, hne⟩
  rcases hown.2 with hn | ⟨g, cap, cur, fz, hv, hbg, hg, rest⟩
  · exact .inl hn
  · exact .inr ⟨g, cap, cur, fz, hv, hbg, (hb.block g (lt hg)).trans hg, rest⟩
theorem builder_below {T e : TypeId} {B b : Nat} {bs : List Value} {w w' : World} (h : Lib.IsBuilderF T e B b bs w) (hb : Below w.heap.size w w') : Lib.IsBuilderF T e B b bs w' :=
  h.elim (fun x => .inl (builderAt_below x hb)) (fun x => .inr (builderAt_below x hb))

set_option maxHeartbeats 4000000 in
set_option maxRecDepth 100000 in
theorem fold_calls (s : ByteArray) (w : World) (hg : GL w) (hs : s.size ≤ 140737488351232) :
    Calls Tryd.prog 15 #[.string s] w fun e w' => e = .returned (.string (fold s)) ∧ Below w.heap.size w w' := by
  go_enter Tryd.func15, Tryd.ntmps15
  go_wp2
  go_loopw [] (fun wr => ∃ (pos fuel : Nat) (acc : List UInt8), Lib.IsBuilderF 49 5 w.heap.size w.heap.size (Lib.byteCells acc) wr ∧ wr.heap[w.heap.size + 1]? = some (.stringIter s pos) ∧ Below w.heap.size w wr ∧ acc ++ foldFrom bigB s fuel pos = foldOf bigB s ∧ s.size ≤ pos + fuel ∧ acc.length = pos ∧ pos ≤ s.size) (fun wr => s.size - wr.iterPos (w.heap.size + 1))
  case atStart =>
    refine ⟨0, s.size, [], (Lib.IsBuilderF.of (Lib.fresh_isBuilder 49 5 w)).alloc _, ?_, ((Below.refl _ w).alloc (Nat.le_refl _) _).alloc (by simp) _, rfl, by omega, by simp, by omega⟩
    have := World.iter_heap (w.alloc (.cells #[.pointer none, .slice none 0 0] 49)) s 0
    simpa using this
  case round =>
    obtain ⟨pos, fuel, acc, hI, hit, hbw, hacc, hfu, hal, hps⟩ := hrel
    have hsz : w.heap.size + 1 < wr.heap.size := (Array.getElem?_eq_some_iff.1 hit).1
    have HACC := Lib.hid hacc
    clear hacc
    by_cases hp : pos < s.size
    · have hnx : ∀ ty, (Instr.next (.pointer (some ⟨w.heap.size + 1, 0, none⟩)) true ty).run Tryd.prog wr = _ := fun ty => Lib.run_next_any_at wr (w.heap.size + 1) s pos ty hit hp
      have hwd := Lib.decode_width_pos s pos hp
      have hfit := decode_fits s pos hp
      have hd1 := decode_le s pos
      have hI2 := hI.iterAt hit (pos + (Utf8.decode s pos).2)
      have hit2 := Lib.iterAt_heap wr (w.heap.size + 1) s pos (pos + (Utf8.decode s pos).2) hit
      have hbw2 := Lib.below_iterAt hbw (k := w.heap.size + 1) (by omega) s (pos + (Utf8.decode s pos).2)
      have hsz2 : w.heap.size + 1 < (wr.iterAt (w.heap.size + 1) s (pos + (Utf8.decode s pos).2)).heap.size := by rw [Lib.iterAt_size]; omega
      obtain ⟨f, rfl⟩ : ∃ f, fuel = f + 1 := ⟨fuel - 1, by omega⟩
      have hgl := hg.of_below hbw2
      have HAL := Lib.hid hal
      clear hal
      have HIT := Lib.hid hit
      have HIT2 := Lib.hid hit2
      clear hit hit2
      go_wp2_with (go_at_call 31; refine (big_calls _ _ hgl).mono ?_)
      rintro e w2 ⟨rfl, hb2⟩
      have hK2 : Lib.OthersKept 5 (some w.heap.size) (wr.iterAt (w.heap.size + 1) s (pos + (Utf8.decode s pos).2)) w2 := fun k o hk _ _ => (hb2.block k ((Array.getElem?_eq_some_iff.1 hk).1)).trans hk
      have hI3 : Lib.IsBuilderF 49 5 w.heap.size w.heap.size (Lib.byteCells acc) w2 := by
        exact builder_below hI2 hb2
      have hit3 : Hid (w2.heap[w.heap.size + 1]? = some (.stringIter s (pos + (Utf8.decode s pos).2))) := Lib.hid ((hb2.block _ hsz2).trans HIT2.out)
      have hbw3 := hbw2.trans (hb2.mono (by omega))
      have hsz3 : w.heap.size + 1 < w2.heap.size := Nat.lt_of_lt_of_le hsz2 hb2.size
      by_cases hbig : bigB (Utf8.decode s pos).1 = true
      · have hB := (bigB_iff _).1 hbig
        have hW := big_width s pos hp (by omega)
        have HW := Lib.hid hW
        clear hW
        go_wp2_with (go_at_call 32; refine (writeRune_k w.heap.size w.heap.size _ _ (by omega) (by omega) _ hI3 (by rw [Lib.byteCells_length, HAL.out]; omega) (by omega)).mono ?_)
        rintro e W1 ⟨rfl, h1, b1, k1⟩
        go_wp2
        go_roundw
        case rel =>
          refine ⟨pos + (Utf8.decode s pos).2, f, acc ++ Lib.encodeRune ((Utf8.decode s pos).1 + 32), ?_, k1.iter hit3.out (by omega), hbw3.trans b1, ?_, by omega, ?_, hfit⟩
          · rw [Lib.byteCells_append, Lib.byteCells_encodeRune]; exact Or.inr h1
          · rw [← HACC.out, foldFrom_big s f pos hp hbig, List.append_assoc]
          · rw [List.length_append, HW.out, HAL.out]
        case measure =>
          simp only [World.iterPos, k1.iter hit3.out (by omega), HIT.out]
          omega
      · have hbig' : bigB (Utf8.decode s pos).1 = false := by simpa using hbig
        have hsl := slice_piece s pos hp
        by_cases hr : (Utf8.decode s pos).1 = 65533
        · have hr1 : (((Utf8.decode s pos).1 : Int) != 65533) = false := by rw [hr]; rfl
          have HE := Lib.hid (decode_err s pos hp hr)
          have HR := Lib.hid hr
          clear hr
          obtain ⟨bq, hq⟩ : ∃ b, Lib.hasPrefix (s.extract pos s.size).data.toList [239, 191, 189] = b := ⟨_, rfl⟩
          have HP := Lib.hid hq
          clear hq
          cases bq with
          | true =>
            have HL : Hid (Lib.runeLen ((Utf8.decode s pos).1 : Int) = (Utf8.decode s pos).2) := Lib.hid (by
              rcases HE.out with ⟨_, h⟩ | ⟨h, _⟩
              · rw [HR.out, h]; rfl
              · rw [HP.out] at h; cases h)
            go_wp2_with (first | (go_at_call 33; refine (hasPrefix_of _ _ HP.out _).mono ?_; rintro e w4 ⟨rfl, rfl⟩) | (go_at_call 34; refine (runeLen_of _ _ HL.out _).mono ?_; rintro e w3 ⟨rfl, rfl⟩) | (go_at_call 35; refine (writeString_k w.heap.size w.heap.size _ _ _ hI3 (by rw [Lib.byteCells_length, HAL.out, pieceB_size s _ hp]; omega) (by omega)).mono ?_))
            rintro e W1 ⟨rfl, h1, b1, k1⟩
            go_wp2
            go_roundw
            case rel =>
              refine ⟨pos + (Utf8.decode s pos).2, f, acc ++ piece s pos, ?_, k1.iter hit3.out (by omega), hbw3.trans b1, ?_, by omega, ?_, hfit⟩
              · rw [Lib.byteCells_append]; exact Or.inr h1
              · rw [← HACC.out, foldFrom_not s f pos hp hbig', List.append_assoc]
              · rw [List.length_append, piece_length s pos hp, HAL.out]
            case measure =>
              simp only [World.iterPos, k1.iter hit3.out (by omega), HIT.out]
              omega
          | false =>
            have hw1 : (Utf8.decode s pos).2 = 1 := by
              rcases HE.out with ⟨h, _⟩ | ⟨_, h⟩
              · rw [HP.out] at h; cases h
              · exact h
            have hsl1 : ∀ W, (Instr.slice 9 (.string s) (some (.int .i64 pos)) (some (.int .i64 ((pos : Int) + 1))) none).run Tryd.prog W = .ok (.string (pieceB s pos)) W := by
              intro W
              have := hsl W
              rw [hw1] at this
              exact this
            have HW1 := Lib.hid hw1
            clear hw1
            go_wp2_with (first | (go_at_call 33; refine (hasPrefix_of _ _ HP.out _).mono ?_; rintro e w4 ⟨rfl, rfl⟩) | (go_at_call 35; refine (writeString_k w.heap.size w.heap.size _ _ _ hI3 (by rw [Lib.byteCells_length, HAL.out, pieceB_size s _ hp]; omega) (by omega)).mono ?_))
            rintro e W1 ⟨rfl, h1, b1, k1⟩
            go_wp2
            go_roundw
            case rel =>
              refine ⟨pos + (Utf8.decode s pos).2, f, acc ++ piece s pos, ?_, k1.iter hit3.out (by omega), hbw3.trans b1, ?_, by omega, ?_, hfit⟩
              · rw [Lib.byteCells_append]; exact Or.inr h1
              · rw [← HACC.out, foldFrom_not s f pos hp hbig', List.append_assoc]
              · rw [List.length_append, piece_length s pos hp, HAL.out]
            case measure =>
              simp only [World.iterPos, k1.iter hit3.out (by omega), HIT.out]
              omega
        · have hr1 : (((Utf8.decode s pos).1 : Int) != 65533) = true := by simp; omega
          have HL := Lib.hid (decode_runeLen s pos hp hr)
          go_wp2_with (first | (go_at_call 34; refine (runeLen_of _ _ HL.out _).mono ?_; rintro e w3 ⟨rfl, rfl⟩) | (go_at_call 35; refine (writeString_k w.heap.size w.heap.size _ _ _ hI3 (by rw [Lib.byteCells_length, HAL.out, pieceB_size s _ hp]; omega) (by omega)).mono ?_))
          rintro e W1 ⟨rfl, h1, b1, k1⟩
          go_wp2
          go_roundw
          case rel =>
            refine ⟨pos + (Utf8.decode s pos).2, f, acc ++ piece s pos, ?_, k1.iter hit3.out (by omega), hbw3.trans b1, ?_, by omega, ?_, hfit⟩
            · rw [Lib.byteCells_append]; exact Or.inr h1
            · rw [← HACC.out, foldFrom_not s f pos hp hbig', List.append_assoc]
            · rw [List.length_append, piece_length s pos hp, HAL.out]
          case measure =>
            simp only [World.iterPos, k1.iter hit3.out (by omega), HIT.out]
            omega
    · have hnx : ∀ ty, (Instr.next (.pointer (some ⟨w.heap.size + 1, 0, none⟩)) true ty).run Tryd.prog wr = _ := fun ty => Lib.run_next_end_at wr (w.heap.size + 1) s pos ty hit hp
      go_wp2_with (go_at_call 36; refine (Tryd.Builder_String_any_k w.heap.size w.heap.size acc _ hI (by omega)).mono ?_)
      rintro e W1 ⟨rfl, _, b1, _⟩
      go_wp2
      go_ret
      have hacc := HACC.out
      rw [foldFrom_end bigB s fuel pos hp, List.append_nil] at hacc
      refine ⟨?_, hbw.trans b1⟩
      rw [fold, ← hacc]
      first | rfl | simp
end Go.Proofs.YtlmbkliieckakaaDoor.Nm
