/- The walks of name.Same and name.Pad. -/
import Derived.Test.YtlmbkliieckakaaDoorNm6
import Derived.Test.YtlmbkliieckakaaDoorNm7
import Derived.Test.YtlmbkliieckakaaDoorWMore
set_option linter.unusedVariables false
namespace Go.Proofs.YtlmbkliieckakaaDoor.Nm
open Go.RowKit Go.Proofs.YtlmbkliieckakaaDoorW.PrintMore
attribute [local go_sem] max2_int min2_int max_two min_two

set_option maxHeartbeats 1000000 in
theorem same_calls (a b : ByteArray) (w : World) (hg : GL w) (ha : a.size ≤ 140737488351232) (hb : b.size ≤ 140737488351232) :
    Calls Tryd.prog 11 #[.string a, .string b] w fun e w' => e = .returned (.bool ((fold a).toList == (fold b).toList)) ∧ Below w.heap.size w w' := by
  go_enter Tryd.func11, Tryd.ntmps11
  go_wp2_with fail
  refine (fold_calls a _ hg ha).mono ?_
  rintro e w1 ⟨rfl, h1⟩
  have hg1 := hg.of_below h1
  go_wp2_with fail
  refine (fold_calls b _ hg1 hb).mono ?_
  rintro e w2 ⟨rfl, h2⟩
  go_wp2
  go_ret
  exact ⟨rfl, h1.trans (h2.mono h1.size)⟩

/-- n kept within 0 and 4096. -/
def kept (n : Int) : Int := if n < 0 then 0 else if 4096 < n then 4096 else n
theorem kept_bd (n : Int) : 0 ≤ kept n ∧ kept n ≤ 4096 := by unfold kept; split <;> (try split) <;> omega
def pad (s : ByteArray) (n : Int) : ByteArray := cut s (kept n) ++ ⟨(Lib.repeatL [32] ((kept n).toNat - Lib.runeCount (cut s (kept n)))).toArray⟩

theorem count_le (s : ByteArray) (k : Int) : Lib.runeCount (cut s k) ≤ k.toNat := by rw [runeCount_cut]; omega

theorem repeat_calls (c : Nat) (w : World) (hc : c ≤ 4096) :
    Calls Tryd.prog 39 #[.string ⟨#[32]⟩, .int .i64 c] w fun e w' => e = .returned (.string ⟨(Lib.repeatL [32] c).toArray⟩) ∧ Below w.heap.size w w' :=
  Tryd.strings_Repeat ⟨#[32]⟩ c w (by omega) (by show 1 * c ≤ _; omega)

set_option maxHeartbeats 2000000 in
set_option maxRecDepth 100000 in
theorem pad_calls (s : ByteArray) (n : Int) (w : World) (hs : s.size ≤ 140737488351232) (hn : -9223372036854775808 ≤ n) (hn2 : n ≤ 9223372036854775807) :
    Calls Tryd.prog 20 #[.string s, .int .i64 n] w fun e w' => e = .returned (.string (pad s n)) ∧ Below w.heap.size w w' := by
  obtain ⟨k, hk⟩ : ∃ k, kept n = k := ⟨_, rfl⟩
  have hkb := kept_bd n
  rw [hk] at hkb
  have hcs : (cut s k).size ≤ s.size := by unfold cut; rw [ByteArray.size_extract]; omega
  have hcl := count_le s k
  obtain ⟨d, hd⟩ : ∃ d, k.toNat - Lib.runeCount (cut s k) = d := ⟨_, rfl⟩
  have hdk : (k : Int) - (Lib.runeCount (cut s k) : Int) = (d : Int) := by omega
  have hd4 : d ≤ 4096 := by omega
  have HP : Hid (pad s n = cut s k ++ ⟨(Lib.repeatL [32] d).toArray⟩) := Lib.hid (by unfold pad; rw [hk, hd])
  have HDK := Lib.hid hdk
  have hadd : ∀ W, (Op.stringOp .add (cut s k) ⟨(Lib.repeatL [32] d).toArray⟩).run Tryd.prog W = .ok (.string (cut s k ++ ⟨(Lib.repeatL [32] d).toArray⟩)) W := fun W => run_string_add_sum W _ _ (by
    have : (⟨(Lib.repeatL [32] d).toArray⟩ : ByteArray).size = d := by rw [Lib.size_eq]; simp [Lib.repeatL_length]
    omega)
  clear hd hdk
  have h1 : n < 0 ∨ 4096 < n ∨ (0 ≤ n ∧ n ≤ 4096) := by omega
  rcases h1 with h1 | h1 | ⟨h1, h1'⟩
  · obtain rfl : k = 0 := by rw [← hk]; unfold kept; rw [if_pos h1]
    have HK := Lib.hid hk
    clear hk
    go_enter Tryd.func20, Tryd.ntmps20
    go_wp2_with fail
    refine (cut_calls s 0 _ (by omega) (by omega) (by omega)).mono ?_
    rintro e w1 ⟨rfl, b1⟩
    go_wp2_with fail
    refine (runes_calls _ _ (by omega)).mono ?_
    rintro e w2 ⟨rfl, b2⟩
    go_wp2_with fail
    rw [show (-((Lib.runeCount (cut s 0) : Nat) : Int)) = (d : Int) by have := HDK.out; omega]
    refine (repeat_calls d _ hd4).mono ?_
    rintro e w3 ⟨rfl, b3⟩
    go_wp2
    go_ret
    exact ⟨by rw [HP.out]; rfl, b1.trans ((b2.mono b1.size).trans (b3.mono (Nat.le_trans b1.size b2.size)))⟩
  · obtain rfl : k = 4096 := by rw [← hk]; unfold kept; rw [if_neg (by omega), if_pos h1]
    have HK := Lib.hid hk
    clear hk
    have h2 : ¬ n < 0 := by omega
    go_enter Tryd.func20, Tryd.ntmps20
    go_wp2_with fail
    refine (cut_calls s 4096 _ (by omega) (by omega) (by omega)).mono ?_
    rintro e w1 ⟨rfl, b1⟩
    go_wp2_with fail
    refine (runes_calls _ _ (by omega)).mono ?_
    rintro e w2 ⟨rfl, b2⟩
    go_wp2_with fail
    rw [HDK.out]
    refine (repeat_calls d _ hd4).mono ?_
    rintro e w3 ⟨rfl, b3⟩
    go_wp2
    go_ret
    exact ⟨by rw [HP.out]; rfl, b1.trans ((b2.mono b1.size).trans (b3.mono (Nat.le_trans b1.size b2.size)))⟩
  · obtain rfl : k = n := by rw [← hk]; unfold kept; rw [if_neg (by omega), if_neg (by omega)]
    have HK := Lib.hid hk
    clear hk
    have h2 : ¬ k < 0 := by omega
    have h3 : ¬ 4096 < k := by omega
    go_enter Tryd.func20, Tryd.ntmps20
    go_wp2_with fail
    refine (cut_calls s k _ (by omega) (by omega) (by omega)).mono ?_
    rintro e w1 ⟨rfl, b1⟩
    go_wp2_with fail
    refine (runes_calls _ _ (by omega)).mono ?_
    rintro e w2 ⟨rfl, b2⟩
    go_wp2_with fail
    rw [HDK.out]
    refine (repeat_calls d _ hd4).mono ?_
    rintro e w3 ⟨rfl, b3⟩
    go_wp2
    go_ret
    exact ⟨by rw [HP.out]; rfl, b1.trans ((b2.mono b1.size).trans (b3.mono (Nat.le_trans b1.size b2.size)))⟩
end Go.Proofs.YtlmbkliieckakaaDoor.Nm
