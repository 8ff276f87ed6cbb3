/- The pure side of NameChanges. -/
import Derived.Test.YtlmbkliieckakaaDoorQA11
import Derived.Test.YtlmbkliieckakaaDoorNmP3
import Derived.Test.YtlmbkliieckakaaDoorNmF
set_option linter.unusedVariables false
namespace Go.Proofs.YtlmbkliieckakaaDoor.Nm
open Go QA Go.RowKit Go.Proofs.YtlmbkliieckakaaDoorW.PrintWords

def Asc (l : List Int) : Prop := ∀ z ∈ l, 0 ≤ z ∧ z < 128

theorem str_cons_rest (a : Int) (l : List Int) : (strOfNums (a :: l)).extract 1 (strOfNums (a :: l)).size = strOfNums l := by
  apply ByteArray.ext
  rw [ByteArray.data_extract]
  apply Array.ext'
  simp [strOfNums, ByteArray.size]
  exact List.take_of_length_le (by simp)

theorem bAt_cons (a : Int) (l : List Int) : bAt (strOfNums (a :: l)) 0 = (UInt8.ofNat a.toNat).toNat := by
  rw [bAt_ge (by rw [strOfNums_size]; simp)]
  rfl

theorem nums_str : ∀ l : List Int, Asc l → nums (strOfNums l) = l
  | [], _ => nums_nil (by rw [strOfNums_size]; rfl)
  | a :: l, h => by
    have ha := h a (List.mem_cons_self ..)
    have hs : 0 < (strOfNums (a :: l)).size := by rw [strOfNums_size]; simp
    have hb : bAt (strOfNums (a :: l)) 0 = a.toNat := by
      rw [bAt_cons, UInt8.toNat_ofNat']; omega
    have hd : Utf8.decode (strOfNums (a :: l)) 0 = (a.toNat, 1) := by
      have hb' : ((strOfNums (a :: l)).get! (0 + 0)).toNat = a.toNat := hb
      rcases decode_cases (strOfNums (a :: l)) 0 hs with ⟨c, e, _, h1⟩ | ⟨c, e, _, _, _, h1, _⟩ | ⟨c, e, _, _, _, _, h1, _⟩ | ⟨c, e, _, _, _, h1, _⟩ | ⟨e, h1, _⟩
      · rw [e, ← hb', h1]
      all_goals omega
    have ih := nums_str l (fun z hz => h z (List.mem_cons_of_mem _ hz))
    rw [nums_cons _ hs, hd]
    show ((a.toNat : Int)) :: nums ((strOfNums (a :: l)).extract 1 (strOfNums (a :: l)).size) = _
    rw [str_cons_rest, ih]
    congr 1
    omega

theorem and127 (x : Int) (h0 : 0 ≤ x) (h1 : x < 256) : Go.bits .and .u8 x 127 = x % 128 :=
  bits_mask .u8 8 (by decide) wraps_u8 7 (by decide) x h0 h1

theorem asc_append {x y : List Int} (hx : Asc x) (hy : Asc y) : Asc (x ++ y) := by
  intro z hz
  rcases List.mem_append.1 hz with h | h
  · exact hx z h
  · exact hy z h
theorem asc_take {x : List Int} (n : Nat) (hx : Asc x) : Asc (x.take n) := fun z hz => hx z (List.mem_of_mem_take hz)
theorem asc_drop {x : List Int} (n : Nat) (hx : Asc x) : Asc (x.drop n) := fun z hz => hx z (List.mem_of_mem_drop hz)
theorem asc_one {a : Int} (h0 : 0 ≤ a) (h1 : a < 128) : Asc [a] := by
  intro z hz
  rw [List.mem_singleton.1 hz]
  exact ⟨h0, h1⟩

theorem ed_parts (t : List Int) (p q : Nat) (m : List Int) (hp : p ≤ q) (hq : q ≤ t.length) (hm : m.length ≤ 1) (hw : q - p ≤ 1) : Ed 1 t (t.take p ++ m ++ t.drop q) := by
  have e : t = t.take p ++ (t.drop p).take (q - p) ++ t.drop q := by
    have h1 : t.drop q = (t.drop p).drop (q - p) := by rw [List.drop_drop]; congr 1; omega
    rw [h1, List.append_assoc, List.take_append_drop, List.take_append_drop]
  have hmid : Ed 1 ((t.drop p).take (q - p)) m := by
    refine (Ed.most _ _).mono ?_
    have : ((t.drop p).take (q - p)).length ≤ 1 := by rw [List.length_take]; omega
    omega
  have h := Ed.append (Ed.append (Ed.refl (t.take p)) hmid) (Ed.refl (t.drop q))
  rw [← e] at h
  simpa using h

theorem tmod_at (x : Int) (n : Nat) (a : Int) (h : (if Int.tmod x ((n : Int) + 1) < 0 then -(Int.tmod x ((n : Int) + 1)) else Int.tmod x ((n : Int) + 1)) = a) : 0 ≤ a ∧ a ≤ n := by
  have h1 : (Int.tmod x ((n : Int) + 1)).natAbs = x.natAbs % (n + 1) := by
    rw [Int.natAbs_tmod]
    congr 1
  have h2 := Nat.mod_lt x.natAbs (Nat.succ_pos n)
  have h3 : x.natAbs % (n + 1) < n + 1 := h2
  subst h
  split <;> omega

structure Okk (l0 t : List Int) (i : Nat) : Prop where
  asc : Asc t
  len : t.length ≤ l0.length + i
  ed : Ed i l0 t
  one : i = 1 → t.length = l0.length + 1

theorem wrap_nat (p : Nat) (h : p < 1000000) : wrap64 ((p : Int) + 1) = ((p + 1 : Nat) : Int) := by rw [wrap_id (by omega) (by omega)]; omega

set_option maxHeartbeats 400000 in
theorem changes_l1 (places l0 : List Int) (put : Int) (h0 : Asc l0) (hl0 : l0.length ≤ 3000) (hn : places.length ≤ 100) (hp0 : 0 ≤ put) (hp1 : put < 128) : ∀ (r i k : Nat) (t : List Int), i + r = places.length → Okk l0 t i → 3 * r < k →
    joustlaw06_NameChanges.l1 k places t (strOfNums l0) put (i : Int) = some true
  | 0, i, k, t, hi, ok, hk => by
    obtain ⟨k, rfl⟩ : ∃ m, k = m + 1 := ⟨k - 1, by omega⟩
    simp only [joustlaw06_NameChanges.l1]
    have hlen := ok.len
    have s0 := strOfNums_size l0
    have s1 := strOfNums_size t
    have hbd := near_bd l0 t
    have hle := near_le l0 t ok.ed
    have hnear : near (strOfNums l0) (strOfNums t) = nearL l0 t := by unfold near; rw [nums_str _ h0, nums_str _ ok.asc]
    rw [if_neg (by omega), Near_f (by omega) (by omega), Option.bind_some, less_f, Option.bind_some, hnear, if_pos (by unfold mn; split <;> omega)]
    by_cases h1 : (places.length : Int) = 1
    · rw [if_pos h1]
      have e1 : i = 1 := by omega
      have hge := near_ge t l0
      rw [near_symm] at hge
      have := ok.one e1
      unfold mn at hge
      have hv : nearL l0 t = 1 := by split at hge <;> omega
      rw [hv]; rfl
    · rw [if_neg h1]
  | r + 1, i, k, t, hi, ok, hk => by
    obtain ⟨k, rfl⟩ : ∃ m, k = m + 3 := ⟨k - 3, by omega⟩
    have hlen := ok.len
    simp only [joustlaw06_NameChanges.l1]
    rw [if_pos (by omega), if_pos (by omega), wrap_id (x := (t.length : Int) + 1) (by omega) (by omega), if_neg (by omega)]
    have key : ∀ t', Asc t' → Ed 1 t t' → t'.length ≤ t.length + 1 → (i = 0 → t'.length = t.length + 1) → joustlaw06_NameChanges.l1 k places t' (strOfNums l0) put (wrap64 ((i : Int) + 1)) = some true := by
      intro t' ha he hl ho
      rw [wrap_nat i (by omega)]
      refine changes_l1 places l0 put h0 hl0 hn hp0 hp1 r (i + 1) k t' (by omega) ⟨ha, by omega, ?_, ?_⟩ (by omega)
      · exact Ed.trans _ i 1 l0 t t' (Nat.le_refl _) ok.ed he
      · intro h
        have i0 : i = 0 := by omega
        subst i0
        have := Ed.zero ok.ed
        rw [ho rfl, this]
    have main : ∀ a : Int, 0 ≤ a → a ≤ t.length → joustlaw06_NameChanges.j3 (k + 2) places t (strOfNums l0) put (i : Int) a = some true := by
      intro a ha hb
      obtain ⟨p, rfl⟩ := Int.eq_ofNat_of_zero_le ha
      have hp : p ≤ t.length := by omega
      have tl : (t.take p).length = p := by rw [List.length_take]; omega
      have dl := List.length_drop (i := p) (l := t)
      have dl1 := List.length_drop (i := p + 1) (l := t)
      simp only [joustlaw06_NameChanges.j3]
      rw [if_pos ha, if_pos hb, Option.bind_some, Int.toNat_natCast, if_pos (by rw [tl]; simp; omega), Option.bind_some, List.nil_append]
      have ins : joustlaw06_NameChanges.j4 (k + 1) places t (strOfNums l0) put (i : Int) (p : Int) (t.take p) true = some true := by
        simp only [joustlaw06_NameChanges.j4]
        rw [if_pos trivial, if_pos (by omega), Option.bind_some, if_pos (by omega), if_pos (by omega), Option.bind_some, Int.toNat_natCast, if_pos (by simp; omega)]
        refine key _ (asc_append (asc_append (asc_take _ ok.asc) (asc_one hp0 hp1)) (asc_drop _ ok.asc)) (ed_parts t p p [put] (Nat.le_refl _) hp (by simp) (by omega)) ?_ ?_
        · simp; omega
        · intro _; simp; omega
      by_cases h3 : Int.tmod (i : Int) 3 = 0
      · rw [if_pos h3]; exact ins
      · rw [if_neg h3]
        have i0 : i ≠ 0 := by intro h; subst h; exact h3 rfl
        by_cases hpe : (p : Int) = (t.length : Int)
        · rw [show ((p : Int) == (t.length : Int)) = true from beq_iff_eq.2 hpe]; exact ins
        · rw [show ((p : Int) == (t.length : Int)) = false from beq_eq_false_iff_ne.2 hpe]
          simp only [joustlaw06_NameChanges.j4]
          rw [if_neg (by decide)]
          by_cases h1 : Int.tmod (i : Int) 3 = 1
          · rw [if_pos h1, wrap_nat p (by omega), if_pos (by omega), if_pos (by omega), Option.bind_some, Int.toNat_natCast, if_pos (by omega)]
            have e : t.take p ++ t.drop (p + 1) = t.take p ++ [] ++ t.drop (p + 1) := by simp
            rw [e]
            refine key _ ?_ (ed_parts t p (p + 1) [] (by omega) (by omega) (by simp) (by omega)) ?_ (fun h => absurd h i0)
            · rw [← e]; exact asc_append (asc_take _ ok.asc) (asc_drop _ ok.asc)
            · simp; omega
          · rw [if_neg h1, if_pos (by omega), Option.bind_some, wrap_nat p (by omega), if_pos (by omega), if_pos (by omega), Option.bind_some, Int.toNat_natCast, if_pos (by simp; omega)]
            refine key _ (asc_append (asc_append (asc_take _ ok.asc) (asc_one hp0 hp1)) (asc_drop _ ok.asc)) (ed_parts t p (p + 1) [put] (by omega) (by omega) (by simp) (by omega)) ?_ (fun h => absurd h i0)
            simp; omega
    obtain ⟨a, hat⟩ : ∃ a, (if Int.tmod (rd places (i : Int)) ((t.length : Int) + 1) < 0 then -(Int.tmod (rd places (i : Int)) ((t.length : Int) + 1)) else Int.tmod (rd places (i : Int)) ((t.length : Int) + 1)) = a := ⟨_, rfl⟩
    have hbd := tmod_at _ _ _ hat
    by_cases hneg : Int.tmod (rd places (i : Int)) ((t.length : Int) + 1) < 0
    · rw [if_pos hneg] at hat ⊢
      rw [hat, wrap_id (by omega) (by omega)]
      exact main a hbd.1 hbd.2
    · rw [if_neg hneg] at hat ⊢
      rw [hat]
      exact main a hbd.1 hbd.2

theorem changes_l0 (s : ByteArray) (places : List Int) (x : Int) (hs : s.size ≤ 3000) (hn : places.length ≤ 100) (hx0 : 0 ≤ x) (hx1 : x < 256) : ∀ (r i k : Nat) (t : List Int), i + r = s.size → t.length = i → Asc t → r + 400 < k →
    joustlaw06_NameChanges.l0 k s places x t (i : Int) = some true
  | 0, i, k, t, hi, hl, ha, hk => by
    obtain ⟨k, rfl⟩ : ∃ m, k = m + 1 := ⟨k - 1, by omega⟩
    simp only [joustlaw06_NameChanges.l0]
    rw [if_neg (by omega), and127 x hx0 hx1]
    exact changes_l1 places t (x % 128) ha (by omega) hn (by omega) (by omega) places.length 0 k t (by omega) ⟨ha, by omega, Ed.refl t, by omega⟩ (by omega)
  | r + 1, i, k, t, hi, hl, ha, hk => by
    obtain ⟨k, rfl⟩ : ∃ m, k = m + 1 := ⟨k - 1, by omega⟩
    simp only [joustlaw06_NameChanges.l0]
    have hb := bAt_lt s i
    rw [if_pos (by omega), if_pos (by omega), if_pos (by omega), bt_bAt s i (by omega), and127 _ (by omega) (by omega), wrap_id (by omega) (by omega)]
    have := changes_l0 s places x hs hn hx0 hx1 r (i + 1) k (t ++ [(bAt s i : Int) % 128]) (by omega) (by simp [hl]) (asc_append ha (asc_one (by omega) (by omega))) (by omega)
    rw [show ((i : Int) + 1) = ((i + 1 : Nat) : Int) by omega]
    exact this

theorem changes_pure (a : ByteArray) (l : List Int) (x : Int) (ha : a.size ≤ 140737488351232) (h1 : l.length ≤ maxLen) (h2 : l.length * 8 ≤ 140737488351232) (h3 : ∀ n ∈ l, (Lit.int .i64 n).wf = true) (hx : (Lit.int .u8 x).wf = true) : ∃ k, joustlaw06_NameChanges.f k a l x = some true := by
  refine ⟨4000, ?_⟩
  have hx' : 0 ≤ x ∧ x < 256 := by
    simp [Lit.wf, IntKind.min, IntKind.max, IntKind.signed, IntKind.bits] at hx
    omega
  unfold joustlaw06_NameChanges.f
  rw [alive_true, Option.bind_some, if_pos rfl]
  have hj : ∀ k, joustlaw06_NameChanges.j0 (k + 1) a l x true = some true := by
    intro k
    simp only [joustlaw06_NameChanges.j0]
    rw [if_pos trivial, alive_true]; rfl
  by_cases h : (a.size : Int) > 3000
  · rw [if_pos h]; exact hj 3999
  rw [if_neg h]
  by_cases h' : (l.length : Int) > 100
  · rw [decide_eq_true h']; exact hj 3999
  rw [decide_eq_false h']
  show joustlaw06_NameChanges.j0 (3999 + 1) a l x false = some true
  simp only [joustlaw06_NameChanges.j0]
  rw [if_neg (by decide)]
  exact changes_l0 a l x (by omega) (by omega) hx'.1 hx'.2 a.size 0 3999 [] (by omega) rfl (by intro z hz; cases hz) (by omega)
end Go.Proofs.YtlmbkliieckakaaDoor.Nm
