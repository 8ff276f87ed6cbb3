/- What the statement FrameDecodes leans on, part 2: words, walks and plain laws of this session's own. -/
import Derived.Test.YtniabkphbnimaaaGreatDoorProg
import Derived.Test.YtniabkphbnimaaaGreatDoorMFrameDecodes1
import Derived.ArgAppend
import Derived.Below
import Derived.BigQuiet
import Derived.Deep.AppendLies
import Derived.Deep.CutBlock
import Derived.Deep.DeepCutAuto
import Derived.Deep.Draws
import Derived.Deep.LoopGhost
import Derived.Deep.OwnRows
import Derived.Deep.QuietTactic
import Derived.Deep.RegionHeld3
import Derived.Deep.RegionLaw
import Derived.Deep.RegionWith
import Derived.Defers
import Derived.Great.Walk
import Derived.KernelRfl
import Derived.Laws.AppendOwn
import Derived.Laws.BitsLemmas
import Derived.Laws.BytesArg
import Derived.Laws.CopyOwn
import Derived.Laws.CopyRow
import Derived.Laws.IdiomCopy
import Derived.Laws.IdiomStrings
import Derived.Laws.MakeOwn
import Derived.Laws.OwnMore
import Derived.Laws.Rows
import Derived.Laws.Slices
import Derived.Lib.AppendStr
import Derived.Lib.ConvBytes
import Derived.Maps.AppendAt
import Derived.Maps.OwnSet
import Derived.OrdersHeld
import Derived.OwnWalk
import Derived.Recover
import Derived.RowKit
import Derived.RowKit3
import Derived.Shelf.Strings.Repeat
import Derived.Shelf.Strings.Trim
import Derived.Tactics
import Derived.WalkKit
import Derived.WalkSmall
import Derived.WideLaws
set_option linter.unusedVariables false
set_option linter.unusedSimpArgs false
namespace Go.Proofs.YtniabkphbnimaaaGreatDoor.Sh
open Go Go.RowKit Go.Maps Go.Proofs.YtniabkphbnimaaaGreatDoorW.PrintWords Go.Proofs.YtniabkphbnimaaaGreatDoorW.PrintLast Go.Proofs.YtniabkphbnimaaaGreatDoor.Bs
def bit0 (c : UInt8) : Bool := decide (c.toNat % 2 = 1)
def bit1 (c : UInt8) : Bool := decide (c.toNat / 2 % 2 = 1)
theorem bits_and1 (c : UInt8) : (Go.bits .and .u64 (c.toNat : Int) 1 != 0) = bit0 c := by
  have key : ∀ i : Fin 256, (Go.bits .and .u64 (i.val : Int) 1 != 0) = decide (i.val % 2 = 1) := by decide +kernel
  exact key ⟨c.toNat, c.toNat_lt⟩
theorem bits_and2 (c : UInt8) : (Go.bits .and .u64 (c.toNat : Int) 2 != 0) = bit1 c := by
  have key : ∀ i : Fin 256, (Go.bits .and .u64 (i.val : Int) 2 != 0) = decide (i.val / 2 % 2 = 1) := by decide +kernel
  exact key ⟨c.toNat, c.toNat_lt⟩
set_option maxHeartbeats 8000000 in
set_option maxRecDepth 100000 in
theorem getCommand_ok (w : World) (R p : Nat) (d : Dg) (bad : Bool) (a b c : UInt8) (l : List UInt8) (H : RgAt w R p d bad (a :: b :: c :: l)) : Calls Tryz.prog 68 #[.pointer (some ⟨R, 0, none⟩)] w fun e w' => e = .returned (.tuple #[]) ∧ RgAt w' R p { d with thr := sbyte a, trn := sbyte b, fire := bit0 c, boost := bit1 c } (decide (3 < c.toNat)) l ∧ Mv w w' (fun k => k = R ∨ k = p) := by
  have HR := Aside0.mk H
  have z1 := bits_and1 c
  have z2 := bits_and2 c
  clear H
  go_enter Tryz.func68, Tryz.ntmps68
  go_wp2_with (first
    | (go_at_call 93; (with_reducible refine (sig_ok w R p d bad a _ HR.out).mono ?_); rintro e w2 ⟨rfl, hr2, hm2⟩; have HR2 := Aside0.mk hr2; have HM2 := Aside0.mk hm2; have c10 : w2.cell? ⟨R, 10, none⟩ = some (.int .i64 d.thr) := hr2.at_ rfl; have f10 := Wd_thaw hr2.2.1 10; have HR3 := Aside0.mk (show RgAt (w2.setCell ⟨R, 10, none⟩ (.int .i64 (sbyte a))) R p { d with thr := sbyte a } bad _ from hr2.setX 10 _ rfl); have HM3 := Aside0.mk (show Mv w (w2.setCell ⟨R, 10, none⟩ (.int .i64 (sbyte a))) (fun k => k = R ∨ k = p) from Rm.set hm2); clear hr2 hm2)
    | (go_at_call 93; (with_reducible refine (sig_ok _ R p { d with thr := sbyte a } bad b _ HR3.out).mono ?_); rintro e w4 ⟨rfl, hr4, hm4⟩; have HR4 := Aside0.mk hr4; have HM4 := Aside0.mk hm4; have c11 : w4.cell? ⟨R, 11, none⟩ = some (.int .i64 d.trn) := hr4.at_ rfl; have f11 := Wd_thaw hr4.2.1 11; have HR5 := Aside0.mk (show RgAt (w4.setCell ⟨R, 11, none⟩ (.int .i64 (sbyte b))) R p { d with thr := sbyte a, trn := sbyte b } bad _ from hr4.setX 11 _ rfl); have HM5 := Aside0.mk (show Mv w (w4.setCell ⟨R, 11, none⟩ (.int .i64 (sbyte b))) (fun k => k = R ∨ k = p) from (HM3.out.then (hm4.mono (fun k hk => Or.inr hk)) (fun k hk => Or.inl hk)).set 11 _ (Or.inl (Or.inl rfl))); clear hr4 hm4)
    | (go_at_call 91; (with_reducible refine (num1_ok _ R p { d with thr := sbyte a, trn := sbyte b } bad c l HR5.out).mono ?_); rintro e w6 ⟨rfl, hr6, hm6⟩; have HR6 := Aside0.mk hr6; have HM6 := Aside0.mk hm6; have c12 : w6.cell? ⟨R, 12, none⟩ = some (.bool d.fire) := hr6.at_ rfl; have f12 := Wd_thaw hr6.2.1 12; have c13 : w6.cell? ⟨R, 13, none⟩ = some (.bool d.boost) := hr6.at_ rfl; have f13 := Wd_thaw hr6.2.1 13; have c16 : w6.cell? ⟨R, 16, none⟩ = some (.bool bad) := hr6.at_ rfl; have f16 := Wd_thaw hr6.2.1 16; clear hr6 hm6))
  go_end0
  have e3 : decide ((3 : Int) < (c.toNat : Int)) = decide (3 < c.toNat) := by
    by_cases h : 3 < c.toNat
    · rw [decide_eq_true h, decide_eq_true (by omega)]
    · rw [decide_eq_false h, decide_eq_false (by omega)]
  rw [e3]
  have h12 : RgAt (w6.setCell ⟨R, 12, none⟩ (.bool (bit0 c))) R p { d with thr := sbyte a, trn := sbyte b, fire := bit0 c } bad l := HR6.out.setX 12 _ rfl
  have h13 : RgAt ((w6.setCell ⟨R, 12, none⟩ (.bool (bit0 c))).setCell ⟨R, 13, none⟩ (.bool (bit1 c))) R p { d with thr := sbyte a, trn := sbyte b, fire := bit0 c, boost := bit1 c } bad l := h12.setX 13 _ rfl
  refine ⟨rfl, h13.setX 16 _ rfl, ?_⟩
  exact (((HM5.out.then (HM6.out.mono (fun k hk => Or.inr hk)) (fun k hk => Or.inl hk)).set 12 _ (Or.inl (Or.inl rfl))).set 13 _ (Or.inl (Or.inl rfl))).set 16 _ (Or.inl (Or.inl rfl))
set_option maxHeartbeats 8000000 in
set_option maxRecDepth 100000 in
theorem getCommand_short0 (w : World) (R p : Nat) (d : Dg) (bad : Bool) (H : RgAt w R p d bad []) : Calls Tryz.prog 68 #[.pointer (some ⟨R, 0, none⟩)] w fun e w' => e = short ∧ Mv w w' (fun k => k = R ∨ k = p) := by
  have HR := Aside0.mk H
  clear H
  go_enter Tryz.func68, Tryz.ntmps68
  go_wp2_with (go_at_call 93; (with_reducible refine (sig_short _ R p d bad HR.out).mono ?_); rintro e w2 ⟨rfl, rfl⟩)
  exact ⟨rfl, rfl, Mv.refl _ _⟩
set_option maxHeartbeats 8000000 in
set_option maxRecDepth 100000 in
theorem getCommand_short1 (w : World) (R p : Nat) (d : Dg) (bad : Bool) (a : UInt8) (H : RgAt w R p d bad [a]) : Calls Tryz.prog 68 #[.pointer (some ⟨R, 0, none⟩)] w fun e w' => e = short ∧ Mv w w' (fun k => k = R ∨ k = p) := by
  have HR := Aside0.mk H
  clear H
  go_enter Tryz.func68, Tryz.ntmps68
  go_wp2_with (first
    | (go_at_call 93; (with_reducible refine (sig_ok w R p d bad a _ HR.out).mono ?_); rintro e w2 ⟨rfl, hr2, hm2⟩; have HR2 := Aside0.mk hr2; have HM2 := Aside0.mk hm2; have c10 : w2.cell? ⟨R, 10, none⟩ = some (.int .i64 d.thr) := hr2.at_ rfl; have f10 := Wd_thaw hr2.2.1 10; have HR3 := Aside0.mk (show RgAt (w2.setCell ⟨R, 10, none⟩ (.int .i64 (sbyte a))) R p { d with thr := sbyte a } bad _ from hr2.setX 10 _ rfl); have HM3 := Aside0.mk (show Mv w (w2.setCell ⟨R, 10, none⟩ (.int .i64 (sbyte a))) (fun k => k = R ∨ k = p) from Rm.set hm2); clear hr2 hm2)
    | (go_at_call 93; (with_reducible refine (sig_short _ R p { d with thr := sbyte a } bad HR3.out).mono ?_); rintro e w4 ⟨rfl, rfl⟩))
  exact ⟨rfl, rfl, HM3.out⟩
set_option maxHeartbeats 8000000 in
set_option maxRecDepth 100000 in
theorem getCommand_short2 (w : World) (R p : Nat) (d : Dg) (bad : Bool) (a b : UInt8) (H : RgAt w R p d bad [a, b]) : Calls Tryz.prog 68 #[.pointer (some ⟨R, 0, none⟩)] w fun e w' => e = short ∧ Mv w w' (fun k => k = R ∨ k = p) := by
  have HR := Aside0.mk H
  clear H
  go_enter Tryz.func68, Tryz.ntmps68
  go_wp2_with (first
    | (go_at_call 93; (with_reducible refine (sig_ok w R p d bad a _ HR.out).mono ?_); rintro e w2 ⟨rfl, hr2, hm2⟩; have HR2 := Aside0.mk hr2; have HM2 := Aside0.mk hm2; have c10 : w2.cell? ⟨R, 10, none⟩ = some (.int .i64 d.thr) := hr2.at_ rfl; have f10 := Wd_thaw hr2.2.1 10; have HR3 := Aside0.mk (show RgAt (w2.setCell ⟨R, 10, none⟩ (.int .i64 (sbyte a))) R p { d with thr := sbyte a } bad _ from hr2.setX 10 _ rfl); have HM3 := Aside0.mk (show Mv w (w2.setCell ⟨R, 10, none⟩ (.int .i64 (sbyte a))) (fun k => k = R ∨ k = p) from Rm.set hm2); clear hr2 hm2)
    | (go_at_call 93; (with_reducible refine (sig_ok _ R p { d with thr := sbyte a } bad b _ HR3.out).mono ?_); rintro e w4 ⟨rfl, hr4, hm4⟩; have HR4 := Aside0.mk hr4; have HM4 := Aside0.mk hm4; have c11 : w4.cell? ⟨R, 11, none⟩ = some (.int .i64 d.trn) := hr4.at_ rfl; have f11 := Wd_thaw hr4.2.1 11; have HR5 := Aside0.mk (show RgAt (w4.setCell ⟨R, 11, none⟩ (.int .i64 (sbyte b))) R p { d with thr := sbyte a, trn := sbyte b } bad _ from hr4.setX 11 _ rfl); have HM5 := Aside0.mk (show Mv w (w4.setCell ⟨R, 11, none⟩ (.int .i64 (sbyte b))) (fun k => k = R ∨ k = p) from (HM3.out.then (hm4.mono (fun k hk => Or.inr hk)) (fun k hk => Or.inl hk)).set 11 _ (Or.inl (Or.inl rfl))); clear hr4 hm4)
    | (go_at_call 91; (with_reducible refine (number_short _ R p 1 1 rfl { d with thr := sbyte a, trn := sbyte b } bad [] HR5.out (by decide)).mono ?_); rintro e w6 ⟨rfl, rfl⟩))
  exact ⟨rfl, rfl, HM5.out⟩
/-- What getting a field does to the datagram, the mark and what is left; none: too short. -/
def getF (f : Fld) (s : Dg × Bool × List UInt8) : Option (Dg × Bool × List UInt8) :=
  let d := s.1
  let bad := s.2.1
  let l := s.2.2
  match f with
  | .nonce => if 16 ≤ l.length then some ({ d with nonce := str (l.take 16) }, bad, l.drop 16) else none
  | .zeros => if 76 ≤ l.length then some (d, decide (Lib.trimB (l.take 76) 0 ≠ []), l.drop 76) else none
  | .epoch => if 8 ≤ l.length then some ({ d with epoch := num (l.take 8) }, bad, l.drop 8) else none
  | .cookie => if 32 ≤ l.length then some ({ d with cookie := str (l.take 32) }, bad, l.drop 32) else none
  | .name => match l with
    | [] => none
    | b :: t => if b.toNat ≤ t.length then some ({ d with name := str (t.take b.toNat) }, bad, t.drop b.toNat) else none
  | .tag => if 32 ≤ l.length then some ({ d with tag := str (l.take 32) }, bad, l.drop 32) else none
  | .session => if 8 ≤ l.length then some ({ d with session := num (l.take 8) }, bad, l.drop 8) else none
  | .player => match l with
    | [] => none
    | b :: t => some ({ d with player := (b.toNat : Int) }, bad, t)
  | .salt => if 16 ≤ l.length then some ({ d with salt := str (l.take 16) }, bad, l.drop 16) else none
  | .seq => if 8 ≤ l.length then some ({ d with seq := num (l.take 8) }, bad, l.drop 8) else none
  | .command => match l with
    | a :: b :: c :: t => some ({ d with thr := sbyte a, trn := sbyte b, fire := bit0 c, boost := bit1 c }, decide (3 < c.toNat), t)
    | _ => none
  | .data => if 32 ≤ l.length then some ({ d with data := str (l.take (l.length - 32)) }, bad, l.drop (l.length - 32)) else none
theorem get_ok (f : Fld) (w : World) (R p : Nat) (s s' : Dg × Bool × List UInt8) (hl : s.2.2.length < 4611686018427387904) (H : RgAt w R p s.1 s.2.1 s.2.2) (h : getF f s = some s') : Calls Tryz.prog f.get #[.pointer (some ⟨R, 0, none⟩)] w fun e w' => e = .returned (.tuple #[]) ∧ RgAt w' R p s'.1 s'.2.1 s'.2.2 ∧ Mv w w' (fun k => k = R ∨ k = p) := by
  obtain ⟨d, bad, l⟩ := s
  simp only at hl H
  cases f with
  | nonce => simp only [getF] at h; split at h; (cases h; exact getNonce_ok w R p d bad l H (by assumption)); cases h
  | zeros => simp only [getF] at h; split at h; (cases h; exact getZeros_ok w R p d bad l H (by assumption)); cases h
  | epoch => simp only [getF] at h; split at h; (cases h; exact getEpoch_ok w R p d bad l H (by assumption)); cases h
  | cookie => simp only [getF] at h; split at h; (cases h; exact getCookie_ok w R p d bad l H (by assumption)); cases h
  | name =>
    cases l with
    | nil => cases h
    | cons b t => simp only [getF] at h; split at h; (cases h; exact getName_ok w R p d bad b t H (by assumption)); cases h
  | tag => simp only [getF] at h; split at h; (cases h; exact getTag_ok w R p d bad l H (by assumption)); cases h
  | session => simp only [getF] at h; split at h; (cases h; exact getSession_ok w R p d bad l H (by assumption)); cases h
  | player =>
    cases l with
    | nil => cases h
    | cons b t => cases h; exact getPlayer_ok w R p d bad b t H
  | salt => simp only [getF] at h; split at h; (cases h; exact getSalt_ok w R p d bad l H (by assumption)); cases h
  | seq => simp only [getF] at h; split at h; (cases h; exact getSeq_ok w R p d bad l H (by assumption)); cases h
  | command =>
    match l, H, h with
    | a :: b :: c :: t, H, h => cases h; exact getCommand_ok w R p d bad a b c t H
  | data => simp only [getF] at h; split at h; (cases h; exact getData_ok w R p d bad l H (by assumption) hl); cases h
theorem get_short (f : Fld) (w : World) (R p : Nat) (s : Dg × Bool × List UInt8) (H : RgAt w R p s.1 s.2.1 s.2.2) (h : getF f s = none) : Calls Tryz.prog f.get #[.pointer (some ⟨R, 0, none⟩)] w fun e w' => e = short ∧ Mv w w' (fun k => k = R ∨ k = p) := by
  obtain ⟨d, bad, l⟩ := s
  simp only at H
  cases f with
  | nonce => simp only [getF] at h; split at h; cases h; exact getNonce_short w R p d bad l H (by omega)
  | zeros => simp only [getF] at h; split at h; cases h; exact getZeros_short w R p d bad l H (by omega)
  | epoch => simp only [getF] at h; split at h; cases h; exact getEpoch_short w R p d bad l H (by omega)
  | cookie => simp only [getF] at h; split at h; cases h; exact getCookie_short w R p d bad l H (by omega)
  | name =>
    cases l with
    | nil => exact getName_short w R p d bad [] H rfl
    | cons b t => simp only [getF] at h; split at h; cases h; exact getName_short2 w R p d bad b t H (by omega)
  | tag => simp only [getF] at h; split at h; cases h; exact getTag_short w R p d bad l H (by omega)
  | session => simp only [getF] at h; split at h; cases h; exact getSession_short w R p d bad l H (by omega)
  | player =>
    cases l with
    | nil => exact getPlayer_short w R p d bad [] H rfl
    | cons b t => cases h
  | salt => simp only [getF] at h; split at h; cases h; exact getSalt_short w R p d bad l H (by omega)
  | seq => simp only [getF] at h; split at h; cases h; exact getSeq_short w R p d bad l H (by omega)
  | command =>
    match l, H, h with
    | [], H, h => exact getCommand_short0 w R p d bad H
    | [a], H, h => exact getCommand_short1 w R p d bad a H
    | [a, b], H, h => exact getCommand_short2 w R p d bad a b H
  | data => simp only [getF] at h; split at h; cases h; exact getData_short w R p d bad l H (by omega)
end Go.Proofs.YtniabkphbnimaaaGreatDoor.Sh
namespace Go.Proofs.YtniabkphbnimaaaGreatDoor.Sh
open Go Go.RowKit Go.Maps Go.Proofs.YtniabkphbnimaaaGreatDoorW.PrintWords Go.Proofs.YtniabkphbnimaaaGreatDoorW.PrintLast Go.Proofs.YtniabkphbnimaaaGreatDoor.Bs
/-- What putting a field does to the mark and to the bytes. -/
def putF (d : Dg) (f : Fld) (s : Bool × Option (List UInt8)) : Bool × Option (List UInt8) :=
  match f with
  | .nonce => (s.1 || decide (d.nonce.size ≠ 16), s.2.map (· ++ bl d.nonce))
  | .zeros => (s.1, s.2.map (· ++ List.replicate 76 0))
  | .epoch => (s.1, s.2.map (· ++ len8 d.epoch))
  | .cookie => (s.1 || decide (d.cookie.size ≠ 32), s.2.map (· ++ bl d.cookie))
  | .name => (s.1, txt s.2 (bl d.name))
  | .tag => (s.1 || decide (d.tag.size ≠ 32), s.2.map (· ++ bl d.tag))
  | .session => (s.1, s.2.map (· ++ len8 d.session))
  | .player => (s.1 || decide (d.player < 0), one s.2 d.player)
  | .salt => (s.1 || decide (d.salt.size ≠ 16), s.2.map (· ++ bl d.salt))
  | .seq => (s.1, s.2.map (· ++ len8 d.seq))
  | .command => (s.1, (sgn (sgn s.2 d.thr) d.trn).map (· ++ [UInt8.ofNat (flags d.fire d.boost)]))
  | .data => (s.1, s.2.map (· ++ bl d.data))
theorem put_calls (f : Fld) (w : World) (W p q base : Nat) (d : Dg) (s : Bool × Option (List UInt8)) (m : Nat) (hm : m ≤ 29) (hd : d.ok) (H : WgAt w W p q base d s.1 s.2) (hr : Sz m s.2) :
    Calls Tryz.prog f.put #[.pointer (some ⟨W, 0, none⟩)] w fun e w' => e = .returned (.tuple #[]) ∧ WgAt w' W p q base d (putF d f s).1 (putF d f s).2 ∧ Gm w w' W p base := by
  have hm2 : m ≤ 32 := by omega
  cases f with
  | nonce => exact putNonce_calls w W p q base d s.1 s.2 m hm2 hd H hr
  | zeros => exact putZeros_calls w W p q base d s.1 s.2 m hm2 hd H hr
  | epoch => exact putEpoch_calls w W p q base d s.1 s.2 m hm2 hd H hr
  | cookie => exact putCookie_calls w W p q base d s.1 s.2 m hm2 hd H hr
  | name => exact putName_calls w W p q base d s.1 s.2 m hm2 hd H hr
  | tag => exact putTag_calls w W p q base d s.1 s.2 m hm2 hd H hr
  | session => exact putSession_calls w W p q base d s.1 s.2 m hm2 hd H hr
  | player => exact putPlayer_calls w W p q base d s.1 s.2 m hm2 hd H hr
  | salt => exact putSalt_calls w W p q base d s.1 s.2 m hm2 hd H hr
  | seq => exact putSeq_calls w W p q base d s.1 s.2 m hm2 hd H hr
  | command => exact putCommand_calls w W p q base d s.1 s.2 m hm hd H hr
  | data => exact putData_calls w W p q base d s.1 s.2 m hm2 hd H hr
theorem Sz.map {m : Nat} {r : Option (List UInt8)} {x : List UInt8} (h : Sz m r) (hx : x.length ≤ 2199023255552) : Sz (m + 1) (r.map (· ++ x)) := by
  intro l e
  cases r with
  | none => cases e
  | some l0 =>
    cases e
    have := h l0 rfl
    rw [List.length_append]
    omega
theorem Sz.none (m : Nat) : Sz m none := fun l e => by cases e
theorem Sz.more {m n : Nat} {r : Option (List UInt8)} (h : Sz m r) (hn : m ≤ n) : Sz n r := fun l e => Nat.le_trans (h l e) (Nat.mul_le_mul_right _ hn)
theorem putF_sz (d : Dg) (hd : d.ok) (f : Fld) (s : Bool × Option (List UInt8)) (m : Nat) (h : Sz m s.2) : Sz (m + 3) (putF d f s).2 := by
  unfold Dg.ok at hd
  cases f with
  | nonce => exact (h.map (by rw [bl_len]; omega)).more (by omega)
  | zeros => exact (h.map (by rw [List.length_replicate]; omega)).more (by omega)
  | epoch => exact (h.map (by show 8 ≤ _; omega)).more (by omega)
  | cookie => exact (h.map (by rw [bl_len]; omega)).more (by omega)
  | name =>
    show Sz (m + 3) (txt s.2 (bl d.name))
    unfold txt
    split
    · exact (h.map (by rw [List.length_cons, bl_len]; omega)).more (by omega)
    · exact Sz.none _
  | tag => exact (h.map (by rw [bl_len]; omega)).more (by omega)
  | session => exact (h.map (by show 8 ≤ _; omega)).more (by omega)
  | player =>
    show Sz (m + 3) (one s.2 d.player)
    unfold one
    split
    · exact (h.map (by show 1 ≤ _; omega)).more (by omega)
    · exact Sz.none _
  | salt => exact (h.map (by rw [bl_len]; omega)).more (by omega)
  | seq => exact (h.map (by show 8 ≤ _; omega)).more (by omega)
  | command => exact (((sgn_le (sgn_le h)).map (by show 1 ≤ _; omega)).more (by omega))
  | data => exact (h.map (by rw [bl_len]; omega)).more (by omega)
def putAll (d : Dg) (fs : List Fld) (s : Bool × Option (List UInt8)) : Bool × Option (List UInt8) := fs.foldl (fun s f => putF d f s) s
theorem putAll_sz (d : Dg) (hd : d.ok) : ∀ (fs : List Fld) (s : Bool × Option (List UInt8)) (m : Nat), Sz m s.2 → Sz (m + 3 * fs.length) (putAll d fs s).2
  | [], s, m, h => h
  | f :: fs, s, m, h => by
    have := putAll_sz d hd fs (putF d f s) (m + 3) (putF_sz d hd f s m h)
    rw [show m + 3 * (f :: fs).length = m + 3 + 3 * fs.length by simp; omega]
    exact this
theorem putAll_snoc (d : Dg) (fs : List Fld) (s : Bool × Option (List UInt8)) (i : Nat) (f : Fld) (h : fs[i]? = some f) : putAll d (fs.take (i + 1)) s = putF d f (putAll d (fs.take i) s) := by
  unfold putAll
  rw [List.take_add_one, h, List.foldl_append]
  rfl
theorem fields_len (k : Int) : (fieldsOf k).length ≤ 5 := by
  unfold fieldsOf
  repeat' split
  all_goals decide
/-- What Encode answers. -/
def enc (d : Dg) : ByteArray × Int :=
  if 1 ≤ d.kind ∧ d.kind ≤ 7 then
    let r := putAll d (fieldsOf d.kind) (false, some ([74, 48, 49] ++ [UInt8.ofNat d.kind.toNat]))
    if r.1 = true ∨ r.2.isNone = true then (⟨#[]⟩, 73)
    else if 1200 < (r.2.getD []).length then (⟨#[]⟩, 72) else (str (r.2.getD []), 0)
  else (⟨#[]⟩, 71)
theorem known_calls (k : Int) (w : World) : Calls Tryz.prog 26 #[.int .i64 k] w fun e w' => e = .returned (.bool (decide (1 ≤ k ∧ k ≤ 7))) ∧ w' = w := by
  by_cases h1 : 1 ≤ k
  · have o1 : decide (1 ≤ k) = true := decide_eq_true h1
    have e : decide (1 ≤ k ∧ k ≤ 7) = decide (k ≤ 7) := by simp [h1]
    rw [e]
    go_enter Tryz.func26, Tryz.ntmps26
    go_wp2
    go_ret
    exact ⟨rfl, rfl⟩
  · have o1 : decide (1 ≤ k) = false := decide_eq_false h1
    have e : decide (1 ≤ k ∧ k ≤ 7) = false := by simp [h1]
    rw [e]
    go_enter Tryz.func26, Tryz.ntmps26
    go_wp2
    go_ret
    exact ⟨rfl, rfl⟩
end Go.Proofs.YtniabkphbnimaaaGreatDoor.Sh
namespace Go.Proofs.YtniabkphbnimaaaGreatDoor.Bs
open Go Go.RowKit Go.Maps Go.Proofs.YtniabkphbnimaaaGreatDoorW.PrintWords Go.Proofs.YtniabkphbnimaaaGreatDoorW.PrintLast
section
variable {P : Program} {ops : Array Oper} {rest : List Oper} {o : Oper} {a : Act} {w : World} {Q : Exit → Act → World → Prop}
theorem wp_box_v {K : Act → World → Prop} (ty : TypeId) (x : Operand) (ho : o.op = .box ty x) (cs : List Value) (hx : a.eval x = .agg cs.toArray) (hd : (P.underlying ty).isSome = true)
    (h : ∀ g w', Hid (g = w.heap.size) → Hid (w'.heap[g]? = some (.cells cs.toArray ty (0, 0))) → Hid (Below w.heap.size w w') → Hid (w'.heap.size = g + 1) → K (a.put o.dst (.pointer (some ⟨g, 0, none⟩))) w') : Oper.wp P o a w K Q := by
  unfold Oper.wp execOp
  simp [ho, hx, Instr.box, newVar, newRow, Value.cells, Sem.run_bind]
  exact h _ _ (show _ = _ from rfl) (Go.MapKept.heap_alloc w _).1 (below_alloc (Below.refl _ _) _) (by show (w.heap.push _).size = _; simp)
theorem wpList_box_v (hgd : o.guard = none) (ty : TypeId) (x : Operand) (ho : o.op = .box ty x) (cs : List Value) (hx : a.eval x = .agg cs.toArray) (hd : (P.underlying ty).isSome = true)
    (h : ∀ g w', Hid (g = w.heap.size) → Hid (w'.heap[g]? = some (.cells cs.toArray ty (0, 0))) → Hid (Below w.heap.size w w') → Hid (w'.heap.size = g + 1) → wpList P ops Q rest (a.put o.dst (.pointer (some ⟨g, 0, none⟩))) w') : wpList P ops Q (o :: rest) a w :=
  wpList_plain hgd fun K hK => wp_box_v ty x ho cs hx hd (fun g w' h1 h2 h3 h4 => hK _ _ (h g w' h1 h2 h3 h4))
theorem wp_load_agg {K : Act → World → Prop} (ty : TypeId) (x : Operand) (ho : o.op = .load ty x) (g off : Nat) (hx : a.eval x = .pointer (some ⟨g, off, none⟩)) (cs : List Value) (hc : ∀ j v, cs[j]? = some v → w.cell? ⟨g, off + j, none⟩ = some v) (d : TypeDesc) (hu : P.underlying ty = some d) (hd : (match d with | .struct _ | .array _ _ => true | _ => false) = true) (hi : (P.info? ty).map (·.size) = some cs.length)
    (h : K (a.put o.dst (.agg cs.toArray)) w) : Oper.wp P o a w K Q := by
  have hl : (loadCells ⟨g, off, none⟩ cs.length).run P w = .ok cs.toArray w :=
    run_loadCells_list (P := P) w ⟨g, off, none⟩ cs (fun j v hv => by
      have hadd : (⟨g, off, none⟩ : Addr).add j = ⟨g, off + j, none⟩ := by unfold Addr.add; split <;> simp_all
      rw [hadd]
      exact hc j v hv)
  have hrun : (loadVar ty ⟨g, off, none⟩).run P w = .ok (.agg cs.toArray) w := by
    cases hq : P.info? ty with
    | none => simp [hq] at hi
    | some i =>
      have hs : i.size = cs.length := by simpa [hq] using hi
      have hagg : (isAgg ty).run P w = .ok true w := by
        unfold isAgg
        rw [Sem.run_bind, run_underlying hu w]
        cases d <;> simp_all
      simp [loadVar, Sem.run_bind, hagg, sizeOf, typeInfo, hq, hs, hl]
  unfold Oper.wp execOp
  simp only [ho, hx, Instr.loadAt, Instr.sureAddr, Sem.run_bind, Sem.run_pure, Result.andThen_ok, hrun]
  exact h
/-- A call of a function value in a plain region. -/
theorem goesLv_ (N : Option Tmp) (hd : o.dst = N) (hg : o.guard = none) {f : FuncId} {x : Operand} {av : Array Operand} {ts : Array TypeId} {first caps : Array Value} (hf : ∃ fn : Func, P.funcs[f]? = some fn ∧ (fn.name == "runtime.NumGoroutine") = false ∧ fn.body.isSome = true) (args : Array Value)
    (hop : o.op = .call { callee := .value x, args := av, argTypes := ts }) (hx : a.eval x = .func (.func f) first caps) (hargs : first ++ av.map a.eval ++ caps = args)
    (h : Calls P f args w fun e w' => ∃ v, e = .returned v ∧ wpList P ops Q rest (a.put N v) w') : wpList P ops Q (o :: rest) a w := by
  obtain ⟨fn, h1, h2, h3⟩ := hf
  refine wpList_plain hg fun K hK => ?_
  have he := enters_ h1 h2 h3 args w
  have hrun : (execOp a.eval o).run P w = .ok (.enter f args) w := by
    unfold execOp
    simp [hop, resolve, Deferred.ofValue, invoke, hx, ← hargs] at he ⊢
    simp [he]
  subst hd
  unfold Oper.wp
  rw [hrun, Oper.upon_enter]
  refine h.mono fun e w'' hh => ?_
  obtain ⟨v, rfl, hk⟩ := hh
  exact hK _ _ hk
end
end Go.Proofs.YtniabkphbnimaaaGreatDoor.Bs
namespace Go.Proofs.YtniabkphbnimaaaGreatDoor.Sh
open Go Go.RowKit Go.Maps Go.Proofs.YtniabkphbnimaaaGreatDoorW.PrintWords Go.Proofs.YtniabkphbnimaaaGreatDoorW.PrintLast Go.Proofs.YtniabkphbnimaaaGreatDoor.Bs
theorem put_ok (f : Fld) : ∃ fn : Func, Tryz.prog.funcs[f.put]? = some fn ∧ (fn.name == "runtime.NumGoroutine") = false ∧ fn.body.isSome = true := by
  cases f with
  | nonce => exact ⟨_, Tryz.func49, by kernel_rfl, by kernel_rfl⟩
  | zeros => exact ⟨_, Tryz.func51, by kernel_rfl, by kernel_rfl⟩
  | epoch => exact ⟨_, Tryz.func53, by kernel_rfl, by kernel_rfl⟩
  | cookie => exact ⟨_, Tryz.func55, by kernel_rfl, by kernel_rfl⟩
  | name => exact ⟨_, Tryz.func57, by kernel_rfl, by kernel_rfl⟩
  | tag => exact ⟨_, Tryz.func59, by kernel_rfl, by kernel_rfl⟩
  | session => exact ⟨_, Tryz.func61, by kernel_rfl, by kernel_rfl⟩
  | player => exact ⟨_, Tryz.func63, by kernel_rfl, by kernel_rfl⟩
  | salt => exact ⟨_, Tryz.func65, by kernel_rfl, by kernel_rfl⟩
  | seq => exact ⟨_, Tryz.func67, by kernel_rfl, by kernel_rfl⟩
  | command => exact ⟨_, Tryz.func69, by kernel_rfl, by kernel_rfl⟩
  | data => exact ⟨_, Tryz.func71, by kernel_rfl, by kernel_rfl⟩
theorem one_cells {d : Dg} {v : Value} (hv : v ∈ d.cells) : v.oneCell' = true := by
  unfold Dg.cells at hv
  simp only [List.mem_cons, List.not_mem_nil, or_false] at hv
  rcases hv with rfl | rfl | rfl | rfl | rfl | rfl | rfl | rfl | rfl | rfl | rfl | rfl | rfl | rfl | rfl <;> rfl
def T_16_3 : Bool × List (List Nat × List Nat) := (true, [([], []), ([], []), ([0, 1], [0, 1]), ([2], [2]), ([3, 0, 0, 1, 2, 3], [3])])
def B_16_3 : List Nat := [0, 0, 3, 7, 15]
theorem tab_f16_3 : rtab .any (opsOf Tryz.f16 3) = T_16_3 := by kernel_rfl
theorem bits_f16_3 : waitsOk T_16_3.2 B_16_3 = true := by kernel_rfl
def T_16_5 : Bool × List (List Nat × List Nat) := (true, [([], []), ([0], [0]), ([1], [1]), ([2], [2]), ([], []), ([4], [4]), ([5], [5]), ([3, 6], [3, 6])])
def B_16_5 : List Nat := [0, 1, 3, 7, 0, 16, 48, 127]
theorem tab_f16_5 : rtab .any (opsOf Tryz.f16 5) = T_16_5 := by kernel_rfl
theorem bits_f16_5 : waitsOk T_16_5.2 B_16_5 = true := by kernel_rfl
theorem WgAt.fresh {w w' : World} {W p q base : Nat} {d : Dg} {bad : Bool} {r : Option (List UInt8)} (H : WgAt w W p q base d bad r) (hm : Mv w w' (fun k => w.heap.size ≤ k)) : WgAt w' W p q base d bad r :=
  ⟨H.1, hm.blk H.2.1 (by have := blk_lt H.2.1; omega), H.2.2.mv hm (fun k hk => Or.inl hk)⟩
theorem one_vals {f : Fld} {v : Value} (hv : v ∈ f.vals) : v.oneCell' = true := by
  unfold Fld.vals at hv
  simp only [List.mem_cons, List.not_mem_nil, or_false] at hv
  rcases hv with rfl | rfl <;> rfl
theorem vals_at (fs : List Fld) (i : Nat) (f : Fld) (h : fs[i]? = some f) : (fs.flatMap Fld.vals)[2 * i]? = some (.func (.func f.get) #[] #[]) ∧ (fs.flatMap Fld.vals)[2 * i + 1]? = some (.func (.func f.put) #[] #[]) := by
  induction fs generalizing i with
  | nil => cases h
  | cons g fs ih =>
    cases i with
    | zero => cases h; exact ⟨rfl, rfl⟩
    | succ i =>
      have := ih i h
      rw [show 2 * (i + 1) = 2 * i + 2 by omega, show 2 * i + 2 + 1 = (2 * i + 1) + 2 by omega]
      exact this
set_option maxHeartbeats 8000000 in
set_option maxRecDepth 100000 in
theorem encode_calls (d : Dg) (hd : d.ok) (hk : -9223372036854775808 ≤ d.kind ∧ d.kind ≤ 9223372036854775807) (w : World) : Calls Tryz.prog 16 #[.agg d.cells.toArray] w fun e w' => e = .returned (.tuple #[.string (enc d).1, .int .i64 (enc d).2]) ∧ Below w.heap.size w w' := by
  have HDO := Aside0.mk hd
  have HKK := Aside0.mk hk
  clear hd hk
  by_cases h17 : 1 ≤ d.kind ∧ d.kind ≤ 7
  · have H17 := Aside0.mk h17
    have KC := Aside0.mk (show ∀ w, Calls Tryz.prog 26 #[.int .i64 d.kind] w fun e w' => e = .returned (.bool true) ∧ w' = w from fun w => by
      have := known_calls d.kind w
      rw [decide_eq_true h17] at this
      exact this)
    clear h17
    go_enter Tryz.func16, Tryz.ntmps16
    go_upto_region 3 with (first
      | (refine wpList_box_v rfl 27 _ rfl d.cells rfl (by kernel_rfl) ?_; intro D w1 eD hD1 hb1 hz1; have c0 : w1.cell? ⟨D, 0, none⟩ = some (.int .i64 d.kind) := cell_of hD1.out rfl)
      | (go_at_call 26; (with_reducible refine (KC.out w1).mono ?_); rintro e w0 ⟨rfl, rfl⟩))
    rename World => w1
    have HD1 := Aside0.mk (show w1.drew.heap[D]? = some (.cells d.cells.toArray 27 (0, 0)) from hD1.out)
    have HB1 := Aside0.mk (show Below w.heap.size w w1.drew from below_drew1 hb1.out)
    have HDL := Aside0.mk (show D < w1.drew.heap.size from blk_lt HD1.out)
    have HDD := Aside0.mk (show w.heap.size ≤ D from Nat.le_of_eq eD.out.symm)
    clear hD1 hb1 hz1 eD
    go_cut [4] (fun v wc => ∃ W p q, v = .pointer (some ⟨W, 0, none⟩) ∧ WgAt wc W p q (W + 1) d false (some []) ∧ wc.heap[D]? = some (.cells d.cells.toArray 27 (0, 0)) ∧ (D < p ∧ D < W ∧ D ≠ q) ∧ Below w.heap.size w wc)
    case first =>
      refine start_ (n := 5) (S := fun w' => True) (ds := []) #[false, false, false, false, false] (by kernel_rfl) rfl rfl trivial (fun hHeld => ?_)
      refine with_tabW tab_f16_3 bits_f16_3 (fun HT_ HW_ => ?_)
      refine two_ (i := 0) (j := 1) (Ni := some 13) (Nj := some 14) #[true, false, false, false, false] #[false, true, false, false, false] rfl rfl rfl rfl (two_of HT_.out (by kernel_rfl)) (by decide) (by decide) (fun K hK => ?_) (fun K hK => ?_)
      · refine goes_ Tryz.func38 (by kernel_rfl) rfl #[] (by rfl) rfl rfl (by (try simp only [List.map_toArray, List.map_cons, List.map_nil]); first | done | rfl) ?_
        with_reducible refine (newW_calls _).mono ?_
        rintro e w2 ⟨p, q, rfl, hp1, hq1, hp2, hq2, hwr, hb2⟩
        refine ⟨_, rfl, ?_⟩
        have HP := Aside0.mk (show w1.drew.heap.size ≤ p ∧ w1.drew.heap.size ≤ q ∧ p < w2.heap.size ∧ q < w2.heap.size from ⟨hp1, hq1, hp2, hq2⟩)
        have HWR := Aside0.mk hwr
        have HB2 := Aside0.mk hb2
        have n0_ := Aside0.mk ((hb2.block D (blk_lt HD1.out)).trans HD1.out)
        clear HD1 hp1 hq1 hp2 hq2 hwr hb2
        have HD1 := n0_
        clear n0_
        refine hK.out _ _ trivial (fun hHeld => ?_)
        clear hK K
        refine norm_ (a' := ?_) ?_ ?_
        rotate_left
        · show Act.put _ (some 13) _ = _
          simp only [Act.put, List.setIfInBounds_toArray, List.set_cons_zero, List.set_cons_succ, i64_w, i32_w]
          rfl
        refine one_ (i := 1) (N := some 14) #[true, true, false, false, false] rfl rfl (one_of HT_.out (by kernel_rfl)) (by decide) (fun K hK => ?_)
        refine step_of_wp rfl (wp_load_agg 27 _ rfl D 0 rfl [.int .i64 d.kind, .string d.nonce, .int .u64 (d.epoch : Int), .string d.cookie, .string d.name, .int .u64 (d.session : Int), .int .i64 d.player, .string d.salt, .int .u64 (d.seq : Int), .int .i64 d.thr, .int .i64 d.trn, .bool d.fire, .bool d.boost, .string d.data, .string d.tag] (load_all HD1.out) _ Tryz.underlying27 rfl (by kernel_rfl) ?_)
        refine hK.out _ _ trivial (fun hHeld => ?_)
        clear hK K
        refine norm_ (a' := ?_) ?_ ?_
        rotate_left
        · show Act.put _ (some 14) _ = _
          simp only [Act.put, List.setIfInBounds_toArray, List.set_cons_zero, List.set_cons_succ, i64_w, i32_w]
          rfl
        refine pure_ (i := 2) (N := some 15) (v := ?_) (a' := ?_) #[true, true, true, false, false] rfl rfl (any_of HT_.out (by kernel_rfl)) (fun _ _ _ h => h) (Or.inl ⟨by rfl, ?_⟩) ?_ ?_
        rotate_left
        · intro w'
          go_simp
          with_reducible rfl
        rotate_left
        · simp only [Act.put, List.setIfInBounds_toArray, List.set_cons_zero, List.set_cons_succ, i64_w, i32_w]
          rfl
        refine one_ (i := 3) (N := some 16) #[true, true, true, true, false] rfl rfl (one_of HT_.out (by kernel_rfl)) (by decide) (fun K hK => ?_)
        refine step_of_wp rfl (wp_box_v 69 _ rfl (d.row p false) (by rfl) (by kernel_rfl) ?_)
        intro W w3 eW hW3 hb3 hz3
        refine hK.out _ _ trivial (fun hHeld => ?_)
        clear hK K
        refine norm_ (a' := ?_) ?_ ?_
        rotate_left
        · show Act.put _ (some 16) _ = _
          simp only [Act.put, List.setIfInBounds_toArray, List.set_cons_zero, List.set_cons_succ, i64_w, i32_w]
          rfl
        refine pure_ (i := 4) (N := some 4) (v := ?_) (a' := ?_) #[true, true, true, true, true] rfl rfl (any_of HT_.out (by kernel_rfl)) (fun _ _ _ h => h) (Or.inl ⟨by rfl, ?_⟩) ?_ ?_
        rotate_left
        · intro w'
          go_simp
          with_reducible rfl
        rotate_left
        · simp only [Act.put, List.setIfInBounds_toArray, List.set_cons_zero, List.set_cons_succ, i64_w, i32_w]
          rfl
        refine done_ (done_of HT_.out (by kernel_rfl)) ?_
        clear hHeld HT_ HW_
        (try go_wp2)
        go_meet
        have hsz := HP.out
        have h1_ := eW.out
        have h2_ := blk_lt HD1.out
        have h3_ := hz3.out
        have h4_ := HDL.out
        refine ⟨W, p, q, rfl, ⟨⟨by omega, by omega, by omega⟩, hW3.out, HWR.out _ _ hb3.out (by omega) (by omega)⟩, (hb3.out.block D h2_).trans HD1.out, by omega, ?_⟩
        exact HB1.out.trans ((HB2.out.trans (hb3.out.mono HB2.out.size)).mono HB1.out.size)
      · refine step_of_wp rfl (wp_load_agg 27 _ rfl D 0 rfl [.int .i64 d.kind, .string d.nonce, .int .u64 (d.epoch : Int), .string d.cookie, .string d.name, .int .u64 (d.session : Int), .int .i64 d.player, .string d.salt, .int .u64 (d.seq : Int), .int .i64 d.thr, .int .i64 d.trn, .bool d.fire, .bool d.boost, .string d.data, .string d.tag] (load_all HD1.out) _ Tryz.underlying27 rfl (by kernel_rfl) ?_)
        refine hK.out _ _ trivial (fun hHeld => ?_)
        clear hK K
        refine norm_ (a' := ?_) ?_ ?_
        rotate_left
        · show Act.put _ (some 14) _ = _
          simp only [Act.put, List.setIfInBounds_toArray, List.set_cons_zero, List.set_cons_succ, i64_w, i32_w]
          rfl
        refine one_ (i := 0) (N := some 13) #[true, true, false, false, false] rfl rfl (one_of HT_.out (by kernel_rfl)) (by decide) (fun K hK => ?_)
        refine goes_ Tryz.func38 (by kernel_rfl) rfl #[] (by rfl) rfl rfl (by (try simp only [List.map_toArray, List.map_cons, List.map_nil]); first | done | rfl) ?_
        with_reducible refine (newW_calls _).mono ?_
        rintro e w2 ⟨p, q, rfl, hp1, hq1, hp2, hq2, hwr, hb2⟩
        refine ⟨_, rfl, ?_⟩
        have HP := Aside0.mk (show w1.drew.heap.size ≤ p ∧ w1.drew.heap.size ≤ q ∧ p < w2.heap.size ∧ q < w2.heap.size from ⟨hp1, hq1, hp2, hq2⟩)
        have HWR := Aside0.mk hwr
        have HB2 := Aside0.mk hb2
        have n0_ := Aside0.mk ((hb2.block D (blk_lt HD1.out)).trans HD1.out)
        clear HD1 hp1 hq1 hp2 hq2 hwr hb2
        have HD1 := n0_
        clear n0_
        refine hK.out _ _ trivial (fun hHeld => ?_)
        clear hK K
        refine norm_ (a' := ?_) ?_ ?_
        rotate_left
        · show Act.put _ (some 13) _ = _
          simp only [Act.put, List.setIfInBounds_toArray, List.set_cons_zero, List.set_cons_succ, i64_w, i32_w]
          rfl
        refine pure_ (i := 2) (N := some 15) (v := ?_) (a' := ?_) #[true, true, true, false, false] rfl rfl (any_of HT_.out (by kernel_rfl)) (fun _ _ _ h => h) (Or.inl ⟨by rfl, ?_⟩) ?_ ?_
        rotate_left
        · intro w'
          go_simp
          with_reducible rfl
        rotate_left
        · simp only [Act.put, List.setIfInBounds_toArray, List.set_cons_zero, List.set_cons_succ, i64_w, i32_w]
          rfl
        refine one_ (i := 3) (N := some 16) #[true, true, true, true, false] rfl rfl (one_of HT_.out (by kernel_rfl)) (by decide) (fun K hK => ?_)
        refine step_of_wp rfl (wp_box_v 69 _ rfl (d.row p false) (by rfl) (by kernel_rfl) ?_)
        intro W w3 eW hW3 hb3 hz3
        refine hK.out _ _ trivial (fun hHeld => ?_)
        clear hK K
        refine norm_ (a' := ?_) ?_ ?_
        rotate_left
        · show Act.put _ (some 16) _ = _
          simp only [Act.put, List.setIfInBounds_toArray, List.set_cons_zero, List.set_cons_succ, i64_w, i32_w]
          rfl
        refine pure_ (i := 4) (N := some 4) (v := ?_) (a' := ?_) #[true, true, true, true, true] rfl rfl (any_of HT_.out (by kernel_rfl)) (fun _ _ _ h => h) (Or.inl ⟨by rfl, ?_⟩) ?_ ?_
        rotate_left
        · intro w'
          go_simp
          with_reducible rfl
        rotate_left
        · simp only [Act.put, List.setIfInBounds_toArray, List.set_cons_zero, List.set_cons_succ, i64_w, i32_w]
          rfl
        refine done_ (done_of HT_.out (by kernel_rfl)) ?_
        clear hHeld HT_ HW_
        (try go_wp2)
        go_meet
        have hsz := HP.out
        have h1_ := eW.out
        have h2_ := blk_lt HD1.out
        have h3_ := hz3.out
        have h4_ := HDL.out
        refine ⟨W, p, q, rfl, ⟨⟨by omega, by omega, by omega⟩, hW3.out, HWR.out _ _ hb3.out (by omega) (by omega)⟩, (hb3.out.block D h2_).trans HD1.out, by omega, ?_⟩
        exact HB1.out.trans ((HB2.out.trans (hb3.out.mono HB2.out.size)).mono HB1.out.size)
    case rest =>
      obtain ⟨W, p, q, rfl, hG, hD, hDs, hB⟩ := hcut
      have HG := Aside0.mk hG
      have HD2 := Aside0.mk hD
      have HDS := Aside0.mk hDs
      have HB := Aside0.mk hB
      have c0 : wc.cell? ⟨W, 0, none⟩ = some (.pointer (some ⟨p, 0, none⟩)) := hG.at_ rfl
      clear hG hD hDs hB HB1 HD1 HDL
      rename World => w3
      go_upto_region 5 with (go_at_call 39; (with_reducible refine (bytes_calls _ p q (W + 1) _ ⟨#[74, 48, 49]⟩ HG.out.wr ?hn).mono ?_); (case hn => intro l e; cases e; decide); rintro e w4 ⟨rfl, hw4, hm4⟩; have G4 := Aside0.mk (HG.out.mvW hw4 hm4); have M4 := Aside0.mk (Gm.of (W := W) hm4); have D4 := Aside0.mk (show w4.heap[D]? = _ from Pm.blk hm4 HD2.out (by have := HDS.out; omega) (by decide)); clear hw4 hm4)
      have HN4 := Aside0.mk (show ∀ l, (some ([] : List UInt8)).map (· ++ bl ⟨#[74, 48, 49]⟩) = some l → l.length + 8 ≤ 140737488355328 from fun l e => by cases e; decide)
      have k0 : w4.cell? ⟨W, 0, none⟩ = some (.pointer (some ⟨p, 0, none⟩)) := G4.out.at_ rfl
      have k1 : w4.cell? ⟨D, 0, none⟩ = some (.int .i64 d.kind) := cell_of D4.out rfl
      clear c0
      go_wp2
      refine start_ (n := 8) (S := fun w' => w'.cell? ⟨W, 0, none⟩ = some (.pointer (some ⟨p, 0, none⟩)) ∧ w'.cell? ⟨D, 0, none⟩ = some (.int .i64 d.kind)) (ds := []) #[false, false, false, false, false, false, false, false] (by kernel_rfl) rfl rfl ⟨k0, k1⟩ (fun hHeld => ?_)
      refine with_tabW tab_f16_5 bits_f16_5 (fun HT_ HW_ => ?_)
      refine pure_ (i := 0) (N := some 22) (v := ?_) (a' := ?_) #[true, false, false, false, false, false, false, false] rfl rfl (any_of HT_.out (by kernel_rfl)) (fun _ _ _ h => h) (Or.inl ⟨by rfl, ?_⟩) ?_ ?_
      rotate_left
      · intro w'
        go_simp
        with_reducible rfl
      rotate_left
      · simp only [Act.put, List.setIfInBounds_toArray, List.set_cons_zero, List.set_cons_succ, i64_w, i32_w]
        rfl
      refine pure_ (i := 1) (N := some 23) (v := ?_) (a' := ?_) #[true, true, false, false, false, false, false, false] rfl rfl (any_of HT_.out (by kernel_rfl)) (fun _ _ _ h => h) (Or.inl ⟨by rfl, ?_⟩) ?_ ?_
      rotate_left
      · intro w'
        go_simp
        with_reducible rfl
      rotate_left
      · simp only [Act.put, List.setIfInBounds_toArray, List.set_cons_zero, List.set_cons_succ, i64_w, i32_w]
        rfl
      refine pure_ (i := 2) (N := some 24) (v := ?_) (a' := ?_) #[true, true, true, false, false, false, false, false] rfl rfl (any_of HT_.out (by kernel_rfl)) (fun _ _ _ h => h) (Or.inl ⟨by rfl, ?_⟩) ?_ ?_
      rotate_left
      · intro w'
        go_simp
        with_reducible rfl
      rotate_left
      · simp only [Act.put, List.setIfInBounds_toArray, List.set_cons_zero, List.set_cons_succ, i64_w, i32_w]
        rfl
      refine take_ (i := 3) (N := some 25) (v := ?_) (a' := ?_) #[true, true, true, true, false, false, false, false] rfl rfl (take_ofW HT_.out HW_.out (by kernel_rfl)) (fun _ _ _ h => h) (Or.inl ⟨by rfl, ?_⟩) hHeld ?_ ?_
      rotate_left
      · rintro w' ⟨s0, s1⟩
        go_simp
        with_reducible rfl
      rotate_left
      · simp only [Act.put, List.setIfInBounds_toArray, List.set_cons_zero, List.set_cons_succ, i64_w, i32_w]
        rfl
      refine pure_ (i := 4) (N := some 26) (v := ?_) (a' := ?_) #[true, true, true, true, true, false, false, false] rfl rfl (any_of HT_.out (by kernel_rfl)) (fun _ _ _ h => h) (Or.inl ⟨by rfl, ?_⟩) ?_ ?_
      rotate_left
      · intro w'
        go_simp
        with_reducible rfl
      rotate_left
      · simp only [Act.put, List.setIfInBounds_toArray, List.set_cons_zero, List.set_cons_succ, i64_w, i32_w]
        rfl
      refine take_ (i := 5) (N := some 27) (v := ?_) (a' := ?_) #[true, true, true, true, true, true, false, false] rfl rfl (take_ofW HT_.out HW_.out (by kernel_rfl)) (fun _ _ _ h => h) (Or.inl ⟨by rfl, ?_⟩) hHeld ?_ ?_
      rotate_left
      · rintro w' ⟨s0, s1⟩
        go_simp
        with_reducible rfl
      rotate_left
      · simp only [Act.put, List.setIfInBounds_toArray, List.set_cons_zero, List.set_cons_succ, i64_w, i32_w]
        rfl
      refine pure_ (i := 6) (N := some 28) (v := ?_) (a' := ?_) #[true, true, true, true, true, true, true, false] rfl rfl (any_of HT_.out (by kernel_rfl)) (fun _ _ _ h => h) (Or.inl ⟨by rfl, ?_⟩) ?_ ?_
      rotate_left
      · intro w'
        go_simp
        with_reducible rfl
      rotate_left
      · simp only [Act.put, List.setIfInBounds_toArray, List.set_cons_zero, List.set_cons_succ, i64_w, i32_w]
        rfl
      refine one_ (i := 7) (N := some 29) #[true, true, true, true, true, true, true, true] rfl rfl (one_of HT_.out (by kernel_rfl)) (by decide) (fun K hK => ?_)
      refine goes_ Tryz.func40 (by kernel_rfl) rfl #[.pointer (some ⟨p, 0, none⟩), .int .u64 (IntKind.u64.wrap d.kind), .int .i64 1] (by rfl) rfl rfl (by (try simp only [List.map_toArray, List.map_cons, List.map_nil]); first | done | rfl) ?_
      with_reducible refine (one_calls _ p q (W + 1) _ d.kind HKK.out G4.out.drew.wr HN4.out).mono ?_
      rintro e w5 ⟨rfl, hw5, hm5⟩
      refine ⟨_, rfl, ?_⟩
      have G5 := Aside0.mk (G4.out.drew.mvW hw5 hm5)
      have M5 := Aside0.mk (Gm.then M4.out.drew (Gm.of hm5))
      have D5 := Aside0.mk (show w5.heap[D]? = _ from Pm.blk hm5 (show w4.drew.heap[D]? = _ from D4.out) (by have := HDS.out; omega) (by decide))
      refine hK.out _ _ ⟨G5.out.at_ rfl, cell_of D5.out rfl⟩ (fun hHeld => ?_)
      clear hK K
      refine norm_ (a' := ?_) ?_ ?_
      rotate_left
      · show Act.put _ (some 29) _ = _
        simp only [Act.put, List.setIfInBounds_toArray, List.set_cons_zero, List.set_cons_succ, i64_w, i32_w]
        rfl
      refine done_ (done_of HT_.out (by kernel_rfl)) ?_
      have k1b : w5.cell? ⟨D, 0, none⟩ = some (.int .i64 d.kind) := cell_of D5.out rfl
      clear hHeld k0 k1
      have hone := Aside0.mk (show one ((some ([] : List UInt8)).map (· ++ bl ⟨#[74, 48, 49]⟩)) d.kind = some ([74, 48, 49] ++ [UInt8.ofNat d.kind.toNat]) by unfold one; rw [if_pos (by have := H17.out; omega)]; rfl)
      go_wp2_with (go_at_call 29; (with_reducible refine (fields_calls d.kind w5).mono ?_); rintro e w6 ⟨b, rfl, hb6, hrow6, hbw6⟩)
      obtain ⟨fs, efs⟩ : ∃ fs, fs = fieldsOf d.kind := ⟨_, rfl⟩
      obtain ⟨n, en⟩ : ∃ n, n = fs.length := ⟨_, rfl⟩
      rw [← efs] at hrow6
      rw [← efs, ← en]
      obtain ⟨s0, es0⟩ : ∃ s0 : Bool × Option (List UInt8), s0 = (false, some ([74, 48, 49] ++ [UInt8.ofNat d.kind.toNat])) := ⟨_, rfl⟩
      have HROW := Aside0.mk hrow6
      have hG5w := G5.out.wr
      have HBN := Aside0.mk (show b ≠ W ∧ b ≠ p ∧ n ≤ 5 ∧ fs.length = n from by have h1 := blk_lt G5.out.2.1; have h2 := hG5w.1; have h3 := hG5w.2.2.2.1; exact ⟨by omega, by omega, by rw [en, efs]; exact fields_len _, en.symm⟩)
      have G6 := Aside0.mk (show WgAt w6 W p q (W + 1) d s0.1 s0.2 from by rw [es0]; have h := G5.out.below hbw6; rw [hone.out] at h; exact h)
      have SZ0 := Aside0.mk (show Sz 1 s0.2 from by rw [es0]; intro l e; cases e; show 4 ≤ 1 * 2199023255552; omega)
      have M6 := Aside0.mk (show Gm w3 w6 W p (W + 1) from Gm.then M5.out (Gm.below hbw6))
      have EFS := Aside0.mk efs
      have ES0 := Aside0.mk es0
      clear efs en es0 hG5w hrow6 hb6 hbw6 G4 M4 D4 HN4 G5 M5 D5 hone hw5 hm5 k1b HG HD2
      go_loopw [34] (fun iv wq => ∃ i : Nat, iv = .int .i64 (i : Int) ∧ i ≤ n ∧ WgAt wq W p q (W + 1) d (putAll d (fs.take i) s0).1 (putAll d (fs.take i) s0).2 ∧ Gm w6 wq W p (W + 1)) (fun iv _ => n - (intOf iv).toNat)
      case atStart => exact ⟨0, rfl, by omega, G6.out, Gm.refl _ _ _ _⟩
      case round =>
        obtain ⟨i, rfl, hi, hG, hM⟩ := hrel
        have GI := Aside0.mk hG
        have MI := Aside0.mk hM
        have RI := Aside0.mk (show wr.heap[b]? = _ from Gm.blk hM HROW.out HBN.out.1 HBN.out.2.1 (by decide))
        clear hG hM
        by_cases hk : i < n
        · have o1 : decide ((i : Int) < (n : Int)) = true := decide_eq_true (by omega)
          have o2 : decide (i < n) = true := decide_eq_true hk
          have q1 : ((i : Int) < (n : Int)) = True := eq_true (by omega)
          have q2 : (i < n) = True := eq_true hk
          obtain ⟨f, hf⟩ : ∃ f, fs[i]? = some f := ⟨_, List.getElem?_eq_getElem (by rw [HBN.out.2.2.2]; exact hk)⟩
          have HF := Aside0.mk hf
          have SZ := Aside0.mk (show Sz 16 (putAll d (fs.take i) s0).2 from (putAll_sz d HDO.out (fs.take i) s0 1 SZ0.out).more (by have h1 := HBN.out; have h2 : (fs.take i).length ≤ i := (by rw [List.length_take]; omega); omega))
          have ZI := Aside0.mk (show wrap64 ((i : Int) + 1) = ((i + 1 : Nat) : Int) by have := HBN.out; unfold wrap64; omega)
          clear hf
          go_wp2_with (first
            | (refine wpList_load_agg rfl 60 _ rfl b (i * 2) rfl f.vals (fun j v hv => cell_of RI.out (by have h := vals_at fs i f HF.out; rw [Nat.mul_comm i 2]; match j, hv with | 0, hv => cases hv; exact h.1 | 1, hv => cases hv; exact h.2)) _ Tryz.underlying60 rfl (by kernel_rfl) ?_)
            | (refine wpList_alloc_v rfl 60 rfl [.nilFunc, .nilFunc] (by kernel_rfl) ?_; intro F w8 eF hF8 hb8 hz8)
            | (refine wpList_store_agg rfl 60 _ _ rfl F 0 rfl f.vals _ rfl _ hF8.out (by exact Nat.le_refl 2) (fun v hv => one_vals hv) (by kernel_rfl) ?_; intro w9 hF9 hm9 hz9; rw [splice_all [.nilFunc, .nilFunc] f.vals rfl] at hF9; have cF : w9.cell? ⟨F, 1, none⟩ = some (.func (.func f.put) #[] #[]) := cell_of hF9.out rfl; have MV9 := Aside0.mk (show Mv wr w9 (fun k => wr.heap.size ≤ k) from (Mv.of_below hb8.out (fun k => wr.heap.size ≤ k)).then hm9.out (fun k hk => Or.inl (by have := eF.out; omega))); have G9 := Aside0.mk (GI.out.fresh MV9.out))
            | (refine goesLv_ (some 41) rfl rfl (put_ok f) #[.pointer (some ⟨W, 0, none⟩)] rfl rfl (by simp [Act.eval]) ?_; refine (put_calls f w9 W p q (W + 1) d _ 16 (by omega) HDO.out G9.out SZ.out).mono ?_; rintro e w10 ⟨rfl, hg10, hm10⟩; refine ⟨_, rfl, ?_⟩))
          have hmf : Gm wr w9 W p (W + 1) := Gm.below ⟨MV9.out.os, MV9.out.tape, MV9.out.output, MV9.out.size, fun k hk => MV9.out.block k hk (by omega)⟩
          rw [ZI.out]
          refine ⟨⟨i + 1, rfl, by omega, ?_, Gm.then MI.out (Gm.then hmf hm10)⟩, by simp only [intOf]; omega⟩
          rw [putAll_snoc d fs s0 i f HF.out]
          exact hg10
        · have o1 : decide ((i : Int) < (n : Int)) = false := decide_eq_false (by omega)
          have o2 : decide (i < n) = false := decide_eq_false hk
          have hall : fs.take i = fs := List.take_of_length_le (by have := HBN.out; omega)
          rw [hall] at GI
          obtain ⟨bad, eb⟩ : ∃ b, b = (putAll d fs s0).1 := ⟨_, rfl⟩
          obtain ⟨r, er⟩ : ∃ r, r = (putAll d fs s0).2 := ⟨_, rfl⟩
          rw [← eb, ← er] at GI
          have EE := Aside0.mk (show enc d = (if bad = true ∨ r.isNone = true then ((⟨#[]⟩ : ByteArray), (73 : Int)) else if 1200 < (r.getD []).length then (⟨#[]⟩, 72) else (str (r.getD []), 0)) from by
            unfold enc
            rw [if_pos H17.out, eb, er, ← EFS.out, ES0.out])
          have c0 : wr.cell? ⟨W, 0, none⟩ = some (.pointer (some ⟨p, 0, none⟩)) := GI.out.at_ rfl
          have BW := Aside0.mk (show Below w.heap.size w wr from Mv.toBelow HB.out (Gm.then M6.out MI.out) (fun k hk => by have h1 := HDS.out; have h2 := HDD.out; rcases hk with h | h | h <;> omega))
          clear eb er hall hk hi
          rename World => w7
          cases r with
          | none =>
            cases bad with
            | true =>
              go_wp2_with (go_at_call 41; (with_reducible refine (done_calls _ p q (W + 1) none GI.out.wr).mono ?_); rintro e w8 ⟨rfl, hb8⟩; have c16 : w8.cell? ⟨W, 16, none⟩ = some (.bool true) := (GI.out.below hb8).at_ rfl; have HB8 := Aside0.mk (BW.out.trans (hb8.mono BW.out.size)))
              go_ret2
              rw [show enc d = ((⟨#[]⟩ : ByteArray), (73 : Int)) by rw [EE.out]; simp]
              exact ⟨rfl, HB8.out⟩
            | false =>
              go_wp2_with (go_at_call 41; (with_reducible refine (done_calls _ p q (W + 1) none GI.out.wr).mono ?_); rintro e w8 ⟨rfl, hb8⟩; have c16 : w8.cell? ⟨W, 16, none⟩ = some (.bool false) := (GI.out.below hb8).at_ rfl; have HB8 := Aside0.mk (BW.out.trans (hb8.mono BW.out.size)))
              go_ret2
              rw [show enc d = ((⟨#[]⟩ : ByteArray), (73 : Int)) by rw [EE.out]; simp]
              exact ⟨rfl, HB8.out⟩
          | some l =>
            cases bad with
            | true =>
              go_wp2_with (go_at_call 41; (with_reducible refine (done_calls _ p q (W + 1) (some l) GI.out.wr).mono ?_); rintro e w8 ⟨rfl, hb8⟩; have c16 : w8.cell? ⟨W, 16, none⟩ = some (.bool true) := (GI.out.below hb8).at_ rfl; have HB8 := Aside0.mk (BW.out.trans (hb8.mono BW.out.size)))
              go_ret2
              rw [show enc d = ((⟨#[]⟩ : ByteArray), (73 : Int)) by rw [EE.out]; simp]
              exact ⟨rfl, HB8.out⟩
            | false =>
              obtain ⟨t, et⟩ : ∃ t, t = str l := ⟨_, rfl⟩
              have hts : t.size = l.length := by rw [et]; rfl
              have ET := Aside0.mk et
              have DC := Aside0.mk (show ∀ w, WrAt w p q (W + 1) (some l) → Calls Tryz.prog 41 #[.pointer (some ⟨p, 0, none⟩)] w fun e w' => e = .returned (.tuple #[.string t, .int .i64 0]) ∧ Below w.heap.size w w' from fun w hw => by
                rw [et]
                exact done_calls w p q (W + 1) (some l) hw)
              by_cases hl : 1200 < l.length
              · have o3 : decide ((1200 : Int) < (t.size : Int)) = true := decide_eq_true (by omega)
                clear et
                go_wp2_with (go_at_call 41; (with_reducible refine (DC.out _ GI.out.wr).mono ?_); rintro e w8 ⟨rfl, hb8⟩; have c16 : w8.cell? ⟨W, 16, none⟩ = some (.bool false) := (GI.out.below hb8).at_ rfl; have HB8 := Aside0.mk (BW.out.trans (hb8.mono BW.out.size)))
                go_ret2
                rw [show enc d = ((⟨#[]⟩ : ByteArray), (72 : Int)) by rw [EE.out, if_neg (by simp)]; exact if_pos hl]
                exact ⟨rfl, HB8.out⟩
              · have o3 : decide ((1200 : Int) < (t.size : Int)) = false := decide_eq_false (by omega)
                clear et
                go_wp2_with (go_at_call 41; (with_reducible refine (DC.out _ GI.out.wr).mono ?_); rintro e w8 ⟨rfl, hb8⟩; have c16 : w8.cell? ⟨W, 16, none⟩ = some (.bool false) := (GI.out.below hb8).at_ rfl; have HB8 := Aside0.mk (BW.out.trans (hb8.mono BW.out.size)))
                go_ret2
                rw [show enc d = (t, (0 : Int)) by rw [EE.out, if_neg (by simp), ET.out]; exact if_neg hl]
                exact ⟨rfl, HB8.out⟩
  · have KC := Aside0.mk (show ∀ w, Calls Tryz.prog 26 #[.int .i64 d.kind] w fun e w' => e = .returned (.bool false) ∧ w' = w from fun w => by
      have := known_calls d.kind w
      rw [decide_eq_false h17] at this
      exact this)
    have EE : enc d = ((⟨#[]⟩ : ByteArray), (71 : Int)) := by unfold enc; rw [if_neg h17]
    rw [EE]
    clear h17 EE
    go_enter Tryz.func16, Tryz.ntmps16
    go_wp2_with (first
      | (refine wpList_box_v rfl 27 _ rfl d.cells rfl (by kernel_rfl) ?_; intro D w1 eD hD1 hb1 hz1; have c0 : w1.cell? ⟨D, 0, none⟩ = some (.int .i64 d.kind) := cell_of hD1.out rfl)
      | (go_at_call 26; (with_reducible refine (KC.out w1).mono ?_); rintro e w0 ⟨rfl, rfl⟩))
    go_ret2
    exact ⟨rfl, hb1.out⟩
end Go.Proofs.YtniabkphbnimaaaGreatDoor.Sh
namespace Go.Proofs.YtniabkphbnimaaaGreatDoor.Sh
open Go Go.RowKit Go.Maps Go.Proofs.YtniabkphbnimaaaGreatDoorW.PrintWords Go.Proofs.YtniabkphbnimaaaGreatDoorW.PrintLast Go.Proofs.YtniabkphbnimaaaGreatDoor.Bs
def Dg.zero : Dg := ⟨0, ⟨#[]⟩, 0, ⟨#[]⟩, ⟨#[]⟩, 0, 0, ⟨#[]⟩, 0, 0, 0, false, false, ⟨#[]⟩, ⟨#[]⟩⟩
@[reducible] def tooShort (r : Bool) : PanicEntry := { v := .iface 28 (.int .i64 72), recovered := r }
set_option maxHeartbeats 8000000 in
set_option maxRecDepth 100000 in
theorem catch_idle (D E : Nat) (w : World) : CallsD Tryz.prog 27 #[.pointer (some ⟨D, 0, none⟩), .pointer (some ⟨E, 0, none⟩)] .returning w fun e u' w' => e = .returned (.tuple #[]) ∧ u' = .returning ∧ w' = w := by
  refine callsD_of_wpS Tryz.func27 rfl fun c₀ cs hu => ?_
  simp only [Tryz.ntmps27, List.size_toArray, List.length_cons, List.length_nil, Nat.reduceAdd, Nat.reduceSub, Array.replicate_succ, Array.replicate_zero, List.push_toArray, List.append_toArray, List.nil_append, List.cons_append]
  apply wpS_seq
  apply wpS_region
  simp [wpOpsS, go_sem, recoverD, hu, Exit.thenS]
  apply wpS_seq
  apply wpS_region
  simp [wpOpsS, go_sem, recoverD, hu, Exit.thenS]
  refine wpS_cond (t := false) (by simp [Act.eval]) ?_
  simp only [Bool.false_eq_true, if_false]
  refine wpS_of_wp (wp_skip ?_)
  cases c₀
  simp_all [bodyPostS, results, Tryz.results27]
set_option maxHeartbeats 8000000 in
set_option maxRecDepth 100000 in
theorem catch_short (D E : Nat) (w : World) (d : Dg) (e0 : Int) (hne : D ≠ E) (hD : w.heap[D]? = some (.cells d.cells.toArray 27 (0, 0))) (hE : w.heap[E]? = some (.cells [Value.int .i64 e0].toArray 28 (0, 0))) :
    CallsD Tryz.prog 27 #[.pointer (some ⟨D, 0, none⟩), .pointer (some ⟨E, 0, none⟩)] (.panicking [tooShort false]) w fun e u' w' => e = .returned (.tuple #[]) ∧ u' = .panicking [tooShort true] ∧ w'.heap[D]? = some (.cells Dg.zero.cells.toArray 27 (0, 0)) ∧ w'.heap[E]? = some (.cells [Value.int .i64 72].toArray 28 (0, 0)) ∧ Mv w w' (fun k => k = D ∨ k = E) := by
  have cE : w.cell? ⟨E, 0, none⟩ = some (.int .i64 e0) := cell_of hE rfl
  have HD := Aside0.mk hD
  have HE := Aside0.mk hE
  have hta : ∀ w, (Instr.typeAssert (.iface 28 (.int .i64 72)) 20 28 true).run Tryz.prog w = .ok (.tuple #[.int .i64 72, .bool true]) w := fun _ => by kernel_rfl
  refine callsD_of_wpS Tryz.func27 rfl fun c₀ cs hu => ?_
  simp only [Tryz.ntmps27, List.size_toArray, List.length_cons, List.length_nil, Nat.reduceAdd, Nat.reduceSub, Array.replicate_succ, Array.replicate_zero, List.push_toArray, List.append_toArray, List.nil_append, List.cons_append]
  apply wpS_seq
  apply wpS_region
  simp [wpOpsS, go_sem, recoverD, hu, Exit.thenS]
  refine wpS_of_wp ?_
  go_wp2_with (refine wpList_store_agg rfl 27 _ _ rfl D 0 rfl Dg.zero.cells d.cells rfl _ HD.out (by exact Nat.le_refl 15) (fun v hv => one_cells hv) (by kernel_rfl) ?_; intro w1 hD1 hm1 hz1; have HD1 := Aside0.mk (show w1.heap[D]? = some (.cells Dg.zero.cells.toArray 27 (0, 0)) from hD1.out); have HM1 := Aside0.mk (show Mv w w1 (fun k => k = D ∨ k = E) from ⟨hm1.out.os, hm1.out.tape, hm1.out.output, hm1.out.size, fun k hk hn => hm1.out.block k hk (fun e => hn (Or.inl e))⟩); have HE1 := Aside0.mk (show w1.heap[E]? = some (.cells [Value.int .i64 e0].toArray 28 (0, 0)) from hm1.out.blk HE.out (fun e => hne e.symm)); have fE := Wd_thaw HE1.out 0; have cE1 : w1.cell? ⟨E, 0, none⟩ = some (.int .i64 e0) := cell_of HE1.out rfl)
  refine ⟨rfl, _, rfl, _, results_none rfl _ _ _, rfl, rfl, ?_, ?_, ?_⟩
  · exact (mv_set w1 E 0 _).blk HD1.out (fun e => hne e)
  · exact set_of HE1.out 0 _
  · exact HM1.out.then ((mv_set w1 E 0 _).mono (fun k hk => hk)) (fun k hk => Or.inl (Or.inr hk))
end Go.Proofs.YtniabkphbnimaaaGreatDoor.Sh
namespace Go.Proofs.YtniabkphbnimaaaGreatDoor.Sh
open Go Go.RowKit Go.Maps Go.Proofs.YtniabkphbnimaaaGreatDoorW.PrintWords Go.Proofs.YtniabkphbnimaaaGreatDoorW.PrintLast Go.Proofs.YtniabkphbnimaaaGreatDoor.Bs
def getAll : List Fld → Dg × Bool × List UInt8 → Option (Dg × Bool × List UInt8)
  | [], s => some s
  | f :: fs, s => (getF f s).bind (getAll fs)
theorem getAll_some {fs : List Fld} {s s' : Dg × Bool × List UInt8} {f : Fld} (h : getF f s = some s') : getAll (f :: fs) s = getAll fs s' := by
  show (getF f s).bind (getAll fs) = _
  rw [h]
  rfl
theorem getAll_none {fs : List Fld} {s : Dg × Bool × List UInt8} {f : Fld} (h : getF f s = none) : getAll (f :: fs) s = none := by
  show (getF f s).bind (getAll fs) = _
  rw [h]
  rfl
/-- What Decode tells. -/
def dec (l : List UInt8) : Dg × Int :=
  if 1200 < l.length then (.zero, 72) else if l.take 3 = [74, 48, 49] then
    match l.drop 3 with
    | [] => (.zero, 71)
    | k :: t => if 1 ≤ (k.toNat : Int) ∧ (k.toNat : Int) ≤ 7 then
        match getAll (fieldsOf (k.toNat : Int)) ({ Dg.zero with kind := (k.toNat : Int) }, false, t) with
        | none => (.zero, 72)
        | some (d, bad, r) => if r ≠ [] then (.zero, 72) else if bad = true then (.zero, 73) else (d, 0)
      else (.zero, 71)
  else (.zero, 70)
theorem cutP_f (l : List UInt8) : QQA.strings_CutPrefix.f (str l) ⟨#[74, 48, 49]⟩ = some (if l.take 3 = [74, 48, 49] then (str (l.drop 3), true) else (str l, false)) := by
  have e3 : ((⟨#[74, 48, 49]⟩ : ByteArray).size : Int) = 3 := rfl
  have e4 : (3 : Int).toNat = 3 := rfl
  unfold QQA.strings_CutPrefix.f QQA.stringslite_CutPrefix.f QQA.stringslite_HasPrefix.f
  rw [e3, e4, str_take, str_list]
  by_cases h : l.take 3 = [74, 48, 49]
  · have hl : 3 ≤ l.length := by have := congrArg List.length h; rw [List.length_take] at this; simp at this; omega
    have hs : (3 : Int) ≤ ((str l).size : Int) := by show (3 : Int) ≤ (l.length : Int); omega
    rw [if_pos hs, if_pos (by decide), if_pos hs, h, if_pos rfl]
    have e5 : ([74, 48, 49] == (⟨#[74, 48, 49]⟩ : ByteArray).toList) = true := by rw [Go.ByteArray.toList_mk]; rfl
    simp only [Option.bind_some, e5, if_true]
    rw [if_pos (by decide), if_pos hs]
    simp only [Option.bind_some, str_drop]
  · rw [if_neg h]
    by_cases hs : (3 : Int) ≤ ((str l).size : Int)
    · rw [if_pos hs, if_pos (by decide), if_pos hs]
      have e5 : (l.take 3 == (⟨#[74, 48, 49]⟩ : ByteArray).toList) = false := by rw [Go.ByteArray.toList_mk]; exact beq_eq_false_iff_ne.mpr h
      simp only [Option.bind_some, e5]
      rfl
    · rw [if_neg hs]
      rfl
theorem cutP_calls (l : List UInt8) (w : World) : Calls Tryz.prog 25 #[.string (str l), .string ⟨#[74, 48, 49]⟩] w fun e w' => e = .returned (.tuple #[.string (if l.take 3 = [74, 48, 49] then str (l.drop 3) else str l), .bool (decide (l.take 3 = [74, 48, 49]))]) ∧ Below w.heap.size w w' := by
  by_cases h : l.take 3 = [74, 48, 49]
  · have hc := cutP_f l
    rw [if_pos h] at hc
    rw [if_pos h, decide_eq_true h]
    exact (QQA.strings_CutPrefix.calls _ _ _ _ w hc).mono fun e w' hh => ⟨hh.1, drawn_below hh.2⟩
  · have hc := cutP_f l
    rw [if_neg h] at hc
    rw [if_neg h, decide_eq_false h]
    exact (QQA.strings_CutPrefix.calls _ _ _ _ w hc).mono fun e w' hh => ⟨hh.1, drawn_below hh.2⟩
/-- The two results at the door. -/
theorem results_dec (tmps : Array Value) (w : World) (D E : Nat) (d : Dg) (e : Int) (h2 : tmps.getD 2 undef = .pointer (some ⟨D, 0, none⟩)) (h3 : tmps.getD 3 undef = .pointer (some ⟨E, 0, none⟩)) (hD : w.heap[D]? = some (.cells d.cells.toArray 27 (0, 0))) (hE : w.heap[E]? = some (.cells [Value.int .i64 e].toArray 28 (0, 0))) :
    (results Tryz.f10 tmps).run Tryz.prog w = .ok (.tuple #[.agg d.cells.toArray, .int .i64 e]) w := by
  have hr : (Tryz.f10).results = #[.cell 2 27, .cell 3 28] := rfl
  have p2 : tmps[2]?.getD undef = .pointer (some ⟨D, 0, none⟩) := by simpa using h2
  have p3 : tmps[3]?.getD undef = .pointer (some ⟨E, 0, none⟩) := by simpa using h3
  have hl := run_loadVar_row (P := Tryz.prog) w D 27 27 d.cells.toArray (0, 0) _ hD Tryz.underlying27 rfl (by kernel_rfl)
  have cE : w.cell? ⟨E, 0, none⟩ = some (.int .i64 e) := cell_of hE rfl
  have hlE : (loadVar 28 ⟨E, 0, none⟩).run Tryz.prog w = .ok (.int .i64 e) w := by simp [go_sem, cE]
  simp [results, hr, p2, p3, asAddr, hl, hlE]
theorem door_ret (tmps : Array Value) (w : World) (D E : Nat) (d : Dg) (e : Int) (R : Ending → World → Prop) (h2 : tmps.getD 2 undef = .pointer (some ⟨D, 0, none⟩)) (h3 : tmps.getD 3 undef = .pointer (some ⟨E, 0, none⟩)) (hD : w.heap[D]? = some (.cells d.cells.toArray 27 (0, 0))) (hE : w.heap[E]? = some (.cells [Value.int .i64 e].toArray 28 (0, 0)))
    (h : R (.returned (.tuple #[.agg d.cells.toArray, .int .i64 e])) w) : bodyPostD Tryz.prog Tryz.f10 R .ret { tmps := tmps, defers := [] } w :=
  ⟨_, results_dec tmps w D E d e h2 h3 hD hE, h⟩
/-- Through the deferred closure where all went well. -/
theorem door_ok (tmps : Array Value) (w : World) (D E : Nat) (d : Dg) (e : Int) (R : Ending → World → Prop) (h2 : tmps.getD 2 undef = .pointer (some ⟨D, 0, none⟩)) (h3 : tmps.getD 3 undef = .pointer (some ⟨E, 0, none⟩)) (hD : w.heap[D]? = some (.cells d.cells.toArray 27 (0, 0))) (hE : w.heap[E]? = some (.cells [Value.int .i64 e].toArray 28 (0, 0)))
    (h : R (.returned (.tuple #[.agg d.cells.toArray, .int .i64 e])) w) : bodyPostD Tryz.prog Tryz.f10 R .ret { tmps := tmps, defers := [{ target := .fn (.func 27) #[.pointer (some ⟨D, 0, none⟩), .pointer (some ⟨E, 0, none⟩)], args := #[] }] } w := by
  show Leaves Tryz.prog Tryz.f10 tmps R _ .returning w
  refine leaves_cons (f := 27) (args := #[.pointer (some ⟨D, 0, none⟩), .pointer (some ⟨E, 0, none⟩)]) (by simp) (by simp [go_sem]) ?_
  refine (catch_idle D E w).mono ?_
  rintro e2 u' w'' ⟨rfl, rfl, rfl⟩
  exact ⟨_, results_dec tmps _ D E d e h2 h3 hD hE, h⟩
/-- Through the deferred closure where a field was too short. -/
theorem door_short (tmps : Array Value) (w : World) (D E : Nat) (d : Dg) (e : Int) (R : Ending → World → Prop) (h2 : tmps.getD 2 undef = .pointer (some ⟨D, 0, none⟩)) (h3 : tmps.getD 3 undef = .pointer (some ⟨E, 0, none⟩)) (hne : D ≠ E) (hD : w.heap[D]? = some (.cells d.cells.toArray 27 (0, 0))) (hE : w.heap[E]? = some (.cells [Value.int .i64 e].toArray 28 (0, 0)))
    (h : ∀ w', Mv w w' (fun k => k = D ∨ k = E) → R (.returned (.tuple #[.agg Dg.zero.cells.toArray, .int .i64 72])) w') : bodyPostD Tryz.prog Tryz.f10 R (.panic [tooShort false]) { tmps := tmps, defers := [{ target := .fn (.func 27) #[.pointer (some ⟨D, 0, none⟩), .pointer (some ⟨E, 0, none⟩)], args := #[] }] } w := by
  show Leaves Tryz.prog Tryz.f10 tmps R _ (.panicking [tooShort false]) w
  refine leaves_cons (f := 27) (args := #[.pointer (some ⟨D, 0, none⟩), .pointer (some ⟨E, 0, none⟩)]) (by simp) (by simp [go_sem]) ?_
  refine (catch_short D E w d e hne hD hE).mono ?_
  rintro e2 u' w'' ⟨rfl, rfl, h1, h2', h3'⟩
  exact ⟨_, results_dec tmps _ D E Dg.zero 72 h2 h3 h1 h2', h _ h3'⟩
theorem get_fn (f : Fld) : ∃ fn : Func, Tryz.prog.funcs[f.get]? = some fn ∧ (fn.name == "runtime.NumGoroutine") = false ∧ fn.body.isSome = true := by
  cases f with
  | nonce => exact ⟨_, Tryz.func48, by kernel_rfl, by kernel_rfl⟩
  | zeros => exact ⟨_, Tryz.func50, by kernel_rfl, by kernel_rfl⟩
  | epoch => exact ⟨_, Tryz.func52, by kernel_rfl, by kernel_rfl⟩
  | cookie => exact ⟨_, Tryz.func54, by kernel_rfl, by kernel_rfl⟩
  | name => exact ⟨_, Tryz.func56, by kernel_rfl, by kernel_rfl⟩
  | tag => exact ⟨_, Tryz.func58, by kernel_rfl, by kernel_rfl⟩
  | session => exact ⟨_, Tryz.func60, by kernel_rfl, by kernel_rfl⟩
  | player => exact ⟨_, Tryz.func62, by kernel_rfl, by kernel_rfl⟩
  | salt => exact ⟨_, Tryz.func64, by kernel_rfl, by kernel_rfl⟩
  | seq => exact ⟨_, Tryz.func66, by kernel_rfl, by kernel_rfl⟩
  | command => exact ⟨_, Tryz.func68, by kernel_rfl, by kernel_rfl⟩
  | data => exact ⟨_, Tryz.func70, by kernel_rfl, by kernel_rfl⟩
theorem getF_len {f : Fld} {s s' : Dg × Bool × List UInt8} (h : getF f s = some s') : s'.2.2.length ≤ s.2.2.length := by
  obtain ⟨d, bad, l⟩ := s
  cases f with
  | name =>
    cases l with
    | nil => cases h
    | cons b t => simp only [getF] at h; split at h; (cases h; simp only [List.length_drop, List.length_cons]; omega); cases h
  | player =>
    cases l with
    | nil => cases h
    | cons b t => cases h; simp only [List.length_cons]; omega
  | command =>
    match l, h with
    | a :: b :: c :: t, h => cases h; simp only [List.length_cons]; omega
  | _ => simp only [getF] at h; split at h; (cases h; simp only [List.length_drop]; omega); cases h
theorem RgAt.load {w : World} {R p : Nat} {d : Dg} {bad : Bool} {l : List UInt8} (H : RgAt w R p d bad l) (j : Nat) (v : Value) (hj : d.cells[j]? = some v) : w.cell? ⟨R, 1 + j, none⟩ = some v := by
  refine H.at_ (i := 1 + j) ?_
  show (_ :: (d.cells ++ [Value.bool bad]))[1 + j]? = some v
  rw [Nat.add_comm, List.getElem?_cons_succ, List.getElem?_append_left (by have := (List.getElem?_eq_some_iff.mp hj).1; exact this)]
  exact hj
theorem two_mv {w w1 w2 : World} {S : Nat → Prop} (h : Mv w w1 (fun k => w.heap.size ≤ k)) (h2 : Mv w1 w2 S) : Mv w w2 (fun k => S k ∨ w.heap.size ≤ k) := (h.mono (fun k hk => Or.inr hk)).then h2 (fun k hk => Or.inl (Or.inl hk))
section
variable {P : Program} {ops : Array Oper} {rest : List Oper} {o : Oper} {a : Act} {w : World} {Q : Exit → Act → World → Prop}
/-- A call of a function value in a plain region, of one that panics. -/
theorem goesLp_ (hg : o.guard = none) {f : FuncId} {x : Operand} {av : Array Operand} {ts : Array TypeId} {first caps : Array Value} (hf : ∃ fn : Func, P.funcs[f]? = some fn ∧ (fn.name == "runtime.NumGoroutine") = false ∧ fn.body.isSome = true) (args : Array Value)
    (hop : o.op = .call { callee := .value x, args := av, argTypes := ts }) (hx : a.eval x = .func (.func f) first caps) (hargs : first ++ av.map a.eval ++ caps = args)
    (h : Calls P f args w fun e w' => ∃ c, e = .panicked c ∧ Q (.panic c) a w') : wpList P ops Q (o :: rest) a w := by
  obtain ⟨fn, h1, h2, h3⟩ := hf
  refine wpList_plain hg fun K hK => ?_
  have he := enters_ h1 h2 h3 args w
  have hrun : (execOp a.eval o).run P w = .ok (.enter f args) w := by
    unfold execOp
    simp [hop, resolve, Deferred.ofValue, invoke, hx, ← hargs] at he ⊢
    simp [he]
  unfold Oper.wp
  rw [hrun, Oper.upon_enter]
  refine h.mono fun e w'' hh => ?_
  obtain ⟨c, rfl, hk⟩ := hh
  exact hk
end
theorem toBelow' {w w1 w2 : World} {D : Nat} (hb : Below w.heap.size w w1) (h : Mv w1 w2 (fun k => k = D)) (hS : w.heap.size ≤ D) : Below w.heap.size w w2 := Mv.toBelow hb h (fun k hk => by omega)
set_option maxHeartbeats 8000000 in
set_option maxRecDepth 100000 in
theorem decode_calls (l : List UInt8) (w : World) : Calls Tryz.prog 10 #[.string (str l)] w fun e w' => e = .returned (.tuple #[.agg (dec l).1.cells.toArray, .int .i64 (dec l).2]) ∧ Below w.heap.size w w' := by
  obtain ⟨t, et⟩ : ∃ t, t = str l := ⟨_, rfl⟩
  have hts : t.size = l.length := by rw [et]; rfl
  have HCUT := Aside0.mk (show ∀ w, Calls Tryz.prog 25 #[.string t, .string ⟨#[74, 48, 49]⟩] w fun e w' => e = .returned (.tuple #[.string (if l.take 3 = [74, 48, 49] then str (l.drop 3) else str l), .bool (decide (l.take 3 = [74, 48, 49]))]) ∧ Below w.heap.size w w' from by rw [et]; exact cutP_calls l)
  rw [← et]
  clear et
  have hmf : ∀ (fn : Fn) (first cap : Array Value) (w : World), (Instr.makeFunc fn first cap).run Tryz.prog w = .ok (.func fn first cap) w := fun _ _ _ _ => rfl
  go_enter_defers Tryz.func10, Tryz.ntmps10
  go_upto_region 0 with fail
  go_cut [2, 3] from 2 to 3 (fun x y wc => ∃ D E, x = .pointer (some ⟨D, 0, none⟩) ∧ y = .pointer (some ⟨E, 0, none⟩) ∧ wc.heap[D]? = some (.cells Dg.zero.cells.toArray 27 (0, 0)) ∧ wc.heap[E]? = some (.cells [Value.int .i64 0].toArray 28 (0, 0)) ∧ (D ≠ E ∧ w.heap.size ≤ D ∧ w.heap.size ≤ E) ∧ Below w.heap.size w wc)
  case first =>
    go_wp2_with (refine wpList_alloc_v rfl 27 rfl Dg.zero.cells (by kernel_rfl) ?_; intro D w1 eD hD1 hb1 hz1)
    go_meet
    exact ⟨D, w1.heap.size, rfl, rfl, (heap_alloc_old w1 _ (by have := hz1.out; omega)).trans hD1.out, heap_alloc_new w1 _, ⟨by have := hz1.out; omega, by have := eD.out; omega, by have := hz1.out; have := eD.out; omega⟩, below_alloc hb1.out _⟩
  case rest =>
    obtain ⟨D, E, rfl, rfl, hD, hE, hne, hb⟩ := hcut
    have HD := Aside0.mk hD
    have HE := Aside0.mk hE
    have HNE := Aside0.mk hne
    have HB := Aside0.mk hb
    clear hD hE hne hb
    by_cases h1 : 1200 < l.length
    · have o1 : decide ((1200 : Int) < (t.size : Int)) = true := decide_eq_true (by omega)
      have EDEC := Aside0.mk (show dec l = (Dg.zero, 72) from if_pos h1)
      clear hts
      go_wp2_with (first
        | (refine wpList_load_agg rfl 27 _ rfl D 0 rfl Dg.zero.cells (load_all HD.out) _ Tryz.underlying27 rfl (by kernel_rfl) ?_)
        | (refine wpList_store_agg rfl 27 _ _ rfl D 0 rfl Dg.zero.cells Dg.zero.cells rfl _ HD.out (by exact Nat.le_refl 15) (fun v hv => one_cells hv) (by kernel_rfl) ?_; intro w9 hD9 hm9 hz9; have HD9 := Aside0.mk (show w9.heap[D]? = some (.cells (Dg.zero.cells).toArray 27 (0, 0)) from hD9.out); have HE9 := Aside0.mk (show w9.heap[E]? = some (.cells [Value.int .i64 0].toArray 28 (0, 0)) from hm9.out.blk HE.out (fun e => HNE.out.1 e.symm)); have fE9 := Wd_thaw HE9.out 0; have cE9 : w9.cell? ⟨E, 0, none⟩ = some (.int .i64 0) := cell_of HE9.out rfl; have HM9 := Aside0.mk (show Below w.heap.size w w9 from toBelow' HB.out hm9.out (by have := HNE.out; omega))))
      rw [EDEC.out]
      exact door_ret _ _ D E Dg.zero 72 _ rfl rfl ((mv_set w9 E 0 _).blk HD9.out HNE.out.1) (set_of HE9.out 0 _) ⟨rfl, below_set1 HM9.out HNE.out.2.2 _⟩
    have o1 : decide ((1200 : Int) < (t.size : Int)) = false := decide_eq_false (by omega)
    clear hts
    by_cases h2 : l.take 3 = [74, 48, 49]
    · rw [decide_eq_true h2, if_pos h2] at HCUT
      obtain ⟨m, em⟩ : ∃ m, m = l.drop 3 := ⟨_, rfl⟩
      rw [← em] at HCUT
      have edec : dec l = _ := (if_neg h1).trans (if_pos h2)
      rw [← em] at edec
      have hlen : m.length ≤ 1200 := by rw [em, List.length_drop]; omega
      cases m with
      | nil =>
        have EDEC := Aside0.mk (show dec l = (Dg.zero, 71) from edec)
        clear edec em
        have o3 : (str ([] : List UInt8)).toList = [] := str_list []
        go_wp2_with (first
          | (go_at_call 25; (with_reducible refine (HCUT.out wc).mono ?_); rintro e w3 ⟨rfl, hb3⟩; have HD3 := Aside0.mk ((hb3.block D (blk_lt HD.out)).trans HD.out); have HE3 := Aside0.mk ((hb3.block E (blk_lt HE.out)).trans HE.out); have HB3 := Aside0.mk (HB.out.trans (hb3.mono HB.out.size)); clear hb3; clear HD HE HB; have HD := HD3; have HE := HE3; have HB := HB3; clear HD3 HE3 HB3)
          | (refine wpList_load_agg rfl 27 _ rfl D 0 rfl Dg.zero.cells (load_all HD.out) _ Tryz.underlying27 rfl (by kernel_rfl) ?_)
          | (refine wpList_store_agg rfl 27 _ _ rfl D 0 rfl Dg.zero.cells Dg.zero.cells rfl _ HD.out (by exact Nat.le_refl 15) (fun v hv => one_cells hv) (by kernel_rfl) ?_; intro w9 hD9 hm9 hz9; have HD9 := Aside0.mk (show w9.heap[D]? = some (.cells (Dg.zero.cells).toArray 27 (0, 0)) from hD9.out); have HE9 := Aside0.mk (show w9.heap[E]? = some (.cells [Value.int .i64 0].toArray 28 (0, 0)) from hm9.out.blk HE.out (fun e => HNE.out.1 e.symm)); have fE9 := Wd_thaw HE9.out 0; have cE9 : w9.cell? ⟨E, 0, none⟩ = some (.int .i64 0) := cell_of HE9.out rfl; have HM9 := Aside0.mk (show Below w.heap.size w w9 from toBelow' HB.out hm9.out (by have := HNE.out; omega))))
        rw [EDEC.out]
        exact door_ret _ _ D E Dg.zero 71 _ rfl rfl ((mv_set w9 E 0 _).blk HD9.out HNE.out.1) (set_of HE9.out 0 _) ⟨rfl, below_set1 HM9.out HNE.out.2.2 _⟩
      | cons k r =>
        obtain ⟨bd, ebd⟩ : ∃ bd, bd = str (k :: r) := ⟨_, rfl⟩
        rw [← ebd] at HCUT
        have HBS := Aside0.mk (show bd.size = r.length + 1 from by rw [ebd]; rfl)
        have o3 : ¬ bd.toList = [] := by rw [ebd, str_list]; exact List.cons_ne_nil _ _
        have o4 : 0 < bd.size := by have := HBS.out; omega
        have o5 : bd.toList.isEmpty = false := by rw [ebd, str_list]; rfl
        have hk0 : ∀ h : 0 < bd.size, wrap64 ((bd[0]'h).toNat : Int) = (k.toNat : Int) := by
          intro h
          subst ebd
          show wrap64 (k.toNat : Int) = (k.toNat : Int)
          have := k.toNat_lt
          unfold wrap64
          omega
        have htl : bd.extract 1 bd.size = str r := by rw [ebd]; exact str_drop (k :: r) 1
        by_cases h3 : 1 ≤ (k.toNat : Int) ∧ (k.toNat : Int) ≤ 7
        · have KC := Aside0.mk (show ∀ (h : 0 < bd.size) w, Calls Tryz.prog 26 #[.int .i64 (wrap64 ((bd[0]'h).toNat : Int))] w fun e w' => e = .returned (.bool true) ∧ w' = w from fun h w => by
            have := known_calls (k.toNat : Int) w
            rw [decide_eq_true h3] at this
            rw [hk0 h]
            exact this)
          have NC := Aside0.mk (show ∀ w, Calls Tryz.prog 28 #[.string (bd.extract 1 bd.size)] w fun e w' => ∃ p, e = .returned (.pointer (some ⟨p, 0, none⟩)) ∧ p = w.heap.size ∧ w'.heap.size = p + 1 ∧ RdAt w' p r ∧ Below w.heap.size w w' from fun w => by rw [htl]; exact newR_calls w r)
          have FC := Aside0.mk (show ∀ (h : 0 < bd.size) w, Calls Tryz.prog 29 #[.int .i64 (wrap64 ((bd[0]'h).toNat : Int))] w fun e w' => ∃ b, e = .returned (.slice (some ⟨b, 0, none⟩) (fieldsOf (k.toNat : Int)).length (fieldsOf (k.toNat : Int)).length) ∧ w.heap.size ≤ b ∧ w'.heap[b]? = some (.cells ((fieldsOf (k.toNat : Int)).flatMap Fld.vals).toArray 60 (0, 0)) ∧ Below w.heap.size w w' from fun h w => by rw [hk0 h]; exact fields_calls (k.toNat : Int) w)
          have HK0 := Aside0.mk hk0
          have EDEC := Aside0.mk (edec.trans (if_pos h3))
          have HLEN := Aside0.mk hlen
          clear edec em ebd htl hk0 hlen
          go_upto_region 11 with (first
            | (go_at_call 25; (with_reducible refine (HCUT.out wc).mono ?_); rintro e w3 ⟨rfl, hb3⟩; have HD3 := Aside0.mk ((hb3.block D (blk_lt HD.out)).trans HD.out); have HE3 := Aside0.mk ((hb3.block E (blk_lt HE.out)).trans HE.out); have HB3 := Aside0.mk (HB.out.trans (hb3.mono HB.out.size)); clear hb3; clear HD HE HB; have HD := HD3; have HE := HE3; have HB := HB3; clear HD3 HE3 HB3)
            | (go_at_call 26; (with_reducible refine (KC.out _ w3).mono ?_); rintro e w0 ⟨rfl, rfl⟩)
            | (go_at_call 28; (with_reducible refine (NC.out _).mono ?_); rintro e w4 ⟨p, rfl, hp4, hz4, hr4, hb4⟩; have HP4 := Aside0.mk hp4; have HR4 := Aside0.mk hr4; have HB4 := Aside0.mk hb4; clear hp4 hz4 hr4 hb4)
            | (refine wpList_box_v rfl 54 _ rfl (Dg.zero.row p false) (by rfl) (by kernel_rfl) ?_; intro R w5 eR hR5 hb5 hz5; have c1 : w5.cell? ⟨R, 1, none⟩ = some (.int .i64 0) := cell_of hR5.out rfl; have f1 := Wd_thaw hR5.out 1))
          obtain ⟨w6, ew6⟩ : ∃ x, x = w5.setCell ⟨R, 1, none⟩ (.int .i64 (wrap64 ((bd[0]'o4).toNat : Int))) := ⟨_, rfl⟩
          have hR6 : RgAt w6 R p { Dg.zero with kind := (k.toNat : Int) } false r := by
            have h0 : RgAt w5 R p Dg.zero false r := ⟨by have := eR.out; have := blk_lt HR4.out; omega, hR5.out, (hb5.out.block p (blk_lt HR4.out)).trans HR4.out⟩
            rw [ew6, HK0.out o4]
            exact h0.setX 1 _ rfl
          have c6 : w6.cell? ⟨R, 1, none⟩ = some (.int .i64 (wrap64 ((bd[0]'o4).toNat : Int))) := by rw [HK0.out o4]; exact hR6.at_ rfl
          have hm6 : Mv w5 w6 (fun k => k = R) := by rw [ew6]; exact mv_set w5 R 1 _
          have HR6 := Aside0.mk hR6
          have HN6 := Aside0.mk (show (D ≠ R ∧ D ≠ p ∧ E ≠ R ∧ E ≠ p) ∧ w.heap.size ≤ R ∧ w.heap.size ≤ p from by
            have h1 := blk_lt HD.out; have h2 := blk_lt HE.out; have h3 := eR.out; have h4 := HP4.out; have h5 := HB4.out.size; have h6 := HB.out.size; have h7 := blk_lt HR4.out
            exact ⟨⟨by omega, by omega, by omega, by omega⟩, by omega, by omega⟩)
          have h45 : Below w0.heap.size w0 w5 := HB4.out.trans (hb5.out.mono HB4.out.size)
          have HD6 := Aside0.mk (hm6.blk ((h45.block D (blk_lt HD.out)).trans HD.out) HN6.out.1.1)
          have HE6 := Aside0.mk (hm6.blk ((h45.block E (blk_lt HE.out)).trans HE.out) HN6.out.1.2.2.1)
          have HB6 := Aside0.mk (show Below w.heap.size w w6 from Mv.toBelow (HB.out.trans (h45.mono HB.out.size)) hm6 (fun k hk => by have := HN6.out; omega))
          rw [← ew6]
          clear ew6 hR6 hm6 h45 HD HE HB HP4 HR4 HB4 eR hR5 hb5 hz5 c1 f1 KC NC HCUT o3 o5 h3
          go_wp2_with (go_at_call 29; (with_reducible refine (FC.out _ w6).mono ?_); rintro e w7 ⟨b, rfl, hb7, hrow7, hbw7⟩)
          obtain ⟨fs, efs⟩ : ∃ fs, fs = fieldsOf (k.toNat : Int) := ⟨_, rfl⟩
          obtain ⟨n, en⟩ : ∃ n, n = fs.length := ⟨_, rfl⟩
          obtain ⟨s0, es0⟩ : ∃ s0 : Dg × Bool × List UInt8, s0 = ({ Dg.zero with kind := (k.toNat : Int) }, false, r) := ⟨_, rfl⟩
          rw [← efs] at hrow7
          rw [← efs, ← en]
          have EDEC2 := Aside0.mk (show dec l = (match getAll fs s0 with | none => (Dg.zero, 72) | some (d, bad, r) => if r ≠ [] then (Dg.zero, 72) else if bad = true then (Dg.zero, 73) else (d, 0)) from by rw [efs, es0]; exact EDEC.out)
          have HROW := Aside0.mk hrow7
          have HBN := Aside0.mk (show b ≠ R ∧ b ≠ p ∧ n ≤ 5 ∧ fs.length = n from by have h1 := blk_lt HR6.out.2.1; have h2 := blk_lt HR6.out.2.2; exact ⟨by omega, by omega, by rw [en, efs]; exact fields_len _, en.symm⟩)
          have HR7 := Aside0.mk (show RgAt w7 R p s0.1 s0.2.1 s0.2.2 from by rw [es0]; exact HR6.out.fresh (Mv.of_below hbw7 _))
          have HL0 := Aside0.mk (show s0.2.2.length ≤ 1200 from by rw [es0]; have := HLEN.out; rw [List.length_cons] at this; show r.length ≤ 1200; omega)
          have HD7 := Aside0.mk ((hbw7.block D (blk_lt HD6.out)).trans HD6.out)
          have HE7 := Aside0.mk ((hbw7.block E (blk_lt HE6.out)).trans HE6.out)
          have HB7 := Aside0.mk (HB6.out.trans (hbw7.mono HB6.out.size))
          clear efs en es0 hrow7 hb7 hbw7 HR6 HD6 HE6 HB6 FC EDEC HK0 c6 HLEN
          go_loopw [51] (fun iv wq => ∃ (i : Nat) (s : Dg × Bool × List UInt8), iv = .int .i64 (i : Int) ∧ i ≤ n ∧ RgAt wq R p s.1 s.2.1 s.2.2 ∧ (getAll (fs.drop i) s = getAll fs s0 ∧ s.2.2.length ≤ 1200) ∧ Mv w7 wq (fun k => k = R ∨ k = p)) (fun iv _ => n - (intOf iv).toNat)
          case atStart => exact ⟨0, s0, rfl, by omega, HR7.out, ⟨rfl, HL0.out⟩, Mv.refl _ _⟩
          case round =>
            obtain ⟨i, s, rfl, hi, hG, hA, hM⟩ := hrel
            have GI := Aside0.mk hG
            have MI := Aside0.mk hM
            have AI := Aside0.mk hA
            have RI := Aside0.mk (show wr.heap[b]? = _ from hM.blk HROW.out (fun e => by rcases e with e | e; exact HBN.out.1 e; exact HBN.out.2.1 e))
            clear hG hM hA
            by_cases hk : i < n
            · have o1 : decide ((i : Int) < (n : Int)) = true := decide_eq_true (by omega)
              have o2 : decide (i < n) = true := decide_eq_true hk
              have q1 : ((i : Int) < (n : Int)) = True := eq_true (by omega)
              have q2 : (i < n) = True := eq_true hk
              obtain ⟨f, hf⟩ : ∃ f, fs[i]? = some f := ⟨_, List.getElem?_eq_getElem (by rw [HBN.out.2.2.2]; exact hk)⟩
              have HF := Aside0.mk hf
              have AF := Aside0.mk (show getAll (f :: fs.drop (i + 1)) s = getAll fs s0 from by
                have hin : i < fs.length := by rw [HBN.out.2.2.2]; exact hk
                have e : fs.drop i = f :: fs.drop (i + 1) := by rw [List.drop_eq_getElem_cons hin, Option.some.inj ((List.getElem?_eq_getElem hin).symm.trans hf)]
                rw [← AI.out.1, e])
              have ZI := Aside0.mk (show wrap64 ((i : Int) + 1) = ((i + 1 : Nat) : Int) by have := HBN.out; unfold wrap64; omega)
              clear hf
              cases hs : getF f s with
              | some s' =>
                have SG := Aside0.mk hs
                clear hs
                go_wp2_with (first
                  | (refine wpList_load_agg rfl 60 _ rfl b (i * 2) rfl f.vals (fun j v hv => cell_of RI.out (by have h := vals_at fs i f HF.out; rw [Nat.mul_comm i 2]; match j, hv with | 0, hv => cases hv; exact h.1 | 1, hv => cases hv; exact h.2)) _ Tryz.underlying60 rfl (by kernel_rfl) ?_)
                  | (refine wpList_alloc_v rfl 60 rfl [.nilFunc, .nilFunc] (by kernel_rfl) ?_; intro F w8 eF hF8 hb8 hz8)
                  | (refine wpList_store_agg rfl 60 _ _ rfl F 0 rfl f.vals _ rfl _ hF8.out (by exact Nat.le_refl 2) (fun v hv => one_vals hv) (by kernel_rfl) ?_; intro w9 hF9 hm9 hz9; rw [splice_all [.nilFunc, .nilFunc] f.vals rfl] at hF9; have cF : w9.cell? ⟨F, 0, none⟩ = some (.func (.func f.get) #[] #[]) := cell_of hF9.out rfl; have MV9 := Aside0.mk (show Mv wr w9 (fun k => wr.heap.size ≤ k) from (Mv.of_below hb8.out (fun k => wr.heap.size ≤ k)).then hm9.out (fun k hk => Or.inl (by have := eF.out; omega))); have G9 := Aside0.mk (GI.out.fresh MV9.out))
                  | (refine goesLv_ (some 58) rfl rfl (get_fn f) #[.pointer (some ⟨R, 0, none⟩)] rfl rfl (by simp [Act.eval]) ?_; refine (get_ok f w9 R p s s' (by have := AI.out.2; omega) G9.out SG.out).mono ?_; rintro e w10 ⟨rfl, hg10, hm10⟩; refine ⟨_, rfl, ?_⟩))
                rw [ZI.out]
                exact ⟨⟨i + 1, s', rfl, by omega, hg10, ⟨(getAll_some SG.out).symm.trans AF.out, Nat.le_trans (getF_len SG.out) AI.out.2⟩, MI.out.then (two_mv MV9.out hm10) (fun k hk => hk.imp id (fun h => Nat.le_trans MI.out.size h))⟩, by simp only [intOf]; omega⟩
              | none =>
                have SG := Aside0.mk hs
                clear hs
                have EZ := Aside0.mk (show dec l = (Dg.zero, 72) from by rw [EDEC2.out, ← AF.out, getAll_none SG.out])
                go_wp2_with (first
                  | (refine wpList_load_agg rfl 60 _ rfl b (i * 2) rfl f.vals (fun j v hv => cell_of RI.out (by have h := vals_at fs i f HF.out; rw [Nat.mul_comm i 2]; match j, hv with | 0, hv => cases hv; exact h.1 | 1, hv => cases hv; exact h.2)) _ Tryz.underlying60 rfl (by kernel_rfl) ?_)
                  | (refine wpList_alloc_v rfl 60 rfl [.nilFunc, .nilFunc] (by kernel_rfl) ?_; intro F w8 eF hF8 hb8 hz8)
                  | (refine wpList_store_agg rfl 60 _ _ rfl F 0 rfl f.vals _ rfl _ hF8.out (by exact Nat.le_refl 2) (fun v hv => one_vals hv) (by kernel_rfl) ?_; intro w9 hF9 hm9 hz9; rw [splice_all [.nilFunc, .nilFunc] f.vals rfl] at hF9; have cF : w9.cell? ⟨F, 0, none⟩ = some (.func (.func f.get) #[] #[]) := cell_of hF9.out rfl; have MV9 := Aside0.mk (show Mv wr w9 (fun k => wr.heap.size ≤ k) from (Mv.of_below hb8.out (fun k => wr.heap.size ≤ k)).then hm9.out (fun k hk => Or.inl (by have := eF.out; omega))); have G9 := Aside0.mk (GI.out.fresh MV9.out))
                  | (refine goesLp_ rfl (get_fn f) #[.pointer (some ⟨R, 0, none⟩)] rfl rfl (by simp [Act.eval]) ?_; refine (get_short f w9 R p s G9.out SG.out).mono ?_; rintro e w10 ⟨rfl, hm10⟩; refine ⟨_, rfl, ?_⟩))
                have M10 : Mv w7 w10 (fun k => k = R ∨ k = p) := MI.out.then (two_mv MV9.out hm10) (fun k hk => hk.imp id (fun h => Nat.le_trans MI.out.size h))
                have hN := HN6.out
                rw [EZ.out]
                exact door_short _ _ D E Dg.zero 0 _ rfl rfl HNE.out.1 (M10.blk HD7.out (by omega)) (M10.blk HE7.out (by omega)) (fun w' hm => ⟨rfl, Mv.toBelow (Mv.toBelow HB7.out M10 (fun k hk => by omega)) hm (fun k hk => by have := HNE.out; omega)⟩)
            · have o1 : decide ((i : Int) < (n : Int)) = false := decide_eq_false (by omega)
              have o2 : decide (i < n) = false := decide_eq_false hk
              have hall : fs.drop i = [] := List.drop_eq_nil_of_le (by have := HBN.out; omega)
              have EG := Aside0.mk (show getAll fs s0 = some s from by rw [← AI.out.1, hall]; rfl)
              have hN := HN6.out
              have HDr := Aside0.mk (MI.out.blk HD7.out (by omega))
              have HEr := Aside0.mk (MI.out.blk HE7.out (by omega))
              have HBr := Aside0.mk (Mv.toBelow HB7.out MI.out (fun k hk => by omega))
              have c0 : wr.cell? ⟨R, 0, none⟩ = some (.pointer (some ⟨p, 0, none⟩)) := GI.out.at_ rfl
              clear hall hN
              obtain ⟨d, bad, rest⟩ := s
              simp only at GI
              by_cases hr : rest = []
              · subst hr
                have LC := Aside0.mk (show ∀ w, RdAt w p [] → Calls Tryz.prog 30 #[.pointer (some ⟨p, 0, none⟩)] w fun e w' => e = .returned (.int .i64 0) ∧ w' = w from fun w hw => left_calls w p [] hw)
                cases bad with
                | true =>
                  have EZ := Aside0.mk (show dec l = (Dg.zero, 73) from by rw [EDEC2.out, EG.out]; rfl)
                  have c16 : wr.cell? ⟨R, 16, none⟩ = some (.bool true) := GI.out.at_ rfl
                  go_wp2_with (first
                    | (go_at_call 30; (with_reducible refine (LC.out wr GI.out.rd).mono ?_); rintro e w8 ⟨rfl, rfl⟩)
                    | (refine wpList_store_agg rfl 27 _ _ rfl D 0 rfl Dg.zero.cells Dg.zero.cells rfl _ HDr.out (by exact Nat.le_refl 15) (fun v hv => one_cells hv) (by kernel_rfl) ?_; intro w9 hD9 hm9 hz9; have HD9 := Aside0.mk (show w9.heap[D]? = some (.cells (Dg.zero.cells).toArray 27 (0, 0)) from hD9.out); have HE9 := Aside0.mk (show w9.heap[E]? = some (.cells [Value.int .i64 0].toArray 28 (0, 0)) from hm9.out.blk HEr.out (fun e => HNE.out.1 e.symm)); have fE9 := Wd_thaw HE9.out 0; have cE9 : w9.cell? ⟨E, 0, none⟩ = some (.int .i64 0) := cell_of HE9.out rfl; have HM9 := Aside0.mk (show Below w.heap.size w w9 from toBelow' HBr.out hm9.out (by have := HNE.out; omega))))
                  rw [EZ.out]
                  exact door_ok _ _ D E Dg.zero 73 _ rfl rfl ((mv_set w9 E 0 _).blk HD9.out HNE.out.1) (set_of HE9.out 0 _) ⟨rfl, below_set1 HM9.out HNE.out.2.2 _⟩
                | false =>
                  have EZ := Aside0.mk (show dec l = (d, 0) from by rw [EDEC2.out, EG.out]; rfl)
                  have c16 : wr.cell? ⟨R, 16, none⟩ = some (.bool false) := GI.out.at_ rfl
                  go_wp2_with (first
                    | (go_at_call 30; (with_reducible refine (LC.out wr GI.out.rd).mono ?_); rintro e w8 ⟨rfl, rfl⟩)
                    | (refine wpList_load_agg rfl 27 _ rfl R 1 rfl d.cells GI.out.load _ Tryz.underlying27 rfl (by kernel_rfl) ?_)
                    | (refine wpList_store_agg rfl 27 _ _ rfl D 0 rfl d.cells Dg.zero.cells rfl _ HDr.out (by exact Nat.le_refl 15) (fun v hv => one_cells hv) (by kernel_rfl) ?_; intro w9 hD9 hm9 hz9; have HD9 := Aside0.mk (show w9.heap[D]? = some (.cells (d.cells).toArray 27 (0, 0)) from hD9.out); have HE9 := Aside0.mk (show w9.heap[E]? = some (.cells [Value.int .i64 0].toArray 28 (0, 0)) from hm9.out.blk HEr.out (fun e => HNE.out.1 e.symm)); have fE9 := Wd_thaw HE9.out 0; have cE9 : w9.cell? ⟨E, 0, none⟩ = some (.int .i64 0) := cell_of HE9.out rfl; have HM9 := Aside0.mk (show Below w.heap.size w w9 from toBelow' HBr.out hm9.out (by have := HNE.out; omega))))
                  rw [EZ.out]
                  exact door_ok _ _ D E d 0 _ rfl rfl ((mv_set w9 E 0 _).blk HD9.out HNE.out.1) (set_of HE9.out 0 _) ⟨rfl, below_set1 HM9.out HNE.out.2.2 _⟩
              · have EZ := Aside0.mk (show dec l = (Dg.zero, 72) from by rw [EDEC2.out, EG.out]; exact if_pos hr)
                have hlr : 0 < rest.length := List.length_pos_iff.mpr hr
                have o3 : decide ((0 : Int) < (rest.length : Int)) = true := decide_eq_true (by omega)
                go_wp2_with (first
                  | (go_at_call 30; (with_reducible refine (left_calls wr p rest GI.out.rd).mono ?_); rintro e w8 ⟨rfl, rfl⟩)
                  | (refine wpList_store_agg rfl 27 _ _ rfl D 0 rfl Dg.zero.cells Dg.zero.cells rfl _ HDr.out (by exact Nat.le_refl 15) (fun v hv => one_cells hv) (by kernel_rfl) ?_; intro w9 hD9 hm9 hz9; have HD9 := Aside0.mk (show w9.heap[D]? = some (.cells (Dg.zero.cells).toArray 27 (0, 0)) from hD9.out); have HE9 := Aside0.mk (show w9.heap[E]? = some (.cells [Value.int .i64 0].toArray 28 (0, 0)) from hm9.out.blk HEr.out (fun e => HNE.out.1 e.symm)); have fE9 := Wd_thaw HE9.out 0; have cE9 : w9.cell? ⟨E, 0, none⟩ = some (.int .i64 0) := cell_of HE9.out rfl; have HM9 := Aside0.mk (show Below w.heap.size w w9 from toBelow' HBr.out hm9.out (by have := HNE.out; omega))))
                rw [EZ.out]
                exact door_ok _ _ D E Dg.zero 72 _ rfl rfl ((mv_set w9 E 0 _).blk HD9.out HNE.out.1) (set_of HE9.out 0 _) ⟨rfl, below_set1 HM9.out HNE.out.2.2 _⟩
        · have EDEC := Aside0.mk (show dec l = (Dg.zero, 71) from edec.trans (if_neg h3))
          have KC := Aside0.mk (show ∀ (h : 0 < bd.size) w, Calls Tryz.prog 26 #[.int .i64 (wrap64 ((bd[0]'h).toNat : Int))] w fun e w' => e = .returned (.bool false) ∧ w' = w from fun h w => by
            have := known_calls (k.toNat : Int) w
            rw [decide_eq_false h3] at this
            rw [hk0 h]
            exact this)
          clear edec em ebd hk0 htl
          go_wp2_with (first
            | (go_at_call 25; (with_reducible refine (HCUT.out wc).mono ?_); rintro e w3 ⟨rfl, hb3⟩; have HD3 := Aside0.mk ((hb3.block D (blk_lt HD.out)).trans HD.out); have HE3 := Aside0.mk ((hb3.block E (blk_lt HE.out)).trans HE.out); have HB3 := Aside0.mk (HB.out.trans (hb3.mono HB.out.size)); clear hb3; clear HD HE HB; have HD := HD3; have HE := HE3; have HB := HB3; clear HD3 HE3 HB3)
            | (go_at_call 26; (with_reducible refine (KC.out _ w3).mono ?_); rintro e w0 ⟨rfl, rfl⟩)
            | (refine wpList_load_agg rfl 27 _ rfl D 0 rfl Dg.zero.cells (load_all HD.out) _ Tryz.underlying27 rfl (by kernel_rfl) ?_)
            | (refine wpList_store_agg rfl 27 _ _ rfl D 0 rfl Dg.zero.cells Dg.zero.cells rfl _ HD.out (by exact Nat.le_refl 15) (fun v hv => one_cells hv) (by kernel_rfl) ?_; intro w9 hD9 hm9 hz9; have HD9 := Aside0.mk (show w9.heap[D]? = some (.cells (Dg.zero.cells).toArray 27 (0, 0)) from hD9.out); have HE9 := Aside0.mk (show w9.heap[E]? = some (.cells [Value.int .i64 0].toArray 28 (0, 0)) from hm9.out.blk HE.out (fun e => HNE.out.1 e.symm)); have fE9 := Wd_thaw HE9.out 0; have cE9 : w9.cell? ⟨E, 0, none⟩ = some (.int .i64 0) := cell_of HE9.out rfl; have HM9 := Aside0.mk (show Below w.heap.size w w9 from toBelow' HB.out hm9.out (by have := HNE.out; omega))))
          rw [EDEC.out]
          exact door_ret _ _ D E Dg.zero 71 _ rfl rfl ((mv_set w9 E 0 _).blk HD9.out HNE.out.1) (set_of HE9.out 0 _) ⟨rfl, below_set1 HM9.out HNE.out.2.2 _⟩
    · rw [decide_eq_false h2, if_neg h2] at HCUT
      have EDEC := Aside0.mk (show dec l = (Dg.zero, 70) from (if_neg h1).trans (if_neg h2))
      go_wp2_with (first
        | (go_at_call 25; (with_reducible refine (HCUT.out wc).mono ?_); rintro e w3 ⟨rfl, hb3⟩; have HD3 := Aside0.mk ((hb3.block D (blk_lt HD.out)).trans HD.out); have HE3 := Aside0.mk ((hb3.block E (blk_lt HE.out)).trans HE.out); have HB3 := Aside0.mk (HB.out.trans (hb3.mono HB.out.size)); clear hb3; clear HD HE HB; have HD := HD3; have HE := HE3; have HB := HB3; clear HD3 HE3 HB3)
        | (refine wpList_load_agg rfl 27 _ rfl D 0 rfl Dg.zero.cells (load_all HD.out) _ Tryz.underlying27 rfl (by kernel_rfl) ?_)
        | (refine wpList_store_agg rfl 27 _ _ rfl D 0 rfl Dg.zero.cells Dg.zero.cells rfl _ HD.out (by exact Nat.le_refl 15) (fun v hv => one_cells hv) (by kernel_rfl) ?_; intro w9 hD9 hm9 hz9; have HD9 := Aside0.mk (show w9.heap[D]? = some (.cells (Dg.zero.cells).toArray 27 (0, 0)) from hD9.out); have HE9 := Aside0.mk (show w9.heap[E]? = some (.cells [Value.int .i64 0].toArray 28 (0, 0)) from hm9.out.blk HE.out (fun e => HNE.out.1 e.symm)); have fE9 := Wd_thaw HE9.out 0; have cE9 : w9.cell? ⟨E, 0, none⟩ = some (.int .i64 0) := cell_of HE9.out rfl; have HM9 := Aside0.mk (show Below w.heap.size w w9 from toBelow' HB.out hm9.out (by have := HNE.out; omega))))
      rw [EDEC.out]
      exact door_ret _ _ D E Dg.zero 70 _ rfl rfl ((mv_set w9 E 0 _).blk HD9.out HNE.out.1) (set_of HE9.out 0 _) ⟨rfl, below_set1 HM9.out HNE.out.2.2 _⟩
end Go.Proofs.YtniabkphbnimaaaGreatDoor.Sh
namespace Go.Proofs.YtniabkphbnimaaaGreatDoor.Sh
open Go Go.RowKit Go.Maps Go.Proofs.YtniabkphbnimaaaGreatDoorW.PrintWords Go.Proofs.YtniabkphbnimaaaGreatDoorW.PrintLast Go.Proofs.YtniabkphbnimaaaGreatDoor.Bs
theorem bt_str (l : List UInt8) (i : Int) : bt (str l) i = ((l.getD i.toNat 0).toNat : Int) := by
  unfold bt
  by_cases h : i.toNat < (str l).size
  · have h' : i.toNat < l.length := h
    rw [dif_pos h, List.getD_eq_getElem?_getD, List.getElem?_eq_getElem h']
    show (((l.toArray)[i.toNat]).toNat : Int) = _
    simp
  · have h' : l.length ≤ i.toNat := Nat.le_of_not_lt h
    rw [dif_neg h, List.getD_eq_getElem?_getD, List.getElem?_eq_none h']
    rfl
theorem orx (c a b : UInt8) : Go.bits .or .u8 (c.toNat : Int) (Go.bits .xor .u8 (a.toNat : Int) (b.toNat : Int)) = ((c ||| (a ^^^ b)).toNat : Int) := by
  show IntKind.u8.wrap ((BitVec.ofInt 8 (c.toNat : Int) ||| BitVec.ofInt 8 (IntKind.u8.wrap ((BitVec.ofInt 8 (a.toNat : Int) ^^^ BitVec.ofInt 8 (b.toNat : Int)).toNat : Int))).toNat : Int) = _
  have e (x : UInt8) : BitVec.ofInt 8 (x.toNat : Int) = x.toBitVec := by
    rw [BitVec.ofInt_natCast]
    simp
  have e2 (x : BitVec 8) : IntKind.u8.wrap (x.toNat : Int) = (x.toNat : Int) := by
    have := x.isLt
    rw [wrap_u8]
    omega
  rw [e, e, e, e2, e2]
  rw [BitVec.ofInt_natCast]
  simp
theorem same_l (a b : List UInt8) (hl : a.length = b.length) (hs : a.length < 4611686018427387904) : ∀ (m i k : Nat) (c : UInt8), m = a.length - i → i ≤ a.length → m < k →
    QQA.mac_Same.l0 k (str a) (str b) (c.toNat : Int) (a.length : Int) (i : Int) = some (decide (c = 0 ∧ a.drop i = b.drop i)) := by
  intro m
  induction m with
  | zero =>
    intro i k c hm hi hk
    obtain ⟨k, rfl⟩ : ∃ j, k = j + 1 := ⟨k - 1, by omega⟩
    unfold QQA.mac_Same.l0
    rw [if_neg (by omega), List.drop_of_length_le (by omega), List.drop_of_length_le (by omega)]
    congr 1
    by_cases hc : c = 0
    · subst hc; rfl
    · have : ¬ ((c.toNat : Int) = 0) := fun h => hc (UInt8.toNat_inj.mp (by show c.toNat = 0; omega))
      rw [decide_eq_false (by intro h; exact hc h.1)]
      exact beq_eq_false_iff_ne.mpr this
  | succ m ih =>
    intro i k c hm hi hk
    obtain ⟨k, rfl⟩ : ∃ j, k = j + 1 := ⟨k - 1, by omega⟩
    have hz : wrap64 ((i : Int) + 1) = ((i + 1 : Nat) : Int) := by unfold wrap64; omega
    have s1 : ((str a).size : Int) = (a.length : Int) := rfl
    have s2 : ((str b).size : Int) = (b.length : Int) := rfl
    unfold QQA.mac_Same.l0
    rw [if_pos (by omega), if_pos (by omega), if_pos (by omega), if_pos (by omega), bt_str, bt_str, orx, hz]
    rw [ih (i + 1) k _ (by omega) (by omega) (by omega)]
    congr 1
    have ha : i < a.length := by omega
    have hb : i < b.length := by omega
    rw [List.drop_eq_getElem_cons ha, List.drop_eq_getElem_cons hb]
    have ga : a.getD ((i : Int)).toNat 0 = a[i] := by rw [Int.toNat_natCast, List.getD_eq_getElem?_getD, List.getElem?_eq_getElem ha]; rfl
    have gb : b.getD ((i : Int)).toNat 0 = b[i] := by rw [Int.toNat_natCast, List.getD_eq_getElem?_getD, List.getElem?_eq_getElem hb]; rfl
    rw [ga, gb]
    apply decide_eq_decide.mpr
    rw [UInt8.or_eq_zero_iff, UInt8.xor_eq_zero_iff, List.cons.injEq, and_assoc]
theorem same_f (a b : List UInt8) (hs : a.length < 4611686018427387904) : QQA.mac_Same.f (a.length + 1) (str a) (str b) = some (decide (a = b)) := by
  unfold QQA.mac_Same.f
  have s1 : ((str a).size : Int) = (a.length : Int) := rfl
  have s2 : ((str b).size : Int) = (b.length : Int) := rfl
  rw [s1, s2]
  by_cases h : a.length = b.length
  · rw [if_pos (by omega)]
    have := same_l a b h hs a.length 0 (a.length + 1) 0 (by omega) (by omega) (by omega)
    simpa using this
  · rw [if_neg (by omega), decide_eq_false (fun e => h (by rw [e]))]
theorem same_calls (a b : List UInt8) (hs : a.length < 4611686018427387904) (w : World) : Calls Tryz.prog 36 #[.string (str a), .string (str b)] w fun e w' => e = .returned (.bool (decide (a = b))) ∧ Below w.heap.size w w' :=
  (QQA.mac_Same.calls _ _ _ _ w (same_f a b hs)).mono fun e w' hh => ⟨hh.1, drawn_below hh.2⟩
/-- The bytes that a tag is over. -/
def bodyB (l : List UInt8) : List UInt8 := if l.take 3 = [74, 48, 49] ∧ 36 ≤ l.length ∧ 3 ≤ (l.getD 3 0).toNat ∧ (l.getD 3 0).toNat ≤ 7 then l.take (l.length - 32) else []
theorem hasP_f (l : List UInt8) : QQA.strings_HasPrefix.f (str l) ⟨#[74, 48, 49]⟩ = some (decide (l.take 3 = [74, 48, 49])) := by
  have e3 : ((⟨#[74, 48, 49]⟩ : ByteArray).size : Int) = 3 := rfl
  have e4 : (3 : Int).toNat = 3 := rfl
  unfold QQA.strings_HasPrefix.f QQA.stringslite_HasPrefix.f
  rw [e3, e4, str_take, str_list]
  by_cases hs : (3 : Int) ≤ ((str l).size : Int)
  · rw [if_pos hs, if_pos (by decide), if_pos hs, Go.ByteArray.toList_mk]
    by_cases h : l.take 3 = [74, 48, 49]
    · rw [h]; rfl
    · rw [decide_eq_false h]
      have e5 : (l.take 3 == [74, 48, 49]) = false := beq_eq_false_iff_ne.mpr h
      simp only [Option.bind_some]
      exact congrArg some e5
  · rw [if_neg hs]
    have h : ¬ l.take 3 = [74, 48, 49] := by
      intro h
      have := congrArg List.length h
      rw [List.length_take] at this
      have s1 : ((str l).size : Int) = (l.length : Int) := rfl
      simp at this
      omega
    rw [decide_eq_false h]
    rfl
theorem tagged_f (k : Int) : QQA.frame_tagged.f k = some (decide (3 ≤ k ∧ k ≤ 7)) := by
  unfold QQA.frame_tagged.f
  by_cases h : k ≥ 3
  · rw [if_pos h]
    congr 1
    exact decide_eq_decide.mpr ⟨fun h2 => ⟨h, h2⟩, fun h2 => h2.2⟩
  · rw [if_neg h, decide_eq_false (fun h2 => h h2.1)]
theorem tagged_calls (k : Int) (w : World) : Calls Tryz.prog 35 #[.int .i64 k] w fun e w' => e = .returned (.bool (decide (3 ≤ k ∧ k ≤ 7))) ∧ Below w.heap.size w w' :=
  (QQA.frame_tagged.calls _ _ w (tagged_f k)).mono fun e w' hh => ⟨hh.1, drawn_below hh.2⟩
theorem body_f (l : List UInt8) (hs : l.length < 4611686018427387904) : QQA.frame_Body.f (str l) = some (str (bodyB l)) := by
  have s1 : ((str l).size : Int) = (l.length : Int) := rfl
  have e3 : (3 : Int).toNat = 3 := rfl
  unfold QQA.frame_Body.f bodyB
  rw [hasP_f, s1]
  simp only [Option.bind_some]
  by_cases h1 : l.take 3 = [74, 48, 49]
  · rw [decide_eq_true h1, if_pos rfl]
    by_cases h2 : 36 ≤ l.length
    · have hb := (l.getD 3 0).toNat_lt
      have hz : wrap64 ((l.length : Int) - 32) = ((l.length - 32 : Nat) : Int) := by unfold wrap64; omega
      have hw : wrap64 ((l.getD 3 0).toNat : Int) = ((l.getD 3 0).toNat : Int) := by unfold wrap64; omega
      rw [if_neg (by omega), if_pos (by omega), bt_str, e3, hw, tagged_f]
      simp only [Option.bind_some]
      by_cases h3 : 3 ≤ (l.getD 3 0).toNat ∧ (l.getD 3 0).toNat ≤ 7
      · rw [decide_eq_true (show 3 ≤ ((l.getD 3 0).toNat : Int) ∧ ((l.getD 3 0).toNat : Int) ≤ 7 by omega), if_pos rfl, hz, if_pos (by omega), if_pos (by omega), if_pos ⟨h1, h2, h3⟩, Int.toNat_natCast, str_take]
      · rw [decide_eq_false (show ¬ (3 ≤ ((l.getD 3 0).toNat : Int) ∧ ((l.getD 3 0).toNat : Int) ≤ 7) by omega), if_neg (by decide), if_neg (fun h => h3 h.2.2)]
        rfl
    · rw [if_pos (by omega), if_neg (fun h => h2 h.2.1)]
      rfl
  · rw [decide_eq_false h1, if_neg (by decide), if_neg (fun h => h1 h.1)]
    rfl
theorem body_calls (l : List UInt8) (hs : l.length < 4611686018427387904) (w : World) : Calls Tryz.prog 12 #[.string (str l)] w fun e w' => e = .returned (.string (str (bodyB l))) ∧ Below w.heap.size w w' :=
  (QQA.frame_Body.calls _ _ w (body_f l hs)).mono fun e w' hh => ⟨hh.1, drawn_below hh.2⟩
theorem rbody_f (l : List UInt8) (hs : l.length < 4611686018427387904) : QQA.joustref07_Body.f (str l) = some (str (bodyB l)) := by
  have s1 : ((str l).size : Int) = (l.length : Int) := rfl
  have e3 : (3 : Int).toNat = 3 := rfl
  unfold QQA.joustref07_Body.f bodyB
  rw [s1, str_take, str_list]
  by_cases h2 : 36 ≤ l.length
  · have hb := (l.getD 3 0).toNat_lt
    have hz : wrap64 ((l.length : Int) - 32) = ((l.length - 32 : Nat) : Int) := by unfold wrap64; omega
    rw [if_neg (by omega), if_pos (by decide), if_pos (by omega)]
    by_cases h1 : l.take 3 = [74, 48, 49]
    · rw [if_pos h1, if_pos (by omega), bt_str, e3]
      by_cases h3 : 3 ≤ (l.getD 3 0).toNat
      · rw [if_neg (by omega)]
        by_cases h4 : (l.getD 3 0).toNat ≤ 7
        · rw [if_neg (by omega), hz, if_pos (by omega), if_pos (by omega), if_pos ⟨h1, h2, h3, h4⟩, Int.toNat_natCast, str_take]
        · rw [if_pos (by omega), if_neg (fun h => h4 h.2.2.2)]
          rfl
      · rw [if_pos (by omega), if_neg (fun h => h3 h.2.2.1)]
        rfl
    · rw [if_neg h1, if_neg (fun h => h1 h.1)]
      rfl
  · rw [if_pos (by omega), if_neg (fun h => h2 h.2.1)]
    rfl
theorem rbody_calls (l : List UInt8) (hs : l.length < 4611686018427387904) (w : World) : Calls Tryz.prog 13 #[.string (str l)] w fun e w' => e = .returned (.string (str (bodyB l))) ∧ Below w.heap.size w w' :=
  (QQA.joustref07_Body.calls _ _ w (rbody_f l hs)).mono fun e w' hh => ⟨hh.1, drawn_below hh.2⟩
end Go.Proofs.YtniabkphbnimaaaGreatDoor.Sh
namespace Go.Proofs.YtniabkphbnimaaaGreatDoor.Sh
open Go Go.RowKit Go.Maps Go.Proofs.YtniabkphbnimaaaGreatDoorW.PrintWords Go.Proofs.YtniabkphbnimaaaGreatDoorW.PrintLast Go.Proofs.YtniabkphbnimaaaGreatDoor.Bs
def T_122_6 : Bool × List (List Nat × List Nat) := (true, [([], []), ([], []), ([], []), ([1, 2], [1, 2]), ([3], [3]), ([4], [4]), ([5], [5]), ([], []), ([], []), ([8], [8]), ([7, 9], [7, 9]), ([10], [10]), ([11], [11]), ([12], [12]), ([6, 13], [6, 13]), ([], []), ([], []), ([16], [16]), ([15, 17], [15, 17]), ([18], [18]), ([19], [19]), ([20], [20]), ([14, 21], [14, 21]), ([], []), ([], []), ([24], [24]), ([23, 25], [23, 25]), ([26], [26]), ([27], [27]), ([22, 28], [22, 28]), ([0, 0, 1, 2, 3, 4, 5, 6, 7, 8, 9, 10, 11, 12, 13, 14, 15, 16, 17, 18, 19, 20, 21, 22, 23, 24, 25, 26, 27, 28, 29], [0]), ([30, 29, 0, 1, 2, 3, 4, 5, 6, 7, 8, 9, 10, 11, 12, 13, 14, 15, 16, 17, 18, 19, 20, 21, 22, 23, 24, 25, 26, 27, 28, 29], [29, 30])])
def B_122_6 : List Nat := [0, 0, 0, 6, 14, 30, 62, 0, 0, 256, 896, 1920, 3968, 8064, 16382, 0, 0, 65536, 229376, 491520, 1015808, 2064384, 4194302, 0, 0, 16777216, 58720256, 125829120, 260046848, 536870910, 1073741823, 2147483647]
theorem tab_f122_6 : rtab .any (opsOf Tryz.f122 6) = T_122_6 := by kernel_rfl
theorem bits_f122_6 : waitsOk T_122_6.2 B_122_6 = true := by kernel_rfl
def T_122_10 : Bool × List (List Nat × List Nat) := (true, [([], []), ([0], [0]), ([1], [1]), ([2], [2]), ([], []), ([4], [4]), ([5], [5]), ([6], [6]), ([3, 0, 1, 2, 3], [3]), ([7, 8, 0, 1, 2, 3, 4, 5, 6, 7, 8], [7])])
def B_122_10 : List Nat := [0, 1, 3, 7, 0, 16, 48, 112, 15, 511]
theorem tab_f122_10 : rtab .any (opsOf Tryz.f122 10) = T_122_10 := by kernel_rfl
theorem bits_f122_10 : waitsOk T_122_10.2 B_122_10 = true := by kernel_rfl
def T_122_11 : Bool × List (List Nat × List Nat) := (true, [([], []), ([], []), ([1], [1]), ([2], [2]), ([3], [3]), ([], []), ([5], [5]), ([], []), ([7, 6], [7]), ([6, 8], [6, 8]), ([], []), ([10], [10]), ([9, 11], [9, 11]), ([4, 12], [4, 12]), ([], []), ([14], [14]), ([15], [15]), ([16], [16]), ([13, 17], [13, 17]), ([], []), ([19, 8], [19]), ([], []), ([21, 20], [21]), ([20, 22], [20, 22]), ([], []), ([24], [24]), ([23, 25], [23, 25]), ([18, 26], [18, 26]), ([0, 0, 1, 2, 3, 4, 5, 6, 7, 8, 9, 10, 11, 12, 13, 14, 15, 16, 17, 18, 19, 20, 21, 22, 23, 24, 25, 26, 27], [0]), ([28, 27, 22, 0, 1, 2, 3, 4, 5, 6, 7, 8, 9, 10, 11, 12, 13, 14, 15, 16, 17, 18, 19, 20, 21, 22, 23, 24, 25, 26, 27], [27, 28])])
def B_122_11 : List Nat := [0, 0, 2, 6, 14, 0, 32, 0, 224, 480, 0, 1024, 4064, 8190, 0, 16384, 49152, 114688, 262142, 0, 524768, 0, 3670496, 7864800, 0, 16777216, 66585056, 134217726, 268435455, 536870911]
theorem tab_f122_11 : rtab .any (opsOf Tryz.f122 11) = T_122_11 := by kernel_rfl
theorem bits_f122_11 : waitsOk T_122_11.2 B_122_11 = true := by kernel_rfl
theorem Mv.drewN {w w' : World} {S : Nat → Prop} (h : Mv w w' S) (n : Nat) : Mv w (w'.drewN n) S := ⟨h.os, h.tape, h.output, h.size, h.block⟩
theorem Wd_full (l : List W32) (h : l.length = 64) : Wd l = l.map vW := by
  unfold Wd
  rw [h]
  simp
theorem nxt_sum (x y u v : W32) : v + sg0 x + u + sg1 y = sg1 y + u + sg0 x + v := by
  rw [BitVec.add_comm (v + sg0 x + u) (sg1 y), BitVec.add_comm (v + sg0 x) u, ← BitVec.add_assoc, BitVec.add_comm v (sg0 x), ← BitVec.add_assoc]
theorem getD_of {l : List UInt8} {i : Nat} {x : UInt8} (h : l[i]? = some x) : l.getD i 0 = x := by rw [List.getD_eq_getElem?_getD, h]; rfl
set_option maxHeartbeats 8000000 in
set_option maxRecDepth 100000 in
theorem plan_calls (l B : List UInt8) (b n c p : Nat) (hn : l.length = n) (hB : B = (l.drop p).take 64) (hp : p + 64 ≤ n) (hnl : n < 1099511627776) (w : World) (H : BytesIn w (some ⟨b, 0, none⟩) l) :
    Calls Tryz.prog 122 #[.slice (some ⟨b, 0, none⟩) n c, .int .i64 (p : Int)] w fun e w' => e = .returned (.agg ((ext 48 (words B 16)).map vW).toArray) ∧ Below w.heap.size w w' := by
  have HB := Aside0.mk (show ∀ i, i < 64 → B[i]? = l[p + i]? from fun i hi => by rw [hB, List.getElem?_take, if_pos hi, List.getElem?_drop])
  have HIN := Aside0.mk (show ∀ i x, l[i]? = some x → w.cell? ⟨b, i, none⟩ = some (.int .u8 (x.toNat : Int)) from fun i x hx => by
    rcases H with e | ⟨b', o', e', hc⟩
    · rw [e] at hx
      cases hx
    · cases e'
      have := hc i x hx
      rw [Nat.zero_add] at this
      exact this)
  have HN := Aside0.mk (show l.length = n ∧ p + 64 ≤ n ∧ n < 1099511627776 from ⟨hn, hp, hnl⟩)
  clear H hB hn hp hnl
  go_enter Tryz.func122, Tryz.ntmps122
  have MARK := Aside0.mk trivial
  go_wp2_with (first
    | (clear MARK; refine wpList_alloc_v rfl 130 rfl (List.replicate 64 (.int .u32 0)) (by kernel_rfl) ?_; intro r w1 er hr1 hb1 hz1)
    | (refine wpList_alloc_v rfl 130 rfl (Wd (words B 0)) (by kernel_rfl) ?_; intro V w2 eV hV2 hb2 hz2))
  have hsz := Aside0.mk (show w.heap.size ≤ r ∧ r < V by have h1 := er.out; have h2 := eV.out; have h3 := hz1.out; omega)
  have HB2 := Aside0.mk (show Below w.heap.size w w2 from hb1.out.trans (hb2.out.mono hb1.out.size))
  have HR := Aside0.mk (show w2.heap[r]? = _ from (hb2.out.block r (blk_lt hr1.out)).trans hr1.out)
  clear er hr1 hb1 hz1 eV hb2 hz2
  go_loopw [6] (fun iv wq => ∃ k : Nat, iv = .int .i64 (k : Int) ∧ k ≤ 16 ∧ wq.heap[V]? = some (.cells (Wd (words B k)).toArray 130 (0, 0)) ∧ Mv w2 wq (fun k => k = V)) (fun iv _ => 16 - (intOf iv).toNat)
  case atStart => exact ⟨0, rfl, by omega, hV2.out, Mv.refl _ _⟩
  case round =>
    obtain ⟨k, rfl, hk, hW, hm⟩ := hrel
    have HW := Aside0.mk hW
    have HM := Aside0.mk hm
    have HBr := Aside0.mk (show Below w.heap.size w wr from Mv.toBelow HB2.out hm (fun k hk => by have := hsz.out; omega))
    clear hW hm hV2
    by_cases hk2 : k < 16
    · have o1 : decide ((k : Int) < 16) = true := decide_eq_true (by omega)
      have q3 : ((k : Int) < 64) = True := eq_true (by omega)
      obtain ⟨j0, ej0⟩ : ∃ j, j = p + 4 * k := ⟨_, rfl⟩
      obtain ⟨j1, ej1⟩ : ∃ j, j = j0 + 1 := ⟨_, rfl⟩
      obtain ⟨j2, ej2⟩ : ∃ j, j = j0 + 2 := ⟨_, rfl⟩
      obtain ⟨j3, ej3⟩ : ∃ j, j = j0 + 3 := ⟨_, rfl⟩
      have hjn : j3 < n := by have := HN.out; omega
      obtain ⟨b0, hb0⟩ : ∃ x, l[j0]? = some x := ⟨_, List.getElem?_eq_getElem (by rw [HN.out.1]; omega)⟩
      obtain ⟨b1, hb1⟩ : ∃ x, l[j1]? = some x := ⟨_, List.getElem?_eq_getElem (by rw [HN.out.1]; omega)⟩
      obtain ⟨b2, hb2⟩ : ∃ x, l[j2]? = some x := ⟨_, List.getElem?_eq_getElem (by rw [HN.out.1]; omega)⟩
      obtain ⟨b3, hb3⟩ : ∃ x, l[j3]? = some x := ⟨_, List.getElem?_eq_getElem (by rw [HN.out.1]; omega)⟩
      have c0 : wr.cell? ⟨b, j0, none⟩ = _ := below_cell HBr.out (HIN.out _ _ hb0)
      have c1 : wr.cell? ⟨b, j1, none⟩ = _ := below_cell HBr.out (HIN.out _ _ hb1)
      have c2 : wr.cell? ⟨b, j2, none⟩ = _ := below_cell HBr.out (HIN.out _ _ hb2)
      have c3 : wr.cell? ⟨b, j3, none⟩ = _ := below_cell HBr.out (HIN.out _ _ hb3)
      have eb := Aside0.mk (show bw B k = w32 b0 b1 b2 b3 by
        unfold bw
        rw [getD_of ((HB.out (4 * k) (by omega)).trans (ej0 ▸ hb0)), getD_of ((HB.out (4 * k + 1) (by omega)).trans ((show j1 = p + (4 * k + 1) by omega) ▸ hb1)), getD_of ((HB.out (4 * k + 2) (by omega)).trans ((show j2 = p + (4 * k + 2) by omega) ▸ hb2)), getD_of ((HB.out (4 * k + 3) (by omega)).trans ((show j3 = p + (4 * k + 3) by omega) ▸ hb3))])
      clear hb0 hb1 hb2 hb3
      obtain ⟨x0, d0⟩ := Wd_cell HW.out k ⟨by omega, by rw [length_words]; omega⟩
      have d1 := Wd_thaw HW.out k
      have r0 : ((j0 : Int) < (n : Int)) = True := eq_true (by omega)
      have r1 : ((j1 : Int) < (n : Int)) = True := eq_true (by omega)
      have r2 : ((j2 : Int) < (n : Int)) = True := eq_true (by omega)
      have r3 : ((j3 : Int) < (n : Int)) = True := eq_true (by omega)
      have s0 : (j0 < n) = True := eq_true (by omega)
      have s1 : (j1 < n) = True := eq_true (by omega)
      have s2 : (j2 < n) = True := eq_true (by omega)
      have s3 : (j3 < n) = True := eq_true (by omega)
      have Z0 := Aside0.mk (show wrap64 ((p : Int) + 4 * (k : Int)) = (j0 : Int) by have := HN.out; unfold wrap64; omega)
      have Z1 := Aside0.mk (show wrap64 ((j0 : Int) + 1) = (j1 : Int) by have := HN.out; unfold wrap64; omega)
      have Z2 := Aside0.mk (show wrap64 ((j0 : Int) + 2) = (j2 : Int) by have := HN.out; unfold wrap64; omega)
      have Z3 := Aside0.mk (show wrap64 ((j0 : Int) + 3) = (j3 : Int) by have := HN.out; unfold wrap64; omega)
      clear ej0 ej1 ej2 ej3 hjn
      have z0 := Z0.out
      have z1 := Z1.out
      have z2 := Z2.out
      have z3 := Z3.out
      go_wp2
      refine start_ (n := 32) (S := fun w' => w'.cell? ⟨b, j0, none⟩ = some (.int .u8 (b0.toNat : Int)) ∧ w'.cell? ⟨b, j1, none⟩ = some (.int .u8 (b1.toNat : Int)) ∧ w'.cell? ⟨b, j2, none⟩ = some (.int .u8 (b2.toNat : Int)) ∧ w'.cell? ⟨b, j3, none⟩ = some (.int .u8 (b3.toNat : Int))) (ds := [31]) #[false, false, false, false, false, false, false, false, false, false, false, false, false, false, false, false, false, false, false, false, false, false, false, false, false, false, false, false, false, false, false, false] (by kernel_rfl) rfl rfl ⟨c0, c1, c2, c3⟩ (fun hHeld => ?_)
      refine with_tabW tab_f122_6 bits_f122_6 (fun HT_ HW_ => ?_)
      refine pure_ (i := 0) (N := some 19) (v := ?_) (a' := ?_) #[true, false, false, false, false, false, false, false, false, false, false, false, false, false, false, false, false, false, false, false, false, false, false, false, false, false, false, false, false, false, false, false] rfl rfl (any_of HT_.out (by kernel_rfl)) (fun _ _ _ h => h) (Or.inl ⟨by rfl, ?_⟩) ?_ ?_
      rotate_left
      · intro w'
        go_simp
        with_reducible rfl
      rotate_left
      · simp only [Act.put, List.setIfInBounds_toArray, List.set_cons_zero, List.set_cons_succ, i64_w, i32_w]
        rfl
      refine pure_ (i := 1) (N := some 20) (v := ?_) (a' := ?_) #[true, true, false, false, false, false, false, false, false, false, false, false, false, false, false, false, false, false, false, false, false, false, false, false, false, false, false, false, false, false, false, false] rfl rfl (any_of HT_.out (by kernel_rfl)) (fun _ _ _ h => h) (Or.inl ⟨by rfl, ?_⟩) ?_ ?_
      rotate_left
      · intro w'
        go_simp
        with_reducible rfl
      rotate_left
      · simp only [Act.put, List.setIfInBounds_toArray, List.set_cons_zero, List.set_cons_succ, i64_w, i32_w]
        rfl
      refine pure_ (i := 2) (N := some 21) (v := ?_) (a' := ?_) #[true, true, true, false, false, false, false, false, false, false, false, false, false, false, false, false, false, false, false, false, false, false, false, false, false, false, false, false, false, false, false, false] rfl rfl (any_of HT_.out (by kernel_rfl)) (fun _ _ _ h => h) (Or.inl ⟨by rfl, ?_⟩) ?_ ?_
      rotate_left
      · intro w'
        go_simp
        with_reducible rfl
      rotate_left
      · simp only [Act.put, List.setIfInBounds_toArray, List.set_cons_zero, List.set_cons_succ, i64_w, i32_w]
        rfl
      refine pure_ (i := 3) (N := some 22) (v := ?_) (a' := ?_) #[true, true, true, true, false, false, false, false, false, false, false, false, false, false, false, false, false, false, false, false, false, false, false, false, false, false, false, false, false, false, false, false] rfl rfl (any_of HT_.out (by kernel_rfl)) (fun _ _ _ h => h) (Or.inl ⟨by rfl, ?_⟩) ?_ ?_
      rotate_left
      · intro w'
        go_simp
        with_reducible rfl
      rotate_left
      · simp only [Act.put, List.setIfInBounds_toArray, List.set_cons_zero, List.set_cons_succ, i64_w, i32_w]
        rfl
      refine take_ (i := 4) (N := some 23) (v := ?_) (a' := ?_) #[true, true, true, true, true, false, false, false, false, false, false, false, false, false, false, false, false, false, false, false, false, false, false, false, false, false, false, false, false, false, false, false] rfl rfl (take_ofW HT_.out HW_.out (by kernel_rfl)) (fun _ _ _ h => h) (Or.inl ⟨by rfl, ?_⟩) hHeld ?_ ?_
      rotate_left
      · rintro w' ⟨s0, s1, s2, s3⟩
        go_simp
        with_reducible rfl
      rotate_left
      · simp only [Act.put, List.setIfInBounds_toArray, List.set_cons_zero, List.set_cons_succ, i64_w, i32_w]
        rfl
      refine pure_ (i := 5) (N := some 24) (v := ?_) (a' := ?_) #[true, true, true, true, true, true, false, false, false, false, false, false, false, false, false, false, false, false, false, false, false, false, false, false, false, false, false, false, false, false, false, false] rfl rfl (any_of HT_.out (by kernel_rfl)) (fun _ _ _ h => h) (Or.inl ⟨by rfl, ?_⟩) ?_ ?_
      rotate_left
      · intro w'
        go_simp
        with_reducible rfl
      rotate_left
      · simp only [Act.put, List.setIfInBounds_toArray, List.set_cons_zero, List.set_cons_succ, i64_w, i32_w]
        rfl
      refine pure_ (i := 6) (N := some 25) (v := ?_) (a' := ?_) #[true, true, true, true, true, true, true, false, false, false, false, false, false, false, false, false, false, false, false, false, false, false, false, false, false, false, false, false, false, false, false, false] rfl rfl (any_of HT_.out (by kernel_rfl)) (fun _ _ _ h => h) (Or.inl ⟨by rfl, ?_⟩) ?_ ?_
      rotate_left
      · intro w'
        go_simp
        with_reducible rfl
      rotate_left
      · simp only [Act.put, List.setIfInBounds_toArray, List.set_cons_zero, List.set_cons_succ, i64_w, i32_w]
        rfl
      refine pure_ (i := 7) (N := some 26) (v := ?_) (a' := ?_) #[true, true, true, true, true, true, true, true, false, false, false, false, false, false, false, false, false, false, false, false, false, false, false, false, false, false, false, false, false, false, false, false] rfl rfl (any_of HT_.out (by kernel_rfl)) (fun _ _ _ h => h) (Or.inl ⟨by rfl, ?_⟩) ?_ ?_
      rotate_left
      · intro w'
        go_simp
        with_reducible rfl
      rotate_left
      · simp only [Act.put, List.setIfInBounds_toArray, List.set_cons_zero, List.set_cons_succ, i64_w, i32_w]
        rfl
      refine pure_ (i := 8) (N := some 27) (v := ?_) (a' := ?_) #[true, true, true, true, true, true, true, true, true, false, false, false, false, false, false, false, false, false, false, false, false, false, false, false, false, false, false, false, false, false, false, false] rfl rfl (any_of HT_.out (by kernel_rfl)) (fun _ _ _ h => h) (Or.inl ⟨by rfl, ?_⟩) ?_ ?_
      rotate_left
      · intro w'
        go_simp
        with_reducible rfl
      rotate_left
      · simp only [Act.put, List.setIfInBounds_toArray, List.set_cons_zero, List.set_cons_succ, i64_w, i32_w]
        rfl
      refine pure_ (i := 9) (N := some 28) (v := ?_) (a' := ?_) #[true, true, true, true, true, true, true, true, true, true, false, false, false, false, false, false, false, false, false, false, false, false, false, false, false, false, false, false, false, false, false, false] rfl rfl (any_of HT_.out (by kernel_rfl)) (fun _ _ _ h => h) (Or.inl ⟨by rfl, ?_⟩) ?_ ?_
      rotate_left
      · intro w'
        go_simp
        with_reducible rfl
      rotate_left
      · simp only [Act.put, List.setIfInBounds_toArray, List.set_cons_zero, List.set_cons_succ, i64_w, i32_w]
        rfl
      refine pure_ (i := 10) (N := some 29) (v := ?_) (a' := ?_) #[true, true, true, true, true, true, true, true, true, true, true, false, false, false, false, false, false, false, false, false, false, false, false, false, false, false, false, false, false, false, false, false] rfl rfl (any_of HT_.out (by kernel_rfl)) (fun _ _ _ h => h) (Or.inl ⟨by rfl, ?_⟩) ?_ ?_
      rotate_left
      · intro w'
        go_simp
        with_reducible rfl
      rotate_left
      · simp only [Act.put, List.setIfInBounds_toArray, List.set_cons_zero, List.set_cons_succ, i64_w, i32_w]
        rfl
      refine take_ (i := 11) (N := some 30) (v := ?_) (a' := ?_) #[true, true, true, true, true, true, true, true, true, true, true, true, false, false, false, false, false, false, false, false, false, false, false, false, false, false, false, false, false, false, false, false] rfl rfl (take_ofW HT_.out HW_.out (by kernel_rfl)) (fun _ _ _ h => h) (Or.inl ⟨by rfl, ?_⟩) hHeld ?_ ?_
      rotate_left
      · rintro w' ⟨s0, s1, s2, s3⟩
        go_simp
        with_reducible rfl
      rotate_left
      · simp only [Act.put, List.setIfInBounds_toArray, List.set_cons_zero, List.set_cons_succ, i64_w, i32_w]
        rfl
      refine pure_ (i := 12) (N := some 31) (v := ?_) (a' := ?_) #[true, true, true, true, true, true, true, true, true, true, true, true, true, false, false, false, false, false, false, false, false, false, false, false, false, false, false, false, false, false, false, false] rfl rfl (any_of HT_.out (by kernel_rfl)) (fun _ _ _ h => h) (Or.inl ⟨by rfl, ?_⟩) ?_ ?_
      rotate_left
      · intro w'
        go_simp
        with_reducible rfl
      rotate_left
      · simp only [Act.put, List.setIfInBounds_toArray, List.set_cons_zero, List.set_cons_succ, i64_w, i32_w]
        rfl
      refine pure_ (i := 13) (N := some 32) (v := ?_) (a' := ?_) #[true, true, true, true, true, true, true, true, true, true, true, true, true, true, false, false, false, false, false, false, false, false, false, false, false, false, false, false, false, false, false, false] rfl rfl (any_of HT_.out (by kernel_rfl)) (fun _ _ _ h => h) (Or.inl ⟨by rfl, ?_⟩) ?_ ?_
      rotate_left
      · intro w'
        go_simp
        with_reducible rfl
      rotate_left
      · simp only [Act.put, List.setIfInBounds_toArray, List.set_cons_zero, List.set_cons_succ, i64_w, i32_w]
        rfl
      refine pure_ (i := 14) (N := some 33) (v := ?_) (a' := ?_) #[true, true, true, true, true, true, true, true, true, true, true, true, true, true, true, false, false, false, false, false, false, false, false, false, false, false, false, false, false, false, false, false] rfl rfl (any_of HT_.out (by kernel_rfl)) (fun _ _ _ h => h) (Or.inl ⟨by rfl, ?_⟩) ?_ ?_
      rotate_left
      · intro w'
        go_simp
        with_reducible rfl
      rotate_left
      · simp only [Act.put, List.setIfInBounds_toArray, List.set_cons_zero, List.set_cons_succ, i64_w, i32_w]
        rfl
      refine pure_ (i := 15) (N := some 34) (v := ?_) (a' := ?_) #[true, true, true, true, true, true, true, true, true, true, true, true, true, true, true, true, false, false, false, false, false, false, false, false, false, false, false, false, false, false, false, false] rfl rfl (any_of HT_.out (by kernel_rfl)) (fun _ _ _ h => h) (Or.inl ⟨by rfl, ?_⟩) ?_ ?_
      rotate_left
      · intro w'
        go_simp
        with_reducible rfl
      rotate_left
      · simp only [Act.put, List.setIfInBounds_toArray, List.set_cons_zero, List.set_cons_succ, i64_w, i32_w]
        rfl
      refine pure_ (i := 16) (N := some 35) (v := ?_) (a' := ?_) #[true, true, true, true, true, true, true, true, true, true, true, true, true, true, true, true, true, false, false, false, false, false, false, false, false, false, false, false, false, false, false, false] rfl rfl (any_of HT_.out (by kernel_rfl)) (fun _ _ _ h => h) (Or.inl ⟨by rfl, ?_⟩) ?_ ?_
      rotate_left
      · intro w'
        go_simp
        with_reducible rfl
      rotate_left
      · simp only [Act.put, List.setIfInBounds_toArray, List.set_cons_zero, List.set_cons_succ, i64_w, i32_w]
        rfl
      refine pure_ (i := 17) (N := some 36) (v := ?_) (a' := ?_) #[true, true, true, true, true, true, true, true, true, true, true, true, true, true, true, true, true, true, false, false, false, false, false, false, false, false, false, false, false, false, false, false] rfl rfl (any_of HT_.out (by kernel_rfl)) (fun _ _ _ h => h) (Or.inl ⟨by rfl, ?_⟩) ?_ ?_
      rotate_left
      · intro w'
        go_simp
        with_reducible rfl
      rotate_left
      · simp only [Act.put, List.setIfInBounds_toArray, List.set_cons_zero, List.set_cons_succ, i64_w, i32_w]
        rfl
      refine pure_ (i := 18) (N := some 37) (v := ?_) (a' := ?_) #[true, true, true, true, true, true, true, true, true, true, true, true, true, true, true, true, true, true, true, false, false, false, false, false, false, false, false, false, false, false, false, false] rfl rfl (any_of HT_.out (by kernel_rfl)) (fun _ _ _ h => h) (Or.inl ⟨by rfl, ?_⟩) ?_ ?_
      rotate_left
      · intro w'
        go_simp
        with_reducible rfl
      rotate_left
      · simp only [Act.put, List.setIfInBounds_toArray, List.set_cons_zero, List.set_cons_succ, i64_w, i32_w]
        rfl
      refine take_ (i := 19) (N := some 38) (v := ?_) (a' := ?_) #[true, true, true, true, true, true, true, true, true, true, true, true, true, true, true, true, true, true, true, true, false, false, false, false, false, false, false, false, false, false, false, false] rfl rfl (take_ofW HT_.out HW_.out (by kernel_rfl)) (fun _ _ _ h => h) (Or.inl ⟨by rfl, ?_⟩) hHeld ?_ ?_
      rotate_left
      · rintro w' ⟨s0, s1, s2, s3⟩
        go_simp
        with_reducible rfl
      rotate_left
      · simp only [Act.put, List.setIfInBounds_toArray, List.set_cons_zero, List.set_cons_succ, i64_w, i32_w]
        rfl
      refine pure_ (i := 20) (N := some 39) (v := ?_) (a' := ?_) #[true, true, true, true, true, true, true, true, true, true, true, true, true, true, true, true, true, true, true, true, true, false, false, false, false, false, false, false, false, false, false, false] rfl rfl (any_of HT_.out (by kernel_rfl)) (fun _ _ _ h => h) (Or.inl ⟨by rfl, ?_⟩) ?_ ?_
      rotate_left
      · intro w'
        go_simp
        with_reducible rfl
      rotate_left
      · simp only [Act.put, List.setIfInBounds_toArray, List.set_cons_zero, List.set_cons_succ, i64_w, i32_w]
        rfl
      refine pure_ (i := 21) (N := some 40) (v := ?_) (a' := ?_) #[true, true, true, true, true, true, true, true, true, true, true, true, true, true, true, true, true, true, true, true, true, true, false, false, false, false, false, false, false, false, false, false] rfl rfl (any_of HT_.out (by kernel_rfl)) (fun _ _ _ h => h) (Or.inl ⟨by rfl, ?_⟩) ?_ ?_
      rotate_left
      · intro w'
        go_simp
        with_reducible rfl
      rotate_left
      · simp only [Act.put, List.setIfInBounds_toArray, List.set_cons_zero, List.set_cons_succ, i64_w, i32_w]
        rfl
      refine pure_ (i := 22) (N := some 41) (v := ?_) (a' := ?_) #[true, true, true, true, true, true, true, true, true, true, true, true, true, true, true, true, true, true, true, true, true, true, true, false, false, false, false, false, false, false, false, false] rfl rfl (any_of HT_.out (by kernel_rfl)) (fun _ _ _ h => h) (Or.inl ⟨by rfl, ?_⟩) ?_ ?_
      rotate_left
      · intro w'
        go_simp
        with_reducible rfl
      rotate_left
      · simp only [Act.put, List.setIfInBounds_toArray, List.set_cons_zero, List.set_cons_succ, i64_w, i32_w]
        rfl
      refine pure_ (i := 23) (N := some 42) (v := ?_) (a' := ?_) #[true, true, true, true, true, true, true, true, true, true, true, true, true, true, true, true, true, true, true, true, true, true, true, true, false, false, false, false, false, false, false, false] rfl rfl (any_of HT_.out (by kernel_rfl)) (fun _ _ _ h => h) (Or.inl ⟨by rfl, ?_⟩) ?_ ?_
      rotate_left
      · intro w'
        go_simp
        with_reducible rfl
      rotate_left
      · simp only [Act.put, List.setIfInBounds_toArray, List.set_cons_zero, List.set_cons_succ, i64_w, i32_w]
        rfl
      refine pure_ (i := 24) (N := some 43) (v := ?_) (a' := ?_) #[true, true, true, true, true, true, true, true, true, true, true, true, true, true, true, true, true, true, true, true, true, true, true, true, true, false, false, false, false, false, false, false] rfl rfl (any_of HT_.out (by kernel_rfl)) (fun _ _ _ h => h) (Or.inl ⟨by rfl, ?_⟩) ?_ ?_
      rotate_left
      · intro w'
        go_simp
        with_reducible rfl
      rotate_left
      · simp only [Act.put, List.setIfInBounds_toArray, List.set_cons_zero, List.set_cons_succ, i64_w, i32_w]
        rfl
      refine pure_ (i := 25) (N := some 44) (v := ?_) (a' := ?_) #[true, true, true, true, true, true, true, true, true, true, true, true, true, true, true, true, true, true, true, true, true, true, true, true, true, true, false, false, false, false, false, false] rfl rfl (any_of HT_.out (by kernel_rfl)) (fun _ _ _ h => h) (Or.inl ⟨by rfl, ?_⟩) ?_ ?_
      rotate_left
      · intro w'
        go_simp
        with_reducible rfl
      rotate_left
      · simp only [Act.put, List.setIfInBounds_toArray, List.set_cons_zero, List.set_cons_succ, i64_w, i32_w]
        rfl
      refine pure_ (i := 26) (N := some 45) (v := ?_) (a' := ?_) #[true, true, true, true, true, true, true, true, true, true, true, true, true, true, true, true, true, true, true, true, true, true, true, true, true, true, true, false, false, false, false, false] rfl rfl (any_of HT_.out (by kernel_rfl)) (fun _ _ _ h => h) (Or.inl ⟨by rfl, ?_⟩) ?_ ?_
      rotate_left
      · intro w'
        go_simp
        with_reducible rfl
      rotate_left
      · simp only [Act.put, List.setIfInBounds_toArray, List.set_cons_zero, List.set_cons_succ, i64_w, i32_w]
        rfl
      refine take_ (i := 27) (N := some 46) (v := ?_) (a' := ?_) #[true, true, true, true, true, true, true, true, true, true, true, true, true, true, true, true, true, true, true, true, true, true, true, true, true, true, true, true, false, false, false, false] rfl rfl (take_ofW HT_.out HW_.out (by kernel_rfl)) (fun _ _ _ h => h) (Or.inl ⟨by rfl, ?_⟩) hHeld ?_ ?_
      rotate_left
      · rintro w' ⟨s0, s1, s2, s3⟩
        go_simp
        with_reducible rfl
      rotate_left
      · simp only [Act.put, List.setIfInBounds_toArray, List.set_cons_zero, List.set_cons_succ, i64_w, i32_w]
        rfl
      refine pure_ (i := 28) (N := some 47) (v := ?_) (a' := ?_) #[true, true, true, true, true, true, true, true, true, true, true, true, true, true, true, true, true, true, true, true, true, true, true, true, true, true, true, true, true, false, false, false] rfl rfl (any_of HT_.out (by kernel_rfl)) (fun _ _ _ h => h) (Or.inl ⟨by rfl, ?_⟩) ?_ ?_
      rotate_left
      · intro w'
        go_simp
        with_reducible rfl
      rotate_left
      · simp only [Act.put, List.setIfInBounds_toArray, List.set_cons_zero, List.set_cons_succ, i64_w, i32_w]
        rfl
      refine pure_ (i := 29) (N := some 48) (v := ?_) (a' := ?_) #[true, true, true, true, true, true, true, true, true, true, true, true, true, true, true, true, true, true, true, true, true, true, true, true, true, true, true, true, true, true, false, false] rfl rfl (any_of HT_.out (by kernel_rfl)) (fun _ _ _ h => h) (Or.inl ⟨by rfl, ?_⟩) ?_ ?_
      rotate_left
      · intro w'
        go_simp
        with_reducible rfl
      rotate_left
      · simp only [Act.put, List.setIfInBounds_toArray, List.set_cons_zero, List.set_cons_succ, i64_w, i32_w]
        rfl
      refine pure_ (i := 30) (N := some 49) (v := ?_) (a' := ?_) #[true, true, true, true, true, true, true, true, true, true, true, true, true, true, true, true, true, true, true, true, true, true, true, true, true, true, true, true, true, true, true, false] rfl rfl (any_of HT_.out (by kernel_rfl)) (fun _ _ _ h => h) (Or.inl ⟨by rfl, ?_⟩) ?_ ?_
      rotate_left
      · intro w'
        go_simp
        with_reducible rfl
      rotate_left
      · simp only [Act.put, List.setIfInBounds_toArray, List.set_cons_zero, List.set_cons_succ, i64_w, i32_w]
        rfl
      refine last_ (i := 31) (N := none) #[true, true, true, true, true, true, true, true, true, true, true, true, true, true, true, true, true, true, true, true, true, true, true, true, true, true, true, true, true, true, true, true] rfl rfl (one_of HT_.out (by kernel_rfl)) (by decide) (fun K hK => ?_)
      refine unit_ (w' := ?_) (by rfl) rfl ?hrun ?_
      case hrun => go_simp; rfl
      refine hK.out _ _ ?_
      clear hK K
      refine norm_ (a' := ?_) ?_ ?_
      rotate_left
      · show Act.put _ (none) _ = _
        simp only [Act.put, List.setIfInBounds_toArray, List.set_cons_zero, List.set_cons_succ, i64_w, i32_w]
        rfl
      refine done_ (done_of HT_.out (by kernel_rfl)) ?_
      go_wp2
      clear z0 z1 z2 z3 hHeld
      rw [w32_bits, ← eb.out]
      refine ⟨⟨k + 1, rfl, by omega, ?_, (HM.out.set k _ (Or.inl rfl)).drew⟩, by simp only [intOf]; omega⟩
      have hs := set_of HW.out k (.int .u32 ((bw B k).toNat : Int))
      have hk3 := length_words B k
      have e := Wd_set (words B k) (bw B k) (by omega)
      rw [hk3] at e
      rw [e] at hs
      exact hs
    · have o1 : decide ((k : Int) < 16) = false := decide_eq_false (by omega)
      have HW := Aside0.mk (show wr.heap[V]? = some (.cells (Wd (words B 16)).toArray 130 (0, 0)) from (show k = 16 by omega) ▸ HW.out)
      clear hk hk2
      go_wp2
      go_loopw [8] (fun iv wq => ∃ t : Nat, iv = .int .i64 (t : Int) ∧ 16 ≤ t ∧ t ≤ 64 ∧ wq.heap[V]? = some (.cells (Wd (ext (t - 16) (words B 16))).toArray 130 (0, 0)) ∧ Mv w2 wq (fun k => k = V)) (fun iv _ => 64 - (intOf iv).toNat)
      case atStart => exact ⟨16, rfl, by omega, by omega, HW.out, HM.out⟩
      case round =>
        obtain ⟨t, rfl, ht16, ht, hW, hm⟩ := hrel
        clear HW HM HBr
        have HW := Aside0.mk hW
        have HM := Aside0.mk hm
        clear hW hm
        by_cases hk2 : t < 64
        · have o1 : decide ((t : Int) < 64) = true := decide_eq_true (by omega)
          have hl := length_ext (words B 16) (t - 16)
          rw [length_words] at hl
          obtain ⟨l, el⟩ : ∃ l, l = ext (t - 16) (words B 16) := ⟨_, rfl⟩
          rw [← el] at hl
          have HW := Aside0.mk (el ▸ HW.out)
          obtain ⟨i, ei⟩ : ∃ i : Nat, i = t - 15 := ⟨_, rfl⟩
          obtain ⟨j, ej⟩ : ∃ j : Nat, j = t - 2 := ⟨_, rfl⟩
          obtain ⟨m, em⟩ : ∃ m : Nat, m = t - 7 := ⟨_, rfl⟩
          obtain ⟨q, ep⟩ : ∃ q : Nat, q = t - 16 := ⟨_, rfl⟩
          have ai : ((i : Int) < 64) = True := eq_true (by omega)
          have aj : ((j : Int) < 64) = True := eq_true (by omega)
          have am : ((m : Int) < 64) = True := eq_true (by omega)
          have ap : ((q : Int) < 64) = True := eq_true (by omega)
          have at_ : ((t : Int) < 64) = True := eq_true (by omega)
          have ci := cell_of HW.out (Wd_get l i (by omega))
          have cj := cell_of HW.out (Wd_get l j (by omega))
          have cm := cell_of HW.out (Wd_get l m (by omega))
          have cp := cell_of HW.out (Wd_get l q (by omega))
          obtain ⟨x0, d0⟩ := Wd_cell HW.out t ⟨by omega, by omega⟩
          have d1 := Wd_thaw HW.out t
          obtain ⟨x, ex⟩ : ∃ x, x = l.getD i 0 := ⟨_, rfl⟩
          obtain ⟨y, ey⟩ : ∃ y, y = l.getD j 0 := ⟨_, rfl⟩
          obtain ⟨u, eu⟩ : ∃ u, u = l.getD m 0 := ⟨_, rfl⟩
          obtain ⟨v, ev⟩ : ∃ v, v = l.getD q 0 := ⟨_, rfl⟩
          rw [← ex] at ci
          rw [← ey] at cj
          rw [← eu] at cm
          rw [← ev] at cp
          have en := Aside0.mk (show nxt l t = sg1 y + u + sg0 x + v by rw [ex, ey, eu, ev, ei, ej, em, ep]; rfl)
          have et := Aside0.mk (show 16 + (t - 16) = t ∧ t < 64 by omega)
          have zi : wrap64 ((t : Int) - 15) = (i : Int) := by unfold wrap64; omega
          have zj : wrap64 ((t : Int) - 2) = (j : Int) := by clear zi; unfold wrap64; omega
          have zm : wrap64 ((t : Int) - 7) = (m : Int) := by clear zi zj; unfold wrap64; omega
          have zp : wrap64 ((t : Int) - 16) = (q : Int) := by clear zi zj zm; unfold wrap64; omega
          clear ex ey eu ev ei ej em ep ht16 ht hk2
          go_wp2
          refine start_ (n := 10) (S := fun w' => w'.cell? ⟨V, i, none⟩ = some (.int .u32 (x.toNat : Int)) ∧ w'.cell? ⟨V, j, none⟩ = some (.int .u32 (y.toNat : Int))) (ds := []) #[false, false, false, false, false, false, false, false, false, false] (by kernel_rfl) rfl rfl ⟨ci, cj⟩ (fun hHeld => ?_)
          refine with_tabW tab_f122_10 bits_f122_10 (fun HT_ HW_ => ?_)
          refine pure_ (i := 0) (N := some 54) (v := ?_) (a' := ?_) #[true, false, false, false, false, false, false, false, false, false] rfl rfl (any_of HT_.out (by kernel_rfl)) (fun _ _ _ h => h) (Or.inl ⟨by rfl, ?_⟩) ?_ ?_
          rotate_left
          · intro w'
            go_simp
            with_reducible rfl
          rotate_left
          · simp only [Act.put, List.setIfInBounds_toArray, List.set_cons_zero, List.set_cons_succ, i64_w, i32_w]
            rfl
          refine pure_ (i := 1) (N := some 55) (v := ?_) (a' := ?_) #[true, true, false, false, false, false, false, false, false, false] rfl rfl (any_of HT_.out (by kernel_rfl)) (fun _ _ _ h => h) (Or.inl ⟨by rfl, ?_⟩) ?_ ?_
          rotate_left
          · intro w'
            go_simp
            with_reducible rfl
          rotate_left
          · simp only [Act.put, List.setIfInBounds_toArray, List.set_cons_zero, List.set_cons_succ, i64_w, i32_w]
            rfl
          refine pure_ (i := 2) (N := some 56) (v := ?_) (a' := ?_) #[true, true, true, false, false, false, false, false, false, false] rfl rfl (any_of HT_.out (by kernel_rfl)) (fun _ _ _ h => h) (Or.inl ⟨by rfl, ?_⟩) ?_ ?_
          rotate_left
          · intro w'
            go_simp
            with_reducible rfl
          rotate_left
          · simp only [Act.put, List.setIfInBounds_toArray, List.set_cons_zero, List.set_cons_succ, i64_w, i32_w]
            rfl
          refine take_ (i := 3) (N := some 57) (v := ?_) (a' := ?_) #[true, true, true, true, false, false, false, false, false, false] rfl rfl (take_ofW HT_.out HW_.out (by kernel_rfl)) (fun _ _ _ h => h) (Or.inl ⟨by rfl, ?_⟩) hHeld ?_ ?_
          rotate_left
          · rintro w' ⟨s0, s1⟩
            go_simp
            with_reducible rfl
          rotate_left
          · simp only [Act.put, List.setIfInBounds_toArray, List.set_cons_zero, List.set_cons_succ, i64_w, i32_w]
            rfl
          refine pure_ (i := 4) (N := some 58) (v := ?_) (a' := ?_) #[true, true, true, true, true, false, false, false, false, false] rfl rfl (any_of HT_.out (by kernel_rfl)) (fun _ _ _ h => h) (Or.inl ⟨by rfl, ?_⟩) ?_ ?_
          rotate_left
          · intro w'
            go_simp
            with_reducible rfl
          rotate_left
          · simp only [Act.put, List.setIfInBounds_toArray, List.set_cons_zero, List.set_cons_succ, i64_w, i32_w]
            rfl
          refine pure_ (i := 5) (N := some 59) (v := ?_) (a' := ?_) #[true, true, true, true, true, true, false, false, false, false] rfl rfl (any_of HT_.out (by kernel_rfl)) (fun _ _ _ h => h) (Or.inl ⟨by rfl, ?_⟩) ?_ ?_
          rotate_left
          · intro w'
            go_simp
            with_reducible rfl
          rotate_left
          · simp only [Act.put, List.setIfInBounds_toArray, List.set_cons_zero, List.set_cons_succ, i64_w, i32_w]
            rfl
          refine pure_ (i := 6) (N := some 60) (v := ?_) (a' := ?_) #[true, true, true, true, true, true, true, false, false, false] rfl rfl (any_of HT_.out (by kernel_rfl)) (fun _ _ _ h => h) (Or.inl ⟨by rfl, ?_⟩) ?_ ?_
          rotate_left
          · intro w'
            go_simp
            with_reducible rfl
          rotate_left
          · simp only [Act.put, List.setIfInBounds_toArray, List.set_cons_zero, List.set_cons_succ, i64_w, i32_w]
            rfl
          refine take_ (i := 7) (N := some 61) (v := ?_) (a' := ?_) #[true, true, true, true, true, true, true, true, false, false] rfl rfl (take_ofW HT_.out HW_.out (by kernel_rfl)) (fun _ _ _ h => h) (Or.inl ⟨by rfl, ?_⟩) hHeld ?_ ?_
          rotate_left
          · rintro w' ⟨s0, s1⟩
            go_simp
            with_reducible rfl
          rotate_left
          · simp only [Act.put, List.setIfInBounds_toArray, List.set_cons_zero, List.set_cons_succ, i64_w, i32_w]
            rfl
          refine pure_ (i := 8) (N := some 9) (v := ?_) (a' := ?_) #[true, true, true, true, true, true, true, true, true, false] rfl rfl (any_of HT_.out (by kernel_rfl)) (fun _ _ _ h => h) (Or.inl ⟨by rfl, ?_⟩) ?_ ?_
          rotate_left
          · intro w'
            go_simp
            with_reducible rfl
          rotate_left
          · simp only [Act.put, List.setIfInBounds_toArray, List.set_cons_zero, List.set_cons_succ, i64_w, i32_w]
            rfl
          refine pure_ (i := 9) (N := some 10) (v := ?_) (a' := ?_) #[true, true, true, true, true, true, true, true, true, true] rfl rfl (any_of HT_.out (by kernel_rfl)) (fun _ _ _ h => h) (Or.inl ⟨by rfl, ?_⟩) ?_ ?_
          rotate_left
          · intro w'
            go_simp
            with_reducible rfl
          rotate_left
          · simp only [Act.put, List.setIfInBounds_toArray, List.set_cons_zero, List.set_cons_succ, i64_w, i32_w]
            rfl
          refine done_ (done_of HT_.out (by kernel_rfl)) ?_
          go_wp2
          refine start_ (n := 30) (S := fun w' => w'.cell? ⟨V, q, none⟩ = some (.int .u32 (v.toNat : Int)) ∧ w'.cell? ⟨V, m, none⟩ = some (.int .u32 (u.toNat : Int))) (ds := [29]) #[false, false, false, false, false, false, false, false, false, false, false, false, false, false, false, false, false, false, false, false, false, false, false, false, false, false, false, false, false, false] (by kernel_rfl) rfl rfl ⟨cp, cm⟩ (fun hHeld => ?_)
          refine with_tabW tab_f122_11 bits_f122_11 (fun HT_ HW_ => ?_)
          refine pure_ (i := 0) (N := some 62) (v := ?_) (a' := ?_) #[true, false, false, false, false, false, false, false, false, false, false, false, false, false, false, false, false, false, false, false, false, false, false, false, false, false, false, false, false, false] rfl rfl (any_of HT_.out (by kernel_rfl)) (fun _ _ _ h => h) (Or.inl ⟨by rfl, ?_⟩) ?_ ?_
          rotate_left
          · intro w'
            go_simp
            with_reducible rfl
          rotate_left
          · simp only [Act.put, List.setIfInBounds_toArray, List.set_cons_zero, List.set_cons_succ, i64_w, i32_w]
            rfl
          refine pure_ (i := 1) (N := some 63) (v := ?_) (a' := ?_) #[true, true, false, false, false, false, false, false, false, false, false, false, false, false, false, false, false, false, false, false, false, false, false, false, false, false, false, false, false, false] rfl rfl (any_of HT_.out (by kernel_rfl)) (fun _ _ _ h => h) (Or.inl ⟨by rfl, ?_⟩) ?_ ?_
          rotate_left
          · intro w'
            go_simp
            with_reducible rfl
          rotate_left
          · simp only [Act.put, List.setIfInBounds_toArray, List.set_cons_zero, List.set_cons_succ, i64_w, i32_w]
            rfl
          refine pure_ (i := 2) (N := some 64) (v := ?_) (a' := ?_) #[true, true, true, false, false, false, false, false, false, false, false, false, false, false, false, false, false, false, false, false, false, false, false, false, false, false, false, false, false, false] rfl rfl (any_of HT_.out (by kernel_rfl)) (fun _ _ _ h => h) (Or.inl ⟨by rfl, ?_⟩) ?_ ?_
          rotate_left
          · intro w'
            go_simp
            with_reducible rfl
          rotate_left
          · simp only [Act.put, List.setIfInBounds_toArray, List.set_cons_zero, List.set_cons_succ, i64_w, i32_w]
            rfl
          refine pure_ (i := 3) (N := some 65) (v := ?_) (a' := ?_) #[true, true, true, true, false, false, false, false, false, false, false, false, false, false, false, false, false, false, false, false, false, false, false, false, false, false, false, false, false, false] rfl rfl (any_of HT_.out (by kernel_rfl)) (fun _ _ _ h => h) (Or.inl ⟨by rfl, ?_⟩) ?_ ?_
          rotate_left
          · intro w'
            go_simp
            with_reducible rfl
          rotate_left
          · simp only [Act.put, List.setIfInBounds_toArray, List.set_cons_zero, List.set_cons_succ, i64_w, i32_w]
            rfl
          refine take_ (i := 4) (N := some 66) (v := ?_) (a' := ?_) #[true, true, true, true, true, false, false, false, false, false, false, false, false, false, false, false, false, false, false, false, false, false, false, false, false, false, false, false, false, false] rfl rfl (take_ofW HT_.out HW_.out (by kernel_rfl)) (fun _ _ _ h => h) (Or.inl ⟨by rfl, ?_⟩) hHeld ?_ ?_
          rotate_left
          · rintro w' ⟨s0, s1⟩
            go_simp
            with_reducible rfl
          rotate_left
          · simp only [Act.put, List.setIfInBounds_toArray, List.set_cons_zero, List.set_cons_succ, i64_w, i32_w]
            rfl
          refine pure_ (i := 5) (N := some 67) (v := ?_) (a' := ?_) #[true, true, true, true, true, true, false, false, false, false, false, false, false, false, false, false, false, false, false, false, false, false, false, false, false, false, false, false, false, false] rfl rfl (any_of HT_.out (by kernel_rfl)) (fun _ _ _ h => h) (Or.inl ⟨by rfl, ?_⟩) ?_ ?_
          rotate_left
          · intro w'
            go_simp
            with_reducible rfl
          rotate_left
          · simp only [Act.put, List.setIfInBounds_toArray, List.set_cons_zero, List.set_cons_succ, i64_w, i32_w]
            rfl
          refine pure_ (i := 7) (N := some 69) (v := ?_) (a' := ?_) #[true, true, true, true, true, true, false, true, false, false, false, false, false, false, false, false, false, false, false, false, false, false, false, false, false, false, false, false, false, false] rfl rfl (any_of HT_.out (by kernel_rfl)) (fun _ _ _ h => h) (Or.inl ⟨by rfl, ?_⟩) ?_ ?_
          rotate_left
          · intro w'
            go_simp
            with_reducible rfl
          rotate_left
          · simp only [Act.put, List.setIfInBounds_toArray, List.set_cons_zero, List.set_cons_succ, i64_w, i32_w]
            rfl
          refine pure_ (i := 10) (N := some 72) (v := ?_) (a' := ?_) #[true, true, true, true, true, true, false, true, false, false, true, false, false, false, false, false, false, false, false, false, false, false, false, false, false, false, false, false, false, false] rfl rfl (any_of HT_.out (by kernel_rfl)) (fun _ _ _ h => h) (Or.inl ⟨by rfl, ?_⟩) ?_ ?_
          rotate_left
          · intro w'
            go_simp
            with_reducible rfl
          rotate_left
          · simp only [Act.put, List.setIfInBounds_toArray, List.set_cons_zero, List.set_cons_succ, i64_w, i32_w]
            rfl
          refine pure_ (i := 11) (N := some 73) (v := ?_) (a' := ?_) #[true, true, true, true, true, true, false, true, false, false, true, true, false, false, false, false, false, false, false, false, false, false, false, false, false, false, false, false, false, false] rfl rfl (any_of HT_.out (by kernel_rfl)) (fun _ _ _ h => h) (Or.inl ⟨by rfl, ?_⟩) ?_ ?_
          rotate_left
          · intro w'
            go_simp
            with_reducible rfl
          rotate_left
          · simp only [Act.put, List.setIfInBounds_toArray, List.set_cons_zero, List.set_cons_succ, i64_w, i32_w]
            rfl
          refine pure_ (i := 14) (N := some 76) (v := ?_) (a' := ?_) #[true, true, true, true, true, true, false, true, false, false, true, true, false, false, true, false, false, false, false, false, false, false, false, false, false, false, false, false, false, false] rfl rfl (any_of HT_.out (by kernel_rfl)) (fun _ _ _ h => h) (Or.inl ⟨by rfl, ?_⟩) ?_ ?_
          rotate_left
          · intro w'
            go_simp
            with_reducible rfl
          rotate_left
          · simp only [Act.put, List.setIfInBounds_toArray, List.set_cons_zero, List.set_cons_succ, i64_w, i32_w]
            rfl
          refine pure_ (i := 15) (N := some 77) (v := ?_) (a' := ?_) #[true, true, true, true, true, true, false, true, false, false, true, true, false, false, true, true, false, false, false, false, false, false, false, false, false, false, false, false, false, false] rfl rfl (any_of HT_.out (by kernel_rfl)) (fun _ _ _ h => h) (Or.inl ⟨by rfl, ?_⟩) ?_ ?_
          rotate_left
          · intro w'
            go_simp
            with_reducible rfl
          rotate_left
          · simp only [Act.put, List.setIfInBounds_toArray, List.set_cons_zero, List.set_cons_succ, i64_w, i32_w]
            rfl
          refine pure_ (i := 16) (N := some 78) (v := ?_) (a' := ?_) #[true, true, true, true, true, true, false, true, false, false, true, true, false, false, true, true, true, false, false, false, false, false, false, false, false, false, false, false, false, false] rfl rfl (any_of HT_.out (by kernel_rfl)) (fun _ _ _ h => h) (Or.inl ⟨by rfl, ?_⟩) ?_ ?_
          rotate_left
          · intro w'
            go_simp
            with_reducible rfl
          rotate_left
          · simp only [Act.put, List.setIfInBounds_toArray, List.set_cons_zero, List.set_cons_succ, i64_w, i32_w]
            rfl
          refine take_ (i := 17) (N := some 79) (v := ?_) (a' := ?_) #[true, true, true, true, true, true, false, true, false, false, true, true, false, false, true, true, true, true, false, false, false, false, false, false, false, false, false, false, false, false] rfl rfl (take_ofW HT_.out HW_.out (by kernel_rfl)) (fun _ _ _ h => h) (Or.inl ⟨by rfl, ?_⟩) hHeld ?_ ?_
          rotate_left
          · rintro w' ⟨s0, s1⟩
            go_simp
            with_reducible rfl
          rotate_left
          · simp only [Act.put, List.setIfInBounds_toArray, List.set_cons_zero, List.set_cons_succ, i64_w, i32_w]
            rfl
          refine pure_ (i := 19) (N := some 81) (v := ?_) (a' := ?_) #[true, true, true, true, true, true, false, true, false, false, true, true, false, false, true, true, true, true, false, true, false, false, false, false, false, false, false, false, false, false] rfl rfl (any_of HT_.out (by kernel_rfl)) (fun _ _ _ h => h) (Or.inl ⟨by rfl, ?_⟩) ?_ ?_
          rotate_left
          · intro w'
            go_simp
            with_reducible rfl
          rotate_left
          · simp only [Act.put, List.setIfInBounds_toArray, List.set_cons_zero, List.set_cons_succ, i64_w, i32_w]
            rfl
          refine pure_ (i := 21) (N := some 83) (v := ?_) (a' := ?_) #[true, true, true, true, true, true, false, true, false, false, true, true, false, false, true, true, true, true, false, true, false, true, false, false, false, false, false, false, false, false] rfl rfl (any_of HT_.out (by kernel_rfl)) (fun _ _ _ h => h) (Or.inl ⟨by rfl, ?_⟩) ?_ ?_
          rotate_left
          · intro w'
            go_simp
            with_reducible rfl
          rotate_left
          · simp only [Act.put, List.setIfInBounds_toArray, List.set_cons_zero, List.set_cons_succ, i64_w, i32_w]
            rfl
          refine pure_ (i := 24) (N := some 86) (v := ?_) (a' := ?_) #[true, true, true, true, true, true, false, true, false, false, true, true, false, false, true, true, true, true, false, true, false, true, false, false, true, false, false, false, false, false] rfl rfl (any_of HT_.out (by kernel_rfl)) (fun _ _ _ h => h) (Or.inl ⟨by rfl, ?_⟩) ?_ ?_
          rotate_left
          · intro w'
            go_simp
            with_reducible rfl
          rotate_left
          · simp only [Act.put, List.setIfInBounds_toArray, List.set_cons_zero, List.set_cons_succ, i64_w, i32_w]
            rfl
          refine pure_ (i := 25) (N := some 87) (v := ?_) (a' := ?_) #[true, true, true, true, true, true, false, true, false, false, true, true, false, false, true, true, true, true, false, true, false, true, false, false, true, true, false, false, false, false] rfl rfl (any_of HT_.out (by kernel_rfl)) (fun _ _ _ h => h) (Or.inl ⟨by rfl, ?_⟩) ?_ ?_
          rotate_left
          · intro w'
            go_simp
            with_reducible rfl
          rotate_left
          · simp only [Act.put, List.setIfInBounds_toArray, List.set_cons_zero, List.set_cons_succ, i64_w, i32_w]
            rfl
          refine one_ (i := 6) (N := some 68) #[true, true, true, true, true, true, true, true, false, false, true, true, false, false, true, true, true, true, false, true, false, true, false, false, true, true, false, false, false, false] rfl rfl (one_of HT_.out (by kernel_rfl)) (by decide) (fun K hK => ?_)
          refine goes_ Tryz.func123 (by kernel_rfl) rfl #[.int .u32 (x.toNat : Int), .int .i64 7] (by rfl) rfl rfl (by (try simp only [List.map_toArray, List.map_cons, List.map_nil]); first | done | rfl) ?_
          with_reducible refine (turn_calls x 7 7 rfl (by decide) (by decide) _).mono ?_
          rintro e w6 ⟨rfl, ⟨nd, rfl⟩⟩
          refine ⟨_, rfl, ?_⟩
          refine hK.out _ _ hHeld (fun hHeld => ?_)
          clear hK K
          refine norm_ (a' := ?_) ?_ ?_
          rotate_left
          · show Act.put _ (some 68) _ = _
            simp only [Act.put, List.setIfInBounds_toArray, List.set_cons_zero, List.set_cons_succ, i64_w, i32_w]
            rfl
          refine one_ (i := 8) (N := some 70) #[true, true, true, true, true, true, true, true, true, false, true, true, false, false, true, true, true, true, false, true, false, true, false, false, true, true, false, false, false, false] rfl rfl (one_of HT_.out (by kernel_rfl)) (by decide) (fun K hK => ?_)
          refine goes_ Tryz.func123 (by kernel_rfl) rfl #[.int .u32 (x.toNat : Int), .int .i64 18] (by rfl) rfl rfl (by (try simp only [List.map_toArray, List.map_cons, List.map_nil]); first | done | rfl) ?_
          with_reducible refine (turn_calls x 18 18 rfl (by decide) (by decide) _).mono ?_
          rintro e w6 ⟨rfl, ⟨nd, rfl⟩⟩
          refine ⟨_, rfl, ?_⟩
          refine hK.out _ _ hHeld (fun hHeld => ?_)
          clear hK K
          refine norm_ (a' := ?_) ?_ ?_
          rotate_left
          · show Act.put _ (some 70) _ = _
            simp only [Act.put, List.setIfInBounds_toArray, List.set_cons_zero, List.set_cons_succ, i64_w, i32_w]
            rfl
          refine pure_ (i := 9) (N := some 71) (v := ?_) (a' := ?_) #[true, true, true, true, true, true, true, true, true, true, true, true, false, false, true, true, true, true, false, true, false, true, false, false, true, true, false, false, false, false] rfl rfl (any_of HT_.out (by kernel_rfl)) (fun _ _ _ h => h) (Or.inl ⟨by rfl, ?_⟩) ?_ ?_
          rotate_left
          · intro w'
            go_simp
            with_reducible rfl
          rotate_left
          · simp only [Act.put, List.setIfInBounds_toArray, List.set_cons_zero, List.set_cons_succ, i64_w, i32_w]
            rfl
          refine pure_ (i := 12) (N := some 74) (v := ?_) (a' := ?_) #[true, true, true, true, true, true, true, true, true, true, true, true, true, false, true, true, true, true, false, true, false, true, false, false, true, true, false, false, false, false] rfl rfl (any_of HT_.out (by kernel_rfl)) (fun _ _ _ h => h) (Or.inl ⟨by rfl, ?_⟩) ?_ ?_
          rotate_left
          · intro w'
            go_simp
            with_reducible rfl
          rotate_left
          · simp only [Act.put, List.setIfInBounds_toArray, List.set_cons_zero, List.set_cons_succ, i64_w, i32_w]
            rfl
          refine pure_ (i := 13) (N := some 75) (v := ?_) (a' := ?_) #[true, true, true, true, true, true, true, true, true, true, true, true, true, true, true, true, true, true, false, true, false, true, false, false, true, true, false, false, false, false] rfl rfl (any_of HT_.out (by kernel_rfl)) (fun _ _ _ h => h) (Or.inl ⟨by rfl, ?_⟩) ?_ ?_
          rotate_left
          · intro w'
            go_simp
            with_reducible rfl
          rotate_left
          · simp only [Act.put, List.setIfInBounds_toArray, List.set_cons_zero, List.set_cons_succ, i64_w, i32_w]
            rfl
          refine pure_ (i := 18) (N := some 80) (v := ?_) (a' := ?_) #[true, true, true, true, true, true, true, true, true, true, true, true, true, true, true, true, true, true, true, true, false, true, false, false, true, true, false, false, false, false] rfl rfl (any_of HT_.out (by kernel_rfl)) (fun _ _ _ h => h) (Or.inl ⟨by rfl, ?_⟩) ?_ ?_
          rotate_left
          · intro w'
            go_simp
            with_reducible rfl
          rotate_left
          · simp only [Act.put, List.setIfInBounds_toArray, List.set_cons_zero, List.set_cons_succ, i64_w, i32_w]
            rfl
          refine one_ (i := 20) (N := some 82) #[true, true, true, true, true, true, true, true, true, true, true, true, true, true, true, true, true, true, true, true, true, true, false, false, true, true, false, false, false, false] rfl rfl (one_of HT_.out (by kernel_rfl)) (by decide) (fun K hK => ?_)
          refine goes_ Tryz.func123 (by kernel_rfl) rfl #[.int .u32 (y.toNat : Int), .int .i64 17] (by rfl) rfl rfl (by (try simp only [List.map_toArray, List.map_cons, List.map_nil]); first | done | rfl) ?_
          with_reducible refine (turn_calls y 17 17 rfl (by decide) (by decide) _).mono ?_
          rintro e w6 ⟨rfl, ⟨nd, rfl⟩⟩
          refine ⟨_, rfl, ?_⟩
          refine hK.out _ _ hHeld (fun hHeld => ?_)
          clear hK K
          refine norm_ (a' := ?_) ?_ ?_
          rotate_left
          · show Act.put _ (some 82) _ = _
            simp only [Act.put, List.setIfInBounds_toArray, List.set_cons_zero, List.set_cons_succ, i64_w, i32_w]
            rfl
          refine one_ (i := 22) (N := some 84) #[true, true, true, true, true, true, true, true, true, true, true, true, true, true, true, true, true, true, true, true, true, true, true, false, true, true, false, false, false, false] rfl rfl (one_of HT_.out (by kernel_rfl)) (by decide) (fun K hK => ?_)
          refine goes_ Tryz.func123 (by kernel_rfl) rfl #[.int .u32 (y.toNat : Int), .int .i64 19] (by rfl) rfl rfl (by (try simp only [List.map_toArray, List.map_cons, List.map_nil]); first | done | rfl) ?_
          with_reducible refine (turn_calls y 19 19 rfl (by decide) (by decide) _).mono ?_
          rintro e w6 ⟨rfl, ⟨nd, rfl⟩⟩
          refine ⟨_, rfl, ?_⟩
          refine hK.out _ _ hHeld (fun hHeld => ?_)
          clear hK K
          refine norm_ (a' := ?_) ?_ ?_
          rotate_left
          · show Act.put _ (some 84) _ = _
            simp only [Act.put, List.setIfInBounds_toArray, List.set_cons_zero, List.set_cons_succ, i64_w, i32_w]
            rfl
          refine pure_ (i := 23) (N := some 85) (v := ?_) (a' := ?_) #[true, true, true, true, true, true, true, true, true, true, true, true, true, true, true, true, true, true, true, true, true, true, true, true, true, true, false, false, false, false] rfl rfl (any_of HT_.out (by kernel_rfl)) (fun _ _ _ h => h) (Or.inl ⟨by rfl, ?_⟩) ?_ ?_
          rotate_left
          · intro w'
            go_simp
            with_reducible rfl
          rotate_left
          · simp only [Act.put, List.setIfInBounds_toArray, List.set_cons_zero, List.set_cons_succ, i64_w, i32_w]
            rfl
          refine pure_ (i := 26) (N := some 88) (v := ?_) (a' := ?_) #[true, true, true, true, true, true, true, true, true, true, true, true, true, true, true, true, true, true, true, true, true, true, true, true, true, true, true, false, false, false] rfl rfl (any_of HT_.out (by kernel_rfl)) (fun _ _ _ h => h) (Or.inl ⟨by rfl, ?_⟩) ?_ ?_
          rotate_left
          · intro w'
            go_simp
            with_reducible rfl
          rotate_left
          · simp only [Act.put, List.setIfInBounds_toArray, List.set_cons_zero, List.set_cons_succ, i64_w, i32_w]
            rfl
          refine pure_ (i := 27) (N := some 89) (v := ?_) (a' := ?_) #[true, true, true, true, true, true, true, true, true, true, true, true, true, true, true, true, true, true, true, true, true, true, true, true, true, true, true, true, false, false] rfl rfl (any_of HT_.out (by kernel_rfl)) (fun _ _ _ h => h) (Or.inl ⟨by rfl, ?_⟩) ?_ ?_
          rotate_left
          · intro w'
            go_simp
            with_reducible rfl
          rotate_left
          · simp only [Act.put, List.setIfInBounds_toArray, List.set_cons_zero, List.set_cons_succ, i64_w, i32_w]
            rfl
          refine pure_ (i := 28) (N := some 90) (v := ?_) (a' := ?_) #[true, true, true, true, true, true, true, true, true, true, true, true, true, true, true, true, true, true, true, true, true, true, true, true, true, true, true, true, true, false] rfl rfl (any_of HT_.out (by kernel_rfl)) (fun _ _ _ h => h) (Or.inl ⟨by rfl, ?_⟩) ?_ ?_
          rotate_left
          · intro w'
            go_simp
            with_reducible rfl
          rotate_left
          · simp only [Act.put, List.setIfInBounds_toArray, List.set_cons_zero, List.set_cons_succ, i64_w, i32_w]
            rfl
          refine last_ (i := 29) (N := none) #[true, true, true, true, true, true, true, true, true, true, true, true, true, true, true, true, true, true, true, true, true, true, true, true, true, true, true, true, true, true] rfl rfl (one_of HT_.out (by kernel_rfl)) (by decide) (fun K hK => ?_)
          refine unit_ (w' := ?_) (by rfl) rfl ?hrun ?_
          case hrun => go_simp; rfl
          refine hK.out _ _ ?_
          clear hK K
          refine norm_ (a' := ?_) ?_ ?_
          rotate_left
          · show Act.put _ (none) _ = _
            simp only [Act.put, List.setIfInBounds_toArray, List.set_cons_zero, List.set_cons_succ, i64_w, i32_w]
            rfl
          refine done_ (done_of HT_.out (by kernel_rfl)) ?_
          go_wp2
          clear zi zj zm zp hHeld
          have wt : wrap64 ((t : Int) + 1) = ((t + 1 : Nat) : Int) := by have := et.out; unfold wrap64; omega
          rw [sg1_bits, sg0_bits, m_add, m_add, m_add, nxt_sum, ← en.out, wt]
          clear wt
          refine ⟨⟨t + 1, rfl, by have := et.out; omega, by have := et.out; omega, ?_, (Mv.drewN HM.out _).set t _ (Or.inl rfl)⟩, by simp only [intOf]; have := et.out; omega⟩
          have hs := set_of (w := wr) HW.out t (.int .u32 ((nxt l t).toNat : Int))
          have e := Wd_set l (nxt l t) (by have := et.out; omega)
          rw [show l.length = t by have := et.out; omega] at e
          rw [e] at hs
          rw [show t + 1 - 16 = t - 16 + 1 by have := et.out; omega, ext, et.out.1, ← el]
          exact hs
        · have o1 : decide ((t : Int) < 64) = false := decide_eq_false (by omega)
          obtain ⟨ws, ews⟩ : ∃ ws, ws = ext 48 (words B 16) := ⟨_, rfl⟩
          have hlw : ws.length = 64 := by rw [ews, length_ext, length_words]
          have HW := Aside0.mk (show wr.heap[V]? = some (.cells (ws.map vW).toArray 130 (0, 0)) from by
            have := HW.out
            rw [show t - 16 = 48 by omega, ← ews, Wd_full ws hlw] at this
            exact this)
          have HR := Aside0.mk (show wr.heap[r]? = _ from HM.out.blk HR.out (by have := hsz.out; omega))
          have hlw2 := Aside0.mk (show (ws.map vW).length = 64 by rw [List.length_map]; exact hlw)
          have EW := Aside0.mk ews
          clear ht16 ht hk2 hlw ews
          go_wp2_with (first
            | (refine wpList_load_agg rfl 130 _ rfl V 0 rfl (ws.map vW) (load_all HW.out) _ Tryz.underlying130 rfl (by rw [hlw2.out]; kernel_rfl) ?_)
            | (refine wpList_store_agg rfl 130 _ _ rfl r 0 rfl (ws.map vW) _ rfl _ HR.out (by rw [hlw2.out]; exact Nat.le_refl 64) (fun v hv => one_W hv) (by rw [hlw2.out]; kernel_rfl) ?_; intro w12 hr12 hm12 hz12; rw [splice_all (List.replicate 64 (.int .u32 0)) (ws.map vW) (by rw [hlw2.out]; rfl)] at hr12))
          refine bodyPost_ret (results_cell_row rfl _ _ r _ _ _ _ rfl hr12.out Tryz.underlying130 rfl (by rw [List.size_toArray, hlw2.out]; kernel_rfl)) rfl ⟨by rw [EW.out], ?_⟩
          exact Mv.toBelow (Mv.toBelow HB2.out HM.out (fun k hk => by have := hsz.out; omega)) hm12.out (fun k hk => by have := hsz.out; omega)
end Go.Proofs.YtniabkphbnimaaaGreatDoor.Sh
namespace Go.Proofs.YtniabkphbnimaaaGreatDoor.Sh
open Go Go.RowKit Go.Maps Go.Proofs.YtniabkphbnimaaaGreatDoorW.PrintWords Go.Proofs.YtniabkphbnimaaaGreatDoorW.PrintLast Go.Proofs.YtniabkphbnimaaaGreatDoor.Bs
/-- What the document's tables hold. -/
def GR (w : World) : Prop := (∃ t fr, w.heap[1]? = some (.cells (H0.l.map vW).toArray t fr)) ∧ ∃ t fr, w.heap[2]? = some (.cells (KS.map vW).toArray t fr)
theorem GR.mv {w w' : World} {S : Nat → Prop} (h : GR w) (hm : Mv w w' S) (h1 : ¬ S 1) (h2 : ¬ S 2) : GR w' := by
  obtain ⟨⟨t, fr, e⟩, t2, fr2, e2⟩ := h
  exact ⟨⟨t, fr, hm.blk e h1⟩, t2, fr2, hm.blk e2 h2⟩
theorem GR.below {w w' : World} (h : GR w) (hb : Below w.heap.size w w') : GR w' := h.mv (Mv.of_below hb (fun _ => False)) (fun h => h) (fun h => h)
theorem GR.cube {w : World} (h : GR w) (i : Nat) (hi : i < 64) : w.cell? ⟨2, i, none⟩ = some (.int .u32 ((KS.getD i 0).toNat : Int)) := by
  obtain ⟨_, t, fr, e⟩ := h
  refine cell_of e ?_
  have hl : i < KS.length := hi
  rw [List.getElem?_map, List.getElem?_eq_getElem hl, List.getD_eq_getElem?_getD, List.getElem?_eq_getElem hl]
  rfl
theorem outV_get (S : V8) (i : Nat) (hi : i < 32) : (outV S).take (i + 1) = (outV S).take i ++ [UInt8.ofNat ((S.l.getD (i / 4) 0).toNat >>> (24 - 8 * (i % 4)))] := by
  match i, hi with
  | 0, _ => rfl
  | 1, _ => rfl
  | 2, _ => rfl
  | 3, _ => rfl
  | 4, _ => rfl
  | 5, _ => rfl
  | 6, _ => rfl
  | 7, _ => rfl
  | 8, _ => rfl
  | 9, _ => rfl
  | 10, _ => rfl
  | 11, _ => rfl
  | 12, _ => rfl
  | 13, _ => rfl
  | 14, _ => rfl
  | 15, _ => rfl
  | 16, _ => rfl
  | 17, _ => rfl
  | 18, _ => rfl
  | 19, _ => rfl
  | 20, _ => rfl
  | 21, _ => rfl
  | 22, _ => rfl
  | 23, _ => rfl
  | 24, _ => rfl
  | 25, _ => rfl
  | 26, _ => rfl
  | 27, _ => rfl
  | 28, _ => rfl
  | 29, _ => rfl
  | 30, _ => rfl
  | 31, _ => rfl
  | n + 32, h => exact absurd h (by omega)
theorem tx_nest (r : V8) (k w : W32) : (((((r.h.toNat : Int) + Go.bits .xor .u32 (Go.bits .xor .u32 ((rr r.e 6).toNat : Int) ((rr r.e 11).toNat : Int)) ((rr r.e 25).toNat : Int)) % (4294967296 : Int) + Go.bits .xor .u32 (Go.bits .and .u32 (r.e.toNat : Int) (r.f.toNat : Int)) (Go.bits .and .u32 (Go.bits .xor .u32 (if IntKind.u32.signed = true then -1 else IntKind.u32.max) (r.e.toNat : Int)) (r.g.toNat : Int))) % (4294967296 : Int) + (k.toNat : Int)) % (4294967296 : Int) + (w.toNat : Int)) % (4294967296 : Int) = ((tx r k w).toNat : Int) := by
  rw [if_neg (by decide), show IntKind.u32.max = 4294967295 from rfl, i_not, i_and, i_and, i_xor, i_xor, i_xor, m_add, m_add, m_add, m_add]
  rfl
theorem mix_words (l : List UInt8) (k : Nat) : dg (k + 1) l = addV (dg k l) (rnds (ext 48 (words ((l.drop (64 * k)).take 64) 16)) 64 (dg k l)) := rfl
theorem addN_setW (S R : V8) (j : Nat) (h : j < 8) : ((addN S R j).l.map vW).set j (vW (S.l.getD j 0 + R.l.getD j 0)) = (addN S R (j + 1)).l.map vW := by
  match j, h with
  | 0, _ => rfl
  | 1, _ => rfl
  | 2, _ => rfl
  | 3, _ => rfl
  | 4, _ => rfl
  | 5, _ => rfl
  | 6, _ => rfl
  | 7, _ => rfl
def T_113_7 : Bool × List (List Nat × List Nat) := (true, [([], []), ([0], [0]), ([], []), ([2], [2]), ([], []), ([4], [4]), ([], []), ([6], [6]), ([], []), ([8], [8]), ([], []), ([10], [10]), ([], []), ([12], [12]), ([], []), ([14], [14]), ([1, 0, 1], [1]), ([3, 16, 0, 1, 2, 3, 16], [3]), ([5, 17, 0, 1, 2, 3, 4, 5, 16, 17], [5]), ([7, 18, 0, 1, 2, 3, 4, 5, 6, 7, 16, 17, 18], [7]), ([9, 19, 0, 1, 2, 3, 4, 5, 6, 7, 8, 9, 16, 17, 18, 19], [9]), ([11, 20, 0, 1, 2, 3, 4, 5, 6, 7, 8, 9, 10, 11, 16, 17, 18, 19, 20], [11]), ([13, 21, 0, 1, 2, 3, 4, 5, 6, 7, 8, 9, 10, 11, 12, 13, 16, 17, 18, 19, 20, 21], [13]), ([15, 22, 0, 1, 2, 3, 4, 5, 6, 7, 8, 9, 10, 11, 12, 13, 14, 15, 16, 17, 18, 19, 20, 21, 22], [15])])
def B_113_7 : List Nat := [0, 1, 0, 4, 0, 16, 0, 64, 0, 256, 0, 1024, 0, 4096, 0, 16384, 3, 65551, 196671, 459007, 984063, 2035711, 4145151, 8388607]
theorem tab_f113_7 : rtab .any (opsOf Tryz.f113 7) = T_113_7 := by kernel_rfl
theorem bits_f113_7 : waitsOk T_113_7.2 B_113_7 = true := by kernel_rfl
def T_113_11 : Bool × List (List Nat × List Nat) := (true, [([], []), ([], []), ([1], [1]), ([], []), ([3, 2], [3]), ([2, 4], [2, 4]), ([], []), ([6, 4], [6]), ([5, 7], [5, 7]), ([0, 8], [0, 8]), ([], []), ([], []), ([10, 11], [10, 11]), ([], []), ([13], [13]), ([], []), ([14, 15], [14, 15]), ([12, 16], [12, 16]), ([9, 17], [9, 17]), ([], []), ([19], [19]), ([20], [20]), ([18, 21], [18, 21]), ([], []), ([23], [23]), ([24], [24]), ([22, 25], [22, 25]), ([26, 7, 0, 1, 2, 3, 4, 5, 6, 7, 8, 9, 10, 11, 12, 13, 14, 15, 16, 17, 18, 19, 20, 21, 22, 23, 24, 25, 26], [26])])
def B_113_11 : List Nat := [0, 0, 2, 0, 14, 30, 0, 94, 254, 511, 0, 0, 3072, 0, 8192, 0, 57344, 130048, 262143, 0, 524288, 1572864, 4194303, 0, 8388608, 25165824, 67108863, 134217727]
theorem tab_f113_11 : rtab .any (opsOf Tryz.f113 11) = T_113_11 := by kernel_rfl
theorem bits_f113_11 : waitsOk T_113_11.2 B_113_11 = true := by kernel_rfl
def T_113_18 : Bool × List (List Nat × List Nat) := (true, [([], []), ([], []), ([1], [1]), ([2], [2]), ([], []), ([4], [4]), ([5], [5]), ([3, 6], [3, 6]), ([0, 0, 1, 2, 3, 4, 5, 6, 7], [0]), ([8, 7, 0, 1, 2, 3, 4, 5, 6, 7], [7, 8])])
def B_113_18 : List Nat := [0, 0, 2, 6, 0, 16, 48, 126, 255, 511]
theorem tab_f113_18 : rtab .any (opsOf Tryz.f113 18) = T_113_18 := by kernel_rfl
theorem bits_f113_18 : waitsOk T_113_18.2 B_113_18 = true := by kernel_rfl
set_option maxHeartbeats 8000000 in
set_option maxRecDepth 100000 in
theorem rsum_calls (l : List UInt8) (A : Option Addr) (m c : Nat) (hm : l.length = m) (w : World) (hg : GR w) (H : BytesIn w A l) (hl : m < 549755813888) :
    Calls Tryz.prog 113 #[.slice A m c] w fun e w' => e = .returned (.agg ((sha l).map vB).toArray) ∧ Below w.heap.size w w' := by
  have HG := Aside0.mk hg
  have HIN := Aside0.mk H
  have HM := Aside0.mk hm
  have HL := Aside0.mk hl
  obtain ⟨F, eF⟩ : ∃ F, F = full l := ⟨_, rfl⟩
  obtain ⟨n, en⟩ : ∃ n, n = F.length := ⟨_, rfl⟩
  obtain ⟨kn, ekn⟩ : ∃ kn, kn = n / 64 := ⟨_, rfl⟩
  have HF := Aside0.mk (show F = full l ∧ F.length = n ∧ n = 64 * kn ∧ n < 1099511627776 from ⟨eF, en.symm, by have := (length_full l).2; rw [← eF, ← en] at this; omega, by rw [en, eF, full_len]; omega⟩)
  clear hg H hm hl eF en ekn
  go_enter Tryz.func113, Tryz.ntmps113
  go_wp2_with (first
    | (refine wpList_alloc_v rfl 77 rfl (List.replicate 32 (vB 0)) (by kernel_rfl) ?_; intro r w1 er hr1 hb1 hz1)
    | (go_at_call 121; fail))
  with_reducible refine (laid_calls l A m c HM.out w1 (HIN.out.below hb1.out) HL.out).mono ?_
  rintro e w2 ⟨b, he, hbb, hrow, hb2⟩
  have he2 : e = .returned (.slice (some ⟨b, 0, none⟩) n n) := by rw [he, ← HF.out.1, HF.out.2.1]
  clear he
  subst he2
  have HBB := Aside0.mk hbb
  have HROW := Aside0.mk (show w2.heap[b]? = some (.cells (F.map vB).toArray 5 (0, 0)) from by rw [HF.out.1]; exact hrow)
  have HB2 := Aside0.mk hb2
  clear hbb hrow hb2
  go_wp2_with (first
    | (refine wpList_load_agg rfl 116 _ rfl 1 0 rfl (H0.l.map vW) (load_all (HG.out.below (hb1.out.trans (HB2.out.mono hb1.out.size))).1.choose_spec.choose_spec) _ Tryz.underlying116 rfl (by kernel_rfl) ?_)
    | (refine wpList_alloc_v rfl 116 rfl ((V8.mk 0 0 0 0 0 0 0 0).l.map vW) (by kernel_rfl) ?_; intro S w3 eS hS3 hb3 hz3)
    | (refine wpList_store_agg rfl 116 _ _ rfl S 0 rfl (H0.l.map vW) _ rfl _ hS3.out (by exact Nat.le_refl 8) (fun v hv => one_W hv) (by kernel_rfl) ?_; intro w4 hS4 hm4 hz4; rw [splice_all ((V8.mk 0 0 0 0 0 0 0 0).l.map vW) (H0.l.map vW) rfl] at hS4))
  have hsz := Aside0.mk (show w.heap.size ≤ r ∧ r < b ∧ b < S ∧ S < w4.heap.size by have h1 := er.out; have h2 := hz1.out; have h3 := HBB.out; have h4 := blk_lt HROW.out; have h5 := eS.out; have h6 := blk_lt hS4.out; omega)
  have HB4 := Aside0.mk (show Below w.heap.size w w4 from Mv.toBelow ((hb1.out.trans (HB2.out.mono hb1.out.size)).trans (hb3.out.mono (Nat.le_trans hb1.out.size HB2.out.size))) hm4.out (fun k hk => by have := hsz.out; omega))
  have HR4 := Aside0.mk (show w4.heap[r]? = _ from hm4.out.blk ((hb3.out.block r (by have h1 := HB2.out.size; have h2 := hz1.out; omega)).trans ((HB2.out.block r (blk_lt hr1.out)).trans hr1.out)) (by have := hsz.out; omega))
  have HR4b := Aside0.mk (show w4.heap[b]? = _ from hm4.out.blk ((hb3.out.block b (blk_lt HROW.out)).trans HROW.out) (by have := hsz.out; omega))
  have HS4 := Aside0.mk hS4.out
  clear er hr1 hb1 hz1 HBB HROW HB2 eS hS3 hb3 hz3 hS4 hm4 hz4 HIN
  go_loopw [5] (fun iv wq => ∃ p k : Nat, iv = .int .i64 (p : Int) ∧ p = 64 * k ∧ k ≤ kn ∧ wq.heap[S]? = some (.cells ((dg k F).l.map vW).toArray 116 (0, 0)) ∧ Mv w4 wq (fun k => k = S)) (fun iv _ => n - (intOf iv).toNat)
  case atStart => exact ⟨0, 0, rfl, rfl, by omega, HS4.out, Mv.refl _ _⟩
  case round =>
    obtain ⟨p, k, rfl, ep, hk, hS, hm⟩ := hrel
    have HS := Aside0.mk hS
    have HV := Aside0.mk hm
    have HB := Aside0.mk (show Below w.heap.size w wr from Mv.toBelow HB4.out hm (fun k hk => by have := hsz.out; omega))
    have HROW := Aside0.mk (show wr.heap[b]? = _ from HV.out.blk HR4b.out (by have := hsz.out; omega))
    clear hS hm
    have EP := Aside0.mk ep
    by_cases hk2 : k < kn
    · have o1 : decide ((p : Int) < (n : Int)) = true := decide_eq_true (by have := HF.out; omega)
      have o2 : decide (p < n) = true := decide_eq_true (by have := HF.out; omega)
      obtain ⟨s, es⟩ : ∃ s, s = dg k F := ⟨_, rfl⟩
      obtain ⟨ws, ews⟩ : ∃ ws, ws = ext 48 (words ((F.drop p).take 64) 16) := ⟨_, rfl⟩
      have hws := Aside0.mk (show ws.length = 64 ∧ (ws.map vW).length = 64 by rw [List.length_map, ews, length_ext, length_words]; exact ⟨rfl, rfl⟩)
      have HS := Aside0.mk (show wr.heap[S]? = some (.cells (s.l.map vW).toArray 116 (0, 0)) from es ▸ HS.out)
      have EDG := Aside0.mk (show dg (k + 1) F = addV s (rnds ws 64 s) ∧ p + 64 = 64 * (k + 1) ∧ p + 64 ≤ n from ⟨by rw [mix_words, es, ews, ep], by omega, by have := HF.out; omega⟩)
      have EWS := Aside0.mk ews
      clear es ews ep
      rename World => w5
      go_upto_region 7 with (go_at_call 122; fail)
      with_reducible refine (plan_calls F ((F.drop p).take 64) b n n p HF.out.2.1 rfl EDG.out.2.2 HF.out.2.2.2 w5 (bytes_of_row HROW.out)).mono ?_
      rintro e w6 ⟨he, hb6⟩
      have he2 : e = .returned (.agg (ws.map vW).toArray) := by rw [he, EWS.out]
      clear he
      subst he2
      have HB6 := Aside0.mk hb6
      clear hb6
      go_upto_region 7 with (first
        | (refine wpList_alloc_v rfl 130 rfl (List.replicate 64 (.int .u32 0)) (by kernel_rfl) ?_; intro Wb w7 eW hW7 hb7 hz7)
        | (refine wpList_store_agg rfl 130 _ _ rfl Wb 0 rfl (ws.map vW) _ rfl _ hW7.out (by rw [hws.out.2]; exact Nat.le_refl 64) (fun v hv => one_W hv) (by rw [hws.out.2]; kernel_rfl) ?_; intro w8 hW8 hm8 hz8; rw [splice_all (List.replicate 64 (.int .u32 0)) (ws.map vW) (by rw [hws.out.2]; rfl)] at hW8))
      have hs8 := Aside0.mk (show S < Wb ∧ Wb < w8.heap.size ∧ w.heap.size ≤ Wb by have h1 := eW.out; have h2 := HB6.out.size; have h3 := HV.out.size; have h4 := hsz.out; have h5 := blk_lt hW8.out; omega)
      have HB57 := Aside0.mk (show Below w5.heap.size w5 w7 from HB6.out.trans (hb7.out.mono HB6.out.size))
      have HM8 := Aside0.mk (show Mv w4 w8 (fun k => k = S) from (HV.out.below HB57.out).then hm8.out (fun j hj => Or.inr (by subst hj; have h1 := hs8.out; have h2 := eW.out; have h3 := HB6.out.size; have h4 := HV.out.size; omega)))
      have HS8 := Aside0.mk (show w8.heap[S]? = _ from hm8.out.blk ((HB57.out.block S (blk_lt HS.out)).trans HS.out) (by have := hs8.out; omega))
      have HW8 := Aside0.mk hW8.out
      clear eW hW7 hb7 hz7 hW8 hm8 hz8 HB6 HB57 HV HROW HB
      simp only [Act.put, List.setIfInBounds_toArray, List.set_cons_zero, List.set_cons_succ]
      have c0 : w8.cell? ⟨S, 0, none⟩ = some (.int .u32 (s.a.toNat : Int)) := cell_of HS8.out rfl
      have c1 : w8.cell? ⟨S, 1, none⟩ = some (.int .u32 (s.b.toNat : Int)) := cell_of HS8.out rfl
      have c2 : w8.cell? ⟨S, 2, none⟩ = some (.int .u32 (s.c.toNat : Int)) := cell_of HS8.out rfl
      have c3 : w8.cell? ⟨S, 3, none⟩ = some (.int .u32 (s.d.toNat : Int)) := cell_of HS8.out rfl
      have c4 : w8.cell? ⟨S, 4, none⟩ = some (.int .u32 (s.e.toNat : Int)) := cell_of HS8.out rfl
      have c5 : w8.cell? ⟨S, 5, none⟩ = some (.int .u32 (s.f.toNat : Int)) := cell_of HS8.out rfl
      have c6 : w8.cell? ⟨S, 6, none⟩ = some (.int .u32 (s.g.toNat : Int)) := cell_of HS8.out rfl
      have c7 : w8.cell? ⟨S, 7, none⟩ = some (.int .u32 (s.h.toNat : Int)) := cell_of HS8.out rfl
      go_wp2
      refine start_ (n := 24) (S := fun w' => w'.cell? ⟨S, 0, none⟩ = some (.int .u32 (s.a.toNat : Int)) ∧ w'.cell? ⟨S, 1, none⟩ = some (.int .u32 (s.b.toNat : Int)) ∧ w'.cell? ⟨S, 2, none⟩ = some (.int .u32 (s.c.toNat : Int)) ∧ w'.cell? ⟨S, 3, none⟩ = some (.int .u32 (s.d.toNat : Int)) ∧ w'.cell? ⟨S, 4, none⟩ = some (.int .u32 (s.e.toNat : Int)) ∧ w'.cell? ⟨S, 5, none⟩ = some (.int .u32 (s.f.toNat : Int)) ∧ w'.cell? ⟨S, 6, none⟩ = some (.int .u32 (s.g.toNat : Int)) ∧ w'.cell? ⟨S, 7, none⟩ = some (.int .u32 (s.h.toNat : Int))) (ds := []) #[false, false, false, false, false, false, false, false, false, false, false, false, false, false, false, false, false, false, false, false, false, false, false, false] (by kernel_rfl) rfl rfl ⟨c0, c1, c2, c3, c4, c5, c6, c7⟩ (fun hHeld => ?_)
      refine with_tabW tab_f113_7 bits_f113_7 (fun HT_ HW_ => ?_)
      refine pure_ (i := 0) (N := some 34) (v := ?_) (a' := ?_) #[true, false, false, false, false, false, false, false, false, false, false, false, false, false, false, false, false, false, false, false, false, false, false, false] rfl rfl (any_of HT_.out (by kernel_rfl)) (fun _ _ _ h => h) (Or.inl ⟨by rfl, ?_⟩) ?_ ?_
      rotate_left
      · intro w'
        go_simp
        with_reducible rfl
      rotate_left
      · simp only [Act.put, List.setIfInBounds_toArray, List.set_cons_zero, List.set_cons_succ, i64_w, i32_w]
        rfl
      refine take_ (i := 1) (N := some 35) (v := ?_) (a' := ?_) #[true, true, false, false, false, false, false, false, false, false, false, false, false, false, false, false, false, false, false, false, false, false, false, false] rfl rfl (take_ofW HT_.out HW_.out (by kernel_rfl)) (fun _ _ _ h => h) (Or.inl ⟨by rfl, ?_⟩) hHeld ?_ ?_
      rotate_left
      · rintro w' ⟨s0, s1, s2, s3, s4, s5, s6, s7⟩
        go_simp
        with_reducible rfl
      rotate_left
      · simp only [Act.put, List.setIfInBounds_toArray, List.set_cons_zero, List.set_cons_succ, i64_w, i32_w]
        rfl
      refine pure_ (i := 2) (N := some 36) (v := ?_) (a' := ?_) #[true, true, true, false, false, false, false, false, false, false, false, false, false, false, false, false, false, false, false, false, false, false, false, false] rfl rfl (any_of HT_.out (by kernel_rfl)) (fun _ _ _ h => h) (Or.inl ⟨by rfl, ?_⟩) ?_ ?_
      rotate_left
      · intro w'
        go_simp
        with_reducible rfl
      rotate_left
      · simp only [Act.put, List.setIfInBounds_toArray, List.set_cons_zero, List.set_cons_succ, i64_w, i32_w]
        rfl
      refine take_ (i := 3) (N := some 37) (v := ?_) (a' := ?_) #[true, true, true, true, false, false, false, false, false, false, false, false, false, false, false, false, false, false, false, false, false, false, false, false] rfl rfl (take_ofW HT_.out HW_.out (by kernel_rfl)) (fun _ _ _ h => h) (Or.inl ⟨by rfl, ?_⟩) hHeld ?_ ?_
      rotate_left
      · rintro w' ⟨s0, s1, s2, s3, s4, s5, s6, s7⟩
        go_simp
        with_reducible rfl
      rotate_left
      · simp only [Act.put, List.setIfInBounds_toArray, List.set_cons_zero, List.set_cons_succ, i64_w, i32_w]
        rfl
      refine pure_ (i := 4) (N := some 38) (v := ?_) (a' := ?_) #[true, true, true, true, true, false, false, false, false, false, false, false, false, false, false, false, false, false, false, false, false, false, false, false] rfl rfl (any_of HT_.out (by kernel_rfl)) (fun _ _ _ h => h) (Or.inl ⟨by rfl, ?_⟩) ?_ ?_
      rotate_left
      · intro w'
        go_simp
        with_reducible rfl
      rotate_left
      · simp only [Act.put, List.setIfInBounds_toArray, List.set_cons_zero, List.set_cons_succ, i64_w, i32_w]
        rfl
      refine take_ (i := 5) (N := some 39) (v := ?_) (a' := ?_) #[true, true, true, true, true, true, false, false, false, false, false, false, false, false, false, false, false, false, false, false, false, false, false, false] rfl rfl (take_ofW HT_.out HW_.out (by kernel_rfl)) (fun _ _ _ h => h) (Or.inl ⟨by rfl, ?_⟩) hHeld ?_ ?_
      rotate_left
      · rintro w' ⟨s0, s1, s2, s3, s4, s5, s6, s7⟩
        go_simp
        with_reducible rfl
      rotate_left
      · simp only [Act.put, List.setIfInBounds_toArray, List.set_cons_zero, List.set_cons_succ, i64_w, i32_w]
        rfl
      refine pure_ (i := 6) (N := some 40) (v := ?_) (a' := ?_) #[true, true, true, true, true, true, true, false, false, false, false, false, false, false, false, false, false, false, false, false, false, false, false, false] rfl rfl (any_of HT_.out (by kernel_rfl)) (fun _ _ _ h => h) (Or.inl ⟨by rfl, ?_⟩) ?_ ?_
      rotate_left
      · intro w'
        go_simp
        with_reducible rfl
      rotate_left
      · simp only [Act.put, List.setIfInBounds_toArray, List.set_cons_zero, List.set_cons_succ, i64_w, i32_w]
        rfl
      refine take_ (i := 7) (N := some 41) (v := ?_) (a' := ?_) #[true, true, true, true, true, true, true, true, false, false, false, false, false, false, false, false, false, false, false, false, false, false, false, false] rfl rfl (take_ofW HT_.out HW_.out (by kernel_rfl)) (fun _ _ _ h => h) (Or.inl ⟨by rfl, ?_⟩) hHeld ?_ ?_
      rotate_left
      · rintro w' ⟨s0, s1, s2, s3, s4, s5, s6, s7⟩
        go_simp
        with_reducible rfl
      rotate_left
      · simp only [Act.put, List.setIfInBounds_toArray, List.set_cons_zero, List.set_cons_succ, i64_w, i32_w]
        rfl
      refine pure_ (i := 8) (N := some 42) (v := ?_) (a' := ?_) #[true, true, true, true, true, true, true, true, true, false, false, false, false, false, false, false, false, false, false, false, false, false, false, false] rfl rfl (any_of HT_.out (by kernel_rfl)) (fun _ _ _ h => h) (Or.inl ⟨by rfl, ?_⟩) ?_ ?_
      rotate_left
      · intro w'
        go_simp
        with_reducible rfl
      rotate_left
      · simp only [Act.put, List.setIfInBounds_toArray, List.set_cons_zero, List.set_cons_succ, i64_w, i32_w]
        rfl
      refine take_ (i := 9) (N := some 43) (v := ?_) (a' := ?_) #[true, true, true, true, true, true, true, true, true, true, false, false, false, false, false, false, false, false, false, false, false, false, false, false] rfl rfl (take_ofW HT_.out HW_.out (by kernel_rfl)) (fun _ _ _ h => h) (Or.inl ⟨by rfl, ?_⟩) hHeld ?_ ?_
      rotate_left
      · rintro w' ⟨s0, s1, s2, s3, s4, s5, s6, s7⟩
        go_simp
        with_reducible rfl
      rotate_left
      · simp only [Act.put, List.setIfInBounds_toArray, List.set_cons_zero, List.set_cons_succ, i64_w, i32_w]
        rfl
      refine pure_ (i := 10) (N := some 44) (v := ?_) (a' := ?_) #[true, true, true, true, true, true, true, true, true, true, true, false, false, false, false, false, false, false, false, false, false, false, false, false] rfl rfl (any_of HT_.out (by kernel_rfl)) (fun _ _ _ h => h) (Or.inl ⟨by rfl, ?_⟩) ?_ ?_
      rotate_left
      · intro w'
        go_simp
        with_reducible rfl
      rotate_left
      · simp only [Act.put, List.setIfInBounds_toArray, List.set_cons_zero, List.set_cons_succ, i64_w, i32_w]
        rfl
      refine take_ (i := 11) (N := some 45) (v := ?_) (a' := ?_) #[true, true, true, true, true, true, true, true, true, true, true, true, false, false, false, false, false, false, false, false, false, false, false, false] rfl rfl (take_ofW HT_.out HW_.out (by kernel_rfl)) (fun _ _ _ h => h) (Or.inl ⟨by rfl, ?_⟩) hHeld ?_ ?_
      rotate_left
      · rintro w' ⟨s0, s1, s2, s3, s4, s5, s6, s7⟩
        go_simp
        with_reducible rfl
      rotate_left
      · simp only [Act.put, List.setIfInBounds_toArray, List.set_cons_zero, List.set_cons_succ, i64_w, i32_w]
        rfl
      refine pure_ (i := 12) (N := some 46) (v := ?_) (a' := ?_) #[true, true, true, true, true, true, true, true, true, true, true, true, true, false, false, false, false, false, false, false, false, false, false, false] rfl rfl (any_of HT_.out (by kernel_rfl)) (fun _ _ _ h => h) (Or.inl ⟨by rfl, ?_⟩) ?_ ?_
      rotate_left
      · intro w'
        go_simp
        with_reducible rfl
      rotate_left
      · simp only [Act.put, List.setIfInBounds_toArray, List.set_cons_zero, List.set_cons_succ, i64_w, i32_w]
        rfl
      refine take_ (i := 13) (N := some 47) (v := ?_) (a' := ?_) #[true, true, true, true, true, true, true, true, true, true, true, true, true, true, false, false, false, false, false, false, false, false, false, false] rfl rfl (take_ofW HT_.out HW_.out (by kernel_rfl)) (fun _ _ _ h => h) (Or.inl ⟨by rfl, ?_⟩) hHeld ?_ ?_
      rotate_left
      · rintro w' ⟨s0, s1, s2, s3, s4, s5, s6, s7⟩
        go_simp
        with_reducible rfl
      rotate_left
      · simp only [Act.put, List.setIfInBounds_toArray, List.set_cons_zero, List.set_cons_succ, i64_w, i32_w]
        rfl
      refine pure_ (i := 14) (N := some 48) (v := ?_) (a' := ?_) #[true, true, true, true, true, true, true, true, true, true, true, true, true, true, true, false, false, false, false, false, false, false, false, false] rfl rfl (any_of HT_.out (by kernel_rfl)) (fun _ _ _ h => h) (Or.inl ⟨by rfl, ?_⟩) ?_ ?_
      rotate_left
      · intro w'
        go_simp
        with_reducible rfl
      rotate_left
      · simp only [Act.put, List.setIfInBounds_toArray, List.set_cons_zero, List.set_cons_succ, i64_w, i32_w]
        rfl
      refine take_ (i := 15) (N := some 49) (v := ?_) (a' := ?_) #[true, true, true, true, true, true, true, true, true, true, true, true, true, true, true, true, false, false, false, false, false, false, false, false] rfl rfl (take_ofW HT_.out HW_.out (by kernel_rfl)) (fun _ _ _ h => h) (Or.inl ⟨by rfl, ?_⟩) hHeld ?_ ?_
      rotate_left
      · rintro w' ⟨s0, s1, s2, s3, s4, s5, s6, s7⟩
        go_simp
        with_reducible rfl
      rotate_left
      · simp only [Act.put, List.setIfInBounds_toArray, List.set_cons_zero, List.set_cons_succ, i64_w, i32_w]
        rfl
      refine pure_ (i := 16) (N := some 7) (v := ?_) (a' := ?_) #[true, true, true, true, true, true, true, true, true, true, true, true, true, true, true, true, true, false, false, false, false, false, false, false] rfl rfl (any_of HT_.out (by kernel_rfl)) (fun _ _ _ h => h) (Or.inl ⟨by rfl, ?_⟩) ?_ ?_
      rotate_left
      · intro w'
        go_simp
        with_reducible rfl
      rotate_left
      · simp only [Act.put, List.setIfInBounds_toArray, List.set_cons_zero, List.set_cons_succ, i64_w, i32_w]
        rfl
      refine pure_ (i := 17) (N := some 8) (v := ?_) (a' := ?_) #[true, true, true, true, true, true, true, true, true, true, true, true, true, true, true, true, true, true, false, false, false, false, false, false] rfl rfl (any_of HT_.out (by kernel_rfl)) (fun _ _ _ h => h) (Or.inl ⟨by rfl, ?_⟩) ?_ ?_
      rotate_left
      · intro w'
        go_simp
        with_reducible rfl
      rotate_left
      · simp only [Act.put, List.setIfInBounds_toArray, List.set_cons_zero, List.set_cons_succ, i64_w, i32_w]
        rfl
      refine pure_ (i := 18) (N := some 9) (v := ?_) (a' := ?_) #[true, true, true, true, true, true, true, true, true, true, true, true, true, true, true, true, true, true, true, false, false, false, false, false] rfl rfl (any_of HT_.out (by kernel_rfl)) (fun _ _ _ h => h) (Or.inl ⟨by rfl, ?_⟩) ?_ ?_
      rotate_left
      · intro w'
        go_simp
        with_reducible rfl
      rotate_left
      · simp only [Act.put, List.setIfInBounds_toArray, List.set_cons_zero, List.set_cons_succ, i64_w, i32_w]
        rfl
      refine pure_ (i := 19) (N := some 10) (v := ?_) (a' := ?_) #[true, true, true, true, true, true, true, true, true, true, true, true, true, true, true, true, true, true, true, true, false, false, false, false] rfl rfl (any_of HT_.out (by kernel_rfl)) (fun _ _ _ h => h) (Or.inl ⟨by rfl, ?_⟩) ?_ ?_
      rotate_left
      · intro w'
        go_simp
        with_reducible rfl
      rotate_left
      · simp only [Act.put, List.setIfInBounds_toArray, List.set_cons_zero, List.set_cons_succ, i64_w, i32_w]
        rfl
      refine pure_ (i := 20) (N := some 11) (v := ?_) (a' := ?_) #[true, true, true, true, true, true, true, true, true, true, true, true, true, true, true, true, true, true, true, true, true, false, false, false] rfl rfl (any_of HT_.out (by kernel_rfl)) (fun _ _ _ h => h) (Or.inl ⟨by rfl, ?_⟩) ?_ ?_
      rotate_left
      · intro w'
        go_simp
        with_reducible rfl
      rotate_left
      · simp only [Act.put, List.setIfInBounds_toArray, List.set_cons_zero, List.set_cons_succ, i64_w, i32_w]
        rfl
      refine pure_ (i := 21) (N := some 12) (v := ?_) (a' := ?_) #[true, true, true, true, true, true, true, true, true, true, true, true, true, true, true, true, true, true, true, true, true, true, false, false] rfl rfl (any_of HT_.out (by kernel_rfl)) (fun _ _ _ h => h) (Or.inl ⟨by rfl, ?_⟩) ?_ ?_
      rotate_left
      · intro w'
        go_simp
        with_reducible rfl
      rotate_left
      · simp only [Act.put, List.setIfInBounds_toArray, List.set_cons_zero, List.set_cons_succ, i64_w, i32_w]
        rfl
      refine pure_ (i := 22) (N := some 13) (v := ?_) (a' := ?_) #[true, true, true, true, true, true, true, true, true, true, true, true, true, true, true, true, true, true, true, true, true, true, true, false] rfl rfl (any_of HT_.out (by kernel_rfl)) (fun _ _ _ h => h) (Or.inl ⟨by rfl, ?_⟩) ?_ ?_
      rotate_left
      · intro w'
        go_simp
        with_reducible rfl
      rotate_left
      · simp only [Act.put, List.setIfInBounds_toArray, List.set_cons_zero, List.set_cons_succ, i64_w, i32_w]
        rfl
      refine pure_ (i := 23) (N := some 14) (v := ?_) (a' := ?_) #[true, true, true, true, true, true, true, true, true, true, true, true, true, true, true, true, true, true, true, true, true, true, true, true] rfl rfl (any_of HT_.out (by kernel_rfl)) (fun _ _ _ h => h) (Or.inl ⟨by rfl, ?_⟩) ?_ ?_
      rotate_left
      · intro w'
        go_simp
        with_reducible rfl
      rotate_left
      · simp only [Act.put, List.setIfInBounds_toArray, List.set_cons_zero, List.set_cons_succ, i64_w, i32_w]
        rfl
      refine done_ (done_of HT_.out (by kernel_rfl)) ?_
      go_wp2
      clear c0 c1 c2 c3 c4 c5 c6 c7 hHeld
      go_loopw [7, 8, 9, 10, 11, 12, 13, 14, 15] (fun va vb vc vd ve vf vg vh tv wq => ∃ (t : Nat) (v : V8), tv = .int .i64 (t : Int) ∧ t ≤ 64 ∧ v = rnds ws t s ∧ va = .int .u32 (v.a.toNat : Int) ∧ vb = .int .u32 (v.b.toNat : Int) ∧ vc = .int .u32 (v.c.toNat : Int) ∧ vd = .int .u32 (v.d.toNat : Int) ∧ ve = .int .u32 (v.e.toNat : Int) ∧ vf = .int .u32 (v.f.toNat : Int) ∧ vg = .int .u32 (v.g.toNat : Int) ∧ vh = .int .u32 (v.h.toNat : Int) ∧ Mv w8 wq (fun _ => False)) (fun _ _ _ _ _ _ _ _ tv _ => 64 - (intOf tv).toNat)
      case atStart => exact ⟨0, s, rfl, by omega, rfl, rfl, rfl, rfl, rfl, rfl, rfl, rfl, rfl, Mv.drew (Mv.refl w8 _)⟩
      case round =>
        obtain ⟨t, v, rfl, ht, ev, rfl, rfl, rfl, rfl, rfl, rfl, rfl, rfl, hm⟩ := hrel
        have EV := Aside0.mk ev
        have HM9 := Aside0.mk hm
        clear hm ev
        by_cases hk3 : t < 64
        · have o1 : decide ((t : Int) < 64) = true := decide_eq_true (by omega)
          have q1 : ((t : Int) < 64) = True := eq_true (by omega)
          have ck := ((HG.out.below (Mv.toBelow HB4.out HM8.out (fun k hk => by have := hsz.out; omega))).mv HM9.out (fun h => h) (fun h => h)).cube t hk3
          have cw : wr.cell? ⟨Wb, t, none⟩ = some (.int .u32 ((ws.getD t 0).toNat : Int)) := HM9.out.cell (cell_of HW8.out (by
            rw [List.getElem?_map, List.getD_eq_getElem?_getD]
            rw [List.getElem?_eq_getElem (show t < ws.length by rw [hws.out.1]; exact hk3)]
            rfl)) (fun h => h)
          obtain ⟨kk, ekk⟩ : ∃ x, x = KS.getD t 0 := ⟨_, rfl⟩
          obtain ⟨wt, ewt⟩ : ∃ x, x = ws.getD t 0 := ⟨_, rfl⟩
          rw [← ekk] at ck
          rw [← ewt] at cw
          have en := Aside0.mk (show rnds ws (t + 1) s = rnd v kk wt by rw [rnds, EV.out, ekk, ewt])
          clear ekk ewt
          go_wp2
          refine start_ (n := 28) (S := fun w' => w'.cell? ⟨2, t, none⟩ = some (.int .u32 (kk.toNat : Int)) ∧ w'.cell? ⟨Wb, t, none⟩ = some (.int .u32 (wt.toNat : Int))) (ds := []) #[false, false, false, false, false, false, false, false, false, false, false, false, false, false, false, false, false, false, false, false, false, false, false, false, false, false, false, false] (by kernel_rfl) rfl rfl ⟨ck, cw⟩ (fun hHeld => ?_)
          refine with_tabW tab_f113_11 bits_f113_11 (fun HT_ HW_ => ?_)
          refine pure_ (i := 0) (N := some 54) (v := ?_) (a' := ?_) #[true, false, false, false, false, false, false, false, false, false, false, false, false, false, false, false, false, false, false, false, false, false, false, false, false, false, false, false] rfl rfl (any_of HT_.out (by kernel_rfl)) (fun _ _ _ h => h) (Or.inl ⟨by rfl, ?_⟩) ?_ ?_
          rotate_left
          · intro w'
            go_simp
            with_reducible rfl
          rotate_left
          · simp only [Act.put, List.setIfInBounds_toArray, List.set_cons_zero, List.set_cons_succ, i64_w, i32_w]
            rfl
          refine pure_ (i := 1) (N := some 55) (v := ?_) (a' := ?_) #[true, true, false, false, false, false, false, false, false, false, false, false, false, false, false, false, false, false, false, false, false, false, false, false, false, false, false, false] rfl rfl (any_of HT_.out (by kernel_rfl)) (fun _ _ _ h => h) (Or.inl ⟨by rfl, ?_⟩) ?_ ?_
          rotate_left
          · intro w'
            go_simp
            with_reducible rfl
          rotate_left
          · simp only [Act.put, List.setIfInBounds_toArray, List.set_cons_zero, List.set_cons_succ, i64_w, i32_w]
            rfl
          refine pure_ (i := 3) (N := some 57) (v := ?_) (a' := ?_) #[true, true, false, true, false, false, false, false, false, false, false, false, false, false, false, false, false, false, false, false, false, false, false, false, false, false, false, false] rfl rfl (any_of HT_.out (by kernel_rfl)) (fun _ _ _ h => h) (Or.inl ⟨by rfl, ?_⟩) ?_ ?_
          rotate_left
          · intro w'
            go_simp
            with_reducible rfl
          rotate_left
          · simp only [Act.put, List.setIfInBounds_toArray, List.set_cons_zero, List.set_cons_succ, i64_w, i32_w]
            rfl
          refine pure_ (i := 6) (N := some 60) (v := ?_) (a' := ?_) #[true, true, false, true, false, false, true, false, false, false, false, false, false, false, false, false, false, false, false, false, false, false, false, false, false, false, false, false] rfl rfl (any_of HT_.out (by kernel_rfl)) (fun _ _ _ h => h) (Or.inl ⟨by rfl, ?_⟩) ?_ ?_
          rotate_left
          · intro w'
            go_simp
            with_reducible rfl
          rotate_left
          · simp only [Act.put, List.setIfInBounds_toArray, List.set_cons_zero, List.set_cons_succ, i64_w, i32_w]
            rfl
          refine pure_ (i := 10) (N := some 64) (v := ?_) (a' := ?_) #[true, true, false, true, false, false, true, false, false, false, true, false, false, false, false, false, false, false, false, false, false, false, false, false, false, false, false, false] rfl rfl (any_of HT_.out (by kernel_rfl)) (fun _ _ _ h => h) (Or.inl ⟨by rfl, ?_⟩) ?_ ?_
          rotate_left
          · intro w'
            go_simp
            with_reducible rfl
          rotate_left
          · simp only [Act.put, List.setIfInBounds_toArray, List.set_cons_zero, List.set_cons_succ, i64_w, i32_w]
            rfl
          refine pure_ (i := 11) (N := some 65) (v := ?_) (a' := ?_) #[true, true, false, true, false, false, true, false, false, false, true, true, false, false, false, false, false, false, false, false, false, false, false, false, false, false, false, false] rfl rfl (any_of HT_.out (by kernel_rfl)) (fun _ _ _ h => h) (Or.inl ⟨by rfl, ?_⟩) ?_ ?_
          rotate_left
          · intro w'
            go_simp
            with_reducible rfl
          rotate_left
          · simp only [Act.put, List.setIfInBounds_toArray, List.set_cons_zero, List.set_cons_succ, i64_w, i32_w]
            rfl
          refine pure_ (i := 12) (N := some 66) (v := ?_) (a' := ?_) #[true, true, false, true, false, false, true, false, false, false, true, true, true, false, false, false, false, false, false, false, false, false, false, false, false, false, false, false] rfl rfl (any_of HT_.out (by kernel_rfl)) (fun _ _ _ h => h) (Or.inl ⟨by rfl, ?_⟩) ?_ ?_
          rotate_left
          · intro w'
            go_simp
            with_reducible rfl
          rotate_left
          · simp only [Act.put, List.setIfInBounds_toArray, List.set_cons_zero, List.set_cons_succ, i64_w, i32_w]
            rfl
          refine pure_ (i := 13) (N := some 67) (v := ?_) (a' := ?_) #[true, true, false, true, false, false, true, false, false, false, true, true, true, true, false, false, false, false, false, false, false, false, false, false, false, false, false, false] rfl rfl (any_of HT_.out (by kernel_rfl)) (fun _ _ _ h => h) (Or.inl ⟨by rfl, ?_⟩) ?_ ?_
          rotate_left
          · intro w'
            go_simp
            with_reducible rfl
          rotate_left
          · simp only [Act.put, List.setIfInBounds_toArray, List.set_cons_zero, List.set_cons_succ, i64_w, i32_w]
            rfl
          refine pure_ (i := 14) (N := some 68) (v := ?_) (a' := ?_) #[true, true, false, true, false, false, true, false, false, false, true, true, true, true, true, false, false, false, false, false, false, false, false, false, false, false, false, false] rfl rfl (any_of HT_.out (by kernel_rfl)) (fun _ _ _ h => h) (Or.inl ⟨by rfl, ?_⟩) ?_ ?_
          rotate_left
          · intro w'
            go_simp
            with_reducible rfl
          rotate_left
          · simp only [Act.put, List.setIfInBounds_toArray, List.set_cons_zero, List.set_cons_succ, i64_w, i32_w]
            rfl
          refine pure_ (i := 15) (N := some 69) (v := ?_) (a' := ?_) #[true, true, false, true, false, false, true, false, false, false, true, true, true, true, true, true, false, false, false, false, false, false, false, false, false, false, false, false] rfl rfl (any_of HT_.out (by kernel_rfl)) (fun _ _ _ h => h) (Or.inl ⟨by rfl, ?_⟩) ?_ ?_
          rotate_left
          · intro w'
            go_simp
            with_reducible rfl
          rotate_left
          · simp only [Act.put, List.setIfInBounds_toArray, List.set_cons_zero, List.set_cons_succ, i64_w, i32_w]
            rfl
          refine pure_ (i := 16) (N := some 70) (v := ?_) (a' := ?_) #[true, true, false, true, false, false, true, false, false, false, true, true, true, true, true, true, true, false, false, false, false, false, false, false, false, false, false, false] rfl rfl (any_of HT_.out (by kernel_rfl)) (fun _ _ _ h => h) (Or.inl ⟨by rfl, ?_⟩) ?_ ?_
          rotate_left
          · intro w'
            go_simp
            with_reducible rfl
          rotate_left
          · simp only [Act.put, List.setIfInBounds_toArray, List.set_cons_zero, List.set_cons_succ, i64_w, i32_w]
            rfl
          refine pure_ (i := 17) (N := some 71) (v := ?_) (a' := ?_) #[true, true, false, true, false, false, true, false, false, false, true, true, true, true, true, true, true, true, false, false, false, false, false, false, false, false, false, false] rfl rfl (any_of HT_.out (by kernel_rfl)) (fun _ _ _ h => h) (Or.inl ⟨by rfl, ?_⟩) ?_ ?_
          rotate_left
          · intro w'
            go_simp
            with_reducible rfl
          rotate_left
          · simp only [Act.put, List.setIfInBounds_toArray, List.set_cons_zero, List.set_cons_succ, i64_w, i32_w]
            rfl
          refine pure_ (i := 19) (N := some 73) (v := ?_) (a' := ?_) #[true, true, false, true, false, false, true, false, false, false, true, true, true, true, true, true, true, true, false, true, false, false, false, false, false, false, false, false] rfl rfl (any_of HT_.out (by kernel_rfl)) (fun _ _ _ h => h) (Or.inl ⟨by rfl, ?_⟩) ?_ ?_
          rotate_left
          · intro w'
            go_simp
            with_reducible rfl
          rotate_left
          · simp only [Act.put, List.setIfInBounds_toArray, List.set_cons_zero, List.set_cons_succ, i64_w, i32_w]
            rfl
          refine pure_ (i := 20) (N := some 74) (v := ?_) (a' := ?_) #[true, true, false, true, false, false, true, false, false, false, true, true, true, true, true, true, true, true, false, true, true, false, false, false, false, false, false, false] rfl rfl (any_of HT_.out (by kernel_rfl)) (fun _ _ _ h => h) (Or.inl ⟨by rfl, ?_⟩) ?_ ?_
          rotate_left
          · intro w'
            go_simp
            with_reducible rfl
          rotate_left
          · simp only [Act.put, List.setIfInBounds_toArray, List.set_cons_zero, List.set_cons_succ, i64_w, i32_w]
            rfl
          refine take_ (i := 21) (N := some 75) (v := ?_) (a' := ?_) #[true, true, false, true, false, false, true, false, false, false, true, true, true, true, true, true, true, true, false, true, true, true, false, false, false, false, false, false] rfl rfl (take_ofW HT_.out HW_.out (by kernel_rfl)) (fun _ _ _ h => h) (Or.inl ⟨by rfl, ?_⟩) hHeld ?_ ?_
          rotate_left
          · rintro w' ⟨s0, s1⟩
            go_simp
            with_reducible rfl
          rotate_left
          · simp only [Act.put, List.setIfInBounds_toArray, List.set_cons_zero, List.set_cons_succ, i64_w, i32_w]
            rfl
          refine pure_ (i := 23) (N := some 77) (v := ?_) (a' := ?_) #[true, true, false, true, false, false, true, false, false, false, true, true, true, true, true, true, true, true, false, true, true, true, false, true, false, false, false, false] rfl rfl (any_of HT_.out (by kernel_rfl)) (fun _ _ _ h => h) (Or.inl ⟨by rfl, ?_⟩) ?_ ?_
          rotate_left
          · intro w'
            go_simp
            with_reducible rfl
          rotate_left
          · simp only [Act.put, List.setIfInBounds_toArray, List.set_cons_zero, List.set_cons_succ, i64_w, i32_w]
            rfl
          refine pure_ (i := 24) (N := some 78) (v := ?_) (a' := ?_) #[true, true, false, true, false, false, true, false, false, false, true, true, true, true, true, true, true, true, false, true, true, true, false, true, true, false, false, false] rfl rfl (any_of HT_.out (by kernel_rfl)) (fun _ _ _ h => h) (Or.inl ⟨by rfl, ?_⟩) ?_ ?_
          rotate_left
          · intro w'
            go_simp
            with_reducible rfl
          rotate_left
          · simp only [Act.put, List.setIfInBounds_toArray, List.set_cons_zero, List.set_cons_succ, i64_w, i32_w]
            rfl
          refine take_ (i := 25) (N := some 79) (v := ?_) (a' := ?_) #[true, true, false, true, false, false, true, false, false, false, true, true, true, true, true, true, true, true, false, true, true, true, false, true, true, true, false, false] rfl rfl (take_ofW HT_.out HW_.out (by kernel_rfl)) (fun _ _ _ h => h) (Or.inl ⟨by rfl, ?_⟩) hHeld ?_ ?_
          rotate_left
          · rintro w' ⟨s0, s1⟩
            go_simp
            with_reducible rfl
          rotate_left
          · simp only [Act.put, List.setIfInBounds_toArray, List.set_cons_zero, List.set_cons_succ, i64_w, i32_w]
            rfl
          refine one_ (i := 2) (N := some 56) #[true, true, true, true, false, false, true, false, false, false, true, true, true, true, true, true, true, true, false, true, true, true, false, true, true, true, false, false] rfl rfl (one_of HT_.out (by kernel_rfl)) (by decide) (fun K hK => ?_)
          refine goes_ Tryz.func123 (by kernel_rfl) rfl #[.int .u32 (v.e.toNat : Int), .int .i64 6] (by rfl) rfl rfl (by (try simp only [List.map_toArray, List.map_cons, List.map_nil]); first | done | rfl) ?_
          with_reducible refine (turn_calls v.e 6 6 rfl (by decide) (by decide) _).mono ?_
          rintro e w6 ⟨rfl, ⟨nd, rfl⟩⟩
          refine ⟨_, rfl, ?_⟩
          refine hK.out _ _ hHeld (fun hHeld => ?_)
          clear hK K
          refine norm_ (a' := ?_) ?_ ?_
          rotate_left
          · show Act.put _ (some 56) _ = _
            simp only [Act.put, List.setIfInBounds_toArray, List.set_cons_zero, List.set_cons_succ, i64_w, i32_w]
            rfl
          refine one_ (i := 4) (N := some 58) #[true, true, true, true, true, false, true, false, false, false, true, true, true, true, true, true, true, true, false, true, true, true, false, true, true, true, false, false] rfl rfl (one_of HT_.out (by kernel_rfl)) (by decide) (fun K hK => ?_)
          refine goes_ Tryz.func123 (by kernel_rfl) rfl #[.int .u32 (v.e.toNat : Int), .int .i64 11] (by rfl) rfl rfl (by (try simp only [List.map_toArray, List.map_cons, List.map_nil]); first | done | rfl) ?_
          with_reducible refine (turn_calls v.e 11 11 rfl (by decide) (by decide) _).mono ?_
          rintro e w6 ⟨rfl, ⟨nd, rfl⟩⟩
          refine ⟨_, rfl, ?_⟩
          refine hK.out _ _ hHeld (fun hHeld => ?_)
          clear hK K
          refine norm_ (a' := ?_) ?_ ?_
          rotate_left
          · show Act.put _ (some 58) _ = _
            simp only [Act.put, List.setIfInBounds_toArray, List.set_cons_zero, List.set_cons_succ, i64_w, i32_w]
            rfl
          refine pure_ (i := 5) (N := some 59) (v := ?_) (a' := ?_) #[true, true, true, true, true, true, true, false, false, false, true, true, true, true, true, true, true, true, false, true, true, true, false, true, true, true, false, false] rfl rfl (any_of HT_.out (by kernel_rfl)) (fun _ _ _ h => h) (Or.inl ⟨by rfl, ?_⟩) ?_ ?_
          rotate_left
          · intro w'
            go_simp
            with_reducible rfl
          rotate_left
          · simp only [Act.put, List.setIfInBounds_toArray, List.set_cons_zero, List.set_cons_succ, i64_w, i32_w]
            rfl
          refine one_ (i := 7) (N := some 61) #[true, true, true, true, true, true, true, true, false, false, true, true, true, true, true, true, true, true, false, true, true, true, false, true, true, true, false, false] rfl rfl (one_of HT_.out (by kernel_rfl)) (by decide) (fun K hK => ?_)
          refine goes_ Tryz.func123 (by kernel_rfl) rfl #[.int .u32 (v.e.toNat : Int), .int .i64 25] (by rfl) rfl rfl (by (try simp only [List.map_toArray, List.map_cons, List.map_nil]); first | done | rfl) ?_
          with_reducible refine (turn_calls v.e 25 25 rfl (by decide) (by decide) _).mono ?_
          rintro e w6 ⟨rfl, ⟨nd, rfl⟩⟩
          refine ⟨_, rfl, ?_⟩
          refine hK.out _ _ hHeld (fun hHeld => ?_)
          clear hK K
          refine norm_ (a' := ?_) ?_ ?_
          rotate_left
          · show Act.put _ (some 61) _ = _
            simp only [Act.put, List.setIfInBounds_toArray, List.set_cons_zero, List.set_cons_succ, i64_w, i32_w]
            rfl
          refine pure_ (i := 8) (N := some 62) (v := ?_) (a' := ?_) #[true, true, true, true, true, true, true, true, true, false, true, true, true, true, true, true, true, true, false, true, true, true, false, true, true, true, false, false] rfl rfl (any_of HT_.out (by kernel_rfl)) (fun _ _ _ h => h) (Or.inl ⟨by rfl, ?_⟩) ?_ ?_
          rotate_left
          · intro w'
            go_simp
            with_reducible rfl
          rotate_left
          · simp only [Act.put, List.setIfInBounds_toArray, List.set_cons_zero, List.set_cons_succ, i64_w, i32_w]
            rfl
          refine pure_ (i := 9) (N := some 63) (v := ?_) (a' := ?_) #[true, true, true, true, true, true, true, true, true, true, true, true, true, true, true, true, true, true, false, true, true, true, false, true, true, true, false, false] rfl rfl (any_of HT_.out (by kernel_rfl)) (fun _ _ _ h => h) (Or.inl ⟨by rfl, ?_⟩) ?_ ?_
          rotate_left
          · intro w'
            go_simp
            with_reducible rfl
          rotate_left
          · simp only [Act.put, List.setIfInBounds_toArray, List.set_cons_zero, List.set_cons_succ, i64_w, i32_w]
            rfl
          refine pure_ (i := 18) (N := some 72) (v := ?_) (a' := ?_) #[true, true, true, true, true, true, true, true, true, true, true, true, true, true, true, true, true, true, true, true, true, true, false, true, true, true, false, false] rfl rfl (any_of HT_.out (by kernel_rfl)) (fun _ _ _ h => h) (Or.inl ⟨by rfl, ?_⟩) ?_ ?_
          rotate_left
          · intro w'
            go_simp
            with_reducible rfl
          rotate_left
          · simp only [Act.put, List.setIfInBounds_toArray, List.set_cons_zero, List.set_cons_succ, i64_w, i32_w]
            rfl
          refine pure_ (i := 22) (N := some 76) (v := ?_) (a' := ?_) #[true, true, true, true, true, true, true, true, true, true, true, true, true, true, true, true, true, true, true, true, true, true, true, true, true, true, false, false] rfl rfl (any_of HT_.out (by kernel_rfl)) (fun _ _ _ h => h) (Or.inl ⟨by rfl, ?_⟩) ?_ ?_
          rotate_left
          · intro w'
            go_simp
            with_reducible rfl
          rotate_left
          · simp only [Act.put, List.setIfInBounds_toArray, List.set_cons_zero, List.set_cons_succ, i64_w, i32_w]
            rfl
          refine pure_ (i := 26) (N := some 80) (v := ?_) (a' := ?_) #[true, true, true, true, true, true, true, true, true, true, true, true, true, true, true, true, true, true, true, true, true, true, true, true, true, true, true, false] rfl rfl (any_of HT_.out (by kernel_rfl)) (fun _ _ _ h => h) (Or.inl ⟨by rfl, ?_⟩) ?_ ?_
          rotate_left
          · intro w'
            go_simp
            with_reducible rfl
          rotate_left
          · simp only [Act.put, List.setIfInBounds_toArray, List.set_cons_zero, List.set_cons_succ, i64_w, i32_w]
            rfl
          refine pure_ (i := 27) (N := some 16) (v := ?_) (a' := ?_) #[true, true, true, true, true, true, true, true, true, true, true, true, true, true, true, true, true, true, true, true, true, true, true, true, true, true, true, true] rfl rfl (any_of HT_.out (by kernel_rfl)) (fun _ _ _ h => h) (Or.inl ⟨by rfl, ?_⟩) ?_ ?_
          rotate_left
          · intro w'
            go_simp
            with_reducible rfl
          rotate_left
          · simp only [Act.put, List.setIfInBounds_toArray, List.set_cons_zero, List.set_cons_succ, i64_w, i32_w]
            rfl
          refine done_ (done_of HT_.out (by kernel_rfl)) ?_
          go_wp2_with (first | (go_at_call 123; (with_reducible refine (turn_calls (v.a) 2 2 rfl (by decide) (by decide) _).mono ?_); rintro e w' ⟨rfl, ⟨nd, rfl⟩⟩) | (go_at_call 123; (with_reducible refine (turn_calls (v.a) 13 13 rfl (by decide) (by decide) _).mono ?_); rintro e w' ⟨rfl, ⟨nd, rfl⟩⟩) | (go_at_call 123; (with_reducible refine (turn_calls (v.a) 22 22 rfl (by decide) (by decide) _).mono ?_); rintro e w' ⟨rfl, ⟨nd, rfl⟩⟩))
          rw [tx_nest, ty_bits, m_add, m_add]
          refine ⟨⟨t + 1, rnd v kk wt, rfl, by omega, en.out.symm, rfl, rfl, rfl, rfl, rfl, rfl, rfl, rfl, Mv.drewN HM9.out _⟩, by simp only [intOf]; omega⟩
        · have o1 : decide ((t : Int) < 64) = false := decide_eq_false (by omega)
          have EV := Aside0.mk (show v = rnds ws 64 s from (show t = 64 by omega) ▸ EV.out)
          clear ht hk3
          rename World => w9
          have hS9 := Aside0.mk (show w9.heap[S]? = some (.cells ((addN s v 0).l.map vW).toArray 116 (0, 0)) from HM9.out.blk HS8.out (fun h => h))
          have HM49 := Aside0.mk (show Mv w4 w9 (fun k => k = S) from HM8.out.then HM9.out (fun _ h => h.elim))
          go_wp2_with (first
            | (refine wpList_alloc_v rfl 116 rfl ((V8.mk 0 0 0 0 0 0 0 0).l.map vW) (by kernel_rfl) ?_; intro N8 w10 eN hN10 hb10 hz10)
            | (refine wpList_store_agg rfl 116 _ _ rfl N8 0 rfl (v.l.map vW) _ (by rfl) _ hN10.out (by exact Nat.le_refl 8) (fun v hv => one_W hv) (by kernel_rfl) ?_; intro w11 hN11 hm11 hz11; rw [splice_all ((V8.mk 0 0 0 0 0 0 0 0).l.map vW) (v.l.map vW) rfl] at hN11))
          have hs11 := Aside0.mk (show S < N8 ∧ w4.heap.size ≤ N8 by have h1 := eN.out; have h2 := HM49.out.size; have h3 := hsz.out; omega)
          have HM11 := Aside0.mk (show Mv w4 w11 (fun k => k = S) from (HM49.out.below hb10.out).then hm11.out (fun j hj => Or.inr (by subst hj; exact hs11.out.2)))
          have HS11 := Aside0.mk (show w11.heap[S]? = _ from hm11.out.blk ((hb10.out.block S (blk_lt hS9.out)).trans hS9.out) (by have := hs11.out; omega))
          have HN11 := Aside0.mk hN11.out
          clear eN hN10 hb10 hz10 hN11 hm11 hz11 HM49 hS9 HM9 HM8 HS8 HW8
          go_loopw [19] (fun iv wq => ∃ j : Nat, iv = .int .i64 (j : Int) ∧ j ≤ 8 ∧ wq.heap[S]? = some (.cells ((addN s v j).l.map vW).toArray 116 (0, 0)) ∧ wq.heap[N8]? = some (.cells (v.l.map vW).toArray 116 (0, 0)) ∧ Mv w4 wq (fun k => k = S)) (fun iv _ => 8 - (intOf iv).toNat)
          case atStart => exact ⟨0, rfl, by omega, HS11.out, HN11.out, HM11.out⟩
          case round =>
            obtain ⟨j, rfl, hj, hS, hN, hm⟩ := hrel
            have HSj := Aside0.mk hS
            have HNj := Aside0.mk hN
            have HMj := Aside0.mk hm
            clear hS hN hm
            by_cases hk4 : j < 8
            · have o1 : decide ((j : Int) < 8) = true := decide_eq_true (by omega)
              have a1 : ((j : Int) < 8) = True := eq_true (by omega)
              obtain ⟨x, ex⟩ : ∃ x, x = s.l.getD j 0 := ⟨_, rfl⟩
              obtain ⟨q, eq_⟩ : ∃ q, q = v.l.getD j 0 := ⟨_, rfl⟩
              have c0 : wr.cell? ⟨S, j, none⟩ = some (.int .u32 (x.toNat : Int)) := by rw [ex, ← addN_at s v j hk4]; exact cell_of HSj.out (V8_at _ j hk4)
              have c1 : wr.cell? ⟨N8, j, none⟩ = some (.int .u32 (q.toNat : Int)) := by rw [eq_]; exact cell_of HNj.out (V8_at v j hk4)
              have f0 := Wd_thaw HSj.out j
              have hset := Aside0.mk (show ((addN s v j).l.map vW).set j (vW (x + q)) = (addN s v (j + 1)).l.map vW by rw [ex, eq_]; exact addN_setW s v j hk4)
              clear ex eq_
              go_wp2
              refine start_ (n := 10) (S := fun w' => w'.cell? ⟨S, j, none⟩ = some (.int .u32 (x.toNat : Int)) ∧ w'.cell? ⟨N8, j, none⟩ = some (.int .u32 (q.toNat : Int))) (ds := [9]) #[false, false, false, false, false, false, false, false, false, false] (by kernel_rfl) rfl rfl ⟨c0, c1⟩ (fun hHeld => ?_)
              refine with_tabW tab_f113_18 bits_f113_18 (fun HT_ HW_ => ?_)
              refine pure_ (i := 0) (N := some 126) (v := ?_) (a' := ?_) #[true, false, false, false, false, false, false, false, false, false] rfl rfl (any_of HT_.out (by kernel_rfl)) (fun _ _ _ h => h) (Or.inl ⟨by rfl, ?_⟩) ?_ ?_
              rotate_left
              · intro w'
                go_simp
                with_reducible rfl
              rotate_left
              · simp only [Act.put, List.setIfInBounds_toArray, List.set_cons_zero, List.set_cons_succ, i64_w, i32_w]
                rfl
              refine pure_ (i := 1) (N := some 127) (v := ?_) (a' := ?_) #[true, true, false, false, false, false, false, false, false, false] rfl rfl (any_of HT_.out (by kernel_rfl)) (fun _ _ _ h => h) (Or.inl ⟨by rfl, ?_⟩) ?_ ?_
              rotate_left
              · intro w'
                go_simp
                with_reducible rfl
              rotate_left
              · simp only [Act.put, List.setIfInBounds_toArray, List.set_cons_zero, List.set_cons_succ, i64_w, i32_w]
                rfl
              refine pure_ (i := 2) (N := some 128) (v := ?_) (a' := ?_) #[true, true, true, false, false, false, false, false, false, false] rfl rfl (any_of HT_.out (by kernel_rfl)) (fun _ _ _ h => h) (Or.inl ⟨by rfl, ?_⟩) ?_ ?_
              rotate_left
              · intro w'
                go_simp
                with_reducible rfl
              rotate_left
              · simp only [Act.put, List.setIfInBounds_toArray, List.set_cons_zero, List.set_cons_succ, i64_w, i32_w]
                rfl
              refine take_ (i := 3) (N := some 129) (v := ?_) (a' := ?_) #[true, true, true, true, false, false, false, false, false, false] rfl rfl (take_ofW HT_.out HW_.out (by kernel_rfl)) (fun _ _ _ h => h) (Or.inl ⟨by rfl, ?_⟩) hHeld ?_ ?_
              rotate_left
              · rintro w' ⟨s0, s1⟩
                go_simp
                with_reducible rfl
              rotate_left
              · simp only [Act.put, List.setIfInBounds_toArray, List.set_cons_zero, List.set_cons_succ, i64_w, i32_w]
                rfl
              refine pure_ (i := 4) (N := some 130) (v := ?_) (a' := ?_) #[true, true, true, true, true, false, false, false, false, false] rfl rfl (any_of HT_.out (by kernel_rfl)) (fun _ _ _ h => h) (Or.inl ⟨by rfl, ?_⟩) ?_ ?_
              rotate_left
              · intro w'
                go_simp
                with_reducible rfl
              rotate_left
              · simp only [Act.put, List.setIfInBounds_toArray, List.set_cons_zero, List.set_cons_succ, i64_w, i32_w]
                rfl
              refine pure_ (i := 5) (N := some 131) (v := ?_) (a' := ?_) #[true, true, true, true, true, true, false, false, false, false] rfl rfl (any_of HT_.out (by kernel_rfl)) (fun _ _ _ h => h) (Or.inl ⟨by rfl, ?_⟩) ?_ ?_
              rotate_left
              · intro w'
                go_simp
                with_reducible rfl
              rotate_left
              · simp only [Act.put, List.setIfInBounds_toArray, List.set_cons_zero, List.set_cons_succ, i64_w, i32_w]
                rfl
              refine take_ (i := 6) (N := some 132) (v := ?_) (a' := ?_) #[true, true, true, true, true, true, true, false, false, false] rfl rfl (take_ofW HT_.out HW_.out (by kernel_rfl)) (fun _ _ _ h => h) (Or.inl ⟨by rfl, ?_⟩) hHeld ?_ ?_
              rotate_left
              · rintro w' ⟨s0, s1⟩
                go_simp
                with_reducible rfl
              rotate_left
              · simp only [Act.put, List.setIfInBounds_toArray, List.set_cons_zero, List.set_cons_succ, i64_w, i32_w]
                rfl
              refine pure_ (i := 7) (N := some 133) (v := ?_) (a' := ?_) #[true, true, true, true, true, true, true, true, false, false] rfl rfl (any_of HT_.out (by kernel_rfl)) (fun _ _ _ h => h) (Or.inl ⟨by rfl, ?_⟩) ?_ ?_
              rotate_left
              · intro w'
                go_simp
                with_reducible rfl
              rotate_left
              · simp only [Act.put, List.setIfInBounds_toArray, List.set_cons_zero, List.set_cons_succ, i64_w, i32_w]
                rfl
              refine pure_ (i := 8) (N := some 134) (v := ?_) (a' := ?_) #[true, true, true, true, true, true, true, true, true, false] rfl rfl (any_of HT_.out (by kernel_rfl)) (fun _ _ _ h => h) (Or.inl ⟨by rfl, ?_⟩) ?_ ?_
              rotate_left
              · intro w'
                go_simp
                with_reducible rfl
              rotate_left
              · simp only [Act.put, List.setIfInBounds_toArray, List.set_cons_zero, List.set_cons_succ, i64_w, i32_w]
                rfl
              refine last_ (i := 9) (N := none) #[true, true, true, true, true, true, true, true, true, true] rfl rfl (one_of HT_.out (by kernel_rfl)) (by decide) (fun K hK => ?_)
              refine unit_ (w' := ?_) (by rfl) rfl ?hrun ?_
              case hrun => go_simp; rfl
              refine hK.out _ _ ?_
              clear hK K
              refine norm_ (a' := ?_) ?_ ?_
              rotate_left
              · show Act.put _ (none) _ = _
                simp only [Act.put, List.setIfInBounds_toArray, List.set_cons_zero, List.set_cons_succ, i64_w, i32_w]
                rfl
              refine done_ (done_of HT_.out (by kernel_rfl)) ?_
              go_wp2
              rw [m_add]
              refine ⟨⟨j + 1, rfl, by omega, ?_, (mv_set wr S j _).blk HNj.out (by have := hs11.out; omega), (HMj.out.set j _ (Or.inl rfl)).drew⟩, by simp only [intOf]; omega⟩
              rw [← hset.out]
              exact set_of HSj.out j (vW (x + q))
            · have o1 : decide ((j : Int) < 8) = false := decide_eq_false (by omega)
              have HSj := Aside0.mk (show wr.heap[S]? = some (.cells ((dg (k + 1) F).l.map vW).toArray 116 (0, 0)) from by
                have := HSj.out
                rw [show j = 8 by omega, show addN s v 8 = dg (k + 1) F by rw [EDG.out.1, ← EV.out]; rfl] at this
                exact this)
              have ZP := Aside0.mk (show wrap64 ((p : Int) + 64) = ((p + 64 : Nat) : Int) by have := HF.out; have := EDG.out; unfold wrap64; omega)
              clear hk4 hj
              go_wp2
              rw [ZP.out]
              exact ⟨⟨p + 64, k + 1, rfl, EDG.out.2.1, by omega, HSj.out, HMj.out⟩, by simp only [intOf]; have := EDG.out.2.2; omega⟩
    · have o1 : decide ((p : Int) < (n : Int)) = false := decide_eq_false (by have := HF.out; omega)
      have o2 : decide (p < n) = false := decide_eq_false (by have := HF.out; omega)
      obtain ⟨s, es⟩ : ∃ s, s = dg kn F := ⟨_, rfl⟩
      have HS := Aside0.mk (show wr.heap[S]? = some (.cells (s.l.map vW).toArray 116 (0, 0)) from by
        have := HS.out
        rw [show k = kn by omega, ← es] at this
        exact this)
      have ESH := Aside0.mk (show outV s = sha l by
        rw [es, HF.out.1]
        unfold sha
        rw [show (full l).length / 64 = kn by rw [← HF.out.1, HF.out.2.1, HF.out.2.2.1]; omega])
      have HR := Aside0.mk (show wr.heap[r]? = _ from HV.out.blk HR4.out (by have := hsz.out; omega))
      clear es ep hk2 hk HROW
      rename World => w5
      go_wp2_with (refine wpList_alloc_v rfl 77 rfl (List.replicate 32 (vB 0)) (by kernel_rfl) ?_; intro O w6 eO hO6 hb6 hz6)
      have hs6 := Aside0.mk (show S < O ∧ r < O ∧ w.heap.size ≤ O by have h1 := eO.out; have h2 := HV.out.size; have h3 := hsz.out; omega)
      have HB6 := Aside0.mk (show Below w.heap.size w w6 from HB.out.trans (hb6.out.mono HB.out.size))
      have HS6 := Aside0.mk (show w6.heap[S]? = _ from (hb6.out.block S (blk_lt HS.out)).trans HS.out)
      have HR6 := Aside0.mk (show w6.heap[r]? = _ from (hb6.out.block r (blk_lt HR.out)).trans HR.out)
      have HO6 := Aside0.mk (show w6.heap[O]? = some (.cells (Fb ((outV s).take 0) 32).toArray 77 (0, 0)) from hO6.out)
      clear eO hO6 hb6 hz6 HS HR HV HB HB4 HR4 HR4b HS4
      go_loopw [21] (fun iv wq => ∃ j : Nat, iv = .int .i64 (j : Int) ∧ j ≤ 32 ∧ wq.heap[O]? = some (.cells (Fb ((outV s).take j) 32).toArray 77 (0, 0)) ∧ Mv w6 wq (fun k => k = O)) (fun iv _ => 32 - (intOf iv).toNat)
      case atStart => exact ⟨0, rfl, by omega, HO6.out, Mv.refl _ _⟩
      case round =>
        obtain ⟨j, rfl, hj, hO, hm⟩ := hrel
        have HO := Aside0.mk hO
        have HM6 := Aside0.mk hm
        clear hO hm HO6
        by_cases hk2 : j < 32
        · have o1 : decide ((j : Int) < 32) = true := decide_eq_true (by omega)
          have hl : ((outV s).take j).length = j := by rw [List.length_take]; show min j 32 = _; omega
          obtain ⟨q, eq_⟩ : ∃ q, q = j / 4 := ⟨_, rfl⟩
          obtain ⟨m4, em⟩ : ∃ m4, m4 = j % 4 := ⟨_, rfl⟩
          obtain ⟨x, ex⟩ : ∃ x, x = s.l.getD q 0 := ⟨_, rfl⟩
          have hx : (s.l.map vW)[q]? = some (.int .u32 (x.toNat : Int)) := by rw [ex]; exact V8_at s q (by omega)
          have c0 : wr.cell? ⟨S, q, none⟩ = some (.int .u32 (x.toNat : Int)) := HM6.out.cell (cell_of HS6.out hx) (by have := hs6.out; simp only; omega)
          have q1 : ((q : Int) < 8) = True := eq_true (by omega)
          have q2 : ((j : Int) < 32) = True := eq_true (by omega)
          have h4 : m4 < 4 := by omega
          have hd : Int.tdiv (j : Int) 4 = (q : Int) := by rw [eq_]; rfl
          have ht : Int.tmod (j : Int) 4 = (m4 : Int) := by rw [em]; rfl
          obtain ⟨x0, d0⟩ := Fb_cell HO.out j hk2 (by omega)
          have d1 := Wd_thaw HO.out j
          have EX := Aside0.mk (show (outV s).take (j + 1) = (outV s).take j ++ [UInt8.ofNat (x.toNat >>> (24 - 8 * m4))] by rw [outV_get s j hk2, ex, eq_, em])
          have zq : wrap64 (q : Int) = (q : Int) := by unfold wrap64; omega
          have zm : wrap64 (m4 : Int) = (m4 : Int) := by clear zq; unfold wrap64; omega
          clear ex eq_ em
          go_wp2
          clear zq zm hd ht
          rw [byte_shr]
          refine ⟨⟨j + 1, rfl, by omega, ?_, HM6.out.set j _ (Or.inl rfl)⟩, by simp only [intOf]; omega⟩
          rw [EX.out, ← Fb_set _ 32 _ j hl hk2]
          exact set_of HO.out j _
        · have o1 : decide ((j : Int) < 32) = false := decide_eq_false (by omega)
          have HO := Aside0.mk (show wr.heap[O]? = some (.cells ((outV s).map vB).toArray 77 (0, 0)) from by
            have e : j = 32 := by omega
            have := HO.out
            rw [e] at this
            exact this)
          have HR := Aside0.mk (show wr.heap[r]? = _ from HM6.out.blk HR6.out (by have := hs6.out; omega))
          clear hk2 hj
          rename World => w11
          go_wp2_with (first
            | (refine wpList_load_agg rfl 77 _ rfl O 0 rfl ((outV s).map vB) (load_all HO.out) _ Tryz.underlying77 rfl (by rfl) ?_)
            | (refine wpList_store_agg rfl 77 _ _ rfl r 0 rfl ((outV s).map vB) _ rfl _ HR.out (by exact Nat.le_refl 32) (fun v hv => one_B hv) (by rfl) ?_; intro w12 hr12 hm12 hz12; rw [splice_all (List.replicate 32 (vB 0)) ((outV s).map vB) rfl] at hr12))
          refine bodyPost_ret (results_cell_row rfl _ _ r _ _ _ _ rfl hr12.out Tryz.underlying77 rfl (by rfl)) rfl ⟨by rw [ESH.out], ?_⟩
          exact Mv.toBelow (Mv.toBelow HB6.out HM6.out (fun k hk => by have := hs6.out; omega)) hm12.out (fun k hk => by have := hsz.out; omega)
end Go.Proofs.YtniabkphbnimaaaGreatDoor.Sh
namespace Go.Proofs.YtniabkphbnimaaaGreatDoor.Bs
open Go Go.RowKit Go.Maps Go.Proofs.YtniabkphbnimaaaGreatDoorW.PrintWords
section
variable {P : Program} {ops : Array Oper} {rest : List Oper} {o : Oper} {a : Act} {w : World} {Q : Exit → Act → World → Prop}
theorem wpList_append_fresh (hgd : o.guard = none) (sl x : Operand) (t e : TypeId) (ho : o.op = .call { callee := .builtin .append, args := #[sl, x], argTypes := #[t, t] }) (hu : P.underlying t = some (.slice e))
    (hz : (P.info? e).map (fun i => (i.size, i.bytes, i.zero)) = some (1, 1, some (.int .u8 0))) (hs : a.eval sl = .slice none 0 0) (b m c : Nat) (hx : a.eval x = .slice (some ⟨b, 0, none⟩) m c) (l : List UInt8) (hl : l.length = m)
    (hc : ∀ i v, l[i]? = some v → w.cell? ⟨b, 0 + i, none⟩ = some (.int .u8 (v.toNat : Int))) (hm : m ≤ 1099511627776)
    (h : ∀ A c' w', Hid (l = [] ∨ ∃ b off, A = some ⟨b, off, none⟩ ∧ ∀ i v, l[i]? = some v → w'.cell? ⟨b, off + i, none⟩ = some (.int .u8 (v.toNat : Int))) → Hid (m ≤ c') → Hid (Below w.heap.size w w') → wpList P ops Q rest (a.put o.dst (.slice A m c')) w') : wpList P ops Q (o :: rest) a w := by
  refine wpList_plain hgd fun K hK => ?_
  cases hq : P.info? e with
  | none => simp [hq] at hz
  | some i =>
    simp only [hq, Option.map_some, Option.some.injEq, Prod.mk.injEq] at hz
    have own0 : w.ownsRow w.heap.size e 1 (.slice none 0 0) 0 [] := ⟨rfl, Or.inl ⟨rfl, rfl⟩⟩
    obtain ⟨v', w', hr, ho', hg', _⟩ := run_append_own (P := P) w w.heap.size t o.type e i (.int .u8 0) 1 1 hu hq hz.2.2 hz.1 hz.2.1 rfl (by omega) (.slice none 0 0) 0 [] own0 ⟨b, 0, none⟩ m c (l.map fun v => .int .u8 (v.toNat : Int)) (by simp [hl]) (fun j u hj => by
      rw [List.getElem?_map] at hj
      obtain ⟨y, hy, rfl⟩ := Option.map_eq_some_iff.1 hj
      have ea : (⟨b, 0, none⟩ : Addr).add j = ⟨b, 0 + j, none⟩ := by unfold Addr.add; split <;> simp_all
      rw [ea]
      exact hc j y hy) (fun u hu => by obtain ⟨y, _, rfl⟩ := List.mem_map.1 hu; rfl) (by simp [maxLen]; omega) (by omega) (Nat.le_refl _)
    have hb : Below w.heap.size w w' := ⟨hg'.os, hg'.tape, hg'.output, hg'.size, fun k hk => hg'.block k hk (fun e => by cases e)⟩
    unfold Oper.wp execOp
    simp only [ho, resolve, invoke, builtin, Sem.run_bind, Sem.run_pure, Result.andThen_ok, List.map_toArray, List.map_cons, List.map_nil, hs, hx, hr]
    rw [Nat.zero_add] at ho'
    rcases ho'.2 with ⟨e1, e2⟩ | ⟨g, cap, cur, e1, _, hg, hnc, _, _, htake⟩
    · subst e1
      subst e2
      exact hK _ _ (h none 0 w' (Or.inl (List.eq_nil_of_length_eq_zero hl)) (Nat.le_refl 0) hb)
    · subst e1
      refine hK _ _ (h _ cap w' (Or.inr ⟨g, 0, rfl, fun j v hj => ?_⟩) hnc hb)
      rw [Nat.zero_add]
      have h1 : (cur.toList.take (m * 1))[j]? = some (.int .u8 (v.toNat : Int)) := by
        rw [htake, List.nil_append, List.getElem?_map, hj]
        rfl
      rw [List.getElem?_take] at h1
      split at h1
      · simp [World.cell?, hg]
        simpa using h1
      · cases h1
end
end Go.Proofs.YtniabkphbnimaaaGreatDoor.Bs
namespace Go.Proofs.YtniabkphbnimaaaGreatDoor.Sh
open Go Go.RowKit Go.Maps Go.Proofs.YtniabkphbnimaaaGreatDoorW.PrintWords Go.Proofs.YtniabkphbnimaaaGreatDoorW.PrintLast Go.Proofs.YtniabkphbnimaaaGreatDoor.Bs
set_option maxHeartbeats 8000000 in
set_option maxRecDepth 100000 in
theorem rof_calls (p : List UInt8) (pb b m c : Nat) (hm : p.length = m) (w : World) (hg : GR w) (hpb : w.heap[pb]? = some (.cells [.slice (some ⟨b, 0, none⟩) m c].toArray 39 (0, 0))) (H : ∀ i x, p[i]? = some x → w.cell? ⟨b, 0 + i, none⟩ = some (vB x)) (hl : m < 549755813888) :
    Calls Tryz.prog 95 #[.slice (some ⟨pb, 0, none⟩) 1 1] w fun e w' => e = .returned (.agg ((sha p).map vB).toArray) ∧ Below w.heap.size w w' := by
  have HG := Aside0.mk hg
  have HM := Aside0.mk hm
  have HP := Aside0.mk hpb
  have HIN := Aside0.mk H
  have HL := Aside0.mk hl
  clear hg hm hpb H hl
  go_enter Tryz.func95, Tryz.ntmps95
  go_wp2_with (refine wpList_alloc_v rfl 77 rfl (List.replicate 32 (vB 0)) (by kernel_rfl) ?_; intro r w1 er hr1 hb1 hz1)
  go_loopw [3, 4] (fun av iv wq => (iv = .int .i64 0 ∧ av = .slice none 0 0 ∧ wq = w1) ∨ (iv = .int .i64 1 ∧ ∃ A c', av = .slice A m c' ∧ BytesIn wq A p ∧ Below w1.heap.size w1 wq)) (fun _ iv _ => 1 - (intOf iv).toNat)
  case atStart => exact Or.inl ⟨rfl, rfl, rfl⟩
  case round =>
    rcases hrel with ⟨rfl, rfl, rfl⟩ | ⟨rfl, A, c', rfl, hby, hb⟩
    · have c0 : wr.cell? ⟨pb, 0, none⟩ = some (.slice (some ⟨b, 0, none⟩) m c) := below_cell hb1.out (cell_of HP.out rfl)
      go_wp2_with (refine wpList_append_fresh rfl (.tmp 11) (.tmp 15) 39 5 rfl Tryz.underlying39 (by kernel_rfl) rfl b m c rfl p HM.out (fun i v hv => below_cell hb1.out (HIN.out i v hv)) (by have := HL.out; omega) ?_; intro A c' w2 hA2 hc2 hb2)
      exact ⟨Or.inr ⟨rfl, A, c', rfl, hA2.out, hb2.out⟩, by simp only [intOf]; omega⟩
    · have HBY := Aside0.mk hby
      have HB := Aside0.mk hb
      clear hby hb
      rename World => w3
      go_wp2_with (first
        | (go_at_call 113; (with_reducible refine (rsum_calls p A m c' HM.out w3 (HG.out.below (hb1.out.trans (HB.out.mono hb1.out.size))) HBY.out HL.out).mono ?_); rintro e w4 ⟨rfl, hb4⟩; have HB4 := Aside0.mk hb4; clear hb4)
        | (refine wpList_store_agg rfl 77 _ _ rfl r 0 rfl ((sha p).map vB) _ rfl _ ((HB4.out.block r (by have h1 := HB.out.size; have h2 := blk_lt hr1.out; omega)).trans ((HB.out.block r (blk_lt hr1.out)).trans hr1.out)) (by exact Nat.le_refl 32) (fun v hv => one_B hv) (by rfl) ?_; intro w5 hr5 hm5 hz5; rw [splice_all (List.replicate 32 (vB 0)) ((sha p).map vB) rfl] at hr5))
      refine bodyPost_ret (results_cell_row rfl _ _ r _ _ _ _ rfl hr5.out Tryz.underlying77 rfl (by rfl)) rfl ⟨rfl, ?_⟩
      have b3 : Below w.heap.size w w3 := hb1.out.trans (HB.out.mono hb1.out.size)
      exact Mv.toBelow (b3.trans (HB4.out.mono b3.size)) hm5.out (fun k hk => by have := er.out; omega)
set_option maxHeartbeats 8000000 in
set_option maxRecDepth 100000 in
theorem msum_calls (s : ByteArray) (w : World) (hg : GR w) (hs : s.size < 549755813888) :
    Calls Tryz.prog 74 #[.string s] w fun e w' => e = .returned (.string (str (sha (bl s)))) ∧ Below w.heap.size w w' := by
  have HG := Aside0.mk hg
  have HS := Aside0.mk hs
  clear hg hs
  go_enter Tryz.func74, Tryz.ntmps74
  go_wp2_with (first
    | (refine wpList_bytes_of rfl _ _ 5 _ rfl s rfl (by kernel_rfl) Tryz.underlying39 Tryz.underlying5 ?_; intro g c w1 eg hc1 hb1 hz1 hk1)
    | (refine wpList_buildSlice_v rfl 100 39 1 _ rfl Tryz.underlying100 [.slice (some ⟨g, 0, none⟩) s.size c] (by kernel_rfl) ?_; intro pb w2 e2 hp2 hb2 hz2)
    | (go_at_call 95; (with_reducible refine (rof_calls (bl s) pb g s.size c (bl_len s) w2 ?gl hp2.out ?pa HS.out).mono ?_); (case gl => exact HG.out.below (hb1.out.trans (hb2.out.mono hb1.out.size))); (case pa => exact fun i x hx => below_cell hb2.out (hc1.out i x hx)); rintro e w3 ⟨rfl, hb3⟩; have HB3 := Aside0.mk hb3; clear hb3)
    | (refine wpList_alloc_v rfl 77 rfl (List.replicate 32 (vB 0)) (by kernel_rfl) ?_; intro r w4 er hr4 hb4 hz4)
    | (refine wpList_store_agg rfl 77 _ _ rfl r 0 rfl ((sha (bl s)).map vB) _ rfl _ hr4.out (by exact Nat.le_refl 32) (fun v hv => one_B hv) (by rfl) ?_; intro w5 hr5 hm5 hz5; rw [splice_all (List.replicate 32 (vB 0)) ((sha (bl s)).map vB) rfl] at hr5)
    | (refine wpList_string_of rfl _ _ 5 _ rfl (some ⟨r, 0, none⟩) 32 32 rfl (sha (bl s)) (length_sha _) (bytes_of_row hr5.out) Tryz.underlying39 (by kernel_rfl) Tryz.underlying5 ?_))
  go_ret
  refine ⟨rfl, ?_⟩
  have b2 : Below w.heap.size w w2 := hb1.out.trans (hb2.out.mono hb1.out.size)
  have b3 : Below w.heap.size w w3 := b2.trans (HB3.out.mono b2.size)
  exact Mv.toBelow (b3.trans (hb4.out.mono b3.size)) hm5.out (fun k hk => by have h1 := b3.size; have h2 := er.out; omega)
end Go.Proofs.YtniabkphbnimaaaGreatDoor.Sh
namespace Go.Proofs.YtniabkphbnimaaaGreatDoor.Sh
open Go Go.RowKit Go.Maps Go.Proofs.YtniabkphbnimaaaGreatDoorW.PrintWords Go.Proofs.YtniabkphbnimaaaGreatDoorW.PrintLast Go.Proofs.YtniabkphbnimaaaGreatDoor.Bs
theorem str_bl (s : ByteArray) : str (bl s) = s := by
  cases s
  rfl
theorem kpad_at (key : List UInt8) (x : UInt8) (i : Nat) (hi : i < 64) : (kpad key x).take (i + 1) = (kpad key x).take i ++ [((kb key).getD i 0) ^^^ x] := by
  have hk := kb_le key
  have hl : i < ((kb key) ++ List.replicate (64 - (kb key).length) 0).length := by simp; omega
  rw [List.take_add_one]
  congr 1
  unfold kpad
  rw [List.getElem?_map, List.getElem?_eq_getElem hl]
  simp only [Option.map_some, Option.toList_some]
  congr 2
  rw [List.getD_eq_getElem?_getD]
  by_cases h : i < (kb key).length
  · rw [List.getElem_append_left h, List.getElem?_eq_getElem h]
    rfl
  · rw [List.getElem_append_right (by omega), List.getElem?_eq_none (by omega)]
    simp
set_option maxHeartbeats 8000000 in
set_option maxRecDepth 100000 in
theorem rblock_calls (k : ByteArray) (x : UInt8) (xi : Int) (hx : xi = (x.toNat : Int)) (w : World) (hg : GR w) (hk : k.size < 549755813888) :
    Calls Tryz.prog 75 #[.string k, .int .u8 xi] w fun e w' => e = .returned (.string (str (kpad (bl k) x))) ∧ Below w.heap.size w w' := by
  subst hx
  have HG := Aside0.mk hg
  have HK := Aside0.mk hk
  clear hg hk
  go_enter Tryz.func75, Tryz.ntmps75
  go_upto_if 9 with fail
  go_cut [0] (fun v wc => v = .string (str (kb (bl k))) ∧ Below w.heap.size w wc)
  case first =>
    by_cases h64 : 64 < k.size
    · have o1 : decide ((64 : Int) < (k.size : Int)) = true := decide_eq_true (by omega)
      go_wp2_with (go_at_call 74; (with_reducible refine (msum_calls k w HG.out HK.out).mono ?_); rintro e w1 ⟨rfl, hb1⟩)
      go_meet
      have ek : kb (bl k) = sha (bl k) := by unfold kb; rw [if_pos (by rw [bl_len]; exact h64)]
      rw [ek]
      exact ⟨rfl, hb1⟩
    · have o1 : decide ((64 : Int) < (k.size : Int)) = false := decide_eq_false (by omega)
      go_wp2
      go_meet
      have ek : kb (bl k) = bl k := by unfold kb; rw [if_neg (by rw [bl_len]; exact h64)]
      rw [ek, str_bl]
      exact ⟨rfl, Below.refl _ _⟩
  case rest =>
    obtain ⟨rfl, hbc⟩ := hcut
    have HBC := Aside0.mk hbc
    clear hbc
    rename World => w1
    obtain ⟨s, es⟩ : ∃ s, s = str (kb (bl k)) := ⟨_, rfl⟩
    have hss := Aside0.mk (show s.size ≤ 64 ∧ kb (bl k) = bl s from ⟨by rw [es]; exact kb_le _, by rw [es]; rfl⟩)
    rw [← es]
    clear es
    go_wp2_with (refine wpList_make_v rfl 39 5 _ _ rfl 64 rfl rfl Tryz.underlying39 (vB 0) (by kernel_rfl) rfl (by decide) ?_; intro g w2 eg hg2 hb2 hz2)
    have HG2 := Aside0.mk (show w2.heap[g]? = some (.cells (Fb ((kpad (bl k) x).take 0) 64).toArray 5 (0, 0)) from hg2.out)
    have HB2 := Aside0.mk (show Below w.heap.size w w2 ∧ w.heap.size ≤ g from ⟨HBC.out.trans (hb2.out.mono HBC.out.size), by rw [eg.out]; exact HBC.out.size⟩)
    clear eg hg2 hb2 hz2
    go_loopw [6] (fun iv wq => ∃ i : Nat, iv = .int .i64 (i : Int) ∧ i ≤ 64 ∧ wq.heap[g]? = some (.cells (Fb ((kpad (bl k) x).take i) 64).toArray 5 (0, 0)) ∧ Mv w2 wq (fun k => k = g)) (fun iv _ => 64 - (intOf iv).toNat)
    case atStart => exact ⟨0, rfl, by omega, HG2.out, Mv.refl _ _⟩
    case round =>
      obtain ⟨i, rfl, hi, hT, hm⟩ := hrel
      have HT := Aside0.mk hT
      have HM := Aside0.mk hm
      clear hT hm
      by_cases hk2 : i < 64
      · have o1 : decide ((i : Int) < 64) = true := decide_eq_true (by omega)
        have hl : ((kpad (bl k) x).take i).length = i := by rw [List.length_take, length_kpad]; omega
        have q2 : ((i : Int) < 64) = True := eq_true (by omega)
        obtain ⟨y, ey⟩ : ∃ y, y = (kb (bl k)).getD i 0 := ⟨_, rfl⟩
        have EY := Aside0.mk (show (kpad (bl k) x).take (i + 1) = (kpad (bl k) x).take i ++ [y ^^^ x] by rw [ey]; exact kpad_at _ _ i hk2)
        have d1 := Wd_thaw HT.out i
        by_cases hks : i < s.size
        · have o2 : decide ((i : Int) < (s.size : Int)) = true := decide_eq_true (by omega)
          have o3 : decide (i < s.size) = true := decide_eq_true hks
          have q3 : (i < s.size) = True := eq_true hks
          have hy : s[i] = y := by
            rw [ey, hss.out.2, List.getD_eq_getElem?_getD, List.getElem?_eq_getElem (show i < (bl s).length by rw [bl_len]; exact hks)]
            rfl
          obtain ⟨x0, d0⟩ := Fb_cell HT.out i hk2 (by omega)
          have HY := Aside0.mk hy
          clear hy ey
          go_wp2
          rw [HY.out, xor8]
          refine ⟨⟨i + 1, rfl, by omega, ?_, (HM.out.set i _ (Or.inl rfl)).set i _ (Or.inl rfl)⟩, by simp only [intOf]; omega⟩
          have h := set_of (set_of HT.out i (.int .u8 (y.toNat : Int))) i (vB (y ^^^ x))
          rw [List.set_set, Fb_set _ 64 _ i hl hk2, ← EY.out] at h
          exact h
        · have o2 : decide ((i : Int) < (s.size : Int)) = false := decide_eq_false (by omega)
          have o3 : decide (i < s.size) = false := decide_eq_false hks
          have hy0 := Aside0.mk (show y = 0 by rw [ey, List.getD_eq_getElem?_getD, List.getElem?_eq_none (by rw [hss.out.2, bl_len]; omega)]; rfl)
          have d0 : wr.cell? ⟨g, i, none⟩ = some (.int .u8 0) := by
            refine cell_of HT.out ?_
            unfold Fb
            rw [List.getElem?_map, List.getElem?_append_right (by omega), hl, Nat.sub_self, List.getElem?_replicate, if_pos (by omega)]
            rfl
          clear ey
          go_wp2
          rw [show Go.bits .xor .u8 0 (x.toNat : Int) = (((0 : UInt8) ^^^ x).toNat : Int) from xor8 0 x]
          refine ⟨⟨i + 1, rfl, by omega, ?_, HM.out.set i _ (Or.inl rfl)⟩, by simp only [intOf]; omega⟩
          have h := set_of HT.out i (vB (y ^^^ x))
          rw [Fb_set _ 64 _ i hl hk2, ← EY.out, hy0.out] at h
          exact h
      · have o1 : decide ((i : Int) < 64) = false := decide_eq_false (by omega)
        have HT := Aside0.mk (show wr.heap[g]? = some (.cells ((kpad (bl k) x).map vB).toArray 5 (0, 0)) from by
          have h := HT.out
          rw [List.take_of_length_le (by rw [length_kpad]; omega)] at h
          unfold Fb at h
          rw [length_kpad, Nat.sub_self, List.replicate_zero, List.append_nil] at h
          exact h)
        clear hk2 hi
        go_wp2_with (refine wpList_string_of rfl _ _ 5 _ rfl (some ⟨g, 0, none⟩) 64 64 rfl (kpad (bl k) x) (length_kpad _ _) (bytes_of_row HT.out) Tryz.underlying39 (by kernel_rfl) Tryz.underlying5 ?_)
        go_ret
        exact ⟨rfl, Mv.toBelow HB2.out.1 HM.out (fun k hk => by have := HB2.out; omega)⟩
theorem bl_add (a b : ByteArray) : bl (a ++ b) = bl a ++ bl b := by
  show (ByteArray.append a b).data.toList = _
  simp [bl]
theorem str_size (l : List UInt8) : (str l).size = l.length := rfl
theorem msum2_calls (a b : ByteArray) (x y : List UInt8) (ha : bl a = x) (hb : bl b = y) (w : World) (hg : GR w) (hs : a.size + b.size < 549755813888) :
    Calls Tryz.prog 74 #[.string (a ++ b)] w fun e w' => e = .returned (.string (str (sha (x ++ y)))) ∧ Below w.heap.size w w' := by
  have h := msum_calls (a ++ b) w hg (by rw [ByteArray.size_append]; exact hs)
  rw [bl_add, ha, hb] at h
  exact h
set_option maxHeartbeats 8000000 in
set_option maxRecDepth 100000 in
theorem rtag_calls (k t : ByteArray) (w : World) (hg : GR w) (hk : k.size < 1099511627776 / 2) (ht : t.size < 274877906944) :
    Calls Tryz.prog 37 #[.string k, .string t] w fun e w' => e = .returned (.string (str (hmac (bl k) (bl t)))) ∧ Below w.heap.size w w' := by
  have HG := Aside0.mk hg
  have HK := Aside0.mk hk
  have HT := Aside0.mk ht
  clear hg hk ht
  go_enter Tryz.func37, Tryz.ntmps37
  obtain ⟨x, ex⟩ : ∃ x, x = sha (kpad (bl k) 54 ++ bl t) := ⟨_, rfl⟩
  obtain ⟨s54, e54⟩ : ∃ s, s = str (kpad (bl k) 54) := ⟨_, rfl⟩
  obtain ⟨s92, e92⟩ : ∃ s, s = str (kpad (bl k) 92) := ⟨_, rfl⟩
  obtain ⟨sx, esx⟩ : ∃ s, s = str x := ⟨_, rfl⟩
  have l54 : s54.size = 64 := by rw [e54, str_size, length_kpad]
  have l92 : s92.size = 64 := by rw [e92, str_size, length_kpad]
  have lx : sx.size = 32 := by rw [esx, str_size, ex, length_sha]
  have n1 : (9223372036854775807 < s54.size + t.size) = False := eq_false (by have := HT.out; omega)
  have n2 : (9223372036854775807 < s92.size + sx.size) = False := eq_false (by omega)
  have HB := Aside0.mk (show s54.size + t.size < 549755813888 ∧ s92.size + sx.size < 549755813888 by have := HT.out; omega)
  have E54 := Aside0.mk (show bl s54 = kpad (bl k) 54 by rw [e54]; rfl)
  have E92 := Aside0.mk (show bl s92 = kpad (bl k) 92 by rw [e92]; rfl)
  have EX := Aside0.mk (show str (sha (kpad (bl k) 54 ++ bl t)) = sx ∧ bl sx = sha (kpad (bl k) 54 ++ bl t) by rw [esx, ex]; exact ⟨rfl, rfl⟩)
  have c54 := Aside0.mk (fun (w : World) (hg : GR w) => e54 ▸ rblock_calls k 54 54 rfl w hg (by have := HK.out; omega))
  have c92 := Aside0.mk (fun (w : World) (hg : GR w) => e92 ▸ rblock_calls k 92 92 rfl w hg (by have := HK.out; omega))
  have cx := Aside0.mk (fun (w : World) (hg : GR w) => EX.out.1 ▸ msum2_calls s54 t _ _ E54.out rfl w hg HB.out.1)
  clear e54 e92 esx ex l54 l92 lx
  go_wp2_with (first
    | (go_at_call 75; (with_reducible refine (c92.out w HG.out).mono ?_); rintro e w1 ⟨rfl, hb1⟩; have HB1 := Aside0.mk hb1; clear hb1)
    | (go_at_call 75; (with_reducible refine (c54.out w1 (HG.out.below HB1.out)).mono ?_); rintro e w2 ⟨rfl, hb2⟩; have HB2 := Aside0.mk (HB1.out.trans (hb2.mono HB1.out.size)); clear hb2)
    | (go_at_call 74; (with_reducible refine (cx.out w2 (HG.out.below HB2.out)).mono ?_); rintro e w3 ⟨rfl, hb3⟩; have HB3 := Aside0.mk (HB2.out.trans (hb3.mono HB2.out.size)); clear hb3)
    | (go_at_call 74; (with_reducible refine (msum2_calls s92 sx _ _ E92.out EX.out.2 w3 (HG.out.below HB3.out) HB.out.2).mono ?_); rintro e w4 ⟨rfl, hb4⟩; have HB4 := Aside0.mk (HB3.out.trans (hb4.mono HB3.out.size)); clear hb4))
  go_ret
  exact ⟨rfl, HB4.out⟩
end Go.Proofs.YtniabkphbnimaaaGreatDoor.Sh
namespace Go.Proofs.YtniabkphbnimaaaGreatDoor.Sh
open Go Go.RowKit Go.Maps Go.Proofs.YtniabkphbnimaaaGreatDoorW.PrintWords Go.Proofs.YtniabkphbnimaaaGreatDoorW.PrintLast Go.Proofs.YtniabkphbnimaaaGreatDoor.Bs
theorem gl_below {w w' : World} (h : GL w) (hb : Below w.heap.size w w') : GL w' := by
  obtain ⟨t, fr, h⟩ := h
  exact ⟨t, fr, (hb.block _ (blk_lt h)).trans h⟩
def sealedB (l : List UInt8) (k : List UInt8) : Bool := decide (bodyB l ≠ [] ∧ l.drop (bodyB l).length = hmac k (bodyB l))
theorem body_len (l : List UInt8) : (bodyB l).length ≤ l.length := by
  unfold bodyB
  split
  · rw [List.length_take]; omega
  · exact Nat.zero_le _
def T_14_2 : Bool × List (List Nat × List Nat) := (true, [([], []), ([0], [0]), ([1], [1]), ([2], [2]), ([2], [2]), ([4, 2], [2, 4]), ([3, 5, 2], [2, 3, 5]), ([2], [2]), ([2], [2]), ([7, 8, 2, 2], [2, 7, 8]), ([6, 9, 9, 2], [2, 6, 9]), ([2, 10], [2, 10]), ([11, 10, 0, 1, 2, 3, 4, 5, 6, 7, 8, 9, 10, 11], [11])])
def B_14_2 : List Nat := [0, 1, 3, 7, 7, 23, 63, 7, 7, 391, 1023, 2047, 4095]
theorem tab_f14_2 : rtab .any (opsOf Tryz.f14 2) = T_14_2 := by kernel_rfl
theorem bits_f14_2 : waitsOk T_14_2.2 B_14_2 = true := by kernel_rfl
set_option maxHeartbeats 8000000 in
set_option maxRecDepth 100000 in
theorem sealed_calls (l : List UInt8) (k : ByteArray) (w : World) (hg : GL w) (hl : l.length < 1099511627776) (hk : k.size < 1099511627776) : Calls Tryz.prog 14 #[.string (str l), .string k] w fun e w' => e = .returned (.bool (sealedB l (bl k))) ∧ Below w.heap.size w w' := by
  have HG := Aside0.mk hg
  have HK := Aside0.mk hk
  have HL := Aside0.mk hl
  obtain ⟨t, et⟩ : ∃ t, t = str l := ⟨_, rfl⟩
  have hts : t.size = l.length := by rw [et]; rfl
  obtain ⟨b, eb⟩ : ∃ b, b = str (bodyB l) := ⟨_, rfl⟩
  have hbs : b.size = (bodyB l).length := by rw [eb]; rfl
  rw [← et]
  have BC := Aside0.mk (show ∀ w, Calls Tryz.prog 12 #[.string t] w fun e w' => e = .returned (.string b) ∧ Below w.heap.size w w' from fun w => by rw [et, eb]; exact body_calls l (by omega) w)
  by_cases hb : bodyB l = []
  · have o1 : b.toList = [] := by rw [eb, hb]; exact str_list []
    have o2 : b.toList.isEmpty = true := by rw [o1]; rfl
    have ES := Aside0.mk (show sealedB l (bl k) = false from decide_eq_false (fun h => h.1 hb))
    clear et eb hts hbs hb hg hk hl
    go_enter Tryz.func14, Tryz.ntmps14
    go_wp2_with (go_at_call 12; (with_reducible refine (BC.out w).mono ?_); rintro e w1 ⟨rfl, hb1⟩; have HB1 := Aside0.mk hb1; clear hb1)
    refine start_ (n := 13) (S := fun w' => True) (ds := []) #[false, false, false, false, false, false, false, false, false, false, false, false, false] (by kernel_rfl) rfl rfl trivial (fun hHeld => ?_)
    refine with_tabW tab_f14_2 bits_f14_2 (fun HT_ HW_ => ?_)
    refine pure_ (i := 0) (N := some 8) (v := ?_) (a' := ?_) #[true, false, false, false, false, false, false, false, false, false, false, false, false] rfl rfl (any_of HT_.out (by kernel_rfl)) (fun _ _ _ h => h) (Or.inl ⟨by rfl, ?_⟩) ?_ ?_
    rotate_left
    · intro w'
      go_simp
      with_reducible rfl
    rotate_left
    · simp only [Act.put, List.setIfInBounds_toArray, List.set_cons_zero, List.set_cons_succ, i64_w, i32_w]
      rfl
    refine pure_ (i := 1) (N := some 9) (v := ?_) (a' := ?_) #[true, true, false, false, false, false, false, false, false, false, false, false, false] rfl rfl (any_of HT_.out (by kernel_rfl)) (fun _ _ _ h => h) (Or.inl ⟨by rfl, ?_⟩) ?_ ?_
    rotate_left
    · intro w'
      go_simp
      with_reducible rfl
    rotate_left
    · simp only [Act.put, List.setIfInBounds_toArray, List.set_cons_zero, List.set_cons_succ, i64_w, i32_w]
      rfl
    refine pure_ (i := 2) (N := some 10) (v := ?_) (a' := ?_) #[true, true, true, false, false, false, false, false, false, false, false, false, false] rfl rfl (any_of HT_.out (by kernel_rfl)) (fun _ _ _ h => h) (Or.inl ⟨by rfl, ?_⟩) ?_ ?_
    rotate_left
    · intro w'
      go_simp
      with_reducible rfl
    rotate_left
    · simp only [Act.put, List.setIfInBounds_toArray, List.set_cons_zero, List.set_cons_succ, i64_w, i32_w]
      rfl
    refine pure_ (i := 3) (N := some 11) (v := undef) (a' := ?_) #[true, true, true, true, false, false, false, false, false, false, false, false, false] rfl rfl (any_of HT_.out (by kernel_rfl)) (fun _ _ _ h => h) (Or.inr ⟨by rfl, rfl⟩) ?_ ?_
    rotate_left
    · simp only [Act.put, List.setIfInBounds_toArray, List.set_cons_zero, List.set_cons_succ, i64_w, i32_w]
      rfl
    refine pure_ (i := 4) (N := some 12) (v := undef) (a' := ?_) #[true, true, true, true, true, false, false, false, false, false, false, false, false] rfl rfl (any_of HT_.out (by kernel_rfl)) (fun _ _ _ h => h) (Or.inr ⟨by rfl, rfl⟩) ?_ ?_
    rotate_left
    · simp only [Act.put, List.setIfInBounds_toArray, List.set_cons_zero, List.set_cons_succ, i64_w, i32_w]
      rfl
    refine pure_ (i := 5) (N := some 13) (v := undef) (a' := ?_) #[true, true, true, true, true, true, false, false, false, false, false, false, false] rfl rfl (any_of HT_.out (by kernel_rfl)) (fun _ _ _ h => h) (Or.inr ⟨by rfl, rfl⟩) ?_ ?_
    rotate_left
    · simp only [Act.put, List.setIfInBounds_toArray, List.set_cons_zero, List.set_cons_succ, i64_w, i32_w]
      rfl
    refine pure_ (i := 6) (N := some 14) (v := undef) (a' := ?_) #[true, true, true, true, true, true, true, false, false, false, false, false, false] rfl rfl (any_of HT_.out (by kernel_rfl)) (fun _ _ _ h => h) (Or.inr ⟨by rfl, rfl⟩) ?_ ?_
    rotate_left
    · simp only [Act.put, List.setIfInBounds_toArray, List.set_cons_zero, List.set_cons_succ, i64_w, i32_w]
      rfl
    refine pure_ (i := 7) (N := some 15) (v := undef) (a' := ?_) #[true, true, true, true, true, true, true, true, false, false, false, false, false] rfl rfl (any_of HT_.out (by kernel_rfl)) (fun _ _ _ h => h) (Or.inr ⟨by rfl, rfl⟩) ?_ ?_
    rotate_left
    · simp only [Act.put, List.setIfInBounds_toArray, List.set_cons_zero, List.set_cons_succ, i64_w, i32_w]
      rfl
    refine pure_ (i := 8) (N := some 16) (v := undef) (a' := ?_) #[true, true, true, true, true, true, true, true, true, false, false, false, false] rfl rfl (any_of HT_.out (by kernel_rfl)) (fun _ _ _ h => h) (Or.inr ⟨by rfl, rfl⟩) ?_ ?_
    rotate_left
    · simp only [Act.put, List.setIfInBounds_toArray, List.set_cons_zero, List.set_cons_succ, i64_w, i32_w]
      rfl
    refine pure_ (i := 9) (N := some 17) (v := undef) (a' := ?_) #[true, true, true, true, true, true, true, true, true, true, false, false, false] rfl rfl (any_of HT_.out (by kernel_rfl)) (fun _ _ _ h => h) (Or.inr ⟨by rfl, rfl⟩) ?_ ?_
    rotate_left
    · simp only [Act.put, List.setIfInBounds_toArray, List.set_cons_zero, List.set_cons_succ, i64_w, i32_w]
      rfl
    refine pure_ (i := 10) (N := some 18) (v := undef) (a' := ?_) #[true, true, true, true, true, true, true, true, true, true, true, false, false] rfl rfl (any_of HT_.out (by kernel_rfl)) (fun _ _ _ h => h) (Or.inr ⟨by rfl, rfl⟩) ?_ ?_
    rotate_left
    · simp only [Act.put, List.setIfInBounds_toArray, List.set_cons_zero, List.set_cons_succ, i64_w, i32_w]
      rfl
    refine pure_ (i := 11) (N := some 19) (v := ?_) (a' := ?_) #[true, true, true, true, true, true, true, true, true, true, true, true, false] rfl rfl (any_of HT_.out (by kernel_rfl)) (fun _ _ _ h => h) (Or.inl ⟨by rfl, ?_⟩) ?_ ?_
    rotate_left
    · intro w'
      go_simp
      with_reducible rfl
    rotate_left
    · simp only [Act.put, List.setIfInBounds_toArray, List.set_cons_zero, List.set_cons_succ, i64_w, i32_w]
      rfl
    refine pure_ (i := 12) (N := some 4) (v := ?_) (a' := ?_) #[true, true, true, true, true, true, true, true, true, true, true, true, true] rfl rfl (any_of HT_.out (by kernel_rfl)) (fun _ _ _ h => h) (Or.inl ⟨by rfl, ?_⟩) ?_ ?_
    rotate_left
    · intro w'
      go_simp
      with_reducible rfl
    rotate_left
    · simp only [Act.put, List.setIfInBounds_toArray, List.set_cons_zero, List.set_cons_succ, i64_w, i32_w]
      rfl
    refine done_ (done_of HT_.out (by kernel_rfl)) ?_
    clear HT_ HW_ hHeld
    go_wp2
    go_ret
    rw [ES.out]
    exact ⟨rfl, below_drew1 HB1.out⟩
  · have o1 : b.toList.isEmpty = false := by
      rw [eb, str_list]
      cases h : bodyB l with
      | nil => exact absurd h hb
      | cons x y => rfl
    have o2 : ¬ b.toList = [] := by rw [eb, str_list]; exact hb
    have o3 : b.size ≤ t.size := by rw [hbs, hts]; exact body_len l
    obtain ⟨m, em⟩ : ∃ m, m = str (hmac (bl k) (bodyB l)) := ⟨_, rfl⟩
    have TC := Aside0.mk (show ∀ w, GL w → Calls Tryz.prog 23 #[.string k, .string b] w fun e w' => e = .returned (.string m) ∧ Below w.heap.size w w' from fun w hg => by
      have h := tag_calls k b w hg hk (by rw [hbs]; exact Nat.lt_of_le_of_lt (body_len l) hl)
      rw [em]
      rw [show bl b = bodyB l by rw [eb]; rfl] at h
      exact h)
    have ES := Aside0.mk (show sealedB l (bl k) = decide (l.drop (bodyB l).length = hmac (bl k) (bodyB l)) from decide_eq_decide.mpr ⟨fun h => h.2, fun h => ⟨hb, h⟩⟩)
    have SC := Aside0.mk (show ∀ w, Calls Tryz.prog 36 #[.string (t.extract b.size t.size), .string m] w fun e w' => e = .returned (.bool (sealedB l (bl k))) ∧ Below w.heap.size w w' from fun w => by
      rw [ES.out, em, hbs, et, str_drop]
      exact same_calls _ _ (by rw [List.length_drop]; omega) w)
    clear et eb em hts hbs hb hg hk hl
    go_enter Tryz.func14, Tryz.ntmps14
    go_wp2_with (go_at_call 12; (with_reducible refine (BC.out w).mono ?_); rintro e w1 ⟨rfl, hb1⟩; have HB1 := Aside0.mk hb1; clear hb1)
    refine start_ (n := 13) (S := fun w' => True) (ds := []) #[false, false, false, false, false, false, false, false, false, false, false, false, false] (by kernel_rfl) rfl rfl trivial (fun hHeld => ?_)
    refine with_tabW tab_f14_2 bits_f14_2 (fun HT_ HW_ => ?_)
    refine pure_ (i := 0) (N := some 8) (v := ?_) (a' := ?_) #[true, false, false, false, false, false, false, false, false, false, false, false, false] rfl rfl (any_of HT_.out (by kernel_rfl)) (fun _ _ _ h => h) (Or.inl ⟨by rfl, ?_⟩) ?_ ?_
    rotate_left
    · intro w'
      go_simp
      with_reducible rfl
    rotate_left
    · simp only [Act.put, List.setIfInBounds_toArray, List.set_cons_zero, List.set_cons_succ, i64_w, i32_w]
      rfl
    refine pure_ (i := 1) (N := some 9) (v := ?_) (a' := ?_) #[true, true, false, false, false, false, false, false, false, false, false, false, false] rfl rfl (any_of HT_.out (by kernel_rfl)) (fun _ _ _ h => h) (Or.inl ⟨by rfl, ?_⟩) ?_ ?_
    rotate_left
    · intro w'
      go_simp
      with_reducible rfl
    rotate_left
    · simp only [Act.put, List.setIfInBounds_toArray, List.set_cons_zero, List.set_cons_succ, i64_w, i32_w]
      rfl
    refine pure_ (i := 2) (N := some 10) (v := ?_) (a' := ?_) #[true, true, true, false, false, false, false, false, false, false, false, false, false] rfl rfl (any_of HT_.out (by kernel_rfl)) (fun _ _ _ h => h) (Or.inl ⟨by rfl, ?_⟩) ?_ ?_
    rotate_left
    · intro w'
      go_simp
      with_reducible rfl
    rotate_left
    · simp only [Act.put, List.setIfInBounds_toArray, List.set_cons_zero, List.set_cons_succ, i64_w, i32_w]
      rfl
    refine pure_ (i := 3) (N := some 11) (v := ?_) (a' := ?_) #[true, true, true, true, false, false, false, false, false, false, false, false, false] rfl rfl (any_of HT_.out (by kernel_rfl)) (fun _ _ _ h => h) (Or.inl ⟨by rfl, ?_⟩) ?_ ?_
    rotate_left
    · intro w'
      go_simp
      with_reducible rfl
    rotate_left
    · simp only [Act.put, List.setIfInBounds_toArray, List.set_cons_zero, List.set_cons_succ, i64_w, i32_w]
      rfl
    refine pure_ (i := 4) (N := some 12) (v := ?_) (a' := ?_) #[true, true, true, true, true, false, false, false, false, false, false, false, false] rfl rfl (any_of HT_.out (by kernel_rfl)) (fun _ _ _ h => h) (Or.inl ⟨by rfl, ?_⟩) ?_ ?_
    rotate_left
    · intro w'
      go_simp
      with_reducible rfl
    rotate_left
    · simp only [Act.put, List.setIfInBounds_toArray, List.set_cons_zero, List.set_cons_succ, i64_w, i32_w]
      rfl
    refine pure_ (i := 5) (N := some 13) (v := ?_) (a' := ?_) #[true, true, true, true, true, true, false, false, false, false, false, false, false] rfl rfl (any_of HT_.out (by kernel_rfl)) (fun _ _ _ h => h) (Or.inl ⟨by rfl, ?_⟩) ?_ ?_
    rotate_left
    · intro w'
      go_simp
      with_reducible rfl
    rotate_left
    · simp only [Act.put, List.setIfInBounds_toArray, List.set_cons_zero, List.set_cons_succ, i64_w, i32_w]
      rfl
    refine pure_ (i := 6) (N := some 14) (v := ?_) (a' := ?_) #[true, true, true, true, true, true, true, false, false, false, false, false, false] rfl rfl (any_of HT_.out (by kernel_rfl)) (fun _ _ _ h => h) (Or.inl ⟨by rfl, ?_⟩) ?_ ?_
    rotate_left
    · intro w'
      go_simp
      with_reducible rfl
    rotate_left
    · simp only [Act.put, List.setIfInBounds_toArray, List.set_cons_zero, List.set_cons_succ, i64_w, i32_w]
      rfl
    refine pure_ (i := 7) (N := some 15) (v := ?_) (a' := ?_) #[true, true, true, true, true, true, true, true, false, false, false, false, false] rfl rfl (any_of HT_.out (by kernel_rfl)) (fun _ _ _ h => h) (Or.inl ⟨by rfl, ?_⟩) ?_ ?_
    rotate_left
    · intro w'
      go_simp
      with_reducible rfl
    rotate_left
    · simp only [Act.put, List.setIfInBounds_toArray, List.set_cons_zero, List.set_cons_succ, i64_w, i32_w]
      rfl
    refine pure_ (i := 8) (N := some 16) (v := ?_) (a' := ?_) #[true, true, true, true, true, true, true, true, true, false, false, false, false] rfl rfl (any_of HT_.out (by kernel_rfl)) (fun _ _ _ h => h) (Or.inl ⟨by rfl, ?_⟩) ?_ ?_
    rotate_left
    · intro w'
      go_simp
      with_reducible rfl
    rotate_left
    · simp only [Act.put, List.setIfInBounds_toArray, List.set_cons_zero, List.set_cons_succ, i64_w, i32_w]
      rfl
    refine one_ (i := 9) (N := some 17) #[true, true, true, true, true, true, true, true, true, true, false, false, false] rfl rfl (one_of HT_.out (by kernel_rfl)) (by decide) (fun K hK => ?_)
    refine goes_ Tryz.func23 (by kernel_rfl) rfl #[.string k, .string b] (by rfl) rfl rfl (by (try simp only [List.map_toArray, List.map_cons, List.map_nil]); first | done | rfl) ?_
    with_reducible refine (TC.out _ (gl_below HG.out (below_drew1 HB1.out))).mono ?_
    rintro e w2 ⟨rfl, hb2⟩
    refine ⟨_, rfl, ?_⟩
    have HB2 := Aside0.mk (show Below w.heap.size w w2 from (below_drew1 HB1.out).trans (hb2.mono HB1.out.size))
    refine hK.out _ _ trivial (fun hHeld => ?_)
    clear hK K
    refine norm_ (a' := ?_) ?_ ?_
    rotate_left
    · show Act.put _ (some 17) _ = _
      simp only [Act.put, List.setIfInBounds_toArray, List.set_cons_zero, List.set_cons_succ, i64_w, i32_w]
      rfl
    refine one_ (i := 10) (N := some 18) #[true, true, true, true, true, true, true, true, true, true, true, false, false] rfl rfl (one_of HT_.out (by kernel_rfl)) (by decide) (fun K hK => ?_)
    refine goes_ Tryz.func36 (by kernel_rfl) rfl #[.string (t.extract b.size t.size), .string m] (by rfl) rfl rfl (by (try simp only [List.map_toArray, List.map_cons, List.map_nil]); first | done | rfl) ?_
    with_reducible refine (SC.out _).mono ?_
    rintro e w3 ⟨rfl, hb3⟩
    refine ⟨_, rfl, ?_⟩
    have HB3 := Aside0.mk (HB2.out.trans (hb3.mono HB2.out.size))
    refine hK.out _ _ trivial (fun hHeld => ?_)
    clear hK K
    refine norm_ (a' := ?_) ?_ ?_
    rotate_left
    · show Act.put _ (some 18) _ = _
      simp only [Act.put, List.setIfInBounds_toArray, List.set_cons_zero, List.set_cons_succ, i64_w, i32_w]
      rfl
    refine pure_ (i := 11) (N := some 19) (v := ?_) (a' := ?_) #[true, true, true, true, true, true, true, true, true, true, true, true, false] rfl rfl (any_of HT_.out (by kernel_rfl)) (fun _ _ _ h => h) (Or.inl ⟨by rfl, ?_⟩) ?_ ?_
    rotate_left
    · intro w'
      go_simp
      with_reducible rfl
    rotate_left
    · simp only [Act.put, List.setIfInBounds_toArray, List.set_cons_zero, List.set_cons_succ, i64_w, i32_w]
      rfl
    refine pure_ (i := 12) (N := some 4) (v := ?_) (a' := ?_) #[true, true, true, true, true, true, true, true, true, true, true, true, true] rfl rfl (any_of HT_.out (by kernel_rfl)) (fun _ _ _ h => h) (Or.inl ⟨by rfl, ?_⟩) ?_ ?_
    rotate_left
    · intro w'
      go_simp
      with_reducible rfl
    rotate_left
    · simp only [Act.put, List.setIfInBounds_toArray, List.set_cons_zero, List.set_cons_succ, i64_w, i32_w]
      rfl
    refine done_ (done_of HT_.out (by kernel_rfl)) ?_
    clear HT_ HW_ hHeld
    go_wp2
    go_ret
    exact ⟨rfl, HB3.out⟩
def sealB (d : Dg) (k : List UInt8) : ByteArray × Int :=
  if 3 ≤ d.kind ∧ d.kind ≤ 7 then
    if (enc { d with tag := str (List.replicate 32 0) }).2 ≠ 0 then (⟨#[]⟩, (enc { d with tag := str (List.replicate 32 0) }).2)
    else (str (bodyB (bl (enc { d with tag := str (List.replicate 32 0) }).1) ++ hmac k (bodyB (bl (enc { d with tag := str (List.replicate 32 0) }).1))), 0)
  else (⟨#[]⟩, 71)
theorem enc_size (d : Dg) : (enc d).1.size ≤ 1200 := by
  unfold enc
  split
  · dsimp only
    split
    · exact Nat.zero_le _
    · split
      · exact Nat.zero_le _
      · rename_i h
        show ((putAll d (fieldsOf d.kind) (false, some ([74, 48, 49] ++ [UInt8.ofNat d.kind.toNat]))).2.getD []).length ≤ 1200
        omega
  · exact Nat.zero_le _
set_option maxHeartbeats 8000000 in
set_option maxRecDepth 100000 in
theorem seal_calls (d : Dg) (k : ByteArray) (w : World) (hg : GL w) (hd : d.ok) (hkd : -9223372036854775808 ≤ d.kind ∧ d.kind ≤ 9223372036854775807) (hk : k.size < 1099511627776) : Calls Tryz.prog 18 #[.agg d.cells.toArray, .string k] w fun e w' => e = .returned (.tuple #[.string (sealB d (bl k)).1, .int .i64 (sealB d (bl k)).2]) ∧ Below w.heap.size w w' := by
  have HG := Aside0.mk hg
  have HK := Aside0.mk hk
  have RC := Aside0.mk (show ∀ w, Calls Tryz.prog 44 #[.string ⟨#[0]⟩, .int .i64 32] w fun e w' => e = .returned (.string (str (List.replicate 32 0))) ∧ Below w.heap.size w w' from fun w => rep_calls 32 32 rfl (by omega) w)
  have TGC := Aside0.mk (show ∀ w, Calls Tryz.prog 35 #[.int .i64 d.kind] w fun e w' => e = .returned (.bool (decide (3 ≤ d.kind ∧ d.kind ≤ 7))) ∧ Below w.heap.size w w' from tagged_calls d.kind)
  by_cases h37 : 3 ≤ d.kind ∧ d.kind ≤ 7
  · obtain ⟨d2, ed2⟩ : ∃ d2, d2 = { d with tag := str (List.replicate 32 0) } := ⟨_, rfl⟩
    obtain ⟨s, es⟩ : ∃ s, s = (enc d2).1 := ⟨_, rfl⟩
    obtain ⟨c, ec⟩ : ∃ c, c = (enc d2).2 := ⟨_, rfl⟩
    have hok : d2.ok := by rw [ed2]; unfold Dg.ok at hd ⊢; exact ⟨hd.1, hd.2.1, hd.2.2.1, hd.2.2.2.1, hd.2.2.2.2.1, hd.2.2.2.2.2.1, hd.2.2.2.2.2.2.1, by show (List.replicate 32 (0 : UInt8)).length < _; rw [List.length_replicate]; omega⟩
    have hrow : d.cells.set 14 (.string (str (List.replicate 32 0))) = d2.cells := by rw [ed2]; rfl
    have EC := Aside0.mk (show ∀ w, Calls Tryz.prog 16 #[.agg d2.cells.toArray] w fun e w' => e = .returned (.tuple #[.string s, .int .i64 c]) ∧ Below w.heap.size w w' from fun w => by rw [es, ec]; exact encode_calls d2 hok (by rw [ed2]; exact hkd) w)
    have hss : s.size ≤ 1200 := by rw [es]; exact enc_size d2
    have ESB := Aside0.mk (show sealB d (bl k) = if c ≠ 0 then (⟨#[]⟩, c) else (str (bodyB (bl s) ++ hmac (bl k) (bodyB (bl s))), 0) from by unfold sealB; rw [if_pos h37, ← ed2, ← ec, ← es])
    rw [decide_eq_true h37] at TGC
    have HROW := Aside0.mk hrow
    clear es ec ed2 hok hrow h37
    obtain ⟨b, eb⟩ : ∃ b, b = str (bodyB (bl s)) := ⟨_, rfl⟩
    obtain ⟨m, em⟩ : ∃ m, m = str (hmac (bl k) (bodyB (bl s))) := ⟨_, rfl⟩
    have BC := Aside0.mk (show ∀ w, Calls Tryz.prog 12 #[.string s] w fun e w' => e = .returned (.string b) ∧ Below w.heap.size w w' from fun w => by
      have h := body_calls (bl s) (by rw [bl_len]; omega) w
      rw [str_bl, ← eb] at h
      exact h)
    have TC := Aside0.mk (show ∀ w, GL w → Calls Tryz.prog 23 #[.string k, .string b] w fun e w' => e = .returned (.string m) ∧ Below w.heap.size w w' from fun w hg => by
      have h := tag_calls k b w hg hk (by rw [eb]; have := body_len (bl s); rw [bl_len] at this; show (bodyB (bl s)).length < _; omega)
      rw [em]
      rw [show bl b = bodyB (bl s) by rw [eb]; rfl] at h
      exact h)
    have EBM := Aside0.mk (show str (bodyB (bl s) ++ hmac (bl k) (bodyB (bl s))) = b ++ m from by rw [eb, em]; apply ByteArray.ext; simp [str])
    have o3 : ¬ 9223372036854775807 < b.size + m.size := by
      have h1 : b.size ≤ s.size := by rw [eb]; have := body_len (bl s); rw [bl_len] at this; exact this
      have h2 : m.size = 32 := by rw [em]; exact length_sha _
      omega
    clear eb em hss hg hd hkd hk
    by_cases hc : c = 0
    · have ES2 := Aside0.mk (show sealB d (bl k) = (b ++ m, 0) from by rw [ESB.out, if_neg (by rw [hc]; decide), EBM.out])
      subst hc
      go_enter Tryz.func18, Tryz.ntmps18
      go_wp2_with (first
        | (refine wpList_box_v rfl 27 _ rfl d.cells rfl (by kernel_rfl) ?_; intro D w1 eD hD1 hb1 hz1; have c0 : w1.cell? ⟨D, 0, none⟩ = some (.int .i64 d.kind) := cell_of hD1.out rfl)
        | (go_at_call 35; (with_reducible refine (TGC.out w1).mono ?_); rintro e w2 ⟨rfl, hb2⟩; have HB2 := Aside0.mk (hb1.out.trans (hb2.mono hb1.out.size)); have HD2 := Aside0.mk ((hb2.block D (blk_lt hD1.out)).trans hD1.out); clear hb2)
        | (go_at_call 44; (with_reducible refine (RC.out _).mono ?_); rintro e w3 ⟨rfl, hb3⟩; have HB3 := Aside0.mk (HB2.out.trans (hb3.mono HB2.out.size)); have HD3 := Aside0.mk ((hb3.block D (blk_lt HD2.out)).trans HD2.out); have c14 : w3.cell? ⟨D, 14, none⟩ = some (.string d.tag) := cell_of HD3.out rfl; have f14 := Wd_thaw HD3.out 14; clear hb3)
        | (refine wpList_load_agg rfl 27 _ rfl D 0 rfl d2.cells (load_all (HROW.out ▸ set_of HD3.out 14 (.string (str (List.replicate 32 0))))) _ Tryz.underlying27 rfl (by kernel_rfl) ?_)
        | (go_at_call 16; (with_reducible refine (EC.out _).mono ?_); rintro e w4 ⟨rfl, hb4⟩; have HB4 := Aside0.mk (show Below w.heap.size w w4 from (below_set1 HB3.out (Nat.le_of_eq eD.out.symm) _).trans (hb4.mono (below_set1 HB3.out (Nat.le_of_eq eD.out.symm) _).size)); clear hb4)
        | (go_at_call 12; (with_reducible refine (BC.out _).mono ?_); rintro e w5 ⟨rfl, hb5⟩; have HB5 := Aside0.mk (HB4.out.trans (hb5.mono HB4.out.size)); clear hb5)
        | (go_at_call 23; (with_reducible refine (TC.out _ (gl_below HG.out HB5.out)).mono ?_); rintro e w6 ⟨rfl, hb6⟩; have HB6 := Aside0.mk (HB5.out.trans (hb6.mono HB5.out.size)); clear hb6))
      go_ret2
      rw [ES2.out]
      exact ⟨rfl, HB6.out⟩
    · have ES2 := Aside0.mk (show sealB d (bl k) = (⟨#[]⟩, c) from by rw [ESB.out, if_pos hc])
      have o1 : (c == 0) = false := beq_eq_false_iff_ne.mpr hc
      have o2 : (c != 0) = true := by simp [bne, o1]
      clear hc
      go_enter Tryz.func18, Tryz.ntmps18
      go_wp2_with (first
        | (refine wpList_box_v rfl 27 _ rfl d.cells rfl (by kernel_rfl) ?_; intro D w1 eD hD1 hb1 hz1; have c0 : w1.cell? ⟨D, 0, none⟩ = some (.int .i64 d.kind) := cell_of hD1.out rfl)
        | (go_at_call 35; (with_reducible refine (TGC.out w1).mono ?_); rintro e w2 ⟨rfl, hb2⟩; have HB2 := Aside0.mk (hb1.out.trans (hb2.mono hb1.out.size)); have HD2 := Aside0.mk ((hb2.block D (blk_lt hD1.out)).trans hD1.out); clear hb2)
        | (go_at_call 44; (with_reducible refine (RC.out _).mono ?_); rintro e w3 ⟨rfl, hb3⟩; have HB3 := Aside0.mk (HB2.out.trans (hb3.mono HB2.out.size)); have HD3 := Aside0.mk ((hb3.block D (blk_lt HD2.out)).trans HD2.out); have c14 : w3.cell? ⟨D, 14, none⟩ = some (.string d.tag) := cell_of HD3.out rfl; have f14 := Wd_thaw HD3.out 14; clear hb3)
        | (refine wpList_load_agg rfl 27 _ rfl D 0 rfl d2.cells (load_all (HROW.out ▸ set_of HD3.out 14 (.string (str (List.replicate 32 0))))) _ Tryz.underlying27 rfl (by kernel_rfl) ?_)
        | (go_at_call 16; (with_reducible refine (EC.out _).mono ?_); rintro e w4 ⟨rfl, hb4⟩; have HB4 := Aside0.mk (show Below w.heap.size w w4 from (below_set1 HB3.out (Nat.le_of_eq eD.out.symm) _).trans (hb4.mono (below_set1 HB3.out (Nat.le_of_eq eD.out.symm) _).size)); clear hb4))
      go_ret2
      rw [ES2.out]
      exact ⟨rfl, HB4.out⟩
  · have ES2 := Aside0.mk (show sealB d (bl k) = (⟨#[]⟩, 71) from if_neg h37)
    rw [decide_eq_false h37] at TGC
    clear h37 hg hd hkd hk
    go_enter Tryz.func18, Tryz.ntmps18
    go_wp2_with (first
      | (refine wpList_box_v rfl 27 _ rfl d.cells rfl (by kernel_rfl) ?_; intro D w1 eD hD1 hb1 hz1; have c0 : w1.cell? ⟨D, 0, none⟩ = some (.int .i64 d.kind) := cell_of hD1.out rfl)
      | (go_at_call 35; (with_reducible refine (TGC.out w1).mono ?_); rintro e w2 ⟨rfl, hb2⟩))
    go_ret2
    rw [ES2.out]
    exact ⟨rfl, hb1.out.trans (hb2.mono hb1.out.size)⟩
end Go.Proofs.YtniabkphbnimaaaGreatDoor.Sh
