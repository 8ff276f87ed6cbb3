/- Steps; a script of steps that came in, opened. -/
import Derived.Test.YtggmfmlfkhcbdaaG5
import Derived.Deep.Slices
import Derived.ChangeArms
import Derived.SizedLaws
namespace Go.Proofs.Ytggmfmlfkhcbdaa.Gr
open Go Go.RowKit Go.ChangeShapes Go.WideShapes Go.Deep Go.Proofs.YtggmfmlfkhcbdaaW.PrintWords Go.Proofs.YtggmfmlfkhcbdaaW.PrintMore
set_option linter.unusedVariables false
set_option linter.unusedSimpArgs false

/-- A step. -/
structure St where
  op : Int
  id : Int
  x : Int
  y : Int
  r : Int
  n : Int
def St.wf (s : St) : Prop := I64 s.op ∧ I64 s.id ∧ I64 s.x ∧ I64 s.y ∧ I64 s.r ∧ I64 s.n
def z34 : St := ⟨0, 0, 0, 0, 0, 0⟩
def k34 : Kd St := Kd.iso (Kd.pair (Kd.int .i64) (Kd.pair (Kd.int .i64) (Kd.pair (Kd.int .i64) (Kd.pair (Kd.int .i64) (Kd.pair (Kd.int .i64) (Kd.int .i64)))))) (fun x : St => (x.op, x.id, x.x, x.y, x.r, x.n))
theorem k34_open {w : World} {x : St} {cs : List Value} (h : k34.K w x cs) : cs = [.int .i64 x.op, .int .i64 x.id, .int .i64 x.x, .int .i64 x.y, .int .i64 x.r, .int .i64 x.n] := by
  obtain ⟨_, _, rfl, rfl, ⟨_, _, rfl, rfl, ⟨_, _, rfl, rfl, ⟨_, _, rfl, rfl, ⟨_, _, rfl, rfl, rfl⟩⟩⟩⟩⟩ := h
  exact rfl
theorem k34_mk (w : World) (x : St) : k34.K w x [.int .i64 x.op, .int .i64 x.id, .int .i64 x.x, .int .i64 x.y, .int .i64 x.r, .int .i64 x.n] :=
  ⟨[.int .i64 x.op], [.int .i64 x.id, .int .i64 x.x, .int .i64 x.y, .int .i64 x.r, .int .i64 x.n], rfl, rfl, ⟨[.int .i64 x.id], [.int .i64 x.x, .int .i64 x.y, .int .i64 x.r, .int .i64 x.n], rfl, rfl, ⟨[.int .i64 x.x], [.int .i64 x.y, .int .i64 x.r, .int .i64 x.n], rfl, rfl, ⟨[.int .i64 x.y], [.int .i64 x.r, .int .i64 x.n], rfl, rfl, ⟨[.int .i64 x.r], [.int .i64 x.n], rfl, rfl, rfl⟩⟩⟩⟩⟩
/-- The step at an index, cell by cell. -/
theorem at_T34 {w : World} {A : Option Addr} {n : Nat} {xs : List St} (h : Kd.C k34 w A n xs) (i : Int) (h0 : 0 ≤ i) (h1 : i < n) : ∃ ad s, xs[i.toNat]? = some s ∧ A = some ad ∧ w.cell? (ad.add (i.toNat * 6)) = some (.int .i64 s.op) ∧ w.cell? ⟨(ad.add (i.toNat * 6)).block, (ad.add (i.toNat * 6)).off + 1, none⟩ = some (.int .i64 s.id) ∧ w.cell? ⟨(ad.add (i.toNat * 6)).block, (ad.add (i.toNat * 6)).off + 2, none⟩ = some (.int .i64 s.x) ∧ w.cell? ⟨(ad.add (i.toNat * 6)).block, (ad.add (i.toNat * 6)).off + 3, none⟩ = some (.int .i64 s.y) ∧ w.cell? ⟨(ad.add (i.toNat * 6)).block, (ad.add (i.toNat * 6)).off + 4, none⟩ = some (.int .i64 s.r) ∧ w.cell? ⟨(ad.add (i.toNat * 6)).block, (ad.add (i.toNat * 6)).off + 5, none⟩ = some (.int .i64 s.n) := by
  obtain ⟨ad, c, e, _, hK, hc0⟩ := Kd.C_get h z34 i h0 h1
  have hc : ∀ j u, c[j]? = some u → w.cell? (ad.add (i.toNat * 6 + j)) = some u := hc0
  obtain rfl := k34_open hK
  have hl : i.toNat < xs.length := by have := h.1; omega
  refine ⟨ad, xs.getD i.toNat z34, by simp [List.getD_eq_getElem?_getD, List.getElem?_eq_getElem hl], e, hc 0 _ rfl, by rw [← add_field _ _ 1 (by omega)]; exact hc 1 _ rfl, by rw [← add_field _ _ 2 (by omega)]; exact hc 2 _ rfl, by rw [← add_field _ _ 3 (by omega)]; exact hc 3 _ rfl, by rw [← add_field _ _ 4 (by omega)]; exact hc 4 _ rfl, by rw [← add_field _ _ 5 (by omega)]; exact hc 5 _ rfl⟩

section
variable {H : Type} {enc : TypeId × Value → H} {W : World} {base : Nat} {spare : Nat → Bool} {held : Bool}
theorem open_vec {n : Nat} {cs : List Value} {x : DataW H × List MemPlace} (h : DataW.trod enc Try.prog W base spare held n 32 cs = some x) (hl : cs.length = 2) :
    ∃ a b, cs = [.int .i64 a, .int .i64 b] ∧ I64 a ∧ I64 b := by
  obtain ⟨xs, k, _, _, _, hxl, hf⟩ := DataW.trod_struct Try.underlying32 h
  match cs, hl with
  | [v0, v1], _ =>
    have c2 : Try.prog.cellsOf 2 = 1 := by kernel_rfl
    have hx : xs.length = 2 := hxl
    match xs, hx with
    | [y0, y1], _ =>
      have g0 := hf 0 _ rfl
      have g1 := hf 1 _ rfl
      simp [c2] at g0 g1
      obtain ⟨t, e0, _, w0⟩ := DataW.trod_int Try.underlying2 g0
      obtain ⟨u, e1, _, w1⟩ := DataW.trod_int Try.underlying2 g1
      exact ⟨t, u, by simp at e0 e1; simp [e0, e1], wf_iff.1 w0, wf_iff.1 w1⟩
theorem open_step {n : Nat} {cs : List Value} {x : DataW H × List MemPlace} (h : DataW.trod enc Try.prog W base spare held n 34 cs = some x) (hl : cs.length = 6) :
    ∃ s : St, cs = [.int .i64 s.op, .int .i64 s.id, .int .i64 s.x, .int .i64 s.y, .int .i64 s.r, .int .i64 s.n] ∧ s.wf := by
  obtain ⟨xs, k, _, _, _, hxl, hf⟩ := DataW.trod_struct Try.underlying34 h
  match cs, hl with
  | [v0, v1, v2, v3, v4, v5], _ =>
    have c2 : Try.prog.cellsOf 2 = 1 := by kernel_rfl
    have c3 : Try.prog.cellsOf 3 = 1 := by kernel_rfl
    have c32 : Try.prog.cellsOf 32 = 2 := by kernel_rfl
    have hx : xs.length = 5 := hxl
    match xs, hx with
    | [y0, y1, y2, y3, y4], _ =>
      have g0 := hf 0 _ rfl
      have g1 := hf 1 _ rfl
      have g2 := hf 2 _ rfl
      have g3 := hf 3 _ rfl
      have g4 := hf 4 _ rfl
      simp [c2, c3, c32] at g0 g1 g2 g3 g4
      obtain ⟨o, e0, _, w0⟩ := DataW.trod_int Try.underlying3 g0
      obtain ⟨p, e1, _, w1⟩ := DataW.trod_int Try.underlying3 g1
      obtain ⟨a, b, e2, wa, wb⟩ := open_vec g2 rfl
      obtain ⟨r, e3, _, w3⟩ := DataW.trod_int Try.underlying2 g3
      obtain ⟨m, e4, _, w4⟩ := DataW.trod_int Try.underlying3 g4
      exact ⟨⟨o, p, a, b, r, m⟩, by simp at e0 e1 e2 e3 e4; simp [e0, e1, e2, e3, e4], wf_iff.1 w0, wf_iff.1 w1, wa, wb, wf_iff.1 w3, wf_iff.1 w4⟩
theorem open_steps {fuel : Nat} {cs : List Value} {x : DataW H × List MemPlace} (h : DataW.trod enc Try.prog W base spare held fuel 22 cs = some x) :
    cs = [.slice none 0 0] ∨ ∃ (a : Addr) (cap : Nat) (l : List St), cs = [.slice (some a) l.length cap] ∧ l.length ≤ cap ∧ cap ≤ maxLen ∧ Kd.C k34 W (some a) l.length l ∧ ∀ s ∈ l, s.wf := by
  rcases open_slice Try.underlying22 h with ⟨h0, _⟩ | ⟨a, len, cap, m, n, D, Pl, rfl, hb, hl, hm, hmm, rfl, hx⟩
  · exact .inl h0
  right
  have hlm : len ≤ m := by rw [hmm]; split <;> omega
  have c34 : Try.prog.cellsOf 34 = 6 := by kernel_rfl
  have each : ∀ i, i < m → ∃ s : St, s.wf ∧ ∀ j u, [Value.int .i64 s.op, .int .i64 s.id, .int .i64 s.x, .int .i64 s.y, .int .i64 s.r, .int .i64 s.n][j]? = some u → W.cell? (a.add (i * 6 + j)) = some u := by
    intro i hi
    obtain ⟨cs', h1, h2⟩ := hx i hi
    rw [c34] at h1
    obtain ⟨_, hlen, hcell⟩ := World.cells?_some h1
    obtain ⟨s, rfl, hw⟩ := open_step h2 hlen
    refine ⟨s, hw, fun j u hu => ?_⟩
    have hj : j < 6 := (List.getElem?_eq_some_iff.1 hu).1
    have e := hcell j hj
    rw [Go.Deep.add_add] at e
    rw [e]
    exact hu
  have : Inhabited St := ⟨z34⟩
  obtain ⟨q, hq⟩ := choose_lt (fun i hi => each i (Nat.lt_of_lt_of_le hi hlm))
  refine ⟨a, cap, (List.range len).map q, by simp, by simpa using hl, hm, ⟨rfl, by simp; have hM : maxLen ≤ 9223372036854775807 := (by decide); omega, fun _ => ⟨a, rfl, fun j p hj => ?_⟩⟩, ?_⟩
  · have hlt : j < len := by simpa using (List.getElem?_eq_some_iff.1 hj).1
    have hp : p = q j := by
      rw [List.getElem?_map, List.getElem?_range hlt] at hj
      exact (Option.some.inj hj).symm
    subst hp
    exact ⟨_, rfl, k34_mk W (q j), (hq j hlt).2⟩
  · intro s hs
    obtain ⟨i, hi, rfl⟩ := List.mem_map.1 hs
    exact (hq i (List.mem_range.1 hi)).1
/-- A script is no longer than its weight allows. -/
theorem sized_steps {a : Option Addr} {len cap : Nat} {d : DataW H} {ps : List MemPlace} {ts : List TypeId} {ds : List (DataW H)} {j : Nat}
    (hsz : (DataW.weightsEach Try.prog ts ds).all (· ≤ reachBytes) = true) (ht : ts[j]? = some 22) (hd : ds[j]? = some d)
    (h : DataW.Trod enc Try.prog W base spare held 22 (.slice a len cap) d ps) : len * 48 ≤ 140737488351232 := by
  obtain ⟨fuel, hf⟩ := h
  rcases open_slice Try.underlying22 hf with ⟨hcs, _⟩ | ⟨x, l, c, m, n, D, Pl, hcs, hb, hl, hm, hmm, hx, _⟩
  · simp [Value.cells] at hcs
    obtain ⟨rfl, rfl, rfl⟩ := hcs
    simp
  · simp [Value.cells] at hcs
    obtain ⟨rfl, rfl, rfl⟩ := hcs
    obtain ⟨hx, _⟩ := Prod.mk.inj hx
    subst hx
    have z := sized_slice hsz ht hd Try.underlying22
    rw [show Try.prog.bytesOf 34 = 48 by kernel_rfl, List.length_map, List.length_range, List.length_map, List.length_range] at z
    have hr : reachBytes = 140737488351232 := by decide
    rw [hr] at z
    have := Nat.mul_le_mul_right 48 (Nat.le_add_right len (m - len))
    omega
/-- The script that came in, as a list. -/
theorem script_in {a : Option Addr} {len cap : Nat} {d : DataW H} {ps : List MemPlace}
    (h : DataW.Trod enc Try.prog W base spare held 22 (.slice a len cap) d ps) : ∃ l : List St, len = l.length ∧ l.length ≤ cap ∧ Kd.C k34 W a l.length l ∧ ∀ s ∈ l, s.wf := by
  obtain ⟨fuel, hf⟩ := h
  rcases open_steps hf with hcs | ⟨x, c, l, hcs, hl, _, hC, hw⟩
  · simp [Value.cells] at hcs
    obtain ⟨rfl, rfl, rfl⟩ := hcs
    exact ⟨[], rfl, Nat.le_refl _, Kd.C_nil _ _, fun _ h => by cases h⟩
  · simp [Value.cells] at hcs
    obtain ⟨rfl, rfl, rfl⟩ := hcs
    exact ⟨l, rfl, hl, hC, hw⟩
end
/-- Two lists of numbers are told apart. -/
theorem ints_loop (a b : List Int) (hl : a.length = b.length) (hn : a.length ≤ 4000000000000) : ∀ (k : Nat) (i : Nat), i ≤ a.length → a.length - i < k → QQA.joustlaw20_ints.l0 k a b i = some (decide (a.drop i = b.drop i))
  | 0, i, hi, hk => by omega
  | k + 1, i, hi, hk => by
    unfold QQA.joustlaw20_ints.l0
    by_cases h : i < a.length
    · rw [if_pos (by omega), if_pos (by omega), if_pos (by omega)]
      have ha : a.drop i = a[i] :: a.drop (i + 1) := List.drop_eq_getElem_cons h
      have hb : b.drop i = b[i]'(by omega) :: b.drop (i + 1) := List.drop_eq_getElem_cons (by omega)
      have ra : rd a (i : Int) = a[i] := by simp [rd, List.getD_eq_getElem?_getD, List.getElem?_eq_getElem h]
      have rb : rd b (i : Int) = b[i]'(by omega) := by simp [rd, List.getD_eq_getElem?_getD, List.getElem?_eq_getElem (show i < b.length by omega)]
      rw [ra, rb, ha, hb]
      by_cases e : a[i] = b[i]'(by omega)
      · rw [if_pos e, wrap_id (by unfold I64; omega), show ((i : Int) + 1) = ((i + 1 : Nat) : Int) by omega, ints_loop a b hl hn k (i + 1) (by omega) (by omega), e]
        congr 1
        rw [decide_eq_decide, List.cons.injEq]
        exact ⟨fun h => ⟨rfl, h⟩, fun h => h.2⟩
      · rw [if_neg e, decide_eq_false (fun h => e (List.cons.inj h).1)]
    · rw [if_neg (by omega)]
      rw [List.drop_of_length_le (by omega), List.drop_of_length_le (by omega)]
      rfl
theorem ints_f (a b : List Int) (hn : a.length ≤ 4000000000000) : QQA.joustlaw20_ints.f (a.length + 1) a b = some (decide (a = b)) := by
  unfold QQA.joustlaw20_ints.f
  by_cases h : a.length = b.length
  · rw [if_pos (by omega)]
    have := ints_loop a b h hn (a.length + 1) 0 (by omega) (by omega)
    simpa using this
  · rw [if_neg (by omega)]
    have : a ≠ b := fun e => h (by rw [e])
    simp [this]
theorem ints_calls {w : World} {A B : Option Addr} {n m c d : Nat} {a b : List Int} (ha : ki.C w A n a) (hb : ki.C w B m b) (hc : n ≤ c) (hd : m ≤ d) (hn : n ≤ 4000000000000) (r : Bool) (hr : decide (a = b) = r) :
    Calls Try.prog 16 #[.slice A n c, .slice B m d] w fun e w' => e = .returned (.bool r) ∧ Drawn0 w w' := by
  obtain rfl : a.length = n := ha.1
  obtain rfl : b.length = m := hb.1
  subst hr
  exact QQA.joustlaw20_ints.calls (a.length + 1) A c a B d b _ w ha hc hb hd (ints_f a b hn)
end Go.Proofs.Ytggmfmlfkhcbdaa.Gr
