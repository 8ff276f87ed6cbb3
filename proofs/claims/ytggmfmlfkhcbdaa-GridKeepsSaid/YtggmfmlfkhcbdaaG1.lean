/- The two maps of a grid: how their entries read; what a call may touch. -/
import Derived.Test.YtggmfmlfkhcbdaaG0
import Derived.Maps.OwnSet
import Derived.WalkKit
import Derived.WalkSpells
import Derived.Below
import Derived.DeepKeys4
import Derived.WideKeyEntry
import Derived.Maps.Ext
namespace Go.Proofs.Ytggmfmlfkhcbdaa.Gr
open Go Go.RowKit Go.Maps
set_option linter.unusedVariables false

theorem law3 : Keyed Try.prog 3 := int_keyed Try.underlying3
theorem laid : laidOutB Try.prog = true := by kernel_rfl
theorem kt60 : Try.prog.keyTypeAt 3 60 = true := by kernel_rfl
theorem law60L : WideMaps.KeyLaw Try.prog 60 := deep_law_laid (m := 3) laid (by decide) (by decide +kernel) kt60 (by rw [Try.underlying60])
theorem law60 : Keyed Try.prog 60 := Keyed.of_law law60L
theorem zero32 (w : World) : (zeroValue 32).run Try.prog w = .ok (.agg #[.int .i64 0, .int .i64 0]) w := by kernel_rfl
theorem zero40 (w : World) : (zeroValue 40).run Try.prog w = .ok (.slice none 0 0) w := by kernel_rfl

/-- A thing. -/
structure Th where
  id : Int
  x : Int
  y : Int
deriving DecidableEq
def thVal (t : Th) : Value := .agg #[.int .i64 t.x, .int .i64 t.y]
def thData {H : Type} (t : Th) : DataW H := .agg [.lit (.int .i64 t.id), .lit (.int .i64 t.x), .lit (.int .i64 t.y)]
abbrev Dt := DataW Unit

def ck (x y : Int) : Lit := .string (keyBytes [.int .i64 x, .int .i64 y])
theorem key60 {x y : Int} (hx : I64 x) (hy : I64 y) : keyOf Try.prog 60 (.agg #[.int .i64 x, .int .i64 y]) = some (ck x y) := by
  have h1 := wf_iff.2 hx
  have h2 := wf_iff.2 hy
  have kt : Try.prog.keyType 60 = true := by kernel_rfl
  have h3 : 1 ≤ Try.prog.types.size := by decide +kernel
  obtain ⟨m, hm⟩ : ∃ m, Try.prog.types.size + 1 = m + 2 := ⟨Try.prog.types.size - 1, by omega⟩
  have c60 : Try.prog.cellsOf 60 = 2 := by kernel_rfl
  have c2 : Try.prog.cellsOf 2 = 1 := by kernel_rfl
  have hf : Value.formed Try.prog 60 (.agg #[.int .i64 x, .int .i64 y]) = true := by
    first | kernel_rfl | rfl | simp [Value.formed, Try.underlying60, Try.underlying2]
  have hl : ∀ m, Try.prog.keyLits (m + 2) 60 [.int .i64 x, .int .i64 y] = some [.int .i64 x, .int .i64 y] := by
    intro m
    simp [Program.keyLits, Try.underlying60, Try.underlying2, c60, c2, h1, h2]
  unfold keyOf
  rw [Try.underlying60]
  simp only [kt, hf, hm]
  show Option.map _ (Try.prog.keyLits (m + 2) 60 (Value.cells (.agg #[.int .i64 x, .int .i64 y])).toList) = _
  have hc : (Value.cells (.agg #[.int .i64 x, .int .i64 y])).toList = [.int .i64 x, .int .i64 y] := by rfl
  rw [hc, hl]
  rfl
theorem ck_inj {x y a b : Int} (hx : I64 x) (hy : I64 y) (ha : I64 a) (hb : I64 b) (h : ck x y = ck a b) : x = a ∧ y = b := by
  have h1 := key60 hx hy
  rw [h] at h1
  have h2 := law60.inj h1 (key60 ha hb)
  simpa using h2
theorem ck_lit (x y : Int) : WideAt.IsKeyLit (ck x y) := trivial

/-! what an entry reads as -/
def vData {H : Type} (x y : Int) : DataW H := .agg [.lit (.int .i64 x), .lit (.int .i64 y)]
def vElem {H : Type} : Value → Option (DataW H × List MemPlace)
  | .agg cs => match cs.toList with
    | [.int .i64 x, .int .i64 y] => some (vData x y, [])
    | _ => none
  | _ => none
theorem vElem_val {H : Type} (x y : Int) : vElem (H := H) (.agg #[.int .i64 x, .int .i64 y]) = some (vData x y, []) := rfl
theorem vElem_inv {H : Type} {v : Value} {z : DataW H × List MemPlace} (h : vElem v = some z) : ∃ x y, v = .agg #[.int .i64 x, .int .i64 y] ∧ z = (vData x y, []) := by
  unfold vElem at h
  cases v <;> simp at h
  rename_i cs
  split at h
  · rename_i x y e
    obtain rfl : cs = #[.int .i64 x, .int .i64 y] := by
      rw [← Array.toArray_toList (xs := cs), e]
    exact ⟨x, y, rfl, by simpa using h.symm⟩
  · cases h
theorem vData_inj {H : Type} {x y a b : Int} (h : vData (H := H) x y = vData a b) : x = a ∧ y = b := by
  simp [vData] at h
  exact h

/-- The header of a cell's list: its block, its length, its room. -/
abbrev Hd := Option (Nat × Nat × Nat)
def hdVal : Hd → Value
  | none => .slice none 0 0
  | some (g, n, c) => .slice (some ⟨g, 0, none⟩) n c
def hdData {H : Type} : Hd → DataW H
  | none => .nil
  | some (g, n, c) => .agg [.lit (.int .i64 g), .lit (.int .i64 n), .lit (.int .i64 c)]
def hdElem {H : Type} : Value → Option (DataW H × List MemPlace)
  | .slice none 0 0 => some (hdData none, [])
  | .slice (some ⟨g, 0, none⟩) n c => some (hdData (some (g, n, c)), [])
  | _ => none
theorem hdElem_val {H : Type} (h : Hd) : hdElem (H := H) (hdVal h) = some (hdData h, []) := by
  rcases h with _ | ⟨g, n, c⟩ <;> rfl
theorem hdElem_inv {H : Type} {v : Value} {z : DataW H × List MemPlace} (h : hdElem v = some z) : ∃ q, v = hdVal q ∧ z = (hdData q, []) := by
  unfold hdElem at h
  split at h
  · exact ⟨none, rfl, by simpa using h.symm⟩
  · rename_i g n c
    exact ⟨some (g, n, c), rfl, by simpa using h.symm⟩
  · cases h
theorem hdData_inj {H : Type} {p q : Hd} (h : hdData (H := H) p = hdData q) : p = q := by
  rcases p with _ | ⟨g, n, c⟩ <;> rcases q with _ | ⟨g', n', c'⟩ <;> simp [hdData] at h ⊢
  obtain ⟨h1, h2, h3⟩ := h
  exact ⟨by exact_mod_cast h1, by exact_mod_cast h2, by exact_mod_cast h3⟩

/-- The cells' map: at each cell the header of its list. -/
def CellsAt (w : World) (cb n : Nat) (hd : Int → Int → Hd) : Prop :=
  ∃ D : Dt, w.ownsMap Try.prog 60 hdElem cb n D ∧ ∀ x y, I64 x → I64 y → ∀ z, D.atKey (ck x y) z = match hd x y with | none => z | some h => hdData (some h)
def updH (hd : Int → Int → Hd) (x y : Int) (h : Hd) : Int → Int → Hd := fun a b => if a = x ∧ b = y then h else hd a b
theorem updH_same (hd : Int → Int → Hd) (x y : Int) (h : Hd) : updH hd x y h x y = h := by simp [updH]
theorem updH_other (hd : Int → Int → Hd) {x y a b : Int} (h : Hd) (hne : ¬ (a = x ∧ b = y)) : updH hd x y h a b = hd a b := by simp only [updH, hne, if_false]

theorem CellsAt.block {w w' : World} {cb n : Nat} {hd : Int → Int → Hd} (h : CellsAt w cb n hd) (hb : w'.heap[cb]? = w.heap[cb]?) : CellsAt w' cb n hd := by
  obtain ⟨D, ⟨es, clock, e, r⟩, hat⟩ := h
  exact ⟨D, ⟨es, clock, hb.trans e, r⟩, hat⟩
theorem CellsAt.lt {w : World} {cb n : Nat} {hd : Int → Int → Hd} (h : CellsAt w cb n hd) : cb < w.heap.size := by
  obtain ⟨D, h1, _⟩ := h
  exact h1.lt
theorem CellsAt.mono {w : World} {cb n n' : Nat} {hd : Int → Int → Hd} (h : CellsAt w cb n hd) (hn : n ≤ n') : CellsAt w cb n' hd := by
  obtain ⟨D, h1, h2⟩ := h
  exact ⟨D, h1.mono hn, h2⟩
theorem CellsAt.made (w : World) : CellsAt (w.alloc (.map #[] 0)) w.heap.size 0 (fun _ _ => none) :=
  ⟨_, World.ownsMap_made w Try.prog 60 hdElem, fun x y _ _ z => rfl⟩
theorem CellsAt.look {w : World} {cb n : Nat} {hd : Int → Int → Hd} (h : CellsAt w cb n hd) {x y : Int} (hx : I64 x) (hy : I64 y) :
    (Instr.lookup 53 (.map (some cb)) (.agg #[.int .i64 x, .int .i64 y]) false).run Try.prog w = .ok (hdVal (hd x y)) w := by
  obtain ⟨D, h1, hat⟩ := h
  obtain ⟨v, ps, hrun, hv⟩ := h1.lookup law60 Try.underlying53 (zero40 w) (hdElem_val none) (key60 hx hy)
  rw [hat x y hx hy] at hv
  obtain ⟨q, rfl, e⟩ := hdElem_inv hv
  have e1 : hdData (H := Unit) (hd x y) = hdData q := by
    cases hh : hd x y <;> rw [hh] at e <;> injection e
  rw [hrun, ← hdData_inj e1]
theorem CellsAt.put_at {D : Dt} {hd : Int → Int → Hd} {x y : Int} {q : Nat × Nat × Nat} (hm : IsMap D) (hx : I64 x) (hy : I64 y) (hat : ∀ x y, I64 x → I64 y → ∀ z, D.atKey (ck x y) z = match hd x y with | none => z | some h => hdData (some h)) :
    ∀ a b, I64 a → I64 b → ∀ z, (D.put (ck x y) (hdData (some q))).atKey (ck a b) z = match updH hd x y (some q) a b with | none => z | some h => hdData (some h) := by
  intro a b ha hb z
  by_cases e : a = x ∧ b = y
  · obtain ⟨rfl, rfl⟩ := e
    rw [updH_same, atKey_put_same hm (ck_lit _ _)]
  · rw [updH_other _ _ e, atKey_put_other (fun h => e (ck_inj ha hb hx hy h))]
    exact hat a b ha hb z
theorem CellsAt.store {w : World} {cb n : Nat} {hd : Int → Int → Hd} (h : CellsAt w cb n hd) (hn : n < maxLen) {x y : Int} (hx : I64 x) (hy : I64 y) (q : Nat × Nat × Nat) :
    ∃ w', (Instr.mapUpdate 53 (.map (some cb)) (.agg #[.int .i64 x, .int .i64 y]) (hdVal (some q))).run Try.prog w = .ok () w' ∧ CellsAt w' cb (n + 1) (updH hd x y (some q)) ∧ w.mapTurned w' cb := by
  obtain ⟨D, h1, hat⟩ := h
  obtain ⟨w', hrun, h2, ht⟩ := h1.store law60 Try.underlying53 hn (key60 hx hy) (hdElem_val (some q))
  exact ⟨w', hrun, ⟨_, h2, put_at h1.isMap hx hy hat⟩, ht⟩
theorem CellsAt.drop {w : World} {cb n : Nat} {hd : Int → Int → Hd} (h : CellsAt w cb n hd) {x y : Int} (hx : I64 x) (hy : I64 y) (ty : TypeId) :
    ∃ w', (Builtin.delete_ #[53, 60] ty #[.map (some cb), .agg #[.int .i64 x, .int .i64 y]]).run Try.prog w = .ok (.tuple #[]) w' ∧ CellsAt w' cb n (updH hd x y none) ∧ w.mapTurned w' cb := by
  obtain ⟨D, h1, hat⟩ := h
  obtain ⟨w', hrun, h2, ht⟩ := h1.drop law60 Try.underlying53 (key60 hx hy) ty
  refine ⟨w', hrun, ⟨_, h2, fun a b ha hb z => ?_⟩, ht⟩
  by_cases e : a = x ∧ b = y
  · obtain ⟨rfl, rfl⟩ := e
    rw [updH_same, atKey_del_same]
  · rw [updH_other _ _ e, atKey_del_other (fun h => e (ck_inj ha hb hx hy h))]
    exact hat a b ha hb z
theorem stamped_one {es : Array MapEntry} {clock : Nat} (h : MapKept.Stamped es clock) {a b : MapEntry} (ha : a ∈ es.toList) (hb : b ∈ es.toList) (e : a.key = b.key) : a = b := by
  have h3 := ((MapKept.stamped_iff es clock).1 h).2.2
  by_cases hne : a = b
  · exact hne
  · exfalso
    have : ∀ l : List MapEntry, l.Pairwise (fun x y => x.key ≠ y.key) → a ∈ l → b ∈ l → False := by
      intro l
      induction l with
      | nil => intro _ h; cases h
      | cons c r ih =>
        intro hp h1 h2
        rw [List.pairwise_cons] at hp
        rcases List.mem_cons.1 h1 with h1 | h1 <;> rcases List.mem_cons.1 h2 with h2 | h2
        · exact hne (h1.trans h2.symm)
        · exact hp.1 b h2 (by rw [← h1]; exact e)
        · exact hp.1 a h1 (by rw [← h2]; exact e.symm)
        · exact ih hp.2 h1 h2
    exact this _ h3 ha hb
/-- 'm[c] = append(m[c], ..)': the entry is asked for, and stored into. -/
theorem CellsAt.entry {w : World} {cb n : Nat} {hd : Int → Int → Hd} (h : CellsAt w cb n hd) (hn : n < maxLen) {x y : Int} (hx : I64 x) (hy : I64 y) :
    ∃ (st : Nat) (es1 : Array MapEntry) (clock1 : Nat), (Instr.mapEntry 53 (.map (some cb)) (.agg #[.int .i64 x, .int .i64 y])).run Try.prog w = .ok (.tuple #[hdVal (hd x y), goInt st]) (ChangeMaps.setBlock w cb (.map es1 clock1)) ∧ w.mapTurned (ChangeMaps.setBlock w cb (.map es1 clock1)) cb ∧
      ∀ (w2 : World) (q : Nat × Nat × Nat), w2.heap[cb]? = some (.map es1 clock1) → ∃ w3, (Instr.entryStore 53 (.map (some cb)) (goInt st) (hdVal (some q))).run Try.prog w2 = .ok () w3 ∧ CellsAt w3 cb (n + 1) (updH hd x y (some q)) ∧ w2.mapTurned w3 cb := by
  have hlook := h.look hx hy
  obtain ⟨D, h1, hat⟩ := h
  have h1' := h1
  obtain ⟨es, clock, hb, F, hs, hD⟩ := h1'
  obtain ⟨v0, st, es1, clock1, hrun, hv0, hstore⟩ := WideElems.entry_then_store law60L Try.underlying53 (z := .slice none 0 0) (fun u => zero40 u) hb F (key60 hx hy)
  have e0 : v0 = hdVal (hd x y) := by
    rcases Maps.fit_look false law60 Try.underlying53 (zero40 w) hb F (key60 hx hy) with ⟨hr, h2, _⟩ | ⟨e0, y0, hm, hk, hr, _⟩
    · rw [hlook] at hr
      rcases hv0 with ⟨e1, hm1, hk1, _⟩ | ⟨_, rfl⟩
      · exact absurd hk1 (h2 e1 hm1)
      · have := hr
        simp at this
        exact this.symm
    · rw [hlook] at hr
      rcases hv0 with ⟨e1, hm1, hk1, rfl⟩ | ⟨h2, _⟩
      · have := stamped_one F.stamped hm hm1 (hk.trans hk1.symm)
        subst this
        have := hr
        simp at this
        exact this.symm
      · exact absurd hk (h2 e0 hm)
  subst e0
  refine ⟨st, es1, clock1, hrun, ⟨es, clock, es1, clock1, hb, rfl⟩, fun w2 q hw2 => ?_⟩
  obtain ⟨es', clock', hr2, hu⟩ := hstore w2 (hdVal (some q)) hw2
  obtain ⟨w', hru, h2, ht⟩ := h1.store law60 Try.underlying53 hn (key60 hx hy) (hdElem_val (some q))
  rw [hu] at hru
  have ew : ChangeMaps.setBlock w cb (.map es' clock') = w' := by simpa using hru
  subst ew
  obtain ⟨es2, clock2, hb2, r2⟩ := h2
  have hb3 : (ChangeMaps.setBlock w cb (.map es' clock')).heap[cb]? = some (.map es' clock') := ChangeMaps.heap_setBlock_same hb _
  rw [hb3] at hb2
  have hb4 : (ChangeMaps.setBlock w2 cb (.map es' clock')).heap[cb]? = some (.map es' clock') := ChangeMaps.heap_setBlock_same hw2 _
  exact ⟨_, hr2, ⟨_, ⟨es2, clock2, hb4.trans hb2, r2⟩, put_at h1.isMap hx hy hat⟩, ⟨es1, clock1, es', clock', hw2, rfl⟩⟩

/-! what a call may touch -/
/-- From w to w': nothing but the blocks of S, and what is new, has turned. -/
structure Mv (w w' : World) (S : Nat → Prop) : Prop where
  os : w'.os = w.os
  tape : w'.tape = w.tape
  output : w'.output = w.output
  size : w.heap.size ≤ w'.heap.size
  block : ∀ k, k < w.heap.size → ¬ S k → w'.heap[k]? = w.heap[k]?
theorem Mv.refl (w : World) (S : Nat → Prop) : Mv w w S := ⟨rfl, rfl, rfl, Nat.le_refl _, fun _ _ _ => rfl⟩
theorem Mv.of_below {w w' : World} (h : Below w.heap.size w w') (S : Nat → Prop) : Mv w w' S := ⟨h.os, h.tape, h.output, h.size, fun k hk _ => h.block k hk⟩
theorem Mv.of_grown {w w' : World} {row : Option Nat} {S : Nat → Prop} (h : w.grownBy w' row) (hr : ∀ k, row = some k → S k) : Mv w w' S := ⟨h.os, h.tape, h.output, h.size, fun k hk hn => h.block k hk (fun e => hn (hr k e.symm))⟩
theorem Mv.then {w w1 w2 : World} {S S2 : Nat → Prop} (h : Mv w w1 S) (k : Mv w1 w2 S2) (hs : ∀ j, S2 j → S j ∨ w.heap.size ≤ j) : Mv w w2 S :=
  ⟨k.os.trans h.os, k.tape.trans h.tape, k.output.trans h.output, Nat.le_trans h.size k.size, fun j hj hn => (k.block j (Nat.lt_of_lt_of_le hj h.size) (fun h2 => (hs j h2).elim hn (fun h3 => by omega))).trans (h.block j hj hn)⟩
theorem Mv.below {w w1 w2 : World} {S : Nat → Prop} (h : Mv w w1 S) (k : Below w1.heap.size w1 w2) : Mv w w2 S := h.then (Mv.of_below k (fun _ => False)) (fun _ h => h.elim)
theorem Mv.toBelow {w w1 w2 : World} {S : Nat → Prop} (hb : Below w.heap.size w w1) (h : Mv w1 w2 S) (hS : ∀ k, S k → w.heap.size ≤ k) : Below w.heap.size w w2 :=
  ⟨h.os.trans hb.os, h.tape.trans hb.tape, h.output.trans hb.output, Nat.le_trans hb.size h.size, fun k hk => (h.block k (Nat.lt_of_lt_of_le hk hb.size) (fun hs => by have := hS k hs; omega)).trans (hb.block k hk)⟩
theorem Mv.mono {w w' : World} {S S' : Nat → Prop} (h : Mv w w' S) (hs : ∀ k, S k → S' k) : Mv w w' S' := ⟨h.os, h.tape, h.output, h.size, fun k hk hn => h.block k hk (fun h2 => hn (hs k h2))⟩
theorem Mv.cell {w w' : World} {S : Nat → Prop} (h : Mv w w' S) {a : Addr} {v : Value} (hc : w.cell? a = some v) (hn : ¬ S a.block) : w'.cell? a = some v := by
  have := h.block a.block (World.block_lt_of_cell? w a hc) hn
  simpa [World.cell?, this] using hc
end Go.Proofs.Ytggmfmlfkhcbdaa.Gr
