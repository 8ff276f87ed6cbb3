/-
  No cell of these rows narrows 'for every input' (looked for: loops, veiled, ifaces, maps, wideKeys, modest, calm, conditions, laid).
  DERIVED. THE GIVEN ROWS OF THIS SEAT. 4 by the template 'for every input the law returns true; each argument reads behind the call as it read before'; 0 by the template 'total and deterministic' (their statements: YtggmfmlfkhcbdaaTotals.lean).
  GIVEN WITH THE SEED: the statements are not yours to turn. If you find one false, say at which input.
  Laid BY PROGRAM, IN A SANDBOX (cutbox-rows.mjs): the forced cells as the released guide's own fill.sh prints them over the translation 30850502961df3f2… (all of the seat's roots in one cut). By AI agents, Wed Nov 11 2026. No macro, syntax, notation, axiom, sorry.
-/
import Derived.Test.YtggmfmlfkhcbdaaChecked
import GoSem.Claim
import GoSem.ClaimJoined
import GoSem.ClaimMapViews
import Derived.JoinedTies
import Derived.KernelRfl
namespace Go.Proofs.Ytggmfmlfkhcbdaa
/- THE CELL 'sum', in the pinned program and in every row, IS THE sha256 OF THE DUMP (.gsa) THAT YtggmfmlfkhcbdaaProg.lean LOADS. Nothing in Lean hashes anything: it is a label: what it is worth is what the hold of that sum in a sandbox is worth. -/
noncomputable def Try.pinned : Pinned := { name := "ytggmfmlfkhcbdaa", sum := "30850502961df3f2cee1bd0636a0bd5bda1616a292dabd6bb3a9a4ca39a2c635", checked := Try.checked }
namespace Rows
def none {H : Type} : Left H := { results := [], args := [] }

/-- 'joustlaw20.GridPlays': WHATEVER THE INPUT: true; the input reads as it did. -/
def gridPlaysSpec : ChangeSpec := { name := "gridPlays", fn := fun _ => fun
  | [d1, d2] => { results := [.lit (.bool true)], args := [d1, d2] }
  | _ => none }
def gridPlaysRow : OpenClaim := { program := "ytggmfmlfkhcbdaa", sum := "30850502961df3f2cee1bd0636a0bd5bda1616a292dabd6bb3a9a4ca39a2c635", func := "joust/joustlaw20.GridPlays", spec := "gridPlays", unfollowed := true, recurses := true, plainKeys := false, apart := false }
def GridPlaysSaid : Prop := gridPlaysRow.holds Try.pinned (OpenSpec.ofChange gridPlaysSpec)

/-- ITS FALSE NEIGHBOUR: 'it returns false'. Refute it at one input. -/
def gridPlaysWrong : ChangeSpec := { name := "gridPlays", fn := fun _ => fun
  | [d1, d2] => { results := [.lit (.bool false)], args := [d1, d2] }
  | _ => none }
def GridPlaysWrongFalsely : Prop := gridPlaysRow.holds Try.pinned (OpenSpec.ofChange gridPlaysWrong)

/-- 'joustlaw20.GridSides': WHATEVER THE INPUT: true; the input reads as it did. -/
def gridSidesSpec : ChangeSpec := { name := "gridSides", fn := fun _ => fun
  | [d1, d2, d3] => { results := [.lit (.bool true)], args := [d1, d2, d3] }
  | _ => none }
def gridSidesRow : OpenClaim := { program := "ytggmfmlfkhcbdaa", sum := "30850502961df3f2cee1bd0636a0bd5bda1616a292dabd6bb3a9a4ca39a2c635", func := "joust/joustlaw20.GridSides", spec := "gridSides", unfollowed := true, recurses := true, plainKeys := false, apart := false }
def GridSidesSaid : Prop := gridSidesRow.holds Try.pinned (OpenSpec.ofChange gridSidesSpec)

/-- ITS FALSE NEIGHBOUR: 'it returns false'. Refute it at one input. -/
def gridSidesWrong : ChangeSpec := { name := "gridSides", fn := fun _ => fun
  | [d1, d2, d3] => { results := [.lit (.bool false)], args := [d1, d2, d3] }
  | _ => none }
def GridSidesWrongFalsely : Prop := gridSidesRow.holds Try.pinned (OpenSpec.ofChange gridSidesWrong)

/-- 'joustlaw20.GridNear': WHATEVER THE INPUT: true; the input reads as it did. -/
def gridNearSpec : ChangeSpec := { name := "gridNear", fn := fun _ => fun
  | [d1, d2] => { results := [.lit (.bool true)], args := [d1, d2] }
  | _ => none }
def gridNearRow : OpenClaim := { program := "ytggmfmlfkhcbdaa", sum := "30850502961df3f2cee1bd0636a0bd5bda1616a292dabd6bb3a9a4ca39a2c635", func := "joust/joustlaw20.GridNear", spec := "gridNear", unfollowed := true, recurses := true, plainKeys := false, apart := false }
def GridNearSaid : Prop := gridNearRow.holds Try.pinned (OpenSpec.ofChange gridNearSpec)

/-- ITS FALSE NEIGHBOUR: 'it returns false'. Refute it at one input. -/
def gridNearWrong : ChangeSpec := { name := "gridNear", fn := fun _ => fun
  | [d1, d2] => { results := [.lit (.bool false)], args := [d1, d2] }
  | _ => none }
def GridNearWrongFalsely : Prop := gridNearRow.holds Try.pinned (OpenSpec.ofChange gridNearWrong)

/-- 'joustlaw20.GridKeeps': WHATEVER THE INPUT: true; the input reads as it did. -/
def gridKeepsSpec : ChangeSpec := { name := "gridKeeps", fn := fun _ => fun
  | [d1, d2] => { results := [.lit (.bool true)], args := [d1, d2] }
  | _ => none }
def gridKeepsRow : OpenClaim := { program := "ytggmfmlfkhcbdaa", sum := "30850502961df3f2cee1bd0636a0bd5bda1616a292dabd6bb3a9a4ca39a2c635", func := "joust/joustlaw20.GridKeeps", spec := "gridKeeps", unfollowed := true, recurses := true, plainKeys := false, apart := false }
def GridKeepsSaid : Prop := gridKeepsRow.holds Try.pinned (OpenSpec.ofChange gridKeepsSpec)

/-- ITS FALSE NEIGHBOUR: 'it returns false'. Refute it at one input. -/
def gridKeepsWrong : ChangeSpec := { name := "gridKeeps", fn := fun _ => fun
  | [d1, d2] => { results := [.lit (.bool false)], args := [d1, d2] }
  | _ => none }
def GridKeepsWrongFalsely : Prop := gridKeepsRow.holds Try.pinned (OpenSpec.ofChange gridKeepsWrong)

/- THE SECOND FORM. 'bulk': how many values and letters a reading holds, each counted each time it is reached (what is shared counts as often as it is met; a slice's spare places count too). A statement '..UptoSaid' is the law's where the arguments, and the package variables that the reading takes, are together of bulk at most 1048576: NARROWER than '..Said'. Prove '..Said' where nothing that the law and all that it calls make is longer than what came in: it says more and counts as full. Else prove '..UptoSaid'. A law counts once. -/
mutual
def uptoBulk {H : Type} : DataW H → Nat
  | .lit (.string bytes) => bytes.length + 1
  | .lit _ => 1
  | .nil => 1
  | .ptr d => uptoBulk d + 1
  | .slice elems spare => uptoBulkAll elems + uptoBulkAll spare + 1
  | .agg parts => uptoBulkAll parts + 1
  | .iface _ d => uptoBulk d + 1
  | .map entries => uptoBulkEntries entries + 1
  | .held _ => 1
def uptoBulkAll {H : Type} : List (DataW H) → Nat
  | [] => 0
  | d :: r => uptoBulk d + uptoBulkAll r
def uptoBulkEntries {H : Type} : List (Lit × DataW H) → Nat
  | [] => 0
  | x :: r => uptoBulkEntry x + uptoBulkEntries r
def uptoBulkEntry {H : Type} : Lit × DataW H → Nat
  | (.string bytes, d) => bytes.length + uptoBulk d + 1
  | (_, d) => uptoBulk d + 1
 end
def uptoSmall : (H : Type) → List (DataW H) → Bool := fun _ ds => decide (uptoBulkAll ds ≤ 1048576)
def OpenSpec.upto (s : _root_.Go.ChangeSpec) : _root_.Go.OpenSpec := { _root_.Go.OpenSpec.ofChange s with cond := some uptoSmall }

/-- 'joustlaw20.GridPlays', WHERE WHAT IT READS IS OF BULK AT MOST 1048576: true; the input reads as it did. -/
def gridPlaysUptoRow : OpenClaim := { program := "ytggmfmlfkhcbdaa", sum := "30850502961df3f2cee1bd0636a0bd5bda1616a292dabd6bb3a9a4ca39a2c635", func := "joust/joustlaw20.GridPlays", spec := "gridPlays", unfollowed := true, recurses := true, plainKeys := false, apart := false, narrowed := true }
def GridPlaysUptoSaid : Prop := gridPlaysUptoRow.holds Try.pinned (OpenSpec.upto gridPlaysSpec)

/-- 'joustlaw20.GridSides', WHERE WHAT IT READS IS OF BULK AT MOST 1048576: true; the input reads as it did. -/
def gridSidesUptoRow : OpenClaim := { program := "ytggmfmlfkhcbdaa", sum := "30850502961df3f2cee1bd0636a0bd5bda1616a292dabd6bb3a9a4ca39a2c635", func := "joust/joustlaw20.GridSides", spec := "gridSides", unfollowed := true, recurses := true, plainKeys := false, apart := false, narrowed := true }
def GridSidesUptoSaid : Prop := gridSidesUptoRow.holds Try.pinned (OpenSpec.upto gridSidesSpec)

/-- 'joustlaw20.GridNear', WHERE WHAT IT READS IS OF BULK AT MOST 1048576: true; the input reads as it did. -/
def gridNearUptoRow : OpenClaim := { program := "ytggmfmlfkhcbdaa", sum := "30850502961df3f2cee1bd0636a0bd5bda1616a292dabd6bb3a9a4ca39a2c635", func := "joust/joustlaw20.GridNear", spec := "gridNear", unfollowed := true, recurses := true, plainKeys := false, apart := false, narrowed := true }
def GridNearUptoSaid : Prop := gridNearUptoRow.holds Try.pinned (OpenSpec.upto gridNearSpec)

/-- 'joustlaw20.GridKeeps', WHERE WHAT IT READS IS OF BULK AT MOST 1048576: true; the input reads as it did. -/
def gridKeepsUptoRow : OpenClaim := { program := "ytggmfmlfkhcbdaa", sum := "30850502961df3f2cee1bd0636a0bd5bda1616a292dabd6bb3a9a4ca39a2c635", func := "joust/joustlaw20.GridKeeps", spec := "gridKeeps", unfollowed := true, recurses := true, plainKeys := false, apart := false, narrowed := true }
def GridKeepsUptoSaid : Prop := gridKeepsUptoRow.holds Try.pinned (OpenSpec.upto gridKeepsSpec)

end Rows
end Go.Proofs.Ytggmfmlfkhcbdaa
