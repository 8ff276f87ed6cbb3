/-
  No cell of these rows narrows 'for every input' (looked for: loops, veiled, ifaces, maps, wideKeys, modest, calm, conditions, laid).
  DERIVED. THE GIVEN ROWS OF THIS SEAT. 4 by the template 'for every input the law returns true; each argument reads behind the call as it read before'; 0 by the template 'total and deterministic' (their statements: YtokemjdfcifbbaaTotals.lean).
  GIVEN WITH THE SEED: the statements are not yours to turn. If you find one false, say at which input.
  Laid BY PROGRAM, IN A SANDBOX (cutbox-rows.mjs): the forced cells as the released guide's own fill.sh prints them over the translation 303fbd4e488e1e01… (all of the seat's roots in one cut). By AI agents, Wed Nov 11 2026. No macro, syntax, notation, axiom, sorry.
-/
import Derived.Test.YtokemjdfcifbbaaChecked
import GoSem.Claim
import GoSem.ClaimJoined
import GoSem.ClaimMapViews
import Derived.JoinedTies
import Derived.KernelRfl
namespace Go.Proofs.Ytokemjdfcifbbaa
/- THE CELL 'sum', in the pinned program and in every row, IS THE sha256 OF THE DUMP (.gsa) THAT YtokemjdfcifbbaaProg.lean LOADS. Nothing in Lean hashes anything: it is a label: what it is worth is what the hold of that sum in a sandbox is worth. -/
noncomputable def Try.pinned : Pinned := { name := "ytokemjdfcifbbaa", sum := "303fbd4e488e1e013bb318c20b210579b69636b9374dbc2421982a845fc07264", checked := Try.checked }
namespace Rows
def none {H : Type} : Left H := { results := [], args := [] }

/-- 'joustlaw18.GatePlays': WHATEVER THE INPUT: true; the input reads as it did. -/
def gatePlaysSpec : ChangeSpec := { name := "gatePlays", fn := fun _ => fun
  | [d] => { results := [.lit (.bool true)], args := [d] }
  | _ => none }
def gatePlaysRow : OpenClaim := { program := "ytokemjdfcifbbaa", sum := "303fbd4e488e1e013bb318c20b210579b69636b9374dbc2421982a845fc07264", func := "joust/joustlaw18.GatePlays", spec := "gatePlays", unfollowed := true, recurses := true, apart := false }
def GatePlaysSaid : Prop := gatePlaysRow.holds Try.pinned (OpenSpec.ofChange gatePlaysSpec)

/-- ITS FALSE NEIGHBOUR: 'it returns false'. Refute it at one input. -/
def gatePlaysWrong : ChangeSpec := { name := "gatePlays", fn := fun _ => fun
  | [d] => { results := [.lit (.bool false)], args := [d] }
  | _ => none }
def GatePlaysWrongFalsely : Prop := gatePlaysRow.holds Try.pinned (OpenSpec.ofChange gatePlaysWrong)

/-- 'joustlaw18.GateOnce': WHATEVER THE INPUT: true; the input reads as it did. -/
def gateOnceSpec : ChangeSpec := { name := "gateOnce", fn := fun _ => fun
  | [d] => { results := [.lit (.bool true)], args := [d] }
  | _ => none }
def gateOnceRow : OpenClaim := { program := "ytokemjdfcifbbaa", sum := "303fbd4e488e1e013bb318c20b210579b69636b9374dbc2421982a845fc07264", func := "joust/joustlaw18.GateOnce", spec := "gateOnce", unfollowed := true, recurses := true, apart := false }
def GateOnceSaid : Prop := gateOnceRow.holds Try.pinned (OpenSpec.ofChange gateOnceSpec)

/-- ITS FALSE NEIGHBOUR: 'it returns false'. Refute it at one input. -/
def gateOnceWrong : ChangeSpec := { name := "gateOnce", fn := fun _ => fun
  | [d] => { results := [.lit (.bool false)], args := [d] }
  | _ => none }
def GateOnceWrongFalsely : Prop := gateOnceRow.holds Try.pinned (OpenSpec.ofChange gateOnceWrong)

/-- 'joustlaw18.GateApart': WHATEVER THE INPUT: true; the input reads as it did. -/
def gateApartSpec : ChangeSpec := { name := "gateApart", fn := fun _ => fun
  | [d1, d2] => { results := [.lit (.bool true)], args := [d1, d2] }
  | _ => none }
def gateApartRow : OpenClaim := { program := "ytokemjdfcifbbaa", sum := "303fbd4e488e1e013bb318c20b210579b69636b9374dbc2421982a845fc07264", func := "joust/joustlaw18.GateApart", spec := "gateApart", unfollowed := true, recurses := true, apart := false }
def GateApartSaid : Prop := gateApartRow.holds Try.pinned (OpenSpec.ofChange gateApartSpec)

/-- ITS FALSE NEIGHBOUR: 'it returns false'. Refute it at one input. -/
def gateApartWrong : ChangeSpec := { name := "gateApart", fn := fun _ => fun
  | [d1, d2] => { results := [.lit (.bool false)], args := [d1, d2] }
  | _ => none }
def GateApartWrongFalsely : Prop := gateApartRow.holds Try.pinned (OpenSpec.ofChange gateApartWrong)

/-- 'joustlaw18.GateKeeps': WHATEVER THE INPUT: true; the input reads as it did. -/
def gateKeepsSpec : ChangeSpec := { name := "gateKeeps", fn := fun _ => fun
  | [d] => { results := [.lit (.bool true)], args := [d] }
  | _ => none }
def gateKeepsRow : OpenClaim := { program := "ytokemjdfcifbbaa", sum := "303fbd4e488e1e013bb318c20b210579b69636b9374dbc2421982a845fc07264", func := "joust/joustlaw18.GateKeeps", spec := "gateKeeps", unfollowed := true, recurses := true, apart := false }
def GateKeepsSaid : Prop := gateKeepsRow.holds Try.pinned (OpenSpec.ofChange gateKeepsSpec)

/-- ITS FALSE NEIGHBOUR: 'it returns false'. Refute it at one input. -/
def gateKeepsWrong : ChangeSpec := { name := "gateKeeps", fn := fun _ => fun
  | [d] => { results := [.lit (.bool false)], args := [d] }
  | _ => none }
def GateKeepsWrongFalsely : Prop := gateKeepsRow.holds Try.pinned (OpenSpec.ofChange gateKeepsWrong)

/- THE SECOND FORM. 'bulk': how many values and letters a reading holds, each counted each time it is reached (what is shared counts as often as it is met; a slice's spare places count too). A statement '..UptoSaid' is the law's where the arguments, and the package variables that the reading takes, are together of bulk at most 1048576: NARROWER than '..Said'. Prove '..Said' where nothing that the law and all that it calls make is longer than what came in: it says more and counts as full. Else prove '..UptoSaid'. A law counts once. -/
mutual
def uptoBulk {H : Type} : DataW H → Nat
  | .lit (.string bytes) => bytes.length + 1
  | .lit _ => 1
  | .nil => 1
  | .ptr d => uptoBulk d + 1
  | .slice elems spare => uptoBulkAll elems + uptoBulkAll spare + 1
  | .agg parts => uptoBulkAll parts + 1
  | .iface _ d => uptoBulk d + 1
  | .map entries => uptoBulkEntries entries + 1
  | .held _ => 1
def uptoBulkAll {H : Type} : List (DataW H) → Nat
  | [] => 0
  | d :: r => uptoBulk d + uptoBulkAll r
def uptoBulkEntries {H : Type} : List (Lit × DataW H) → Nat
  | [] => 0
  | x :: r => uptoBulkEntry x + uptoBulkEntries r
def uptoBulkEntry {H : Type} : Lit × DataW H → Nat
  | (.string bytes, d) => bytes.length + uptoBulk d + 1
  | (_, d) => uptoBulk d + 1
 end
def uptoSmall : (H : Type) → List (DataW H) → Bool := fun _ ds => decide (uptoBulkAll ds ≤ 1048576)
def OpenSpec.upto (s : _root_.Go.ChangeSpec) : _root_.Go.OpenSpec := { _root_.Go.OpenSpec.ofChange s with cond := some uptoSmall }

/-- 'joustlaw18.GatePlays', WHERE WHAT IT READS IS OF BULK AT MOST 1048576: true; the input reads as it did. -/
def gatePlaysUptoRow : OpenClaim := { program := "ytokemjdfcifbbaa", sum := "303fbd4e488e1e013bb318c20b210579b69636b9374dbc2421982a845fc07264", func := "joust/joustlaw18.GatePlays", spec := "gatePlays", unfollowed := true, recurses := true, apart := false, narrowed := true }
def GatePlaysUptoSaid : Prop := gatePlaysUptoRow.holds Try.pinned (OpenSpec.upto gatePlaysSpec)

/-- 'joustlaw18.GateOnce', WHERE WHAT IT READS IS OF BULK AT MOST 1048576: true; the input reads as it did. -/
def gateOnceUptoRow : OpenClaim := { program := "ytokemjdfcifbbaa", sum := "303fbd4e488e1e013bb318c20b210579b69636b9374dbc2421982a845fc07264", func := "joust/joustlaw18.GateOnce", spec := "gateOnce", unfollowed := true, recurses := true, apart := false, narrowed := true }
def GateOnceUptoSaid : Prop := gateOnceUptoRow.holds Try.pinned (OpenSpec.upto gateOnceSpec)

/-- 'joustlaw18.GateApart', WHERE WHAT IT READS IS OF BULK AT MOST 1048576: true; the input reads as it did. -/
def gateApartUptoRow : OpenClaim := { program := "ytokemjdfcifbbaa", sum := "303fbd4e488e1e013bb318c20b210579b69636b9374dbc2421982a845fc07264", func := "joust/joustlaw18.GateApart", spec := "gateApart", unfollowed := true, recurses := true, apart := false, narrowed := true }
def GateApartUptoSaid : Prop := gateApartUptoRow.holds Try.pinned (OpenSpec.upto gateApartSpec)

/-- 'joustlaw18.GateKeeps', WHERE WHAT IT READS IS OF BULK AT MOST 1048576: true; the input reads as it did. -/
def gateKeepsUptoRow : OpenClaim := { program := "ytokemjdfcifbbaa", sum := "303fbd4e488e1e013bb318c20b210579b69636b9374dbc2421982a845fc07264", func := "joust/joustlaw18.GateKeeps", spec := "gateKeeps", unfollowed := true, recurses := true, apart := false, narrowed := true }
def GateKeepsUptoSaid : Prop := gateKeepsUptoRow.holds Try.pinned (OpenSpec.upto gateKeepsSpec)

end Rows
end Go.Proofs.Ytokemjdfcifbbaa
