/-
  NARROWER THAN 'FOR EVERY INPUT', by the rows' own cells (each row's printed sentence says how): NameAsks: laid · NameFolds: laid · NameCuts: laid · NameNear: laid · NameChanges: laid · NameRunes: laid.
  DERIVED. THE GIVEN ROWS OF THIS SEAT. 6 by the template 'for every input the law returns true; each argument reads behind the call as it read before'; 0 by the template 'total and deterministic' (their statements: YtlmbkliieckakaaDoorTotals.lean).
  GIVEN WITH THE SEED: the statements are not yours to turn. If you find one false, say at which input.
  Laid BY PROGRAM, IN A SANDBOX (cutbox-rows.mjs): the forced cells as the released guide's own fill.sh prints them over the translation bb6e52b33356d793… (all of the seat's roots in one cut). By AI agents, Wed Nov 11 2026. No macro, syntax, notation, axiom, sorry.
-/
import Derived.Test.YtlmbkliieckakaaDoorChecked
import GoSem.Claim
import GoSem.ClaimJoined
import GoSem.ClaimMapViews
import Derived.JoinedTies
import Derived.KernelRfl
namespace Go.Proofs.YtlmbkliieckakaaDoor
/- THE CELL 'sum', in the pinned program and in every row, IS THE sha256 OF THE DUMP (.gsa) THAT YtlmbkliieckakaaDoorProg.lean LOADS. Nothing in Lean hashes anything: it is a label: what it is worth is what the hold of that sum in a sandbox is worth. -/
noncomputable def Tryd.pinned : Pinned := { name := "ytlmbkliieckakaadoor", sum := "bb6e52b33356d793322a7b3937aef997903dc1f382bf643884c7c385e6a62a59", checked := Tryd.checked }
namespace Rows
def none {H : Type} : Left H := { results := [], args := [] }

/- WHAT THE LISTED PACKAGE-LEVEL VARIABLES READ AS WHEN THE CALL BEGINS. Each datum BY PROGRAM (the guide's laid-datum.mjs) off the statement by which the dump's own 'gosem.cut.vars' lays the variable. In a bare row this is a premise. The card (YtlmbkliieckakaaDoorCards.lean) ties it to the program's text. -/
def laid_joust_name_may {H : Type} : DataW H := .agg [.agg [.lit (.int .i32 97), .lit (.int .i32 122)], .agg [.lit (.int .i32 65), .lit (.int .i32 90)], .agg [.lit (.int .i32 48), .lit (.int .i32 57)], .agg [.lit (.int .i32 95), .lit (.int .i32 95)], .agg [.lit (.int .i32 45), .lit (.int .i32 45)], .agg [.lit (.int .i32 192), .lit (.int .i32 214)], .agg [.lit (.int .i32 216), .lit (.int .i32 246)], .agg [.lit (.int .i32 248), .lit (.int .i32 255)], .agg [.lit (.int .i32 945), .lit (.int .i32 969)]]
def laid_joust_name_large {H : Type} : DataW H := .agg [.agg [.lit (.int .i32 65), .lit (.int .i32 90)], .agg [.lit (.int .i32 192), .lit (.int .i32 214)], .agg [.lit (.int .i32 216), .lit (.int .i32 222)]]

/-- 'joustlaw06.NameAsks': WHATEVER THE INPUT: true; the input reads as it did. -/
def nameAsksSpec : ChangeSpec := { name := "nameAsks", fn := fun _ => fun
  | [d1, d2, d3] => { results := [.lit (.bool true)], args := [d1, d2, d3] }
  | _ => none }
def nameAsksRow : OpenClaim := { program := "ytlmbkliieckakaadoor", sum := "bb6e52b33356d793322a7b3937aef997903dc1f382bf643884c7c385e6a62a59", func := "joust/joustlaw06.NameAsks", spec := "nameAsks", inPlace := ["internal/abi.NoEscape", "internal/bytealg.MakeNoZero"], recurses := true, named := ["joust/name.may", "joust/name.large"], apart := false, laid := [("joust/name.may", laid_joust_name_may), ("joust/name.large", laid_joust_name_large)] }
def NameAsksSaid : Prop := nameAsksRow.holds Tryd.pinned (OpenSpec.ofChange nameAsksSpec)

/-- ITS FALSE NEIGHBOUR: 'it returns false'. Refute it at one input. -/
def nameAsksWrong : ChangeSpec := { name := "nameAsks", fn := fun _ => fun
  | [d1, d2, d3] => { results := [.lit (.bool false)], args := [d1, d2, d3] }
  | _ => none }
def NameAsksWrongFalsely : Prop := nameAsksRow.holds Tryd.pinned (OpenSpec.ofChange nameAsksWrong)

/-- 'joustlaw06.NameFolds': WHATEVER THE INPUT: true; the input reads as it did. -/
def nameFoldsSpec : ChangeSpec := { name := "nameFolds", fn := fun _ => fun
  | [d1, d2] => { results := [.lit (.bool true)], args := [d1, d2] }
  | _ => none }
def nameFoldsRow : OpenClaim := { program := "ytlmbkliieckakaadoor", sum := "bb6e52b33356d793322a7b3937aef997903dc1f382bf643884c7c385e6a62a59", func := "joust/joustlaw06.NameFolds", spec := "nameFolds", inPlace := ["internal/abi.NoEscape", "internal/bytealg.MakeNoZero"], named := ["joust/name.may", "joust/name.large"], apart := false, laid := [("joust/name.may", laid_joust_name_may), ("joust/name.large", laid_joust_name_large)] }
def NameFoldsSaid : Prop := nameFoldsRow.holds Tryd.pinned (OpenSpec.ofChange nameFoldsSpec)

/-- ITS FALSE NEIGHBOUR: 'it returns false'. Refute it at one input. -/
def nameFoldsWrong : ChangeSpec := { name := "nameFolds", fn := fun _ => fun
  | [d1, d2] => { results := [.lit (.bool false)], args := [d1, d2] }
  | _ => none }
def NameFoldsWrongFalsely : Prop := nameFoldsRow.holds Tryd.pinned (OpenSpec.ofChange nameFoldsWrong)

/-- 'joustlaw06.NameCuts': WHATEVER THE INPUT: true; the input reads as it did. -/
def nameCutsSpec : ChangeSpec := { name := "nameCuts", fn := fun _ => fun
  | [d1, d2, d3] => { results := [.lit (.bool true)], args := [d1, d2, d3] }
  | _ => none }
def nameCutsRow : OpenClaim := { program := "ytlmbkliieckakaadoor", sum := "bb6e52b33356d793322a7b3937aef997903dc1f382bf643884c7c385e6a62a59", func := "joust/joustlaw06.NameCuts", spec := "nameCuts", inPlace := ["internal/abi.NoEscape", "internal/bytealg.MakeNoZero"], named := ["joust/name.may", "joust/name.large"], apart := false, laid := [("joust/name.may", laid_joust_name_may), ("joust/name.large", laid_joust_name_large)] }
def NameCutsSaid : Prop := nameCutsRow.holds Tryd.pinned (OpenSpec.ofChange nameCutsSpec)

/-- ITS FALSE NEIGHBOUR: 'it returns false'. Refute it at one input. -/
def nameCutsWrong : ChangeSpec := { name := "nameCuts", fn := fun _ => fun
  | [d1, d2, d3] => { results := [.lit (.bool false)], args := [d1, d2, d3] }
  | _ => none }
def NameCutsWrongFalsely : Prop := nameCutsRow.holds Tryd.pinned (OpenSpec.ofChange nameCutsWrong)

/-- 'joustlaw06.NameNear': WHATEVER THE INPUT: true; the input reads as it did. -/
def nameNearSpec : ChangeSpec := { name := "nameNear", fn := fun _ => fun
  | [d1, d2, d3] => { results := [.lit (.bool true)], args := [d1, d2, d3] }
  | _ => none }
def nameNearRow : OpenClaim := { program := "ytlmbkliieckakaadoor", sum := "bb6e52b33356d793322a7b3937aef997903dc1f382bf643884c7c385e6a62a59", func := "joust/joustlaw06.NameNear", spec := "nameNear", inPlace := ["internal/abi.NoEscape", "internal/bytealg.MakeNoZero"], named := ["joust/name.may", "joust/name.large"], apart := false, laid := [("joust/name.may", laid_joust_name_may), ("joust/name.large", laid_joust_name_large)] }
def NameNearSaid : Prop := nameNearRow.holds Tryd.pinned (OpenSpec.ofChange nameNearSpec)

/-- ITS FALSE NEIGHBOUR: 'it returns false'. Refute it at one input. -/
def nameNearWrong : ChangeSpec := { name := "nameNear", fn := fun _ => fun
  | [d1, d2, d3] => { results := [.lit (.bool false)], args := [d1, d2, d3] }
  | _ => none }
def NameNearWrongFalsely : Prop := nameNearRow.holds Tryd.pinned (OpenSpec.ofChange nameNearWrong)

/-- 'joustlaw06.NameChanges': WHATEVER THE INPUT: true; the input reads as it did. -/
def nameChangesSpec : ChangeSpec := { name := "nameChanges", fn := fun _ => fun
  | [d1, d2, d3] => { results := [.lit (.bool true)], args := [d1, d2, d3] }
  | _ => none }
def nameChangesRow : OpenClaim := { program := "ytlmbkliieckakaadoor", sum := "bb6e52b33356d793322a7b3937aef997903dc1f382bf643884c7c385e6a62a59", func := "joust/joustlaw06.NameChanges", spec := "nameChanges", inPlace := ["internal/abi.NoEscape", "internal/bytealg.MakeNoZero"], named := ["joust/name.may", "joust/name.large"], apart := false, laid := [("joust/name.may", laid_joust_name_may), ("joust/name.large", laid_joust_name_large)] }
def NameChangesSaid : Prop := nameChangesRow.holds Tryd.pinned (OpenSpec.ofChange nameChangesSpec)

/-- ITS FALSE NEIGHBOUR: 'it returns false'. Refute it at one input. -/
def nameChangesWrong : ChangeSpec := { name := "nameChanges", fn := fun _ => fun
  | [d1, d2, d3] => { results := [.lit (.bool false)], args := [d1, d2, d3] }
  | _ => none }
def NameChangesWrongFalsely : Prop := nameChangesRow.holds Tryd.pinned (OpenSpec.ofChange nameChangesWrong)

/-- 'joustlaw06.NameRunes': WHATEVER THE INPUT: true; the input reads as it did. -/
def nameRunesSpec : ChangeSpec := { name := "nameRunes", fn := fun _ => fun
  | [d] => { results := [.lit (.bool true)], args := [d] }
  | _ => none }
def nameRunesRow : OpenClaim := { program := "ytlmbkliieckakaadoor", sum := "bb6e52b33356d793322a7b3937aef997903dc1f382bf643884c7c385e6a62a59", func := "joust/joustlaw06.NameRunes", spec := "nameRunes", inPlace := ["internal/abi.NoEscape", "internal/bytealg.MakeNoZero"], named := ["joust/name.may", "joust/name.large"], apart := false, laid := [("joust/name.may", laid_joust_name_may), ("joust/name.large", laid_joust_name_large)] }
def NameRunesSaid : Prop := nameRunesRow.holds Tryd.pinned (OpenSpec.ofChange nameRunesSpec)

/-- ITS FALSE NEIGHBOUR: 'it returns false'. Refute it at one input. -/
def nameRunesWrong : ChangeSpec := { name := "nameRunes", fn := fun _ => fun
  | [d] => { results := [.lit (.bool false)], args := [d] }
  | _ => none }
def NameRunesWrongFalsely : Prop := nameRunesRow.holds Tryd.pinned (OpenSpec.ofChange nameRunesWrong)

/- THE SECOND FORM. 'bulk': how many values and letters a reading holds, each counted each time it is reached (what is shared counts as often as it is met; a slice's spare places count too). A statement '..UptoSaid' is the law's where the arguments, and the package variables that the reading takes, are together of bulk at most 1048576: NARROWER than '..Said'. Prove '..Said' where nothing that the law and all that it calls make is longer than what came in: it says more and counts as full. Else prove '..UptoSaid'. A law counts once. -/
mutual
def uptoBulk {H : Type} : DataW H → Nat
  | .lit (.string bytes) => bytes.length + 1
  | .lit _ => 1
  | .nil => 1
  | .ptr d => uptoBulk d + 1
  | .slice elems spare => uptoBulkAll elems + uptoBulkAll spare + 1
  | .agg parts => uptoBulkAll parts + 1
  | .iface _ d => uptoBulk d + 1
  | .map entries => uptoBulkEntries entries + 1
  | .held _ => 1
def uptoBulkAll {H : Type} : List (DataW H) → Nat
  | [] => 0
  | d :: r => uptoBulk d + uptoBulkAll r
def uptoBulkEntries {H : Type} : List (Lit × DataW H) → Nat
  | [] => 0
  | x :: r => uptoBulkEntry x + uptoBulkEntries r
def uptoBulkEntry {H : Type} : Lit × DataW H → Nat
  | (.string bytes, d) => bytes.length + uptoBulk d + 1
  | (_, d) => uptoBulk d + 1
 end
def uptoSmall : (H : Type) → List (DataW H) → Bool := fun _ ds => decide (uptoBulkAll ds ≤ 1048576)
def OpenSpec.upto (s : _root_.Go.ChangeSpec) : _root_.Go.OpenSpec := { _root_.Go.OpenSpec.ofChange s with cond := some uptoSmall }

/-- 'joustlaw06.NameAsks', WHERE WHAT IT READS IS OF BULK AT MOST 1048576: true; the input reads as it did. -/
def nameAsksUptoRow : OpenClaim := { program := "ytlmbkliieckakaadoor", sum := "bb6e52b33356d793322a7b3937aef997903dc1f382bf643884c7c385e6a62a59", func := "joust/joustlaw06.NameAsks", spec := "nameAsks", inPlace := ["internal/abi.NoEscape", "internal/bytealg.MakeNoZero"], recurses := true, named := ["joust/name.may", "joust/name.large"], apart := false, laid := [("joust/name.may", laid_joust_name_may), ("joust/name.large", laid_joust_name_large)], narrowed := true }
def NameAsksUptoSaid : Prop := nameAsksUptoRow.holds Tryd.pinned (OpenSpec.upto nameAsksSpec)

/-- 'joustlaw06.NameFolds', WHERE WHAT IT READS IS OF BULK AT MOST 1048576: true; the input reads as it did. -/
def nameFoldsUptoRow : OpenClaim := { program := "ytlmbkliieckakaadoor", sum := "bb6e52b33356d793322a7b3937aef997903dc1f382bf643884c7c385e6a62a59", func := "joust/joustlaw06.NameFolds", spec := "nameFolds", inPlace := ["internal/abi.NoEscape", "internal/bytealg.MakeNoZero"], named := ["joust/name.may", "joust/name.large"], apart := false, laid := [("joust/name.may", laid_joust_name_may), ("joust/name.large", laid_joust_name_large)], narrowed := true }
def NameFoldsUptoSaid : Prop := nameFoldsUptoRow.holds Tryd.pinned (OpenSpec.upto nameFoldsSpec)

/-- 'joustlaw06.NameCuts', WHERE WHAT IT READS IS OF BULK AT MOST 1048576: true; the input reads as it did. -/
def nameCutsUptoRow : OpenClaim := { program := "ytlmbkliieckakaadoor", sum := "bb6e52b33356d793322a7b3937aef997903dc1f382bf643884c7c385e6a62a59", func := "joust/joustlaw06.NameCuts", spec := "nameCuts", inPlace := ["internal/abi.NoEscape", "internal/bytealg.MakeNoZero"], named := ["joust/name.may", "joust/name.large"], apart := false, laid := [("joust/name.may", laid_joust_name_may), ("joust/name.large", laid_joust_name_large)], narrowed := true }
def NameCutsUptoSaid : Prop := nameCutsUptoRow.holds Tryd.pinned (OpenSpec.upto nameCutsSpec)

/-- 'joustlaw06.NameNear', WHERE WHAT IT READS IS OF BULK AT MOST 1048576: true; the input reads as it did. -/
def nameNearUptoRow : OpenClaim := { program := "ytlmbkliieckakaadoor", sum := "bb6e52b33356d793322a7b3937aef997903dc1f382bf643884c7c385e6a62a59", func := "joust/joustlaw06.NameNear", spec := "nameNear", inPlace := ["internal/abi.NoEscape", "internal/bytealg.MakeNoZero"], named := ["joust/name.may", "joust/name.large"], apart := false, laid := [("joust/name.may", laid_joust_name_may), ("joust/name.large", laid_joust_name_large)], narrowed := true }
def NameNearUptoSaid : Prop := nameNearUptoRow.holds Tryd.pinned (OpenSpec.upto nameNearSpec)

/-- 'joustlaw06.NameChanges', WHERE WHAT IT READS IS OF BULK AT MOST 1048576: true; the input reads as it did. -/
def nameChangesUptoRow : OpenClaim := { program := "ytlmbkliieckakaadoor", sum := "bb6e52b33356d793322a7b3937aef997903dc1f382bf643884c7c385e6a62a59", func := "joust/joustlaw06.NameChanges", spec := "nameChanges", inPlace := ["internal/abi.NoEscape", "internal/bytealg.MakeNoZero"], named := ["joust/name.may", "joust/name.large"], apart := false, laid := [("joust/name.may", laid_joust_name_may), ("joust/name.large", laid_joust_name_large)], narrowed := true }
def NameChangesUptoSaid : Prop := nameChangesUptoRow.holds Tryd.pinned (OpenSpec.upto nameChangesSpec)

/-- 'joustlaw06.NameRunes', WHERE WHAT IT READS IS OF BULK AT MOST 1048576: true; the input reads as it did. -/
def nameRunesUptoRow : OpenClaim := { program := "ytlmbkliieckakaadoor", sum := "bb6e52b33356d793322a7b3937aef997903dc1f382bf643884c7c385e6a62a59", func := "joust/joustlaw06.NameRunes", spec := "nameRunes", inPlace := ["internal/abi.NoEscape", "internal/bytealg.MakeNoZero"], named := ["joust/name.may", "joust/name.large"], apart := false, laid := [("joust/name.may", laid_joust_name_may), ("joust/name.large", laid_joust_name_large)], narrowed := true }
def NameRunesUptoSaid : Prop := nameRunesUptoRow.holds Tryd.pinned (OpenSpec.upto nameRunesSpec)

end Rows
end Go.Proofs.YtlmbkliieckakaaDoor
