/-
  DERIVED. GIVEN WITH THE SEED: THE CARDS: each row of YtlmbkliieckakaaDoorRows.lean that lists a variable, with what it lists TIED to the program's text (the seventh form; the later family's looks); each row that meets fmt, with fmt's text TOLD by the authors' own Lean function (tested against real Go, not proved from fmt's source: count such statements apart). THE CARD IS WHAT COUNTS. Prove the row's statement (the work); the ties are given (YtlmbkliieckakaaDoorTie.lean); close each card by the builder's one call (the guide's Derived/Test/ToyasCard.lean, 'card_holds'). Laid BY PROGRAM, IN A SANDBOX (cutbox-door.mjs). By AI agents, Wed Nov 11 2026. No macro, syntax, notation, axiom, sorry.
-/
import Derived.Test.YtlmbkliieckakaaDoorRows
import GoSem.ClaimSeven
namespace Go.Proofs.YtlmbkliieckakaaDoor
namespace Rows

/-- THE TIED CARD OF 'joustlaw06.NameAsks'. -/
def nameAsksCard : Claim7 := { stood := { row := nameAsksRow, standIns := [], harness := (true, "bbc494a3d4e2d673b617bd9747088697573ba3fc4f001ecfd13f4e381165035a"), looks := false }, kinds := [], alts := [], laidByText := true, laidKinds := [.data, .data], laidTests := true, laidLooks := .later }
def NameAsksCardSaid : Prop := Claim7.holds Tryd.pinned (.plain (OpenSpec.ofChange nameAsksSpec)) nameAsksCard

/-- THE TIED CARD OF 'joustlaw06.NameFolds'. -/
def nameFoldsCard : Claim7 := { stood := { row := nameFoldsRow, standIns := [], harness := (true, "bbc494a3d4e2d673b617bd9747088697573ba3fc4f001ecfd13f4e381165035a"), looks := false }, kinds := [], alts := [], laidByText := true, laidKinds := [.data, .data], laidTests := true, laidLooks := .later }
def NameFoldsCardSaid : Prop := Claim7.holds Tryd.pinned (.plain (OpenSpec.ofChange nameFoldsSpec)) nameFoldsCard

/-- THE TIED CARD OF 'joustlaw06.NameCuts'. -/
def nameCutsCard : Claim7 := { stood := { row := nameCutsRow, standIns := [], harness := (true, "bbc494a3d4e2d673b617bd9747088697573ba3fc4f001ecfd13f4e381165035a"), looks := false }, kinds := [], alts := [], laidByText := true, laidKinds := [.data, .data], laidTests := true, laidLooks := .later }
def NameCutsCardSaid : Prop := Claim7.holds Tryd.pinned (.plain (OpenSpec.ofChange nameCutsSpec)) nameCutsCard

/-- THE TIED CARD OF 'joustlaw06.NameNear'. -/
def nameNearCard : Claim7 := { stood := { row := nameNearRow, standIns := [], harness := (true, "bbc494a3d4e2d673b617bd9747088697573ba3fc4f001ecfd13f4e381165035a"), looks := false }, kinds := [], alts := [], laidByText := true, laidKinds := [.data, .data], laidTests := true, laidLooks := .later }
def NameNearCardSaid : Prop := Claim7.holds Tryd.pinned (.plain (OpenSpec.ofChange nameNearSpec)) nameNearCard

/-- THE TIED CARD OF 'joustlaw06.NameChanges'. -/
def nameChangesCard : Claim7 := { stood := { row := nameChangesRow, standIns := [], harness := (true, "bbc494a3d4e2d673b617bd9747088697573ba3fc4f001ecfd13f4e381165035a"), looks := false }, kinds := [], alts := [], laidByText := true, laidKinds := [.data, .data], laidTests := true, laidLooks := .later }
def NameChangesCardSaid : Prop := Claim7.holds Tryd.pinned (.plain (OpenSpec.ofChange nameChangesSpec)) nameChangesCard

/-- THE TIED CARD OF 'joustlaw06.NameRunes'. -/
def nameRunesCard : Claim7 := { stood := { row := nameRunesRow, standIns := [], harness := (true, "bbc494a3d4e2d673b617bd9747088697573ba3fc4f001ecfd13f4e381165035a"), looks := false }, kinds := [], alts := [], laidByText := true, laidKinds := [.data, .data], laidTests := true, laidLooks := .later }
def NameRunesCardSaid : Prop := Claim7.holds Tryd.pinned (.plain (OpenSpec.ofChange nameRunesSpec)) nameRunesCard

/-- THE SECOND FORM's CARD OF 'joustlaw06.NameAsks'. -/
def nameAsksUptoCard : Claim7 := { stood := { row := nameAsksUptoRow, standIns := [], harness := (true, "bbc494a3d4e2d673b617bd9747088697573ba3fc4f001ecfd13f4e381165035a"), looks := false }, kinds := [], alts := [], laidByText := true, laidKinds := [.data, .data], laidTests := true, laidLooks := .later }
def NameAsksUptoCardSaid : Prop := Claim7.holds Tryd.pinned (.plain (OpenSpec.upto nameAsksSpec)) nameAsksUptoCard

/-- THE SECOND FORM's CARD OF 'joustlaw06.NameFolds'. -/
def nameFoldsUptoCard : Claim7 := { stood := { row := nameFoldsUptoRow, standIns := [], harness := (true, "bbc494a3d4e2d673b617bd9747088697573ba3fc4f001ecfd13f4e381165035a"), looks := false }, kinds := [], alts := [], laidByText := true, laidKinds := [.data, .data], laidTests := true, laidLooks := .later }
def NameFoldsUptoCardSaid : Prop := Claim7.holds Tryd.pinned (.plain (OpenSpec.upto nameFoldsSpec)) nameFoldsUptoCard

/-- THE SECOND FORM's CARD OF 'joustlaw06.NameCuts'. -/
def nameCutsUptoCard : Claim7 := { stood := { row := nameCutsUptoRow, standIns := [], harness := (true, "bbc494a3d4e2d673b617bd9747088697573ba3fc4f001ecfd13f4e381165035a"), looks := false }, kinds := [], alts := [], laidByText := true, laidKinds := [.data, .data], laidTests := true, laidLooks := .later }
def NameCutsUptoCardSaid : Prop := Claim7.holds Tryd.pinned (.plain (OpenSpec.upto nameCutsSpec)) nameCutsUptoCard

/-- THE SECOND FORM's CARD OF 'joustlaw06.NameNear'. -/
def nameNearUptoCard : Claim7 := { stood := { row := nameNearUptoRow, standIns := [], harness := (true, "bbc494a3d4e2d673b617bd9747088697573ba3fc4f001ecfd13f4e381165035a"), looks := false }, kinds := [], alts := [], laidByText := true, laidKinds := [.data, .data], laidTests := true, laidLooks := .later }
def NameNearUptoCardSaid : Prop := Claim7.holds Tryd.pinned (.plain (OpenSpec.upto nameNearSpec)) nameNearUptoCard

/-- THE SECOND FORM's CARD OF 'joustlaw06.NameChanges'. -/
def nameChangesUptoCard : Claim7 := { stood := { row := nameChangesUptoRow, standIns := [], harness := (true, "bbc494a3d4e2d673b617bd9747088697573ba3fc4f001ecfd13f4e381165035a"), looks := false }, kinds := [], alts := [], laidByText := true, laidKinds := [.data, .data], laidTests := true, laidLooks := .later }
def NameChangesUptoCardSaid : Prop := Claim7.holds Tryd.pinned (.plain (OpenSpec.upto nameChangesSpec)) nameChangesUptoCard

/-- THE SECOND FORM's CARD OF 'joustlaw06.NameRunes'. -/
def nameRunesUptoCard : Claim7 := { stood := { row := nameRunesUptoRow, standIns := [], harness := (true, "bbc494a3d4e2d673b617bd9747088697573ba3fc4f001ecfd13f4e381165035a"), looks := false }, kinds := [], alts := [], laidByText := true, laidKinds := [.data, .data], laidTests := true, laidLooks := .later }
def NameRunesUptoCardSaid : Prop := Claim7.holds Tryd.pinned (.plain (OpenSpec.upto nameRunesSpec)) nameRunesUptoCard
end Rows
end Go.Proofs.YtlmbkliieckakaaDoor
