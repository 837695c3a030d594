/-
  DERIVED. GIVEN WITH THE SEED: THE CARDS: each row of YtpodeccpibnlbaaGreatDoorRows.lean that lists a variable, with what it lists TIED to the program's text (the seventh form; the later family's looks); each row that meets fmt, with fmt's text TOLD by the authors' own Lean function (tested against real Go, not proved from fmt's source: count such statements apart). THE CARD IS WHAT COUNTS. Prove the row's statement (the work); the ties are given (YtpodeccpibnlbaaGreatDoorTie.lean); close each card by the builder's one call (the guide's Derived/Test/ToyasCard.lean, 'card_holds'). Laid BY PROGRAM, IN A SANDBOX (cutbox-door.mjs). By AI agents, Wed Nov 11 2026. No macro, syntax, notation, axiom, sorry.
-/
import Derived.Test.YtpodeccpibnlbaaGreatDoorRows
import GoSem.ClaimSeven
namespace Go.Proofs.YtpodeccpibnlbaaGreatDoor
namespace Rows

/-- THE TIED CARD OF 'droguelaw05.TreePlaces'. -/
def treePlacesCard : Claim7 := { stood := { row := treePlacesRow, standIns := [], harness := (true, "9339ed3dce1c1025b9a7b75f79d7e9de3e0b4b98e9d305ac58ff0e5e8386f79c"), looks := false }, kinds := [], alts := [], laidByText := true, laidKinds := [.data, .listed, .data, .pinned], laidTests := true, laidLooks := .later }
def TreePlacesCardSaid : Prop := Claim7.holds Tryz.pinned (.plain (OpenSpec.ofChange treePlacesSpec)) treePlacesCard

/-- THE TIED CARD OF 'droguelaw05.TreeRight'. -/
def treeRightCard : Claim7 := { stood := { row := treeRightRow, standIns := [], harness := (true, "9339ed3dce1c1025b9a7b75f79d7e9de3e0b4b98e9d305ac58ff0e5e8386f79c"), looks := false }, kinds := [], alts := [], laidByText := true, laidKinds := [.data, .listed, .data, .pinned], laidTests := true, laidLooks := .later }
def TreeRightCardSaid : Prop := Claim7.holds Tryz.pinned (.plain (OpenSpec.ofChange treeRightSpec)) treeRightCard

/-- THE TIED CARD OF 'droguelaw05.TreeSame'. -/
def treeSameCard : Claim7 := { stood := { row := treeSameRow, standIns := [], harness := (true, "9339ed3dce1c1025b9a7b75f79d7e9de3e0b4b98e9d305ac58ff0e5e8386f79c"), looks := false }, kinds := [], alts := [], laidByText := true, laidKinds := [.data, .listed, .data, .pinned], laidTests := true, laidLooks := .later }
def TreeSameCardSaid : Prop := Claim7.holds Tryz.pinned (.plain (OpenSpec.ofChange treeSameSpec)) treeSameCard

/-- THE TIED CARD OF 'droguelaw05.TreeUses'. -/
def treeUsesCard : Claim7 := { stood := { row := treeUsesRow, standIns := [], harness := (true, "9339ed3dce1c1025b9a7b75f79d7e9de3e0b4b98e9d305ac58ff0e5e8386f79c"), looks := false }, kinds := [], alts := [], laidByText := true, laidKinds := [.data, .listed, .data, .pinned], laidTests := true, laidLooks := .later }
def TreeUsesCardSaid : Prop := Claim7.holds Tryz.pinned (.plain (OpenSpec.ofChange treeUsesSpec)) treeUsesCard

/-- THE TIED CARD OF 'droguelaw05.TreeFronts'. -/
def treeFrontsCard : Claim7 := { stood := { row := treeFrontsRow, standIns := [], harness := (true, "9339ed3dce1c1025b9a7b75f79d7e9de3e0b4b98e9d305ac58ff0e5e8386f79c"), looks := false }, kinds := [], alts := [], laidByText := true, laidKinds := [.data, .listed, .data, .pinned], laidTests := true, laidLooks := .later }
def TreeFrontsCardSaid : Prop := Claim7.holds Tryz.pinned (.plain (OpenSpec.ofChange treeFrontsSpec)) treeFrontsCard

/-- THE TIED CARD OF 'droguelaw05.TreeCounts'. -/
def treeCountsCard : Claim7 := { stood := { row := treeCountsRow, standIns := [], harness := (true, "9339ed3dce1c1025b9a7b75f79d7e9de3e0b4b98e9d305ac58ff0e5e8386f79c"), looks := false }, kinds := [], alts := [], laidByText := true, laidKinds := [.data, .listed, .data, .pinned], laidTests := true, laidLooks := .later }
def TreeCountsCardSaid : Prop := Claim7.holds Tryz.pinned (.plain (OpenSpec.ofChange treeCountsSpec)) treeCountsCard

/-- THE SECOND FORM's CARD OF 'droguelaw05.TreePlaces'. -/
def treePlacesUptoCard : Claim7 := { stood := { row := treePlacesUptoRow, standIns := [], harness := (true, "9339ed3dce1c1025b9a7b75f79d7e9de3e0b4b98e9d305ac58ff0e5e8386f79c"), looks := false }, kinds := [], alts := [], laidByText := true, laidKinds := [.data, .listed, .data, .pinned], laidTests := true, laidLooks := .later }
def TreePlacesUptoCardSaid : Prop := Claim7.holds Tryz.pinned (.plain (OpenSpec.upto treePlacesSpec)) treePlacesUptoCard

/-- THE SECOND FORM's CARD OF 'droguelaw05.TreeRight'. -/
def treeRightUptoCard : Claim7 := { stood := { row := treeRightUptoRow, standIns := [], harness := (true, "9339ed3dce1c1025b9a7b75f79d7e9de3e0b4b98e9d305ac58ff0e5e8386f79c"), looks := false }, kinds := [], alts := [], laidByText := true, laidKinds := [.data, .listed, .data, .pinned], laidTests := true, laidLooks := .later }
def TreeRightUptoCardSaid : Prop := Claim7.holds Tryz.pinned (.plain (OpenSpec.upto treeRightSpec)) treeRightUptoCard

/-- THE SECOND FORM's CARD OF 'droguelaw05.TreeSame'. -/
def treeSameUptoCard : Claim7 := { stood := { row := treeSameUptoRow, standIns := [], harness := (true, "9339ed3dce1c1025b9a7b75f79d7e9de3e0b4b98e9d305ac58ff0e5e8386f79c"), looks := false }, kinds := [], alts := [], laidByText := true, laidKinds := [.data, .listed, .data, .pinned], laidTests := true, laidLooks := .later }
def TreeSameUptoCardSaid : Prop := Claim7.holds Tryz.pinned (.plain (OpenSpec.upto treeSameSpec)) treeSameUptoCard

/-- THE SECOND FORM's CARD OF 'droguelaw05.TreeUses'. -/
def treeUsesUptoCard : Claim7 := { stood := { row := treeUsesUptoRow, standIns := [], harness := (true, "9339ed3dce1c1025b9a7b75f79d7e9de3e0b4b98e9d305ac58ff0e5e8386f79c"), looks := false }, kinds := [], alts := [], laidByText := true, laidKinds := [.data, .listed, .data, .pinned], laidTests := true, laidLooks := .later }
def TreeUsesUptoCardSaid : Prop := Claim7.holds Tryz.pinned (.plain (OpenSpec.upto treeUsesSpec)) treeUsesUptoCard

/-- THE SECOND FORM's CARD OF 'droguelaw05.TreeFronts'. -/
def treeFrontsUptoCard : Claim7 := { stood := { row := treeFrontsUptoRow, standIns := [], harness := (true, "9339ed3dce1c1025b9a7b75f79d7e9de3e0b4b98e9d305ac58ff0e5e8386f79c"), looks := false }, kinds := [], alts := [], laidByText := true, laidKinds := [.data, .listed, .data, .pinned], laidTests := true, laidLooks := .later }
def TreeFrontsUptoCardSaid : Prop := Claim7.holds Tryz.pinned (.plain (OpenSpec.upto treeFrontsSpec)) treeFrontsUptoCard

/-- THE SECOND FORM's CARD OF 'droguelaw05.TreeCounts'. -/
def treeCountsUptoCard : Claim7 := { stood := { row := treeCountsUptoRow, standIns := [], harness := (true, "9339ed3dce1c1025b9a7b75f79d7e9de3e0b4b98e9d305ac58ff0e5e8386f79c"), looks := false }, kinds := [], alts := [], laidByText := true, laidKinds := [.data, .listed, .data, .pinned], laidTests := true, laidLooks := .later }
def TreeCountsUptoCardSaid : Prop := Claim7.holds Tryz.pinned (.plain (OpenSpec.upto treeCountsSpec)) treeCountsUptoCard
end Rows
end Go.Proofs.YtpodeccpibnlbaaGreatDoor
