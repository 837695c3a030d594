/-
  DERIVED. GIVEN WITH THE SEED: THE CARDS: each row of YtfdbmpcfphlmoaaDoorRows.lean that lists a variable, with what it lists TIED to the program's text (the seventh form; the later family's looks); each row that meets fmt, with fmt's text TOLD by the authors' own Lean function (tested against real Go, not proved from fmt's source: count such statements apart). THE CARD IS WHAT COUNTS. Prove the row's statement (the work); the ties are given (YtfdbmpcfphlmoaaDoorTie.lean); close each card by the builder's one call (the guide's Derived/Test/ToyasCard.lean, 'card_holds'). Laid BY PROGRAM, IN A SANDBOX (cutbox-door.mjs). By AI agents, Wed Nov 11 2026. No macro, syntax, notation, axiom, sorry.
-/
import Derived.Test.YtfdbmpcfphlmoaaDoorRows
import GoSem.ClaimSeven
namespace Go.Proofs.YtfdbmpcfphlmoaaDoor
namespace Rows

/-- THE TIED CARD OF 'droguelaw04.KindTexts'. -/
def kindTextsCard : Claim7 := { stood := { row := kindTextsRow, standIns := [], harness := (true, "71086a8b42687bb35f30ed5bacb32898d4faecba961de9ba137229c626920601"), looks := false }, kinds := [], alts := [], laidByText := true, laidKinds := [.listed, .data], laidTests := true, laidLooks := .later }
def KindTextsCardSaid : Prop := Claim7.holds Tryd.pinned (.plain (OpenSpec.ofChange kindTextsSpec)) kindTextsCard

/-- THE TIED CARD OF 'droguelaw04.KindNames'. -/
def kindNamesCard : Claim7 := { stood := { row := kindNamesRow, standIns := [], harness := (true, "71086a8b42687bb35f30ed5bacb32898d4faecba961de9ba137229c626920601"), looks := false }, kinds := [], alts := [], laidByText := true, laidKinds := [.listed, .data], laidTests := true, laidLooks := .later }
def KindNamesCardSaid : Prop := Claim7.holds Tryd.pinned (.plain (OpenSpec.ofChange kindNamesSpec)) kindNamesCard

/-- THE TIED CARD OF 'droguelaw04.KindMakes'. -/
def kindMakesCard : Claim7 := { stood := { row := kindMakesRow, standIns := [], harness := (true, "71086a8b42687bb35f30ed5bacb32898d4faecba961de9ba137229c626920601"), looks := false }, kinds := [], alts := [], laidByText := true, laidKinds := [.listed, .data], laidTests := true, laidLooks := .later }
def KindMakesCardSaid : Prop := Claim7.holds Tryd.pinned (.plain (OpenSpec.ofChange kindMakesSpec)) kindMakesCard

/-- THE TIED CARD OF 'droguelaw04.KindDeep'. -/
def kindDeepCard : Claim7 := { stood := { row := kindDeepRow, standIns := [], harness := (true, "71086a8b42687bb35f30ed5bacb32898d4faecba961de9ba137229c626920601"), looks := false }, kinds := [], alts := [], laidByText := true, laidKinds := [.listed, .data], laidTests := true, laidLooks := .later }
def KindDeepCardSaid : Prop := Claim7.holds Tryd.pinned (.plain (OpenSpec.ofChange kindDeepSpec)) kindDeepCard

/-- THE SECOND FORM's CARD OF 'droguelaw04.KindTexts'. -/
def kindTextsUptoCard : Claim7 := { stood := { row := kindTextsUptoRow, standIns := [], harness := (true, "71086a8b42687bb35f30ed5bacb32898d4faecba961de9ba137229c626920601"), looks := false }, kinds := [], alts := [], laidByText := true, laidKinds := [.listed, .data], laidTests := true, laidLooks := .later }
def KindTextsUptoCardSaid : Prop := Claim7.holds Tryd.pinned (.plain (OpenSpec.upto kindTextsSpec)) kindTextsUptoCard

/-- THE SECOND FORM's CARD OF 'droguelaw04.KindNames'. -/
def kindNamesUptoCard : Claim7 := { stood := { row := kindNamesUptoRow, standIns := [], harness := (true, "71086a8b42687bb35f30ed5bacb32898d4faecba961de9ba137229c626920601"), looks := false }, kinds := [], alts := [], laidByText := true, laidKinds := [.listed, .data], laidTests := true, laidLooks := .later }
def KindNamesUptoCardSaid : Prop := Claim7.holds Tryd.pinned (.plain (OpenSpec.upto kindNamesSpec)) kindNamesUptoCard

/-- THE SECOND FORM's CARD OF 'droguelaw04.KindMakes'. -/
def kindMakesUptoCard : Claim7 := { stood := { row := kindMakesUptoRow, standIns := [], harness := (true, "71086a8b42687bb35f30ed5bacb32898d4faecba961de9ba137229c626920601"), looks := false }, kinds := [], alts := [], laidByText := true, laidKinds := [.listed, .data], laidTests := true, laidLooks := .later }
def KindMakesUptoCardSaid : Prop := Claim7.holds Tryd.pinned (.plain (OpenSpec.upto kindMakesSpec)) kindMakesUptoCard

/-- THE SECOND FORM's CARD OF 'droguelaw04.KindDeep'. -/
def kindDeepUptoCard : Claim7 := { stood := { row := kindDeepUptoRow, standIns := [], harness := (true, "71086a8b42687bb35f30ed5bacb32898d4faecba961de9ba137229c626920601"), looks := false }, kinds := [], alts := [], laidByText := true, laidKinds := [.listed, .data], laidTests := true, laidLooks := .later }
def KindDeepUptoCardSaid : Prop := Claim7.holds Tryd.pinned (.plain (OpenSpec.upto kindDeepSpec)) kindDeepUptoCard
end Rows
end Go.Proofs.YtfdbmpcfphlmoaaDoor
