/-
  DERIVED. GIVEN WITH THE SEED: THE CARDS: each row of YtfolhicnbabldaaDoorRows.lean that lists a variable, with what it lists TIED to the program's text (the seventh form; the later family's looks); each row that meets fmt, with fmt's text TOLD by the authors' own Lean function (tested against real Go, not proved from fmt's source: count such statements apart). THE CARD IS WHAT COUNTS. Prove the row's statement (the work); the ties are given (YtfolhicnbabldaaDoorTie.lean); close each card by the builder's one call (the guide's Derived/Test/ToyasCard.lean, 'card_holds'). Laid BY PROGRAM, IN A SANDBOX (cutbox-door.mjs). By AI agents, Wed Nov 11 2026. No macro, syntax, notation, axiom, sorry.
-/
import Derived.Test.YtfolhicnbabldaaDoorRows
import GoSem.ClaimSeven
namespace Go.Proofs.YtfolhicnbabldaaDoor
namespace Rows

/-- THE TIED CARD OF 'breadlinelaw23.ReportTells'. -/
def reportTellsCard : Claim7 := { stood := { row := reportTellsRow, standIns := [], harness := (true, "39b8b4a1547d41fbb429c3de3c058ba86674ec05a7621e3cfef2a9e32d41c52c"), looks := true }, kinds := [], alts := [], laidByText := true, laidKinds := [.data, .data, .data, .data, .sentinel, .sentinel, .pinned], laidTests := true, laidLooks := .later }
def ReportTellsCardSaid : Prop := Claim7.holds Tryd.pinned (.plain (OpenSpec.ofChange reportTellsSpec)) reportTellsCard

/-- THE TIED CARD OF 'breadlinelaw23.ReportBack'. -/
def reportBackCard : Claim7 := { stood := { row := reportBackRow, standIns := [], harness := (true, "39b8b4a1547d41fbb429c3de3c058ba86674ec05a7621e3cfef2a9e32d41c52c"), looks := true }, kinds := [], alts := [], laidByText := true, laidKinds := [.data, .data, .data, .data, .sentinel, .sentinel, .pinned], laidTests := true, laidLooks := .later }
def ReportBackCardSaid : Prop := Claim7.holds Tryd.pinned (.plain (OpenSpec.ofChange reportBackSpec)) reportBackCard

/-- THE TIED CARD OF 'breadlinelaw23.ReportApart'. -/
def reportApartCard : Claim7 := { stood := { row := reportApartRow, standIns := [], harness := (true, "39b8b4a1547d41fbb429c3de3c058ba86674ec05a7621e3cfef2a9e32d41c52c"), looks := true }, kinds := [], alts := [], laidByText := true, laidKinds := [.data, .data, .data, .data, .sentinel, .sentinel, .pinned], laidTests := true, laidLooks := .later }
def ReportApartCardSaid : Prop := Claim7.holds Tryd.pinned (.plain (OpenSpec.ofChange reportApartSpec)) reportApartCard

/-- THE TIED CARD OF 'breadlinelaw23.ReportText'. -/
def reportTextCard : Claim7 := { stood := { row := reportTextRow, standIns := [], harness := (true, "39b8b4a1547d41fbb429c3de3c058ba86674ec05a7621e3cfef2a9e32d41c52c"), looks := true }, kinds := [], alts := [], laidByText := true, laidKinds := [.data, .data, .data, .data, .sentinel, .sentinel, .pinned], laidTests := true, laidLooks := .later }
def ReportTextCardSaid : Prop := Claim7.holds Tryd.pinned (.plain (OpenSpec.ofChange reportTextSpec)) reportTextCard

/-- THE TIED CARD OF 'breadlinelaw23.ReportPrints'. -/
def reportPrintsCard : Claim7 := { stood := { row := reportPrintsRow, standIns := [], harness := (true, "39b8b4a1547d41fbb429c3de3c058ba86674ec05a7621e3cfef2a9e32d41c52c"), looks := true }, kinds := [], alts := [], laidByText := true, laidKinds := [.data, .data, .data, .data, .sentinel, .sentinel, .pinned], laidTests := true, laidLooks := .later }
def ReportPrintsCardSaid : Prop := Claim7.holds Tryd.pinned (.plain (OpenSpec.ofChange reportPrintsSpec)) reportPrintsCard

/-- THE SECOND FORM's CARD OF 'breadlinelaw23.ReportTells'. -/
def reportTellsUptoCard : Claim7 := { stood := { row := reportTellsUptoRow, standIns := [], harness := (true, "39b8b4a1547d41fbb429c3de3c058ba86674ec05a7621e3cfef2a9e32d41c52c"), looks := true }, kinds := [], alts := [], laidByText := true, laidKinds := [.data, .data, .data, .data, .sentinel, .sentinel, .pinned], laidTests := true, laidLooks := .later }
def ReportTellsUptoCardSaid : Prop := Claim7.holds Tryd.pinned (.plain (OpenSpec.upto reportTellsSpec)) reportTellsUptoCard

/-- THE SECOND FORM's CARD OF 'breadlinelaw23.ReportBack'. -/
def reportBackUptoCard : Claim7 := { stood := { row := reportBackUptoRow, standIns := [], harness := (true, "39b8b4a1547d41fbb429c3de3c058ba86674ec05a7621e3cfef2a9e32d41c52c"), looks := true }, kinds := [], alts := [], laidByText := true, laidKinds := [.data, .data, .data, .data, .sentinel, .sentinel, .pinned], laidTests := true, laidLooks := .later }
def ReportBackUptoCardSaid : Prop := Claim7.holds Tryd.pinned (.plain (OpenSpec.upto reportBackSpec)) reportBackUptoCard

/-- THE SECOND FORM's CARD OF 'breadlinelaw23.ReportApart'. -/
def reportApartUptoCard : Claim7 := { stood := { row := reportApartUptoRow, standIns := [], harness := (true, "39b8b4a1547d41fbb429c3de3c058ba86674ec05a7621e3cfef2a9e32d41c52c"), looks := true }, kinds := [], alts := [], laidByText := true, laidKinds := [.data, .data, .data, .data, .sentinel, .sentinel, .pinned], laidTests := true, laidLooks := .later }
def ReportApartUptoCardSaid : Prop := Claim7.holds Tryd.pinned (.plain (OpenSpec.upto reportApartSpec)) reportApartUptoCard

/-- THE SECOND FORM's CARD OF 'breadlinelaw23.ReportText'. -/
def reportTextUptoCard : Claim7 := { stood := { row := reportTextUptoRow, standIns := [], harness := (true, "39b8b4a1547d41fbb429c3de3c058ba86674ec05a7621e3cfef2a9e32d41c52c"), looks := true }, kinds := [], alts := [], laidByText := true, laidKinds := [.data, .data, .data, .data, .sentinel, .sentinel, .pinned], laidTests := true, laidLooks := .later }
def ReportTextUptoCardSaid : Prop := Claim7.holds Tryd.pinned (.plain (OpenSpec.upto reportTextSpec)) reportTextUptoCard

/-- THE SECOND FORM's CARD OF 'breadlinelaw23.ReportPrints'. -/
def reportPrintsUptoCard : Claim7 := { stood := { row := reportPrintsUptoRow, standIns := [], harness := (true, "39b8b4a1547d41fbb429c3de3c058ba86674ec05a7621e3cfef2a9e32d41c52c"), looks := true }, kinds := [], alts := [], laidByText := true, laidKinds := [.data, .data, .data, .data, .sentinel, .sentinel, .pinned], laidTests := true, laidLooks := .later }
def ReportPrintsUptoCardSaid : Prop := Claim7.holds Tryd.pinned (.plain (OpenSpec.upto reportPrintsSpec)) reportPrintsUptoCard
end Rows
end Go.Proofs.YtfolhicnbabldaaDoor
