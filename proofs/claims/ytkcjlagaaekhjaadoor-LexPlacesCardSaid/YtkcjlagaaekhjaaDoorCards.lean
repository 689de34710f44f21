/-
  DERIVED. GIVEN WITH THE SEED: THE CARDS: each row of YtkcjlagaaekhjaaDoorRows.lean that lists a variable, with what it lists TIED to the program's text (the seventh form; the later family's looks); each row that meets fmt, with fmt's text TOLD by the authors' own Lean function (tested against real Go, not proved from fmt's source: count such statements apart). THE CARD IS WHAT COUNTS. Prove the row's statement (the work); the ties are given (YtkcjlagaaekhjaaDoorTie.lean); close each card by the builder's one call (the guide's Derived/Test/ToyasCard.lean, 'card_holds'). Laid BY PROGRAM, IN A SANDBOX (cutbox-door.mjs). By AI agents, Wed Nov 11 2026. No macro, syntax, notation, axiom, sorry.
-/
import Derived.Test.YtkcjlagaaekhjaaDoorRows
import GoSem.ClaimSeven
namespace Go.Proofs.YtkcjlagaaekhjaaDoor
namespace Rows

/-- THE TIED CARD OF 'jigsawlaw05.LexTells'. -/
def lexTellsCard : Claim7 := { stood := { row := lexTellsRow, standIns := [], harness := (true, "e2baa79d29fb2ab76df43726f1d49740e99581c4060c2cd17db0a606ee105c01"), looks := true }, kinds := [], alts := [], laidByText := true, laidKinds := [.data, .data, .data, .sentinel, .sentinel], laidTests := true, laidLooks := .later }
def LexTellsCardSaid : Prop := Claim7.holds Tryd.pinned (.plain (OpenSpec.ofChange lexTellsSpec)) lexTellsCard

/-- THE TIED CARD OF 'jigsawlaw05.LexBack'. -/
def lexBackCard : Claim7 := { stood := { row := lexBackRow, standIns := [], harness := (true, "e2baa79d29fb2ab76df43726f1d49740e99581c4060c2cd17db0a606ee105c01"), looks := true }, kinds := [], alts := [], laidByText := true, laidKinds := [.data, .data, .data, .sentinel, .sentinel], laidTests := true, laidLooks := .later }
def LexBackCardSaid : Prop := Claim7.holds Tryd.pinned (.plain (OpenSpec.ofChange lexBackSpec)) lexBackCard

/-- THE TIED CARD OF 'jigsawlaw05.LexLong'. -/
def lexLongCard : Claim7 := { stood := { row := lexLongRow, standIns := [], harness := (true, "e2baa79d29fb2ab76df43726f1d49740e99581c4060c2cd17db0a606ee105c01"), looks := true }, kinds := [], alts := [], laidByText := true, laidKinds := [.data, .data, .data, .sentinel, .sentinel], laidTests := true, laidLooks := .later }
def LexLongCardSaid : Prop := Claim7.holds Tryd.pinned (.plain (OpenSpec.ofChange lexLongSpec)) lexLongCard

/-- THE TIED CARD OF 'jigsawlaw05.LexPlaces'. -/
def lexPlacesCard : Claim7 := { stood := { row := lexPlacesRow, standIns := [], harness := (true, "e2baa79d29fb2ab76df43726f1d49740e99581c4060c2cd17db0a606ee105c01"), looks := true }, kinds := [], alts := [], laidByText := true, laidKinds := [.data, .data, .data, .data, .sentinel, .sentinel, .pinned], laidTests := true, laidLooks := .later }
def LexPlacesCardSaid : Prop := Claim7.holds Tryd.pinned (.plain (OpenSpec.ofChange lexPlacesSpec)) lexPlacesCard

/-- THE SECOND FORM's CARD OF 'jigsawlaw05.LexTells'. -/
def lexTellsUptoCard : Claim7 := { stood := { row := lexTellsUptoRow, standIns := [], harness := (true, "e2baa79d29fb2ab76df43726f1d49740e99581c4060c2cd17db0a606ee105c01"), looks := true }, kinds := [], alts := [], laidByText := true, laidKinds := [.data, .data, .data, .sentinel, .sentinel], laidTests := true, laidLooks := .later }
def LexTellsUptoCardSaid : Prop := Claim7.holds Tryd.pinned (.plain (OpenSpec.upto lexTellsSpec)) lexTellsUptoCard

/-- THE SECOND FORM's CARD OF 'jigsawlaw05.LexBack'. -/
def lexBackUptoCard : Claim7 := { stood := { row := lexBackUptoRow, standIns := [], harness := (true, "e2baa79d29fb2ab76df43726f1d49740e99581c4060c2cd17db0a606ee105c01"), looks := true }, kinds := [], alts := [], laidByText := true, laidKinds := [.data, .data, .data, .sentinel, .sentinel], laidTests := true, laidLooks := .later }
def LexBackUptoCardSaid : Prop := Claim7.holds Tryd.pinned (.plain (OpenSpec.upto lexBackSpec)) lexBackUptoCard

/-- THE SECOND FORM's CARD OF 'jigsawlaw05.LexLong'. -/
def lexLongUptoCard : Claim7 := { stood := { row := lexLongUptoRow, standIns := [], harness := (true, "e2baa79d29fb2ab76df43726f1d49740e99581c4060c2cd17db0a606ee105c01"), looks := true }, kinds := [], alts := [], laidByText := true, laidKinds := [.data, .data, .data, .sentinel, .sentinel], laidTests := true, laidLooks := .later }
def LexLongUptoCardSaid : Prop := Claim7.holds Tryd.pinned (.plain (OpenSpec.upto lexLongSpec)) lexLongUptoCard

/-- THE SECOND FORM's CARD OF 'jigsawlaw05.LexPlaces'. -/
def lexPlacesUptoCard : Claim7 := { stood := { row := lexPlacesUptoRow, standIns := [], harness := (true, "e2baa79d29fb2ab76df43726f1d49740e99581c4060c2cd17db0a606ee105c01"), looks := true }, kinds := [], alts := [], laidByText := true, laidKinds := [.data, .data, .data, .data, .sentinel, .sentinel, .pinned], laidTests := true, laidLooks := .later }
def LexPlacesUptoCardSaid : Prop := Claim7.holds Tryd.pinned (.plain (OpenSpec.upto lexPlacesSpec)) lexPlacesUptoCard
end Rows
end Go.Proofs.YtkcjlagaaekhjaaDoor
