/-
  DERIVED. GIVEN WITH THE SEED: THE CARDS: each row of YtohnahbjmcelfaaDoorRows.lean that lists a variable, with what it lists TIED to the program's text (the seventh form; the later family's looks); each row that meets fmt, with fmt's text TOLD by the authors' own Lean function (tested against real Go, not proved from fmt's source: count such statements apart). THE CARD IS WHAT COUNTS. Prove the row's statement (the work); the ties are given (YtohnahbjmcelfaaDoorTie.lean); close each card by the builder's one call (the guide's Derived/Test/ToyasCard.lean, 'card_holds'). Laid BY PROGRAM, IN A SANDBOX (cutbox-door.mjs). By AI agents, Wed Nov 11 2026. No macro, syntax, notation, axiom, sorry.
-/
import Derived.Test.YtohnahbjmcelfaaDoorRows
import GoSem.ClaimSeven
namespace Go.Proofs.YtohnahbjmcelfaaDoor
namespace Rows

/-- THE TIED CARD OF 'eponymlaw19.VariantsAlike'. -/
def variantsAlikeCard : Claim7 := { stood := { row := variantsAlikeRow, standIns := [], harness := (true, "98bef73409e7306e57b93bb8ba990440b68ae802b2a39ec1163c46f51a7cd16b"), looks := true }, kinds := [], alts := [], laidByText := true, laidKinds := [.handle, .sentinel, .sentinel, .sentinel, .sentinel, .sentinel, .sentinel, .sentinel, .sentinel], laidTests := true, laidLooks := .later }
def VariantsAlikeCardSaid : Prop := Claim7.holds Tryd.pinned (.plain (OpenSpec.ofChange variantsAlikeSpec)) variantsAlikeCard

/-- THE TIED CARD OF 'eponymlaw19.VariantsChecks'. -/
def variantsChecksCard : Claim7 := { stood := { row := variantsChecksRow, standIns := [], harness := (true, "98bef73409e7306e57b93bb8ba990440b68ae802b2a39ec1163c46f51a7cd16b"), looks := true }, kinds := [], alts := [], laidByText := true, laidKinds := [.handle, .sentinel, .sentinel, .sentinel, .sentinel, .sentinel, .sentinel, .sentinel, .sentinel, .sentinel, .sentinel, .sentinel, .sentinel, .sentinel, .sentinel, .sentinel, .sentinel, .sentinel, .sentinel], laidTests := true, laidLooks := .later }
def VariantsChecksCardSaid : Prop := Claim7.holds Tryd.pinned (.plain (OpenSpec.ofChange variantsChecksSpec)) variantsChecksCard

/-- THE SECOND FORM's CARD OF 'eponymlaw19.VariantsAlike'. -/
def variantsAlikeUptoCard : Claim7 := { stood := { row := variantsAlikeUptoRow, standIns := [], harness := (true, "98bef73409e7306e57b93bb8ba990440b68ae802b2a39ec1163c46f51a7cd16b"), looks := true }, kinds := [], alts := [], laidByText := true, laidKinds := [.handle, .sentinel, .sentinel, .sentinel, .sentinel, .sentinel, .sentinel, .sentinel, .sentinel], laidTests := true, laidLooks := .later }
def VariantsAlikeUptoCardSaid : Prop := Claim7.holds Tryd.pinned (.plain (OpenSpec.upto variantsAlikeSpec)) variantsAlikeUptoCard

/-- THE SECOND FORM's CARD OF 'eponymlaw19.VariantsChecks'. -/
def variantsChecksUptoCard : Claim7 := { stood := { row := variantsChecksUptoRow, standIns := [], harness := (true, "98bef73409e7306e57b93bb8ba990440b68ae802b2a39ec1163c46f51a7cd16b"), looks := true }, kinds := [], alts := [], laidByText := true, laidKinds := [.handle, .sentinel, .sentinel, .sentinel, .sentinel, .sentinel, .sentinel, .sentinel, .sentinel, .sentinel, .sentinel, .sentinel, .sentinel, .sentinel, .sentinel, .sentinel, .sentinel, .sentinel, .sentinel], laidTests := true, laidLooks := .later }
def VariantsChecksUptoCardSaid : Prop := Claim7.holds Tryd.pinned (.plain (OpenSpec.upto variantsChecksSpec)) variantsChecksUptoCard
end Rows
end Go.Proofs.YtohnahbjmcelfaaDoor
