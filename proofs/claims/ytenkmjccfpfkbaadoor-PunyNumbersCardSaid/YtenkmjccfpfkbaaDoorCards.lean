/-
  DERIVED. GIVEN WITH THE SEED: THE CARDS: each row of YtenkmjccfpfkbaaDoorRows.lean that lists a variable, with what it lists TIED to the program's text (the seventh form; the later family's looks); each row that meets fmt, with fmt's text TOLD by the authors' own Lean function (tested against real Go, not proved from fmt's source: count such statements apart). THE CARD IS WHAT COUNTS. Prove the row's statement (the work); the ties are given (YtenkmjccfpfkbaaDoorTie.lean); close each card by the builder's one call (the guide's Derived/Test/ToyasCard.lean, 'card_holds'). Laid BY PROGRAM, IN A SANDBOX (cutbox-door.mjs). By AI agents, Wed Nov 11 2026. No macro, syntax, notation, axiom, sorry.
-/
import Derived.Test.YtenkmjccfpfkbaaDoorRows
import GoSem.ClaimSeven
namespace Go.Proofs.YtenkmjccfpfkbaaDoor
namespace Rows

/-- THE TIED CARD OF 'eponymlaw06.PunyEncodes'. -/
def punyEncodesCard : Claim7 := { stood := { row := punyEncodesRow, standIns := [], harness := (true, "abdabd225e670f0c9a5667d56e7ffbc67c53079747ffee590cd470d3d1857d78"), looks := true }, kinds := [], alts := [], laidByText := true, laidKinds := [.handle, .sentinel, .sentinel, .sentinel, .sentinel, .sentinel, .sentinel, .sentinel, .sentinel, .sentinel, .sentinel, .sentinel, .sentinel, .sentinel, .sentinel, .sentinel, .sentinel, .sentinel, .sentinel], laidTests := true, laidLooks := .later }
def PunyEncodesCardSaid : Prop := Claim7.holds Tryd.pinned (.plain (OpenSpec.ofChange punyEncodesSpec)) punyEncodesCard

/-- THE TIED CARD OF 'eponymlaw06.PunyDecodes'. -/
def punyDecodesCard : Claim7 := { stood := { row := punyDecodesRow, standIns := [], harness := (true, "abdabd225e670f0c9a5667d56e7ffbc67c53079747ffee590cd470d3d1857d78"), looks := true }, kinds := [], alts := [], laidByText := true, laidKinds := [.handle, .sentinel, .sentinel, .sentinel, .sentinel, .sentinel, .sentinel, .sentinel, .sentinel, .sentinel, .sentinel, .sentinel, .sentinel, .sentinel, .sentinel, .sentinel, .sentinel, .sentinel, .sentinel], laidTests := true, laidLooks := .later }
def PunyDecodesCardSaid : Prop := Claim7.holds Tryd.pinned (.plain (OpenSpec.ofChange punyDecodesSpec)) punyDecodesCard

/-- THE TIED CARD OF 'eponymlaw06.PunyBack'. -/
def punyBackCard : Claim7 := { stood := { row := punyBackRow, standIns := [], harness := (true, "abdabd225e670f0c9a5667d56e7ffbc67c53079747ffee590cd470d3d1857d78"), looks := true }, kinds := [], alts := [], laidByText := true, laidKinds := [.handle, .sentinel, .sentinel, .sentinel, .sentinel, .sentinel, .sentinel, .sentinel, .sentinel, .sentinel, .sentinel, .sentinel, .sentinel, .sentinel, .sentinel, .sentinel, .sentinel, .sentinel, .sentinel], laidTests := true, laidLooks := .later }
def PunyBackCardSaid : Prop := Claim7.holds Tryd.pinned (.plain (OpenSpec.ofChange punyBackSpec)) punyBackCard

/-- THE TIED CARD OF 'eponymlaw06.PunyThere'. -/
def punyThereCard : Claim7 := { stood := { row := punyThereRow, standIns := [], harness := (true, "abdabd225e670f0c9a5667d56e7ffbc67c53079747ffee590cd470d3d1857d78"), looks := true }, kinds := [], alts := [], laidByText := true, laidKinds := [.handle, .sentinel, .sentinel, .sentinel, .sentinel, .sentinel, .sentinel, .sentinel, .sentinel, .sentinel, .sentinel, .sentinel, .sentinel, .sentinel, .sentinel, .sentinel, .sentinel, .sentinel, .sentinel], laidTests := true, laidLooks := .later }
def PunyThereCardSaid : Prop := Claim7.holds Tryd.pinned (.plain (OpenSpec.ofChange punyThereSpec)) punyThereCard

/-- THE TIED CARD OF 'eponymlaw06.PunyNumbers'. -/
def punyNumbersCard : Claim7 := { stood := { row := punyNumbersRow, standIns := [], harness := (true, "abdabd225e670f0c9a5667d56e7ffbc67c53079747ffee590cd470d3d1857d78"), looks := true }, kinds := [], alts := [], laidByText := true, laidKinds := [.handle, .sentinel, .sentinel, .sentinel, .sentinel, .sentinel, .sentinel, .sentinel, .sentinel, .sentinel, .sentinel, .sentinel, .sentinel, .sentinel, .sentinel, .sentinel, .sentinel, .sentinel, .sentinel], laidTests := true, laidLooks := .later }
def PunyNumbersCardSaid : Prop := Claim7.holds Tryd.pinned (.plain (OpenSpec.ofChange punyNumbersSpec)) punyNumbersCard

/-- THE SECOND FORM's CARD OF 'eponymlaw06.PunyEncodes'. -/
def punyEncodesUptoCard : Claim7 := { stood := { row := punyEncodesUptoRow, standIns := [], harness := (true, "abdabd225e670f0c9a5667d56e7ffbc67c53079747ffee590cd470d3d1857d78"), looks := true }, kinds := [], alts := [], laidByText := true, laidKinds := [.handle, .sentinel, .sentinel, .sentinel, .sentinel, .sentinel, .sentinel, .sentinel, .sentinel, .sentinel, .sentinel, .sentinel, .sentinel, .sentinel, .sentinel, .sentinel, .sentinel, .sentinel, .sentinel], laidTests := true, laidLooks := .later }
def PunyEncodesUptoCardSaid : Prop := Claim7.holds Tryd.pinned (.plain (OpenSpec.upto punyEncodesSpec)) punyEncodesUptoCard

/-- THE SECOND FORM's CARD OF 'eponymlaw06.PunyDecodes'. -/
def punyDecodesUptoCard : Claim7 := { stood := { row := punyDecodesUptoRow, standIns := [], harness := (true, "abdabd225e670f0c9a5667d56e7ffbc67c53079747ffee590cd470d3d1857d78"), looks := true }, kinds := [], alts := [], laidByText := true, laidKinds := [.handle, .sentinel, .sentinel, .sentinel, .sentinel, .sentinel, .sentinel, .sentinel, .sentinel, .sentinel, .sentinel, .sentinel, .sentinel, .sentinel, .sentinel, .sentinel, .sentinel, .sentinel, .sentinel], laidTests := true, laidLooks := .later }
def PunyDecodesUptoCardSaid : Prop := Claim7.holds Tryd.pinned (.plain (OpenSpec.upto punyDecodesSpec)) punyDecodesUptoCard

/-- THE SECOND FORM's CARD OF 'eponymlaw06.PunyBack'. -/
def punyBackUptoCard : Claim7 := { stood := { row := punyBackUptoRow, standIns := [], harness := (true, "abdabd225e670f0c9a5667d56e7ffbc67c53079747ffee590cd470d3d1857d78"), looks := true }, kinds := [], alts := [], laidByText := true, laidKinds := [.handle, .sentinel, .sentinel, .sentinel, .sentinel, .sentinel, .sentinel, .sentinel, .sentinel, .sentinel, .sentinel, .sentinel, .sentinel, .sentinel, .sentinel, .sentinel, .sentinel, .sentinel, .sentinel], laidTests := true, laidLooks := .later }
def PunyBackUptoCardSaid : Prop := Claim7.holds Tryd.pinned (.plain (OpenSpec.upto punyBackSpec)) punyBackUptoCard

/-- THE SECOND FORM's CARD OF 'eponymlaw06.PunyThere'. -/
def punyThereUptoCard : Claim7 := { stood := { row := punyThereUptoRow, standIns := [], harness := (true, "abdabd225e670f0c9a5667d56e7ffbc67c53079747ffee590cd470d3d1857d78"), looks := true }, kinds := [], alts := [], laidByText := true, laidKinds := [.handle, .sentinel, .sentinel, .sentinel, .sentinel, .sentinel, .sentinel, .sentinel, .sentinel, .sentinel, .sentinel, .sentinel, .sentinel, .sentinel, .sentinel, .sentinel, .sentinel, .sentinel, .sentinel], laidTests := true, laidLooks := .later }
def PunyThereUptoCardSaid : Prop := Claim7.holds Tryd.pinned (.plain (OpenSpec.upto punyThereSpec)) punyThereUptoCard

/-- THE SECOND FORM's CARD OF 'eponymlaw06.PunyNumbers'. -/
def punyNumbersUptoCard : Claim7 := { stood := { row := punyNumbersUptoRow, standIns := [], harness := (true, "abdabd225e670f0c9a5667d56e7ffbc67c53079747ffee590cd470d3d1857d78"), looks := true }, kinds := [], alts := [], laidByText := true, laidKinds := [.handle, .sentinel, .sentinel, .sentinel, .sentinel, .sentinel, .sentinel, .sentinel, .sentinel, .sentinel, .sentinel, .sentinel, .sentinel, .sentinel, .sentinel, .sentinel, .sentinel, .sentinel, .sentinel], laidTests := true, laidLooks := .later }
def PunyNumbersUptoCardSaid : Prop := Claim7.holds Tryd.pinned (.plain (OpenSpec.upto punyNumbersSpec)) punyNumbersUptoCard
end Rows
end Go.Proofs.YtenkmjccfpfkbaaDoor
