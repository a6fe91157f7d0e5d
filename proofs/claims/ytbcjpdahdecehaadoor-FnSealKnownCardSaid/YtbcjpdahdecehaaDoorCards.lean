/-
  DERIVED. GIVEN WITH THE SEED: THE CARDS: each row of YtbcjpdahdecehaaDoorRows.lean that lists a variable, with what it lists TIED to the program's text (the seventh form; the later family's looks); each row that meets fmt, with fmt's text TOLD by the authors' own Lean function (tested against real Go, not proved from fmt's source: count such statements apart). THE CARD IS WHAT COUNTS. Prove the row's statement (the work); the ties are given (YtbcjpdahdecehaaDoorTie.lean); close each card by the builder's one call (the guide's Derived/Test/ToyasCard.lean, 'card_holds'). Laid BY PROGRAM, IN A SANDBOX (cutbox-door.mjs). By AI agents, Wed Nov 11 2026. No macro, syntax, notation, axiom, sorry.
-/
import Derived.Test.YtbcjpdahdecehaaDoorRows
import GoSem.ClaimSeven
namespace Go.Proofs.YtbcjpdahdecehaaDoor
namespace Rows

/-- THE TIED CARD OF 'laws.FnSealOk'. -/
def fnSealOkCard : Claim7 := { stood := { row := fnSealOkRow, standIns := [], harness := (true, "7f15f156b237e8b41f03e1394a90360bc918ae3e7219502144e7dbb425dd4559"), looks := false }, kinds := [], alts := [], laidByText := true, laidKinds := [.data, .data, .data], laidTests := true, laidLooks := .later }
def FnSealOkCardSaid : Prop := Claim7.holds Tryd.pinned (.plain (OpenSpec.ofChange fnSealOkSpec)) fnSealOkCard

/-- THE TIED CARD OF 'laws.FnSealText'. -/
def fnSealTextCard : Claim7 := { stood := { row := fnSealTextRow, standIns := [], harness := (true, "7f15f156b237e8b41f03e1394a90360bc918ae3e7219502144e7dbb425dd4559"), looks := false }, kinds := [], alts := [], laidByText := true, laidKinds := [.data, .data, .data], laidTests := true, laidLooks := .later }
def FnSealTextCardSaid : Prop := Claim7.holds Tryd.pinned (.plain (OpenSpec.ofChange fnSealTextSpec)) fnSealTextCard

/-- THE TIED CARD OF 'laws.FnExactSealText'. -/
def fnExactSealTextCard : Claim7 := { stood := { row := fnExactSealTextRow, standIns := [], harness := (true, "7f15f156b237e8b41f03e1394a90360bc918ae3e7219502144e7dbb425dd4559"), looks := false }, kinds := [], alts := [], laidByText := true, laidKinds := [.data, .data, .data], laidTests := true, laidLooks := .later }
def FnExactSealTextCardSaid : Prop := Claim7.holds Tryd.pinned (.plain (OpenSpec.ofChange fnExactSealTextSpec)) fnExactSealTextCard

/-- THE TIED CARD OF 'laws.FnExactSealUnder'. -/
def fnExactSealUnderCard : Claim7 := { stood := { row := fnExactSealUnderRow, standIns := [], harness := (true, "7f15f156b237e8b41f03e1394a90360bc918ae3e7219502144e7dbb425dd4559"), looks := false }, kinds := [], alts := [], laidByText := true, laidKinds := [.data, .data, .data], laidTests := true, laidLooks := .later }
def FnExactSealUnderCardSaid : Prop := Claim7.holds Tryd.pinned (.plain (OpenSpec.ofChange fnExactSealUnderSpec)) fnExactSealUnderCard

/-- THE TIED CARD OF 'laws.FnSealUnder'. -/
def fnSealUnderCard : Claim7 := { stood := { row := fnSealUnderRow, standIns := [], harness := (true, "7f15f156b237e8b41f03e1394a90360bc918ae3e7219502144e7dbb425dd4559"), looks := false }, kinds := [], alts := [], laidByText := true, laidKinds := [.data, .data, .data], laidTests := true, laidLooks := .later }
def FnSealUnderCardSaid : Prop := Claim7.holds Tryd.pinned (.plain (OpenSpec.ofChange fnSealUnderSpec)) fnSealUnderCard

/-- THE TIED CARD OF 'laws.FnExactSealMade'. -/
def fnExactSealMadeCard : Claim7 := { stood := { row := fnExactSealMadeRow, standIns := [], harness := (true, "7f15f156b237e8b41f03e1394a90360bc918ae3e7219502144e7dbb425dd4559"), looks := false }, kinds := [], alts := [], laidByText := true, laidKinds := [.data, .data, .data], laidTests := true, laidLooks := .later }
def FnExactSealMadeCardSaid : Prop := Claim7.holds Tryd.pinned (.plain (OpenSpec.ofChange fnExactSealMadeSpec)) fnExactSealMadeCard

/-- THE TIED CARD OF 'laws.FnSealMade'. -/
def fnSealMadeCard : Claim7 := { stood := { row := fnSealMadeRow, standIns := [], harness := (true, "7f15f156b237e8b41f03e1394a90360bc918ae3e7219502144e7dbb425dd4559"), looks := false }, kinds := [], alts := [], laidByText := true, laidKinds := [.data, .data, .data], laidTests := true, laidLooks := .later }
def FnSealMadeCardSaid : Prop := Claim7.holds Tryd.pinned (.plain (OpenSpec.ofChange fnSealMadeSpec)) fnSealMadeCard

/-- THE TIED CARD OF 'laws.FnSecretKept'. -/
def fnSecretKeptCard : Claim7 := { stood := { row := fnSecretKeptRow, standIns := [], harness := (true, "7f15f156b237e8b41f03e1394a90360bc918ae3e7219502144e7dbb425dd4559"), looks := false }, kinds := [], alts := [], laidByText := true, laidKinds := [.data, .data, .data], laidTests := true, laidLooks := .later }
def FnSecretKeptCardSaid : Prop := Claim7.holds Tryd.pinned (.plain (OpenSpec.ofChange fnSecretKeptSpec)) fnSecretKeptCard

/-- THE TIED CARD OF 'laws.FnSealKnown'. -/
def fnSealKnownCard : Claim7 := { stood := { row := fnSealKnownRow, standIns := [], harness := (true, "7f15f156b237e8b41f03e1394a90360bc918ae3e7219502144e7dbb425dd4559"), looks := false }, kinds := [], alts := [], laidByText := true, laidKinds := [.data, .data, .data], laidTests := true, laidLooks := .later }
def FnSealKnownCardSaid : Prop := Claim7.holds Tryd.pinned (.plain (OpenSpec.ofChange fnSealKnownSpec)) fnSealKnownCard

/-- THE TIED CARD OF 'laws.FnExactSealKnown'. -/
def fnExactSealKnownCard : Claim7 := { stood := { row := fnExactSealKnownRow, standIns := [], harness := (true, "7f15f156b237e8b41f03e1394a90360bc918ae3e7219502144e7dbb425dd4559"), looks := false }, kinds := [], alts := [], laidByText := true, laidKinds := [.data, .data, .data], laidTests := true, laidLooks := .later }
def FnExactSealKnownCardSaid : Prop := Claim7.holds Tryd.pinned (.plain (OpenSpec.ofChange fnExactSealKnownSpec)) fnExactSealKnownCard

/-- THE SECOND FORM's CARD OF 'laws.FnSealOk'. -/
def fnSealOkUptoCard : Claim7 := { stood := { row := fnSealOkUptoRow, standIns := [], harness := (true, "7f15f156b237e8b41f03e1394a90360bc918ae3e7219502144e7dbb425dd4559"), looks := false }, kinds := [], alts := [], laidByText := true, laidKinds := [.data, .data, .data], laidTests := true, laidLooks := .later }
def FnSealOkUptoCardSaid : Prop := Claim7.holds Tryd.pinned (.plain (OpenSpec.upto fnSealOkSpec)) fnSealOkUptoCard

/-- THE SECOND FORM's CARD OF 'laws.FnSealText'. -/
def fnSealTextUptoCard : Claim7 := { stood := { row := fnSealTextUptoRow, standIns := [], harness := (true, "7f15f156b237e8b41f03e1394a90360bc918ae3e7219502144e7dbb425dd4559"), looks := false }, kinds := [], alts := [], laidByText := true, laidKinds := [.data, .data, .data], laidTests := true, laidLooks := .later }
def FnSealTextUptoCardSaid : Prop := Claim7.holds Tryd.pinned (.plain (OpenSpec.upto fnSealTextSpec)) fnSealTextUptoCard

/-- THE SECOND FORM's CARD OF 'laws.FnExactSealText'. -/
def fnExactSealTextUptoCard : Claim7 := { stood := { row := fnExactSealTextUptoRow, standIns := [], harness := (true, "7f15f156b237e8b41f03e1394a90360bc918ae3e7219502144e7dbb425dd4559"), looks := false }, kinds := [], alts := [], laidByText := true, laidKinds := [.data, .data, .data], laidTests := true, laidLooks := .later }
def FnExactSealTextUptoCardSaid : Prop := Claim7.holds Tryd.pinned (.plain (OpenSpec.upto fnExactSealTextSpec)) fnExactSealTextUptoCard

/-- THE SECOND FORM's CARD OF 'laws.FnExactSealUnder'. -/
def fnExactSealUnderUptoCard : Claim7 := { stood := { row := fnExactSealUnderUptoRow, standIns := [], harness := (true, "7f15f156b237e8b41f03e1394a90360bc918ae3e7219502144e7dbb425dd4559"), looks := false }, kinds := [], alts := [], laidByText := true, laidKinds := [.data, .data, .data], laidTests := true, laidLooks := .later }
def FnExactSealUnderUptoCardSaid : Prop := Claim7.holds Tryd.pinned (.plain (OpenSpec.upto fnExactSealUnderSpec)) fnExactSealUnderUptoCard

/-- THE SECOND FORM's CARD OF 'laws.FnSealUnder'. -/
def fnSealUnderUptoCard : Claim7 := { stood := { row := fnSealUnderUptoRow, standIns := [], harness := (true, "7f15f156b237e8b41f03e1394a90360bc918ae3e7219502144e7dbb425dd4559"), looks := false }, kinds := [], alts := [], laidByText := true, laidKinds := [.data, .data, .data], laidTests := true, laidLooks := .later }
def FnSealUnderUptoCardSaid : Prop := Claim7.holds Tryd.pinned (.plain (OpenSpec.upto fnSealUnderSpec)) fnSealUnderUptoCard

/-- THE SECOND FORM's CARD OF 'laws.FnExactSealMade'. -/
def fnExactSealMadeUptoCard : Claim7 := { stood := { row := fnExactSealMadeUptoRow, standIns := [], harness := (true, "7f15f156b237e8b41f03e1394a90360bc918ae3e7219502144e7dbb425dd4559"), looks := false }, kinds := [], alts := [], laidByText := true, laidKinds := [.data, .data, .data], laidTests := true, laidLooks := .later }
def FnExactSealMadeUptoCardSaid : Prop := Claim7.holds Tryd.pinned (.plain (OpenSpec.upto fnExactSealMadeSpec)) fnExactSealMadeUptoCard

/-- THE SECOND FORM's CARD OF 'laws.FnSealMade'. -/
def fnSealMadeUptoCard : Claim7 := { stood := { row := fnSealMadeUptoRow, standIns := [], harness := (true, "7f15f156b237e8b41f03e1394a90360bc918ae3e7219502144e7dbb425dd4559"), looks := false }, kinds := [], alts := [], laidByText := true, laidKinds := [.data, .data, .data], laidTests := true, laidLooks := .later }
def FnSealMadeUptoCardSaid : Prop := Claim7.holds Tryd.pinned (.plain (OpenSpec.upto fnSealMadeSpec)) fnSealMadeUptoCard

/-- THE SECOND FORM's CARD OF 'laws.FnSecretKept'. -/
def fnSecretKeptUptoCard : Claim7 := { stood := { row := fnSecretKeptUptoRow, standIns := [], harness := (true, "7f15f156b237e8b41f03e1394a90360bc918ae3e7219502144e7dbb425dd4559"), looks := false }, kinds := [], alts := [], laidByText := true, laidKinds := [.data, .data, .data], laidTests := true, laidLooks := .later }
def FnSecretKeptUptoCardSaid : Prop := Claim7.holds Tryd.pinned (.plain (OpenSpec.upto fnSecretKeptSpec)) fnSecretKeptUptoCard

/-- THE SECOND FORM's CARD OF 'laws.FnSealKnown'. -/
def fnSealKnownUptoCard : Claim7 := { stood := { row := fnSealKnownUptoRow, standIns := [], harness := (true, "7f15f156b237e8b41f03e1394a90360bc918ae3e7219502144e7dbb425dd4559"), looks := false }, kinds := [], alts := [], laidByText := true, laidKinds := [.data, .data, .data], laidTests := true, laidLooks := .later }
def FnSealKnownUptoCardSaid : Prop := Claim7.holds Tryd.pinned (.plain (OpenSpec.upto fnSealKnownSpec)) fnSealKnownUptoCard

/-- THE SECOND FORM's CARD OF 'laws.FnExactSealKnown'. -/
def fnExactSealKnownUptoCard : Claim7 := { stood := { row := fnExactSealKnownUptoRow, standIns := [], harness := (true, "7f15f156b237e8b41f03e1394a90360bc918ae3e7219502144e7dbb425dd4559"), looks := false }, kinds := [], alts := [], laidByText := true, laidKinds := [.data, .data, .data], laidTests := true, laidLooks := .later }
def FnExactSealKnownUptoCardSaid : Prop := Claim7.holds Tryd.pinned (.plain (OpenSpec.upto fnExactSealKnownSpec)) fnExactSealKnownUptoCard
end Rows
end Go.Proofs.YtbcjpdahdecehaaDoor
