/-
  DERIVED. GIVEN WITH THE SEED: THE CARDS: each row of YtnkhhnfmijljbaaDoorRows.lean that lists a variable, with what it lists TIED to the program's text (the seventh form; the later family's looks); each row that meets fmt, with fmt's text TOLD by the authors' own Lean function (tested against real Go, not proved from fmt's source: count such statements apart). THE CARD IS WHAT COUNTS. Prove the row's statement (the work); the ties are given (YtnkhhnfmijljbaaDoorTie.lean); close each card by the builder's one call (the guide's Derived/Test/ToyasCard.lean, 'card_holds'). Laid BY PROGRAM, IN A SANDBOX (cutbox-door.mjs). By AI agents, Wed Nov 11 2026. No macro, syntax, notation, axiom, sorry.
-/
import Derived.Test.YtnkhhnfmijljbaaDoorRows
import GoSem.ClaimSeven
namespace Go.Proofs.YtnkhhnfmijljbaaDoor
namespace Rows

/-- THE TIED CARD OF 'cairnlaw02.ShaSums'. -/
def shaSumsCard : Claim7 := { stood := { row := shaSumsRow, standIns := [], harness := (true, "4761ae3aa62ec4bc715bbd9ef64a0e29d5c7e19c98ff3836fd507a5fa623d466"), looks := false }, kinds := [], alts := [], laidByText := true, laidKinds := [.data, .data, .data, .data, .data], laidTests := true, laidLooks := .later }
def ShaSumsCardSaid : Prop := Claim7.holds Tryd.pinned (.plain (OpenSpec.ofChange shaSumsSpec)) shaSumsCard

/-- THE TIED CARD OF 'cairnlaw02.ShaPieces'. -/
def shaPiecesCard : Claim7 := { stood := { row := shaPiecesRow, standIns := [], harness := (true, "4761ae3aa62ec4bc715bbd9ef64a0e29d5c7e19c98ff3836fd507a5fa623d466"), looks := false }, kinds := [], alts := [], laidByText := true, laidKinds := [.data, .data, .data, .data], laidTests := true, laidLooks := .later }
def ShaPiecesCardSaid : Prop := Claim7.holds Tryd.pinned (.plain (OpenSpec.ofChange shaPiecesSpec)) shaPiecesCard

/-- THE TIED CARD OF 'cairnlaw02.ShaLong'. -/
def shaLongCard : Claim7 := { stood := { row := shaLongRow, standIns := [], harness := (true, "4761ae3aa62ec4bc715bbd9ef64a0e29d5c7e19c98ff3836fd507a5fa623d466"), looks := false }, kinds := [], alts := [], laidByText := true, laidKinds := [.data, .data, .data, .data], laidTests := true, laidLooks := .later }
def ShaLongCardSaid : Prop := Claim7.holds Tryd.pinned (.plain (OpenSpec.ofChange shaLongSpec)) shaLongCard

/-- THE TIED CARD OF 'cairnlaw02.ShaKnown'. -/
def shaKnownCard : Claim7 := { stood := { row := shaKnownRow, standIns := [], harness := (true, "4761ae3aa62ec4bc715bbd9ef64a0e29d5c7e19c98ff3836fd507a5fa623d466"), looks := false }, kinds := [], alts := [], laidByText := true, laidKinds := [.data, .data, .data, .data], laidTests := true, laidLooks := .later }
def ShaKnownCardSaid : Prop := Claim7.holds Tryd.pinned (.plain (OpenSpec.ofChange shaKnownSpec)) shaKnownCard

/-- THE TIED CARD OF 'cairnlaw02.ShaStates'. -/
def shaStatesCard : Claim7 := { stood := { row := shaStatesRow, standIns := [], harness := (true, "4761ae3aa62ec4bc715bbd9ef64a0e29d5c7e19c98ff3836fd507a5fa623d466"), looks := false }, kinds := [], alts := [], laidByText := true, laidKinds := [.data, .data, .data, .data, .data], laidTests := true, laidLooks := .later }
def ShaStatesCardSaid : Prop := Claim7.holds Tryd.pinned (.plain (OpenSpec.ofChange shaStatesSpec)) shaStatesCard

/-- THE TIED CARD OF 'cairnlaw03.MacPublished'. -/
def macPublishedCard : Claim7 := { stood := { row := macPublishedRow, standIns := [], harness := (true, "4761ae3aa62ec4bc715bbd9ef64a0e29d5c7e19c98ff3836fd507a5fa623d466"), looks := false }, kinds := [], alts := [], laidByText := true, laidKinds := [.data, .data], laidTests := true, laidLooks := .later }
def MacPublishedCardSaid : Prop := Claim7.holds Tryd.pinned (.plain (OpenSpec.ofChange macPublishedSpec)) macPublishedCard

/-- THE TIED CARD OF 'cairnlaw03.MacExact'. -/
def macExactCard : Claim7 := { stood := { row := macExactRow, standIns := [], harness := (true, "4761ae3aa62ec4bc715bbd9ef64a0e29d5c7e19c98ff3836fd507a5fa623d466"), looks := false }, kinds := [], alts := [], laidByText := true, laidKinds := [.data, .data, .data], laidTests := true, laidLooks := .later }
def MacExactCardSaid : Prop := Claim7.holds Tryd.pinned (.plain (OpenSpec.ofChange macExactSpec)) macExactCard

/-- THE TIED CARD OF 'cairnlaw03.MacPieces'. -/
def macPiecesCard : Claim7 := { stood := { row := macPiecesRow, standIns := [], harness := (true, "4761ae3aa62ec4bc715bbd9ef64a0e29d5c7e19c98ff3836fd507a5fa623d466"), looks := false }, kinds := [], alts := [], laidByText := true, laidKinds := [.data, .data], laidTests := true, laidLooks := .later }
def MacPiecesCardSaid : Prop := Claim7.holds Tryd.pinned (.plain (OpenSpec.ofChange macPiecesSpec)) macPiecesCard

/-- THE TIED CARD OF 'cairnlaw03.MacKnown'. -/
def macKnownCard : Claim7 := { stood := { row := macKnownRow, standIns := [], harness := (true, "4761ae3aa62ec4bc715bbd9ef64a0e29d5c7e19c98ff3836fd507a5fa623d466"), looks := false }, kinds := [], alts := [], laidByText := true, laidKinds := [.data, .data], laidTests := true, laidLooks := .later }
def MacKnownCardSaid : Prop := Claim7.holds Tryd.pinned (.plain (OpenSpec.ofChange macKnownSpec)) macKnownCard

/-- THE SECOND FORM's CARD OF 'cairnlaw02.ShaSums'. -/
def shaSumsUptoCard : Claim7 := { stood := { row := shaSumsUptoRow, standIns := [], harness := (true, "4761ae3aa62ec4bc715bbd9ef64a0e29d5c7e19c98ff3836fd507a5fa623d466"), looks := false }, kinds := [], alts := [], laidByText := true, laidKinds := [.data, .data, .data, .data, .data], laidTests := true, laidLooks := .later }
def ShaSumsUptoCardSaid : Prop := Claim7.holds Tryd.pinned (.plain (OpenSpec.upto shaSumsSpec)) shaSumsUptoCard

/-- THE SECOND FORM's CARD OF 'cairnlaw02.ShaPieces'. -/
def shaPiecesUptoCard : Claim7 := { stood := { row := shaPiecesUptoRow, standIns := [], harness := (true, "4761ae3aa62ec4bc715bbd9ef64a0e29d5c7e19c98ff3836fd507a5fa623d466"), looks := false }, kinds := [], alts := [], laidByText := true, laidKinds := [.data, .data, .data, .data], laidTests := true, laidLooks := .later }
def ShaPiecesUptoCardSaid : Prop := Claim7.holds Tryd.pinned (.plain (OpenSpec.upto shaPiecesSpec)) shaPiecesUptoCard

/-- THE SECOND FORM's CARD OF 'cairnlaw02.ShaLong'. -/
def shaLongUptoCard : Claim7 := { stood := { row := shaLongUptoRow, standIns := [], harness := (true, "4761ae3aa62ec4bc715bbd9ef64a0e29d5c7e19c98ff3836fd507a5fa623d466"), looks := false }, kinds := [], alts := [], laidByText := true, laidKinds := [.data, .data, .data, .data], laidTests := true, laidLooks := .later }
def ShaLongUptoCardSaid : Prop := Claim7.holds Tryd.pinned (.plain (OpenSpec.upto shaLongSpec)) shaLongUptoCard

/-- THE SECOND FORM's CARD OF 'cairnlaw02.ShaKnown'. -/
def shaKnownUptoCard : Claim7 := { stood := { row := shaKnownUptoRow, standIns := [], harness := (true, "4761ae3aa62ec4bc715bbd9ef64a0e29d5c7e19c98ff3836fd507a5fa623d466"), looks := false }, kinds := [], alts := [], laidByText := true, laidKinds := [.data, .data, .data, .data], laidTests := true, laidLooks := .later }
def ShaKnownUptoCardSaid : Prop := Claim7.holds Tryd.pinned (.plain (OpenSpec.upto shaKnownSpec)) shaKnownUptoCard

/-- THE SECOND FORM's CARD OF 'cairnlaw02.ShaStates'. -/
def shaStatesUptoCard : Claim7 := { stood := { row := shaStatesUptoRow, standIns := [], harness := (true, "4761ae3aa62ec4bc715bbd9ef64a0e29d5c7e19c98ff3836fd507a5fa623d466"), looks := false }, kinds := [], alts := [], laidByText := true, laidKinds := [.data, .data, .data, .data, .data], laidTests := true, laidLooks := .later }
def ShaStatesUptoCardSaid : Prop := Claim7.holds Tryd.pinned (.plain (OpenSpec.upto shaStatesSpec)) shaStatesUptoCard

/-- THE SECOND FORM's CARD OF 'cairnlaw03.MacPublished'. -/
def macPublishedUptoCard : Claim7 := { stood := { row := macPublishedUptoRow, standIns := [], harness := (true, "4761ae3aa62ec4bc715bbd9ef64a0e29d5c7e19c98ff3836fd507a5fa623d466"), looks := false }, kinds := [], alts := [], laidByText := true, laidKinds := [.data, .data], laidTests := true, laidLooks := .later }
def MacPublishedUptoCardSaid : Prop := Claim7.holds Tryd.pinned (.plain (OpenSpec.upto macPublishedSpec)) macPublishedUptoCard

/-- THE SECOND FORM's CARD OF 'cairnlaw03.MacExact'. -/
def macExactUptoCard : Claim7 := { stood := { row := macExactUptoRow, standIns := [], harness := (true, "4761ae3aa62ec4bc715bbd9ef64a0e29d5c7e19c98ff3836fd507a5fa623d466"), looks := false }, kinds := [], alts := [], laidByText := true, laidKinds := [.data, .data, .data], laidTests := true, laidLooks := .later }
def MacExactUptoCardSaid : Prop := Claim7.holds Tryd.pinned (.plain (OpenSpec.upto macExactSpec)) macExactUptoCard

/-- THE SECOND FORM's CARD OF 'cairnlaw03.MacPieces'. -/
def macPiecesUptoCard : Claim7 := { stood := { row := macPiecesUptoRow, standIns := [], harness := (true, "4761ae3aa62ec4bc715bbd9ef64a0e29d5c7e19c98ff3836fd507a5fa623d466"), looks := false }, kinds := [], alts := [], laidByText := true, laidKinds := [.data, .data], laidTests := true, laidLooks := .later }
def MacPiecesUptoCardSaid : Prop := Claim7.holds Tryd.pinned (.plain (OpenSpec.upto macPiecesSpec)) macPiecesUptoCard

/-- THE SECOND FORM's CARD OF 'cairnlaw03.MacKnown'. -/
def macKnownUptoCard : Claim7 := { stood := { row := macKnownUptoRow, standIns := [], harness := (true, "4761ae3aa62ec4bc715bbd9ef64a0e29d5c7e19c98ff3836fd507a5fa623d466"), looks := false }, kinds := [], alts := [], laidByText := true, laidKinds := [.data, .data], laidTests := true, laidLooks := .later }
def MacKnownUptoCardSaid : Prop := Claim7.holds Tryd.pinned (.plain (OpenSpec.upto macKnownSpec)) macKnownUptoCard
end Rows
end Go.Proofs.YtnkhhnfmijljbaaDoor
