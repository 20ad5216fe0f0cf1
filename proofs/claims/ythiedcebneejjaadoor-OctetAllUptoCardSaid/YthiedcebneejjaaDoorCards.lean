/-
  DERIVED. GIVEN WITH THE SEED: THE CARDS: each row of YthiedcebneejjaaDoorRows.lean that lists a variable, with what it lists TIED to the program's text (the seventh form; the later family's looks); each row that meets fmt, with fmt's text TOLD by the authors' own Lean function (tested against real Go, not proved from fmt's source: count such statements apart). THE CARD IS WHAT COUNTS. Prove the row's statement (the work); the ties are given (YthiedcebneejjaaDoorTie.lean); close each card by the builder's one call (the guide's Derived/Test/ToyasCard.lean, 'card_holds'). Laid BY PROGRAM, IN A SANDBOX (cutbox-door.mjs). By AI agents, Wed Nov 11 2026. No macro, syntax, notation, axiom, sorry.
-/
import Derived.Test.YthiedcebneejjaaDoorRows
import GoSem.ClaimSeven
namespace Go.Proofs.YthiedcebneejjaaDoor
namespace Rows

/-- THE TIED CARD OF 'cairnlaw01.OctetNames'. -/
def octetNamesCard : Claim7 := { stood := { row := octetNamesRow, standIns := [], harness := (true, "3a8242416e4304009dada1cebfd90215bbd2a67398b640cf4beb0655afd08a0e"), looks := false }, kinds := [], alts := [], laidByText := true, laidKinds := [.data], laidTests := true, laidLooks := .later }
def OctetNamesCardSaid : Prop := Claim7.holds Tryd.pinned (.plain (OpenSpec.ofChange octetNamesSpec)) octetNamesCard

/-- THE TIED CARD OF 'cairnlaw01.OctetBack'. -/
def octetBackCard : Claim7 := { stood := { row := octetBackRow, standIns := [], harness := (true, "3a8242416e4304009dada1cebfd90215bbd2a67398b640cf4beb0655afd08a0e"), looks := false }, kinds := [], alts := [], laidByText := true, laidKinds := [.data], laidTests := true, laidLooks := .later }
def OctetBackCardSaid : Prop := Claim7.holds Tryd.pinned (.plain (OpenSpec.ofChange octetBackSpec)) octetBackCard

/-- THE TIED CARD OF 'cairnlaw01.OctetAll'. -/
def octetAllCard : Claim7 := { stood := { row := octetAllRow, standIns := [], harness := (true, "3a8242416e4304009dada1cebfd90215bbd2a67398b640cf4beb0655afd08a0e"), looks := false }, kinds := [], alts := [], laidByText := true, laidKinds := [.data], laidTests := true, laidLooks := .later }
def OctetAllCardSaid : Prop := Claim7.holds Tryd.pinned (.plain (OpenSpec.ofChange octetAllSpec)) octetAllCard

/-- THE TIED CARD OF 'cairnlaw01.OctetOrder'. -/
def octetOrderCard : Claim7 := { stood := { row := octetOrderRow, standIns := [], harness := (true, "3a8242416e4304009dada1cebfd90215bbd2a67398b640cf4beb0655afd08a0e"), looks := false }, kinds := [], alts := [], laidByText := true, laidKinds := [.data], laidTests := true, laidLooks := .later }
def OctetOrderCardSaid : Prop := Claim7.holds Tryd.pinned (.plain (OpenSpec.ofChange octetOrderSpec)) octetOrderCard

/-- THE SECOND FORM's CARD OF 'cairnlaw01.OctetNames'. -/
def octetNamesUptoCard : Claim7 := { stood := { row := octetNamesUptoRow, standIns := [], harness := (true, "3a8242416e4304009dada1cebfd90215bbd2a67398b640cf4beb0655afd08a0e"), looks := false }, kinds := [], alts := [], laidByText := true, laidKinds := [.data], laidTests := true, laidLooks := .later }
def OctetNamesUptoCardSaid : Prop := Claim7.holds Tryd.pinned (.plain (OpenSpec.upto octetNamesSpec)) octetNamesUptoCard

/-- THE SECOND FORM's CARD OF 'cairnlaw01.OctetBack'. -/
def octetBackUptoCard : Claim7 := { stood := { row := octetBackUptoRow, standIns := [], harness := (true, "3a8242416e4304009dada1cebfd90215bbd2a67398b640cf4beb0655afd08a0e"), looks := false }, kinds := [], alts := [], laidByText := true, laidKinds := [.data], laidTests := true, laidLooks := .later }
def OctetBackUptoCardSaid : Prop := Claim7.holds Tryd.pinned (.plain (OpenSpec.upto octetBackSpec)) octetBackUptoCard

/-- THE SECOND FORM's CARD OF 'cairnlaw01.OctetAll'. -/
def octetAllUptoCard : Claim7 := { stood := { row := octetAllUptoRow, standIns := [], harness := (true, "3a8242416e4304009dada1cebfd90215bbd2a67398b640cf4beb0655afd08a0e"), looks := false }, kinds := [], alts := [], laidByText := true, laidKinds := [.data], laidTests := true, laidLooks := .later }
def OctetAllUptoCardSaid : Prop := Claim7.holds Tryd.pinned (.plain (OpenSpec.upto octetAllSpec)) octetAllUptoCard

/-- THE SECOND FORM's CARD OF 'cairnlaw01.OctetOrder'. -/
def octetOrderUptoCard : Claim7 := { stood := { row := octetOrderUptoRow, standIns := [], harness := (true, "3a8242416e4304009dada1cebfd90215bbd2a67398b640cf4beb0655afd08a0e"), looks := false }, kinds := [], alts := [], laidByText := true, laidKinds := [.data], laidTests := true, laidLooks := .later }
def OctetOrderUptoCardSaid : Prop := Claim7.holds Tryd.pinned (.plain (OpenSpec.upto octetOrderSpec)) octetOrderUptoCard
end Rows
end Go.Proofs.YthiedcebneejjaaDoor
