/-
  DERIVED. GIVEN WITH THE SEED: THE CARDS: each row of YthhemephaabblaaGreatDoorRows.lean that lists a variable, with what it lists TIED to the program's text (the seventh form; the later family's looks); each row that meets fmt, with fmt's text TOLD by the authors' own Lean function (tested against real Go, not proved from fmt's source: count such statements apart). THE CARD IS WHAT COUNTS. Prove the row's statement (the work); the ties are given (YthhemephaabblaaGreatDoorTie.lean); close each card by the builder's one call (the guide's Derived/Test/ToyasCard.lean, 'card_holds'). Laid BY PROGRAM, IN A SANDBOX (cutbox-door.mjs). By AI agents, Wed Nov 11 2026. No macro, syntax, notation, axiom, sorry.
-/
import Derived.Test.YthhemephaabblaaGreatDoorRows
import GoSem.ClaimSeven
namespace Go.Proofs.YthhemephaabblaaGreatDoor
namespace Rows

/-- THE TIED CARD OF 'cairnlaw32.QueryParses'. -/
def queryParsesCard : Claim7 := { stood := { row := queryParsesRow, standIns := [], harness := (true, "b23b01b9411da3ecceb2af1f42d7fbc463468b7a4a13a07b84a0c7c689adbb50"), looks := true }, kinds := [], alts := [], laidByText := true, laidKinds := [.data, .data, .data, .sentinel, .sentinel], laidTests := true, laidLooks := .later }
def QueryParsesCardSaid : Prop := Claim7.holds Tryz.pinned (.plain (OpenSpec.ofChange queryParsesSpec)) queryParsesCard

/-- THE TIED CARD OF 'cairnlaw32.QueryPrints'. -/
def queryPrintsCard : Claim7 := { stood := { row := queryPrintsRow, standIns := [], harness := (true, "b23b01b9411da3ecceb2af1f42d7fbc463468b7a4a13a07b84a0c7c689adbb50"), looks := true }, kinds := [], alts := [], laidByText := true, laidKinds := [.data, .data, .data, .sentinel, .sentinel], laidTests := true, laidLooks := .later }
def QueryPrintsCardSaid : Prop := Claim7.holds Tryz.pinned (.plain (OpenSpec.ofChange queryPrintsSpec)) queryPrintsCard

/-- THE TIED CARD OF 'cairnlaw32.QueryRound'. -/
def queryRoundCard : Claim7 := { stood := { row := queryRoundRow, standIns := [], harness := (true, "b23b01b9411da3ecceb2af1f42d7fbc463468b7a4a13a07b84a0c7c689adbb50"), looks := true }, kinds := [], alts := [], laidByText := true, laidKinds := [.data, .data, .data, .sentinel, .sentinel], laidTests := true, laidLooks := .later }
def QueryRoundCardSaid : Prop := Claim7.holds Tryz.pinned (.plain (OpenSpec.ofChange queryRoundSpec)) queryRoundCard

/-- THE TIED CARD OF 'cairnlaw32.QueryPlans'. -/
def queryPlansCard : Claim7 := { stood := { row := queryPlansRow, standIns := [], harness := (true, "b23b01b9411da3ecceb2af1f42d7fbc463468b7a4a13a07b84a0c7c689adbb50"), looks := true }, kinds := [], alts := [], laidByText := true, laidKinds := [.data, .data, .data, .sentinel, .sentinel], laidTests := true, laidLooks := .later }
def QueryPlansCardSaid : Prop := Claim7.holds Tryz.pinned (.plain (OpenSpec.ofChange queryPlansSpec)) queryPlansCard

/-- THE SECOND FORM's CARD OF 'cairnlaw32.QueryParses'. -/
def queryParsesUptoCard : Claim7 := { stood := { row := queryParsesUptoRow, standIns := [], harness := (true, "b23b01b9411da3ecceb2af1f42d7fbc463468b7a4a13a07b84a0c7c689adbb50"), looks := true }, kinds := [], alts := [], laidByText := true, laidKinds := [.data, .data, .data, .sentinel, .sentinel], laidTests := true, laidLooks := .later }
def QueryParsesUptoCardSaid : Prop := Claim7.holds Tryz.pinned (.plain (OpenSpec.upto queryParsesSpec)) queryParsesUptoCard

/-- THE SECOND FORM's CARD OF 'cairnlaw32.QueryPrints'. -/
def queryPrintsUptoCard : Claim7 := { stood := { row := queryPrintsUptoRow, standIns := [], harness := (true, "b23b01b9411da3ecceb2af1f42d7fbc463468b7a4a13a07b84a0c7c689adbb50"), looks := true }, kinds := [], alts := [], laidByText := true, laidKinds := [.data, .data, .data, .sentinel, .sentinel], laidTests := true, laidLooks := .later }
def QueryPrintsUptoCardSaid : Prop := Claim7.holds Tryz.pinned (.plain (OpenSpec.upto queryPrintsSpec)) queryPrintsUptoCard

/-- THE SECOND FORM's CARD OF 'cairnlaw32.QueryRound'. -/
def queryRoundUptoCard : Claim7 := { stood := { row := queryRoundUptoRow, standIns := [], harness := (true, "b23b01b9411da3ecceb2af1f42d7fbc463468b7a4a13a07b84a0c7c689adbb50"), looks := true }, kinds := [], alts := [], laidByText := true, laidKinds := [.data, .data, .data, .sentinel, .sentinel], laidTests := true, laidLooks := .later }
def QueryRoundUptoCardSaid : Prop := Claim7.holds Tryz.pinned (.plain (OpenSpec.upto queryRoundSpec)) queryRoundUptoCard

/-- THE SECOND FORM's CARD OF 'cairnlaw32.QueryPlans'. -/
def queryPlansUptoCard : Claim7 := { stood := { row := queryPlansUptoRow, standIns := [], harness := (true, "b23b01b9411da3ecceb2af1f42d7fbc463468b7a4a13a07b84a0c7c689adbb50"), looks := true }, kinds := [], alts := [], laidByText := true, laidKinds := [.data, .data, .data, .sentinel, .sentinel], laidTests := true, laidLooks := .later }
def QueryPlansUptoCardSaid : Prop := Claim7.holds Tryz.pinned (.plain (OpenSpec.upto queryPlansSpec)) queryPlansUptoCard
end Rows
end Go.Proofs.YthhemephaabblaaGreatDoor
