/-
  NARROWER THAN 'FOR EVERY INPUT', by the rows' own cells (each row's printed sentence says how): OctetNames: laid · OctetBack: laid · OctetAll: laid · OctetOrder: laid.
  DERIVED. THE GIVEN ROWS OF THIS SEAT. 4 by the template 'for every input the law returns true; each argument reads behind the call as it read before'; 0 by the template 'total and deterministic' (their statements: YthiedcebneejjaaDoorTotals.lean).
  GIVEN WITH THE SEED: the statements are not yours to turn. If you find one false, say at which input.
  Laid BY PROGRAM, IN A SANDBOX (cutbox-rows.mjs): the forced cells as the released guide's own fill.sh prints them over the translation 27312446cf64358e… (all of the seat's roots in one cut). By AI agents, Wed Nov 11 2026. No macro, syntax, notation, axiom, sorry.
-/
import Derived.Test.YthiedcebneejjaaDoorChecked
import GoSem.Claim
import GoSem.ClaimJoined
import GoSem.ClaimMapViews
import Derived.JoinedTies
import Derived.KernelRfl
namespace Go.Proofs.YthiedcebneejjaaDoor
/- THE CELL 'sum', in the pinned program and in every row, IS THE sha256 OF THE DUMP (.gsa) THAT YthiedcebneejjaaDoorProg.lean LOADS. Nothing in Lean hashes anything: it is a label: what it is worth is what the hold of that sum in a sandbox is worth. -/
noncomputable def Tryd.pinned : Pinned := { name := "ythiedcebneejjaadoor", sum := "27312446cf64358e9c0f4f9c0b61cabd8ea623cf2242e3ab691179170d453402", checked := Tryd.checked }
namespace Rows
def none {H : Type} : Left H := { results := [], args := [] }

/- WHAT THE LISTED PACKAGE-LEVEL VARIABLES READ AS WHEN THE CALL BEGINS. Each datum BY PROGRAM (the guide's laid-datum.mjs) off the statement by which the dump's own 'gosem.cut.vars' lays the variable. In a bare row this is a premise. The card (YthiedcebneejjaaDoorCards.lean) ties it to the program's text. -/
def laid_cairn_octet_digits {H : Type} : DataW H := .agg [.lit (.int .u8 48), .lit (.int .u8 49), .lit (.int .u8 50), .lit (.int .u8 51), .lit (.int .u8 52), .lit (.int .u8 53), .lit (.int .u8 54), .lit (.int .u8 55), .lit (.int .u8 56), .lit (.int .u8 57), .lit (.int .u8 97), .lit (.int .u8 98), .lit (.int .u8 99), .lit (.int .u8 100), .lit (.int .u8 101), .lit (.int .u8 102)]

/-- 'cairnlaw01.OctetNames': WHATEVER THE INPUT: true; the input reads as it did. -/
def octetNamesSpec : ChangeSpec := { name := "octetNames", fn := fun _ => fun
  | [] => { results := [.lit (.bool true)], args := [] }
  | _ => none }
def octetNamesRow : OpenClaim := { program := "ythiedcebneejjaadoor", sum := "27312446cf64358e9c0f4f9c0b61cabd8ea623cf2242e3ab691179170d453402", func := "cairn/cairnlaw01.OctetNames", spec := "octetNames", named := ["cairn/octet.digits"], apart := false, laid := [("cairn/octet.digits", laid_cairn_octet_digits)] }
def OctetNamesSaid : Prop := octetNamesRow.holds Tryd.pinned (OpenSpec.ofChange octetNamesSpec)

/-- ITS FALSE NEIGHBOUR: 'it returns false'. Refute it at one input. -/
def octetNamesWrong : ChangeSpec := { name := "octetNames", fn := fun _ => fun
  | [] => { results := [.lit (.bool false)], args := [] }
  | _ => none }
def OctetNamesWrongFalsely : Prop := octetNamesRow.holds Tryd.pinned (OpenSpec.ofChange octetNamesWrong)

/-- 'cairnlaw01.OctetBack': WHATEVER THE INPUT: true; the input reads as it did. -/
def octetBackSpec : ChangeSpec := { name := "octetBack", fn := fun _ => fun
  | [d] => { results := [.lit (.bool true)], args := [d] }
  | _ => none }
def octetBackRow : OpenClaim := { program := "ythiedcebneejjaadoor", sum := "27312446cf64358e9c0f4f9c0b61cabd8ea623cf2242e3ab691179170d453402", func := "cairn/cairnlaw01.OctetBack", spec := "octetBack", named := ["cairn/octet.digits"], apart := false, laid := [("cairn/octet.digits", laid_cairn_octet_digits)] }
def OctetBackSaid : Prop := octetBackRow.holds Tryd.pinned (OpenSpec.ofChange octetBackSpec)

/-- ITS FALSE NEIGHBOUR: 'it returns false'. Refute it at one input. -/
def octetBackWrong : ChangeSpec := { name := "octetBack", fn := fun _ => fun
  | [d] => { results := [.lit (.bool false)], args := [d] }
  | _ => none }
def OctetBackWrongFalsely : Prop := octetBackRow.holds Tryd.pinned (OpenSpec.ofChange octetBackWrong)

/-- 'cairnlaw01.OctetAll': WHATEVER THE INPUT: true; the input reads as it did. -/
def octetAllSpec : ChangeSpec := { name := "octetAll", fn := fun _ => fun
  | [d] => { results := [.lit (.bool true)], args := [d] }
  | _ => none }
def octetAllRow : OpenClaim := { program := "ythiedcebneejjaadoor", sum := "27312446cf64358e9c0f4f9c0b61cabd8ea623cf2242e3ab691179170d453402", func := "cairn/cairnlaw01.OctetAll", spec := "octetAll", named := ["cairn/octet.digits"], apart := false, laid := [("cairn/octet.digits", laid_cairn_octet_digits)] }
def OctetAllSaid : Prop := octetAllRow.holds Tryd.pinned (OpenSpec.ofChange octetAllSpec)

/-- ITS FALSE NEIGHBOUR: 'it returns false'. Refute it at one input. -/
def octetAllWrong : ChangeSpec := { name := "octetAll", fn := fun _ => fun
  | [d] => { results := [.lit (.bool false)], args := [d] }
  | _ => none }
def OctetAllWrongFalsely : Prop := octetAllRow.holds Tryd.pinned (OpenSpec.ofChange octetAllWrong)

/-- 'cairnlaw01.OctetOrder': WHATEVER THE INPUT: true; the input reads as it did. -/
def octetOrderSpec : ChangeSpec := { name := "octetOrder", fn := fun _ => fun
  | [d1, d2, d3] => { results := [.lit (.bool true)], args := [d1, d2, d3] }
  | _ => none }
def octetOrderRow : OpenClaim := { program := "ythiedcebneejjaadoor", sum := "27312446cf64358e9c0f4f9c0b61cabd8ea623cf2242e3ab691179170d453402", func := "cairn/cairnlaw01.OctetOrder", spec := "octetOrder", named := ["cairn/octet.digits"], apart := false, laid := [("cairn/octet.digits", laid_cairn_octet_digits)] }
def OctetOrderSaid : Prop := octetOrderRow.holds Tryd.pinned (OpenSpec.ofChange octetOrderSpec)

/-- ITS FALSE NEIGHBOUR: 'it returns false'. Refute it at one input. -/
def octetOrderWrong : ChangeSpec := { name := "octetOrder", fn := fun _ => fun
  | [d1, d2, d3] => { results := [.lit (.bool false)], args := [d1, d2, d3] }
  | _ => none }
def OctetOrderWrongFalsely : Prop := octetOrderRow.holds Tryd.pinned (OpenSpec.ofChange octetOrderWrong)

/- THE SECOND FORM. 'bulk': how many values and letters a reading holds, each counted each time it is reached (what is shared counts as often as it is met; a slice's spare places count too). A statement '..UptoSaid' is the law's where the arguments, and the package variables that the reading takes, are together of bulk at most 1048576: NARROWER than '..Said'. Prove '..Said' where nothing that the law and all that it calls make is longer than what came in: it says more and counts as full. Else prove '..UptoSaid'. A law counts once. -/
mutual
def uptoBulk {H : Type} : DataW H → Nat
  | .lit (.string bytes) => bytes.length + 1
  | .lit _ => 1
  | .nil => 1
  | .ptr d => uptoBulk d + 1
  | .slice elems spare => uptoBulkAll elems + uptoBulkAll spare + 1
  | .agg parts => uptoBulkAll parts + 1
  | .iface _ d => uptoBulk d + 1
  | .map entries => uptoBulkEntries entries + 1
  | .held _ => 1
def uptoBulkAll {H : Type} : List (DataW H) → Nat
  | [] => 0
  | d :: r => uptoBulk d + uptoBulkAll r
def uptoBulkEntries {H : Type} : List (Lit × DataW H) → Nat
  | [] => 0
  | x :: r => uptoBulkEntry x + uptoBulkEntries r
def uptoBulkEntry {H : Type} : Lit × DataW H → Nat
  | (.string bytes, d) => bytes.length + uptoBulk d + 1
  | (_, d) => uptoBulk d + 1
 end
def uptoSmall : (H : Type) → List (DataW H) → Bool := fun _ ds => decide (uptoBulkAll ds ≤ 1048576)
def OpenSpec.upto (s : _root_.Go.ChangeSpec) : _root_.Go.OpenSpec := { _root_.Go.OpenSpec.ofChange s with cond := some uptoSmall }

/-- 'cairnlaw01.OctetNames', WHERE WHAT IT READS IS OF BULK AT MOST 1048576: true; the input reads as it did. -/
def octetNamesUptoRow : OpenClaim := { program := "ythiedcebneejjaadoor", sum := "27312446cf64358e9c0f4f9c0b61cabd8ea623cf2242e3ab691179170d453402", func := "cairn/cairnlaw01.OctetNames", spec := "octetNames", named := ["cairn/octet.digits"], apart := false, laid := [("cairn/octet.digits", laid_cairn_octet_digits)], narrowed := true }
def OctetNamesUptoSaid : Prop := octetNamesUptoRow.holds Tryd.pinned (OpenSpec.upto octetNamesSpec)

/-- 'cairnlaw01.OctetBack', WHERE WHAT IT READS IS OF BULK AT MOST 1048576: true; the input reads as it did. -/
def octetBackUptoRow : OpenClaim := { program := "ythiedcebneejjaadoor", sum := "27312446cf64358e9c0f4f9c0b61cabd8ea623cf2242e3ab691179170d453402", func := "cairn/cairnlaw01.OctetBack", spec := "octetBack", named := ["cairn/octet.digits"], apart := false, laid := [("cairn/octet.digits", laid_cairn_octet_digits)], narrowed := true }
def OctetBackUptoSaid : Prop := octetBackUptoRow.holds Tryd.pinned (OpenSpec.upto octetBackSpec)

/-- 'cairnlaw01.OctetAll', WHERE WHAT IT READS IS OF BULK AT MOST 1048576: true; the input reads as it did. -/
def octetAllUptoRow : OpenClaim := { program := "ythiedcebneejjaadoor", sum := "27312446cf64358e9c0f4f9c0b61cabd8ea623cf2242e3ab691179170d453402", func := "cairn/cairnlaw01.OctetAll", spec := "octetAll", named := ["cairn/octet.digits"], apart := false, laid := [("cairn/octet.digits", laid_cairn_octet_digits)], narrowed := true }
def OctetAllUptoSaid : Prop := octetAllUptoRow.holds Tryd.pinned (OpenSpec.upto octetAllSpec)

/-- 'cairnlaw01.OctetOrder', WHERE WHAT IT READS IS OF BULK AT MOST 1048576: true; the input reads as it did. -/
def octetOrderUptoRow : OpenClaim := { program := "ythiedcebneejjaadoor", sum := "27312446cf64358e9c0f4f9c0b61cabd8ea623cf2242e3ab691179170d453402", func := "cairn/cairnlaw01.OctetOrder", spec := "octetOrder", named := ["cairn/octet.digits"], apart := false, laid := [("cairn/octet.digits", laid_cairn_octet_digits)], narrowed := true }
def OctetOrderUptoSaid : Prop := octetOrderUptoRow.holds Tryd.pinned (OpenSpec.upto octetOrderSpec)

end Rows
end Go.Proofs.YthiedcebneejjaaDoor
