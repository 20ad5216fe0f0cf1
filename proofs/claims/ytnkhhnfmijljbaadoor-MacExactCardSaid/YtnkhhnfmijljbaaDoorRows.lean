/-
  NARROWER THAN 'FOR EVERY INPUT', by the rows' own cells (each row's printed sentence says how): ShaSums: laid · ShaPieces: laid · ShaLong: laid · ShaKnown: laid · ShaStates: laid · MacPublished: laid · MacExact: laid · MacPieces: laid · MacKnown: laid.
  DERIVED. THE GIVEN ROWS OF THIS SEAT. 9 by the template 'for every input the law returns true; each argument reads behind the call as it read before'; 0 by the template 'total and deterministic' (their statements: YtnkhhnfmijljbaaDoorTotals.lean).
  GIVEN WITH THE SEED: the statements are not yours to turn. If you find one false, say at which input.
  Laid BY PROGRAM, IN A SANDBOX (cutbox-rows.mjs): the forced cells as the released guide's own fill.sh prints them over the translation d545f7158b5a3c5b… (all of the seat's roots in one cut). By AI agents, Wed Nov 11 2026. No macro, syntax, notation, axiom, sorry.
-/
import Derived.Test.YtnkhhnfmijljbaaDoorChecked
import GoSem.Claim
import GoSem.ClaimJoined
import GoSem.ClaimMapViews
import Derived.JoinedTies
import Derived.KernelRfl
namespace Go.Proofs.YtnkhhnfmijljbaaDoor
/- THE CELL 'sum', in the pinned program and in every row, IS THE sha256 OF THE DUMP (.gsa) THAT YtnkhhnfmijljbaaDoorProg.lean LOADS. Nothing in Lean hashes anything: it is a label: what it is worth is what the hold of that sum in a sandbox is worth. -/
noncomputable def Tryd.pinned : Pinned := { name := "ytnkhhnfmijljbaadoor", sum := "d545f7158b5a3c5b0d9c4e1ee8734984753993ace2a963fa0ab60c5f0abda03a", checked := Tryd.checked }
namespace Rows
def none {H : Type} : Left H := { results := [], args := [] }

/- WHAT THE LISTED PACKAGE-LEVEL VARIABLES READ AS WHEN THE CALL BEGINS. Each datum BY PROGRAM (the guide's laid-datum.mjs) off the statement by which the dump's own 'gosem.cut.vars' lays the variable. In a bare row this is a premise. The card (YtnkhhnfmijljbaaDoorCards.lean) ties it to the program's text. -/
def laid_cairn_cairnref02_rounds {H : Type} : DataW H := .agg [.lit (.int .u32 1116352408), .lit (.int .u32 1899447441), .lit (.int .u32 3049323471), .lit (.int .u32 3921009573), .lit (.int .u32 961987163), .lit (.int .u32 1508970993), .lit (.int .u32 2453635748), .lit (.int .u32 2870763221), .lit (.int .u32 3624381080), .lit (.int .u32 310598401), .lit (.int .u32 607225278), .lit (.int .u32 1426881987), .lit (.int .u32 1925078388), .lit (.int .u32 2162078206), .lit (.int .u32 2614888103), .lit (.int .u32 3248222580), .lit (.int .u32 3835390401), .lit (.int .u32 4022224774), .lit (.int .u32 264347078), .lit (.int .u32 604807628), .lit (.int .u32 770255983), .lit (.int .u32 1249150122), .lit (.int .u32 1555081692), .lit (.int .u32 1996064986), .lit (.int .u32 2554220882), .lit (.int .u32 2821834349), .lit (.int .u32 2952996808), .lit (.int .u32 3210313671), .lit (.int .u32 3336571891), .lit (.int .u32 3584528711), .lit (.int .u32 113926993), .lit (.int .u32 338241895), .lit (.int .u32 666307205), .lit (.int .u32 773529912), .lit (.int .u32 1294757372), .lit (.int .u32 1396182291), .lit (.int .u32 1695183700), .lit (.int .u32 1986661051), .lit (.int .u32 2177026350), .lit (.int .u32 2456956037), .lit (.int .u32 2730485921), .lit (.int .u32 2820302411), .lit (.int .u32 3259730800), .lit (.int .u32 3345764771), .lit (.int .u32 3516065817), .lit (.int .u32 3600352804), .lit (.int .u32 4094571909), .lit (.int .u32 275423344), .lit (.int .u32 430227734), .lit (.int .u32 506948616), .lit (.int .u32 659060556), .lit (.int .u32 883997877), .lit (.int .u32 958139571), .lit (.int .u32 1322822218), .lit (.int .u32 1537002063), .lit (.int .u32 1747873779), .lit (.int .u32 1955562222), .lit (.int .u32 2024104815), .lit (.int .u32 2227730452), .lit (.int .u32 2361852424), .lit (.int .u32 2428436474), .lit (.int .u32 2756734187), .lit (.int .u32 3204031479), .lit (.int .u32 3329325298)]
def laid_cairn_sha_k {H : Type} : DataW H := .agg [.lit (.int .u32 1116352408), .lit (.int .u32 1899447441), .lit (.int .u32 3049323471), .lit (.int .u32 3921009573), .lit (.int .u32 961987163), .lit (.int .u32 1508970993), .lit (.int .u32 2453635748), .lit (.int .u32 2870763221), .lit (.int .u32 3624381080), .lit (.int .u32 310598401), .lit (.int .u32 607225278), .lit (.int .u32 1426881987), .lit (.int .u32 1925078388), .lit (.int .u32 2162078206), .lit (.int .u32 2614888103), .lit (.int .u32 3248222580), .lit (.int .u32 3835390401), .lit (.int .u32 4022224774), .lit (.int .u32 264347078), .lit (.int .u32 604807628), .lit (.int .u32 770255983), .lit (.int .u32 1249150122), .lit (.int .u32 1555081692), .lit (.int .u32 1996064986), .lit (.int .u32 2554220882), .lit (.int .u32 2821834349), .lit (.int .u32 2952996808), .lit (.int .u32 3210313671), .lit (.int .u32 3336571891), .lit (.int .u32 3584528711), .lit (.int .u32 113926993), .lit (.int .u32 338241895), .lit (.int .u32 666307205), .lit (.int .u32 773529912), .lit (.int .u32 1294757372), .lit (.int .u32 1396182291), .lit (.int .u32 1695183700), .lit (.int .u32 1986661051), .lit (.int .u32 2177026350), .lit (.int .u32 2456956037), .lit (.int .u32 2730485921), .lit (.int .u32 2820302411), .lit (.int .u32 3259730800), .lit (.int .u32 3345764771), .lit (.int .u32 3516065817), .lit (.int .u32 3600352804), .lit (.int .u32 4094571909), .lit (.int .u32 275423344), .lit (.int .u32 430227734), .lit (.int .u32 506948616), .lit (.int .u32 659060556), .lit (.int .u32 883997877), .lit (.int .u32 958139571), .lit (.int .u32 1322822218), .lit (.int .u32 1537002063), .lit (.int .u32 1747873779), .lit (.int .u32 1955562222), .lit (.int .u32 2024104815), .lit (.int .u32 2227730452), .lit (.int .u32 2361852424), .lit (.int .u32 2428436474), .lit (.int .u32 2756734187), .lit (.int .u32 3204031479), .lit (.int .u32 3329325298)]
def laid_cairn_sha_first {H : Type} : DataW H := .agg [.lit (.int .u32 1779033703), .lit (.int .u32 3144134277), .lit (.int .u32 1013904242), .lit (.int .u32 2773480762), .lit (.int .u32 1359893119), .lit (.int .u32 2600822924), .lit (.int .u32 528734635), .lit (.int .u32 1541459225)]
def laid_cairn_cairnlaw02_known {H : Type} : DataW H := .agg [.lit (.string []), .lit (.string [97, 98, 99]), .lit (.string [97, 98, 99, 100, 98, 99, 100, 101, 99, 100, 101, 102, 100, 101, 102, 103, 101, 102, 103, 104, 102, 103, 104, 105, 103, 104, 105, 106, 104, 105, 106, 107, 105, 106, 107, 108, 106, 107, 108, 109, 107, 108, 109, 110, 108, 109, 110, 111, 109, 110, 111, 112, 110, 111, 112, 113])]
def laid_cairn_cairnlaw02_sums {H : Type} : DataW H := .agg [.lit (.string [101, 51, 98, 48, 99, 52, 52, 50, 57, 56, 102, 99, 49, 99, 49, 52, 57, 97, 102, 98, 102, 52, 99, 56, 57, 57, 54, 102, 98, 57, 50, 52, 50, 55, 97, 101, 52, 49, 101, 52, 54, 52, 57, 98, 57, 51, 52, 99, 97, 52, 57, 53, 57, 57, 49, 98, 55, 56, 53, 50, 98, 56, 53, 53]), .lit (.string [98, 97, 55, 56, 49, 54, 98, 102, 56, 102, 48, 49, 99, 102, 101, 97, 52, 49, 52, 49, 52, 48, 100, 101, 53, 100, 97, 101, 50, 50, 50, 51, 98, 48, 48, 51, 54, 49, 97, 51, 57, 54, 49, 55, 55, 97, 57, 99, 98, 52, 49, 48, 102, 102, 54, 49, 102, 50, 48, 48, 49, 53, 97, 100]), .lit (.string [50, 52, 56, 100, 54, 97, 54, 49, 100, 50, 48, 54, 51, 56, 98, 56, 101, 53, 99, 48, 50, 54, 57, 51, 48, 99, 51, 101, 54, 48, 51, 57, 97, 51, 51, 99, 101, 52, 53, 57, 54, 52, 102, 102, 50, 49, 54, 55, 102, 54, 101, 99, 101, 100, 100, 52, 49, 57, 100, 98, 48, 54, 99, 49])]

/-- 'cairnlaw02.ShaSums': WHATEVER THE INPUT: true; the input reads as it did. -/
def shaSumsSpec : ChangeSpec := { name := "shaSums", fn := fun _ => fun
  | [d] => { results := [.lit (.bool true)], args := [d] }
  | _ => none }
def shaSumsRow : OpenClaim := { program := "ytnkhhnfmijljbaadoor", sum := "d545f7158b5a3c5b0d9c4e1ee8734984753993ace2a963fa0ab60c5f0abda03a", func := "cairn/cairnlaw02.ShaSums", spec := "shaSums", named := ["cairn/cairnlaw02.known", "cairn/cairnlaw02.sums", "cairn/sha.first", "cairn/sha.k", "cairn/cairnref02.rounds"], apart := false, laid := [("cairn/cairnref02.rounds", laid_cairn_cairnref02_rounds), ("cairn/sha.k", laid_cairn_sha_k), ("cairn/sha.first", laid_cairn_sha_first), ("cairn/cairnlaw02.known", laid_cairn_cairnlaw02_known), ("cairn/cairnlaw02.sums", laid_cairn_cairnlaw02_sums)] }
def ShaSumsSaid : Prop := shaSumsRow.holds Tryd.pinned (OpenSpec.ofChange shaSumsSpec)

/-- ITS FALSE NEIGHBOUR: 'it returns false'. Refute it at one input. -/
def shaSumsWrong : ChangeSpec := { name := "shaSums", fn := fun _ => fun
  | [d] => { results := [.lit (.bool false)], args := [d] }
  | _ => none }
def ShaSumsWrongFalsely : Prop := shaSumsRow.holds Tryd.pinned (OpenSpec.ofChange shaSumsWrong)

/-- 'cairnlaw02.ShaPieces': WHATEVER THE INPUT: true; the input reads as it did. -/
def shaPiecesSpec : ChangeSpec := { name := "shaPieces", fn := fun _ => fun
  | [d1, d2] => { results := [.lit (.bool true)], args := [d1, d2] }
  | _ => none }
def shaPiecesRow : OpenClaim := { program := "ytnkhhnfmijljbaadoor", sum := "d545f7158b5a3c5b0d9c4e1ee8734984753993ace2a963fa0ab60c5f0abda03a", func := "cairn/cairnlaw02.ShaPieces", spec := "shaPieces", named := ["cairn/cairnlaw02.known", "cairn/cairnlaw02.sums", "cairn/sha.first", "cairn/sha.k"], apart := false, laid := [("cairn/sha.k", laid_cairn_sha_k), ("cairn/sha.first", laid_cairn_sha_first), ("cairn/cairnlaw02.known", laid_cairn_cairnlaw02_known), ("cairn/cairnlaw02.sums", laid_cairn_cairnlaw02_sums)] }
def ShaPiecesSaid : Prop := shaPiecesRow.holds Tryd.pinned (OpenSpec.ofChange shaPiecesSpec)

/-- ITS FALSE NEIGHBOUR: 'it returns false'. Refute it at one input. -/
def shaPiecesWrong : ChangeSpec := { name := "shaPieces", fn := fun _ => fun
  | [d1, d2] => { results := [.lit (.bool false)], args := [d1, d2] }
  | _ => none }
def ShaPiecesWrongFalsely : Prop := shaPiecesRow.holds Tryd.pinned (OpenSpec.ofChange shaPiecesWrong)

/-- 'cairnlaw02.ShaLong': WHATEVER THE INPUT: true; the input reads as it did. -/
def shaLongSpec : ChangeSpec := { name := "shaLong", fn := fun _ => fun
  | [d1, d2, d3] => { results := [.lit (.bool true)], args := [d1, d2, d3] }
  | _ => none }
def shaLongRow : OpenClaim := { program := "ytnkhhnfmijljbaadoor", sum := "d545f7158b5a3c5b0d9c4e1ee8734984753993ace2a963fa0ab60c5f0abda03a", func := "cairn/cairnlaw02.ShaLong", spec := "shaLong", named := ["cairn/cairnlaw02.known", "cairn/cairnlaw02.sums", "cairn/sha.first", "cairn/sha.k"], apart := false, laid := [("cairn/sha.k", laid_cairn_sha_k), ("cairn/sha.first", laid_cairn_sha_first), ("cairn/cairnlaw02.known", laid_cairn_cairnlaw02_known), ("cairn/cairnlaw02.sums", laid_cairn_cairnlaw02_sums)] }
def ShaLongSaid : Prop := shaLongRow.holds Tryd.pinned (OpenSpec.ofChange shaLongSpec)

/-- ITS FALSE NEIGHBOUR: 'it returns false'. Refute it at one input. -/
def shaLongWrong : ChangeSpec := { name := "shaLong", fn := fun _ => fun
  | [d1, d2, d3] => { results := [.lit (.bool false)], args := [d1, d2, d3] }
  | _ => none }
def ShaLongWrongFalsely : Prop := shaLongRow.holds Tryd.pinned (OpenSpec.ofChange shaLongWrong)

/-- 'cairnlaw02.ShaKnown': WHATEVER THE INPUT: true; the input reads as it did. -/
def shaKnownSpec : ChangeSpec := { name := "shaKnown", fn := fun _ => fun
  | [] => { results := [.lit (.bool true)], args := [] }
  | _ => none }
def shaKnownRow : OpenClaim := { program := "ytnkhhnfmijljbaadoor", sum := "d545f7158b5a3c5b0d9c4e1ee8734984753993ace2a963fa0ab60c5f0abda03a", func := "cairn/cairnlaw02.ShaKnown", spec := "shaKnown", named := ["cairn/sha.k", "cairn/cairnlaw02.known", "cairn/cairnlaw02.sums", "cairn/sha.first"], apart := false, laid := [("cairn/sha.k", laid_cairn_sha_k), ("cairn/sha.first", laid_cairn_sha_first), ("cairn/cairnlaw02.known", laid_cairn_cairnlaw02_known), ("cairn/cairnlaw02.sums", laid_cairn_cairnlaw02_sums)] }
def ShaKnownSaid : Prop := shaKnownRow.holds Tryd.pinned (OpenSpec.ofChange shaKnownSpec)

/-- ITS FALSE NEIGHBOUR: 'it returns false'. Refute it at one input. -/
def shaKnownWrong : ChangeSpec := { name := "shaKnown", fn := fun _ => fun
  | [] => { results := [.lit (.bool false)], args := [] }
  | _ => none }
def ShaKnownWrongFalsely : Prop := shaKnownRow.holds Tryd.pinned (OpenSpec.ofChange shaKnownWrong)

/-- 'cairnlaw02.ShaStates': WHATEVER THE INPUT: true; the input reads as it did. -/
def shaStatesSpec : ChangeSpec := { name := "shaStates", fn := fun _ => fun
  | [d] => { results := [.lit (.bool true)], args := [d] }
  | _ => none }
def shaStatesRow : OpenClaim := { program := "ytnkhhnfmijljbaadoor", sum := "d545f7158b5a3c5b0d9c4e1ee8734984753993ace2a963fa0ab60c5f0abda03a", func := "cairn/cairnlaw02.ShaStates", spec := "shaStates", named := ["cairn/cairnlaw02.known", "cairn/cairnlaw02.sums", "cairn/sha.first", "cairn/sha.k", "cairn/cairnref02.rounds"], apart := false, laid := [("cairn/cairnref02.rounds", laid_cairn_cairnref02_rounds), ("cairn/sha.k", laid_cairn_sha_k), ("cairn/sha.first", laid_cairn_sha_first), ("cairn/cairnlaw02.known", laid_cairn_cairnlaw02_known), ("cairn/cairnlaw02.sums", laid_cairn_cairnlaw02_sums)] }
def ShaStatesSaid : Prop := shaStatesRow.holds Tryd.pinned (OpenSpec.ofChange shaStatesSpec)

/-- ITS FALSE NEIGHBOUR: 'it returns false'. Refute it at one input. -/
def shaStatesWrong : ChangeSpec := { name := "shaStates", fn := fun _ => fun
  | [d] => { results := [.lit (.bool false)], args := [d] }
  | _ => none }
def ShaStatesWrongFalsely : Prop := shaStatesRow.holds Tryd.pinned (OpenSpec.ofChange shaStatesWrong)

/-- 'cairnlaw03.MacPublished': WHATEVER THE INPUT: true; the input reads as it did. -/
def macPublishedSpec : ChangeSpec := { name := "macPublished", fn := fun _ => fun
  | [d1, d2] => { results := [.lit (.bool true)], args := [d1, d2] }
  | _ => none }
def macPublishedRow : OpenClaim := { program := "ytnkhhnfmijljbaadoor", sum := "d545f7158b5a3c5b0d9c4e1ee8734984753993ace2a963fa0ab60c5f0abda03a", func := "cairn/cairnlaw03.MacPublished", spec := "macPublished", named := ["cairn/sha.first", "cairn/sha.k"], apart := false, laid := [("cairn/sha.k", laid_cairn_sha_k), ("cairn/sha.first", laid_cairn_sha_first)] }
def MacPublishedSaid : Prop := macPublishedRow.holds Tryd.pinned (OpenSpec.ofChange macPublishedSpec)

/-- ITS FALSE NEIGHBOUR: 'it returns false'. Refute it at one input. -/
def macPublishedWrong : ChangeSpec := { name := "macPublished", fn := fun _ => fun
  | [d1, d2] => { results := [.lit (.bool false)], args := [d1, d2] }
  | _ => none }
def MacPublishedWrongFalsely : Prop := macPublishedRow.holds Tryd.pinned (OpenSpec.ofChange macPublishedWrong)

/-- 'cairnlaw03.MacExact': WHATEVER THE INPUT: true; the input reads as it did. -/
def macExactSpec : ChangeSpec := { name := "macExact", fn := fun _ => fun
  | [d] => { results := [.lit (.bool true)], args := [d] }
  | _ => none }
def macExactRow : OpenClaim := { program := "ytnkhhnfmijljbaadoor", sum := "d545f7158b5a3c5b0d9c4e1ee8734984753993ace2a963fa0ab60c5f0abda03a", func := "cairn/cairnlaw03.MacExact", spec := "macExact", named := ["cairn/sha.first", "cairn/sha.k", "cairn/cairnref02.rounds"], apart := false, laid := [("cairn/cairnref02.rounds", laid_cairn_cairnref02_rounds), ("cairn/sha.k", laid_cairn_sha_k), ("cairn/sha.first", laid_cairn_sha_first)] }
def MacExactSaid : Prop := macExactRow.holds Tryd.pinned (OpenSpec.ofChange macExactSpec)

/-- ITS FALSE NEIGHBOUR: 'it returns false'. Refute it at one input. -/
def macExactWrong : ChangeSpec := { name := "macExact", fn := fun _ => fun
  | [d] => { results := [.lit (.bool false)], args := [d] }
  | _ => none }
def MacExactWrongFalsely : Prop := macExactRow.holds Tryd.pinned (OpenSpec.ofChange macExactWrong)

/-- 'cairnlaw03.MacPieces': WHATEVER THE INPUT: true; the input reads as it did. -/
def macPiecesSpec : ChangeSpec := { name := "macPieces", fn := fun _ => fun
  | [d1, d2, d3] => { results := [.lit (.bool true)], args := [d1, d2, d3] }
  | _ => none }
def macPiecesRow : OpenClaim := { program := "ytnkhhnfmijljbaadoor", sum := "d545f7158b5a3c5b0d9c4e1ee8734984753993ace2a963fa0ab60c5f0abda03a", func := "cairn/cairnlaw03.MacPieces", spec := "macPieces", named := ["cairn/sha.first", "cairn/sha.k"], apart := false, laid := [("cairn/sha.k", laid_cairn_sha_k), ("cairn/sha.first", laid_cairn_sha_first)] }
def MacPiecesSaid : Prop := macPiecesRow.holds Tryd.pinned (OpenSpec.ofChange macPiecesSpec)

/-- ITS FALSE NEIGHBOUR: 'it returns false'. Refute it at one input. -/
def macPiecesWrong : ChangeSpec := { name := "macPieces", fn := fun _ => fun
  | [d1, d2, d3] => { results := [.lit (.bool false)], args := [d1, d2, d3] }
  | _ => none }
def MacPiecesWrongFalsely : Prop := macPiecesRow.holds Tryd.pinned (OpenSpec.ofChange macPiecesWrong)

/-- 'cairnlaw03.MacKnown': WHATEVER THE INPUT: true; the input reads as it did. -/
def macKnownSpec : ChangeSpec := { name := "macKnown", fn := fun _ => fun
  | [] => { results := [.lit (.bool true)], args := [] }
  | _ => none }
def macKnownRow : OpenClaim := { program := "ytnkhhnfmijljbaadoor", sum := "d545f7158b5a3c5b0d9c4e1ee8734984753993ace2a963fa0ab60c5f0abda03a", func := "cairn/cairnlaw03.MacKnown", spec := "macKnown", named := ["cairn/sha.k", "cairn/sha.first"], apart := false, laid := [("cairn/sha.k", laid_cairn_sha_k), ("cairn/sha.first", laid_cairn_sha_first)] }
def MacKnownSaid : Prop := macKnownRow.holds Tryd.pinned (OpenSpec.ofChange macKnownSpec)

/-- ITS FALSE NEIGHBOUR: 'it returns false'. Refute it at one input. -/
def macKnownWrong : ChangeSpec := { name := "macKnown", fn := fun _ => fun
  | [] => { results := [.lit (.bool false)], args := [] }
  | _ => none }
def MacKnownWrongFalsely : Prop := macKnownRow.holds Tryd.pinned (OpenSpec.ofChange macKnownWrong)

/- THE SECOND FORM. 'bulk': how many values and letters a reading holds, each counted each time it is reached (what is shared counts as often as it is met; a slice's spare places count too). A statement '..UptoSaid' is the law's where the arguments, and the package variables that the reading takes, are together of bulk at most 1048576: NARROWER than '..Said'. Prove '..Said' where nothing that the law and all that it calls make is longer than what came in: it says more and counts as full. Else prove '..UptoSaid'. A law counts once. -/
mutual
def uptoBulk {H : Type} : DataW H → Nat
  | .lit (.string bytes) => bytes.length + 1
  | .lit _ => 1
  | .nil => 1
  | .ptr d => uptoBulk d + 1
  | .slice elems spare => uptoBulkAll elems + uptoBulkAll spare + 1
  | .agg parts => uptoBulkAll parts + 1
  | .iface _ d => uptoBulk d + 1
  | .map entries => uptoBulkEntries entries + 1
  | .held _ => 1
def uptoBulkAll {H : Type} : List (DataW H) → Nat
  | [] => 0
  | d :: r => uptoBulk d + uptoBulkAll r
def uptoBulkEntries {H : Type} : List (Lit × DataW H) → Nat
  | [] => 0
  | x :: r => uptoBulkEntry x + uptoBulkEntries r
def uptoBulkEntry {H : Type} : Lit × DataW H → Nat
  | (.string bytes, d) => bytes.length + uptoBulk d + 1
  | (_, d) => uptoBulk d + 1
 end
def uptoSmall : (H : Type) → List (DataW H) → Bool := fun _ ds => decide (uptoBulkAll ds ≤ 1048576)
def OpenSpec.upto (s : _root_.Go.ChangeSpec) : _root_.Go.OpenSpec := { _root_.Go.OpenSpec.ofChange s with cond := some uptoSmall }

/-- 'cairnlaw02.ShaSums', WHERE WHAT IT READS IS OF BULK AT MOST 1048576: true; the input reads as it did. -/
def shaSumsUptoRow : OpenClaim := { program := "ytnkhhnfmijljbaadoor", sum := "d545f7158b5a3c5b0d9c4e1ee8734984753993ace2a963fa0ab60c5f0abda03a", func := "cairn/cairnlaw02.ShaSums", spec := "shaSums", named := ["cairn/cairnlaw02.known", "cairn/cairnlaw02.sums", "cairn/sha.first", "cairn/sha.k", "cairn/cairnref02.rounds"], apart := false, laid := [("cairn/cairnref02.rounds", laid_cairn_cairnref02_rounds), ("cairn/sha.k", laid_cairn_sha_k), ("cairn/sha.first", laid_cairn_sha_first), ("cairn/cairnlaw02.known", laid_cairn_cairnlaw02_known), ("cairn/cairnlaw02.sums", laid_cairn_cairnlaw02_sums)], narrowed := true }
def ShaSumsUptoSaid : Prop := shaSumsUptoRow.holds Tryd.pinned (OpenSpec.upto shaSumsSpec)

/-- 'cairnlaw02.ShaPieces', WHERE WHAT IT READS IS OF BULK AT MOST 1048576: true; the input reads as it did. -/
def shaPiecesUptoRow : OpenClaim := { program := "ytnkhhnfmijljbaadoor", sum := "d545f7158b5a3c5b0d9c4e1ee8734984753993ace2a963fa0ab60c5f0abda03a", func := "cairn/cairnlaw02.ShaPieces", spec := "shaPieces", named := ["cairn/cairnlaw02.known", "cairn/cairnlaw02.sums", "cairn/sha.first", "cairn/sha.k"], apart := false, laid := [("cairn/sha.k", laid_cairn_sha_k), ("cairn/sha.first", laid_cairn_sha_first), ("cairn/cairnlaw02.known", laid_cairn_cairnlaw02_known), ("cairn/cairnlaw02.sums", laid_cairn_cairnlaw02_sums)], narrowed := true }
def ShaPiecesUptoSaid : Prop := shaPiecesUptoRow.holds Tryd.pinned (OpenSpec.upto shaPiecesSpec)

/-- 'cairnlaw02.ShaLong', WHERE WHAT IT READS IS OF BULK AT MOST 1048576: true; the input reads as it did. -/
def shaLongUptoRow : OpenClaim := { program := "ytnkhhnfmijljbaadoor", sum := "d545f7158b5a3c5b0d9c4e1ee8734984753993ace2a963fa0ab60c5f0abda03a", func := "cairn/cairnlaw02.ShaLong", spec := "shaLong", named := ["cairn/cairnlaw02.known", "cairn/cairnlaw02.sums", "cairn/sha.first", "cairn/sha.k"], apart := false, laid := [("cairn/sha.k", laid_cairn_sha_k), ("cairn/sha.first", laid_cairn_sha_first), ("cairn/cairnlaw02.known", laid_cairn_cairnlaw02_known), ("cairn/cairnlaw02.sums", laid_cairn_cairnlaw02_sums)], narrowed := true }
def ShaLongUptoSaid : Prop := shaLongUptoRow.holds Tryd.pinned (OpenSpec.upto shaLongSpec)

/-- 'cairnlaw02.ShaKnown', WHERE WHAT IT READS IS OF BULK AT MOST 1048576: true; the input reads as it did. -/
def shaKnownUptoRow : OpenClaim := { program := "ytnkhhnfmijljbaadoor", sum := "d545f7158b5a3c5b0d9c4e1ee8734984753993ace2a963fa0ab60c5f0abda03a", func := "cairn/cairnlaw02.ShaKnown", spec := "shaKnown", named := ["cairn/sha.k", "cairn/cairnlaw02.known", "cairn/cairnlaw02.sums", "cairn/sha.first"], apart := false, laid := [("cairn/sha.k", laid_cairn_sha_k), ("cairn/sha.first", laid_cairn_sha_first), ("cairn/cairnlaw02.known", laid_cairn_cairnlaw02_known), ("cairn/cairnlaw02.sums", laid_cairn_cairnlaw02_sums)], narrowed := true }
def ShaKnownUptoSaid : Prop := shaKnownUptoRow.holds Tryd.pinned (OpenSpec.upto shaKnownSpec)

/-- 'cairnlaw02.ShaStates', WHERE WHAT IT READS IS OF BULK AT MOST 1048576: true; the input reads as it did. -/
def shaStatesUptoRow : OpenClaim := { program := "ytnkhhnfmijljbaadoor", sum := "d545f7158b5a3c5b0d9c4e1ee8734984753993ace2a963fa0ab60c5f0abda03a", func := "cairn/cairnlaw02.ShaStates", spec := "shaStates", named := ["cairn/cairnlaw02.known", "cairn/cairnlaw02.sums", "cairn/sha.first", "cairn/sha.k", "cairn/cairnref02.rounds"], apart := false, laid := [("cairn/cairnref02.rounds", laid_cairn_cairnref02_rounds), ("cairn/sha.k", laid_cairn_sha_k), ("cairn/sha.first", laid_cairn_sha_first), ("cairn/cairnlaw02.known", laid_cairn_cairnlaw02_known), ("cairn/cairnlaw02.sums", laid_cairn_cairnlaw02_sums)], narrowed := true }
def ShaStatesUptoSaid : Prop := shaStatesUptoRow.holds Tryd.pinned (OpenSpec.upto shaStatesSpec)

/-- 'cairnlaw03.MacPublished', WHERE WHAT IT READS IS OF BULK AT MOST 1048576: true; the input reads as it did. -/
def macPublishedUptoRow : OpenClaim := { program := "ytnkhhnfmijljbaadoor", sum := "d545f7158b5a3c5b0d9c4e1ee8734984753993ace2a963fa0ab60c5f0abda03a", func := "cairn/cairnlaw03.MacPublished", spec := "macPublished", named := ["cairn/sha.first", "cairn/sha.k"], apart := false, laid := [("cairn/sha.k", laid_cairn_sha_k), ("cairn/sha.first", laid_cairn_sha_first)], narrowed := true }
def MacPublishedUptoSaid : Prop := macPublishedUptoRow.holds Tryd.pinned (OpenSpec.upto macPublishedSpec)

/-- 'cairnlaw03.MacExact', WHERE WHAT IT READS IS OF BULK AT MOST 1048576: true; the input reads as it did. -/
def macExactUptoRow : OpenClaim := { program := "ytnkhhnfmijljbaadoor", sum := "d545f7158b5a3c5b0d9c4e1ee8734984753993ace2a963fa0ab60c5f0abda03a", func := "cairn/cairnlaw03.MacExact", spec := "macExact", named := ["cairn/sha.first", "cairn/sha.k", "cairn/cairnref02.rounds"], apart := false, laid := [("cairn/cairnref02.rounds", laid_cairn_cairnref02_rounds), ("cairn/sha.k", laid_cairn_sha_k), ("cairn/sha.first", laid_cairn_sha_first)], narrowed := true }
def MacExactUptoSaid : Prop := macExactUptoRow.holds Tryd.pinned (OpenSpec.upto macExactSpec)

/-- 'cairnlaw03.MacPieces', WHERE WHAT IT READS IS OF BULK AT MOST 1048576: true; the input reads as it did. -/
def macPiecesUptoRow : OpenClaim := { program := "ytnkhhnfmijljbaadoor", sum := "d545f7158b5a3c5b0d9c4e1ee8734984753993ace2a963fa0ab60c5f0abda03a", func := "cairn/cairnlaw03.MacPieces", spec := "macPieces", named := ["cairn/sha.first", "cairn/sha.k"], apart := false, laid := [("cairn/sha.k", laid_cairn_sha_k), ("cairn/sha.first", laid_cairn_sha_first)], narrowed := true }
def MacPiecesUptoSaid : Prop := macPiecesUptoRow.holds Tryd.pinned (OpenSpec.upto macPiecesSpec)

/-- 'cairnlaw03.MacKnown', WHERE WHAT IT READS IS OF BULK AT MOST 1048576: true; the input reads as it did. -/
def macKnownUptoRow : OpenClaim := { program := "ytnkhhnfmijljbaadoor", sum := "d545f7158b5a3c5b0d9c4e1ee8734984753993ace2a963fa0ab60c5f0abda03a", func := "cairn/cairnlaw03.MacKnown", spec := "macKnown", named := ["cairn/sha.k", "cairn/sha.first"], apart := false, laid := [("cairn/sha.k", laid_cairn_sha_k), ("cairn/sha.first", laid_cairn_sha_first)], narrowed := true }
def MacKnownUptoSaid : Prop := macKnownUptoRow.holds Tryd.pinned (OpenSpec.upto macKnownSpec)

end Rows
end Go.Proofs.YtnkhhnfmijljbaaDoor
