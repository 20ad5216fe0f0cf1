/-
  DERIVED. GIVEN WITH THE SEED: THE PROGRAM's TIES (one call each: nine closed facts by the kernel) AND EACH ROW's TIE, after the 31st guide's Derived/Test/Toyas{Tie, Card}.lean. No idea stands in it: it is a product of the set-up. Laid BY PROGRAM, IN A SANDBOX (cutbox-door.mjs). By AI agents, Wed Nov 11 2026. No macro, syntax, notation, axiom, sorry.
-/
import Derived.Test.YtnkhhnfmijljbaaDoorRows
import Derived.LaidByTextLater
import Derived.SevenTiedAt
import Derived.LaidSub
import Derived.LaidOnce
namespace Go.Proofs.YtnkhhnfmijljbaaDoor
open Go
set_option maxRecDepth 100000
theorem seatTie1 : Tryd.prog.laidByTextLater [("cairn/cairnref02.rounds", Rows.laid_cairn_cairnref02_rounds), ("cairn/sha.k", Rows.laid_cairn_sha_k), ("cairn/sha.first", Rows.laid_cairn_sha_first), ("cairn/cairnlaw02.known", Rows.laid_cairn_cairnlaw02_known), ("cairn/cairnlaw02.sums", Rows.laid_cairn_cairnlaw02_sums)] [.data, .data, .data, .data, .data] true :=
  Program.laidByTextLater_by_one 34 8 65 (by kernel_rfl) (by kernel_rfl) (by kernel_rfl) (by kernel_rfl) (by kernel_rfl) (by kernel_rfl) (fun _ _ => by kernel_rfl)
theorem noOwnUnsafe : Tryd.pinned.checked.prog.headLifts.contains "ownunsafe" = false := by kernel_rfl
theorem tie : Tryd.prog.laidByTextLater [("cairn/cairnref02.rounds", Rows.laid_cairn_cairnref02_rounds), ("cairn/sha.k", Rows.laid_cairn_sha_k), ("cairn/sha.first", Rows.laid_cairn_sha_first), ("cairn/cairnlaw02.known", Rows.laid_cairn_cairnlaw02_known), ("cairn/cairnlaw02.sums", Rows.laid_cairn_cairnlaw02_sums)] [.data, .data, .data, .data, .data] true :=
  Program.laidByTextLater.sub seatTie1 ["cairn/cairnref02.rounds", "cairn/sha.k", "cairn/sha.first", "cairn/cairnlaw02.known", "cairn/cairnlaw02.sums"] (by kernel_rfl) (by kernel_rfl)
theorem shaSums_row_tie : Rows.shaSumsRow.laidByTextAt .later Tryd.pinned [.data, .data, .data, .data, .data] true :=
  OpenClaim.laidByTextAt_later rfl rfl tie noOwnUnsafe
theorem shaStates_row_tie : Rows.shaStatesRow.laidByTextAt .later Tryd.pinned [.data, .data, .data, .data, .data] true :=
  OpenClaim.laidByTextAt_later rfl rfl tie noOwnUnsafe
theorem tie2 : Tryd.prog.laidByTextLater [("cairn/sha.k", Rows.laid_cairn_sha_k), ("cairn/sha.first", Rows.laid_cairn_sha_first), ("cairn/cairnlaw02.known", Rows.laid_cairn_cairnlaw02_known), ("cairn/cairnlaw02.sums", Rows.laid_cairn_cairnlaw02_sums)] [.data, .data, .data, .data] true :=
  Program.laidByTextLater.sub seatTie1 ["cairn/sha.k", "cairn/sha.first", "cairn/cairnlaw02.known", "cairn/cairnlaw02.sums"] (by kernel_rfl) (by kernel_rfl)
theorem shaPieces_row_tie : Rows.shaPiecesRow.laidByTextAt .later Tryd.pinned [.data, .data, .data, .data] true :=
  OpenClaim.laidByTextAt_later rfl rfl tie2 noOwnUnsafe
theorem shaLong_row_tie : Rows.shaLongRow.laidByTextAt .later Tryd.pinned [.data, .data, .data, .data] true :=
  OpenClaim.laidByTextAt_later rfl rfl tie2 noOwnUnsafe
theorem shaKnown_row_tie : Rows.shaKnownRow.laidByTextAt .later Tryd.pinned [.data, .data, .data, .data] true :=
  OpenClaim.laidByTextAt_later rfl rfl tie2 noOwnUnsafe
theorem tie3 : Tryd.prog.laidByTextLater [("cairn/sha.k", Rows.laid_cairn_sha_k), ("cairn/sha.first", Rows.laid_cairn_sha_first)] [.data, .data] true :=
  Program.laidByTextLater.sub seatTie1 ["cairn/sha.k", "cairn/sha.first"] (by kernel_rfl) (by kernel_rfl)
theorem macPublished_row_tie : Rows.macPublishedRow.laidByTextAt .later Tryd.pinned [.data, .data] true :=
  OpenClaim.laidByTextAt_later rfl rfl tie3 noOwnUnsafe
theorem macPieces_row_tie : Rows.macPiecesRow.laidByTextAt .later Tryd.pinned [.data, .data] true :=
  OpenClaim.laidByTextAt_later rfl rfl tie3 noOwnUnsafe
theorem macKnown_row_tie : Rows.macKnownRow.laidByTextAt .later Tryd.pinned [.data, .data] true :=
  OpenClaim.laidByTextAt_later rfl rfl tie3 noOwnUnsafe
theorem tie4 : Tryd.prog.laidByTextLater [("cairn/cairnref02.rounds", Rows.laid_cairn_cairnref02_rounds), ("cairn/sha.k", Rows.laid_cairn_sha_k), ("cairn/sha.first", Rows.laid_cairn_sha_first)] [.data, .data, .data] true :=
  Program.laidByTextLater.sub seatTie1 ["cairn/cairnref02.rounds", "cairn/sha.k", "cairn/sha.first"] (by kernel_rfl) (by kernel_rfl)
theorem macExact_row_tie : Rows.macExactRow.laidByTextAt .later Tryd.pinned [.data, .data, .data] true :=
  OpenClaim.laidByTextAt_later rfl rfl tie4 noOwnUnsafe
theorem shaSumsUpto_row_tie : Rows.shaSumsUptoRow.laidByTextAt .later Tryd.pinned [.data, .data, .data, .data, .data] true :=
  OpenClaim.laidByTextAt_later rfl rfl tie noOwnUnsafe
theorem shaPiecesUpto_row_tie : Rows.shaPiecesUptoRow.laidByTextAt .later Tryd.pinned [.data, .data, .data, .data] true :=
  OpenClaim.laidByTextAt_later rfl rfl tie2 noOwnUnsafe
theorem shaLongUpto_row_tie : Rows.shaLongUptoRow.laidByTextAt .later Tryd.pinned [.data, .data, .data, .data] true :=
  OpenClaim.laidByTextAt_later rfl rfl tie2 noOwnUnsafe
theorem shaKnownUpto_row_tie : Rows.shaKnownUptoRow.laidByTextAt .later Tryd.pinned [.data, .data, .data, .data] true :=
  OpenClaim.laidByTextAt_later rfl rfl tie2 noOwnUnsafe
theorem shaStatesUpto_row_tie : Rows.shaStatesUptoRow.laidByTextAt .later Tryd.pinned [.data, .data, .data, .data, .data] true :=
  OpenClaim.laidByTextAt_later rfl rfl tie noOwnUnsafe
theorem macPublishedUpto_row_tie : Rows.macPublishedUptoRow.laidByTextAt .later Tryd.pinned [.data, .data] true :=
  OpenClaim.laidByTextAt_later rfl rfl tie3 noOwnUnsafe
theorem macExactUpto_row_tie : Rows.macExactUptoRow.laidByTextAt .later Tryd.pinned [.data, .data, .data] true :=
  OpenClaim.laidByTextAt_later rfl rfl tie4 noOwnUnsafe
theorem macPiecesUpto_row_tie : Rows.macPiecesUptoRow.laidByTextAt .later Tryd.pinned [.data, .data] true :=
  OpenClaim.laidByTextAt_later rfl rfl tie3 noOwnUnsafe
theorem macKnownUpto_row_tie : Rows.macKnownUptoRow.laidByTextAt .later Tryd.pinned [.data, .data] true :=
  OpenClaim.laidByTextAt_later rfl rfl tie3 noOwnUnsafe
end Go.Proofs.YtnkhhnfmijljbaaDoor
