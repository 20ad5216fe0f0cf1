-- Printed by a program of mine (myprint.py, a patched call of the kit's printer) for this claim; not trusted: Lean checks it.
import Derived.Test.YthiedcebneejjaaDoorProg
import Derived.Below
import Derived.Deep.Draws
import Derived.Deep.AppendLies
import Derived.Maps.AppendAt
import Derived.OwnWalk
import Derived.Laws.BytesArg
import Derived.Laws.MakeOwn
import Derived.Laws.OwnMore
import Derived.Deep.OwnRows
import Derived.Tactics
import Derived.Lib.ConvBytes
import Derived.Laws.Slices
import Derived.WalkKit
import Derived.KernelRfl
import Derived.RowKit3
import Derived.Deep.LoopGhost
import Derived.Deep.QuietTactic
import Derived.BigQuiet
import Derived.WideLaws
import Derived.Deep.DeepCutAuto
import Derived.Deep.CutBlock
import Derived.Deep.RegionHeld3
import Derived.Laws.Rows
import Derived.Lib.AppendStr
import Derived.ArgAppend
import Derived.Laws.IdiomCopy
import Derived.OrdersHeld
import Derived.Laws.BitsLemmas
import Derived.RowKit
import Derived.Test.YthiedcebneejjaaDoorMake0
import Derived.Test.YthiedcebneejjaaDoorWWords
import Derived.Test.YthiedcebneejjaaDoorWLast
import Derived.Test.YthiedcebneejjaaDoorWTab
import Derived.Test.YthiedcebneejjaaDoorWFour
import Derived.Test.YthiedcebneejjaaDoorWQPut
import Derived.Test.YthiedcebneejjaaDoorWApart
import Derived.Test.YthiedcebneejjaaDoorWArr
import Derived.Test.YthiedcebneejjaaDoorWZeros
import Derived.Test.YthiedcebneejjaaDoorWFoot
import Derived.Test.YthiedcebneejjaaDoorWKept
import Derived.Test.YthiedcebneejjaaDoorWShare
import Derived.Test.YthiedcebneejjaaDoorWN
import Derived.Test.YthiedcebneejjaaDoorWFootNe
import Derived.Test.YthiedcebneejjaaDoorWAt
import Derived.Test.YthiedcebneejjaaDoorWEqStruct
import Derived.Test.YthiedcebneejjaaDoorWRepsOne
import Derived.Test.YthiedcebneejjaaDoorWInv
import Derived.Test.YthiedcebneejjaaDoorWInvWords
import Derived.Test.YthiedcebneejjaaDoorWGuard
import Derived.Test.YthiedcebneejjaaDoorWNEv
import Derived.Test.YthiedcebneejjaaDoorWMore
namespace Go.Proofs.YthiedcebneejjaaDoor.A
open Go.RowKit  Go.Proofs.YthiedcebneejjaaDoorW.PrintWords Go.Proofs.YthiedcebneejjaaDoorW.PrintLast Go.Proofs.YthiedcebneejjaaDoorW.PrintMore
attribute [local go_sem] max2_int min2_int max_two min_two max_three min_three max_four min_four   -- for this text's walks alone
set_option linter.unusedVariables false
set_option linter.unusedSimpArgs false



def errW : Option Int → Value
  | none => .nilIface
  | some c => .iface 0 (.int .i64 c)
theorem errW_none : errW none = .nilIface := rfl
theorem errW_some (c : Int) : errW (some c) = .iface 0 (.int .i64 c) := rfl

theorem info5 : (Tryd.prog.info? 5).map (fun i => (i.zero, i.size, i.bytes)) = some (some (.int .u8 0), 1, 1) := by kernel_rfl
-- the values' own types

end Go.Proofs.YthiedcebneejjaaDoor.A
