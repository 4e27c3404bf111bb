-- Printed by a program of this claim's author (wip/tools), out of the translation. Not trusted: Lean checks it.
import Derived.Test.YtanbnlobbgfidaaGreatDoorProg
import Derived.Below
import Derived.Deep.Draws
import Derived.Deep.AppendLies
import Derived.Maps.AppendAt
import Derived.OwnWalk
import Derived.Laws.BytesArg
import Derived.Laws.MakeOwn
import Derived.Laws.OwnMore
import Derived.Deep.OwnRows
import Derived.Tactics
import Derived.Lib.ConvBytes
import Derived.Laws.Slices
import Derived.WalkKit
import Derived.KernelRfl
import Derived.RowKit3
import Derived.Deep.LoopGhost
import Derived.Deep.QuietTactic
import Derived.BigQuiet
import Derived.WideLaws
import Derived.Deep.DeepCutAuto
import Derived.Deep.CutBlock
import Derived.Deep.RegionHeld3
import Derived.Laws.Rows
import Derived.Lib.AppendStr
import Derived.ArgAppend
import Derived.Laws.IdiomCopy
import Derived.OrdersHeld
import Derived.Laws.BitsLemmas
import Derived.RowKit
import Derived.Test.YtanbnlobbgfidaaGreatDoorWWords
import Derived.Test.YtanbnlobbgfidaaGreatDoorWLast
import Derived.Test.YtanbnlobbgfidaaGreatDoorWTab
import Derived.Test.YtanbnlobbgfidaaGreatDoorWFour
import Derived.Test.YtanbnlobbgfidaaGreatDoorWQPut
import Derived.Test.YtanbnlobbgfidaaGreatDoorWApart
import Derived.Test.YtanbnlobbgfidaaGreatDoorWArr
import Derived.Test.YtanbnlobbgfidaaGreatDoorWZeros
import Derived.Test.YtanbnlobbgfidaaGreatDoorWFoot
import Derived.Test.YtanbnlobbgfidaaGreatDoorWKept
import Derived.Test.YtanbnlobbgfidaaGreatDoorWShare
import Derived.Test.YtanbnlobbgfidaaGreatDoorWN
import Derived.Test.YtanbnlobbgfidaaGreatDoorWFootNe
import Derived.Test.YtanbnlobbgfidaaGreatDoorWAt
import Derived.Test.YtanbnlobbgfidaaGreatDoorWEqStruct
import Derived.Test.YtanbnlobbgfidaaGreatDoorWRepsOne
import Derived.Test.YtanbnlobbgfidaaGreatDoorWInv
import Derived.Test.YtanbnlobbgfidaaGreatDoorWInvWords
import Derived.Test.YtanbnlobbgfidaaGreatDoorWGuard
import Derived.Test.YtanbnlobbgfidaaGreatDoorWNEv
import Derived.Test.YtanbnlobbgfidaaGreatDoorWMore
namespace Go.Proofs.YtanbnlobbgfidaaGreatDoor.PAt
open Go.RowKit Go.Proofs.YtanbnlobbgfidaaGreatDoorW.PrintWords Go.Proofs.YtanbnlobbgfidaaGreatDoorW.PrintLast Go.Proofs.YtanbnlobbgfidaaGreatDoorW.PrintMore
attribute [local go_sem] max2_int min2_int max_two min_two max_three min_three max_four min_four   -- for this text's walks alone
set_option linter.unusedVariables false
set_option linter.unusedSimpArgs false



def errW : Option Int → Value
  | none => .nilIface
  | some c => .iface 0 (.int .i64 c)
theorem errW_none : errW none = .nilIface := rfl
theorem errW_some (c : Int) : errW (some c) = .iface 0 (.int .i64 c) := rfl

theorem info5 : (Tryz.prog.info? 5).map (fun i => (i.zero, i.size, i.bytes)) = some (some (.int .u8 0), 1, 1) := by kernel_rfl
-- the values' own types

end Go.Proofs.YtanbnlobbgfidaaGreatDoor.PAt
