-- written by a program of this session (xprint.py)
import Derived.Test.YtbgigckmehgcpaaDoorProg
import Derived.Below
import Derived.Deep.Draws
import Derived.Deep.AppendLies
import Derived.Maps.AppendAt
import Derived.OwnWalk
import Derived.Laws.BytesArg
import Derived.Laws.MakeOwn
import Derived.Laws.OwnMore
import Derived.Deep.OwnRows
import Derived.Tactics
import Derived.Lib.ConvBytes
import Derived.Laws.Slices
import Derived.WalkKit
import Derived.KernelRfl
import Derived.RowKit3
import Derived.Deep.LoopGhost
import Derived.Deep.QuietTactic
import Derived.BigQuiet
import Derived.WideLaws
import Derived.Deep.DeepCutAuto
import Derived.Deep.CutBlock
import Derived.Deep.RegionHeld3
import Derived.Laws.Rows
import Derived.Lib.AppendStr
import Derived.ArgAppend
import Derived.Laws.IdiomCopy
import Derived.OrdersHeld
import Derived.Laws.BitsLemmas
import Derived.RowKit
import Derived.WalkLawsBesides
import Derived.Test.YtbgigckmehgcpaaDoorExtE
import Derived.Test.YtbgigckmehgcpaaDoorWWords
import Derived.Test.YtbgigckmehgcpaaDoorWLast
import Derived.Test.YtbgigckmehgcpaaDoorWTab
import Derived.Test.YtbgigckmehgcpaaDoorWFour
import Derived.Test.YtbgigckmehgcpaaDoorWQPut
import Derived.Test.YtbgigckmehgcpaaDoorWApart
import Derived.Test.YtbgigckmehgcpaaDoorWArr
import Derived.Test.YtbgigckmehgcpaaDoorWZeros
import Derived.Test.YtbgigckmehgcpaaDoorWFoot
import Derived.Test.YtbgigckmehgcpaaDoorWKept
import Derived.Test.YtbgigckmehgcpaaDoorWShare
import Derived.Test.YtbgigckmehgcpaaDoorWN
import Derived.Test.YtbgigckmehgcpaaDoorWFootNe
import Derived.Test.YtbgigckmehgcpaaDoorWAt
import Derived.Test.YtbgigckmehgcpaaDoorWEqStruct
import Derived.Test.YtbgigckmehgcpaaDoorWRepsOne
import Derived.Test.YtbgigckmehgcpaaDoorWInv
import Derived.Test.YtbgigckmehgcpaaDoorWInvWords
import Derived.Test.YtbgigckmehgcpaaDoorWGuard
import Derived.Test.YtbgigckmehgcpaaDoorWNEv
import Derived.Test.YtbgigckmehgcpaaDoorWMore
namespace Go.Proofs.YtbgigckmehgcpaaDoor.Pr
open Go.RowKit Go.Proofs.YtbgigckmehgcpaaDoorW.PrintWords Go.Proofs.YtbgigckmehgcpaaDoorW.PrintLast Go.Proofs.YtbgigckmehgcpaaDoorW.PrintMore
attribute [local go_sem] max2_int min2_int max_two min_two max_three min_three max_four min_four   -- for this text's walks alone
set_option linter.unusedVariables false
set_option linter.unusedSimpArgs false



def errW : Option Int → Value
  | none => .nilIface
  | some c => .iface 0 (.int .i64 c)
theorem errW_none : errW none = .nilIface := rfl
theorem errW_some (c : Int) : errW (some c) = .iface 0 (.int .i64 c) := rfl

theorem info3 : (Tryd.prog.info? 3).map (fun i => (i.zero, i.size, i.bytes)) = some (some (.int .i64 0), 1, 8) := by kernel_rfl
theorem info5 : (Tryd.prog.info? 5).map (fun i => (i.zero, i.size, i.bytes)) = some (some (.int .u8 0), 1, 1) := by kernel_rfl
-- the values' own types

end Go.Proofs.YtbgigckmehgcpaaDoor.Pr
