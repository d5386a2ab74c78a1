-- PRINTED by print.py (a twelfth state) out of the translation. Not trusted: Lean checks it.
import Derived.Test.YtecijaibbjafoaaDoorProg
import Derived.Below
import Derived.Deep.Draws
import Derived.Deep.AppendLies
import Derived.Maps.AppendAt
import Derived.OwnWalk
import Derived.Laws.BytesArg
import Derived.Laws.MakeOwn
import Derived.Laws.OwnMore
import Derived.Deep.OwnRows
import Derived.Tactics
import Derived.Lib.ConvBytes
import Derived.Laws.Slices
import Derived.WalkKit
import Derived.KernelRfl
import Derived.RowKit3
import Derived.Deep.LoopGhost
import Derived.Deep.QuietTactic
import Derived.BigQuiet
import Derived.WideLaws
import Derived.Deep.DeepCutAuto
import Derived.Deep.CutBlock
import Derived.Deep.RegionHeld3
import Derived.Laws.Rows
import Derived.Lib.AppendStr
import Derived.ArgAppend
import Derived.Laws.IdiomCopy
import Derived.OrdersHeld
import Derived.Laws.BitsLemmas
import Derived.RowKit
import Derived.Test.YtecijaibbjafoaaDoorWWords
import Derived.Test.YtecijaibbjafoaaDoorWLast
import Derived.Test.YtecijaibbjafoaaDoorWTab
import Derived.Test.YtecijaibbjafoaaDoorWFour
import Derived.Test.YtecijaibbjafoaaDoorWQPut
import Derived.Test.YtecijaibbjafoaaDoorWApart
import Derived.Test.YtecijaibbjafoaaDoorWArr
import Derived.Test.YtecijaibbjafoaaDoorWZeros
import Derived.Test.YtecijaibbjafoaaDoorWFoot
import Derived.Test.YtecijaibbjafoaaDoorWKept
import Derived.Test.YtecijaibbjafoaaDoorWShare
import Derived.Test.YtecijaibbjafoaaDoorWN
import Derived.Test.YtecijaibbjafoaaDoorWFootNe
import Derived.Test.YtecijaibbjafoaaDoorWAt
import Derived.Test.YtecijaibbjafoaaDoorWEqStruct
import Derived.Test.YtecijaibbjafoaaDoorWRepsOne
import Derived.Test.YtecijaibbjafoaaDoorWInv
import Derived.Test.YtecijaibbjafoaaDoorWInvWords
import Derived.Test.YtecijaibbjafoaaDoorWGuard
import Derived.Test.YtecijaibbjafoaaDoorWNEv
import Derived.Test.YtecijaibbjafoaaDoorWMore
namespace Go.Proofs.YtecijaibbjafoaaDoor.PG
open Go.RowKit Go.Proofs.YtecijaibbjafoaaDoorW.PrintWords Go.Proofs.YtecijaibbjafoaaDoorW.PrintLast Go.Proofs.YtecijaibbjafoaaDoorW.PrintMore
attribute [local go_sem] max2_int min2_int max_two min_two max_three min_three max_four min_four   -- for this text's walks alone
set_option linter.unusedVariables false
set_option linter.unusedSimpArgs false



def errW : Option Int → Value
  | none => .nilIface
  | some c => .iface 0 (.int .i64 c)
theorem errW_none : errW none = .nilIface := rfl
theorem errW_some (c : Int) : errW (some c) = .iface 0 (.int .i64 c) := rfl

theorem info3 : (Tryd.prog.info? 3).map (fun i => (i.zero, i.size, i.bytes)) = some (some (.int .i64 0), 1, 8) := by kernel_rfl
-- the values' own types

end Go.Proofs.YtecijaibbjafoaaDoor.PG
