-- Written by a program of this claim (wip/tools/pp.py) out of the translation.
import Derived.Test.YtghkgclbfjoilaaProg
import Derived.Below
import Derived.Deep.Draws
import Derived.Deep.AppendLies
import Derived.Maps.AppendAt
import Derived.OwnWalk
import Derived.Laws.BytesArg
import Derived.Laws.MakeOwn
import Derived.Laws.OwnMore
import Derived.Deep.OwnRows
import Derived.Tactics
import Derived.Lib.ConvBytes
import Derived.Laws.Slices
import Derived.WalkKit
import Derived.KernelRfl
import Derived.RowKit3
import Derived.Deep.LoopGhost
import Derived.Deep.QuietTactic
import Derived.BigQuiet
import Derived.WideLaws
import Derived.Deep.DeepCutAuto
import Derived.Deep.CutBlock
import Derived.Deep.RegionHeld3
import Derived.Laws.Rows
import Derived.Lib.AppendStr
import Derived.ArgAppend
import Derived.Laws.IdiomCopy
import Derived.OrdersHeld
import Derived.Laws.BitsLemmas
import Derived.RowKit
import Derived.Test.YtghkgclbfjoilaaWWords
import Derived.Test.YtghkgclbfjoilaaWLast
import Derived.Test.YtghkgclbfjoilaaWTab
import Derived.Test.YtghkgclbfjoilaaWFour
import Derived.Test.YtghkgclbfjoilaaWQPut
import Derived.Test.YtghkgclbfjoilaaWApart
import Derived.Test.YtghkgclbfjoilaaWArr
import Derived.Test.YtghkgclbfjoilaaWZeros
import Derived.Test.YtghkgclbfjoilaaWFoot
import Derived.Test.YtghkgclbfjoilaaWKept
import Derived.Test.YtghkgclbfjoilaaWShare
import Derived.Test.YtghkgclbfjoilaaWN
import Derived.Test.YtghkgclbfjoilaaWFootNe
import Derived.Test.YtghkgclbfjoilaaWAt
import Derived.Test.YtghkgclbfjoilaaWEqStruct
import Derived.Test.YtghkgclbfjoilaaWRepsOne
import Derived.Test.YtghkgclbfjoilaaWInv
import Derived.Test.YtghkgclbfjoilaaWInvWords
import Derived.Test.YtghkgclbfjoilaaWGuard
import Derived.Test.YtghkgclbfjoilaaWNEv
import Derived.Test.YtghkgclbfjoilaaWMore
namespace Go.Proofs.Ytghkgclbfjoilaa.F
open Go.RowKit Go.Proofs.YtghkgclbfjoilaaW.PrintWords Go.Proofs.YtghkgclbfjoilaaW.PrintLast Go.Proofs.YtghkgclbfjoilaaW.PrintMore
attribute [local go_sem] max2_int min2_int max_two min_two max_three min_three max_four min_four   -- for this text's walks alone
set_option linter.unusedVariables false
set_option linter.unusedSimpArgs false



def errW : Option Int → Value
  | none => .nilIface
  | some c => .iface 0 (.int .i64 c)
theorem errW_none : errW none = .nilIface := rfl
theorem errW_some (c : Int) : errW (some c) = .iface 0 (.int .i64 c) := rfl

theorem info9 : (Try.prog.info? 9).map (fun i => (i.zero, i.size, i.bytes)) = some (some (.string ⟨#[]⟩), 1, 16) := by kernel_rfl
-- the values' own types

end Go.Proofs.Ytghkgclbfjoilaa.F
