-- Laid by a program of this session out of the kit's print, changed; see NOTES.md
import Derived.Test.YtbcogccamagkmaaProg
import Derived.Below
import Derived.Deep.Draws
import Derived.Deep.AppendLies
import Derived.Maps.AppendAt
import Derived.OwnWalk
import Derived.Laws.BytesArg
import Derived.Laws.MakeOwn
import Derived.Laws.OwnMore
import Derived.Deep.OwnRows
import Derived.Tactics
import Derived.Lib.ConvBytes
import Derived.Laws.Slices
import Derived.WalkKit
import Derived.KernelRfl
import Derived.RowKit3
import Derived.Deep.LoopGhost
import Derived.Deep.QuietTactic
import Derived.BigQuiet
import Derived.WideLaws
import Derived.Deep.DeepCutAuto
import Derived.Deep.CutBlock
import Derived.Deep.RegionHeld3
import Derived.Laws.Rows
import Derived.Lib.AppendStr
import Derived.ArgAppend
import Derived.Laws.IdiomCopy
import Derived.OrdersHeld
import Derived.Laws.BitsLemmas
import Derived.RowKit
import Derived.Test.YtbcogccamagkmaaShelf
import Derived.Test.YtbcogccamagkmaaX
import Derived.Test.YtbcogccamagkmaaWWords
import Derived.Test.YtbcogccamagkmaaWLast
import Derived.Test.YtbcogccamagkmaaWTab
import Derived.Test.YtbcogccamagkmaaWFour
import Derived.Test.YtbcogccamagkmaaWQPut
import Derived.Test.YtbcogccamagkmaaWApart
import Derived.Test.YtbcogccamagkmaaWArr
import Derived.Test.YtbcogccamagkmaaWZeros
import Derived.Test.YtbcogccamagkmaaWFoot
import Derived.Test.YtbcogccamagkmaaWKept
import Derived.Test.YtbcogccamagkmaaWShare
import Derived.Test.YtbcogccamagkmaaWN
import Derived.Test.YtbcogccamagkmaaWFootNe
import Derived.Test.YtbcogccamagkmaaWAt
import Derived.Test.YtbcogccamagkmaaWEqStruct
import Derived.Test.YtbcogccamagkmaaWRepsOne
import Derived.Test.YtbcogccamagkmaaWInv
import Derived.Test.YtbcogccamagkmaaWInvWords
import Derived.Test.YtbcogccamagkmaaWGuard
import Derived.Test.YtbcogccamagkmaaWNEv
import Derived.Test.YtbcogccamagkmaaWMore
namespace Go.Proofs.Ytbcogccamagkmaa.Mb
open Go.RowKit Go.Proofs.YtbcogccamagkmaaW.PrintWords Go.Proofs.YtbcogccamagkmaaW.PrintLast Go.Proofs.YtbcogccamagkmaaW.PrintMore
attribute [local go_sem] max2_int min2_int max_two min_two max_three min_three max_four min_four   -- for this text's walks alone
set_option linter.unusedVariables false
set_option linter.unusedSimpArgs false



def errW : Option Int → Value
  | none => .nilIface
  | some c => .iface 0 (.int .i64 c)
theorem errW_none : errW none = .nilIface := rfl
theorem errW_some (c : Int) : errW (some c) = .iface 0 (.int .i64 c) := rfl

theorem info5 : (Try.prog.info? 5).map (fun i => (i.zero, i.size, i.bytes)) = some (some (.int .u8 0), 1, 1) := by kernel_rfl
-- the values' own types

end Go.Proofs.Ytbcogccamagkmaa.Mb
