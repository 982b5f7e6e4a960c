-- Laid by a program of this session out of the kit's print, changed; see NOTES.md
import Derived.Test.YtoblfdloakkmmaaProg
import Derived.Below
import Derived.Deep.Draws
import Derived.Deep.AppendLies
import Derived.Maps.AppendAt
import Derived.OwnWalk
import Derived.Laws.BytesArg
import Derived.Laws.MakeOwn
import Derived.Laws.OwnMore
import Derived.Deep.OwnRows
import Derived.Tactics
import Derived.Lib.ConvBytes
import Derived.Laws.Slices
import Derived.WalkKit
import Derived.KernelRfl
import Derived.RowKit3
import Derived.Deep.LoopGhost
import Derived.Deep.QuietTactic
import Derived.BigQuiet
import Derived.WideLaws
import Derived.Deep.DeepCutAuto
import Derived.Deep.CutBlock
import Derived.Deep.RegionHeld3
import Derived.Laws.Rows
import Derived.Lib.AppendStr
import Derived.ArgAppend
import Derived.Laws.IdiomCopy
import Derived.OrdersHeld
import Derived.Laws.BitsLemmas
import Derived.RowKit
import Derived.Test.YtoblfdloakkmmaaX
import Derived.Test.YtoblfdloakkmmaaWWords
import Derived.Test.YtoblfdloakkmmaaWLast
import Derived.Test.YtoblfdloakkmmaaWTab
import Derived.Test.YtoblfdloakkmmaaWFour
import Derived.Test.YtoblfdloakkmmaaWQPut
import Derived.Test.YtoblfdloakkmmaaWApart
import Derived.Test.YtoblfdloakkmmaaWArr
import Derived.Test.YtoblfdloakkmmaaWZeros
import Derived.Test.YtoblfdloakkmmaaWFoot
import Derived.Test.YtoblfdloakkmmaaWKept
import Derived.Test.YtoblfdloakkmmaaWShare
import Derived.Test.YtoblfdloakkmmaaWN
import Derived.Test.YtoblfdloakkmmaaWFootNe
import Derived.Test.YtoblfdloakkmmaaWAt
import Derived.Test.YtoblfdloakkmmaaWEqStruct
import Derived.Test.YtoblfdloakkmmaaWRepsOne
import Derived.Test.YtoblfdloakkmmaaWInv
import Derived.Test.YtoblfdloakkmmaaWInvWords
import Derived.Test.YtoblfdloakkmmaaWGuard
import Derived.Test.YtoblfdloakkmmaaWNEv
import Derived.Test.YtoblfdloakkmmaaWMore
namespace Go.Proofs.Ytoblfdloakkmmaa.Mp
open Go.RowKit Go.Proofs.YtoblfdloakkmmaaW.PrintWords Go.Proofs.YtoblfdloakkmmaaW.PrintLast Go.Proofs.YtoblfdloakkmmaaW.PrintMore
attribute [local go_sem] max2_int min2_int max_two min_two max_three min_three max_four min_four   -- for this text's walks alone
set_option linter.unusedVariables false
set_option linter.unusedSimpArgs false



def errW : Option Int → Value
  | none => .nilIface
  | some c => .iface 0 (.int .i64 c)
theorem errW_none : errW none = .nilIface := rfl
theorem errW_some (c : Int) : errW (some c) = .iface 0 (.int .i64 c) := rfl

theorem info3 : (Try.prog.info? 3).map (fun i => (i.zero, i.size, i.bytes)) = some (some (.int .i64 0), 1, 8) := by kernel_rfl
theorem info5 : (Try.prog.info? 5).map (fun i => (i.zero, i.size, i.bytes)) = some (some (.int .u8 0), 1, 1) := by kernel_rfl
theorem info9 : (Try.prog.info? 9).map (fun i => (i.zero, i.size, i.bytes)) = some (some (.string ⟨#[]⟩), 1, 16) := by kernel_rfl
-- the values' own types

end Go.Proofs.Ytoblfdloakkmmaa.Mp
