-- Written by a program of this session (hprint.py: the kit's print over several laws at once, with functions proved by hand). Lean checks it.
import Derived.Test.YtpgbkmmfniihbaaProg
import Derived.Below
import Derived.Deep.Draws
import Derived.Deep.AppendLies
import Derived.Maps.AppendAt
import Derived.OwnWalk
import Derived.Laws.BytesArg
import Derived.Laws.MakeOwn
import Derived.Laws.OwnMore
import Derived.Deep.OwnRows
import Derived.Tactics
import Derived.Lib.ConvBytes
import Derived.Laws.Slices
import Derived.WalkKit
import Derived.KernelRfl
import Derived.RowKit3
import Derived.Deep.LoopGhost
import Derived.Deep.QuietTactic
import Derived.BigQuiet
import Derived.WideLaws
import Derived.Deep.DeepCutAuto
import Derived.Deep.CutBlock
import Derived.Deep.RegionHeld3
import Derived.Laws.Rows
import Derived.Lib.AppendStr
import Derived.ArgAppend
import Derived.Laws.IdiomCopy
import Derived.OrdersHeld
import Derived.Laws.BitsLemmas
import Derived.RowKit
import Derived.Test.YtpgbkmmfniihbaaWWords
import Derived.Test.YtpgbkmmfniihbaaWLast
import Derived.Test.YtpgbkmmfniihbaaWTab
import Derived.Test.YtpgbkmmfniihbaaWFour
import Derived.Test.YtpgbkmmfniihbaaWQPut
import Derived.Test.YtpgbkmmfniihbaaWApart
import Derived.Test.YtpgbkmmfniihbaaWArr
import Derived.Test.YtpgbkmmfniihbaaWZeros
import Derived.Test.YtpgbkmmfniihbaaWFoot
import Derived.Test.YtpgbkmmfniihbaaWKept
import Derived.Test.YtpgbkmmfniihbaaWShare
import Derived.Test.YtpgbkmmfniihbaaWN
import Derived.Test.YtpgbkmmfniihbaaWFootNe
import Derived.Test.YtpgbkmmfniihbaaWAt
import Derived.Test.YtpgbkmmfniihbaaWEqStruct
import Derived.Test.YtpgbkmmfniihbaaWRepsOne
import Derived.Test.YtpgbkmmfniihbaaWInv
import Derived.Test.YtpgbkmmfniihbaaWInvWords
import Derived.Test.YtpgbkmmfniihbaaWGuard
import Derived.Test.YtpgbkmmfniihbaaWNEv
import Derived.Test.YtpgbkmmfniihbaaWMore
namespace Go.Proofs.Ytpgbkmmfniihbaa.PAll
open Go.RowKit Go.Proofs.YtpgbkmmfniihbaaW.PrintWords Go.Proofs.YtpgbkmmfniihbaaW.PrintLast Go.Proofs.YtpgbkmmfniihbaaW.PrintMore
attribute [local go_sem] max2_int min2_int max_two min_two max_three min_three max_four min_four   -- for this text's walks alone
set_option linter.unusedVariables false
set_option linter.unusedSimpArgs false



def errW : Option Int → Value
  | none => .nilIface
  | some c => .iface 0 (.int .i64 c)
theorem errW_none : errW none = .nilIface := rfl
theorem errW_some (c : Int) : errW (some c) = .iface 0 (.int .i64 c) := rfl

theorem info5 : (Try.prog.info? 5).map (fun i => (i.zero, i.size, i.bytes)) = some (some (.int .u8 0), 1, 1) := by kernel_rfl
theorem info9 : (Try.prog.info? 9).map (fun i => (i.zero, i.size, i.bytes)) = some (some (.string ⟨#[]⟩), 1, 16) := by kernel_rfl
-- the values' own types

end Go.Proofs.Ytpgbkmmfniihbaa.PAll
