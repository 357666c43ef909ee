-- Written by a program of this session (hprint.py: the kit's print over several laws at once, with functions proved by hand). Lean checks it.
import Derived.Test.YthomonglhieifaaProg
import Derived.Below
import Derived.Deep.Draws
import Derived.Deep.AppendLies
import Derived.Maps.AppendAt
import Derived.OwnWalk
import Derived.Laws.BytesArg
import Derived.Laws.MakeOwn
import Derived.Laws.OwnMore
import Derived.Deep.OwnRows
import Derived.Tactics
import Derived.Lib.ConvBytes
import Derived.Laws.Slices
import Derived.WalkKit
import Derived.KernelRfl
import Derived.RowKit3
import Derived.Deep.LoopGhost
import Derived.Deep.QuietTactic
import Derived.BigQuiet
import Derived.WideLaws
import Derived.Deep.DeepCutAuto
import Derived.Deep.CutBlock
import Derived.Deep.RegionHeld3
import Derived.Laws.Rows
import Derived.Lib.AppendStr
import Derived.ArgAppend
import Derived.Laws.IdiomCopy
import Derived.OrdersHeld
import Derived.Laws.BitsLemmas
import Derived.RowKit
import Derived.Shelf.Strings.Search1
import Derived.Shelf.Strings.Search2
import Derived.Shelf.Lays
import Derived.Shelf.Strings.Builder1
import Derived.Lib.Builder
import Derived.Test.YthomonglhieifaaWWords
import Derived.Test.YthomonglhieifaaWLast
import Derived.Test.YthomonglhieifaaWTab
import Derived.Test.YthomonglhieifaaWFour
import Derived.Test.YthomonglhieifaaWQPut
import Derived.Test.YthomonglhieifaaWApart
import Derived.Test.YthomonglhieifaaWArr
import Derived.Test.YthomonglhieifaaWZeros
import Derived.Test.YthomonglhieifaaWFoot
import Derived.Test.YthomonglhieifaaWKept
import Derived.Test.YthomonglhieifaaWShare
import Derived.Test.YthomonglhieifaaWN
import Derived.Test.YthomonglhieifaaWFootNe
import Derived.Test.YthomonglhieifaaWAt
import Derived.Test.YthomonglhieifaaWEqStruct
import Derived.Test.YthomonglhieifaaWRepsOne
import Derived.Test.YthomonglhieifaaWInv
import Derived.Test.YthomonglhieifaaWInvWords
import Derived.Test.YthomonglhieifaaWGuard
import Derived.Test.YthomonglhieifaaWNEv
import Derived.Test.YthomonglhieifaaWMore
namespace Go.Proofs.Ythomonglhieifaa.PAll
open Go.RowKit Go.Proofs.YthomonglhieifaaW.PrintWords Go.Proofs.YthomonglhieifaaW.PrintLast Go.Proofs.YthomonglhieifaaW.PrintMore
attribute [local go_sem] max2_int min2_int max_two min_two max_three min_three max_four min_four   -- for this text's walks alone
set_option linter.unusedVariables false
set_option linter.unusedSimpArgs false



def errW : Option Int → Value
  | none => .nilIface
  | some c => .iface 0 (.int .i64 c)
theorem errW_none : errW none = .nilIface := rfl
theorem errW_some (c : Int) : errW (some c) = .iface 0 (.int .i64 c) := rfl

theorem info5 : (Try.prog.info? 5).map (fun i => (i.zero, i.size, i.bytes)) = some (some (.int .u8 0), 1, 1) := by kernel_rfl
theorem info9 : (Try.prog.info? 9).map (fun i => (i.zero, i.size, i.bytes)) = some (some (.string ⟨#[]⟩), 1, 16) := by kernel_rfl
-- the values' own types

end Go.Proofs.Ythomonglhieifaa.PAll
