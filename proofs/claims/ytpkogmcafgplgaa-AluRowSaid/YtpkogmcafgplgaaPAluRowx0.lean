-- written by a program of this session (printx) out of the print of the given program
import Derived.Test.YtpkogmcafgplgaaProg
import Derived.Test.YtpkogmcafgplgaaAluC
import Derived.Below
import Derived.Deep.Draws
import Derived.Deep.AppendLies
import Derived.Maps.AppendAt
import Derived.OwnWalk
import Derived.Laws.BytesArg
import Derived.Laws.MakeOwn
import Derived.Laws.OwnMore
import Derived.Deep.OwnRows
import Derived.Tactics
import Derived.Lib.ConvBytes
import Derived.Laws.Slices
import Derived.WalkKit
import Derived.KernelRfl
import Derived.RowKit3
import Derived.Deep.LoopGhost
import Derived.Deep.QuietTactic
import Derived.BigQuiet
import Derived.WideLaws
import Derived.Deep.DeepCutAuto
import Derived.Deep.CutBlock
import Derived.Deep.RegionHeld3
import Derived.Laws.Rows
import Derived.Lib.AppendStr
import Derived.ArgAppend
import Derived.Laws.IdiomCopy
import Derived.OrdersHeld
import Derived.Laws.BitsLemmas
import Derived.RowKit
import Derived.Test.YtpkogmcafgplgaaWWords
import Derived.Test.YtpkogmcafgplgaaWLast
import Derived.Test.YtpkogmcafgplgaaWTab
import Derived.Test.YtpkogmcafgplgaaWFour
import Derived.Test.YtpkogmcafgplgaaWQPut
import Derived.Test.YtpkogmcafgplgaaWApart
import Derived.Test.YtpkogmcafgplgaaWArr
import Derived.Test.YtpkogmcafgplgaaWZeros
import Derived.Test.YtpkogmcafgplgaaWFoot
import Derived.Test.YtpkogmcafgplgaaWKept
import Derived.Test.YtpkogmcafgplgaaWShare
import Derived.Test.YtpkogmcafgplgaaWN
import Derived.Test.YtpkogmcafgplgaaWFootNe
import Derived.Test.YtpkogmcafgplgaaWAt
import Derived.Test.YtpkogmcafgplgaaWEqStruct
import Derived.Test.YtpkogmcafgplgaaWRepsOne
import Derived.Test.YtpkogmcafgplgaaWInv
import Derived.Test.YtpkogmcafgplgaaWInvWords
import Derived.Test.YtpkogmcafgplgaaWGuard
import Derived.Test.YtpkogmcafgplgaaWNEv
import Derived.Test.YtpkogmcafgplgaaWMore
namespace Go.Proofs.Ytpkogmcafgplgaa.PAluRow
open Go.RowKit Go.Proofs.YtpkogmcafgplgaaW.PrintWords Go.Proofs.YtpkogmcafgplgaaW.PrintLast Go.Proofs.YtpkogmcafgplgaaW.PrintMore
attribute [local go_sem] max2_int min2_int max_two min_two max_three min_three max_four min_four   -- for this text's walks alone
set_option linter.unusedVariables false
set_option linter.unusedSimpArgs false



def errW : Option Int → Value
  | none => .nilIface
  | some c => .iface 0 (.int .i64 c)
theorem errW_none : errW none = .nilIface := rfl
theorem errW_some (c : Int) : errW (some c) = .iface 0 (.int .i64 c) := rfl

theorem info4 : (Try.prog.info? 4).map (fun i => (i.zero, i.size, i.bytes)) = some (some (.bool false), 1, 1) := by kernel_rfl
-- the values' own types

end Go.Proofs.Ytpkogmcafgplgaa.PAluRow
