-- PRINTED BY print.sh 35421559b90ae4d0a3588c463048766b98c2df88dd9212a6774a882060cdf62d: not written by this session
import Derived.Test.YtimmglnbjgbbjaaProg
import Derived.Below
import Derived.Deep.Draws
import Derived.Deep.AppendLies
import Derived.Maps.AppendAt
import Derived.OwnWalk
import Derived.Laws.BytesArg
import Derived.Laws.MakeOwn
import Derived.Laws.OwnMore
import Derived.Deep.OwnRows
import Derived.Tactics
import Derived.Lib.ConvBytes
import Derived.Laws.Slices
import Derived.WalkKit
import Derived.KernelRfl
import Derived.RowKit3
import Derived.Deep.LoopGhost
import Derived.Deep.QuietTactic
import Derived.BigQuiet
import Derived.WideLaws
import Derived.Deep.DeepCutAuto
import Derived.Deep.CutBlock
import Derived.Deep.RegionHeld3
import Derived.Laws.Rows
import Derived.Lib.AppendStr
import Derived.ArgAppend
import Derived.Laws.IdiomCopy
import Derived.OrdersHeld
import Derived.Laws.BitsLemmas
import Derived.RowKit
import Derived.Test.YtimmglnbjgbbjaaWWords
import Derived.Test.YtimmglnbjgbbjaaWLast
import Derived.Test.YtimmglnbjgbbjaaWTab
import Derived.Test.YtimmglnbjgbbjaaWFour
import Derived.Test.YtimmglnbjgbbjaaWQPut
import Derived.Test.YtimmglnbjgbbjaaWApart
import Derived.Test.YtimmglnbjgbbjaaWArr
import Derived.Test.YtimmglnbjgbbjaaWZeros
import Derived.Test.YtimmglnbjgbbjaaWFoot
import Derived.Test.YtimmglnbjgbbjaaWKept
import Derived.Test.YtimmglnbjgbbjaaWShare
import Derived.Test.YtimmglnbjgbbjaaWN
import Derived.Test.YtimmglnbjgbbjaaWFootNe
import Derived.Test.YtimmglnbjgbbjaaWAt
import Derived.Test.YtimmglnbjgbbjaaWEqStruct
import Derived.Test.YtimmglnbjgbbjaaWRepsOne
import Derived.Test.YtimmglnbjgbbjaaWInv
import Derived.Test.YtimmglnbjgbbjaaWInvWords
import Derived.Test.YtimmglnbjgbbjaaWGuard
import Derived.Test.YtimmglnbjgbbjaaWNEv
import Derived.Test.YtimmglnbjgbbjaaWMore
namespace Go.Proofs.Ytimmglnbjgbbjaa.PFrameNew
open Go.RowKit Go.Proofs.YtimmglnbjgbbjaaW.PrintWords Go.Proofs.YtimmglnbjgbbjaaW.PrintLast Go.Proofs.YtimmglnbjgbbjaaW.PrintMore
attribute [local go_sem] max2_int min2_int max_two min_two max_three min_three max_four min_four   -- for this text's walks alone
set_option linter.unusedVariables false
set_option linter.unusedSimpArgs false



def errW : Option Int → Value
  | none => .nilIface
  | some c => .iface 0 (.int .i64 c)
theorem errW_none : errW none = .nilIface := rfl
theorem errW_some (c : Int) : errW (some c) = .iface 0 (.int .i64 c) := rfl

-- the values' own types

end Go.Proofs.Ytimmglnbjgbbjaa.PFrameNew
