-- PRINTED BY print.sh 35421559b90ae4d0a3588c463048766b98c2df88dd9212a6774a882060cdf62d: not written by this session
import Derived.Test.YtbddllklagiajaaDoorProg
import Derived.Below
import Derived.Deep.Draws
import Derived.Deep.AppendLies
import Derived.Maps.AppendAt
import Derived.OwnWalk
import Derived.Laws.BytesArg
import Derived.Laws.MakeOwn
import Derived.Laws.OwnMore
import Derived.Deep.OwnRows
import Derived.Tactics
import Derived.Lib.ConvBytes
import Derived.Laws.Slices
import Derived.WalkKit
import Derived.KernelRfl
import Derived.RowKit3
import Derived.Deep.LoopGhost
import Derived.Deep.QuietTactic
import Derived.BigQuiet
import Derived.WideLaws
import Derived.Deep.DeepCutAuto
import Derived.Deep.CutBlock
import Derived.Deep.RegionHeld3
import Derived.Laws.Rows
import Derived.Lib.AppendStr
import Derived.ArgAppend
import Derived.Laws.IdiomCopy
import Derived.OrdersHeld
import Derived.Laws.BitsLemmas
import Derived.RowKit
import Derived.Test.YtbddllklagiajaaDoorWWords
import Derived.Test.YtbddllklagiajaaDoorWLast
import Derived.Test.YtbddllklagiajaaDoorWTab
import Derived.Test.YtbddllklagiajaaDoorWFour
import Derived.Test.YtbddllklagiajaaDoorWQPut
import Derived.Test.YtbddllklagiajaaDoorWApart
import Derived.Test.YtbddllklagiajaaDoorWArr
import Derived.Test.YtbddllklagiajaaDoorWZeros
import Derived.Test.YtbddllklagiajaaDoorWFoot
import Derived.Test.YtbddllklagiajaaDoorWKept
import Derived.Test.YtbddllklagiajaaDoorWShare
import Derived.Test.YtbddllklagiajaaDoorWN
import Derived.Test.YtbddllklagiajaaDoorWFootNe
import Derived.Test.YtbddllklagiajaaDoorWAt
import Derived.Test.YtbddllklagiajaaDoorWEqStruct
import Derived.Test.YtbddllklagiajaaDoorWRepsOne
import Derived.Test.YtbddllklagiajaaDoorWInv
import Derived.Test.YtbddllklagiajaaDoorWInvWords
import Derived.Test.YtbddllklagiajaaDoorWGuard
import Derived.Test.YtbddllklagiajaaDoorWNEv
import Derived.Test.YtbddllklagiajaaDoorWMore
namespace Go.Proofs.YtbddllklagiajaaDoor.PImageDecodes
open Go.RowKit Go.Proofs.YtbddllklagiajaaDoorW.PrintWords Go.Proofs.YtbddllklagiajaaDoorW.PrintLast Go.Proofs.YtbddllklagiajaaDoorW.PrintMore
attribute [local go_sem] max2_int min2_int max_two min_two max_three min_three max_four min_four   -- for this text's walks alone
set_option linter.unusedVariables false
set_option linter.unusedSimpArgs false



def errW : Option Int → Value
  | none => .nilIface
  | some c => .iface 0 (.int .i64 c)
theorem errW_none : errW none = .nilIface := rfl
theorem errW_some (c : Int) : errW (some c) = .iface 0 (.int .i64 c) := rfl

theorem info5 : (Tryd.prog.info? 5).map (fun i => (i.zero, i.size, i.bytes)) = some (some (.int .u8 0), 1, 1) := by kernel_rfl
-- the values' own types

end Go.Proofs.YtbddllklagiajaaDoor.PImageDecodes
