-- PRINTED BY print.sh 35421559b90ae4d0a3588c463048766b98c2df88dd9212a6774a882060cdf62d: not written by this session
import Derived.Test.YtmoigffjpijpaaaProg
import Derived.Below
import Derived.Deep.Draws
import Derived.Deep.AppendLies
import Derived.Maps.AppendAt
import Derived.OwnWalk
import Derived.Laws.BytesArg
import Derived.Laws.MakeOwn
import Derived.Laws.OwnMore
import Derived.Deep.OwnRows
import Derived.Tactics
import Derived.Lib.ConvBytes
import Derived.Laws.Slices
import Derived.WalkKit
import Derived.KernelRfl
import Derived.RowKit3
import Derived.Deep.LoopGhost
import Derived.Deep.QuietTactic
import Derived.BigQuiet
import Derived.WideLaws
import Derived.Deep.DeepCutAuto
import Derived.Deep.CutBlock
import Derived.Deep.RegionHeld3
import Derived.Laws.Rows
import Derived.Lib.AppendStr
import Derived.ArgAppend
import Derived.Laws.IdiomCopy
import Derived.OrdersHeld
import Derived.Laws.BitsLemmas
import Derived.RowKit
import Derived.Test.YtmoigffjpijpaaaWWords
import Derived.Test.YtmoigffjpijpaaaWLast
import Derived.Test.YtmoigffjpijpaaaWTab
import Derived.Test.YtmoigffjpijpaaaWFour
import Derived.Test.YtmoigffjpijpaaaWQPut
import Derived.Test.YtmoigffjpijpaaaWApart
import Derived.Test.YtmoigffjpijpaaaWArr
import Derived.Test.YtmoigffjpijpaaaWZeros
import Derived.Test.YtmoigffjpijpaaaWFoot
import Derived.Test.YtmoigffjpijpaaaWKept
import Derived.Test.YtmoigffjpijpaaaWShare
import Derived.Test.YtmoigffjpijpaaaWN
import Derived.Test.YtmoigffjpijpaaaWFootNe
import Derived.Test.YtmoigffjpijpaaaWAt
import Derived.Test.YtmoigffjpijpaaaWEqStruct
import Derived.Test.YtmoigffjpijpaaaWRepsOne
import Derived.Test.YtmoigffjpijpaaaWInv
import Derived.Test.YtmoigffjpijpaaaWInvWords
import Derived.Test.YtmoigffjpijpaaaWGuard
import Derived.Test.YtmoigffjpijpaaaWNEv
import Derived.Test.YtmoigffjpijpaaaWMore
namespace Go.Proofs.Ytmoigffjpijpaaa.PTokenWords
open Go.RowKit Go.Proofs.YtmoigffjpijpaaaW.PrintWords Go.Proofs.YtmoigffjpijpaaaW.PrintLast Go.Proofs.YtmoigffjpijpaaaW.PrintMore
attribute [local go_sem] max2_int min2_int max_two min_two max_three min_three max_four min_four   -- for this text's walks alone
set_option linter.unusedVariables false
set_option linter.unusedSimpArgs false



def errW : Option Int → Value
  | none => .nilIface
  | some c => .iface 0 (.int .i64 c)
theorem errW_none : errW none = .nilIface := rfl
theorem errW_some (c : Int) : errW (some c) = .iface 0 (.int .i64 c) := rfl

theorem info9 : (Try.prog.info? 9).map (fun i => (i.zero, i.size, i.bytes)) = some (some (.string ⟨#[]⟩), 1, 16) := by kernel_rfl
-- the values' own types

end Go.Proofs.Ytmoigffjpijpaaa.PTokenWords
