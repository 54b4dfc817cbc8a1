-- Printed by a program of this session (a turned print): out of the translation, for Lean to check.
import Derived.Test.YthmocnbkjapoaaaProg
import Derived.Below
import Derived.Deep.Draws
import Derived.Deep.AppendLies
import Derived.Maps.AppendAt
import Derived.OwnWalk
import Derived.Laws.BytesArg
import Derived.Laws.MakeOwn
import Derived.Laws.OwnMore
import Derived.Deep.OwnRows
import Derived.Tactics
import Derived.Lib.ConvBytes
import Derived.Laws.Slices
import Derived.WalkKit
import Derived.KernelRfl
import Derived.RowKit3
import Derived.Deep.LoopGhost
import Derived.Deep.QuietTactic
import Derived.BigQuiet
import Derived.WideLaws
import Derived.Deep.DeepCutAuto
import Derived.Deep.CutBlock
import Derived.Deep.RegionHeld3
import Derived.Laws.Rows
import Derived.Lib.AppendStr
import Derived.ArgAppend
import Derived.Laws.IdiomCopy
import Derived.OrdersHeld
import Derived.Laws.BitsLemmas
import Derived.RowKit
import Derived.Test.YthmocnbkjapoaaaWWords
import Derived.Test.YthmocnbkjapoaaaWLast
import Derived.Test.YthmocnbkjapoaaaWTab
import Derived.Test.YthmocnbkjapoaaaWFour
import Derived.Test.YthmocnbkjapoaaaWQPut
import Derived.Test.YthmocnbkjapoaaaWApart
import Derived.Test.YthmocnbkjapoaaaWArr
import Derived.Test.YthmocnbkjapoaaaWZeros
import Derived.Test.YthmocnbkjapoaaaWFoot
import Derived.Test.YthmocnbkjapoaaaWKept
import Derived.Test.YthmocnbkjapoaaaWShare
import Derived.Test.YthmocnbkjapoaaaWN
import Derived.Test.YthmocnbkjapoaaaWFootNe
import Derived.Test.YthmocnbkjapoaaaWAt
import Derived.Test.YthmocnbkjapoaaaWEqStruct
import Derived.Test.YthmocnbkjapoaaaWRepsOne
import Derived.Test.YthmocnbkjapoaaaWInv
import Derived.Test.YthmocnbkjapoaaaWInvWords
import Derived.Test.YthmocnbkjapoaaaWGuard
import Derived.Test.YthmocnbkjapoaaaWNEv
import Derived.Test.YthmocnbkjapoaaaWMore
namespace Go.Proofs.Ythmocnbkjapoaaa.Q
open Go.RowKit Go.Proofs.YthmocnbkjapoaaaW.PrintWords Go.Proofs.YthmocnbkjapoaaaW.PrintLast Go.Proofs.YthmocnbkjapoaaaW.PrintMore
attribute [local go_sem] max2_int min2_int max_two min_two max_three min_three max_four min_four   -- for this text's walks alone
set_option linter.unusedVariables false
set_option linter.unusedSimpArgs false



def errW : Option Int → Value
  | none => .nilIface
  | some c => .iface 0 (.int .i64 c)
theorem errW_none : errW none = .nilIface := rfl
theorem errW_some (c : Int) : errW (some c) = .iface 0 (.int .i64 c) := rfl

theorem info3 : (Try.prog.info? 3).map (fun i => (i.zero, i.size, i.bytes)) = some (some (.int .i64 0), 1, 8) := by kernel_rfl
-- the values' own types

end Go.Proofs.Ythmocnbkjapoaaa.Q
