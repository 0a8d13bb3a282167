-- Written by a program of this claim's own (wip/gen/gen.py), out of the translation; an ordinary proof text.
import Derived.Test.YtacffcdjgjiemaaProg
import Derived.Below
import Derived.Deep.Draws
import Derived.Deep.AppendLies
import Derived.Maps.AppendAt
import Derived.OwnWalk
import Derived.Laws.BytesArg
import Derived.Laws.MakeOwn
import Derived.Laws.OwnMore
import Derived.Deep.OwnRows
import Derived.Tactics
import Derived.Lib.ConvBytes
import Derived.Laws.Slices
import Derived.WalkKit
import Derived.KernelRfl
import Derived.RowKit3
import Derived.Deep.LoopGhost
import Derived.Deep.QuietTactic
import Derived.BigQuiet
import Derived.WideLaws
import Derived.Deep.DeepCutAuto
import Derived.Deep.CutBlock
import Derived.Deep.RegionHeld3
import Derived.Laws.Rows
import Derived.Lib.AppendStr
import Derived.ArgAppend
import Derived.Laws.IdiomCopy
import Derived.OrdersHeld
import Derived.Laws.BitsLemmas
import Derived.RowKit
import Derived.WalkLawsBesides
import Derived.Test.YtacffcdjgjiemaaWWords
import Derived.Test.YtacffcdjgjiemaaWLast
import Derived.Test.YtacffcdjgjiemaaWTab
import Derived.Test.YtacffcdjgjiemaaWFour
import Derived.Test.YtacffcdjgjiemaaWQPut
import Derived.Test.YtacffcdjgjiemaaWApart
import Derived.Test.YtacffcdjgjiemaaWArr
import Derived.Test.YtacffcdjgjiemaaWZeros
import Derived.Test.YtacffcdjgjiemaaWFoot
import Derived.Test.YtacffcdjgjiemaaWKept
import Derived.Test.YtacffcdjgjiemaaWShare
import Derived.Test.YtacffcdjgjiemaaWN
import Derived.Test.YtacffcdjgjiemaaWFootNe
import Derived.Test.YtacffcdjgjiemaaWAt
import Derived.Test.YtacffcdjgjiemaaWEqStruct
import Derived.Test.YtacffcdjgjiemaaWRepsOne
import Derived.Test.YtacffcdjgjiemaaWInv
import Derived.Test.YtacffcdjgjiemaaWInvWords
import Derived.Test.YtacffcdjgjiemaaWGuard
import Derived.Test.YtacffcdjgjiemaaWNEv
import Derived.Test.YtacffcdjgjiemaaWMore
namespace Go.Proofs.Ytacffcdjgjiemaa.QA
open Go.RowKit Go.Proofs.YtacffcdjgjiemaaW.PrintWords Go.Proofs.YtacffcdjgjiemaaW.PrintLast Go.Proofs.YtacffcdjgjiemaaW.PrintMore
attribute [local go_sem] max2_int min2_int max_two min_two max_three min_three max_four min_four   -- for this text's walks alone
set_option linter.unusedVariables false
set_option linter.unusedSimpArgs false



def errW : Option Int → Value
  | none => .nilIface
  | some c => .iface 0 (.int .i64 c)
theorem errW_none : errW none = .nilIface := rfl
theorem errW_some (c : Int) : errW (some c) = .iface 0 (.int .i64 c) := rfl

theorem ne_nil_empty (l : List UInt8) : (l != []) = !l.isEmpty := by cases l <;> rfl
theorem info9 : (Try.prog.info? 9).map (fun i => (i.zero, i.size, i.bytes)) = some (some (.string ⟨#[]⟩), 1, 16) := by kernel_rfl
-- the values' own types


end Go.Proofs.Ytacffcdjgjiemaa.QA
