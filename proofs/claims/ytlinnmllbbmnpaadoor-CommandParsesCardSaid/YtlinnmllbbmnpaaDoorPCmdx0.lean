/- Written by a program of this session out of the translation: the kit's print, run from a copy in which some functions are given by hand. -/
import Derived.Test.YtlinnmllbbmnpaaDoorProg
import Derived.Below
import Derived.Deep.Draws
import Derived.Deep.AppendLies
import Derived.Maps.AppendAt
import Derived.OwnWalk
import Derived.Laws.BytesArg
import Derived.Laws.MakeOwn
import Derived.Laws.OwnMore
import Derived.Deep.OwnRows
import Derived.Tactics
import Derived.Lib.ConvBytes
import Derived.Laws.Slices
import Derived.WalkKit
import Derived.KernelRfl
import Derived.RowKit3
import Derived.Deep.LoopGhost
import Derived.Deep.QuietTactic
import Derived.BigQuiet
import Derived.WideLaws
import Derived.Deep.DeepCutAuto
import Derived.Deep.CutBlock
import Derived.Deep.RegionHeld3
import Derived.Laws.Rows
import Derived.Lib.AppendStr
import Derived.ArgAppend
import Derived.Laws.IdiomCopy
import Derived.OrdersHeld
import Derived.Laws.BitsLemmas
import Derived.RowKit
import Derived.Test.YtlinnmllbbmnpaaDoorWWords
import Derived.Test.YtlinnmllbbmnpaaDoorWLast
import Derived.Test.YtlinnmllbbmnpaaDoorWTab
import Derived.Test.YtlinnmllbbmnpaaDoorWFour
import Derived.Test.YtlinnmllbbmnpaaDoorWQPut
import Derived.Test.YtlinnmllbbmnpaaDoorWApart
import Derived.Test.YtlinnmllbbmnpaaDoorWArr
import Derived.Test.YtlinnmllbbmnpaaDoorWZeros
import Derived.Test.YtlinnmllbbmnpaaDoorWFoot
import Derived.Test.YtlinnmllbbmnpaaDoorWKept
import Derived.Test.YtlinnmllbbmnpaaDoorWShare
import Derived.Test.YtlinnmllbbmnpaaDoorWN
import Derived.Test.YtlinnmllbbmnpaaDoorWFootNe
import Derived.Test.YtlinnmllbbmnpaaDoorWAt
import Derived.Test.YtlinnmllbbmnpaaDoorWEqStruct
import Derived.Test.YtlinnmllbbmnpaaDoorWRepsOne
import Derived.Test.YtlinnmllbbmnpaaDoorWInv
import Derived.Test.YtlinnmllbbmnpaaDoorWInvWords
import Derived.Test.YtlinnmllbbmnpaaDoorWGuard
import Derived.Test.YtlinnmllbbmnpaaDoorWNEv
import Derived.Test.YtlinnmllbbmnpaaDoorWMore
namespace Go.Proofs.YtlinnmllbbmnpaaDoor.PCmd
open Go.RowKit Go.Proofs.YtlinnmllbbmnpaaDoorW.PrintWords Go.Proofs.YtlinnmllbbmnpaaDoorW.PrintLast Go.Proofs.YtlinnmllbbmnpaaDoorW.PrintMore
attribute [local go_sem] max2_int min2_int max_two min_two max_three min_three max_four min_four   -- for this text's walks alone
set_option linter.unusedVariables false
set_option linter.unusedSimpArgs false



def errW : Option Int → Value
  | none => .nilIface
  | some c => .iface 85 (.int .i64 c)
theorem errW_none : errW none = .nilIface := rfl
theorem errW_some (c : Int) : errW (some c) = .iface 85 (.int .i64 c) := rfl

theorem info5 : (Tryd.prog.info? 5).map (fun i => (i.zero, i.size, i.bytes)) = some (some (.int .u8 0), 1, 1) := by kernel_rfl
theorem info9 : (Tryd.prog.info? 9).map (fun i => (i.zero, i.size, i.bytes)) = some (some (.string ⟨#[]⟩), 1, 16) := by kernel_rfl
-- the values' own types

end Go.Proofs.YtlinnmllbbmnpaaDoor.PCmd
