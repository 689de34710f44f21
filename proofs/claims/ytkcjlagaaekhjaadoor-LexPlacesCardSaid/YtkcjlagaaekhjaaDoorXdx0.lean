/- Written by a program of this session (wip/xprint.py) out of the translation: Go functions as Lean functions, and that the Go code comes to their answers; no condition but each theorem's own hypotheses. -/
import Derived.Test.YtkcjlagaaekhjaaDoorProg
import Derived.Below
import Derived.Deep.Draws
import Derived.Deep.AppendLies
import Derived.Maps.AppendAt
import Derived.OwnWalk
import Derived.Laws.BytesArg
import Derived.Laws.MakeOwn
import Derived.Laws.OwnMore
import Derived.Deep.OwnRows
import Derived.Tactics
import Derived.Lib.ConvBytes
import Derived.Laws.Slices
import Derived.WalkKit
import Derived.KernelRfl
import Derived.RowKit3
import Derived.Deep.LoopGhost
import Derived.Deep.QuietTactic
import Derived.BigQuiet
import Derived.WideLaws
import Derived.Deep.DeepCutAuto
import Derived.Deep.CutBlock
import Derived.Deep.RegionHeld3
import Derived.Laws.Rows
import Derived.Lib.AppendStr
import Derived.ArgAppend
import Derived.Laws.IdiomCopy
import Derived.OrdersHeld
import Derived.Laws.BitsLemmas
import Derived.RowKit
import Derived.Test.YtkcjlagaaekhjaaDoorExt1
import Derived.Test.YtkcjlagaaekhjaaDoorShelf1
import Derived.Test.YtkcjlagaaekhjaaDoorShelf3
import Derived.Shelf.Strings.SlTrimAscii
import Derived.Lib.SplitLaws
import Derived.HandedShaped
import Derived.Test.YtkcjlagaaekhjaaDoorXx0
import Derived.Test.YtkcjlagaaekhjaaDoorXx1
import Derived.Test.YtkcjlagaaekhjaaDoorXx2
import Derived.Test.YtkcjlagaaekhjaaDoorXx5
import Derived.Test.YtkcjlagaaekhjaaDoorWWords
import Derived.Test.YtkcjlagaaekhjaaDoorWLast
import Derived.Test.YtkcjlagaaekhjaaDoorWTab
import Derived.Test.YtkcjlagaaekhjaaDoorWFour
import Derived.Test.YtkcjlagaaekhjaaDoorWQPut
import Derived.Test.YtkcjlagaaekhjaaDoorWApart
import Derived.Test.YtkcjlagaaekhjaaDoorWArr
import Derived.Test.YtkcjlagaaekhjaaDoorWZeros
import Derived.Test.YtkcjlagaaekhjaaDoorWFoot
import Derived.Test.YtkcjlagaaekhjaaDoorWKept
import Derived.Test.YtkcjlagaaekhjaaDoorWShare
import Derived.Test.YtkcjlagaaekhjaaDoorWN
import Derived.Test.YtkcjlagaaekhjaaDoorWFootNe
import Derived.Test.YtkcjlagaaekhjaaDoorWAt
import Derived.Test.YtkcjlagaaekhjaaDoorWEqStruct
import Derived.Test.YtkcjlagaaekhjaaDoorWRepsOne
import Derived.Test.YtkcjlagaaekhjaaDoorWInv
import Derived.Test.YtkcjlagaaekhjaaDoorWInvWords
import Derived.Test.YtkcjlagaaekhjaaDoorWGuard
import Derived.Test.YtkcjlagaaekhjaaDoorWNEv
import Derived.Test.YtkcjlagaaekhjaaDoorWMore
namespace Go.Proofs.YtkcjlagaaekhjaaDoor.X
open Go.RowKit Go.Proofs.YtkcjlagaaekhjaaDoorW.PrintWords Go.Proofs.YtkcjlagaaekhjaaDoorW.PrintLast Go.Proofs.YtkcjlagaaekhjaaDoorW.PrintMore
attribute [local go_sem] max2_int min2_int max_two min_two max_three min_three max_four min_four   -- for this text's walks alone
set_option linter.unusedVariables false
set_option linter.unusedSimpArgs false
open Go.Proofs.YtkcjlagaaekhjaaDoor in attribute [local go_sem] Ext.cell_over



-- the values' own types

end Go.Proofs.YtkcjlagaaekhjaaDoor.X
