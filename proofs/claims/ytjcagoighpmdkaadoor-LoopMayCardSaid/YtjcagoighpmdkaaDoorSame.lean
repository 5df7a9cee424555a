/- flittingbook.SameInts. -/
import Derived.Test.YtjcagoighpmdkaaDoorSlice
import Derived.Test.YtjcagoighpmdkaaDoorBytes
import Derived.Test.YtjcagoighpmdkaaDoorDraw
import Derived.Test.YtjcagoighpmdkaaDoorFacts
namespace Go.Proofs.YtjcagoighpmdkaaDoor
open Go Go.RowKit
set_option linter.unusedVariables false
set_option linter.unusedSimpArgs false
attribute [local irreducible] actF WL CW OW PL SW VR LR yes Returns Fn
end Go.Proofs.YtjcagoighpmdkaaDoor
