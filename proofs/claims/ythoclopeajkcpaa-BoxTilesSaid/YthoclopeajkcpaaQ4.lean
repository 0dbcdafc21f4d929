/- Chapter 1: the walks of what the statements call: both numbers alike, some known runs. -/
import Derived.Test.YthoclopeajkcpaaQ3
namespace Go.Proofs.Ythoclopeajkcpaa
open Go Go.RowKit E
attribute [local irreducible] XRun XOps XCode XCal XLoop XQ SemCall
set_option linter.unusedSimpArgs false
set_option linter.unusedVariables false
theorem kn1 : qmul (-1) 1 = -1 := by decide +kernel
theorem kn2 : qdiv 65536 0 = 0 := by decide +kernel
theorem kn3 : root 262144 = 131072 := by decide +kernel
theorem kn4 : hyp 3 (-4) = 5 := by decide +kernel
theorem kn5 : qadd 4611686018427387904 4611686018427387904 = 1099511627776 := by decide +kernel
theorem kn6 : mid 0 10 32768 = 5 := by decide +kernel
end Go.Proofs.Ythoclopeajkcpaa
