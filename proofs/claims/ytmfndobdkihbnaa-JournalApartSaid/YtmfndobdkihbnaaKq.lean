/-
  Arguments that are bytes, or rows of bytes, opened.
-/
import Derived.Test.YtmfndobdkihbnaaOp
import Derived.Test.YtmfndobdkihbnaaKa
import Derived.ProofKit
import Derived.OpenShut
namespace Go.Proofs.Ytmfndobdkihbnaa.Dk
open Go.ChangeShapes Go.WideShapes Go.ChangeAt Go.RowKit
open Go.Proofs.YtmfndobdkihbnaaW.PrintWords
set_option linter.unusedVariables false
theorem opensB : Op.Opens Try.prog (Kd.int .u8) 5 (fun x => (Lit.int .u8 x).wf = true) := Op.Opens.int Try.underlying5 (by kernel_rfl)
theorem opensR : Op.Opens Try.prog kR 37 (fun x => ∀ y ∈ x, (Lit.int .u8 y).wf = true) := Op.Opens.slice Try.underlying37 (by kernel_rfl) opensB
end Go.Proofs.Ytmfndobdkihbnaa.Dk
