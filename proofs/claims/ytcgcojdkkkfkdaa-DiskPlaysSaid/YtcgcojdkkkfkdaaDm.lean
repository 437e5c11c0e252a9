/-
  The arguments of the statement DiskPlays, opened.
-/
import Derived.Test.YtcgcojdkkkfkdaaDk
import Derived.Test.YtcgcojdkkkfkdaaDl
import Derived.Test.YtcgcojdkkkfkdaaOp
import Derived.ProofKit
import Derived.OpenShut
namespace Go.Proofs.Ytcgcojdkkkfkdaa.Dk
open Go.ChangeShapes Go.WideShapes Go.ChangeAt Go.RowKit
open Go.Proofs.YtcgcojdkkkfkdaaW.PrintWords
set_option linter.unusedVariables false
theorem wf_bounds {i : Int} (hi : (Lit.int .i64 i).wf = true) : -9223372036854775808 ≤ i ∧ i ≤ 9223372036854775807 := by
  simp only [Lit.wf, decide_eq_true_eq, Bool.and_eq_true] at hi
  have h1 : IntKind.i64.min = -9223372036854775808 := rfl
  have h2 : IntKind.i64.max = 9223372036854775807 := rfl
  omega
theorem opensO : Op.Opens Try.prog kO 34 (fun x => (-9223372036854775808 ≤ x.1 ∧ x.1 ≤ 9223372036854775807) ∧ (-9223372036854775808 ≤ x.2.2.1 ∧ x.2.2.1 ≤ 9223372036854775807)) := by
  have h := Op.Opens.struct (P := Try.prog) (d := kO) Try.underlying34 (by kernel_rfl)
    (Op.OpensFs.cons rfl (Op.Opens.int Try.underlying3 (by kernel_rfl)) (Op.OpensFs.cons rfl (Op.Opens.int Try.underlying3 (by kernel_rfl)) (Op.OpensFs.cons rfl (Op.Opens.int Try.underlying3 (by kernel_rfl)) (Op.OpensFs.one rfl (Op.Opens.int Try.underlying5 (by kernel_rfl))))))
  refine ⟨h.1, fun H enc W spare held fuel cs x hx => ?_⟩
  obtain ⟨y, hy, hg⟩ := h.2 H enc W spare held fuel cs x hx
  exact ⟨y, hy, wf_bounds hg.1, wf_bounds hg.2.2.1⟩
theorem lawDisk_row (n : Int) (A : Option Addr) (c : Nat) (l : List OpT) (w : World) (hl : Kd.C kO w A l.length l) (hG : ∀ x ∈ l, (-9223372036854775808 ≤ x.1 ∧ x.1 ≤ 9223372036854775807) ∧ (-9223372036854775808 ≤ x.2.2.1 ∧ x.2.2.1 ≤ 9223372036854775807)) (hy : l.length * 32 ≤ 140737488351232) :
    Calls Try.prog 3 #[.int .i64 n, .slice A l.length c] w fun e w' => e = .returned (.bool true) ∧ Below w.heap.size w w' := lawDisk_any n A c l w hl hG (by omega)
end Go.Proofs.Ytcgcojdkkkfkdaa.Dk
