/-
  The arguments of the statement JournalCrashes, opened.
-/
import Derived.Test.YtmfndobdkihbnaaKb
import Derived.Test.YtmfndobdkihbnaaOp
import Derived.ProofKit
import Derived.OpenShut
namespace Go.Proofs.Ytmfndobdkihbnaa.Dk
open Go.ChangeShapes Go.WideShapes Go.ChangeAt Go.RowKit
open Go.Proofs.YtmfndobdkihbnaaW.PrintWords
set_option linter.unusedVariables false
theorem wf_bounds {i : Int} (hi : (Lit.int .i64 i).wf = true) : -9223372036854775808 ≤ i ∧ i ≤ 9223372036854775807 := by
  simp only [Lit.wf, decide_eq_true_eq, Bool.and_eq_true] at hi
  have h1 : IntKind.i64.min = -9223372036854775808 := rfl
  have h2 : IntKind.i64.max = 9223372036854775807 := rfl
  omega
theorem opensP : Op.Opens Try.prog kP 40 (fun x => (Lit.int .i64 x.1).wf = true ∧ ∀ y ∈ x.2, (Lit.int .u8 y).wf = true) :=
  Op.Opens.struct (P := Try.prog) (d := kP) Try.underlying40 (by kernel_rfl)
    (Op.OpensFs.cons rfl (Op.Opens.int Try.underlying3 (by kernel_rfl)) (Op.OpensFs.one rfl (Op.Opens.slice Try.underlying37 (by kernel_rfl) (Op.Opens.int Try.underlying5 (by kernel_rfl)))))
theorem opensO : Op.Opens Try.prog kO 53 (fun x => -9223372036854775808 ≤ x.1 ∧ x.1 ≤ 9223372036854775807) := by
  have h := Op.Opens.struct (P := Try.prog) (d := kO) Try.underlying53 (by kernel_rfl)
    (Op.OpensFs.cons rfl (Op.Opens.int Try.underlying3 (by kernel_rfl)) (Op.OpensFs.cons rfl (Op.Opens.int Try.underlying3 (by kernel_rfl)) (Op.OpensFs.one rfl (Op.Opens.slice Try.underlying35 (by kernel_rfl) opensP))))
  refine ⟨h.1, fun H enc W spare held fuel cs x hx => ?_⟩
  obtain ⟨y, hy, hg⟩ := h.2 H enc W spare held fuel cs x hx
  exact ⟨y, hy, wf_bounds hg.1⟩
theorem crashes_row (place : Int) (A : Option Addr) (c : Nat) (l : List OpT) (w : World) (hp : (Lit.int .i64 place).wf = true) (hl : Kd.C kO w A l.length l) (hG : ∀ x ∈ l, -9223372036854775808 ≤ x.1 ∧ x.1 ≤ 9223372036854775807) (hy : l.length * 40 ≤ 140737488351232) :
    Calls Try.prog 4 #[.int .i64 place, .slice A l.length c] w fun e w' => e = .returned (.bool true) ∧ Below w.heap.size w w' :=
  crashes_any place A c l w (wf_bounds hp).1 (wf_bounds hp).2 hl hG (by omega)
end Go.Proofs.Ytmfndobdkihbnaa.Dk
