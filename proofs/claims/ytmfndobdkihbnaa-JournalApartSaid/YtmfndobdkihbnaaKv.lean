/-
  The argument of the statement JournalApart, opened.
-/
import Derived.Test.YtmfndobdkihbnaaKq
import Derived.Test.YtmfndobdkihbnaaKt2
namespace Go.Proofs.Ytmfndobdkihbnaa.Dk
open Go.ChangeShapes Go.WideShapes Go.ChangeAt Go.RowKit
open Go.Proofs.YtmfndobdkihbnaaW.PrintWords
set_option linter.unusedVariables false
theorem wf_u8 {i : Int} (hi : (Lit.int .u8 i).wf = true) : 0 ≤ i ∧ i < 256 := by
  simp only [Lit.wf, decide_eq_true_eq, Bool.and_eq_true] at hi
  have h1 : IntKind.u8.min = 0 := rfl
  have h2 : IntKind.u8.max = 255 := rfl
  omega
theorem apart_row (A : Option Addr) (c : Nat) (l : List (List Int)) (w : World) (hl : Kd.C kR w A l.length l) (hG : ∀ x ∈ l, ∀ y ∈ x, (Lit.int .u8 y).wf = true) (hy : l.length * 24 ≤ 140737488351232) :
    Calls Try.prog 3 #[.slice A l.length c] w fun e w' => e = .returned (.bool true) ∧ Below w.heap.size w w' :=
  apart_any A c l w hl (fun x hx y hy => wf_u8 (hG x hx y hy)) (by omega)
end Go.Proofs.Ytmfndobdkihbnaa.Dk
