/-
  The arguments of the statements of graph, opened: edges, and a pair of numbers.
-/
import Derived.Test.YtcgcojdkkkfkdaaGa
import Derived.Test.YtcgcojdkkkfkdaaOp
import Derived.Laws.IdiomArrays
import Derived.ProofKit
import Derived.OpenShut
namespace Go.Proofs.Ytcgcojdkkkfkdaa
open Go.ChangeShapes Go.WideShapes Go.ChangeAt Go.RowKit
open Go.Proofs.YtcgcojdkkkfkdaaW.PrintWords
set_option linter.unusedVariables false
theorem opensE : Op.Opens Try.prog kE 52 (fun _ => True) := by
  have h := Op.Opens.struct (P := Try.prog) (d := kE) Try.underlying52 (by kernel_rfl)
    (Op.OpensFs.cons rfl (Op.Opens.int Try.underlying3 (by kernel_rfl)) (Op.OpensFs.cons rfl (Op.Opens.int Try.underlying3 (by kernel_rfl)) (Op.OpensFs.one rfl (Op.Opens.bool Try.underlying4 (by kernel_rfl)))))
  exact ⟨h.1, fun H enc W spare held fuel cs x hx => let ⟨y, hy, _⟩ := h.2 H enc W spare held fuel cs x hx; ⟨y, hy, trivial⟩⟩
theorem open_two {H : Type} {enc : TypeId × Value → H} {W : World} {base : Nat} {v : Value} {d : DataW H} {p : List MemPlace} (hv : Value.okWide Try.prog W .any base 57 v) (h : DataW.Trod enc Try.prog W 0 (fun _ => true) true 57 v d p) :
    ∃ a b : Int, v = .agg #[.int .i64 a, .int .i64 b] ∧ (Lit.int .i64 a).wf = true ∧ (Lit.int .i64 b).wf = true := by
  unfold Value.okWide at hv
  rw [Try.underlying57] at hv
  obtain ⟨cs, rfl, hs, _⟩ := hv
  have hs : cs.size = 2 := hs
  obtain ⟨fuel, hf⟩ := h
  obtain ⟨xs, m, _, _, hl, hx, hat⟩ := DataW.trod_array Try.underlying57 hf
  have e : cs = #[cs[0], cs[1]] := by
    apply Array.ext
    · simp [hs]
    · intro i h1 h2
      match i, h1 with
      | 0, _ => rfl
      | 1, _ => rfl
      | n + 2, h1 => omega
  obtain ⟨c0, hc0⟩ : ∃ c0, c0 = cs[0] := ⟨_, rfl⟩
  obtain ⟨c1, hc1⟩ : ∃ c1, c1 = cs[1] := ⟨_, rfl⟩
  rw [← hc0, ← hc1] at e
  subst e
  have hce : Try.prog.cellsOf 3 = 1 := by kernel_rfl
  have h0 := hat 0 (by omega)
  have h1 := hat 1 (by omega)
  rw [hce] at h0 h1
  obtain ⟨y0, hy0⟩ : ∃ y, xs[0]? = some y := ⟨_, List.getElem?_eq_getElem (by omega)⟩
  obtain ⟨y1, hy1⟩ : ∃ y, xs[1]? = some y := ⟨_, List.getElem?_eq_getElem (by omega)⟩
  rw [hy0] at h0
  rw [hy1] at h1
  obtain ⟨a, ea, _, wa⟩ := DataW.trod_int Try.underlying3 h0
  obtain ⟨b, eb, _, wb⟩ := DataW.trod_int Try.underlying3 h1
  simp [Value.cells] at ea eb
  exact ⟨a, b, by rw [ea, eb], wa, wb⟩
end Go.Proofs.Ytcgcojdkkkfkdaa
