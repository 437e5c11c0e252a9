/-
  A map of numbers that were seen.
-/
import Derived.Test.YtmfndobdkihbnaaJd
namespace Go.Proofs.Ytmfndobdkihbnaa.Dk
open Go.RowKit Go.MapKept Go.Proofs.YtmfndobdkihbnaaW.PrintWords Go.Proofs.YtmfndobdkihbnaaW.PrintLast Go.Proofs.YtmfndobdkihbnaaW.PrintMore
set_option linter.unusedVariables false
set_option linter.unusedSimpArgs false

/-- Block m is a map whose keys are ks. -/
def SeenIs (W : World) (m : Nat) (ks : List Int) : Prop :=
  ∃ es clock, W.heap[m]? = some (.map es clock) ∧ Stamped es clock ∧ (∀ e ∈ es.toList, ∃ k v, e.key = .int .i64 k ∧ e.val = .int .i64 v ∧ k ∈ ks) ∧ ∀ k ∈ ks, ∃ e ∈ es.toList, e.key = .int .i64 k
theorem SeenIs.empty (W : World) (clock : Nat) : SeenIs (W.alloc (.map #[] clock)) W.heap.size [] := ⟨#[], clock, (heap_alloc W _).1, stamped_empty _, by simp, by simp⟩
theorem SeenIs.step {W W' : World} {m : Nat} {ks : List Int} (h : SeenIs W m ks) (hb : W'.heap[m]? = W.heap[m]?) : SeenIs W' m ks := by
  obtain ⟨es, clock, h1, h2⟩ := h
  exact ⟨es, clock, hb.trans h1, h2⟩
theorem SeenIs.map {W : World} {m : Nat} {ks : List Int} (h : SeenIs W m ks) : ∃ es k, W.heap[m]? = some (.map es k) := by
  obtain ⟨es, k, h1, _⟩ := h
  exact ⟨es, k, h1⟩
theorem zero_int (w : World) : (zeroValue 3).run Try.prog w = .ok (.int .i64 0) w := by
  have hi : (Try.prog.info? 3).map (·.zero) = some (some (.int .i64 0)) := by kernel_rfl
  obtain ⟨i, h1, h2⟩ := Option.map_eq_some_iff.1 hi
  simp [zeroValue, typeInfo, h1, h2]
theorem SeenIs.lookup {W : World} {m : Nat} {ks : List Int} (h : SeenIs W m ks) (i : Int) : ∃ v : Int, (Instr.lookup 77 (.map (some m)) (.int .i64 i) true).run Try.prog W = .ok (.tuple #[.int .i64 v, .bool (decide (i ∈ ks))]) W := by
  obtain ⟨es, clock, hb, hs, he, hk⟩ := h
  have ht := Try.underlying77
  have hkt := Try.underlying3
  have hki : IsKey (.int .i64) (.int .i64 i) := rfl
  have hall : ∀ x ∈ es.toList, IsKey (.int .i64) x.key := fun x hx => by
    obtain ⟨k, v, e, _⟩ := he x hx
    rw [e]; exact rfl
  rcases findNow_spec hki es.toList 0 hall with ⟨h1, h2⟩ | ⟨j, e, h1, h2, h3⟩
  · have hni : i ∉ ks := fun hm => by
      obtain ⟨e, hm', e1⟩ := hk i hm
      exact h2 e hm' e1
    exact ⟨0, by simp [Instr.lookup, run_underlying ht, MapKept.run_getObj_map hb, run_checkKey hkt hki, run_findKey hkt h1, zero_int, Result.andThen, hni]⟩
  · obtain ⟨k, v, hk1, hv, hmem⟩ := he e (List.mem_of_getElem? h2)
    rw [h3] at hk1
    injection hk1 with _ e1
    subst e1
    exact ⟨v, by simp [Instr.lookup, run_underlying ht, MapKept.run_getObj_map hb, run_checkKey hkt hki, run_findKey hkt h1, Result.andThen, hv, hmem]⟩
theorem SeenIs.update {W : World} {m : Nat} {ks : List Int} (h : SeenIs W m ks) (i v : Int) (hni : i ∉ ks) : ∃ W' : World, (Instr.mapUpdate 77 (.map (some m)) (.int .i64 i) (.int .i64 v)).run Try.prog W = .ok () W' ∧ SeenIs W' m (i :: ks) ∧ W.grownBy W' (some m) := by
  obtain ⟨es, clock, hb, hs, he, hk⟩ := h
  have ht := Try.underlying77
  have hkt := Try.underlying3
  have hki : IsKey (.int .i64) (.int .i64 i) := rfl
  have hall : ∀ x ∈ es.toList, IsKey (.int .i64) x.key := fun x hx => by
    obtain ⟨k, v, e, _⟩ := he x hx
    rw [e]; exact rfl
  rcases findNow_spec hki es.toList 0 hall with ⟨h1, h2⟩ | ⟨j, e, h1, h2, h3⟩
  · refine ⟨{ W with heap := W.heap.setIfInBounds m (.map (es.push { key := .int .i64 i, val := .int .i64 v, born := clock }) (clock + 1)) }, by simp [Instr.mapUpdate, run_underlying ht, MapKept.run_getObj_map hb, run_checkKey hkt hki, run_findKey hkt h1, run_setObj_map _ hb, Result.andThen], ⟨_, _, (heap_set hb).1, stamped_push hs h2, ?_, ?_⟩, ⟨rfl, rfl, rfl, by simp, fun k hlt hne => (heap_set hb).2 k (fun e => hne (by rw [e]))⟩⟩
    · intro x hx
      simp only [Array.toList_push, List.mem_append, List.mem_singleton] at hx
      rcases hx with hx | rfl
      · obtain ⟨k, v', e1, e2, e3⟩ := he x hx
        exact ⟨k, v', e1, e2, List.mem_cons_of_mem _ e3⟩
      · exact ⟨i, v, rfl, rfl, List.mem_cons_self ..⟩
    · intro k hk'
      rcases List.mem_cons.1 hk' with rfl | hk'
      · exact ⟨_, by simp; exact .inr rfl, rfl⟩
      · obtain ⟨e, hm, e1⟩ := hk k hk'
        exact ⟨e, by simp; exact .inl (by simpa using hm), e1⟩
  · obtain ⟨k, v', hk1, _, hmem⟩ := he e (List.mem_of_getElem? h2)
    rw [h3] at hk1
    injection hk1 with _ e1
    subst e1
    exact absurd hmem hni
end Go.Proofs.Ytmfndobdkihbnaa.Dk
