/-
  The statements' functions full, rows, with: what they answer, plain.
-/
import Derived.Test.YtmfndobdkihbnaaJj
import Derived.Test.YtmfndobdkihbnaaPJournalApartx
namespace Go.Proofs.Ytmfndobdkihbnaa.Dk
open Go.RowKit Go.Proofs.YtmfndobdkihbnaaW.PrintWords Go.Proofs.YtmfndobdkihbnaaW.PrintLast Go.Proofs.YtmfndobdkihbnaaW.PrintMore Go.Proofs.Ytmfndobdkihbnaa.PJournalApart
set_option linter.unusedVariables false
set_option linter.unusedSimpArgs false

theorem ev_now {α : Type} {g : Nat → Option α} {r : α} (h : ∀ k, g (k + 1) = some r) : Ev g r := ⟨1, fun k hk => by obtain ⟨m, rfl⟩ : ∃ m, k = m + 1 := ⟨k - 1, by omega⟩; exact h m⟩
theorem ev_step {α : Type} {g g' : Nat → Option α} {r : α} (h' : Ev g' r) (h : ∀ k, g (k + 1) = g' k) : Ev g r := by
  obtain ⟨K, hK⟩ := h'
  exact ⟨K + 1, fun k hk => by obtain ⟨m, rfl⟩ : ∃ m, k = m + 1 := ⟨k - 1, by omega⟩; rw [h m]; exact hK m (by omega)⟩
theorem wrap_in {i : Int} (h0 : -1000000000000000000 ≤ i) (h1 : i ≤ 1000000000000000000) : wrap64 i = i := by unfold wrap64; omega

/-! full -/
def fullB (c d : Int) : List Int := List.replicate 63 c ++ [d]
theorem fullB_len (c d : Int) : (fullB c d).length = 64 := by simp [fullB]
theorem full_l0 (c d : Int) (n : Nat) : ∀ i : Nat, n + i = 64 → Ev (fun k => majordomolaw02_full.l0 k c d (List.replicate i c ++ List.replicate n 0) (i : Int)) (fullB c d) := by
  induction n with
  | zero =>
    intro i hi
    refine ev_now fun k => ?_
    simp only [majordomolaw02_full.l0]
    rw [if_neg (by simp <;> omega), if_pos (by simp <;> omega)]
    congr 1
    obtain rfl : i = 64 := by omega
    unfold fullB
    rw [List.replicate_zero, List.append_nil, show (63 : Int).toNat = 63 from rfl, show 64 = 63 + 1 from rfl, List.replicate_succ', List.set_append_right _ _ (by simp)]
    simp
  | succ n ih =>
    intro i hi
    refine ev_step (ih (i + 1) (by omega)) fun k => ?_
    simp only [majordomolaw02_full.l0]
    rw [if_pos (by simp; omega), if_pos (by omega), wrap_in (by omega) (by omega), Int.toNat_natCast]
    have e : (List.replicate i c ++ List.replicate (n + 1) 0).set i c = List.replicate (i + 1) c ++ List.replicate n 0 := by
      rw [List.set_append_right _ _ (by simp), List.length_replicate, Nat.sub_self, List.replicate_succ, List.set_cons_zero, List.replicate_succ', List.append_assoc]
      rfl
    rw [e]
    rfl
theorem full_f (c d : Int) : Ev (fun k => majordomolaw02_full.f k c d) (fullB c d) := by
  obtain ⟨K, hK⟩ := full_l0 c d 64 0 (by omega)
  refine ⟨K, fun k hk => ?_⟩
  show majordomolaw02_full.f k c d = _
  unfold majordomolaw02_full.f
  rw [if_pos (by decide)]
  exact hK k hk

/-! with, rows -/
def rowAt (at_ : Int) (j : Nat) : Int := if (j : Int) < at_ then (j : Int) else (j : Int) + 199
def rowIx (at_ k : Int) : Int := if k ≥ at_ + 199 then k - 199 else k
theorem rowsL_low (f : Int → List Int) (at_ : Int) (n : Nat) (h : (n : Int) ≤ at_) : rowsL f n at_ = (List.range n).map fun j : Nat => f (j : Int) := by
  induction n with
  | zero => rfl
  | succ n ih =>
    rw [rowsL_succ_out _ _ _ (by omega), ih (by omega), List.range_succ, List.map_append]
    rfl
theorem rowsL_mid (f : Int → List Int) (a : Nat) (n : Nat) (h : n ≤ 199) : rowsL f (a + n) (a : Int) = (List.range a).map fun j : Nat => f (j : Int) := by
  induction n with
  | zero => exact rowsL_low f _ _ (by simp)
  | succ n ih =>
    rw [← Nat.add_assoc, rowsL_succ_in _ _ _ (by omega), ih (by omega)]
theorem rowsL_all (f : Int → List Int) (a : Nat) (n : Nat) : rowsL f (a + 199 + n) (a : Int) = (List.range (a + n)).map fun j : Nat => f (rowAt (a : Int) j) := by
  induction n with
  | zero =>
    show rowsL f (a + 199) (a : Int) = _
    rw [rowsL_mid f a 199 (by omega)]
    refine List.map_congr_left fun j hj => ?_
    have := List.mem_range.1 hj
    unfold rowAt
    rw [if_pos (by omega)]
  | succ n ih =>
    rw [← Nat.add_assoc, rowsL_succ_out _ _ _ (by omega), ih, ← Nat.add_assoc, List.range_succ, List.map_append]
    congr 1
    simp only [List.map_cons, List.map_nil]
    unfold rowAt
    rw [if_neg (by omega)]
    congr 2
    omega
theorem map_range_set {α : Type} (g : Nat → α) (N j : Nat) (v : α) (hj : j < N) : ((List.range N).map g).set j v = (List.range N).map fun i => if i = j then v else g i := by
  refine List.ext_getElem? fun i => ?_
  rw [List.getElem?_set, List.length_map, List.length_range, List.getElem?_map, List.getElem?_map]
  by_cases h : j = i
  · subst h
    rw [if_pos rfl, if_pos hj, List.getElem?_range hj]
    simp
  · rw [if_neg h]
    rcases Nat.lt_or_ge i N with h2 | h2
    · rw [List.getElem?_range h2]
      simp [show ¬ i = j from fun e => h e.symm]
    · rw [List.getElem?_eq_none (by simpa using h2)]
      rfl
def withL (at_ : Int) : List PutT → List (List Int) → List (List Int)
  | [], out => out
  | x :: r, out => withL at_ r (out.set (rowIx at_ x.1).toNat x.2)
theorem rowAt_eq (a : Nat) (k : Int) (j : Nat) (h : ¬ ((a : Int) ≤ k ∧ k < (a : Int) + 199)) (h0 : 0 ≤ k) : (j = (rowIx (a : Int) k).toNat) ↔ rowAt (a : Int) j = k := by
  unfold rowIx rowAt
  by_cases h1 : k ≥ (a : Int) + 199
  · rw [if_pos h1]
    by_cases h2 : (j : Int) < (a : Int)
    · rw [if_pos h2]; omega
    · rw [if_neg h2]; omega
  · rw [if_neg h1]
    by_cases h2 : (j : Int) < (a : Int)
    · rw [if_pos h2]; omega
    · rw [if_neg h2]; omega
theorem with_rows1 (f : Int → List Int) (a n : Nat) (k : Int) (v : List Int) (h : ¬ ((a : Int) ≤ k ∧ k < (a : Int) + 199)) (h0 : 0 ≤ k) (h1 : k < ((a + 199 + n : Nat) : Int)) : (rowsL f (a + 199 + n) (a : Int)).set (rowIx (a : Int) k).toNat v = rowsL (upd f k v) (a + 199 + n) (a : Int) := by
  rw [rowsL_all, rowsL_all, map_range_set _ _ _ _ (by unfold rowIx; split <;> omega)]
  refine List.map_congr_left fun j hj => ?_
  have := rowAt_eq a k j h h0
  unfold upd
  by_cases hj2 : j = (rowIx (a : Int) k).toNat
  · rw [if_pos hj2, if_pos (this.1 hj2)]
  · rw [if_neg hj2, if_neg (fun e => hj2 (this.2 e))]
theorem with_rows (a n : Nat) (l : List PutT) : ∀ (f : Int → List Int), (∀ x ∈ l, ¬ ((a : Int) ≤ x.1 ∧ x.1 < (a : Int) + 199) ∧ 0 ≤ x.1 ∧ x.1 < ((a + 199 + n : Nat) : Int) ∧ x.2.length = 64) → withL (a : Int) l (rowsL f (a + 199 + n) (a : Int)) = rowsL (puts f l) (a + 199 + n) (a : Int) := by
  induction l with
  | nil => intro f _; rfl
  | cons x r ih =>
    intro f h
    obtain ⟨h1, h2, h3, _⟩ := h x (List.mem_cons_self ..)
    rw [withL, with_rows1 f a n x.1 x.2 h1 h2 h3, ih _ (fun y hy => h y (List.mem_cons_of_mem _ hy))]
    rfl
theorem withL_len (at_ : Int) (l : List PutT) : ∀ out, (withL at_ l out).length = out.length := by
  induction l with
  | nil => intro out; rfl
  | cons x r ih => intro out; rw [withL, ih, List.length_set]
theorem withL_snoc (at_ : Int) (l : List PutT) (i : Nat) (hi : i < l.length) (out : List (List Int)) : withL at_ (l.take (i + 1)) out = (withL at_ (l.take i) out).set (rowIx at_ (rdP l i).1).toNat (rdP l i).2 := by
  have h : ∀ (r : List PutT) (x : PutT) (out : List (List Int)), withL at_ (r ++ [x]) out = (withL at_ r out).set (rowIx at_ x.1).toNat x.2 := by
    intro r x
    induction r with
    | nil => intro out; rfl
    | cons y r ih => intro out; exact ih _
  rw [List.take_add_one, rdP_get hi]
  exact h _ _ _
theorem rowsL_len (f : Int → List Int) (a n : Nat) : (rowsL f (a + 199 + n) (a : Int)).length = a + n := by rw [rowsL_all]; simp
end Go.Proofs.Ytmfndobdkihbnaa.Dk
