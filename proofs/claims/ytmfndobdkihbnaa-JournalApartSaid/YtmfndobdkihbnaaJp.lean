/-
  Writes one behind the other: plain.
-/
import Derived.Test.YtmfndobdkihbnaaJc
namespace Go.Proofs.Ytmfndobdkihbnaa.Dk
open Go.RowKit
set_option linter.unusedVariables false

/-- Writes, up to the first that is refused. -/
def wrs (s : FS) : List (Int × List Int) → FS × Int
  | [] => (s, 0)
  | (i, bs) :: r => if (s.write i bs).2 = 0 then wrs (s.write i bs).1 r else s.write i bs
theorem wrs_ok {s : FS} {i : Int} {bs : List Int} {r : List (Int × List Int)} (h : (s.write i bs).2 = 0) : wrs s ((i, bs) :: r) = wrs (s.write i bs).1 r := by
  rw [wrs, if_pos h]
theorem wrs_no {s : FS} {i : Int} {bs : List Int} {r : List (Int × List Int)} (h : (s.write i bs).2 ≠ 0) : wrs s ((i, bs) :: r) = s.write i bs := by
  rw [wrs, if_neg h]
theorem wrs_append (s : FS) (a b : List (Int × List Int)) : wrs s (a ++ b) = if (wrs s a).2 = 0 then wrs (wrs s a).1 b else wrs s a := by
  induction a generalizing s with
  | nil => simp [wrs]
  | cons x r ih =>
    obtain ⟨i, bs⟩ := x
    by_cases h : (s.write i bs).2 = 0
    · rw [List.cons_append, wrs_ok h, wrs_ok h, ih]
    · rw [List.cons_append, wrs_no h, wrs_no h, if_neg h]
/-- What blocks hold behind writes. -/
def puts (f : Int → List Int) : List (Int × List Int) → Int → List Int
  | [] => f
  | (i, bs) :: r => puts (upd f i bs) r
theorem puts_append (f : Int → List Int) (a b : List (Int × List Int)) : puts f (a ++ b) = puts (puts f a) b := by
  induction a generalizing f with
  | nil => rfl
  | cons x r ih => obtain ⟨i, bs⟩ := x; exact ih _
theorem puts_far (f : Int → List Int) (l : List (Int × List Int)) (k : Int) (h : ∀ x ∈ l, x.1 ≠ k) : puts f l k = f k := by
  induction l generalizing f with
  | nil => rfl
  | cons x r ih =>
    obtain ⟨i, bs⟩ := x
    rw [puts, ih _ (fun y hy => h y (List.mem_cons_of_mem _ hy))]
    have := h (i, bs) (List.mem_cons_self ..)
    unfold upd
    rw [if_neg (fun e => this e.symm)]
/-- Writes that a disk of so many blocks takes. -/
def Valid (len : Int) (l : List (Int × List Int)) : Prop := ∀ x ∈ l, 0 ≤ x.1 ∧ x.1 < len ∧ x.2.length = 64
/-- On a disk that is on: some of the writes are done, in their order; all of them and it is on still, or not all and it is off. -/
theorem wrs_spec (s : FS) (l : List (Int × List Int)) (hon : s.off = false) (hv : Valid s.len l) :
    (wrs s l).1.len = s.len ∧ ∃ j, j ≤ l.length ∧ (wrs s l).1.has = puts s.has (l.take j) ∧ ((j = l.length ∧ (wrs s l).2 = 0 ∧ (wrs s l).1.off = false) ∨ (j < l.length ∧ (wrs s l).2 = 2 ∧ (wrs s l).1.off = true)) := by
  induction l generalizing s with
  | nil => exact ⟨rfl, 0, Nat.le_refl _, rfl, .inl ⟨rfl, rfl, hon⟩⟩
  | cons x r ih =>
    obtain ⟨i, bs⟩ := x
    obtain ⟨h0, h1, h2⟩ := hv (i, bs) (List.mem_cons_self ..)
    have hck : s.check i = 0 := check_on hon h0 h1
    by_cases hf : s.fuse = 0
    · have hw : s.write i bs = ({ s with off := true, fuse := -1 }, 2) := by unfold FS.write; rw [if_pos hck, if_pos h2, if_pos hf]
      simp only [wrs, hw]
      refine ⟨rfl, 0, Nat.zero_le _, rfl, .inr ⟨by simp, rfl, rfl⟩⟩
    · obtain ⟨s2, hs2⟩ : ∃ s2 : FS, s2 = { s with has := upd s.has i bs, fuse := if 0 < s.fuse then wrap64 (s.fuse - 1) else s.fuse, writes := wrap64 (s.writes + 1) } := ⟨_, rfl⟩
      have hw : s.write i bs = (s2, 0) := by rw [hs2]; unfold FS.write; rw [if_pos hck, if_pos h2, if_neg hf]
      have e1 : s2.len = s.len := by rw [hs2]
      have e2 : s2.has = upd s.has i bs := by rw [hs2]
      have e3 : s2.off = false := by rw [hs2]; exact hon
      obtain ⟨g1, j, g2, g3, g4⟩ := ih s2 e3 (by rw [e1]; exact fun y hy => hv y (List.mem_cons_of_mem _ hy))
      have hwr : wrs s ((i, bs) :: r) = wrs s2 r := by simp only [wrs, hw]; rfl
      rw [hwr]
      refine ⟨g1.trans e1, j + 1, by simpa using g2, ?_, ?_⟩
      · rw [g3, e2]; rfl
      · rcases g4 with ⟨a, b, c⟩ | ⟨a, b, c⟩
        · exact .inl ⟨by simp [a], b, c⟩
        · exact .inr ⟨by simpa using a, b, c⟩
end Go.Proofs.Ytmfndobdkihbnaa.Dk
