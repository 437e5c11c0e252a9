/-
  What the printed Behind of the reference of graph computes: plain Lean.
-/
import Derived.Test.YtcgcojdkkkfkdaaPGraphBehindx
import Derived.Test.YtcgcojdkkkfkdaaGf
namespace Go.Proofs.Ytcgcojdkkkfkdaa
namespace BehindRef
open Go.RowKit Go.Proofs.YtcgcojdkkkfkdaaW.PrintWords Go.Proofs.YtcgcojdkkkfkdaaW.PrintLast Go.Proofs.YtcgcojdkkkfkdaaW.PrintMore
open PGraphBehind
set_option linter.unusedVariables false
set_option linter.unusedSimpArgs false

def mkB (x : Gr.E) : S52 := ⟨x.1, x.2.1, x.2.2⟩
theorem rd_mk (l : List Gr.E) (p : Nat) : rd_T52 (l.map mkB) (p : Int) = mkB (rdE l p) := by
  unfold rd_T52 rdE
  simp only [Int.toNat_natCast, List.getD_eq_getElem?_getD, List.getElem?_map]
  cases l[p]? <;> rfl
theorem C_mk {w : World} {A : Option Addr} {n : Nat} {l : List Gr.E} (h : Kd.C kE w A n l) : Kd.C k52 w A n (l.map mkB) := by
  refine ⟨by rw [List.length_map]; exact h.1, h.2.1, fun hn => ?_⟩
  obtain ⟨ad, e, hc⟩ := h.2.2 hn
  refine ⟨ad, e, fun j p hp => ?_⟩
  rw [List.getElem?_map] at hp
  cases hx : l[j]? with
  | none => rw [hx] at hp; cases hp
  | some x =>
    rw [hx] at hp
    simp only [Option.map_some, Option.some.injEq] at hp
    subst hp
    exact hc j x hx

theorem rbad_l0 (n : Int) (l : List Gr.E) (hn : l.length ≤ 4611686018427387904) (d : Nat) : ∀ (k p : Nat), p + d = l.length → d < k →
    majordomoref08_bad.l0 k n (l.map mkB) (p : Int) = some ((l.drop p).any (Gr.badE n)) := by
  induction d with
  | zero =>
    intro k p hp hk
    obtain ⟨k, rfl⟩ : ∃ m, k = m + 1 := ⟨k - 1, by omega⟩
    simp only [majordomoref08_bad.l0, List.length_map]
    rw [if_neg (by omega), List.drop_of_length_le (by omega)]
    simp
  | succ d ih =>
    intro k p hp hk
    obtain ⟨k, rfl⟩ : ∃ m, k = m + 1 := ⟨k - 1, by omega⟩
    simp only [majordomoref08_bad.l0, List.length_map]
    have hlt : p < l.length := by omega
    rw [if_pos (by omega), if_pos (by omega), rd_mk, drop_E0 l p hlt, List.any_cons, wrap_id (by omega) (by omega)]
    have h2 : ((p : Int) + 1) = ((p + 1 : Nat) : Int) := by omega
    have h3 := ih k (p + 1) (by omega) (by omega)
    rw [h2, h3]
    simp only [Gr.badE]
    by_cases e1 : (rdE l p).1 < 0
    · rw [if_pos (show (mkB (rdE l p)).f0 < 0 from e1)]
      have : min (rdE l p).1 (rdE l p).2.1 < 0 := by omega
      simp [this]
    · rw [if_neg (show ¬ (mkB (rdE l p)).f0 < 0 from e1)]
      by_cases e2 : (rdE l p).1 ≥ n
      · rw [if_pos (show (mkB (rdE l p)).f0 ≥ n from e2)]
        have : max (rdE l p).1 (rdE l p).2.1 ≥ n := by omega
        simp [this]
      · rw [if_neg (show ¬ (mkB (rdE l p)).f0 ≥ n from e2)]
        by_cases e3 : (rdE l p).2.1 < 0
        · rw [if_pos (show (mkB (rdE l p)).f1 < 0 from e3)]
          have : min (rdE l p).1 (rdE l p).2.1 < 0 := by omega
          simp [this]
        · rw [if_neg (show ¬ (mkB (rdE l p)).f1 < 0 from e3)]
          by_cases e4 : (rdE l p).2.1 ≥ n
          · rw [if_pos (show (mkB (rdE l p)).f1 ≥ n from e4)]
            have : max (rdE l p).1 (rdE l p).2.1 ≥ n := by omega
            simp [this]
          · rw [if_neg (show ¬ (mkB (rdE l p)).f1 ≥ n from e4)]
            have h4 : ¬ min (rdE l p).1 (rdE l p).2.1 < 0 := by omega
            have h5 : ¬ max (rdE l p).1 (rdE l p).2.1 ≥ n := by omega
            rw [decide_eq_false h4, decide_eq_false h5]; simp
theorem rbad_f (n : Int) (l : List Gr.E) (hn : l.length ≤ 4611686018427387904) : majordomoref08_bad.f (l.length + 2) n (l.map mkB) = some (Gr.bad n l) := by
  have h := rbad_l0 n l hn l.length (l.length + 1) 0 (by omega) (by omega)
  simp only [List.drop_zero, Int.natCast_zero] at h
  unfold majordomoref08_bad.f Gr.bad
  by_cases h1 : n < 0
  · rw [if_pos h1]; simp [majordomoref08_bad.j0, h1]
  · rw [if_neg h1]
    simp only [majordomoref08_bad.j0]
    by_cases h2 : n > 32
    · simp [h1, h2]
    · simp only [h1, h2, decide_false, Bool.false_eq_true, if_false, Bool.false_or]
      exact h

section
variable (n : Nat) (l : List Gr.E) (hl : l.length ≤ 4611686018427387904) (hn : n ≤ 32) (hr : ∀ x ∈ l, 0 ≤ x.1 ∧ x.1 < (n : Int) ∧ 0 ≤ x.2.1 ∧ x.2.1 < (n : Int)) (a : Int)
include hn in
theorem l2_ (s : List Bool) (hs : s.length = n) (d : Nat) : ∀ (p : Nat), p + d = n → ∃ k, majordomoref08_Behind.l2 k n s (Gr.collect s p) (p : Int) = some (Gr.collect s n) := by
  induction d with
  | zero =>
    intro p hp
    refine ⟨1, ?_⟩
    simp only [majordomoref08_Behind.l2]
    rw [if_neg (by omega), show p = n by omega]
  | succ d ih =>
    intro p hp
    obtain ⟨k, hk⟩ := ih (p + 1) (by omega)
    rw [collect_succ] at hk
    refine ⟨k + 1, ?_⟩
    have hcl := collect_len s p
    simp only [majordomoref08_Behind.l2]
    rw [if_pos (by omega), if_pos (by omega), if_pos (by omega), wrap_id (by omega) (by omega)]
    have hrd : rdOf false s (p : Int) = Gr.dn s (p : Int) := rfl
    cases hd : Gr.dn s (p : Int)
    · rw [hd] at hk hrd
      rw [if_neg (by rw [hrd]; simp)]
      simpa using hk
    · rw [hd] at hk hrd
      rw [if_pos hrd, if_pos (by omega)]
      exact hk

include hl hr in
theorem l1_ (r : List Int) (t : Int) (d : Nat) : ∀ (p : Nat) (s : List Bool), p + d = l.length → s.length = n →
    (∃ k, majordomoref08_Behind.l0 k n (l.map mkB) a (Gr.refTurn (l.drop p) a s) (wrap64 (t + 1)) = some r) → ∃ k, majordomoref08_Behind.l1 k n (l.map mkB) a s t (p : Int) = some r := by
  induction d with
  | zero =>
    rintro p s hp hs ⟨k, h⟩
    refine ⟨k + 1, ?_⟩
    simp only [majordomoref08_Behind.l1, List.length_map]
    rw [if_neg (by omega)]
    rw [List.drop_of_length_le (by omega)] at h
    exact h
  | succ d ih =>
    intro p s hp hs h
    have hlt : p < l.length := by omega
    have hx := hr _ (rdE_mem hlt)
    have h2 : wrap64 ((p : Int) + 1) = ((p + 1 : Nat) : Int) := by rw [wrap_id (by omega) (by omega)]; omega
    have step : Gr.refTurn (l.drop p) a s = Gr.refTurn (l.drop (p + 1)) a (Gr.refEdge a s (rdE l p)) := by
      rw [drop_E0 l p hlt]; rfl
    rw [step] at h
    obtain ⟨k, hk⟩ := ih (p + 1) (Gr.refEdge a s (rdE l p)) (by omega) (by unfold Gr.refEdge; split <;> simp [hs]) h
    refine ⟨k + 1, ?_⟩
    simp only [majordomoref08_Behind.l1, List.length_map, rd_mk]
    rw [if_pos (by omega), if_pos (by omega), h2]
    by_cases e1 : (rdE l p).1 = a
    · rw [if_pos (show (mkB (rdE l p)).f0 = a from e1), if_pos (show 0 ≤ (mkB (rdE l p)).f1 from hx.2.2.1), if_pos (show (mkB (rdE l p)).f1 < _ by show (rdE l p).2.1 < _; omega)]
      unfold Gr.refEdge at hk
      rw [if_pos (.inl e1)] at hk
      exact hk
    · rw [if_neg (show ¬ (mkB (rdE l p)).f0 = a from e1), if_pos (show 0 ≤ (mkB (rdE l p)).f0 from hx.1), if_pos (show (mkB (rdE l p)).f0 < _ by show (rdE l p).1 < _; omega)]
      have hrd : rdOf false s (mkB (rdE l p)).f0 = Gr.dn s (rdE l p).1 := rfl
      unfold Gr.refEdge at hk
      cases hd : Gr.dn s (rdE l p).1
      · rw [hd] at hrd
        rw [if_neg (by rw [hd]; simp [e1])] at hk
        rw [if_neg (by rw [hrd]; simp)]
        exact hk
      · rw [hd] at hrd
        rw [if_pos (.inr hd)] at hk
        rw [if_pos hrd, if_pos (show 0 ≤ (mkB (rdE l p)).f1 from hx.2.2.1), if_pos (show (mkB (rdE l p)).f1 < _ by show (rdE l p).2.1 < _; omega)]
        exact hk

theorem turn_len (m : List Gr.E) (a : Int) : ∀ s : List Bool, (Gr.refTurn m a s).length = s.length := by
  induction m with
  | nil => intro s; rfl
  | cons x r ih =>
    intro s
    show (Gr.refTurn r a (Gr.refEdge a s x)).length = _
    rw [ih]; unfold Gr.refEdge; split <;> simp

include hl hn hr in
theorem l0_ (d : Nat) : ∀ (t : Nat) (s : List Bool), t + d = n + 1 → s.length = n →
    ∃ k, majordomoref08_Behind.l0 k n (l.map mkB) a s (t : Int) = some (Gr.collect (Gr.refTurns l a d s) n) := by
  induction d with
  | zero =>
    intro t s ht hs
    obtain ⟨k, hk⟩ := l2_ n hn s hs n 0 (by omega)
    refine ⟨k + 1, ?_⟩
    simp only [majordomoref08_Behind.l0]
    rw [if_neg (by omega)]
    exact hk
  | succ d ih =>
    intro t s ht hs
    obtain ⟨k, hk⟩ := ih (t + 1) (Gr.refTurn l a s) (by omega) (by rw [turn_len, hs])
    obtain ⟨k2, hk2⟩ := l1_ n l hl hr a (Gr.collect (Gr.refTurns l a (d + 1) s) n) (t : Int) l.length 0 s (by omega) hs ⟨k, by
      rw [List.drop_zero, wrap_id (by omega) (by omega)]; exact hk⟩
    refine ⟨k2 + 1, ?_⟩
    simp only [majordomoref08_Behind.l0]
    rw [if_pos (by omega)]
    exact hk2
end

theorem rbehind_f (n : Int) (l : List Gr.E) (a : Int) (hl : l.length ≤ 4611686018427387904) : ∃ k, majordomoref08_Behind.f k n (l.map mkB) a = some (Gr.refBehind n l a) := by
  unfold Gr.refBehind
  have j0t : ∀ k, majordomoref08_Behind.j0 (k + 1) n (l.map mkB) a true = some [] := fun k => by simp [majordomoref08_Behind.j0]
  cases hb : Gr.bad n l
  · obtain ⟨h0, h1, h2⟩ := Gr.bad_false hb
    by_cases ha : a < 0
    · rw [if_pos (by simp [ha])]
      refine ⟨l.length + 2, ?_⟩
      unfold majordomoref08_Behind.f
      rw [rbad_f n l hl, hb]
      simp only [Option.bind_some, Bool.false_eq_true, if_false]
      rw [if_pos ha]; exact j0t _
    · by_cases ha2 : n ≤ a
      · rw [if_pos (by simp [ha2])]
        refine ⟨l.length + 2, ?_⟩
        unfold majordomoref08_Behind.f
        rw [rbad_f n l hl, hb]
        simp only [Option.bind_some, Bool.false_eq_true, if_false]
        rw [if_neg ha, decide_eq_true (show a ≥ n from ha2)]; exact j0t _
      · rw [if_neg (by simp [ha, ha2])]
        obtain ⟨m, rfl⟩ := Int.eq_ofNat_of_zero_le h0
        obtain ⟨k, hk⟩ := l0_ m l hl (by omega) (fun x hx => h2 x hx) a (m + 1) 0 (List.replicate m false) (by omega) (by simp)
        refine ⟨max k (l.length + 2) + 1, ?_⟩
        unfold majordomoref08_Behind.f
        rw [at_rounds (g := fun k => majordomoref08_bad.f k m (l.map mkB)) (fun k => majordomoref08_bad.mono _ _ k) (show l.length + 2 ≤ max k (l.length + 2) + 1 by omega) (rbad_f m l hl), hb]
        simp only [Option.bind_some, Bool.false_eq_true, if_false]
        rw [if_neg ha, decide_eq_false (show ¬ a ≥ (m : Int) from ha2)]
        simp only [majordomoref08_Behind.j0, Bool.false_eq_true, if_false]
        rw [if_pos (by omega), if_pos (by omega)]
        simp only [Int.toNat_natCast]
        exact at_rounds (g := fun k => majordomoref08_Behind.l0 k m (l.map mkB) a (List.replicate m false) 0) (fun k => (majordomoref08_Behind.mono_l k).2.1 _ _ _ _ _) (Nat.le_max_left k (l.length + 2)) hk
  · rw [if_pos (by simp)]
    refine ⟨l.length + 2, ?_⟩
    unfold majordomoref08_Behind.f
    rw [rbad_f n l hl, hb]
    simp only [Option.bind_some, if_true]
    exact j0t _
end BehindRef
end Go.Proofs.Ytcgcojdkkkfkdaa
