/-
  What the printed functions of the reference of graph, and of package slices, compute: plain Lean.
-/
import Derived.Test.YtcgcojdkkkfkdaaGb
namespace Go.Proofs.Ytcgcojdkkkfkdaa
open Go.RowKit Go.Proofs.YtcgcojdkkkfkdaaW.PrintWords Go.Proofs.YtcgcojdkkkfkdaaW.PrintLast Go.Proofs.YtcgcojdkkkfkdaaW.PrintMore
open PGraphOrders
set_option linter.unusedVariables false
set_option linter.unusedSimpArgs false

theorem wrap_id {x : Int} (h0 : -9223372036854775808 ≤ x) (h1 : x ≤ 9223372036854775807) : wrap64 x = x := by unfold wrap64; omega

theorem rd_nat (l : List Int) (p : Nat) : rd l (p : Int) = l.getD p 0 := by simp [rd]

theorem idx_l0 (l : List Int) (a : Int) (hn : l.length ≤ 4611686018427387904) (d : Nat) : ∀ (k p : Nat), p + d = l.length → d < k →
    slices_Index_int_int.l0 k l a (l.length : Int) (p : Int) = some (if a ∈ l.drop p then (p : Int) + ((l.drop p).idxOf a : Nat) else -1) := by
  induction d with
  | zero =>
    intro k p hp hk
    obtain ⟨k, rfl⟩ : ∃ m, k = m + 1 := ⟨k - 1, by omega⟩
    simp only [slices_Index_int_int.l0]
    rw [if_neg (by omega), List.drop_of_length_le (by omega)]
    simp
  | succ d ih =>
    intro k p hp hk
    obtain ⟨k, rfl⟩ : ∃ m, k = m + 1 := ⟨k - 1, by omega⟩
    simp only [slices_Index_int_int.l0]
    have hlt : p < l.length := by omega
    rw [if_pos (by omega), if_pos (by omega), if_pos (by omega)]
    have hd : l.drop p = rd l p :: l.drop (p + 1) := by
      rw [List.drop_eq_getElem_cons hlt, rd_nat, List.getD_eq_getElem?_getD, List.getElem?_eq_getElem hlt]; rfl
    by_cases e : a = rd l p
    · rw [if_pos e, hd, ← e]; simp
    · rw [if_neg e]
      have h1 := ih k (p + 1) (by omega) (by omega)
      rw [wrap_id (by omega) (by omega)]
      have h2 : ((p : Int) + 1) = ((p + 1 : Nat) : Int) := by omega
      rw [h2, h1, hd]
      congr 1
      by_cases hm : a ∈ l.drop (p + 1)
      · rw [if_pos hm, if_pos (List.mem_cons_of_mem _ hm)]
        rw [List.idxOf_cons]
        have : (rd l p == a) = false := by simpa using fun h => e h.symm
        rw [this]; simp; omega
      · rw [if_neg hm, if_neg (by simp [e, hm])]

theorem idx_f (l : List Int) (a : Int) (hn : l.length ≤ 4611686018427387904) : slices_Index_int_int.f (l.length + 1) l a = some (if a ∈ l then ((l.idxOf a : Nat) : Int) else -1) := by
  have := idx_l0 l a hn l.length (l.length + 1) 0 (by omega) (by omega)
  simpa [slices_Index_int_int.f] using this
theorem cont_f (l : List Int) (a : Int) (hn : l.length ≤ 4611686018427387904) : slices_Contains_int_int.f (l.length + 1) l a = some (l.contains a) := by
  unfold slices_Contains_int_int.f
  rw [idx_f l a hn]
  simp only [Option.bind_some]
  by_cases h : a ∈ l
  · rw [if_pos h]; simp [h]
  · rw [if_neg h]; simp [h]

theorem getD_set' (l : List Int) (i : Nat) (v : Int) (q : Nat) (hi : i < l.length) : (l.set i v).getD q 0 = if q = i then v else l.getD q 0 := by
  rw [List.getD_eq_getElem?_getD, List.getD_eq_getElem?_getD, List.getElem?_set]
  by_cases e : i = q
  · subst e; simp [hi]
  · have : q ≠ i := fun h => e h.symm
    simp [e, this]

theorem rev_l0 (l : List Int) (hn : l.length ≤ 4611686018427387904) (d : Nat) : ∀ (k i : Nat) (x : List Int), x.length = l.length → i ≤ l.length → l.length - i = d → d < k →
    (∀ q, q < l.length → x.getD q 0 = if q < i ∨ l.length - i ≤ q then l.getD (l.length - 1 - q) 0 else l.getD q 0) →
    slices_Reverse_int_int.l0 k x (i : Int) ((l.length : Int) - 1 - i) = some l.reverse := by
  induction d with
  | zero =>
    intro k i x hx hi hd hk h
    obtain ⟨k, rfl⟩ : ∃ m, k = m + 1 := ⟨k - 1, by omega⟩
    simp only [slices_Reverse_int_int.l0]
    rw [if_neg (by omega)]
    congr 1
    refine List.ext_getElem (by simp [hx]) fun q h1 h2 => ?_
    have := h q (by omega)
    rw [if_pos (by omega), List.getD_eq_getElem?_getD, List.getElem?_eq_getElem h1, List.getD_eq_getElem?_getD, List.getElem?_eq_getElem (by omega)] at this
    simp at this
    rw [this, List.getElem_reverse]
  | succ d ih =>
    intro k i x hx hi hd hk h
    obtain ⟨k, rfl⟩ : ∃ m, k = m + 1 := ⟨k - 1, by omega⟩
    simp only [slices_Reverse_int_int.l0]
    by_cases hc : (i : Int) < (l.length : Int) - 1 - i
    · rw [if_pos hc, if_pos (by omega), if_pos (by omega), if_pos (by omega), if_pos (by omega), wrap_id (by omega) (by omega), wrap_id (by omega) (by omega)]
      have e1 : (i : Int) + 1 = ((i + 1 : Nat) : Int) := by omega
      have e2 : (l.length : Int) - 1 - i - 1 = (l.length : Int) - 1 - ((i + 1 : Nat) : Int) := by omega
      rw [e1, e2]
      have e3 : ((l.length : Int) - 1 - i).toNat = l.length - 1 - i := by omega
      refine ih k (i + 1) _ (by simp [hx]) (by omega) (by omega) (by omega) ?_
      intro q hq
      rw [e3, Int.toNat_natCast, getD_set' _ _ _ _ (by simp; omega), getD_set' _ _ _ _ (by omega)]
      have hj : rd x ((l.length : Int) - 1 - i) = x.getD (l.length - 1 - i) 0 := by unfold rd; rw [e3]
      rw [hj, rd_nat, h i (by omega), h (l.length - 1 - i) (by omega)]
      by_cases q1 : q = l.length - 1 - i
      · subst q1
        rw [if_pos rfl, if_neg (by omega), if_pos (by omega)]
        congr 1; omega
      · rw [if_neg q1]
        by_cases q2 : q = i
        · subst q2
          rw [if_pos rfl, if_neg (by omega), if_pos (by omega)]
        · rw [if_neg q2, h q hq]
          by_cases q3 : q < i ∨ l.length - i ≤ q
          · rw [if_pos q3, if_pos (by omega)]
          · rw [if_neg q3, if_neg (by omega)]
    · rw [if_neg hc]
      congr 1
      refine List.ext_getElem (by simp [hx]) fun q h1 h2 => ?_
      have := h q (by omega)
      rw [List.getElem_reverse]
      rw [List.getD_eq_getElem?_getD, List.getElem?_eq_getElem h1] at this
      simp only [Option.getD_some] at this
      rw [this]
      split
      · rw [List.getD_eq_getElem?_getD, List.getElem?_eq_getElem (by omega)]; rfl
      · have e : l.length - 1 - q = q := by omega
        rw [List.getD_eq_getElem?_getD, List.getElem?_eq_getElem (by omega)]
        simp [e]

theorem rev_f (l : List Int) (hn : l.length ≤ 4611686018427387904) : slices_Reverse_int_int.f (l.length + 1) l = some l.reverse := by
  unfold slices_Reverse_int_int.f
  rw [wrap_id (by omega) (by omega)]
  have := rev_l0 l hn l.length (l.length + 1) 0 l rfl (by omega) (by omega) (by omega) (fun q hq => by rw [if_neg (by omega)])
  simpa using this

theorem ints_l0 (a b : List Int) (hn : a.length ≤ 4611686018427387904) (he : a.length = b.length) (d : Nat) : ∀ (k p : Nat), p + d = a.length → d < k →
    majordomolaw08_ints.l0 k a b (p : Int) = some (decide (a.drop p = b.drop p)) := by
  induction d with
  | zero =>
    intro k p hp hk
    obtain ⟨k, rfl⟩ : ∃ m, k = m + 1 := ⟨k - 1, by omega⟩
    simp only [majordomolaw08_ints.l0]
    rw [if_neg (by omega), List.drop_of_length_le (by omega), List.drop_of_length_le (by omega)]
    simp
  | succ d ih =>
    intro k p hp hk
    obtain ⟨k, rfl⟩ : ∃ m, k = m + 1 := ⟨k - 1, by omega⟩
    simp only [majordomolaw08_ints.l0]
    rw [if_pos (by omega), if_pos (by omega), if_pos (by omega)]
    have hd : ∀ l : List Int, p < l.length → l.drop p = rd l p :: l.drop (p + 1) := fun l hlt => by
      rw [List.drop_eq_getElem_cons hlt, rd_nat, List.getD_eq_getElem?_getD, List.getElem?_eq_getElem hlt]; rfl
    rw [hd a (by omega), hd b (by omega)]
    by_cases e : rd a p = rd b p
    · rw [if_pos e, wrap_id (by omega) (by omega)]
      have h2 : ((p : Int) + 1) = ((p + 1 : Nat) : Int) := by omega
      rw [h2, ih k (p + 1) (by omega) (by omega)]
      simp [e]
    · rw [if_neg e]; simp [e]
theorem ints_f (a b : List Int) (hn : a.length ≤ 4611686018427387904) : majordomolaw08_ints.f (a.length + 1) a b = some (decide (a = b)) := by
  unfold majordomolaw08_ints.f
  by_cases h : a.length = b.length
  · rw [if_pos (by omega)]
    have := ints_l0 a b hn h a.length (a.length + 1) 0 (by omega) (by omega)
    simpa using this
  · rw [if_neg (by omega)]
    congr 1
    have : a ≠ b := fun e => h (by rw [e])
    simp [this]

/-! edges by the printed structure -/
def mk52 (x : Gr.E) : S52 := ⟨x.1, x.2.1, x.2.2⟩
theorem rd_mk (l : List Gr.E) (p : Nat) : rd_T52 (l.map mk52) (p : Int) = mk52 (rdE l p) := by
  unfold rd_T52 rdE
  simp only [Int.toNat_natCast, List.getD_eq_getElem?_getD, List.getElem?_map]
  cases l[p]? <;> rfl
theorem C_mk {w : World} {A : Option Addr} {n : Nat} {l : List Gr.E} (h : Kd.C kE w A n l) : Kd.C k52 w A n (l.map mk52) := by
  refine ⟨by rw [List.length_map]; exact h.1, h.2.1, fun hn => ?_⟩
  obtain ⟨ad, e, hc⟩ := h.2.2 hn
  refine ⟨ad, e, fun j p hp => ?_⟩
  rw [List.getElem?_map] at hp
  cases hx : l[j]? with
  | none => rw [hx] at hp; cases hp
  | some x =>
    rw [hx] at hp
    simp only [Option.map_some, Option.some.injEq] at hp
    subst hp
    exact hc j x hx

theorem drop_E (l : List Gr.E) (p : Nat) (h : p < l.length) : l.drop p = rdE l p :: l.drop (p + 1) := by
  unfold rdE
  rw [List.drop_eq_getElem_cons h, Int.toNat_natCast, List.getD_eq_getElem?_getD, List.getElem?_eq_getElem h]; rfl

theorem edge_l0 (l : List Gr.E) (a b : Int) (hn : l.length ≤ 4611686018427387904) (d : Nat) : ∀ (k p : Nat), p + d = l.length → d < k →
    majordomolaw08_edge.l0 k (l.map mk52) a b (p : Int) = some ((l.drop p).any fun x => decide (x.1 = a ∧ x.2.1 = b)) := by
  induction d with
  | zero =>
    intro k p hp hk
    obtain ⟨k, rfl⟩ : ∃ m, k = m + 1 := ⟨k - 1, by omega⟩
    simp only [majordomolaw08_edge.l0, List.length_map]
    rw [if_neg (by omega), List.drop_of_length_le (by omega)]
    simp
  | succ d ih =>
    intro k p hp hk
    obtain ⟨k, rfl⟩ : ∃ m, k = m + 1 := ⟨k - 1, by omega⟩
    simp only [majordomolaw08_edge.l0, List.length_map]
    have hlt : p < l.length := by omega
    rw [if_pos (by omega), if_pos (by omega), rd_mk, drop_E l p hlt, List.any_cons, wrap_id (by omega) (by omega)]
    have h2 : ((p : Int) + 1) = ((p + 1 : Nat) : Int) := by omega
    have h3 := ih k (p + 1) (by omega) (by omega)
    rw [h2, h3]
    by_cases e1 : (rdE l p).1 = a
    · rw [if_pos (show (mk52 (rdE l p)).f0 = a from e1)]
      by_cases e2 : (rdE l p).2.1 = b
      · rw [if_pos (show (mk52 (rdE l p)).f1 = b from e2)]; simp [e1, e2]
      · rw [if_neg (show ¬ (mk52 (rdE l p)).f1 = b from e2)]; simp [e2]
    · rw [if_neg (show ¬ (mk52 (rdE l p)).f0 = a from e1)]; simp [e1]
theorem edge_f (l : List Gr.E) (a b : Int) (hn : l.length ≤ 4611686018427387904) : majordomolaw08_edge.f (l.length + 1) (l.map mk52) a b = some (l.any fun x => decide (x.1 = a ∧ x.2.1 = b)) := by
  have := edge_l0 l a b hn l.length (l.length + 1) 0 (by omega) (by omega)
  simpa [majordomolaw08_edge.f] using this

/-! the reference's bad and Order -/
theorem rbad_l0 (n : Int) (l : List Gr.E) (hn : l.length ≤ 4611686018427387904) (d : Nat) : ∀ (k p : Nat), p + d = l.length → d < k →
    majordomoref08_bad.l0 k n (l.map mk52) (p : Int) = some ((l.drop p).any (Gr.badE n)) := by
  induction d with
  | zero =>
    intro k p hp hk
    obtain ⟨k, rfl⟩ : ∃ m, k = m + 1 := ⟨k - 1, by omega⟩
    simp only [majordomoref08_bad.l0, List.length_map]
    rw [if_neg (by omega), List.drop_of_length_le (by omega)]
    simp
  | succ d ih =>
    intro k p hp hk
    obtain ⟨k, rfl⟩ : ∃ m, k = m + 1 := ⟨k - 1, by omega⟩
    simp only [majordomoref08_bad.l0, List.length_map]
    have hlt : p < l.length := by omega
    rw [if_pos (by omega), if_pos (by omega), rd_mk, drop_E l p hlt, List.any_cons, wrap_id (by omega) (by omega)]
    have h2 : ((p : Int) + 1) = ((p + 1 : Nat) : Int) := by omega
    have h3 := ih k (p + 1) (by omega) (by omega)
    rw [h2, h3]
    simp only [Gr.badE]
    by_cases e1 : (rdE l p).1 < 0
    · rw [if_pos (show (mk52 (rdE l p)).f0 < 0 from e1)]
      have : min (rdE l p).1 (rdE l p).2.1 < 0 := by omega
      simp [this]
    · rw [if_neg (show ¬ (mk52 (rdE l p)).f0 < 0 from e1)]
      by_cases e2 : (rdE l p).1 ≥ n
      · rw [if_pos (show (mk52 (rdE l p)).f0 ≥ n from e2)]
        have : max (rdE l p).1 (rdE l p).2.1 ≥ n := by omega
        simp [this]
      · rw [if_neg (show ¬ (mk52 (rdE l p)).f0 ≥ n from e2)]
        by_cases e3 : (rdE l p).2.1 < 0
        · rw [if_pos (show (mk52 (rdE l p)).f1 < 0 from e3)]
          have : min (rdE l p).1 (rdE l p).2.1 < 0 := by omega
          simp [this]
        · rw [if_neg (show ¬ (mk52 (rdE l p)).f1 < 0 from e3)]
          by_cases e4 : (rdE l p).2.1 ≥ n
          · rw [if_pos (show (mk52 (rdE l p)).f1 ≥ n from e4)]
            have : max (rdE l p).1 (rdE l p).2.1 ≥ n := by omega
            simp [this]
          · rw [if_neg (show ¬ (mk52 (rdE l p)).f1 ≥ n from e4)]
            have h4 : ¬ min (rdE l p).1 (rdE l p).2.1 < 0 := by omega
            have h5 : ¬ max (rdE l p).1 (rdE l p).2.1 ≥ n := by omega
            rw [decide_eq_false h4, decide_eq_false h5]; simp
theorem rbad_f (n : Int) (l : List Gr.E) (hn : l.length ≤ 4611686018427387904) : majordomoref08_bad.f (l.length + 2) n (l.map mk52) = some (Gr.bad n l) := by
  have h := rbad_l0 n l hn l.length (l.length + 1) 0 (by omega) (by omega)
  simp only [List.drop_zero, Int.natCast_zero] at h
  unfold majordomoref08_bad.f Gr.bad
  by_cases h1 : n < 0
  · rw [if_pos h1]; simp [majordomoref08_bad.j0, h1]
  · rw [if_neg h1]
    simp only [majordomoref08_bad.j0]
    by_cases h2 : n > 32
    · simp [h1, h2]
    · simp only [h1, h2, decide_false, Bool.false_eq_true, if_false, Bool.false_or]
      exact h

theorem rdOf_nat (left : List Bool) (i : Int) : rdOf false left i = Gr.dn left i := rfl

section
variable (n : Nat) (l : List Gr.E) (hl : l.length ≤ 4611686018427387904) (hn : n ≤ 32) (hr : ∀ x ∈ l, 0 ≤ x.1 ∧ x.1 < (n : Int) ∧ 0 ≤ x.2.1 ∧ x.2.1 < (n : Int))
include hl hn hr

omit hn in
theorem rord_l3 (r : List Int × Int) (left : List Bool) (hleft : left.length = n) (out : List Int) (next i : Int) (d : Nat) : ∀ (p : Nat) (acc : Bool), p + d = l.length →
    (∃ k, majordomoref08_Order.l2 k n (l.map mk52) left out (if Gr.refFree (l.drop p) left i acc then i else next) (wrap64 (i - 1)) = some r) →
    ∃ k, majordomoref08_Order.l3 k n (l.map mk52) left out next i acc (p : Int) = some r := by
  induction d with
  | zero =>
    rintro p acc hp ⟨k, h⟩
    refine ⟨k + 1, ?_⟩
    simp only [majordomoref08_Order.l3, List.length_map]
    rw [if_neg (by omega)]
    rw [List.drop_of_length_le (by omega)] at h
    rw [show Gr.refFree [] left i acc = acc from rfl] at h
    cases acc
    · rw [if_neg (by simp)] at h ⊢; exact h
    · rw [if_pos rfl] at h ⊢; exact h
  | succ d ih =>
    intro p acc hp h
    have hlt : p < l.length := by omega
    have hx := hr _ (rdE_mem hlt)
    have h2 : wrap64 ((p : Int) + 1) = ((p + 1 : Nat) : Int) := by rw [wrap_id (by omega) (by omega)]; omega
    have key : ∀ acc', Gr.refFree (l.drop (p + 1)) left i acc' = Gr.refFree (l.drop p) left i acc → ∃ k, majordomoref08_Order.l3 k n (l.map mk52) left out next i acc' ((p + 1 : Nat) : Int) = some r := by
      intro acc' e
      refine ih (p + 1) acc' (by omega) ?_
      rw [e]; exact h
    have step : Gr.refFree (l.drop p) left i acc = Gr.refFree (l.drop (p + 1)) left i (acc && !(decide ((rdE l p).2.1 = i) && Gr.dn left (rdE l p).1)) := by
      rw [drop_E l p hlt]; rfl
    cases acc
    · obtain ⟨k, hk⟩ := key false (by rw [step]; rfl)
      refine ⟨k + 1, ?_⟩
      simp only [majordomoref08_Order.l3, List.length_map]
      rw [if_pos (by omega), if_neg (by simp), h2]
      exact hk
    · by_cases e1 : (rdE l p).2.1 = i
      · obtain ⟨k, hk⟩ := key (!(Gr.dn left (rdE l p).1)) (by rw [step]; simp [e1])
        refine ⟨k + 1, ?_⟩
        simp only [majordomoref08_Order.l3, List.length_map, rd_mk]
        rw [if_pos (by omega), if_pos trivial, if_pos (by omega), if_pos (show (mk52 (rdE l p)).f1 = i from e1), if_pos (show 0 ≤ (mk52 (rdE l p)).f0 from hx.1), if_pos (show (mk52 (rdE l p)).f0 < _ by show (rdE l p).1 < _; omega), h2]
        exact hk
      · obtain ⟨k, hk⟩ := key true (by rw [step]; simp [e1])
        refine ⟨k + 1, ?_⟩
        simp only [majordomoref08_Order.l3, List.length_map, rd_mk]
        rw [if_pos (by omega), if_pos trivial, if_pos (by omega), if_neg (show ¬ (mk52 (rdE l p)).f1 = i from e1), h2]
        exact hk

theorem rord_l2 (r : List Int × Int) (left : List Bool) (hleft : left.length = n) (out : List Int) (m : Nat) : ∀ (next : Int), m ≤ n →
    (∃ k, (if Gr.refScan l left m next < 0 then some (([] : List Int), (80 : Int)) else if 0 ≤ Gr.refScan l left m next then if Gr.refScan l left m next < (left.length : Int) then if out.length < 17592186044416 then majordomoref08_Order.l1 k n (l.map mk52) (left.set (Gr.refScan l left m next).toNat false) (out ++ [Gr.refScan l left m next]) else none else none else none) = some r) →
    ∃ k, majordomoref08_Order.l2 k n (l.map mk52) left out next ((m : Int) - 1) = some r := by
  induction m with
  | zero =>
    rintro next hm ⟨k, h⟩
    refine ⟨k + 1, ?_⟩
    simp only [majordomoref08_Order.l2]
    rw [if_neg (by omega)]
    exact h
  | succ m ih =>
    intro next hm h
    have hi : ((m + 1 : Nat) : Int) - 1 = (m : Int) := by omega
    rw [hi]
    obtain ⟨k, hk⟩ := rord_l3 n l hl hr r left hleft out next (m : Int) l.length 0 (Gr.dn left m) (by omega) (by
      rw [List.drop_zero, wrap_id (by omega) (by omega)]
      exact ih _ (by omega) h)
    refine ⟨k + 1, ?_⟩
    simp only [majordomoref08_Order.l2]
    rw [if_pos (by omega), if_pos (by omega), if_pos (by omega)]
    exact hk

theorem rord_l1 (f : Nat) : ∀ (left : List Bool) (out : List Int), left.length = n → f + out.length = n →
    ∃ k, majordomoref08_Order.l1 k n (l.map mk52) left out = some (Gr.refOrd l n f left out) := by
  induction f with
  | zero =>
    intro left out h1 h2
    refine ⟨1, ?_⟩
    simp only [majordomoref08_Order.l1]
    rw [if_neg (by omega)]; rfl
  | succ f ih =>
    intro left out h1 h2
    have hsc : Gr.refScan l left n (-1) < n := by
      rcases Gr.refScan_least (l := l) (left := left) (fun i => Gr.refFree l left i (Gr.dn left i) = true) (fun i => Iff.rfl) n (-1) with ⟨_, h⟩ | ⟨_, h, _⟩ <;> omega
    obtain ⟨k, hk⟩ := rord_l2 n l hl hn hr (Gr.refOrd l n (f + 1) left out) left h1 out n (-1) (Nat.le_refl _) (by
      unfold Gr.refOrd
      simp only
      by_cases hneg : Gr.refScan l left n (-1) < 0
      · exact ⟨0, by rw [if_pos hneg, if_pos hneg]⟩
      · obtain ⟨k, hk⟩ := ih (left.set (Gr.refScan l left n (-1)).toNat false) (out ++ [Gr.refScan l left n (-1)]) (by simpa using h1) (by simp; omega)
        exact ⟨k, by rw [if_neg hneg, if_neg hneg, if_pos (by omega), if_pos (by omega), if_pos (by omega)]; exact hk⟩)
    refine ⟨k + 1, ?_⟩
    simp only [majordomoref08_Order.l1]
    rw [if_pos (by omega), wrap_id (by omega) (by omega)]
    exact hk

theorem rord_l0 (d : Nat) : ∀ (left : List Bool) (p : Nat), left.length = n → p + d = n → (∀ j, j < p → left.getD j false = true) →
    ∃ k, majordomoref08_Order.l0 k n (l.map mk52) left (p : Int) = some (Gr.refOrd l n n (List.replicate n true) []) := by
  induction d with
  | zero =>
    intro left p h1 h2 h3
    have : left = List.replicate n true := by
      refine List.ext_getElem (by simp [h1]) fun q q1 q2 => ?_
      have := h3 q (by omega)
      rw [List.getD_eq_getElem?_getD, List.getElem?_eq_getElem q1] at this
      simpa using this
    subst this
    obtain ⟨k, hk⟩ := rord_l1 n l hl hn hr n (List.replicate n true) [] (by simp) (by simp)
    refine ⟨k + 1, ?_⟩
    simp only [majordomoref08_Order.l0]
    rw [if_neg (by omega)]
    exact hk
  | succ d ih =>
    intro left p h1 h2 h3
    obtain ⟨k, hk⟩ := ih (left.set p true) (p + 1) (by simpa using h1) (by omega) (fun j hj => by
      rw [List.getD_eq_getElem?_getD, List.getElem?_set]
      by_cases e : p = j
      · subst e; rw [if_pos rfl, if_pos (by omega)]; rfl
      · simp only [e, if_false]; rw [← List.getD_eq_getElem?_getD]; exact h3 j (by omega))
    refine ⟨k + 1, ?_⟩
    simp only [majordomoref08_Order.l0]
    rw [if_pos (by omega), if_pos (by omega), if_pos (by omega), wrap_id (by omega) (by omega), Int.toNat_natCast]
    exact hk
end

theorem rord_f (n : Int) (l : List Gr.E) (hl : l.length ≤ 4611686018427387904) : ∃ k, majordomoref08_Order.f k n (l.map mk52) = some (Gr.refOrder n l) := by
  unfold Gr.refOrder
  cases hb : Gr.bad n l
  · obtain ⟨h0, h1, h2⟩ := Gr.bad_false hb
    obtain ⟨m, rfl⟩ := Int.eq_ofNat_of_zero_le h0
    obtain ⟨k, hk⟩ := rord_l0 m l hl (by omega) (fun x hx => h2 x hx) m (List.replicate m false) 0 (by simp) (by omega) (by intro j hj; omega)
    have hkk := majordomoref08_Order.mono_l
    refine ⟨max k (l.length + 2), ?_⟩
    unfold majordomoref08_Order.f
    rw [at_rounds (g := fun k => majordomoref08_bad.f k m (l.map mk52)) (fun k => majordomoref08_bad.mono _ _ k) (Nat.le_max_right k (l.length + 2)) (rbad_f m l hl), hb]
    simp only [Option.bind_some, Bool.false_eq_true, if_false]
    rw [if_pos (by omega), if_pos (by omega)]
    simp only [Int.toNat_natCast]
    exact at_rounds (g := fun k => majordomoref08_Order.l0 k m (l.map mk52) (List.replicate m false) 0) (fun k => (majordomoref08_Order.mono_l k).1 _ _ _ _) (Nat.le_max_left k (l.length + 2)) hk
  · refine ⟨l.length + 2, ?_⟩
    unfold majordomoref08_Order.f
    rw [rbad_f n l hl, hb]
    rfl
end Go.Proofs.Ytcgcojdkkkfkdaa
