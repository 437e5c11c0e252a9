-- PRINTED BY print.sh 35421559b90ae4d0a3588c463048766b98c2df88dd9212a6774a882060cdf62d: not written by this session
import Derived.Test.YtcgcojdkkkfkdaaPGraphOrdersx0
namespace Go.Proofs.Ytcgcojdkkkfkdaa.PGraphOrders
open Go.RowKit Go.Proofs.YtcgcojdkkkfkdaaW.PrintWords Go.Proofs.YtcgcojdkkkfkdaaW.PrintLast Go.Proofs.YtcgcojdkkkfkdaaW.PrintMore
attribute [local go_sem] max2_int min2_int max_two min_two max_three min_three max_four min_four   -- for this text's walks alone
set_option linter.unusedVariables false
set_option linter.unusedSimpArgs false

/-! ### majordomolaw08_edge: function 28 -/
def majordomolaw08_edge.l0 : Nat → List (S52) → Int → Int → Int → Option (Bool)
  | 0, _, _, _, _ => none
  | k + 1, x0, x1, x2, x7 => if x7 < (x0.length : Int) then (if 0 ≤ x7 then (if ((rd_T52 x0 x7).f0) = x1 then (if ((rd_T52 x0 x7).f1) = x2 then (some true) else (majordomolaw08_edge.l0 k x0 x1 x2 (wrap64 (x7 + 1)))) else (majordomolaw08_edge.l0 k x0 x1 x2 (wrap64 (x7 + 1)))) else (none)) else (some false)
def majordomolaw08_edge.f (k : Nat) (l0 : List (S52)) (a1 : Int) (a2 : Int) : Option (Bool) := majordomolaw08_edge.l0 k l0 a1 a2 0
theorem majordomolaw08_edge.mono_l : ∀ k, (∀ y0 y1 y2 y3, LeO (majordomolaw08_edge.l0 k y0 y1 y2 y3) (majordomolaw08_edge.l0 (k + 1) y0 y1 y2 y3))
  | 0 => fun _ _ _ _ r h => by simp [majordomolaw08_edge.l0] at h
  | k + 1 => by
    have ih0 := majordomolaw08_edge.mono_l k
    · intro y0 y1 y2 y3
      unfold majordomolaw08_edge.l0
      repeat' first
      | (with_reducible exact ih0 _ _ _ _)
      | (with_reducible exact LeO.refl _)
      | (with_reducible exact LeO.none _)
      | (with_reducible refine LeO.ite ?_ ?_)
      | (with_reducible refine LeO.bind ?_ (fun _ => ?_))
      | exact ih0 _ _ _ _
      | exact LeO.none _
      | refine LeO.ite ?_ ?_
      | refine LeO.bind ?_ (fun _ => ?_)
theorem majordomolaw08_edge.mono : ∀ a0 a1 a2 k, LeO (majordomolaw08_edge.f k a0 a1 a2) (majordomolaw08_edge.f (k + 1) a0 a1 a2) := by
  intro a0 a1 a2 k
  have ih0 := majordomolaw08_edge.mono_l k
  unfold majordomolaw08_edge.f
  repeat' first
      | (with_reducible exact ih0 _ _ _ _)
      | (with_reducible exact LeO.refl _)
      | (with_reducible exact LeO.none _)
      | (with_reducible refine LeO.ite ?_ ?_)
      | (with_reducible refine LeO.bind ?_ (fun _ => ?_))
      | exact ih0 _ _ _ _
      | exact LeO.none _
      | refine LeO.ite ?_ ?_
      | refine LeO.bind ?_ (fun _ => ?_)
set_option maxHeartbeats 8000000 in
set_option maxRecDepth 100000 in
theorem majordomolaw08_edge.calls (k : Nat) (A0 : Option Addr) (c0 : Nat) (l0 : List (S52)) (a1 : Int) (a2 : Int) (r : Bool) (w : World) (hr0 : Kd.C k52 w A0 l0.length l0) (hc0 : l0.length ≤ c0) (h : majordomolaw08_edge.f k l0 a1 a2 = some r) :
    Calls Try.prog 28 #[.slice A0 l0.length c0, .int .i64 a1, .int .i64 a2] w fun e w' => e = .returned (.bool r) ∧ Drawn0 w w' := by
  have HR0 := Aside0.mk hr0
  have HC0 := Aside0.mk hc0
  clear hr0 hc0
  have H : (majordomolaw08_edge.l0 k l0 a1 a2 0) = some r := h
  clear h
  have H' := Aside0.mk H
  clear H
  go_enter Try.func28, Try.ntmps28
  go_wp2
  go_loopg [7] k (fun kq v7 w' => ∃ (x7_1 : Int), v7 = .int .i64 x7_1 ∧ Aside0 (majordomolaw08_edge.l0 kq l0 a1 a2 x7_1 = some r) ∧ Aside0 (kq ≤ k) ∧ Drawn0 w w')
  case atStart => exact ⟨(0), (by first | rfl | (simp; done) | (simp [*]; done)), H', ⟨Nat.le_refl _⟩, by repeat (first | exact Drawn0.refl _ | apply Drawn0.step)⟩
  case round =>
    clear H'
    try clear c2
    try clear p2
    obtain ⟨x7_1, rfl, HA, HK1, ⟨m1, rfl⟩⟩ := hrel
    cases gk with
    | zero => exact absurd HA.out (by simp [majordomolaw08_edge.l0])
    | succ k1 =>
      have H := HA.out
      clear HA
      simp only [majordomolaw08_edge.l0] at H
      by_cases c4 : x7_1 < (l0.length : Int)
      · rw [if_pos c4] at H
        have c4b0 : decide (x7_1 < (l0.length : Int)) = true := decide_eq_true c4
        clear c4
        by_cases c5 : 0 ≤ x7_1
        · rw [if_pos c5] at H
          have c5b0 : decide (0 ≤ x7_1) = true := decide_eq_true c5
          clear c5
          by_cases c6 : ((rd_T52 l0 x7_1).f0) = a1
          · rw [if_pos c6] at H
            have c6b0 : (((rd_T52 l0 x7_1).f0) == a1) = true := beq_iff_eq.mpr c6
            have c6b1 : (((rd_T52 l0 x7_1).f0) != a1) = false := bne_eq_false_iff_eq.mpr c6
            clear c6
            by_cases c7 : ((rd_T52 l0 x7_1).f1) = a2
            · rw [if_pos c7] at H
              have c7b0 : (((rd_T52 l0 x7_1).f1) == a2) = true := beq_iff_eq.mpr c7
              have c7b1 : (((rd_T52 l0 x7_1).f1) != a2) = false := bne_eq_false_iff_eq.mpr c7
              clear c7
              obtain rfl := Option.some.inj H
              have p129 : 0 ≤ (x7_1 : Int) := of_decide_eq_true (by first | (with_reducible assumption) | assumption)
              have q129 : x7_1 < (l0.length : Int) := of_decide_eq_true (by first | (with_reducible assumption) | assumption)
              obtain ⟨ad129, e129, hx129_0, hx129_1, hx129_2⟩ := at_T52 HR0.out x7_1 p129 q129
              cases e129
              replace p129 := eq_true p129
              replace q129 := eq_true q129
              have p130 : 0 ≤ (x7_1 : Int) := of_decide_eq_true (by first | (with_reducible assumption) | assumption)
              have q130 : x7_1 < (l0.length : Int) := of_decide_eq_true (by first | (with_reducible assumption) | assumption)
              obtain ⟨ad130, e130, hx130_0, hx130_1, hx130_2⟩ := at_T52 HR0.out x7_1 p130 q130
              obtain rfl : ad129 = ad130 := (by injection e130)
              replace p130 := eq_true p130
              replace q130 := eq_true q130
              go_wp2
              go_ret
              exact ⟨by first | rfl | (simp; done) | (simp [*]; done), by repeat (first | exact Drawn0.refl _ | apply Drawn0.step)⟩
            · rw [if_neg c7] at H
              have c7b0 : (((rd_T52 l0 x7_1).f1) == a2) = false := beq_eq_false_iff_ne.mpr c7
              have c7b1 : (((rd_T52 l0 x7_1).f1) != a2) = true := bne_iff_ne.mpr c7
              have H' := Aside0.mk H
              clear H
              have p129 : 0 ≤ (x7_1 : Int) := of_decide_eq_true (by first | (with_reducible assumption) | assumption)
              have q129 : x7_1 < (l0.length : Int) := of_decide_eq_true (by first | (with_reducible assumption) | assumption)
              obtain ⟨ad129, e129, hx129_0, hx129_1, hx129_2⟩ := at_T52 HR0.out x7_1 p129 q129
              cases e129
              replace p129 := eq_true p129
              replace q129 := eq_true q129
              have p130 : 0 ≤ (x7_1 : Int) := of_decide_eq_true (by first | (with_reducible assumption) | assumption)
              have q130 : x7_1 < (l0.length : Int) := of_decide_eq_true (by first | (with_reducible assumption) | assumption)
              obtain ⟨ad130, e130, hx130_0, hx130_1, hx130_2⟩ := at_T52 HR0.out x7_1 p130 q130
              obtain rfl : ad129 = ad130 := (by injection e130)
              replace p130 := eq_true p130
              replace q130 := eq_true q130
              go_wp2
              go_roundg k1
              case measure => have := HK1.out; omega
              case rel => exact ⟨(wrap64 (x7_1 + 1)), (by first | rfl | (simp; done) | (simp [*]; done)), H', ⟨by have := HK1.out; omega⟩, by repeat (first | exact Drawn0.refl _ | apply Drawn0.step)⟩
          · rw [if_neg c6] at H
            have c6b0 : (((rd_T52 l0 x7_1).f0) == a1) = false := beq_eq_false_iff_ne.mpr c6
            have c6b1 : (((rd_T52 l0 x7_1).f0) != a1) = true := bne_iff_ne.mpr c6
            have H' := Aside0.mk H
            clear H
            have p129 : 0 ≤ (x7_1 : Int) := of_decide_eq_true (by first | (with_reducible assumption) | assumption)
            have q129 : x7_1 < (l0.length : Int) := of_decide_eq_true (by first | (with_reducible assumption) | assumption)
            obtain ⟨ad129, e129, hx129_0, hx129_1, hx129_2⟩ := at_T52 HR0.out x7_1 p129 q129
            cases e129
            replace p129 := eq_true p129
            replace q129 := eq_true q129
            go_wp2
            go_roundg k1
            case measure => have := HK1.out; omega
            case rel => exact ⟨(wrap64 (x7_1 + 1)), (by first | rfl | (simp; done) | (simp [*]; done)), H', ⟨by have := HK1.out; omega⟩, by repeat (first | exact Drawn0.refl _ | apply Drawn0.step)⟩
        · rw [if_neg c5] at H
          exact absurd H (by simp)
      · rw [if_neg c4] at H
        have c4b0 : decide (x7_1 < (l0.length : Int)) = false := decide_eq_false c4
        clear c4
        obtain rfl := Option.some.inj H
        go_wp2
        go_ret
        exact ⟨by first | rfl | (simp; done) | (simp [*]; done), by repeat (first | exact Drawn0.refl _ | apply Drawn0.step)⟩

-- NOT PRINTED: function 4 (majordomolaw08_GraphOrders)

end Go.Proofs.Ytcgcojdkkkfkdaa.PGraphOrders
