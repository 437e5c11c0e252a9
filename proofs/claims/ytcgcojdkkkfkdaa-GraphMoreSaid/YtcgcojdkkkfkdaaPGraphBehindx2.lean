-- PRINTED BY print.sh 35421559b90ae4d0a3588c463048766b98c2df88dd9212a6774a882060cdf62d: not written by this session
import Derived.Test.YtcgcojdkkkfkdaaPGraphBehindx0
namespace Go.Proofs.Ytcgcojdkkkfkdaa.PGraphBehind
open Go.RowKit Go.Proofs.YtcgcojdkkkfkdaaW.PrintWords Go.Proofs.YtcgcojdkkkfkdaaW.PrintLast Go.Proofs.YtcgcojdkkkfkdaaW.PrintMore
attribute [local go_sem] max2_int min2_int max_two min_two max_three min_three max_four min_four   -- for this text's walks alone
set_option linter.unusedVariables false
set_option linter.unusedSimpArgs false

/-! ### majordomoref08_bad: function 40 -/
mutual
def majordomoref08_bad.j0 : Nat → Int → List (S52) → Bool → Option (Bool)
  | 0, _, _, _ => none
  | k + 1, x0, x1, x11 => if x11 = true then (some true) else (majordomoref08_bad.l0 k x0 x1 0)
def majordomoref08_bad.l0 : Nat → Int → List (S52) → Int → Option (Bool)
  | 0, _, _, _ => none
  | k + 1, x0, x1, x5 => if x5 < (x1.length : Int) then (if 0 ≤ x5 then (if ((rd_T52 x1 x5).f0) < 0 then (some true) else (if ((rd_T52 x1 x5).f0) ≥ x0 then (some true) else (if ((rd_T52 x1 x5).f1) < 0 then (some true) else (if ((rd_T52 x1 x5).f1) ≥ x0 then (some true) else (majordomoref08_bad.l0 k x0 x1 (wrap64 (x5 + 1))))))) else (none)) else (some false)
end
def majordomoref08_bad.f (k : Nat) (a0 : Int) (l1 : List (S52)) : Option (Bool) := if a0 < 0 then (majordomoref08_bad.j0 k a0 l1 true) else (majordomoref08_bad.j0 k a0 l1 (decide (a0 > 32)))
theorem majordomoref08_bad.mono_l : ∀ k, (∀ y0 y1 y2, LeO (majordomoref08_bad.j0 k y0 y1 y2) (majordomoref08_bad.j0 (k + 1) y0 y1 y2)) ∧ (∀ y0 y1 y2, LeO (majordomoref08_bad.l0 k y0 y1 y2) (majordomoref08_bad.l0 (k + 1) y0 y1 y2))
  | 0 => ⟨fun _ _ _ r h => by simp [majordomoref08_bad.j0] at h, fun _ _ _ r h => by simp [majordomoref08_bad.l0] at h⟩
  | k + 1 => by
    obtain ⟨ih0, ih1⟩ := majordomoref08_bad.mono_l k
    refine ⟨?_, ?_⟩
    · intro y0 y1 y2
      unfold majordomoref08_bad.j0
      repeat' first
      | (with_reducible exact ih0 _ _ _)
      | (with_reducible exact ih1 _ _ _)
      | (with_reducible exact LeO.refl _)
      | (with_reducible exact LeO.none _)
      | (with_reducible refine LeO.ite ?_ ?_)
      | (with_reducible refine LeO.bind ?_ (fun _ => ?_))
      | exact ih0 _ _ _
      | exact ih1 _ _ _
      | exact LeO.none _
      | refine LeO.ite ?_ ?_
      | refine LeO.bind ?_ (fun _ => ?_)
    · intro y0 y1 y2
      unfold majordomoref08_bad.l0
      repeat' first
      | (with_reducible exact ih0 _ _ _)
      | (with_reducible exact ih1 _ _ _)
      | (with_reducible exact LeO.refl _)
      | (with_reducible exact LeO.none _)
      | (with_reducible refine LeO.ite ?_ ?_)
      | (with_reducible refine LeO.bind ?_ (fun _ => ?_))
      | exact ih0 _ _ _
      | exact ih1 _ _ _
      | exact LeO.none _
      | refine LeO.ite ?_ ?_
      | refine LeO.bind ?_ (fun _ => ?_)
theorem majordomoref08_bad.mono : ∀ a0 a1 k, LeO (majordomoref08_bad.f k a0 a1) (majordomoref08_bad.f (k + 1) a0 a1) := by
  intro a0 a1 k
  obtain ⟨ih0, ih1⟩ := majordomoref08_bad.mono_l k
  unfold majordomoref08_bad.f
  repeat' first
      | (with_reducible exact ih0 _ _ _)
      | (with_reducible exact ih1 _ _ _)
      | (with_reducible exact LeO.refl _)
      | (with_reducible exact LeO.none _)
      | (with_reducible refine LeO.ite ?_ ?_)
      | (with_reducible refine LeO.bind ?_ (fun _ => ?_))
      | exact ih0 _ _ _
      | exact ih1 _ _ _
      | exact LeO.none _
      | refine LeO.ite ?_ ?_
      | refine LeO.bind ?_ (fun _ => ?_)
set_option maxHeartbeats 8000000 in
set_option maxRecDepth 100000 in
theorem majordomoref08_bad.calls (k : Nat) (a0 : Int) (A1 : Option Addr) (c1 : Nat) (l1 : List (S52)) (r : Bool) (w : World) (hr1 : Kd.C k52 w A1 l1.length l1) (hc1 : l1.length ≤ c1) (h : majordomoref08_bad.f k a0 l1 = some r) :
    Calls Try.prog 40 #[.int .i64 a0, .slice A1 l1.length c1] w fun e w' => e = .returned (.bool r) ∧ Drawn0 w w' := by
  have HR1 := Aside0.mk hr1
  have HC1 := Aside0.mk hc1
  clear hr1 hc1
  have H : (if a0 < 0 then (majordomoref08_bad.j0 k a0 l1 true) else (majordomoref08_bad.j0 k a0 l1 (decide (a0 > 32)))) = some r := h
  clear h
  have HC3 := Aside0.mk H
  clear H
  go_enter Try.func40, Try.ntmps40
  go_upto_region 1 with (fail)
  go_cut [11] (fun v11 wc => ∃ (kq : Nat) (x11_2 : Bool), v11 = .bool x11_2 ∧ Aside0 (majordomoref08_bad.j0 kq a0 l1 x11_2 = some r) ∧ Aside0 (kq ≤ k) ∧ Drawn0 w wc)
  case first =>
    have H := HC3.out
    clear HC3
    by_cases c4 : a0 < 0
    · rw [if_pos c4] at H
      have c4b0 : decide (a0 < 0) = true := decide_eq_true c4
      clear c4
      (first | rw [c4b0] | (simp only [i64_w, i32_w]; rw [c4b0]) | skip)
      have H' := Aside0.mk H
      clear H
      go_wp2
      go_meet
      case rel => exact ⟨_, (true), (by first | rfl | (simp; done) | (simp [*]; done)), H', ⟨by first | omega | exact Nat.le_refl _⟩, by repeat (first | exact Drawn0.refl _ | apply Drawn0.step)⟩
    · rw [if_neg c4] at H
      have c4b0 : decide (a0 < 0) = false := decide_eq_false c4
      clear c4
      (first | rw [c4b0] | (simp only [i64_w, i32_w]; rw [c4b0]) | skip)
      have H' := Aside0.mk H
      clear H
      go_wp2
      go_meet
      case rel => exact ⟨_, (decide (a0 > 32)), (by first | rfl | (simp; done) | (simp [*]; done)), H', ⟨by first | omega | exact Nat.le_refl _⟩, by repeat (first | exact Drawn0.refl _ | apply Drawn0.step)⟩
  case rest =>
    clear HC3
    try clear c1
    try clear p2
    try clear c4
    try clear c4b0
    obtain ⟨kq, x11_2, rfl, HA, HJ2, ⟨mc2, rfl⟩⟩ := hcut
    cases kq with
    | zero => exact absurd HA.out (by simp [majordomoref08_bad.j0])
    | succ kj2 =>
      have H := HA.out
      clear HA
      simp only [majordomoref08_bad.j0] at H
      by_cases c5 : x11_2 = true
      · subst c5
        have H1 : (some true) = some r := by rw [if_pos rfl] at H; exact H
        clear H
        have H := H1
        clear H1
        obtain rfl := Option.some.inj H
        go_wp2
        go_ret
        exact ⟨by first | rfl | (simp; done) | (simp [*]; done), by repeat (first | exact Drawn0.refl _ | apply Drawn0.step)⟩
      · replace c5 := Bool.eq_false_iff.mpr c5
        subst c5
        have H1 : (majordomoref08_bad.l0 kj2 a0 l1 0) = some r := by rw [if_neg (show ¬ (false = true) by decide)] at H; exact H
        clear H
        have H := H1
        clear H1
        have H' := Aside0.mk H
        clear H
        go_wp2
        go_loopg [5] kj2 (fun kq v5 w' => ∃ (x5_2 : Int), v5 = .int .i64 x5_2 ∧ Aside0 (majordomoref08_bad.l0 kq a0 l1 x5_2 = some r) ∧ Aside0 (kq ≤ kj2) ∧ Drawn0 w w')
        case atStart => exact ⟨(0), (by first | rfl | (simp; done) | (simp [*]; done)), H', ⟨Nat.le_refl _⟩, by repeat (first | exact Drawn0.refl _ | apply Drawn0.step)⟩
        case round =>
          clear H'
          try clear c1
          try clear c2
          try clear p2
          try clear c4
          try clear c4b0
          try clear c5
          try clear p2
          obtain ⟨x5_2, rfl, HA, HK2, ⟨m2, rfl⟩⟩ := hrel
          cases gk with
          | zero => exact absurd HA.out (by simp [majordomoref08_bad.l0])
          | succ k2 =>
            have H := HA.out
            clear HA
            simp only [majordomoref08_bad.l0] at H
            by_cases c6 : x5_2 < (l1.length : Int)
            · rw [if_pos c6] at H
              have c6b0 : decide (x5_2 < (l1.length : Int)) = true := decide_eq_true c6
              clear c6
              by_cases c7 : 0 ≤ x5_2
              · rw [if_pos c7] at H
                have c7b0 : decide (0 ≤ x5_2) = true := decide_eq_true c7
                clear c7
                by_cases c8 : ((rd_T52 l1 x5_2).f0) < 0
                · rw [if_pos c8] at H
                  have c8b0 : decide (((rd_T52 l1 x5_2).f0) < 0) = true := decide_eq_true c8
                  clear c8
                  obtain rfl := Option.some.inj H
                  have p112 : 0 ≤ (x5_2 : Int) := of_decide_eq_true (by first | (with_reducible assumption) | assumption)
                  have q112 : x5_2 < (l1.length : Int) := of_decide_eq_true (by first | (with_reducible assumption) | assumption)
                  obtain ⟨ad112, e112, hx112_0, hx112_1, hx112_2⟩ := at_T52 HR1.out x5_2 p112 q112
                  cases e112
                  replace p112 := eq_true p112
                  replace q112 := eq_true q112
                  go_wp2
                  go_ret
                  exact ⟨by first | rfl | (simp; done) | (simp [*]; done), by repeat (first | exact Drawn0.refl _ | apply Drawn0.step)⟩
                · rw [if_neg c8] at H
                  have c8b0 : decide (((rd_T52 l1 x5_2).f0) < 0) = false := decide_eq_false c8
                  clear c8
                  by_cases c9 : ((rd_T52 l1 x5_2).f0) ≥ a0
                  · rw [if_pos c9] at H
                    have c9b0 : decide (a0 ≤ ((rd_T52 l1 x5_2).f0)) = true := decide_eq_true c9
                    clear c9
                    obtain rfl := Option.some.inj H
                    have p112 : 0 ≤ (x5_2 : Int) := of_decide_eq_true (by first | (with_reducible assumption) | assumption)
                    have q112 : x5_2 < (l1.length : Int) := of_decide_eq_true (by first | (with_reducible assumption) | assumption)
                    obtain ⟨ad112, e112, hx112_0, hx112_1, hx112_2⟩ := at_T52 HR1.out x5_2 p112 q112
                    cases e112
                    replace p112 := eq_true p112
                    replace q112 := eq_true q112
                    have p113 : 0 ≤ (x5_2 : Int) := of_decide_eq_true (by first | (with_reducible assumption) | assumption)
                    have q113 : x5_2 < (l1.length : Int) := of_decide_eq_true (by first | (with_reducible assumption) | assumption)
                    obtain ⟨ad113, e113, hx113_0, hx113_1, hx113_2⟩ := at_T52 HR1.out x5_2 p113 q113
                    obtain rfl : ad112 = ad113 := (by injection e113)
                    replace p113 := eq_true p113
                    replace q113 := eq_true q113
                    go_wp2
                    go_ret
                    exact ⟨by first | rfl | (simp; done) | (simp [*]; done), by repeat (first | exact Drawn0.refl _ | apply Drawn0.step)⟩
                  · rw [if_neg c9] at H
                    have c9b0 : decide (a0 ≤ ((rd_T52 l1 x5_2).f0)) = false := decide_eq_false c9
                    clear c9
                    by_cases c10 : ((rd_T52 l1 x5_2).f1) < 0
                    · rw [if_pos c10] at H
                      have c10b0 : decide (((rd_T52 l1 x5_2).f1) < 0) = true := decide_eq_true c10
                      clear c10
                      obtain rfl := Option.some.inj H
                      have p112 : 0 ≤ (x5_2 : Int) := of_decide_eq_true (by first | (with_reducible assumption) | assumption)
                      have q112 : x5_2 < (l1.length : Int) := of_decide_eq_true (by first | (with_reducible assumption) | assumption)
                      obtain ⟨ad112, e112, hx112_0, hx112_1, hx112_2⟩ := at_T52 HR1.out x5_2 p112 q112
                      cases e112
                      replace p112 := eq_true p112
                      replace q112 := eq_true q112
                      have p113 : 0 ≤ (x5_2 : Int) := of_decide_eq_true (by first | (with_reducible assumption) | assumption)
                      have q113 : x5_2 < (l1.length : Int) := of_decide_eq_true (by first | (with_reducible assumption) | assumption)
                      obtain ⟨ad113, e113, hx113_0, hx113_1, hx113_2⟩ := at_T52 HR1.out x5_2 p113 q113
                      obtain rfl : ad112 = ad113 := (by injection e113)
                      replace p113 := eq_true p113
                      replace q113 := eq_true q113
                      have p114 : 0 ≤ (x5_2 : Int) := of_decide_eq_true (by first | (with_reducible assumption) | assumption)
                      have q114 : x5_2 < (l1.length : Int) := of_decide_eq_true (by first | (with_reducible assumption) | assumption)
                      obtain ⟨ad114, e114, hx114_0, hx114_1, hx114_2⟩ := at_T52 HR1.out x5_2 p114 q114
                      obtain rfl : ad112 = ad114 := (by injection e114)
                      replace p114 := eq_true p114
                      replace q114 := eq_true q114
                      go_wp2
                      go_ret
                      exact ⟨by first | rfl | (simp; done) | (simp [*]; done), by repeat (first | exact Drawn0.refl _ | apply Drawn0.step)⟩
                    · rw [if_neg c10] at H
                      have c10b0 : decide (((rd_T52 l1 x5_2).f1) < 0) = false := decide_eq_false c10
                      clear c10
                      by_cases c11 : ((rd_T52 l1 x5_2).f1) ≥ a0
                      · rw [if_pos c11] at H
                        have c11b0 : decide (a0 ≤ ((rd_T52 l1 x5_2).f1)) = true := decide_eq_true c11
                        clear c11
                        obtain rfl := Option.some.inj H
                        have p112 : 0 ≤ (x5_2 : Int) := of_decide_eq_true (by first | (with_reducible assumption) | assumption)
                        have q112 : x5_2 < (l1.length : Int) := of_decide_eq_true (by first | (with_reducible assumption) | assumption)
                        obtain ⟨ad112, e112, hx112_0, hx112_1, hx112_2⟩ := at_T52 HR1.out x5_2 p112 q112
                        cases e112
                        replace p112 := eq_true p112
                        replace q112 := eq_true q112
                        have p113 : 0 ≤ (x5_2 : Int) := of_decide_eq_true (by first | (with_reducible assumption) | assumption)
                        have q113 : x5_2 < (l1.length : Int) := of_decide_eq_true (by first | (with_reducible assumption) | assumption)
                        obtain ⟨ad113, e113, hx113_0, hx113_1, hx113_2⟩ := at_T52 HR1.out x5_2 p113 q113
                        obtain rfl : ad112 = ad113 := (by injection e113)
                        replace p113 := eq_true p113
                        replace q113 := eq_true q113
                        have p114 : 0 ≤ (x5_2 : Int) := of_decide_eq_true (by first | (with_reducible assumption) | assumption)
                        have q114 : x5_2 < (l1.length : Int) := of_decide_eq_true (by first | (with_reducible assumption) | assumption)
                        obtain ⟨ad114, e114, hx114_0, hx114_1, hx114_2⟩ := at_T52 HR1.out x5_2 p114 q114
                        obtain rfl : ad112 = ad114 := (by injection e114)
                        replace p114 := eq_true p114
                        replace q114 := eq_true q114
                        have p115 : 0 ≤ (x5_2 : Int) := of_decide_eq_true (by first | (with_reducible assumption) | assumption)
                        have q115 : x5_2 < (l1.length : Int) := of_decide_eq_true (by first | (with_reducible assumption) | assumption)
                        obtain ⟨ad115, e115, hx115_0, hx115_1, hx115_2⟩ := at_T52 HR1.out x5_2 p115 q115
                        obtain rfl : ad112 = ad115 := (by injection e115)
                        replace p115 := eq_true p115
                        replace q115 := eq_true q115
                        go_wp2
                        go_ret
                        exact ⟨by first | rfl | (simp; done) | (simp [*]; done), by repeat (first | exact Drawn0.refl _ | apply Drawn0.step)⟩
                      · rw [if_neg c11] at H
                        have c11b0 : decide (a0 ≤ ((rd_T52 l1 x5_2).f1)) = false := decide_eq_false c11
                        clear c11
                        have H' := Aside0.mk H
                        clear H
                        have p112 : 0 ≤ (x5_2 : Int) := of_decide_eq_true (by first | (with_reducible assumption) | assumption)
                        have q112 : x5_2 < (l1.length : Int) := of_decide_eq_true (by first | (with_reducible assumption) | assumption)
                        obtain ⟨ad112, e112, hx112_0, hx112_1, hx112_2⟩ := at_T52 HR1.out x5_2 p112 q112
                        cases e112
                        replace p112 := eq_true p112
                        replace q112 := eq_true q112
                        have p113 : 0 ≤ (x5_2 : Int) := of_decide_eq_true (by first | (with_reducible assumption) | assumption)
                        have q113 : x5_2 < (l1.length : Int) := of_decide_eq_true (by first | (with_reducible assumption) | assumption)
                        obtain ⟨ad113, e113, hx113_0, hx113_1, hx113_2⟩ := at_T52 HR1.out x5_2 p113 q113
                        obtain rfl : ad112 = ad113 := (by injection e113)
                        replace p113 := eq_true p113
                        replace q113 := eq_true q113
                        have p114 : 0 ≤ (x5_2 : Int) := of_decide_eq_true (by first | (with_reducible assumption) | assumption)
                        have q114 : x5_2 < (l1.length : Int) := of_decide_eq_true (by first | (with_reducible assumption) | assumption)
                        obtain ⟨ad114, e114, hx114_0, hx114_1, hx114_2⟩ := at_T52 HR1.out x5_2 p114 q114
                        obtain rfl : ad112 = ad114 := (by injection e114)
                        replace p114 := eq_true p114
                        replace q114 := eq_true q114
                        have p115 : 0 ≤ (x5_2 : Int) := of_decide_eq_true (by first | (with_reducible assumption) | assumption)
                        have q115 : x5_2 < (l1.length : Int) := of_decide_eq_true (by first | (with_reducible assumption) | assumption)
                        obtain ⟨ad115, e115, hx115_0, hx115_1, hx115_2⟩ := at_T52 HR1.out x5_2 p115 q115
                        obtain rfl : ad112 = ad115 := (by injection e115)
                        replace p115 := eq_true p115
                        replace q115 := eq_true q115
                        go_wp2
                        go_roundg k2
                        case measure => have := HJ2.out; have := HK2.out; omega
                        case rel => exact ⟨(wrap64 (x5_2 + 1)), (by first | rfl | (simp; done) | (simp [*]; done)), H', ⟨by have := HJ2.out; have := HK2.out; omega⟩, by repeat (first | exact Drawn0.refl _ | apply Drawn0.step)⟩
              · rw [if_neg c7] at H
                exact absurd H (by simp)
            · rw [if_neg c6] at H
              have c6b0 : decide (x5_2 < (l1.length : Int)) = false := decide_eq_false c6
              clear c6
              obtain rfl := Option.some.inj H
              go_wp2
              go_ret
              exact ⟨by first | rfl | (simp; done) | (simp [*]; done), by repeat (first | exact Drawn0.refl _ | apply Drawn0.step)⟩

end Go.Proofs.Ytcgcojdkkkfkdaa.PGraphBehind
