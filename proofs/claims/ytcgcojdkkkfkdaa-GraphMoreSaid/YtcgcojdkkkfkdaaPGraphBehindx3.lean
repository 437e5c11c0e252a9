-- PRINTED BY print.sh 35421559b90ae4d0a3588c463048766b98c2df88dd9212a6774a882060cdf62d: not written by this session
import Derived.Test.YtcgcojdkkkfkdaaPGraphBehindx0
import Derived.Test.YtcgcojdkkkfkdaaPGraphBehindx2
namespace Go.Proofs.Ytcgcojdkkkfkdaa.PGraphBehind
open Go.RowKit Go.Proofs.YtcgcojdkkkfkdaaW.PrintWords Go.Proofs.YtcgcojdkkkfkdaaW.PrintLast Go.Proofs.YtcgcojdkkkfkdaaW.PrintMore
attribute [local go_sem] max2_int min2_int max_two min_two max_three min_three max_four min_four   -- for this text's walks alone
set_option linter.unusedVariables false
set_option linter.unusedSimpArgs false

/-! ### majordomoref08_Behind: function 30 -/
mutual
def majordomoref08_Behind.j0 : Nat → Int → List (S52) → Int → Bool → Option (List Int)
  | 0, _, _, _, _ => none
  | k + 1, x0, x1, x2, x23 => if x23 = true then (some ([] : List Int)) else (if 0 ≤ x0 then (if (x0 : Int).toNat ≤ 281474976710656 then (majordomoref08_Behind.l0 k x0 x1 x2 (List.replicate (x0 : Int).toNat false) 0) else (none)) else (none))
def majordomoref08_Behind.l0 : Nat → Int → List (S52) → Int → List Bool → Int → Option (List Int)
  | 0, _, _, _, _, _ => none
  | k + 1, x0, x1, x2, x7, x8 => if x8 ≤ x0 then (majordomoref08_Behind.l1 k x0 x1 x2 x7 x8 0) else (majordomoref08_Behind.l2 k x0 x7 ([] : List Int) 0)
def majordomoref08_Behind.l1 : Nat → Int → List (S52) → Int → List Bool → Int → Int → Option (List Int)
  | 0, _, _, _, _, _, _ => none
  | k + 1, x0, x1, x2, x7, x8, x9 => if x9 < (x1.length : Int) then (if 0 ≤ x9 then (if ((rd_T52 x1 x9).f0) = x2 then (if 0 ≤ ((rd_T52 x1 x9).f1) then (if ((rd_T52 x1 x9).f1) < (x7.length : Int) then (majordomoref08_Behind.l1 k x0 x1 x2 (x7.set (((rd_T52 x1 x9).f1) : Int).toNat true) x8 (wrap64 (x9 + 1))) else (none)) else (none)) else (if 0 ≤ ((rd_T52 x1 x9).f0) then (if ((rd_T52 x1 x9).f0) < (x7.length : Int) then (if rdOf false x7 ((rd_T52 x1 x9).f0) = true then (if 0 ≤ ((rd_T52 x1 x9).f1) then (if ((rd_T52 x1 x9).f1) < (x7.length : Int) then (majordomoref08_Behind.l1 k x0 x1 x2 (x7.set (((rd_T52 x1 x9).f1) : Int).toNat true) x8 (wrap64 (x9 + 1))) else (none)) else (none)) else (majordomoref08_Behind.l1 k x0 x1 x2 x7 x8 (wrap64 (x9 + 1)))) else (none)) else (none))) else (none)) else (majordomoref08_Behind.l0 k x0 x1 x2 x7 (wrap64 (x8 + 1)))
def majordomoref08_Behind.l2 : Nat → Int → List Bool → List Int → Int → Option (List Int)
  | 0, _, _, _, _ => none
  | k + 1, x0, x7, x10, x11 => if x11 < x0 then (if 0 ≤ x11 then (if x11 < (x7.length : Int) then (if rdOf false x7 x11 = true then (if x10.length < 17592186044416 then (majordomoref08_Behind.l2 k x0 x7 (x10 ++ [x11]) (wrap64 (x11 + 1))) else (none)) else (majordomoref08_Behind.l2 k x0 x7 x10 (wrap64 (x11 + 1)))) else (none)) else (none)) else (some x10)
end
def majordomoref08_Behind.f (k : Nat) (a0 : Int) (l1 : List (S52)) (a2 : Int) : Option (List Int) := (majordomoref08_bad.f k a0 l1).bind fun t116 => (if t116 = true then (majordomoref08_Behind.j0 k a0 l1 a2 true) else (if a2 < 0 then (majordomoref08_Behind.j0 k a0 l1 a2 true) else (majordomoref08_Behind.j0 k a0 l1 a2 (decide (a2 ≥ a0)))))
theorem majordomoref08_Behind.mono_l : ∀ k, (∀ y0 y1 y2 y3, LeO (majordomoref08_Behind.j0 k y0 y1 y2 y3) (majordomoref08_Behind.j0 (k + 1) y0 y1 y2 y3)) ∧ (∀ y0 y1 y2 y3 y4, LeO (majordomoref08_Behind.l0 k y0 y1 y2 y3 y4) (majordomoref08_Behind.l0 (k + 1) y0 y1 y2 y3 y4)) ∧ (∀ y0 y1 y2 y3 y4 y5, LeO (majordomoref08_Behind.l1 k y0 y1 y2 y3 y4 y5) (majordomoref08_Behind.l1 (k + 1) y0 y1 y2 y3 y4 y5)) ∧ (∀ y0 y1 y2 y3, LeO (majordomoref08_Behind.l2 k y0 y1 y2 y3) (majordomoref08_Behind.l2 (k + 1) y0 y1 y2 y3))
  | 0 => ⟨fun _ _ _ _ r h => by simp [majordomoref08_Behind.j0] at h, fun _ _ _ _ _ r h => by simp [majordomoref08_Behind.l0] at h, fun _ _ _ _ _ _ r h => by simp [majordomoref08_Behind.l1] at h, fun _ _ _ _ r h => by simp [majordomoref08_Behind.l2] at h⟩
  | k + 1 => by
    obtain ⟨ih0, ih1, ih2, ih3⟩ := majordomoref08_Behind.mono_l k
    refine ⟨?_, ?_, ?_, ?_⟩
    · intro y0 y1 y2 y3
      unfold majordomoref08_Behind.j0
      repeat' first
      | (with_reducible exact ih0 _ _ _ _)
      | (with_reducible exact ih1 _ _ _ _ _)
      | (with_reducible exact ih2 _ _ _ _ _ _)
      | (with_reducible exact ih3 _ _ _ _)
      | (with_reducible exact majordomoref08_bad.mono _ _ _)
      | (with_reducible exact LeO.refl _)
      | (with_reducible exact LeO.none _)
      | (with_reducible refine LeO.ite ?_ ?_)
      | (with_reducible refine LeO.bind ?_ (fun _ => ?_))
      | exact ih0 _ _ _ _
      | exact ih1 _ _ _ _ _
      | exact ih2 _ _ _ _ _ _
      | exact ih3 _ _ _ _
      | exact majordomoref08_bad.mono _ _ _
      | exact LeO.none _
      | refine LeO.ite ?_ ?_
      | refine LeO.bind ?_ (fun _ => ?_)
    · intro y0 y1 y2 y3 y4
      unfold majordomoref08_Behind.l0
      repeat' first
      | (with_reducible exact ih0 _ _ _ _)
      | (with_reducible exact ih1 _ _ _ _ _)
      | (with_reducible exact ih2 _ _ _ _ _ _)
      | (with_reducible exact ih3 _ _ _ _)
      | (with_reducible exact majordomoref08_bad.mono _ _ _)
      | (with_reducible exact LeO.refl _)
      | (with_reducible exact LeO.none _)
      | (with_reducible refine LeO.ite ?_ ?_)
      | (with_reducible refine LeO.bind ?_ (fun _ => ?_))
      | exact ih0 _ _ _ _
      | exact ih1 _ _ _ _ _
      | exact ih2 _ _ _ _ _ _
      | exact ih3 _ _ _ _
      | exact majordomoref08_bad.mono _ _ _
      | exact LeO.none _
      | refine LeO.ite ?_ ?_
      | refine LeO.bind ?_ (fun _ => ?_)
    · intro y0 y1 y2 y3 y4 y5
      unfold majordomoref08_Behind.l1
      repeat' first
      | (with_reducible exact ih0 _ _ _ _)
      | (with_reducible exact ih1 _ _ _ _ _)
      | (with_reducible exact ih2 _ _ _ _ _ _)
      | (with_reducible exact ih3 _ _ _ _)
      | (with_reducible exact majordomoref08_bad.mono _ _ _)
      | (with_reducible exact LeO.refl _)
      | (with_reducible exact LeO.none _)
      | (with_reducible refine LeO.ite ?_ ?_)
      | (with_reducible refine LeO.bind ?_ (fun _ => ?_))
      | exact ih0 _ _ _ _
      | exact ih1 _ _ _ _ _
      | exact ih2 _ _ _ _ _ _
      | exact ih3 _ _ _ _
      | exact majordomoref08_bad.mono _ _ _
      | exact LeO.none _
      | refine LeO.ite ?_ ?_
      | refine LeO.bind ?_ (fun _ => ?_)
    · intro y0 y1 y2 y3
      unfold majordomoref08_Behind.l2
      repeat' first
      | (with_reducible exact ih0 _ _ _ _)
      | (with_reducible exact ih1 _ _ _ _ _)
      | (with_reducible exact ih2 _ _ _ _ _ _)
      | (with_reducible exact ih3 _ _ _ _)
      | (with_reducible exact majordomoref08_bad.mono _ _ _)
      | (with_reducible exact LeO.refl _)
      | (with_reducible exact LeO.none _)
      | (with_reducible refine LeO.ite ?_ ?_)
      | (with_reducible refine LeO.bind ?_ (fun _ => ?_))
      | exact ih0 _ _ _ _
      | exact ih1 _ _ _ _ _
      | exact ih2 _ _ _ _ _ _
      | exact ih3 _ _ _ _
      | exact majordomoref08_bad.mono _ _ _
      | exact LeO.none _
      | refine LeO.ite ?_ ?_
      | refine LeO.bind ?_ (fun _ => ?_)
theorem majordomoref08_Behind.mono : ∀ a0 a1 a2 k, LeO (majordomoref08_Behind.f k a0 a1 a2) (majordomoref08_Behind.f (k + 1) a0 a1 a2) := by
  intro a0 a1 a2 k
  obtain ⟨ih0, ih1, ih2, ih3⟩ := majordomoref08_Behind.mono_l k
  unfold majordomoref08_Behind.f
  repeat' first
      | (with_reducible exact ih0 _ _ _ _)
      | (with_reducible exact ih1 _ _ _ _ _)
      | (with_reducible exact ih2 _ _ _ _ _ _)
      | (with_reducible exact ih3 _ _ _ _)
      | (with_reducible exact majordomoref08_bad.mono _ _ _)
      | (with_reducible exact LeO.refl _)
      | (with_reducible exact LeO.none _)
      | (with_reducible refine LeO.ite ?_ ?_)
      | (with_reducible refine LeO.bind ?_ (fun _ => ?_))
      | exact ih0 _ _ _ _
      | exact ih1 _ _ _ _ _
      | exact ih2 _ _ _ _ _ _
      | exact ih3 _ _ _ _
      | exact majordomoref08_bad.mono _ _ _
      | exact LeO.none _
      | refine LeO.ite ?_ ?_
      | refine LeO.bind ?_ (fun _ => ?_)
set_option maxHeartbeats 8000000 in
set_option maxRecDepth 100000 in
theorem majordomoref08_Behind.calls (k : Nat) (a0 : Int) (A1 : Option Addr) (c1 : Nat) (l1 : List (S52)) (a2 : Int) (r : List Int) (w : World) (hr1 : Kd.C k52 w A1 l1.length l1) (hc1 : l1.length ≤ c1) (h : majordomoref08_Behind.f k a0 l1 a2 = some r) :
    Calls Try.prog 30 #[.int .i64 a0, .slice A1 l1.length c1, .int .i64 a2] w fun e w' => ∃ v0_ : Value, e = .returned (v0_) ∧ Kd.R (Kd.int .i64) 3 w' w.heap.size (fun _ => True) v0_ r ∧ Below w.heap.size w w' := by
  have HR1 := Aside0.mk hr1
  have HC1 := Aside0.mk hc1
  clear hr1 hc1
  have HB := Aside0.mk (Below.refl w.heap.size w)
  have H : ((majordomoref08_bad.f k a0 l1).bind fun t116 => (if t116 = true then (majordomoref08_Behind.j0 k a0 l1 a2 true) else (if a2 < 0 then (majordomoref08_Behind.j0 k a0 l1 a2 true) else (majordomoref08_Behind.j0 k a0 l1 a2 (decide (a2 ≥ a0)))))) = some r := h
  clear h
  have HC4 := Aside0.mk H
  clear H
  go_enter Try.func30, Try.ntmps30
  go_upto_region 1 with (fail)
  go_cut [23] (fun v23 wc => ∃ (kq : Nat) (x23_3 : Bool), v23 = .bool x23_3 ∧ Aside0 (majordomoref08_Behind.j0 kq a0 l1 a2 x23_3 = some r) ∧ Aside0 (kq ≤ k) ∧ Aside0 (Below w.heap.size w wc))
  case first =>
    have H := HC4.out
    clear HC4
    replace H := Option.bind_eq_some_iff.mp H
    obtain ⟨t116, A50, H⟩ := H
    replace H : (if t116 = true then (majordomoref08_Behind.j0 k a0 l1 a2 true) else (if a2 < 0 then (majordomoref08_Behind.j0 k a0 l1 a2 true) else (majordomoref08_Behind.j0 k a0 l1 a2 (decide (a2 ≥ a0))))) = some r := H
    have A5 := Aside0.mk A50
    clear A50
    by_cases c6 : t116 = true
    · subst c6
      have H1 : (majordomoref08_Behind.j0 k a0 l1 a2 true) = some r := by rw [if_pos rfl] at H; exact H
      clear H
      have H := H1
      clear H1
      have H' := Aside0.mk H
      clear H
      go_wp2_with (first | ((with_reducible refine gate_callee (f := 40) rfl ?_); refine goesL_ (some 14) rfl rfl Try.func40 (by kernel_rfl) rfl #[.int .i64 a0, .slice A1 l1.length c1] rfl (by (try simp only [List.map_toArray, List.map_cons, List.map_nil]); first | done | rfl | (simp only [List.length_drop, List.length_take]; rfl)) ?_; (with_reducible refine (majordomoref08_bad.calls k a0 _ _ l1 true _ ?side1 ?side2 A5.out).mono ?_); (case side1 => repeat (first | exact (Kd.C_below HR1.out HB.out) | (with_reducible refine Kd.C_alloc ?_ _) | (with_reducible refine Kd.C_drewN ?_ _) | (with_reducible refine Kd.C_drew ?_))); (case side2 => exact HC1.out); rintro e w' ⟨rfl, ⟨nd, rfl⟩⟩; refine ⟨_, rfl, ?_⟩))
      go_meet
      case rel => exact ⟨_, (true), (by first | rfl | (simp; done) | (simp [*]; done)), H', ⟨by first | omega | exact Nat.le_refl _⟩, ⟨by repeat (first | (with_reducible first | exact HB.out | apply below_alloc | apply pw_below_drewN | apply below_drew1) | exact HB.out)⟩⟩
    · replace c6 := Bool.eq_false_iff.mpr c6
      subst c6
      have H1 : (if a2 < 0 then (majordomoref08_Behind.j0 k a0 l1 a2 true) else (majordomoref08_Behind.j0 k a0 l1 a2 (decide (a2 ≥ a0)))) = some r := by rw [if_neg (show ¬ (false = true) by decide)] at H; exact H
      clear H
      have H := H1
      clear H1
      by_cases c7 : a2 < 0
      · rw [if_pos c7] at H
        have c7b0 : decide (a2 < 0) = true := decide_eq_true c7
        clear c7
        (first | rw [c7b0] | (simp only [i64_w, i32_w]; rw [c7b0]) | skip)
        have H' := Aside0.mk H
        clear H
        go_wp2_with (first | ((with_reducible refine gate_callee (f := 40) rfl ?_); refine goesL_ (some 14) rfl rfl Try.func40 (by kernel_rfl) rfl #[.int .i64 a0, .slice A1 l1.length c1] rfl (by (try simp only [List.map_toArray, List.map_cons, List.map_nil]); first | done | rfl | (simp only [List.length_drop, List.length_take]; rfl)) ?_; (with_reducible refine (majordomoref08_bad.calls k a0 _ _ l1 false _ ?side1 ?side2 A5.out).mono ?_); (case side1 => repeat (first | exact (Kd.C_below HR1.out HB.out) | (with_reducible refine Kd.C_alloc ?_ _) | (with_reducible refine Kd.C_drewN ?_ _) | (with_reducible refine Kd.C_drew ?_))); (case side2 => exact HC1.out); rintro e w' ⟨rfl, ⟨nd, rfl⟩⟩; refine ⟨_, rfl, ?_⟩))
        go_meet
        case rel => exact ⟨_, (true), (by first | rfl | (simp; done) | (simp [*]; done)), H', ⟨by first | omega | exact Nat.le_refl _⟩, ⟨by repeat (first | (with_reducible first | exact HB.out | apply below_alloc | apply pw_below_drewN | apply below_drew1) | exact HB.out)⟩⟩
      · rw [if_neg c7] at H
        have c7b0 : decide (a2 < 0) = false := decide_eq_false c7
        clear c7
        (first | rw [c7b0] | (simp only [i64_w, i32_w]; rw [c7b0]) | skip)
        have H' := Aside0.mk H
        clear H
        go_wp2_with (first | ((with_reducible refine gate_callee (f := 40) rfl ?_); refine goesL_ (some 14) rfl rfl Try.func40 (by kernel_rfl) rfl #[.int .i64 a0, .slice A1 l1.length c1] rfl (by (try simp only [List.map_toArray, List.map_cons, List.map_nil]); first | done | rfl | (simp only [List.length_drop, List.length_take]; rfl)) ?_; (with_reducible refine (majordomoref08_bad.calls k a0 _ _ l1 false _ ?side1 ?side2 A5.out).mono ?_); (case side1 => repeat (first | exact (Kd.C_below HR1.out HB.out) | (with_reducible refine Kd.C_alloc ?_ _) | (with_reducible refine Kd.C_drewN ?_ _) | (with_reducible refine Kd.C_drew ?_))); (case side2 => exact HC1.out); rintro e w' ⟨rfl, ⟨nd, rfl⟩⟩; refine ⟨_, rfl, ?_⟩))
        go_meet
        case rel => exact ⟨_, (decide (a2 ≥ a0)), (by first | rfl | (simp; done) | (simp [*]; done)), H', ⟨by first | omega | exact Nat.le_refl _⟩, ⟨by repeat (first | (with_reducible first | exact HB.out | apply below_alloc | apply pw_below_drewN | apply below_drew1) | exact HB.out)⟩⟩
  case rest =>
    clear HC4
    try clear c1
    try clear p2
    try clear c3
    try clear c4
    try clear c6
    try clear c7
    try clear c7b0
    obtain ⟨kq, x23_3, rfl, HA, HJ3, HB⟩ := hcut
    cases kq with
    | zero => exact absurd HA.out (by simp [majordomoref08_Behind.j0])
    | succ kj3 =>
      have H := HA.out
      clear HA
      simp only [majordomoref08_Behind.j0] at H
      by_cases c8 : x23_3 = true
      · subst c8
        have H1 : (some ([] : List Int)) = some r := by rw [if_pos rfl] at H; exact H
        clear H
        have H := H1
        clear H1
        obtain rfl := Option.some.inj H
        go_wp2
        go_ret
        exact ⟨_, by first | rfl | (simp [errW_none, errW_some] <;> rfl) | (simp [*, errW_none, errW_some] <;> rfl), by first | exact Kd.R_nil _ _ _ _ _ | exact Kd.N_nil _ _ _ _ _ | exact Kd.V_nil _ _ _ _ _ | exact Kd.Q_nil _ _ _ _ _ | exact Kd.S_nil _ _ _ _ _, by repeat (first | (with_reducible first | exact HB.out | apply below_alloc | apply pw_below_drewN | apply below_drew1) | exact HB.out)⟩
      · replace c8 := Bool.eq_false_iff.mpr c8
        subst c8
        have H1 : (if 0 ≤ a0 then (if (a0 : Int).toNat ≤ 281474976710656 then (majordomoref08_Behind.l0 kj3 a0 l1 a2 (List.replicate (a0 : Int).toNat false) 0) else (none)) else (none)) = some r := by rw [if_neg (show ¬ (false = true) by decide)] at H; exact H
        clear H
        have H := H1
        clear H1
        by_cases c9 : 0 ≤ a0
        · rw [if_pos c9] at H
          have c9b0 := eq_true c9
          have c9b1 : decide (0 ≤ a0) = true := decide_eq_true c9
          clear c9
          by_cases c10 : (a0 : Int).toNat ≤ 281474976710656
          · rw [if_pos c10] at H
            have c10b0 := eq_true c10
            have c10b1 : decide ((a0 : Int).toNat ≤ 281474976710656) = true := decide_eq_true c10
            clear c10
            obtain ⟨y117, hy117⟩ : ∃ y_ : List Bool, y_ = (List.replicate (a0 : Int).toNat false) := ⟨_, rfl⟩
            replace H : (majordomoref08_Behind.l0 kj3 a0 l1 a2 y117 0) = some r := by first | (rw [hy117]; with_reducible exact H) | (have H2_ := (Option.bind_some _ _).symm.trans H; rw [hy117]; with_reducible exact H2_) | (have H2_ := (Option.bind_some _ _).symm.trans H; with_reducible exact H2_) | with_reducible exact H | (rw [hy117]; exact H) | exact H
            have Ny117 := Aside0.mk hy117
            clear hy117
            have H' := Aside0.mk H
            clear H
            go_wp2_with (first | ((with_reducible refine gate_dst (N := 25) rfl ?_); refine Kd.R_make Kd.bool _ 4 rfl (N := 25) rfl 74 _ _ rfl a0 rfl rfl Try.underlying74 (.bool false) 1 info4 rfl (by decide) (by omega) false (ok := fun _ => True) (okp := fun _ => True) rfl (fun _ hk => hk) trivial (of_decide_eq_true (by first | (with_reducible assumption) | assumption)) (Nat.le_trans (Nat.mul_le_mul_right _ (of_decide_eq_true (by first | (with_reducible assumption) | assumption) : a0.toNat ≤ 281474976710656)) (by omega)) (Below.refl _ _) (Nat.le_refl _) ?_; intro v118 w11 ho12 hb hg_ hnew_; clear hg_ hnew_; (first | rw [← Ny117.out] at ho12 | (simp only [Int.reduceToNat] at ho12; rw [← Ny117.out] at ho12)); have n0_ := Aside0.mk (Kd.R_lower ho12 (below_size (by repeat (first | (with_reducible first | exact HB.out | apply below_alloc | apply pw_below_drewN | apply below_drew1) | exact HB.out)))); have n1_ := Aside0.mk (below_step (by repeat (first | (with_reducible first | exact HB.out | apply below_alloc | apply pw_below_drewN | apply below_drew1) | exact HB.out)) hb); clear HB; have HO119 := n0_; have HB := n1_; clear n0_ n1_; clear hb ho12))
            go_loopg [8] kj3 (fun kq v8 w' => ∃ (x7_2 : List Bool) (x8_2 : Int), v8 = .int .i64 x8_2 ∧ Aside0 (majordomoref08_Behind.l0 kq a0 l1 a2 x7_2 x8_2 = some r) ∧ Aside0 (kq ≤ kj3) ∧ Aside0 (Kd.R Kd.bool 4 w' w.heap.size (fun _ => True) v118 x7_2) ∧ Aside0 (Below w.heap.size w w'))
            case atStart => exact ⟨(y117), (0), (by first | rfl | (simp; done) | (simp [*]; done)), H', ⟨Nat.le_refl _⟩, ⟨by (with_reducible repeat (first | apply Kd.R_alloc | apply Kd.R_drewN | apply Kd.R_drew)); exact HO119.out⟩, ⟨by repeat (first | (with_reducible first | exact HB.out | apply below_alloc | apply pw_below_drewN | apply below_drew1) | exact HB.out)⟩⟩
            case round =>
              clear H'
              try clear c1
              try clear p2
              try clear c3
              try clear c4
              try clear c6
              try clear c7
              try clear c7b0
              try clear c8
              try clear c9
              try clear c9b0
              try clear c9b1
              try clear c10
              try clear c10b0
              try clear c10b1
              try clear p2
              obtain ⟨x7_2, x8_2, rfl, HA, HK2, HO_7, HB⟩ := hrel
              cases gk with
              | zero => exact absurd HA.out (by simp [majordomoref08_Behind.l0])
              | succ k2 =>
                have H := HA.out
                clear HA
                simp only [majordomoref08_Behind.l0] at H
                by_cases c13 : x8_2 ≤ a0
                · rw [if_pos c13] at H
                  have c13b0 : decide (x8_2 ≤ a0) = true := decide_eq_true c13
                  clear c13
                  have H' := Aside0.mk H
                  clear H
                  go_wp2
                  go_loopg [9] k2 (fun kq v9 w' => ∃ (x7_3 : List Bool) (x9_3 : Int), v9 = .int .i64 x9_3 ∧ Aside0 (majordomoref08_Behind.l1 kq a0 l1 a2 x7_3 x8_2 x9_3 = some r) ∧ Aside0 (kq ≤ k2) ∧ Aside0 (Kd.R Kd.bool 4 w' w.heap.size (fun _ => True) v118 x7_3) ∧ Aside0 (Below w.heap.size w w'))
                  case atStart => exact ⟨(x7_2), (0), (by first | rfl | (simp; done) | (simp [*]; done)), H', ⟨Nat.le_refl _⟩, ⟨by (with_reducible repeat (first | apply Kd.R_alloc | apply Kd.R_drewN | apply Kd.R_drew)); exact HO_7.out⟩, ⟨by repeat (first | (with_reducible first | exact HB.out | apply below_alloc | apply pw_below_drewN | apply below_drew1) | exact HB.out)⟩⟩
                  case round =>
                    clear H'
                    try clear c1
                    try clear p2
                    try clear c3
                    try clear c4
                    try clear c6
                    try clear c7
                    try clear c7b0
                    try clear c8
                    try clear c9
                    try clear c9b0
                    try clear c9b1
                    try clear c10
                    try clear c10b0
                    try clear c10b1
                    try clear c13
                    try clear c13b0
                    try clear p2
                    obtain ⟨x7_3, x9_3, rfl, HA, HK3, HO_7, HB⟩ := hrel
                    cases gk with
                    | zero => exact absurd HA.out (by simp [majordomoref08_Behind.l1])
                    | succ k3 =>
                      have H := HA.out
                      clear HA
                      simp only [majordomoref08_Behind.l1] at H
                      by_cases c14 : x9_3 < (l1.length : Int)
                      · rw [if_pos c14] at H
                        have c14b0 : decide (x9_3 < (l1.length : Int)) = true := decide_eq_true c14
                        clear c14
                        by_cases c15 : 0 ≤ x9_3
                        · rw [if_pos c15] at H
                          have c15b0 : decide (0 ≤ x9_3) = true := decide_eq_true c15
                          clear c15
                          by_cases c16 : ((rd_T52 l1 x9_3).f0) = a2
                          · rw [if_pos c16] at H
                            have c16b0 : (((rd_T52 l1 x9_3).f0) == a2) = true := beq_iff_eq.mpr c16
                            have c16b1 : (((rd_T52 l1 x9_3).f0) != a2) = false := bne_eq_false_iff_eq.mpr c16
                            clear c16
                            by_cases c17 : 0 ≤ ((rd_T52 l1 x9_3).f1)
                            · rw [if_pos c17] at H
                              have c17b0 : decide (0 ≤ ((rd_T52 l1 x9_3).f1)) = true := decide_eq_true c17
                              clear c17
                              by_cases c18 : ((rd_T52 l1 x9_3).f1) < (x7_3.length : Int)
                              · rw [if_pos c18] at H
                                have c18b0 : decide (((rd_T52 l1 x9_3).f1) < (x7_3.length : Int)) = true := decide_eq_true c18
                                clear c18
                                obtain ⟨y122, hy122⟩ : ∃ y_ : List Bool, y_ = (x7_3.set (((rd_T52 l1 x9_3).f1) : Int).toNat true) := ⟨_, rfl⟩
                                replace H : (majordomoref08_Behind.l1 k3 a0 l1 a2 y122 x8_2 (wrap64 (x9_3 + 1))) = some r := by first | (rw [hy122]; with_reducible exact H) | (have H2_ := (Option.bind_some _ _).symm.trans H; rw [hy122]; with_reducible exact H2_) | (have H2_ := (Option.bind_some _ _).symm.trans H; with_reducible exact H2_) | with_reducible exact H | (rw [hy122]; exact H) | exact H
                                have Ny122 := Aside0.mk hy122
                                clear hy122
                                have H' := Aside0.mk H
                                clear H
                                have p120 : 0 ≤ (x9_3 : Int) := of_decide_eq_true (by first | (with_reducible assumption) | assumption)
                                have q120 : x9_3 < (l1.length : Int) := of_decide_eq_true (by first | (with_reducible assumption) | assumption)
                                obtain ⟨ad120, e120, hx120_0, hx120_1, hx120_2⟩ := at_T52 HR1.out x9_3 p120 q120
                                cases e120
                                replace hx120_0 := (HB.out.cell (World.block_lt_of_cell? w _ hx120_0)).trans hx120_0
                                replace hx120_1 := (HB.out.cell (World.block_lt_of_cell? w _ hx120_1)).trans hx120_1
                                replace hx120_2 := (HB.out.cell (World.block_lt_of_cell? w _ hx120_2)).trans hx120_2
                                replace p120 := eq_true p120
                                replace q120 := eq_true q120
                                have p121 : 0 ≤ (x9_3 : Int) := of_decide_eq_true (by first | (with_reducible assumption) | assumption)
                                have q121 : x9_3 < (l1.length : Int) := of_decide_eq_true (by first | (with_reducible assumption) | assumption)
                                obtain ⟨ad121, e121, hx121_0, hx121_1, hx121_2⟩ := at_T52 HR1.out x9_3 p121 q121
                                obtain rfl : ad120 = ad121 := (by injection e121)
                                replace hx121_0 := (HB.out.cell (World.block_lt_of_cell? w _ hx121_0)).trans hx121_0
                                replace hx121_1 := (HB.out.cell (World.block_lt_of_cell? w _ hx121_1)).trans hx121_1
                                replace hx121_2 := (HB.out.cell (World.block_lt_of_cell? w _ hx121_2)).trans hx121_2
                                replace p121 := eq_true p121
                                replace q121 := eq_true q121
                                have p19 : 0 ≤ (((rd_T52 l1 x9_3).f1) : Int) := of_decide_eq_true (by first | (with_reducible assumption) | assumption)
                                have q19 : (((rd_T52 l1 x9_3).f1) : Int) < ((x7_3.length : Int) : Int) := of_decide_eq_true (by first | (with_reducible assumption) | assumption)
                                obtain ⟨go19, co19, eo19, gb19, gl19, cl19, HG19⟩ := Kd.R_form HO_7.out (by omega)
                                (first | cases eo19 | (injection eo19 with ea_ en_ ec_; (first | subst ea_ | (injection ea_ with ea_; subst ea_)); subst ec_; clear en_))
                                have GB19 := Aside0.mk gb19
                                have GG19 := Aside0.mk HG19
                                clear gb19 gl19 HG19
                                obtain ⟨hx19_0, hf19_0⟩ := Kd.R_celln false HO_7.out (((rd_T52 l1 x9_3).f1) : Int) p19 q19
                                replace p19 := eq_true p19
                                replace q19 := eq_true q19
                                have HP20 := Kd.R_putg HO_7.out (((rd_T52 l1 x9_3).f1) : Int) true
                                go_wp2_with (first | ((with_reducible refine gate_store (t := 4) (p := 60) rfl ?_); refine store_event (t := 4) (p := 60) (v := ?vo_w21) (w1 := (wr.setCell ⟨go19, (((rd_T52 l1 x9_3).f1) : Int).toNat, none⟩ (.bool true))) ?hg ?ho ?hn ?hr ?_; (case ho => rfl); (case hg => rfl); (case hn => rfl); (case hr => first | (go_simp; done) | (go_simp; rfl)); intro w21 hw; have hg : wr.grownBy w21 (some go19) := (by rw [hw]; exact HP20.2); have hp_ : Kd.R Kd.bool 4 w21 w.heap.size (fun _ => True) (.slice (some ⟨go19, 0, none⟩) x7_3.length co19) y122 := (by rw [hw, Ny122.out]; exact HP20.1); clear HP20; have n0_ := Aside0.mk (hp_); have n1_ := Aside0.mk ((by rw [hw]; exact below_set (HB.out) GB19.out : Below w.heap.size w w21)); clear HO_7; clear HB; have HO_7 := n0_; have HB := n1_; clear n0_ n1_; clear hg hw hp_))
                                go_roundg k3
                                case measure => have := HJ3.out; have := HK2.out; have := HK3.out; omega
                                case rel => exact ⟨(y122), (wrap64 (x9_3 + 1)), (by first | rfl | (simp; done) | (simp [*]; done)), H', ⟨by have := HJ3.out; have := HK2.out; have := HK3.out; omega⟩, ⟨by (with_reducible repeat (first | apply Kd.R_alloc | apply Kd.R_drewN | apply Kd.R_drew)); exact HO_7.out⟩, ⟨by repeat (first | (with_reducible first | exact HB.out | apply below_alloc | apply pw_below_drewN | apply below_drew1) | exact HB.out)⟩⟩
                              · rw [if_neg c18] at H
                                exact absurd H (by simp)
                            · rw [if_neg c17] at H
                              exact absurd H (by simp)
                          · rw [if_neg c16] at H
                            have c16b0 : (((rd_T52 l1 x9_3).f0) == a2) = false := beq_eq_false_iff_ne.mpr c16
                            have c16b1 : (((rd_T52 l1 x9_3).f0) != a2) = true := bne_iff_ne.mpr c16
                            by_cases c22 : 0 ≤ ((rd_T52 l1 x9_3).f0)
                            · rw [if_pos c22] at H
                              have c22b0 : decide (0 ≤ ((rd_T52 l1 x9_3).f0)) = true := decide_eq_true c22
                              clear c22
                              by_cases c23 : ((rd_T52 l1 x9_3).f0) < (x7_3.length : Int)
                              · rw [if_pos c23] at H
                                have c23b0 : decide (((rd_T52 l1 x9_3).f0) < (x7_3.length : Int)) = true := decide_eq_true c23
                                clear c23
                                obtain ⟨bq24, hbq24⟩ : ∃ b_ : Bool, b_ = (rdOf false x7_3 ((rd_T52 l1 x9_3).f0)) := ⟨_, rfl⟩
                                replace H : (if bq24 = true then (if 0 ≤ ((rd_T52 l1 x9_3).f1) then (if ((rd_T52 l1 x9_3).f1) < (x7_3.length : Int) then (majordomoref08_Behind.l1 k3 a0 l1 a2 (x7_3.set (((rd_T52 l1 x9_3).f1) : Int).toNat true) x8_2 (wrap64 (x9_3 + 1))) else (none)) else (none)) else (majordomoref08_Behind.l1 k3 a0 l1 a2 x7_3 x8_2 (wrap64 (x9_3 + 1)))) = some r := by rw [← hbq24] at H; exact H
                                have Nbq24 := Aside0.mk hbq24
                                clear hbq24
                                by_cases c25 : bq24 = true
                                · subst c25
                                  have H1 : (if 0 ≤ ((rd_T52 l1 x9_3).f1) then (if ((rd_T52 l1 x9_3).f1) < (x7_3.length : Int) then (majordomoref08_Behind.l1 k3 a0 l1 a2 (x7_3.set (((rd_T52 l1 x9_3).f1) : Int).toNat true) x8_2 (wrap64 (x9_3 + 1))) else (none)) else (none)) = some r := by rw [if_pos rfl] at H; exact H
                                  clear H
                                  have H := H1
                                  clear H1
                                  by_cases c26 : 0 ≤ ((rd_T52 l1 x9_3).f1)
                                  · rw [if_pos c26] at H
                                    have c26b0 : decide (0 ≤ ((rd_T52 l1 x9_3).f1)) = true := decide_eq_true c26
                                    clear c26
                                    by_cases c27 : ((rd_T52 l1 x9_3).f1) < (x7_3.length : Int)
                                    · rw [if_pos c27] at H
                                      have c27b0 : decide (((rd_T52 l1 x9_3).f1) < (x7_3.length : Int)) = true := decide_eq_true c27
                                      clear c27
                                      obtain ⟨y126, hy126⟩ : ∃ y_ : List Bool, y_ = (x7_3.set (((rd_T52 l1 x9_3).f1) : Int).toNat true) := ⟨_, rfl⟩
                                      replace H : (majordomoref08_Behind.l1 k3 a0 l1 a2 y126 x8_2 (wrap64 (x9_3 + 1))) = some r := by first | (rw [hy126]; with_reducible exact H) | (have H2_ := (Option.bind_some _ _).symm.trans H; rw [hy126]; with_reducible exact H2_) | (have H2_ := (Option.bind_some _ _).symm.trans H; with_reducible exact H2_) | with_reducible exact H | (rw [hy126]; exact H) | exact H
                                      have Ny126 := Aside0.mk hy126
                                      clear hy126
                                      have H' := Aside0.mk H
                                      clear H
                                      have p120 : 0 ≤ (x9_3 : Int) := of_decide_eq_true (by first | (with_reducible assumption) | assumption)
                                      have q120 : x9_3 < (l1.length : Int) := of_decide_eq_true (by first | (with_reducible assumption) | assumption)
                                      obtain ⟨ad120, e120, hx120_0, hx120_1, hx120_2⟩ := at_T52 HR1.out x9_3 p120 q120
                                      (try rw [← Nbq24.out] at hx120_2)
                                      cases e120
                                      replace hx120_0 := (HB.out.cell (World.block_lt_of_cell? w _ hx120_0)).trans hx120_0
                                      replace hx120_1 := (HB.out.cell (World.block_lt_of_cell? w _ hx120_1)).trans hx120_1
                                      replace hx120_2 := (HB.out.cell (World.block_lt_of_cell? w _ hx120_2)).trans hx120_2
                                      replace p120 := eq_true p120
                                      replace q120 := eq_true q120
                                      have p123 : 0 ≤ (x9_3 : Int) := of_decide_eq_true (by first | (with_reducible assumption) | assumption)
                                      have q123 : x9_3 < (l1.length : Int) := of_decide_eq_true (by first | (with_reducible assumption) | assumption)
                                      obtain ⟨ad123, e123, hx123_0, hx123_1, hx123_2⟩ := at_T52 HR1.out x9_3 p123 q123
                                      (try rw [← Nbq24.out] at hx123_2)
                                      obtain rfl : ad120 = ad123 := (by injection e123)
                                      replace hx123_0 := (HB.out.cell (World.block_lt_of_cell? w _ hx123_0)).trans hx123_0
                                      replace hx123_1 := (HB.out.cell (World.block_lt_of_cell? w _ hx123_1)).trans hx123_1
                                      replace hx123_2 := (HB.out.cell (World.block_lt_of_cell? w _ hx123_2)).trans hx123_2
                                      replace p123 := eq_true p123
                                      replace q123 := eq_true q123
                                      obtain ⟨Ao29, co29, eo29⟩ := Kd.R_slice HO_7.out
                                      subst eo29
                                      have p124 : 0 ≤ (((rd_T52 l1 x9_3).f0) : Int) := of_decide_eq_true (by first | (with_reducible assumption) | assumption)
                                      have q124 : ((rd_T52 l1 x9_3).f0) < (x7_3.length : Int) := of_decide_eq_true (by first | (with_reducible assumption) | assumption)
                                      obtain ⟨ad124, e124, hx124_0⟩ := Kd.at_bool (Kd.R_reads' HO_7.out).2.2 ((rd_T52 l1 x9_3).f0) p124 q124
                                      (try rw [← Nbq24.out] at hx124_0)
                                      cases e124
                                      replace p124 := eq_true p124
                                      replace q124 := eq_true q124
                                      have p125 : 0 ≤ (x9_3 : Int) := of_decide_eq_true (by first | (with_reducible assumption) | assumption)
                                      have q125 : x9_3 < (l1.length : Int) := of_decide_eq_true (by first | (with_reducible assumption) | assumption)
                                      obtain ⟨ad125, e125, hx125_0, hx125_1, hx125_2⟩ := at_T52 HR1.out x9_3 p125 q125
                                      (try rw [← Nbq24.out] at hx125_2)
                                      obtain rfl : ad120 = ad125 := (by injection e125)
                                      replace hx125_0 := (HB.out.cell (World.block_lt_of_cell? w _ hx125_0)).trans hx125_0
                                      replace hx125_1 := (HB.out.cell (World.block_lt_of_cell? w _ hx125_1)).trans hx125_1
                                      replace hx125_2 := (HB.out.cell (World.block_lt_of_cell? w _ hx125_2)).trans hx125_2
                                      replace p125 := eq_true p125
                                      replace q125 := eq_true q125
                                      have p28 : 0 ≤ (((rd_T52 l1 x9_3).f1) : Int) := of_decide_eq_true (by first | (with_reducible assumption) | assumption)
                                      have q28 : (((rd_T52 l1 x9_3).f1) : Int) < ((x7_3.length : Int) : Int) := of_decide_eq_true (by first | (with_reducible assumption) | assumption)
                                      obtain ⟨go28, co28, eo28, gb28, gl28, cl28, HG28⟩ := Kd.R_form HO_7.out (by omega)
                                      (first | cases eo28 | (injection eo28 with ea_ en_ ec_; (first | subst ea_ | (injection ea_ with ea_; subst ea_)); subst ec_; clear en_))
                                      have GB28 := Aside0.mk gb28
                                      have GG28 := Aside0.mk HG28
                                      clear gb28 gl28 HG28
                                      (first | simp only [add_plain] at hx124_0 | skip)
                                      obtain ⟨hx28_0, hf28_0⟩ := Kd.R_celln false HO_7.out (((rd_T52 l1 x9_3).f1) : Int) p28 q28
                                      replace p28 := eq_true p28
                                      replace q28 := eq_true q28
                                      have HP30 := Kd.R_putg HO_7.out (((rd_T52 l1 x9_3).f1) : Int) true
                                      go_wp2_with (first | ((with_reducible refine gate_store (t := 4) (p := 60) rfl ?_); refine store_event (t := 4) (p := 60) (v := ?vo_w31) (w1 := (wr.setCell ⟨go28, (((rd_T52 l1 x9_3).f1) : Int).toNat, none⟩ (.bool true))) ?hg ?ho ?hn ?hr ?_; (case ho => rfl); (case hg => rfl); (case hn => rfl); (case hr => first | (go_simp; done) | (go_simp; rfl)); intro w31 hw; have hg : wr.grownBy w31 (some go28) := (by rw [hw]; exact HP30.2); have hp_ : Kd.R Kd.bool 4 w31 w.heap.size (fun _ => True) (.slice (some ⟨go28, 0, none⟩) x7_3.length co29) y126 := (by rw [hw, Ny126.out]; exact HP30.1); clear HP30; have n0_ := Aside0.mk (hp_); have n1_ := Aside0.mk ((by rw [hw]; exact below_set (HB.out) GB28.out : Below w.heap.size w w31)); clear HO_7; clear HB; have HO_7 := n0_; have HB := n1_; clear n0_ n1_; clear hg hw hp_))
                                      go_roundg k3
                                      case measure => have := HJ3.out; have := HK2.out; have := HK3.out; omega
                                      case rel => exact ⟨(y126), (wrap64 (x9_3 + 1)), (by first | rfl | (simp; done) | (simp [*]; done)), H', ⟨by have := HJ3.out; have := HK2.out; have := HK3.out; omega⟩, ⟨by (with_reducible repeat (first | apply Kd.R_alloc | apply Kd.R_drewN | apply Kd.R_drew)); exact HO_7.out⟩, ⟨by repeat (first | (with_reducible first | exact HB.out | apply below_alloc | apply pw_below_drewN | apply below_drew1) | exact HB.out)⟩⟩
                                    · rw [if_neg c27] at H
                                      exact absurd H (by simp)
                                  · rw [if_neg c26] at H
                                    exact absurd H (by simp)
                                · replace c25 := Bool.eq_false_iff.mpr c25
                                  subst c25
                                  have H1 : (majordomoref08_Behind.l1 k3 a0 l1 a2 x7_3 x8_2 (wrap64 (x9_3 + 1))) = some r := by rw [if_neg (show ¬ (false = true) by decide)] at H; exact H
                                  clear H
                                  have H := H1
                                  clear H1
                                  have H' := Aside0.mk H
                                  clear H
                                  have p120 : 0 ≤ (x9_3 : Int) := of_decide_eq_true (by first | (with_reducible assumption) | assumption)
                                  have q120 : x9_3 < (l1.length : Int) := of_decide_eq_true (by first | (with_reducible assumption) | assumption)
                                  obtain ⟨ad120, e120, hx120_0, hx120_1, hx120_2⟩ := at_T52 HR1.out x9_3 p120 q120
                                  (try rw [← Nbq24.out] at hx120_2)
                                  cases e120
                                  replace hx120_0 := (HB.out.cell (World.block_lt_of_cell? w _ hx120_0)).trans hx120_0
                                  replace hx120_1 := (HB.out.cell (World.block_lt_of_cell? w _ hx120_1)).trans hx120_1
                                  replace hx120_2 := (HB.out.cell (World.block_lt_of_cell? w _ hx120_2)).trans hx120_2
                                  replace p120 := eq_true p120
                                  replace q120 := eq_true q120
                                  have p123 : 0 ≤ (x9_3 : Int) := of_decide_eq_true (by first | (with_reducible assumption) | assumption)
                                  have q123 : x9_3 < (l1.length : Int) := of_decide_eq_true (by first | (with_reducible assumption) | assumption)
                                  obtain ⟨ad123, e123, hx123_0, hx123_1, hx123_2⟩ := at_T52 HR1.out x9_3 p123 q123
                                  (try rw [← Nbq24.out] at hx123_2)
                                  obtain rfl : ad120 = ad123 := (by injection e123)
                                  replace hx123_0 := (HB.out.cell (World.block_lt_of_cell? w _ hx123_0)).trans hx123_0
                                  replace hx123_1 := (HB.out.cell (World.block_lt_of_cell? w _ hx123_1)).trans hx123_1
                                  replace hx123_2 := (HB.out.cell (World.block_lt_of_cell? w _ hx123_2)).trans hx123_2
                                  replace p123 := eq_true p123
                                  replace q123 := eq_true q123
                                  obtain ⟨Ao32, co32, eo32⟩ := Kd.R_slice HO_7.out
                                  subst eo32
                                  have p124 : 0 ≤ (((rd_T52 l1 x9_3).f0) : Int) := of_decide_eq_true (by first | (with_reducible assumption) | assumption)
                                  have q124 : ((rd_T52 l1 x9_3).f0) < (x7_3.length : Int) := of_decide_eq_true (by first | (with_reducible assumption) | assumption)
                                  obtain ⟨ad124, e124, hx124_0⟩ := Kd.at_bool (Kd.R_reads' HO_7.out).2.2 ((rd_T52 l1 x9_3).f0) p124 q124
                                  (try rw [← Nbq24.out] at hx124_0)
                                  cases e124
                                  replace p124 := eq_true p124
                                  replace q124 := eq_true q124
                                  go_wp2
                                  go_roundg k3
                                  case measure => have := HJ3.out; have := HK2.out; have := HK3.out; omega
                                  case rel => exact ⟨(x7_3), (wrap64 (x9_3 + 1)), (by first | rfl | (simp; done) | (simp [*]; done)), H', ⟨by have := HJ3.out; have := HK2.out; have := HK3.out; omega⟩, ⟨by (with_reducible repeat (first | apply Kd.R_alloc | apply Kd.R_drewN | apply Kd.R_drew)); exact HO_7.out⟩, ⟨by repeat (first | (with_reducible first | exact HB.out | apply below_alloc | apply pw_below_drewN | apply below_drew1) | exact HB.out)⟩⟩
                              · rw [if_neg c23] at H
                                exact absurd H (by simp)
                            · rw [if_neg c22] at H
                              exact absurd H (by simp)
                        · rw [if_neg c15] at H
                          exact absurd H (by simp)
                      · rw [if_neg c14] at H
                        have c14b0 : decide (x9_3 < (l1.length : Int)) = false := decide_eq_false c14
                        clear c14
                        have H' := Aside0.mk H
                        clear H
                        go_wp2
                        go_roundg k3
                        case measure => have := HJ3.out; have := HK2.out; have := HK3.out; omega
                        case rel => exact ⟨(x7_3), (wrap64 (x8_2 + 1)), (by first | rfl | (simp; done) | (simp [*]; done)), H', ⟨by have := HJ3.out; have := HK2.out; have := HK3.out; omega⟩, ⟨by (with_reducible repeat (first | apply Kd.R_alloc | apply Kd.R_drewN | apply Kd.R_drew)); exact HO_7.out⟩, ⟨by repeat (first | (with_reducible first | exact HB.out | apply below_alloc | apply pw_below_drewN | apply below_drew1) | exact HB.out)⟩⟩
                · rw [if_neg c13] at H
                  have c13b0 : decide (x8_2 ≤ a0) = false := decide_eq_false c13
                  clear c13
                  have H' := Aside0.mk H
                  clear H
                  go_wp2
                  go_loopg [10, 11] k2 (fun kq v10 v11 w' => ∃ (x10_3 : List Int) (x11_3 : Int), v11 = .int .i64 x11_3 ∧ Aside0 (majordomoref08_Behind.l2 kq a0 x7_2 x10_3 x11_3 = some r) ∧ Aside0 (kq ≤ k2) ∧ Aside0 (Kd.R Kd.bool 4 w' w.heap.size (fun _ => True) v118 x7_2) ∧ Aside0 (Kd.R (Kd.int .i64) 3 w' w.heap.size (fun _ => True) v10 x10_3) ∧ Aside0 (Below w.heap.size w w'))
                  case atStart => exact ⟨(([] : List Int)), (0), (by first | rfl | (simp; done) | (simp [*]; done)), H', ⟨Nat.le_refl _⟩, ⟨by (with_reducible repeat (first | apply Kd.R_alloc | apply Kd.R_drewN | apply Kd.R_drew)); exact HO_7.out⟩, ⟨by first | exact Kd.R_nil _ _ _ _ _ | exact Kd.N_nil _ _ _ _ _ | exact Kd.V_nil _ _ _ _ _ | exact Kd.Q_nil _ _ _ _ _ | exact Kd.S_nil _ _ _ _ _⟩, ⟨by repeat (first | (with_reducible first | exact HB.out | apply below_alloc | apply pw_below_drewN | apply below_drew1) | exact HB.out)⟩⟩
                  case round =>
                    clear H'
                    try clear c1
                    try clear p1
                    try clear q1
                    try clear hx1
                    try clear c2
                    try clear p2
                    try clear q2
                    try clear hx2
                    try clear c3
                    try clear c4
                    try clear c6
                    try clear p6
                    try clear c7
                    try clear c7b0
                    try clear c8
                    try clear c9
                    try clear c9b0
                    try clear c9b1
                    try clear c10
                    try clear c10b0
                    try clear c10b1
                    try clear p12
                    try clear q12
                    try clear hx12
                    try clear c13
                    try clear c13b0
                    try clear c14
                    try clear c14b0
                    try clear c15
                    try clear c15b0
                    try clear c16
                    try clear c16b0
                    try clear c16b1
                    try clear c17
                    try clear c17b0
                    try clear c18
                    try clear c18b0
                    try clear p19
                    try clear q19
                    try clear hx19
                    try clear hf19
                    try clear c22
                    try clear c22b0
                    try clear c23
                    try clear c23b0
                    try clear q24
                    try clear c25
                    try clear c26
                    try clear c26b0
                    try clear c27
                    try clear c27b0
                    try clear p28
                    try clear q28
                    try clear hx28
                    try clear hf28
                    try clear c30
                    try clear hx120_0
                    try clear hx120_1
                    try clear hx120_2
                    try clear hx121_0
                    try clear hx121_1
                    try clear hx121_2
                    try clear hx123_0
                    try clear hx123_1
                    try clear hx123_2
                    try clear hx124_0
                    try clear hx125_0
                    try clear hx125_1
                    try clear hx125_2
                    try clear hx19_0
                    try clear hx28_0
                    try clear p120
                    try clear p121
                    try clear p123
                    try clear p124
                    try clear p125
                    try clear p19
                    try clear p2
                    try clear p28
                    try clear q120
                    try clear q121
                    try clear q123
                    try clear q124
                    try clear q125
                    try clear q19
                    try clear q28
                    obtain ⟨x10_3, x11_3, rfl, HA, HK3, HO_7, HO_10, HB⟩ := hrel
                    cases gk with
                    | zero => exact absurd HA.out (by simp [majordomoref08_Behind.l2])
                    | succ k3 =>
                      have H := HA.out
                      clear HA
                      simp only [majordomoref08_Behind.l2] at H
                      by_cases c33 : x11_3 < a0
                      · rw [if_pos c33] at H
                        have c33b0 : decide (x11_3 < a0) = true := decide_eq_true c33
                        clear c33
                        by_cases c34 : 0 ≤ x11_3
                        · rw [if_pos c34] at H
                          have c34b0 : decide (0 ≤ x11_3) = true := decide_eq_true c34
                          clear c34
                          by_cases c35 : x11_3 < (x7_2.length : Int)
                          · rw [if_pos c35] at H
                            have c35b0 : decide (x11_3 < (x7_2.length : Int)) = true := decide_eq_true c35
                            clear c35
                            obtain ⟨bq36, hbq36⟩ : ∃ b_ : Bool, b_ = (rdOf false x7_2 x11_3) := ⟨_, rfl⟩
                            replace H : (if bq36 = true then (if x10_3.length < 17592186044416 then (majordomoref08_Behind.l2 k3 a0 x7_2 (x10_3 ++ [x11_3]) (wrap64 (x11_3 + 1))) else (none)) else (majordomoref08_Behind.l2 k3 a0 x7_2 x10_3 (wrap64 (x11_3 + 1)))) = some r := by rw [← hbq36] at H; exact H
                            have Nbq36 := Aside0.mk hbq36
                            clear hbq36
                            by_cases c37 : bq36 = true
                            · subst c37
                              have H1 : (if x10_3.length < 17592186044416 then (majordomoref08_Behind.l2 k3 a0 x7_2 (x10_3 ++ [x11_3]) (wrap64 (x11_3 + 1))) else (none)) = some r := by rw [if_pos rfl] at H; exact H
                              clear H
                              have H := H1
                              clear H1
                              by_cases c38 : x10_3.length < 17592186044416
                              · rw [if_pos c38] at H
                                have LMc38 := Aside0.mk c38
                                clear c38
                                obtain ⟨y128, hy128⟩ : ∃ y_ : List Int, y_ = (x10_3 ++ [x11_3]) := ⟨_, rfl⟩
                                replace H : (majordomoref08_Behind.l2 k3 a0 x7_2 y128 (wrap64 (x11_3 + 1))) = some r := by first | (rw [hy128]; with_reducible exact H) | (have H2_ := (Option.bind_some _ _).symm.trans H; rw [hy128]; with_reducible exact H2_) | (have H2_ := (Option.bind_some _ _).symm.trans H; with_reducible exact H2_) | with_reducible exact H | (rw [hy128]; exact H) | exact H
                                have Ny128 := Aside0.mk hy128
                                clear hy128
                                have H' := Aside0.mk H
                                clear H
                                obtain ⟨Ao39, co39, eo39⟩ := Kd.R_slice HO_7.out
                                subst eo39
                                have p127 : 0 ≤ (x11_3 : Int) := of_decide_eq_true (by first | (with_reducible assumption) | assumption)
                                have q127 : x11_3 < (x7_2.length : Int) := of_decide_eq_true (by first | (with_reducible assumption) | assumption)
                                obtain ⟨ad127, e127, hx127_0⟩ := Kd.at_bool (Kd.R_reads' HO_7.out).2.2 x11_3 p127 q127
                                (try rw [← Nbq36.out] at hx127_0)
                                cases e127
                                replace p127 := eq_true p127
                                replace q127 := eq_true q127
                                go_wp2_with (first | ((with_reducible refine gate_builtin (b := .append) (xs := #[.tmp 70, .tmp 72]) rfl ?_); at_builtin; refine Kd.R_append (Kd.int .i64) (w0 := w) w.heap.size rfl (.tmp 70) (.tmp 72) 45 3 (.int .i64 0) 8 rfl Try.underlying45 info3 rfl (by decide) (by omega) u10 x10_3 x11_3 [.int .i64 x11_3] (fun _ => True) (fun _ => False) rfl rfl ?aP (fun _ hk => hk.elim) ?aF ?aO ?aB ?aS ?aL ?_; (case aP => exact rfl); (case aB => exact (by repeat (first | (with_reducible first | exact HB.out | apply below_alloc | apply pw_below_drewN | apply below_drew1) | exact HB.out))); (case aF => exact (fun _ _ => trivial)); (case aO => exact (by (with_reducible repeat (first | apply Kd.R_alloc | apply Kd.R_drewN | apply Kd.R_drew)); exact HO_10.out)); (case aS => exact (below_size (by repeat (first | (with_reducible first | exact HB.out | apply below_alloc | apply pw_below_drewN | apply below_drew1) | exact HB.out)))); (case aL => have := LMc38.out; omega); intro v129 w40 ho hb hg hat; rw [← Ny128.out] at ho; have n0_ := Aside0.mk (Kd.R_over' (by (with_reducible repeat (first | apply Kd.R_alloc | apply Kd.R_drewN | apply Kd.R_drew)); exact HO_7.out) (Kd.R_typed (by (with_reducible repeat (first | apply Kd.R_alloc | apply Kd.R_drewN | apply Kd.R_drew)); exact HO_10.out)) (by decide) hg); have n1_ := Aside0.mk (hb); have n2_ := Aside0.mk (ho); clear HO_7; clear HB; clear HO_10; have HO_7 := n0_; have HB := n1_; have HO130 := n2_; clear n0_ n1_ n2_; clear ho hb hg hat))
                                go_roundg k3
                                case measure => have := HJ3.out; have := HK2.out; have := HK3.out; omega
                                case rel => exact ⟨(y128), (wrap64 (x11_3 + 1)), (by first | rfl | (simp; done) | (simp [*]; done)), H', ⟨by have := HJ3.out; have := HK2.out; have := HK3.out; omega⟩, ⟨by (with_reducible repeat (first | apply Kd.R_alloc | apply Kd.R_drewN | apply Kd.R_drew)); exact HO_7.out⟩, ⟨by (with_reducible repeat (first | apply Kd.R_alloc | apply Kd.R_drewN | apply Kd.R_drew)); exact HO130.out⟩, ⟨by repeat (first | (with_reducible first | exact HB.out | apply below_alloc | apply pw_below_drewN | apply below_drew1) | exact HB.out)⟩⟩
                              · rw [if_neg c38] at H
                                exact absurd H (by simp)
                            · replace c37 := Bool.eq_false_iff.mpr c37
                              subst c37
                              have H1 : (majordomoref08_Behind.l2 k3 a0 x7_2 x10_3 (wrap64 (x11_3 + 1))) = some r := by rw [if_neg (show ¬ (false = true) by decide)] at H; exact H
                              clear H
                              have H := H1
                              clear H1
                              have H' := Aside0.mk H
                              clear H
                              obtain ⟨Ao41, co41, eo41⟩ := Kd.R_slice HO_7.out
                              subst eo41
                              have p127 : 0 ≤ (x11_3 : Int) := of_decide_eq_true (by first | (with_reducible assumption) | assumption)
                              have q127 : x11_3 < (x7_2.length : Int) := of_decide_eq_true (by first | (with_reducible assumption) | assumption)
                              obtain ⟨ad127, e127, hx127_0⟩ := Kd.at_bool (Kd.R_reads' HO_7.out).2.2 x11_3 p127 q127
                              (try rw [← Nbq36.out] at hx127_0)
                              cases e127
                              replace p127 := eq_true p127
                              replace q127 := eq_true q127
                              go_wp2
                              go_roundg k3
                              case measure => have := HJ3.out; have := HK2.out; have := HK3.out; omega
                              case rel => exact ⟨(x10_3), (wrap64 (x11_3 + 1)), (by first | rfl | (simp; done) | (simp [*]; done)), H', ⟨by have := HJ3.out; have := HK2.out; have := HK3.out; omega⟩, ⟨by (with_reducible repeat (first | apply Kd.R_alloc | apply Kd.R_drewN | apply Kd.R_drew)); exact HO_7.out⟩, ⟨by (with_reducible repeat (first | apply Kd.R_alloc | apply Kd.R_drewN | apply Kd.R_drew)); exact HO_10.out⟩, ⟨by repeat (first | (with_reducible first | exact HB.out | apply below_alloc | apply pw_below_drewN | apply below_drew1) | exact HB.out)⟩⟩
                          · rw [if_neg c35] at H
                            exact absurd H (by simp)
                        · rw [if_neg c34] at H
                          exact absurd H (by simp)
                      · rw [if_neg c33] at H
                        have c33b0 : decide (x11_3 < a0) = false := decide_eq_false c33
                        clear c33
                        obtain rfl := Option.some.inj H
                        go_wp2
                        go_ret
                        exact ⟨_, by first | rfl | (simp [errW_none, errW_some] <;> rfl) | (simp [*, errW_none, errW_some] <;> rfl), by (with_reducible repeat (first | apply Kd.R_alloc | apply Kd.R_drewN | apply Kd.R_drew)); exact HO_10.out, by repeat (first | (with_reducible first | exact HB.out | apply below_alloc | apply pw_below_drewN | apply below_drew1) | exact HB.out)⟩
          · rw [if_neg c10] at H
            exact absurd H (by simp)
        · rw [if_neg c9] at H
          exact absurd H (by simp)

-- NOT PRINTED: function 6 (majordomolaw08_GraphBehind)

end Go.Proofs.Ytcgcojdkkkfkdaa.PGraphBehind
