-- PRINTED BY print.sh 35421559b90ae4d0a3588c463048766b98c2df88dd9212a6774a882060cdf62d: not written by this session
import Derived.Test.YtcgcojdkkkfkdaaPDiskPlaysx0
namespace Go.Proofs.Ytcgcojdkkkfkdaa.PDiskPlays
open Go.RowKit Go.Proofs.YtcgcojdkkkfkdaaW.PrintWords Go.Proofs.YtcgcojdkkkfkdaaW.PrintLast Go.Proofs.YtcgcojdkkkfkdaaW.PrintMore
attribute [local go_sem] max2_int min2_int max_two min_two max_three min_three max_four min_four   -- for this text's walks alone
set_option linter.unusedVariables false
set_option linter.unusedSimpArgs false

-- NOT PRINTED: function 10 (disk_New)

/-! ### majordomolaw01_full: function 15 -/
def majordomolaw01_full.l0 : Nat → Int → List Int → Int → Option (List Int)
  | 0, _, _, _ => none
  | k + 1, x0, x3, x4 => if x4 < (x3.length : Int) then (if 0 ≤ x4 then (majordomolaw01_full.l0 k x0 (x3.set (x4 : Int).toNat x0) (wrap64 (x4 + 1))) else (none)) else (some x3)
def majordomolaw01_full.f (k : Nat) (a0 : Int) : Option (List Int) := if 64 ≤ 281474976710656 then (majordomolaw01_full.l0 k a0 (List.replicate 64 0) 0) else (none)
theorem majordomolaw01_full.mono_l : ∀ k, (∀ y0 y1 y2, LeO (majordomolaw01_full.l0 k y0 y1 y2) (majordomolaw01_full.l0 (k + 1) y0 y1 y2))
  | 0 => fun _ _ _ r h => by simp [majordomolaw01_full.l0] at h
  | k + 1 => by
    have ih0 := majordomolaw01_full.mono_l k
    · intro y0 y1 y2
      unfold majordomolaw01_full.l0
      repeat' first
      | (with_reducible exact ih0 _ _ _)
      | (with_reducible exact LeO.refl _)
      | (with_reducible exact LeO.none _)
      | (with_reducible refine LeO.ite ?_ ?_)
      | (with_reducible refine LeO.bind ?_ (fun _ => ?_))
      | exact ih0 _ _ _
      | exact LeO.none _
      | refine LeO.ite ?_ ?_
      | refine LeO.bind ?_ (fun _ => ?_)
theorem majordomolaw01_full.mono : ∀ a0 k, LeO (majordomolaw01_full.f k a0) (majordomolaw01_full.f (k + 1) a0) := by
  intro a0 k
  have ih0 := majordomolaw01_full.mono_l k
  unfold majordomolaw01_full.f
  repeat' first
      | (with_reducible exact ih0 _ _ _)
      | (with_reducible exact LeO.refl _)
      | (with_reducible exact LeO.none _)
      | (with_reducible refine LeO.ite ?_ ?_)
      | (with_reducible refine LeO.bind ?_ (fun _ => ?_))
      | exact ih0 _ _ _
      | exact LeO.none _
      | refine LeO.ite ?_ ?_
      | refine LeO.bind ?_ (fun _ => ?_)
set_option maxHeartbeats 8000000 in
set_option maxRecDepth 100000 in
theorem majordomolaw01_full.calls (k : Nat) (a0 : Int) (r : List Int) (w : World) (h : majordomolaw01_full.f k a0 = some r) :
    Calls Try.prog 15 #[.int .u8 a0] w fun e w' => ∃ v0_ : Value, e = .returned (v0_) ∧ Kd.R (Kd.int .u8) 5 w' w.heap.size (fun _ => True) v0_ r ∧ Below w.heap.size w w' := by
  have HB := Aside0.mk (Below.refl w.heap.size w)
  have H : (if 64 ≤ 281474976710656 then (majordomolaw01_full.l0 k a0 (List.replicate 64 0) 0) else (none)) = some r := h
  clear h
  by_cases c2 : 64 ≤ 281474976710656
  · rw [if_pos c2] at H
    have c2b0 := eq_true c2
    have c2b1 : decide (64 ≤ 281474976710656) = true := decide_eq_true c2
    clear c2
    obtain ⟨y101, hy101⟩ : ∃ y_ : List Int, y_ = (List.replicate 64 0) := ⟨_, rfl⟩
    replace H : (majordomolaw01_full.l0 k a0 y101 0) = some r := by first | (rw [hy101]; with_reducible exact H) | (have H2_ := (Option.bind_some _ _).symm.trans H; rw [hy101]; with_reducible exact H2_) | (have H2_ := (Option.bind_some _ _).symm.trans H; with_reducible exact H2_) | with_reducible exact H | (rw [hy101]; exact H) | exact H
    have Ny101 := Aside0.mk hy101
    clear hy101
    have H' := Aside0.mk H
    clear H
    go_enter Try.func15, Try.ntmps15
    go_wp2_with (first | ((with_reducible refine gate_dst (N := 5) rfl ?_); refine Kd.R_make (Kd.int .u8) _ 5 rfl (N := 5) rfl 36 _ _ rfl 64 rfl rfl Try.underlying36 (.int .u8 0) 1 info5 rfl (by decide) (by omega) 0 (ok := fun _ => True) (okp := fun _ => True) rfl (fun _ hk => hk) trivial (by omega) (by omega) (Below.refl _ _) (Nat.le_refl _) ?_; intro v102 w3 ho4 hb hg_ hnew_; clear hg_ hnew_; (first | rw [← Ny101.out] at ho4 | (simp only [Int.reduceToNat] at ho4; rw [← Ny101.out] at ho4)); have n0_ := Aside0.mk (Kd.R_lower ho4 (below_size (by repeat (first | (with_reducible first | exact HB.out | apply below_alloc | apply pw_below_drewN | apply below_drew1) | exact HB.out)))); have n1_ := Aside0.mk (below_step (by repeat (first | (with_reducible first | exact HB.out | apply below_alloc | apply pw_below_drewN | apply below_drew1) | exact HB.out)) hb); clear HB; have HO103 := n0_; have HB := n1_; clear n0_ n1_; clear hb ho4))
    go_loopg [4] k (fun kq v4 w' => ∃ (x3_1 : List Int) (x4_1 : Int), v4 = .int .i64 x4_1 ∧ Aside0 (majordomolaw01_full.l0 kq a0 x3_1 x4_1 = some r) ∧ Aside0 (kq ≤ k) ∧ Aside0 (Kd.R (Kd.int .u8) 5 w' w.heap.size (fun _ => True) v102 x3_1) ∧ Aside0 (Below w.heap.size w w'))
    case atStart => exact ⟨(y101), (0), (by first | rfl | (simp; done) | (simp [*]; done)), H', ⟨Nat.le_refl _⟩, ⟨by (with_reducible repeat (first | apply Kd.R_alloc | apply Kd.R_drewN | apply Kd.R_drew)); exact HO103.out⟩, ⟨by repeat (first | (with_reducible first | exact HB.out | apply below_alloc | apply pw_below_drewN | apply below_drew1) | exact HB.out)⟩⟩
    case round =>
      clear H'
      try clear c1
      try clear c2
      try clear c2b0
      try clear c2b1
      try clear p2
      obtain ⟨x3_1, x4_1, rfl, HA, HK1, HO_3, HB⟩ := hrel
      cases gk with
      | zero => exact absurd HA.out (by simp [majordomolaw01_full.l0])
      | succ k1 =>
        have H := HA.out
        clear HA
        simp only [majordomolaw01_full.l0] at H
        by_cases c5 : x4_1 < (x3_1.length : Int)
        · rw [if_pos c5] at H
          have c5b0 : decide (x4_1 < (x3_1.length : Int)) = true := decide_eq_true c5
          clear c5
          by_cases c6 : 0 ≤ x4_1
          · rw [if_pos c6] at H
            have c6b0 : decide (0 ≤ x4_1) = true := decide_eq_true c6
            clear c6
            obtain ⟨y104, hy104⟩ : ∃ y_ : List Int, y_ = (x3_1.set (x4_1 : Int).toNat a0) := ⟨_, rfl⟩
            replace H : (majordomolaw01_full.l0 k1 a0 y104 (wrap64 (x4_1 + 1))) = some r := by first | (rw [hy104]; with_reducible exact H) | (have H2_ := (Option.bind_some _ _).symm.trans H; rw [hy104]; with_reducible exact H2_) | (have H2_ := (Option.bind_some _ _).symm.trans H; with_reducible exact H2_) | with_reducible exact H | (rw [hy104]; exact H) | exact H
            have Ny104 := Aside0.mk hy104
            clear hy104
            have H' := Aside0.mk H
            clear H
            obtain ⟨Ao8, co8, eo8⟩ := Kd.R_slice HO_3.out
            subst eo8
            have p7 : 0 ≤ (x4_1 : Int) := of_decide_eq_true (by first | (with_reducible assumption) | assumption)
            have q7 : (x4_1 : Int) < ((x3_1.length : Int) : Int) := of_decide_eq_true (by first | (with_reducible assumption) | assumption)
            obtain ⟨go7, co7, eo7, gb7, gl7, cl7, HG7⟩ := Kd.R_form HO_3.out (by omega)
            (first | cases eo7 | (injection eo7 with ea_ en_ ec_; (first | subst ea_ | (injection ea_ with ea_; subst ea_)); subst ec_; clear en_))
            have GB7 := Aside0.mk gb7
            have GG7 := Aside0.mk HG7
            clear gb7 gl7 HG7
            obtain ⟨hx7_0, hf7_0⟩ := Kd.R_celln 0 HO_3.out (x4_1 : Int) p7 q7
            replace p7 := eq_true p7
            replace q7 := eq_true q7
            have HP9 := Kd.R_putg HO_3.out (x4_1 : Int) a0
            go_wp2_with (first | ((with_reducible refine gate_store (t := 5) (p := 15) rfl ?_); refine store_event (t := 5) (p := 15) (v := ?vo_w10) (w1 := (wr.setCell ⟨go7, (x4_1 : Int).toNat, none⟩ (.int .u8 a0))) ?hg ?ho ?hn ?hr ?_; (case ho => rfl); (case hg => rfl); (case hn => rfl); (case hr => first | (go_simp; done) | (go_simp; rfl)); intro w10 hw; have hg : wr.grownBy w10 (some go7) := (by rw [hw]; exact HP9.2); have hp_ : Kd.R (Kd.int .u8) 5 w10 w.heap.size (fun _ => True) (.slice (some ⟨go7, 0, none⟩) x3_1.length co8) y104 := (by rw [hw, Ny104.out]; exact HP9.1); clear HP9; have n0_ := Aside0.mk (hp_); have n1_ := Aside0.mk ((by rw [hw]; exact below_set (HB.out) GB7.out : Below w.heap.size w w10)); clear HO_3; clear HB; have HO_3 := n0_; have HB := n1_; clear n0_ n1_; clear hg hw hp_))
            go_roundg k1
            case measure => have := HK1.out; omega
            case rel => exact ⟨(y104), (wrap64 (x4_1 + 1)), (by first | rfl | (simp; done) | (simp [*]; done)), H', ⟨by have := HK1.out; omega⟩, ⟨by (with_reducible repeat (first | apply Kd.R_alloc | apply Kd.R_drewN | apply Kd.R_drew)); exact HO_3.out⟩, ⟨by repeat (first | (with_reducible first | exact HB.out | apply below_alloc | apply pw_below_drewN | apply below_drew1) | exact HB.out)⟩⟩
          · rw [if_neg c6] at H
            exact absurd H (by simp)
        · rw [if_neg c5] at H
          have c5b0 : decide (x4_1 < (x3_1.length : Int)) = false := decide_eq_false c5
          clear c5
          obtain rfl := Option.some.inj H
          obtain ⟨Ao11, co11, eo11⟩ := Kd.R_slice HO_3.out
          subst eo11
          go_wp2
          go_ret
          exact ⟨_, by first | rfl | (simp [errW_none, errW_some] <;> rfl) | (simp [*, errW_none, errW_some] <;> rfl), by (with_reducible repeat (first | apply Kd.R_alloc | apply Kd.R_drewN | apply Kd.R_drew)); exact HO_3.out, by repeat (first | (with_reducible first | exact HB.out | apply below_alloc | apply pw_below_drewN | apply below_drew1) | exact HB.out)⟩
  · rw [if_neg c2] at H
    exact absurd H (by simp)

-- NOT PRINTED: function 34 (disk_Disk_check)

-- NOT PRINTED: function 16 (disk_Disk_Write)

-- NOT PRINTED: function 18 (disk_Disk_Read)

-- NOT PRINTED: function 19 (disk_Disk_Fuse)

-- NOT PRINTED: function 21 (disk_Disk_Boot)

-- NOT PRINTED: function 31 (disk_Disk_On)

-- NOT PRINTED: function 32 (disk_Disk_Writes)

-- NOT PRINTED: function 9 (majordomolaw01_shown)

-- NOT PRINTED: function 11 (majordomoref01_New)

-- NOT PRINTED: function 41 (maps_clone)

-- NOT PRINTED: function 33 (disk_block)

-- NOT PRINTED: function 12 (disk_Disk_Clone)

-- NOT PRINTED: function 13 (majordomoref01_Disk_Clone)

/-! ### majordomolaw01_kind: function 14 -/
def majordomolaw01_kind.f (a0 : Int) (a1 : Int) : Option (Int) := if a0 < 0 then (if a1 = 0 then (none) else (some (Int.tmod (wrap64 (-(wrap64 (a0 + 1)))) a1))) else (if a1 = 0 then (none) else (some (Int.tmod a0 a1)))
set_option maxHeartbeats 8000000 in
set_option maxRecDepth 100000 in
theorem majordomolaw01_kind.calls (a0 : Int) (a1 : Int) (r : Int) (w : World) (h : majordomolaw01_kind.f a0 a1 = some r) :
    Calls Try.prog 14 #[.int .i64 a0, .int .i64 a1] w fun e w' => e = .returned (.int .i64 r) ∧ Drawn0 w w' := by
  have H : (if a0 < 0 then (if a1 = 0 then (none) else (some (Int.tmod (wrap64 (-(wrap64 (a0 + 1)))) a1))) else (if a1 = 0 then (none) else (some (Int.tmod a0 a1)))) = some r := h
  clear h
  by_cases c3 : a0 < 0
  · rw [if_pos c3] at H
    have c3b0 : decide (a0 < 0) = true := decide_eq_true c3
    clear c3
    by_cases c4 : a1 = 0
    · rw [if_pos c4] at H
      exact absurd H (by simp)
    · rw [if_neg c4] at H
      have c4b0 : (a1 == 0) = false := beq_eq_false_iff_ne.mpr c4
      have c4b1 : (a1 != 0) = true := bne_iff_ne.mpr c4
      obtain rfl := Option.some.inj H
      go_enter Try.func14, Try.ntmps14
      go_wp2
      go_ret
      exact ⟨by first | rfl | (simp; done) | (simp [*]; done), by repeat (first | exact Drawn0.refl _ | apply Drawn0.step)⟩
  · rw [if_neg c3] at H
    have c3b0 : decide (a0 < 0) = false := decide_eq_false c3
    clear c3
    by_cases c5 : a1 = 0
    · rw [if_pos c5] at H
      exact absurd H (by simp)
    · rw [if_neg c5] at H
      have c5b0 : (a1 == 0) = false := beq_eq_false_iff_ne.mpr c5
      have c5b1 : (a1 != 0) = true := bne_iff_ne.mpr c5
      obtain rfl := Option.some.inj H
      go_enter Try.func14, Try.ntmps14
      go_wp2
      go_ret
      exact ⟨by first | rfl | (simp; done) | (simp [*]; done), by repeat (first | exact Drawn0.refl _ | apply Drawn0.step)⟩

-- NOT PRINTED: function 17 (majordomoref01_Disk_Write)

/-- A state of type 65 at block g of W; what its slices lead to came in by w0. -/
def IsS65 (w0 W : World) (g : Nat) (f0 : List (List Int)) (f1 : Bool) (f2 : Bool) (f3 : Int) (f4 : Int) : Prop := ∃ A0 c0, W.heap[g]? = some (.cells #[.slice A0 f0.length c0, .bool f1, .bool f2, .int .i64 f3, .int .i64 f4] 65 (0, 0)) ∧ w0.heap.size ≤ g ∧ Kd.C (Kd.slice 5 (Kd.int .u8)) w0 A0 f0.length f0
theorem IsS65.grown {w0 W : World} {g : Nat} {f0 : List (List Int)} {f1 : Bool} {f2 : Bool} {f3 : Int} {f4 : Int} {W1 : World} {row : Option Nat} (h : IsS65 w0 W g f0 f1 f2 f3 f4) (hw : W.grownBy W1 row) (hne : some g ≠ row) : IsS65 w0 W1 g f0 f1 f2 f3 f4 := by
  obtain ⟨A0, c0, hb, hg, hr0⟩ := h
  exact ⟨A0, c0, blk_grown hb hw hne, hg, hr0⟩
theorem IsS65.own_neN {w0 W : World} {g : Nat} {f0 : List (List Int)} {f1 : Bool} {f2 : Bool} {f3 : Int} {f4 : Int} {α : Type} {d : Kd α} {e : Nat} {base : Nat} {ok : Nat → Prop} {v : Value} {xs : List α} (h : IsS65 w0 W g f0 f1 f2 f3 f4) (ho : Kd.N d e W base ok v xs) (ht : e ≠ 65) : some g ≠ v.ownBlock := by
  obtain ⟨A0, c0, hb, hg, hr0⟩ := h
  exact Kd.N_ne ho hb ht
theorem IsS65.fresh {w0 W : World} {g : Nat} {f0 : List (List Int)} {f1 : Bool} {f2 : Bool} {f3 : Int} {f4 : Int} (h : IsS65 w0 W g f0 f1 f2 f3 f4) : ∀ k, W.heap.size ≤ k → k ≠ g := by
  obtain ⟨A0, c0, hb, hg, hr0⟩ := h
  exact Kd.freshB hb
theorem IsS65.kept {w0 W : World} {g : Nat} {f0 : List (List Int)} {f1 : Bool} {f2 : Bool} {f3 : Int} {f4 : Int} {W1 : World} {S : Nat → Prop} (h : IsS65 w0 W g f0 f1 f2 f3 f4) (hk : Kept W W1 S) (hne : ¬ S g) : IsS65 w0 W1 g f0 f1 f2 f3 f4 := by
  obtain ⟨A0, c0, hb, hg, hr0⟩ := h
  exact ⟨A0, c0, blk_kept hb hk hne, hg, hr0⟩
theorem IsS65.below {w0 W : World} {g : Nat} {f0 : List (List Int)} {f1 : Bool} {f2 : Bool} {f3 : Int} {f4 : Int} {W1 : World} (h : IsS65 w0 W g f0 f1 f2 f3 f4) (hw : Below W.heap.size W W1) : IsS65 w0 W1 g f0 f1 f2 f3 f4 := h.grown (grown_of_below hw none) (by simp)
theorem IsS65.alloc {w0 W : World} {g : Nat} {f0 : List (List Int)} {f1 : Bool} {f2 : Bool} {f3 : Int} {f4 : Int} (h : IsS65 w0 W g f0 f1 f2 f3 f4) (o : Obj) : IsS65 w0 (W.alloc o) g f0 f1 f2 f3 f4 := h.below (below_alloc (Below.refl _ _) o)
theorem IsS65.drewN {w0 W : World} {g : Nat} {f0 : List (List Int)} {f1 : Bool} {f2 : Bool} {f3 : Int} {f4 : Int} (h : IsS65 w0 W g f0 f1 f2 f3 f4) (m : Nat) : IsS65 w0 (W.drewN m) g f0 f1 f2 f3 f4 := h
theorem IsS65.drew {w0 W : World} {g : Nat} {f0 : List (List Int)} {f1 : Bool} {f2 : Bool} {f3 : Int} {f4 : Int} (h : IsS65 w0 W g f0 f1 f2 f3 f4) : IsS65 w0 W.drew g f0 f1 f2 f3 f4 := h
theorem IsS65.at_ {w0 W : World} {g : Nat} {f0 : List (List Int)} {f1 : Bool} {f2 : Bool} {f3 : Int} {f4 : Int} {w' : World} {m : Nat} (hq : W.drewN m = w') (h : IsS65 w0 W g f0 f1 f2 f3 f4) : IsS65 w0 w' g f0 f1 f2 f3 f4 := by subst hq; exact IsS65.drewN h m
theorem IsS65.apart {w0 W : World} {g : Nat} {f0 : List (List Int)} {f1 : Bool} {f2 : Bool} {f3 : Int} {f4 : Int} {α : Type} {d : Kd α} {e : Nat} {base : Nat} {ok : Nat → Prop} {v : Value} {xs : List α} (h : IsS65 w0 W g f0 f1 f2 f3 f4) (ho : d.R e W base ok v xs) (ht : ∀ q, q ∈ e :: d.E → q ≠ 65) : d.R e W base (fun k => ok k ∧ k ≠ g) v xs := by
  obtain ⟨A0, c0, hb, hg, hr0⟩ := h
  exact Kd.R_types ho hb ht
theorem IsS65.own_ne {w0 W : World} {g : Nat} {f0 : List (List Int)} {f1 : Bool} {f2 : Bool} {f3 : Int} {f4 : Int} {α : Type} {d : Kd α} {e : Nat} {base : Nat} {ok : Nat → Prop} {v : Value} {xs : List α} (h : IsS65 w0 W g f0 f1 f2 f3 f4) (ho : d.R e W base ok v xs) (ht : e ≠ 65) : some g ≠ v.ownBlock := by
  obtain ⟨A0, c0, hb, hg, hr0⟩ := h
  exact Kd.R_ne ho hb ht
theorem IsS65.apartQ {w0 W : World} {g : Nat} {f0 : List (List Int)} {f1 : Bool} {f2 : Bool} {f3 : Int} {f4 : Int} {α : Type} {d : Kd α} {e : Nat} {base : Nat} {ok : Nat → Prop} {v : Value} {xs : List α} (h : IsS65 w0 W g f0 f1 f2 f3 f4) (ho : d.Q e W base ok v xs) (ht : ∀ q, q ∈ e :: d.E → q ≠ 65) : d.Q e W base (fun k => ok k ∧ k ≠ g) v xs := by
  obtain ⟨A0, c0, hb, hg, hr0⟩ := h
  exact Kd.Q_types ho hb ht
theorem IsS65.own_neQ {w0 W : World} {g : Nat} {f0 : List (List Int)} {f1 : Bool} {f2 : Bool} {f3 : Int} {f4 : Int} {α : Type} {d : Kd α} {e : Nat} {base : Nat} {ok : Nat → Prop} {v : Value} {xs : List α} (h : IsS65 w0 W g f0 f1 f2 f3 f4) (ho : d.Q e W base ok v xs) (ht : e ≠ 65) : some g ≠ v.ownBlock := by
  obtain ⟨A0, c0, hb, hg, hr0⟩ := h
  exact Kd.Q_ne ho hb ht
theorem IsS65.apartS {w0 W : World} {g : Nat} {f0 : List (List Int)} {f1 : Bool} {f2 : Bool} {f3 : Int} {f4 : Int} {α : Type} {d : Kd α} {e : Nat} {base : Nat} {ok : Nat → Prop} {v : Value} {xs : List α} (h : IsS65 w0 W g f0 f1 f2 f3 f4) (ho : d.S e W base ok v xs) (ht : ∀ q, q ∈ e :: d.E → q ≠ 65) : d.S e W base (fun k => ok k ∧ k ≠ g) v xs := by
  obtain ⟨A0, c0, hb, hg, hr0⟩ := h
  exact Kd.S_types ho hb ht
theorem IsS65.own_neS {w0 W : World} {g : Nat} {f0 : List (List Int)} {f1 : Bool} {f2 : Bool} {f3 : Int} {f4 : Int} {α : Type} {d : Kd α} {e : Nat} {base : Nat} {ok : Nat → Prop} {v : Value} {xs : List α} (h : IsS65 w0 W g f0 f1 f2 f3 f4) (ho : d.S e W base ok v xs) (ht : e ≠ 65) : some g ≠ v.ownBlock := by
  obtain ⟨A0, c0, hb, hg, hr0⟩ := h
  exact Kd.S_ne ho hb ht
theorem IsS65.lt {w0 W : World} {g : Nat} {f0 : List (List Int)} {f1 : Bool} {f2 : Bool} {f3 : Int} {f4 : Int} (h : IsS65 w0 W g f0 f1 f2 f3 f4) : g < W.heap.size := by
  obtain ⟨A0, c0, hb, hg, hr0⟩ := h
  exact blk_lt hb
theorem IsS65.ge {w0 W : World} {g : Nat} {f0 : List (List Int)} {f1 : Bool} {f2 : Bool} {f3 : Int} {f4 : Int} (h : IsS65 w0 W g f0 f1 f2 f3 f4) : w0.heap.size ≤ g := by
  obtain ⟨A0, c0, hb, hg, hr0⟩ := h
  exact hg
theorem IsS65.ne_blk {w0 W : World} {g : Nat} {f0 : List (List Int)} {f1 : Bool} {f2 : Bool} {f3 : Int} {f4 : Int} {a : Nat} {cs : Array Value} {t : TypeId} {fr : Nat × Nat} (h : IsS65 w0 W g f0 f1 f2 f3 f4) (hb2 : W.heap[a]? = some (.cells cs t fr)) (ht : t ≠ 65) : g ≠ a := by
  obtain ⟨A0, c0, hb, hg, hr0⟩ := h
  rintro rfl
  rw [hb] at hb2
  injection hb2 with hb2
  injection hb2 with _ ht2
  exact ht ht2.symm
theorem IsS65.far {w0 W : World} {g : Nat} {f0 : List (List Int)} {f1 : Bool} {f2 : Bool} {f3 : Int} {f4 : Int} {p : Addr} (h : IsS65 w0 W g f0 f1 f2 f3 f4) (hne : g ≠ p.block) (u : Value) : IsS65 w0 (W.setCell p u) g f0 f1 f2 f3 f4 := by
  obtain ⟨A0, c0, hb, hg, hr0⟩ := h
  exact ⟨A0, c0, blk_far hb hne u, hg, hr0⟩
theorem cellS65_0 {W : World} {g : Nat} {A0 : Option Addr} {c0 : Nat} {f0 : List (List Int)} {f1 : Bool} {f2 : Bool} {f3 : Int} {f4 : Int} (h : W.heap[g]? = some (.cells #[.slice A0 f0.length c0, .bool f1, .bool f2, .int .i64 f3, .int .i64 f4] 65 (0, 0))) : W.cell? ⟨g, 0, none⟩ = some (.slice A0 f0.length c0) := (blk_cell h 0).trans rfl
theorem cellS65_1 {W : World} {g : Nat} {A0 : Option Addr} {c0 : Nat} {f0 : List (List Int)} {f1 : Bool} {f2 : Bool} {f3 : Int} {f4 : Int} (h : W.heap[g]? = some (.cells #[.slice A0 f0.length c0, .bool f1, .bool f2, .int .i64 f3, .int .i64 f4] 65 (0, 0))) : W.cell? ⟨g, 1, none⟩ = some (.bool f1) := (blk_cell h 1).trans rfl
theorem IsS65.set_1 {w0 W : World} {g : Nat} {f0 : List (List Int)} {f1 : Bool} {f2 : Bool} {f3 : Int} {f4 : Int} (h : IsS65 w0 W g f0 f1 f2 f3 f4) (x : Bool) : IsS65 w0 (W.setCell ⟨g, 1, none⟩ (.bool x)) g f0 x f2 f3 f4 := by
  obtain ⟨A0, c0, hb, hg, hr0⟩ := h
  exact ⟨A0, c0, by simpa using blk_set hb 1 (.bool x), hg, hr0⟩
theorem cellS65_2 {W : World} {g : Nat} {A0 : Option Addr} {c0 : Nat} {f0 : List (List Int)} {f1 : Bool} {f2 : Bool} {f3 : Int} {f4 : Int} (h : W.heap[g]? = some (.cells #[.slice A0 f0.length c0, .bool f1, .bool f2, .int .i64 f3, .int .i64 f4] 65 (0, 0))) : W.cell? ⟨g, 2, none⟩ = some (.bool f2) := (blk_cell h 2).trans rfl
theorem IsS65.set_2 {w0 W : World} {g : Nat} {f0 : List (List Int)} {f1 : Bool} {f2 : Bool} {f3 : Int} {f4 : Int} (h : IsS65 w0 W g f0 f1 f2 f3 f4) (x : Bool) : IsS65 w0 (W.setCell ⟨g, 2, none⟩ (.bool x)) g f0 f1 x f3 f4 := by
  obtain ⟨A0, c0, hb, hg, hr0⟩ := h
  exact ⟨A0, c0, by simpa using blk_set hb 2 (.bool x), hg, hr0⟩
theorem cellS65_3 {W : World} {g : Nat} {A0 : Option Addr} {c0 : Nat} {f0 : List (List Int)} {f1 : Bool} {f2 : Bool} {f3 : Int} {f4 : Int} (h : W.heap[g]? = some (.cells #[.slice A0 f0.length c0, .bool f1, .bool f2, .int .i64 f3, .int .i64 f4] 65 (0, 0))) : W.cell? ⟨g, 3, none⟩ = some (.int .i64 f3) := (blk_cell h 3).trans rfl
theorem IsS65.set_3 {w0 W : World} {g : Nat} {f0 : List (List Int)} {f1 : Bool} {f2 : Bool} {f3 : Int} {f4 : Int} (h : IsS65 w0 W g f0 f1 f2 f3 f4) (x : Int) : IsS65 w0 (W.setCell ⟨g, 3, none⟩ (.int .i64 x)) g f0 f1 f2 x f4 := by
  obtain ⟨A0, c0, hb, hg, hr0⟩ := h
  exact ⟨A0, c0, by simpa using blk_set hb 3 (.int .i64 x), hg, hr0⟩
theorem cellS65_4 {W : World} {g : Nat} {A0 : Option Addr} {c0 : Nat} {f0 : List (List Int)} {f1 : Bool} {f2 : Bool} {f3 : Int} {f4 : Int} (h : W.heap[g]? = some (.cells #[.slice A0 f0.length c0, .bool f1, .bool f2, .int .i64 f3, .int .i64 f4] 65 (0, 0))) : W.cell? ⟨g, 4, none⟩ = some (.int .i64 f4) := (blk_cell h 4).trans rfl
theorem IsS65.set_4 {w0 W : World} {g : Nat} {f0 : List (List Int)} {f1 : Bool} {f2 : Bool} {f3 : Int} {f4 : Int} (h : IsS65 w0 W g f0 f1 f2 f3 f4) (x : Int) : IsS65 w0 (W.setCell ⟨g, 4, none⟩ (.int .i64 x)) g f0 f1 f2 f3 x := by
  obtain ⟨A0, c0, hb, hg, hr0⟩ := h
  exact ⟨A0, c0, by simpa using blk_set hb 4 (.int .i64 x), hg, hr0⟩
theorem IsS65.new (w0 W : World) (A0 : Option Addr) (c0 : Nat) (f0 : List (List Int)) (f1 : Bool) (f2 : Bool) (f3 : Int) (f4 : Int) (hB : Below w0.heap.size w0 W) (hr0 : Kd.C (Kd.slice 5 (Kd.int .u8)) w0 A0 f0.length f0) : IsS65 w0 (W.alloc (.cells #[.slice A0 f0.length c0, .bool f1, .bool f2, .int .i64 f3, .int .i64 f4] 65)) W.heap.size f0 f1 f2 f3 f4 := ⟨A0, c0, by simpa using heap_alloc_new W _, hB.size, hr0⟩

/-! ### majordomoref01_Disk_Fuse: function 20 -/
def majordomoref01_Disk_Fuse.f (s0_0 : List (List Int)) (s0_1 : Bool) (s0_2 : Bool) (s0_3 : Int) (s0_4 : Int) (a1 : Int) : Option (Bool × Bool × Int × Int) := if s0_1 = true then (some (s0_1, s0_2, s0_3, s0_4)) else (some (s0_1, decide (a1 ≥ 0), a1, s0_4))
set_option maxHeartbeats 8000000 in
set_option maxRecDepth 100000 in
theorem majordomoref01_Disk_Fuse.calls (g : Nat) (s0_0 : List (List Int)) (s0_1 : Bool) (s0_2 : Bool) (s0_3 : Int) (s0_4 : Int) (a1 : Int) (r1 : Bool) (r2 : Bool) (r3 : Int) (r4 : Int) (w0 w : World) (hI : IsS65 w0 w g s0_0 s0_1 s0_2 s0_3 s0_4) (hB : Below w0.heap.size w0 w) (h : majordomoref01_Disk_Fuse.f s0_0 s0_1 s0_2 s0_3 s0_4 a1 = some (r1, r2, r3, r4)) :
    Calls Try.prog 20 #[.pointer (some ⟨g, 0, none⟩), .int .i64 a1] w fun e w' => e = .returned (.tuple #[]) ∧ IsS65 w0 w' g s0_0 r1 r2 r3 r4 ∧ Below w0.heap.size w0 w' ∧ KeepBut w w' g none := by
  have HI0 := Aside0.mk hI
  have HK := Aside0.mk (KeepBut.refl w g none)
  have HL := Aside0.mk hB.size
  clear hI
  have HW0 := Aside0.mk hB.size
  have HB := Aside0.mk hB
  clear hB
  have H : (if s0_1 = true then (some (s0_1, s0_2, s0_3, s0_4)) else (some (s0_1, decide (a1 ≥ 0), a1, s0_4))) = some (r1, r2, r3, r4) := h
  clear h
  by_cases c3 : s0_1 = true
  · subst c3
    have H1 : (some (true, s0_2, s0_3, s0_4)) = some (r1, r2, r3, r4) := by rw [if_pos rfl] at H; exact H
    clear H
    have H := H1
    clear H1
    simp only [Option.some.injEq, Prod.mk.injEq] at H
    obtain ⟨rfl, rfl, rfl, rfl⟩ := H
    obtain ⟨ASz4_0, cSz4_0, HGz4, hgz4, HSz4_0⟩ := HI0.out
    have hcz4_0 := cellS65_0 HGz4
    have hcz4_1 := cellS65_1 HGz4
    have hcz4_2 := cellS65_2 HGz4
    have hcz4_3 := cellS65_3 HGz4
    have hcz4_4 := cellS65_4 HGz4
    have hfz4_1 := blk_frozen HGz4 1
    have hfz4_2 := blk_frozen HGz4 2
    have hfz4_3 := blk_frozen HGz4 3
    have hfz4_4 := blk_frozen HGz4 4
    clear HGz4 hgz4
    go_enter Try.func20, Try.ntmps20
    go_wp2
    first | go_end0 | ((try simp only [Exit.inBlock, Exit.then]); refine bodyPost_ret (results_none rfl _ _ _) rfl ?_)
    exact ⟨by first | rfl | (simp [errW_none, errW_some] <;> rfl) | (simp [*, errW_none, errW_some] <;> rfl), by repeat (first | (with_reducible first | exact HI0.out | apply IsS65.alloc | apply IsS65.drewN | apply IsS65.drew | apply IsS65.set_1 | apply IsS65.set_2 | apply IsS65.set_3 | apply IsS65.set_4) | exact HI0.out), by repeat (first | (with_reducible first | exact HB.out | apply below_alloc | apply pw_below_drewN | apply below_drew1 | refine below_set ?_ (IsS65.ge HI0.out)) | exact HB.out), by repeat (first | (with_reducible first | exact HK.out | apply KeepBut.set_ | apply keep_drewN | apply keep_drew | apply keep_alloc) | exact HK.out)⟩
  · replace c3 := Bool.eq_false_iff.mpr c3
    subst c3
    have H1 : (some (false, decide (a1 ≥ 0), a1, s0_4)) = some (r1, r2, r3, r4) := by rw [if_neg (show ¬ (false = true) by decide)] at H; exact H
    clear H
    have H := H1
    clear H1
    simp only [Option.some.injEq, Prod.mk.injEq] at H
    obtain ⟨rfl, rfl, rfl, rfl⟩ := H
    obtain ⟨ASz5_0, cSz5_0, HGz5, hgz5, HSz5_0⟩ := HI0.out
    have hcz5_0 := cellS65_0 HGz5
    have hcz5_1 := cellS65_1 HGz5
    have hcz5_2 := cellS65_2 HGz5
    have hcz5_3 := cellS65_3 HGz5
    have hcz5_4 := cellS65_4 HGz5
    have hfz5_1 := blk_frozen HGz5 1
    have hfz5_2 := blk_frozen HGz5 2
    have hfz5_3 := blk_frozen HGz5 3
    have hfz5_4 := blk_frozen HGz5 4
    clear HGz5 hgz5
    go_enter Try.func20, Try.ntmps20
    go_wp2
    first | go_end0 | ((try simp only [Exit.inBlock, Exit.then]); refine bodyPost_ret (results_none rfl _ _ _) rfl ?_)
    exact ⟨by first | rfl | (simp [errW_none, errW_some] <;> rfl) | (simp [*, errW_none, errW_some] <;> rfl), by repeat (first | (with_reducible first | exact HI0.out | apply IsS65.alloc | apply IsS65.drewN | apply IsS65.drew | apply IsS65.set_1 | apply IsS65.set_2 | apply IsS65.set_3 | apply IsS65.set_4) | exact HI0.out), by repeat (first | (with_reducible first | exact HB.out | apply below_alloc | apply pw_below_drewN | apply below_drew1 | refine below_set ?_ (IsS65.ge HI0.out)) | exact HB.out), by repeat (first | (with_reducible first | exact HK.out | apply KeepBut.set_ | apply keep_drewN | apply keep_drew | apply keep_alloc) | exact HK.out)⟩

/-! ### majordomoref01_Disk_Boot: function 22 -/
def majordomoref01_Disk_Boot.f (s0_0 : List (List Int)) (s0_1 : Bool) (s0_2 : Bool) (s0_3 : Int) (s0_4 : Int) : Option (Bool × Bool × Int × Int) := some (false, false, s0_3, s0_4)
set_option maxHeartbeats 8000000 in
set_option maxRecDepth 100000 in
theorem majordomoref01_Disk_Boot.calls (g : Nat) (s0_0 : List (List Int)) (s0_1 : Bool) (s0_2 : Bool) (s0_3 : Int) (s0_4 : Int) (r1 : Bool) (r2 : Bool) (r3 : Int) (r4 : Int) (w0 w : World) (hI : IsS65 w0 w g s0_0 s0_1 s0_2 s0_3 s0_4) (hB : Below w0.heap.size w0 w) (h : majordomoref01_Disk_Boot.f s0_0 s0_1 s0_2 s0_3 s0_4 = some (r1, r2, r3, r4)) :
    Calls Try.prog 22 #[.pointer (some ⟨g, 0, none⟩)] w fun e w' => e = .returned (.tuple #[]) ∧ IsS65 w0 w' g s0_0 r1 r2 r3 r4 ∧ Below w0.heap.size w0 w' ∧ KeepBut w w' g none := by
  have HI0 := Aside0.mk hI
  have HK := Aside0.mk (KeepBut.refl w g none)
  have HL := Aside0.mk hB.size
  clear hI
  have HW0 := Aside0.mk hB.size
  have HB := Aside0.mk hB
  clear hB
  have H : (some (false, false, s0_3, s0_4)) = some (r1, r2, r3, r4) := h
  clear h
  simp only [Option.some.injEq, Prod.mk.injEq] at H
  obtain ⟨rfl, rfl, rfl, rfl⟩ := H
  obtain ⟨ASz2_0, cSz2_0, HGz2, hgz2, HSz2_0⟩ := HI0.out
  have hcz2_0 := cellS65_0 HGz2
  have hcz2_1 := cellS65_1 HGz2
  have hcz2_2 := cellS65_2 HGz2
  have hcz2_3 := cellS65_3 HGz2
  have hcz2_4 := cellS65_4 HGz2
  have hfz2_1 := blk_frozen HGz2 1
  have hfz2_2 := blk_frozen HGz2 2
  have hfz2_3 := blk_frozen HGz2 3
  have hfz2_4 := blk_frozen HGz2 4
  clear HGz2 hgz2
  go_enter Try.func22, Try.ntmps22
  go_wp2
  first | go_end0 | ((try simp only [Exit.inBlock, Exit.then]); refine bodyPost_ret (results_none rfl _ _ _) rfl ?_)
  exact ⟨by first | rfl | (simp [errW_none, errW_some] <;> rfl) | (simp [*, errW_none, errW_some] <;> rfl), by repeat (first | (with_reducible first | exact HI0.out | apply IsS65.alloc | apply IsS65.drewN | apply IsS65.drew | apply IsS65.set_1 | apply IsS65.set_2 | apply IsS65.set_3 | apply IsS65.set_4) | exact HI0.out), by repeat (first | (with_reducible first | exact HB.out | apply below_alloc | apply pw_below_drewN | apply below_drew1 | refine below_set ?_ (IsS65.ge HI0.out)) | exact HB.out), by repeat (first | (with_reducible first | exact HK.out | apply KeepBut.set_ | apply keep_drewN | apply keep_drew | apply keep_alloc) | exact HK.out)⟩

-- NOT PRINTED: function 35 (majordomoref01_Disk_Read)

-- NOT PRINTED: function 36 (disk_Disk_Len)

-- NOT PRINTED: function 23 (majordomolaw01_alike)

-- NOT PRINTED: function 3 (majordomolaw01_DiskPlays)

end Go.Proofs.Ytcgcojdkkkfkdaa.PDiskPlays
