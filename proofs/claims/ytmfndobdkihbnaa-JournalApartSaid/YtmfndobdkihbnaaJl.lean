/-
  The statements' own functions: full, among, same, group.
-/
import Derived.Test.YtmfndobdkihbnaaJk
namespace Go.Proofs.Ytmfndobdkihbnaa.Dk
open Go.RowKit Go.MapKept Go.Proofs.YtmfndobdkihbnaaW.PrintWords Go.Proofs.YtmfndobdkihbnaaW.PrintLast Go.Proofs.YtmfndobdkihbnaaW.PrintMore
set_option linter.unusedVariables false
set_option linter.unusedSimpArgs false

theorem full_any (c d : Int) (w : World) : Calls Try.prog 10 #[.int .u8 c, .int .u8 d] w fun e w' => ∃ v, e = .returned v ∧ Kd.R (Kd.int .u8) 5 w' w.heap.size (fun _ => True) v (fullB c d) ∧ Below w.heap.size w w' := by
  obtain ⟨K, hK⟩ := full_f c d
  exact PJournalApart.majordomolaw02_full.calls K c d (fullB c d) w (hK K (Nat.le_refl _))

def AmongPost (n : Int) (w : World) (c : Int) (e : Ending) (w' : World) : Prop := ∃ r, e = .returned (.int .i64 r) ∧ 0 ≤ r ∧ r < n ∧ w' = w
set_option maxRecDepth 100000 in
theorem among_any (c n : Int) (w : World) (hn : 0 < n) (hn1 : n ≤ 1000) (hc0 : -9223372036854775808 ≤ c) (hc1 : c ≤ 9223372036854775807) :
    Calls Try.prog 14 #[.int .i64 c, .int .i64 n] w fun e w' => AmongPost n w c e w' := by
  have hn0 : (n == 0) = false := by simp; omega
  by_cases h : c < 0
  · have h1 : IntKind.i64.wrap (c + 1) = c + 1 := IntWalk.i64_in _ (by omega)
    have h2 : IntKind.i64.wrap (-(c + 1)) = -(c + 1) := IntWalk.i64_in _ (by omega)
    go_enter Try.func14, Try.ntmps14
    go_wp2
    go_ret
    have e : -((c + 1).tmod n) = (-(c + 1)) % n := by rw [← Int.neg_tmod, Int.tmod_eq_emod_of_nonneg (by omega)]
    exact ⟨_, rfl, by rw [e]; exact Int.emod_nonneg _ (by omega), by rw [e]; exact Int.emod_lt_of_pos _ hn, rfl⟩
  · go_enter Try.func14, Try.ntmps14
    go_wp2
    go_ret
    exact ⟨_, rfl, Int.emod_nonneg _ (by omega), Int.emod_lt_of_pos _ hn, rfl⟩

def rdS (xs : List (List Int)) (i : Nat) : List Int := xs.getD i []
theorem rdS_get {l : List (List Int)} {i : Nat} (h : i < l.length) : l[i]? = some (rdS l i) := by
  unfold rdS; rw [List.getD_eq_getElem?_getD, List.getElem?_eq_getElem h]; rfl
theorem at_Ls {w : World} {A : Option Addr} {n : Nat} {xs : List (List Int)} (h : Kd.C (Kd.slice 5 (Kd.int .u8)) w A n xs) (i : Nat) (h1 : i < n) : ∃ ad B c, A = some ad ∧ w.cell? (ad.add i) = some (.slice B (rdS xs i).length c) ∧ (rdS xs i).length ≤ c ∧ BytesAt w B (rdS xs i) := by
  obtain ⟨ad, c, e, _, hK, hc0⟩ := Kd.C_get h [] (i : Int) (by omega) (by omega)
  rw [Int.toNat_natCast] at hK hc0
  obtain ⟨B, k, rfl, hl, hb⟩ := hK
  have h2 := hc0 0 _ rfl
  rw [show (Kd.slice 5 (Kd.int .u8)).sz = 1 from rfl] at h2
  rw [Nat.mul_one, Nat.add_zero] at h2
  exact ⟨ad, B, k, e, h2, hl, BytesAt.of_C hb⟩

def SamePost (a b : List (List Int)) (w : World) (e : Ending) (w' : World) : Prop := ∃ r : Bool, e = .returned (.bool r) ∧ (a = b → r = true) ∧ ∃ n, w' = w.drewN n
set_option maxHeartbeats 4000000 in
set_option maxRecDepth 100000 in
theorem same_any (A0 : Option Addr) (c0 : Nat) (a : List (List Int)) (A1 : Option Addr) (c1 : Nat) (b : List (List Int)) (w : World) (h0 : Kd.C (Kd.slice 5 (Kd.int .u8)) w A0 a.length a) (h1 : Kd.C (Kd.slice 5 (Kd.int .u8)) w A1 b.length b) (hl : a.length = b.length) (hs : a.length ≤ 4096) :
    Calls Try.prog 23 #[.slice A0 a.length c0, .slice A1 b.length c1] w fun e w' => SamePost a b w e w' := by
  have H0 := Aside0.mk h0
  have H1 := Aside0.mk h1
  obtain ⟨n, hn⟩ : ∃ n, n = a.length := ⟨_, rfl⟩
  have HN := Aside0.mk (And.intro hn (hn.trans hl))
  rw [← hn, ← hn.trans hl]
  rw [← hn] at hs
  clear h0 h1 hl hn
  go_enter Try.func23, Try.ntmps23
  go_wp2
  go_loopg [5] n (fun gq v5 wr => ∃ (i : Nat), v5 = .int .i64 i ∧ i ≤ n ∧ Aside0 (gq = n - i) ∧ Aside0 (∃ q, wr = w.drewN q))
  case atStart => exact ⟨0, rfl, Nat.zero_le _, ⟨rfl⟩, ⟨0, rfl⟩⟩
  case round =>
    obtain ⟨i, rfl, hi, HG, HW⟩ := hrel
    by_cases hlt : i < n
    · have hlt' : (i : Int) < (n : Int) := by omega
      obtain ⟨q, hq⟩ := HW.out
      have hb : Below w.heap.size w wr := by rw [hq]; exact pw_below_drewN (Below.refl _ _) q
      obtain ⟨ad0, B0, k0, rfl, e0, _, y0⟩ := at_Ls (Kd.C_below H0.out hb) i (by have := HN.out.1; omega)
      obtain ⟨ad1, B1, k1, rfl, e1, _, y1⟩ := at_Ls (Kd.C_below H1.out hb) i (by have := HN.out.2; omega)
      obtain ⟨x, hx⟩ : ∃ x, x = rdS a i := ⟨_, rfl⟩
      obtain ⟨y, hy⟩ : ∃ y, y = rdS b i := ⟨_, rfl⟩
      rw [← hx] at e0 y0
      rw [← hy] at e1 y1
      have hcx : ∀ w', BytesAt w' B0 x → (convert 37 9 (.slice B0 x.length k0)).run Try.prog w' = .ok (.string (strB x)) w' := fun w' h => conv_bytes h k0
      have hcy : ∀ w', BytesAt w' B1 y → (convert 37 9 (.slice B1 y.length k1)).run Try.prog w' = .ok (.string (strB y)) w' := fun w' h => conv_bytes h k1
      obtain ⟨sx, hsx⟩ : ∃ sx, sx = strB x := ⟨_, rfl⟩
      obtain ⟨sy, hsy⟩ : ∃ sy, sy = strB y := ⟨_, rfl⟩
      rw [← hsx] at hcx
      rw [← hsy] at hcy
      obtain ⟨r, hr⟩ : ∃ r, r = (sx.toList == sy.toList) := ⟨_, rfl⟩
      have HR := Aside0.mk (show r = false → a ≠ b from fun h1 h2 => by
        have : sx = sy := by rw [hsx, hsy, hx, hy, h2]
        rw [h1, this] at hr
        simp at hr)
      have HW2 := Aside0.mk (show ∃ q, wr.drew = w.drewN q from ⟨q + 1, by rw [hq]; rfl⟩)
      clear hq hb hx hy hsx hsy
      have hr2 : (sx.toList == sy.toList) = r := hr.symm
      clear hr
      go_upto_region 6 with (fail)
      refine start_ (n := 11) (S := fun w' => w'.cell? (ad0.add i) = some (.slice B0 x.length k0) ∧ w'.cell? (ad1.add i) = some (.slice B1 y.length k1) ∧ BytesAt w' B0 x ∧ BytesAt w' B1 y) (ds := []) #[false, false, false, false, false, false, false, false, false, false, false] (by kernel_rfl) rfl rfl ⟨e0, e1, y0.fr (Fr.drew (Fr.refl (fun _ => False) _)) (fun _ _ h => h), y1.fr (Fr.drew (Fr.refl (fun _ => False) _)) (fun _ _ h => h)⟩ (fun hHeld => ?_)
      refine pure_ (i := 0) (N := some 17) (v := ?_) (a' := ?_) #[true, false, false, false, false, false, false, false, false, false, false] rfl rfl (by kernel_rfl) (fun _ _ _ h => h) (Or.inl ⟨by rfl, ?_⟩) ?_ ?_
      rotate_left
      · intro w'
        go_simp
        with_reducible rfl
      rotate_left
      · simp only [Act.put, List.setIfInBounds_toArray, List.set_cons_zero, List.set_cons_succ, i64_w, i32_w]
        rfl
      refine pure_ (i := 1) (N := some 18) (v := ?_) (a' := ?_) #[true, true, false, false, false, false, false, false, false, false, false] rfl rfl (by kernel_rfl) (fun _ _ _ h => h) (Or.inl ⟨by rfl, ?_⟩) ?_ ?_
      rotate_left
      · intro w'
        go_simp
        with_reducible rfl
      rotate_left
      · simp only [Act.put, List.setIfInBounds_toArray, List.set_cons_zero, List.set_cons_succ, i64_w, i32_w]
        rfl
      refine pure_ (i := 2) (N := some 19) (v := ?_) (a' := ?_) #[true, true, true, false, false, false, false, false, false, false, false] rfl rfl (by kernel_rfl) (fun _ _ _ h => h) (Or.inl ⟨by rfl, ?_⟩) ?_ ?_
      rotate_left
      · intro w'
        go_simp
        with_reducible rfl
      rotate_left
      · simp only [Act.put, List.setIfInBounds_toArray, List.set_cons_zero, List.set_cons_succ, i64_w, i32_w]
        rfl
      refine pure_ (i := 5) (N := some 22) (v := ?_) (a' := ?_) #[true, true, true, false, false, true, false, false, false, false, false] rfl rfl (by kernel_rfl) (fun _ _ _ h => h) (Or.inl ⟨by rfl, ?_⟩) ?_ ?_
      rotate_left
      · intro w'
        go_simp
        with_reducible rfl
      rotate_left
      · simp only [Act.put, List.setIfInBounds_toArray, List.set_cons_zero, List.set_cons_succ, i64_w, i32_w]
        rfl
      refine pure_ (i := 6) (N := some 23) (v := ?_) (a' := ?_) #[true, true, true, false, false, true, true, false, false, false, false] rfl rfl (by kernel_rfl) (fun _ _ _ h => h) (Or.inl ⟨by rfl, ?_⟩) ?_ ?_
      rotate_left
      · intro w'
        go_simp
        with_reducible rfl
      rotate_left
      · simp only [Act.put, List.setIfInBounds_toArray, List.set_cons_zero, List.set_cons_succ, i64_w, i32_w]
        rfl
      refine pure_ (i := 7) (N := some 24) (v := ?_) (a' := ?_) #[true, true, true, false, false, true, true, true, false, false, false] rfl rfl (by kernel_rfl) (fun _ _ _ h => h) (Or.inl ⟨by rfl, ?_⟩) ?_ ?_
      rotate_left
      · intro w'
        go_simp
        with_reducible rfl
      rotate_left
      · simp only [Act.put, List.setIfInBounds_toArray, List.set_cons_zero, List.set_cons_succ, i64_w, i32_w]
        rfl
      refine take_ (i := 3) (N := some 20) (v := ?_) (a' := ?_) #[true, true, true, true, false, true, true, true, false, false, false] rfl rfl (by kernel_rfl) (fun _ _ _ h => h) (Or.inl ⟨by rfl, ?_⟩) hHeld ?_ ?_
      rotate_left
      · rintro w' ⟨s0, s1, s2, s3⟩
        go_simp
        with_reducible rfl
      rotate_left
      · simp only [Act.put, List.setIfInBounds_toArray, List.set_cons_zero, List.set_cons_succ, i64_w, i32_w]
        rfl
      refine take_ (i := 4) (N := some 21) (v := ?_) (a' := ?_) #[true, true, true, true, true, true, true, true, false, false, false] rfl rfl (by kernel_rfl) (fun _ _ _ h => h) (Or.inl ⟨by rfl, ?_⟩) hHeld ?_ ?_
      rotate_left
      · rintro w' ⟨s0, s1, s2, s3⟩
        refine exec_convert (x := .tmp 20) (v := .slice B0 x.length k0) (r := .string sx) ?_ ?_ (hcx w' s2)
        · rfl
        · rfl
      rotate_left
      · simp only [Act.put, List.setIfInBounds_toArray, List.set_cons_zero, List.set_cons_succ, i64_w, i32_w]
        rfl
      refine take_ (i := 8) (N := some 25) (v := ?_) (a' := ?_) #[true, true, true, true, true, true, true, true, true, false, false] rfl rfl (by kernel_rfl) (fun _ _ _ h => h) (Or.inl ⟨by rfl, ?_⟩) hHeld ?_ ?_
      rotate_left
      · rintro w' ⟨s0, s1, s2, s3⟩
        go_simp
        with_reducible rfl
      rotate_left
      · simp only [Act.put, List.setIfInBounds_toArray, List.set_cons_zero, List.set_cons_succ, i64_w, i32_w]
        rfl
      refine take_ (i := 9) (N := some 26) (v := ?_) (a' := ?_) #[true, true, true, true, true, true, true, true, true, true, false] rfl rfl (by kernel_rfl) (fun _ _ _ h => h) (Or.inl ⟨by rfl, ?_⟩) hHeld ?_ ?_
      rotate_left
      · rintro w' ⟨s0, s1, s2, s3⟩
        refine exec_convert (x := .tmp 25) (v := .slice B1 y.length k1) (r := .string sy) ?_ ?_ (hcy w' s3)
        · rfl
        · rfl
      rotate_left
      · simp only [Act.put, List.setIfInBounds_toArray, List.set_cons_zero, List.set_cons_succ, i64_w, i32_w]
        rfl
      refine pure_ (i := 10) (N := some 27) (v := ?_) (a' := ?_) #[true, true, true, true, true, true, true, true, true, true, true] rfl rfl (by kernel_rfl) (fun _ _ _ h => h) (Or.inl ⟨by rfl, ?_⟩) ?_ ?_
      rotate_left
      · intro w'
        go_simp
        with_reducible rfl
      rotate_left
      · simp only [Act.put, List.setIfInBounds_toArray, List.set_cons_zero, List.set_cons_succ, i64_w, i32_w]
        rfl
      refine done_ (by kernel_rfl) ?_
      clear hr2 hcx hcy e0 e1 y0 y1 hHeld
      cases r
      · go_wp2
        go_ret
        exact ⟨false, rfl, fun h => absurd h (HR.out (by simp)), HW2.out⟩
      · go_wp2
        go_roundg (n - (i + 1))
        case measure => have := HG.out; omega
        case rel => exact ⟨i + 1, by go_num, by omega, ⟨rfl⟩, HW2⟩
    · have hil : i = n := by omega
      subst hil
      go_wp2
      go_ret
      exact ⟨true, rfl, fun _ => rfl, HW.out⟩

set_option maxHeartbeats 8000000 in
set_option maxRecDepth 100000 in
theorem group_any (at_ len : Int) (A : Option Addr) (c : Nat) (l : List PutT) (w : World) (h0 : 0 ≤ at_) (h1 : at_ ≤ 4096) (hl : Kd.C kP w A l.length l) (h63 : l.length ≤ 9223372036854775807) :
    Calls Try.prog 18 #[.slice A l.length c, .int .i64 at_, .int .i64 len] w fun e w' => e = .returned (.bool (mayB len at_ l)) ∧ Below w.heap.size w w' := by
  have HL := Aside0.mk hl
  clear hl
  by_cases hn : l.length ≤ 192
  case neg =>
    have HB := Aside0.mk (show mayB len at_ l = false by unfold mayB; rw [decide_eq_false hn, Bool.false_and, Bool.false_and])
    have hn' : (l.length : Int) > 192 := by omega
    clear hn
    go_enter Try.func18, Try.ntmps18
    go_wp2
    go_ret
    rw [HB.out]
    exact ⟨rfl, Below.refl _ _⟩
  have hn' : ¬ (l.length : Int) > 192 := by omega
  go_enter Try.func18, Try.ntmps18
  go_wp2
  go_loopg [7] l.length (fun gq v7 wr => ∃ (i : Nat), v7 = .int .i64 i ∧ i ≤ l.length ∧ Aside0 (gq = l.length - i) ∧ Aside0 (Below w.heap.size w wr) ∧ Aside0 (((l.take i).map (·.1)).Nodup ∧ ∀ x ∈ l.take i, ¬ (at_ ≤ x.1 ∧ x.1 < at_ + 199) ∧ 0 ≤ x.1 ∧ x.1 < len ∧ x.2.length = 64))
  case atStart => exact ⟨0, rfl, Nat.zero_le _, ⟨rfl⟩, ⟨Below.refl _ _⟩, ⟨by simp⟩⟩
  case round =>
    obtain ⟨i, rfl, hi, HG, HB, HK⟩ := hrel
    by_cases hlt : i < l.length
    · have hlt' : (i : Int) < (l.length : Int) := by omega
      obtain ⟨ad, Bx, cx, rfl, q0, q1, _, _⟩ := at_P (Kd.C_below HL.out HB.out) i hlt
      obtain ⟨⟨xb, bs⟩, hx⟩ : ∃ x, x = rdP l i := ⟨_, rfl⟩
      rw [← hx] at q0 q1
      have HX := Aside0.mk hx
      clear hx
      simp only at q0 q1
      go_upto_region 7 with (fail)
      obtain ⟨wo, hwo⟩ : ∃ wo, wo = wr.alloc (Obj.cells #[Value.int .i64 xb, Value.slice Bx bs.length cx] 40) := ⟨_, rfl⟩
      have hbo : Below wr.heap.size wr wo := by rw [hwo]; exact (Below.refl _ wr).alloc (Nat.le_refl _) _
      have hho : wo.heap[wr.heap.size]? = some (.cells #[Value.int .i64 xb, Value.slice Bx bs.length cx] 40 (0, 0)) := by rw [hwo]; exact Go.heap_alloc_new _ _
      rw [← hwo]
      obtain ⟨qp, hqp⟩ : ∃ qp, qp = wr.heap.size := ⟨_, rfl⟩
      rw [← hqp] at hho ⊢
      have HBO := Aside0.mk (below_step HB.out hbo)
      have HHO := Aside0.mk hho
      have p0 := heap_cell hho 0 (.int .i64 xb) rfl
      have p1 := heap_cell hho 1 (.slice Bx bs.length cx) rfl
      clear hwo hbo hho q0 q1 HB hqp
      have hwa : IntKind.i64.wrap (at_ + 199) = at_ + 199 := IntWalk.i64_in _ (by omega)
      obtain ⟨bad, hbad⟩ : ∃ bad, bad = decide (¬ (¬ (at_ ≤ xb ∧ xb < at_ + 199) ∧ 0 ≤ xb ∧ xb < len ∧ bs.length = 64)) := ⟨_, rfl⟩
      have HBD := Aside0.mk hbad
      clear hbad
      go_cut [50] (fun s50 wx => s50 = .bool bad ∧ wx = wo)
      case first =>
        by_cases c1 : xb < 0
        · have HE := Aside0.mk (show bad = true by rw [HBD.out]; exact decide_eq_true (fun e => by omega))
          go_wp2
          go_meet
          case rel => exact ⟨by rw [HE.out], rfl⟩
        by_cases c2 : xb ≥ len
        · have HE := Aside0.mk (show bad = true by rw [HBD.out]; exact decide_eq_true (fun e => by omega))
          go_wp2
          go_meet
          case rel => exact ⟨by rw [HE.out], rfl⟩
        by_cases c5 : (bs.length : Int) = 64
        case neg =>
          have c5' : ((bs.length : Int) != 64) = true := by simp only [bne_iff_ne]; exact c5
          have HE := Aside0.mk (show bad = true by rw [HBD.out]; exact decide_eq_true (fun e => by omega))
          clear c5
          by_cases c3 : xb ≥ at_
          · by_cases c4 : xb < at_ + 199
            · go_wp2
              go_meet
              case rel => exact ⟨by rw [HE.out], rfl⟩
            · go_wp2
              go_meet
              case rel => exact ⟨by rw [HE.out], rfl⟩
          · go_wp2
            go_meet
            case rel => exact ⟨by rw [HE.out], rfl⟩
        have c5' : ((bs.length : Int) != 64) = false := by simp only [bne_eq_false_iff_eq]; exact c5
        by_cases c3 : xb ≥ at_
        · by_cases c4 : xb < at_ + 199
          · have HE := Aside0.mk (show bad = true by rw [HBD.out]; exact decide_eq_true (fun e => by omega))
            clear c5
            go_wp2
            go_meet
            case rel => exact ⟨by rw [HE.out], rfl⟩
          · have HE := Aside0.mk (show bad = false by rw [HBD.out]; exact decide_eq_false (fun e => e (by omega)))
            clear c5
            go_wp2
            go_meet
            case rel => exact ⟨by rw [HE.out], rfl⟩
        · have HE := Aside0.mk (show bad = false by rw [HBD.out]; exact decide_eq_false (fun e => e (by omega)))
          clear c5
          go_wp2
          go_meet
          case rel => exact ⟨by rw [HE.out], rfl⟩
      obtain ⟨rfl, rfl⟩ := hcut
      clear p1 hwa
      cases bad
      case true =>
        have HBAD := Aside0.mk (show mayB len at_ l = false from mayB_bad (List.mem_of_getElem? ((rdP_get hlt).trans (congrArg some HX.out.symm))) (of_decide_eq_true HBD.out.symm))
        go_wp2
        go_ret
        rw [HBAD.out]
        exact ⟨rfl, HBO.out⟩
      go_wp2
      go_loopg [9] i (fun gq v9 wr => ∃ (k : Nat), v9 = .int .i64 k ∧ k ≤ i ∧ Aside0 (gq = i - k) ∧ Aside0 (∃ q, wr = wc.drewN q) ∧ Aside0 (∀ j, j < k → (rdP l j).1 ≠ xb))
      case atStart => exact ⟨0, rfl, Nat.zero_le _, ⟨rfl⟩, ⟨0, rfl⟩, ⟨fun j hj => by omega⟩⟩
      case round =>
        obtain ⟨k, rfl, hk, HG2, HW, HN⟩ := hrel
        obtain ⟨q, hq⟩ := HW.out
        have p2 : wr.cell? ⟨qp, 0, none⟩ = some (.int .i64 xb) := by rw [hq]; exact p0
        have hbw : Below w.heap.size w wr := by rw [hq]; exact pw_below_drewN HBO.out q
        have HBW := Aside0.mk hbw
        have HQ := Aside0.mk hq
        clear hq hbw p0
        by_cases hlt2 : k < i
        · have hlt2' : (k : Int) < (i : Int) := by omega
          have hltk : (k : Int) < (l.length : Int) := by omega
          obtain ⟨ad2, _, _, e2, r0, _, _, _⟩ := at_P (Kd.C_below HL.out HBW.out) k (by omega)
          cases e2
          obtain ⟨y, hy⟩ : ∃ y, y = (rdP l k).1 := ⟨_, rfl⟩
          rw [← hy] at r0
          have HY := Aside0.mk hy
          clear hy
          by_cases he : y = xb
          · have he' : (y == xb) = true := by simpa using he
            have HBAD := Aside0.mk (show mayB len at_ l = false from mayB_twice hlt (by
              rw [List.mem_map]
              exact ⟨rdP l k, List.mem_of_getElem? (i := k) (by rw [List.getElem?_take, if_pos hlt2]; exact rdP_get (by omega)), by rw [← HY.out, he, ← HX.out]⟩))
            clear he
            go_upto_region 12 with (fail)
            refine start_ (n := 8) (S := fun w' => w'.cell? (ad.add (k * 2)) = some (.int .i64 y) ∧ w'.cell? ⟨qp, 0, none⟩ = some (.int .i64 xb)) (ds := []) #[false, false, false, false, false, false, false, false] (by kernel_rfl) rfl rfl ⟨r0, p2⟩ (fun hHeld => ?_)
            refine pure_ (i := 0) (N := some 56) (v := ?_) (a' := ?_) #[true, false, false, false, false, false, false, false] rfl rfl (by kernel_rfl) (fun _ _ _ h => h) (Or.inl ⟨by rfl, ?_⟩) ?_ ?_
            rotate_left
            · intro w'
              go_simp
              with_reducible rfl
            rotate_left
            · simp only [Act.put, List.setIfInBounds_toArray, List.set_cons_zero, List.set_cons_succ, i64_w, i32_w]
              rfl
            refine pure_ (i := 1) (N := some 57) (v := ?_) (a' := ?_) #[true, true, false, false, false, false, false, false] rfl rfl (by kernel_rfl) (fun _ _ _ h => h) (Or.inl ⟨by rfl, ?_⟩) ?_ ?_
            rotate_left
            · intro w'
              go_simp
              with_reducible rfl
            rotate_left
            · simp only [Act.put, List.setIfInBounds_toArray, List.set_cons_zero, List.set_cons_succ, i64_w, i32_w]
              rfl
            refine pure_ (i := 2) (N := some 58) (v := ?_) (a' := ?_) #[true, true, true, false, false, false, false, false] rfl rfl (by kernel_rfl) (fun _ _ _ h => h) (Or.inl ⟨by rfl, ?_⟩) ?_ ?_
            rotate_left
            · intro w'
              go_simp
              with_reducible rfl
            rotate_left
            · simp only [Act.put, List.setIfInBounds_toArray, List.set_cons_zero, List.set_cons_succ, i64_w, i32_w]
              rfl
            refine pure_ (i := 3) (N := some 59) (v := ?_) (a' := ?_) #[true, true, true, true, false, false, false, false] rfl rfl (by kernel_rfl) (fun _ _ _ h => h) (Or.inl ⟨by rfl, ?_⟩) ?_ ?_
            rotate_left
            · intro w'
              go_simp
              with_reducible rfl
            rotate_left
            · simp only [Act.put, List.setIfInBounds_toArray, List.set_cons_zero, List.set_cons_succ, i64_w, i32_w]
              rfl
            refine pure_ (i := 5) (N := some 61) (v := ?_) (a' := ?_) #[true, true, true, true, false, true, false, false] rfl rfl (by kernel_rfl) (fun _ _ _ h => h) (Or.inl ⟨by rfl, ?_⟩) ?_ ?_
            rotate_left
            · intro w'
              go_simp
              with_reducible rfl
            rotate_left
            · simp only [Act.put, List.setIfInBounds_toArray, List.set_cons_zero, List.set_cons_succ, i64_w, i32_w]
              rfl
            refine take_ (i := 4) (N := some 60) (v := ?_) (a' := ?_) #[true, true, true, true, true, true, false, false] rfl rfl (by kernel_rfl) (fun _ _ _ h => h) (Or.inl ⟨by rfl, ?_⟩) hHeld ?_ ?_
            rotate_left
            · rintro w' ⟨s0, s1⟩
              go_simp
              with_reducible rfl
            rotate_left
            · simp only [Act.put, List.setIfInBounds_toArray, List.set_cons_zero, List.set_cons_succ, i64_w, i32_w]
              rfl
            refine take_ (i := 6) (N := some 62) (v := ?_) (a' := ?_) #[true, true, true, true, true, true, true, false] rfl rfl (by kernel_rfl) (fun _ _ _ h => h) (Or.inl ⟨by rfl, ?_⟩) hHeld ?_ ?_
            rotate_left
            · rintro w' ⟨s0, s1⟩
              go_simp
              with_reducible rfl
            rotate_left
            · simp only [Act.put, List.setIfInBounds_toArray, List.set_cons_zero, List.set_cons_succ, i64_w, i32_w]
              rfl
            refine pure_ (i := 7) (N := some 63) (v := ?_) (a' := ?_) #[true, true, true, true, true, true, true, true] rfl rfl (by kernel_rfl) (fun _ _ _ h => h) (Or.inl ⟨by rfl, ?_⟩) ?_ ?_
            rotate_left
            · intro w'
              go_simp
              with_reducible rfl
            rotate_left
            · simp only [Act.put, List.setIfInBounds_toArray, List.set_cons_zero, List.set_cons_succ, i64_w, i32_w]
              rfl
            refine done_ (by kernel_rfl) ?_
            go_wp2
            go_ret
            rw [HBAD.out]
            exact ⟨rfl, below_drew HBW.out⟩
          · have he' : (y == xb) = false := by simpa using he
            have HNE := Aside0.mk (show ∀ j, j < k + 1 → (rdP l j).1 ≠ xb from fun j hj => by
              rcases Nat.lt_or_ge j k with h | h
              · exact HN.out j h
              · obtain rfl : j = k := by omega
                rw [← HY.out]; exact he)
            clear he
            go_upto_region 12 with (fail)
            refine start_ (n := 8) (S := fun w' => w'.cell? (ad.add (k * 2)) = some (.int .i64 y) ∧ w'.cell? ⟨qp, 0, none⟩ = some (.int .i64 xb)) (ds := []) #[false, false, false, false, false, false, false, false] (by kernel_rfl) rfl rfl ⟨r0, p2⟩ (fun hHeld => ?_)
            refine pure_ (i := 0) (N := some 56) (v := ?_) (a' := ?_) #[true, false, false, false, false, false, false, false] rfl rfl (by kernel_rfl) (fun _ _ _ h => h) (Or.inl ⟨by rfl, ?_⟩) ?_ ?_
            rotate_left
            · intro w'
              go_simp
              with_reducible rfl
            rotate_left
            · simp only [Act.put, List.setIfInBounds_toArray, List.set_cons_zero, List.set_cons_succ, i64_w, i32_w]
              rfl
            refine pure_ (i := 1) (N := some 57) (v := ?_) (a' := ?_) #[true, true, false, false, false, false, false, false] rfl rfl (by kernel_rfl) (fun _ _ _ h => h) (Or.inl ⟨by rfl, ?_⟩) ?_ ?_
            rotate_left
            · intro w'
              go_simp
              with_reducible rfl
            rotate_left
            · simp only [Act.put, List.setIfInBounds_toArray, List.set_cons_zero, List.set_cons_succ, i64_w, i32_w]
              rfl
            refine pure_ (i := 2) (N := some 58) (v := ?_) (a' := ?_) #[true, true, true, false, false, false, false, false] rfl rfl (by kernel_rfl) (fun _ _ _ h => h) (Or.inl ⟨by rfl, ?_⟩) ?_ ?_
            rotate_left
            · intro w'
              go_simp
              with_reducible rfl
            rotate_left
            · simp only [Act.put, List.setIfInBounds_toArray, List.set_cons_zero, List.set_cons_succ, i64_w, i32_w]
              rfl
            refine pure_ (i := 3) (N := some 59) (v := ?_) (a' := ?_) #[true, true, true, true, false, false, false, false] rfl rfl (by kernel_rfl) (fun _ _ _ h => h) (Or.inl ⟨by rfl, ?_⟩) ?_ ?_
            rotate_left
            · intro w'
              go_simp
              with_reducible rfl
            rotate_left
            · simp only [Act.put, List.setIfInBounds_toArray, List.set_cons_zero, List.set_cons_succ, i64_w, i32_w]
              rfl
            refine pure_ (i := 5) (N := some 61) (v := ?_) (a' := ?_) #[true, true, true, true, false, true, false, false] rfl rfl (by kernel_rfl) (fun _ _ _ h => h) (Or.inl ⟨by rfl, ?_⟩) ?_ ?_
            rotate_left
            · intro w'
              go_simp
              with_reducible rfl
            rotate_left
            · simp only [Act.put, List.setIfInBounds_toArray, List.set_cons_zero, List.set_cons_succ, i64_w, i32_w]
              rfl
            refine take_ (i := 4) (N := some 60) (v := ?_) (a' := ?_) #[true, true, true, true, true, true, false, false] rfl rfl (by kernel_rfl) (fun _ _ _ h => h) (Or.inl ⟨by rfl, ?_⟩) hHeld ?_ ?_
            rotate_left
            · rintro w' ⟨s0, s1⟩
              go_simp
              with_reducible rfl
            rotate_left
            · simp only [Act.put, List.setIfInBounds_toArray, List.set_cons_zero, List.set_cons_succ, i64_w, i32_w]
              rfl
            refine take_ (i := 6) (N := some 62) (v := ?_) (a' := ?_) #[true, true, true, true, true, true, true, false] rfl rfl (by kernel_rfl) (fun _ _ _ h => h) (Or.inl ⟨by rfl, ?_⟩) hHeld ?_ ?_
            rotate_left
            · rintro w' ⟨s0, s1⟩
              go_simp
              with_reducible rfl
            rotate_left
            · simp only [Act.put, List.setIfInBounds_toArray, List.set_cons_zero, List.set_cons_succ, i64_w, i32_w]
              rfl
            refine pure_ (i := 7) (N := some 63) (v := ?_) (a' := ?_) #[true, true, true, true, true, true, true, true] rfl rfl (by kernel_rfl) (fun _ _ _ h => h) (Or.inl ⟨by rfl, ?_⟩) ?_ ?_
            rotate_left
            · intro w'
              go_simp
              with_reducible rfl
            rotate_left
            · simp only [Act.put, List.setIfInBounds_toArray, List.set_cons_zero, List.set_cons_succ, i64_w, i32_w]
              rfl
            refine done_ (by kernel_rfl) ?_
            go_wp2
            go_roundg (i - (k + 1))
            case measure => have := HG2.out; omega
            case rel => exact ⟨k + 1, by go_num, by omega, ⟨rfl⟩, ⟨q + 1, by rw [HQ.out]; rfl⟩, HNE⟩
        · obtain rfl : k = i := by omega
          have HK9 := Aside0.mk (show ((l.take (k + 1)).map (·.1)).Nodup ∧ ∀ x ∈ l.take (k + 1), ¬ (at_ ≤ x.1 ∧ x.1 < at_ + 199) ∧ 0 ≤ x.1 ∧ x.1 < len ∧ x.2.length = 64 from by
            rw [List.take_add_one, rdP_get hlt, ← HX.out]
            refine ⟨?_, ?_⟩
            · rw [List.map_append, List.nodup_append]
              refine ⟨HK.out.1, by simp, ?_⟩
              intro a ha b' hb' e
              simp at hb'
              subst hb'
              obtain ⟨z, hz, rfl⟩ := List.mem_map.1 ha
              obtain ⟨j, hj⟩ := List.mem_iff_getElem?.1 hz
              rw [List.getElem?_take] at hj
              by_cases hjk : j < k
              · rw [if_pos hjk, rdP_get (by omega)] at hj
                exact HN.out j hjk (by rw [Option.some.inj hj]; exact e)
              · rw [if_neg hjk] at hj; cases hj
            · intro x hx
              rcases List.mem_append.1 hx with hx | hx
              · exact HK.out.2 x hx
              · simp at hx
                subst hx
                have := HBD.out
                exact Decidable.of_not_not (of_decide_eq_false this.symm))
          go_wp2
          go_roundg (l.length - (k + 1))
          case measure => have := HG.out; omega
          case rel => exact ⟨k + 1, by go_num, by omega, ⟨rfl⟩, HBW, HK9⟩
    · have hil : i = l.length := by omega
      subst hil
      have HM := Aside0.mk (show mayB len at_ l = true from by
        have hk := HK.out
        rw [List.take_length] at hk
        rw [mayB_all hk.1 hk.2, decide_eq_true hn])
      go_wp2
      go_ret
      rw [HM.out]
      exact ⟨rfl, HB.out⟩
end Go.Proofs.Ytmfndobdkihbnaa.Dk
