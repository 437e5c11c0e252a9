/-
  The walk of the statement GraphMore.
-/
import Derived.Test.YtcgcojdkkkfkdaaLo
import Derived.Test.YtcgcojdkkkfkdaaLb
import Derived.Deep.DeepCutAuto
namespace Go.Proofs.Ytcgcojdkkkfkdaa
open Go.RowKit Go.Proofs.YtcgcojdkkkfkdaaW.PrintWords Go.Proofs.YtcgcojdkkkfkdaaW.PrintLast Go.Proofs.YtcgcojdkkkfkdaaW.PrintMore
set_option linter.unusedVariables false
set_option linter.unusedSimpArgs false

theorem i64_bounds {i : Int} (hi : (Lit.int .i64 i).wf = true) : -9223372036854775808 ≤ i ∧ i ≤ 9223372036854775807 := by
  simp only [Lit.wf, decide_eq_true_eq, Bool.and_eq_true] at hi
  have h1 : IntKind.i64.min = -9223372036854775808 := rfl
  have h2 : IntKind.i64.max = 9223372036854775807 := rfl
  omega

theorem edge_one {w : World} {g : Nat} {x y : Int} {f : Bool} (h0 : w.cell? ⟨g, 0, none⟩ = some (.int .i64 x)) (h1 : w.cell? ⟨g, 1, none⟩ = some (.int .i64 y)) (h2 : w.cell? ⟨g, 2, none⟩ = some (.bool f)) : Kd.C kE w (some ⟨g, 0, none⟩) 1 [(x, y, f)] := by
  refine ⟨rfl, by decide, fun _ => ⟨⟨g, 0, none⟩, rfl, fun j p hj => ?_⟩⟩
  rcases j with _ | j
  · simp only [List.getElem?_cons_zero, Option.some.injEq] at hj
    subst hj
    refine ⟨_, rfl, kE_mk w (x, y, f), fun i u hu => ?_⟩
    rcases i with _ | _ | _ | i
    · simp at hu; subst hu; simpa [Addr.add] using h0
    · simp at hu; subst hu; simpa [Addr.add] using h1
    · simp at hu; subst hu; simpa [Addr.add] using h2
    · simp at hu
  · simp at hj

set_option maxHeartbeats 6400000 in
set_option maxRecDepth 100000 in
theorem lawMore_any (n : Int) (A : Option Addr) (c : Nat) (l : List Gr.E) (a b : Int) (w : World) (hl : Kd.C kE w A l.length l) (hlc : l.length ≤ c) (hy : l.length * 24 ≤ 140737488351232) (ha : (Lit.int .i64 a).wf = true) (hb : (Lit.int .i64 b).wf = true) :
    Calls Try.prog 7 #[.int .i64 n, .slice A l.length c, .agg #[.int .i64 a, .int .i64 b]] w fun e w' => e = .returned (.bool true) ∧ Below w.heap.size w w' := by
  have HL := Aside0.mk hl
  have HLC := Aside0.mk hlc
  have hl62 : l.length ≤ 5864062014635 := by omega
  have hab := i64_bounds ha
  have hbb := i64_bounds hb
  clear hl hlc ha hb
  go_enter Try.func7, Try.ntmps7
  go_wp2_with fail
  obtain ⟨wb, hwb⟩ : ∃ wb, wb = w.alloc (Obj.cells #[Value.int IntKind.i64 a, Value.int IntKind.i64 b] 57) := ⟨_, rfl⟩
  have hc0 : wb.cell? ⟨w.heap.size, 0, none⟩ = some (.int .i64 a) := by rw [hwb]; simp
  have hc1 : wb.cell? ⟨w.heap.size, 1, none⟩ = some (.int .i64 b) := by rw [hwb]; simp
  have hsz : w.heap.size < wb.heap.size := by rw [hwb]; simp
  have B0 := Aside0.mk (show Below w.heap.size w wb from by rw [hwb]; exact (Below.refl w.heap.size w).alloc (Nat.le_refl _) _)
  rw [← hwb]
  clear hwb
  refine (shown_any wb).mono ?_
  rintro e w1 ⟨rfl, hb1⟩
  have B1 := Aside0.mk hb1
  clear hb1
  go_wp2_with fail
  have B01 := Aside0.mk (below_step B0.out B1.out)
  refine (order_any n A c l w1 (Kd.C_below HL.out B01.out)).mono ?_
  rintro e w3 ⟨v7, v8, rfl, hr7, hr8, hb3⟩
  have BW3 := Aside0.mk (below_step B01.out hb3)
  have B3 := Aside0.mk (below_step B1.out hb3)
  have ha0 := (B3.out.cell (p := ⟨w.heap.size, 0, none⟩) hsz).trans hc0
  have ha1 := (B3.out.cell (p := ⟨w.heap.size, 1, none⟩) hsz).trans hc1
  obtain ⟨A7, c7, rfl, hl7, hc7⟩ := hr7
  obtain ⟨A8, c8, rfl, hl8, hc8⟩ := hr8
  have C7 := Aside0.mk hc7
  clear hb3 hl8 hc8 hl7 hc7 hc0 hc1 B3 B1 B0 B01
  have hspec : Aside0 ((Gr.order n l).2.2 ≠ 0 ∨ (Gr.bad n l = false ∧ (Gr.order n l).2.2 = 0 ∧ Gr.Topo n.toNat l (Gr.order n l).1)) := ⟨by
    rcases Gr.order_spec n l with ⟨hb, ho⟩ | ⟨hb, a, ho, ht⟩ | ⟨hb, cy, ho, ht⟩
    · rw [ho]; left; simp
    · rw [ho]; right; exact ⟨hb, rfl, ht⟩
    · rw [ho]; left; simp⟩
  obtain ⟨oa, hoa⟩ : ∃ x, x = (Gr.order n l).1 := ⟨_, rfl⟩
  obtain ⟨oc, hoc⟩ : ∃ x, x = (Gr.order n l).2.1 := ⟨_, rfl⟩
  obtain ⟨oe, hoe⟩ : ∃ x, x = (Gr.order n l).2.2 := ⟨_, rfl⟩
  rw [← hoa, ← hoc, ← hoe]
  rw [← hoa] at C7
  rw [← hoa, ← hoe] at hspec
  have HOE := Aside0.mk hoe
  clear hoa hoc hoe
  rcases hspec.out with he | ⟨hbad, he, hto⟩
  · have he' : (oe != 0) = true := by simpa using he
    clear he hspec
    go_wp2
    go_ret
    exact ⟨rfl, BW3.out⟩
  subst he
  have HTO := Aside0.mk hto
  have HBAD := Aside0.mk hbad
  have h32 : oa.length ≤ 32 := by have := hto.len; have := (Gr.bad_false hbad).2.1; omega
  clear hto hbad hspec
  by_cases hl2 : (oa.length : Int) < 2
  · go_wp2
    go_ret
    exact ⟨rfl, BW3.out⟩
  go_upto_region 5 with (fail)
  go_quiet (fail)
  have BQ := Aside0.mk (pw_below_drewN BW3.out nq)
  have CQ := Aside0.mk (Kd.C_drewN C7.out nq)
  obtain ⟨wq, hwq⟩ : ∃ wq, wq = w3.drewN nq := ⟨_, rfl⟩
  rw [← hwq] at BQ CQ ⊢
  clear hwq BW3 C7 ha0 ha1 hsz
  go_upto_if 47 with (fail)
  go_cut [11] (fun s11 wx => wx = wq ∧ ∃ v : Int, s11 = .int .i64 v ∧ 0 ≤ v ∧ v ≤ 9223372036854775807)
  case first =>
    go_wp2
    all_goals go_meet
    case rel => exact ⟨rfl, _, rfl, by omega, by omega⟩
    case rel => exact ⟨rfl, _, rfl, by omega, by omega⟩
  obtain ⟨hw7, v, rfl, hv0, hv1⟩ := hcut
  rw [hw7]
  clear hw7 wc
  go_upto_if 52 with (fail)
  go_cut [12] (fun s12 wx => wx = wq ∧ ∃ u : Int, s12 = .int .i64 u ∧ 0 ≤ u ∧ u ≤ 9223372036854775807)
  case first =>
    go_wp2
    all_goals go_meet
    case rel => exact ⟨rfl, _, rfl, by omega, by omega⟩
    case rel => exact ⟨rfl, _, rfl, by omega, by omega⟩
  obtain ⟨hw7, u, rfl, hu0, hu1⟩ := hcut
  rw [hw7]
  clear hw7 wc
  have hne2 : (oa.length : Int) ≠ 0 := by omega
  have hi0 : 0 ≤ v % (oa.length : Int) := Int.emod_nonneg _ hne2
  have hi1 : v % (oa.length : Int) < (oa.length : Int) := Int.emod_lt_of_pos _ (by omega)
  have hk0 : 0 ≤ u % (oa.length : Int) := Int.emod_nonneg _ hne2
  have hk1 : u % (oa.length : Int) < (oa.length : Int) := Int.emod_lt_of_pos _ (by omega)
  go_upto_if 66 with (fail)
  go_cut [11, 12] (fun s11 s12 wx => wx = wq ∧ ∃ i k : Nat, s11 = .int .i64 i ∧ s12 = .int .i64 k ∧ i ≤ k ∧ k < oa.length)
  case first =>
    obtain ⟨i', hi'⟩ := Int.eq_ofNat_of_zero_le hi0
    obtain ⟨k', hk'⟩ := Int.eq_ofNat_of_zero_le hk0
    rw [hi'] at hi1
    rw [hk'] at hk1
    rw [hi', hk']
    clear hi' hk' hi0 hk0 hv0 hv1 hu0 hu1
    go_wp2
    all_goals go_meet
    case rel => exact ⟨rfl, _, _, rfl, rfl, by omega, by omega⟩
    case rel => exact ⟨rfl, _, _, rfl, rfl, by omega, by omega⟩
  obtain ⟨hw7, i, k, rfl, rfl, hik, hkl⟩ := hcut
  rw [hw7]
  clear hw7 wc hi0 hi1 hk0 hk1 hv0 hv1 hu0 hu1 u v
  by_cases hik2 : (i : Int) = (k : Int)
  · go_wp2
    go_ret
    exact ⟨rfl, BQ.out⟩
  have hik3 : i < k := by omega
  clear hik hik2
  go_upto_region 16 with (fail)
  obtain ⟨ad7, eA, hi_⟩ := Kd.at_int CQ.out (i : Int) (by omega) (by omega)
  subst eA
  obtain ⟨x, hx⟩ : ∃ x, x = rd oa (i : Int) := ⟨_, rfl⟩
  obtain ⟨y, hy⟩ : ∃ y, y = rd oa (k : Int) := ⟨_, rfl⟩
  have HF : Aside0 (∀ W' : World, Below wq.heap.size wq W' → W'.cell? (ad7.add i) = some (.int .i64 x) ∧ W'.cell? (ad7.add k) = some (.int .i64 y)) := ⟨fun W' hB => by
    have CC' := Kd.C_below CQ.out hB
    obtain ⟨_, e1, h1⟩ := Kd.at_int CC' (i : Int) (by omega) (by omega)
    cases e1
    obtain ⟨_, e1, h2⟩ := Kd.at_int CC' (k : Int) (by omega) (by omega)
    cases e1
    rw [Int.toNat_natCast, ← hx] at h1
    rw [Int.toNat_natCast, ← hy] at h2
    exact ⟨h1, h2⟩⟩
  have HX : Aside0 (x = oa.getD i 0 ∧ y = oa.getD k 0) := ⟨by rw [hx, hy, rd_nat, rd_nat]; exact ⟨rfl, rfl⟩⟩
  clear hi_ hx hy
  have hil : i < oa.length := by omega
  have BR := Aside0.mk (Below.refl wq.heap.size wq)
  refine start_ (n := 23) (S := fun w' => w'.cell? (ad7.add i) = some (.int .i64 x) ∧ w'.cell? (ad7.add k) = some (.int .i64 y)) (ds := []) #[false, false, false, false, false, false, false, false, false, false, false, false, false, false, false, false, false, false, false, false, false, false, false] (by kernel_rfl) rfl rfl ⟨(HF.out _ (pw_below_drewN BR.out 1)).1, (HF.out _ (pw_below_drewN BR.out 1)).2⟩ (fun hHeld => ?_)
  refine pure_ (i := 0) (N := some 73) (v := ?_) (a' := ?_) #[true, false, false, false, false, false, false, false, false, false, false, false, false, false, false, false, false, false, false, false, false, false, false] rfl rfl (by kernel_rfl) (fun _ _ _ h => h) (Or.inl ⟨by rfl, ?_⟩) ?_ ?_
  rotate_left
  · intro w'
    go_simp
    with_reducible rfl
  rotate_left
  · simp only [Act.put, List.setIfInBounds_toArray, List.set_cons_zero, List.set_cons_succ, i64_w, i32_w]
    rfl
  refine pure_ (i := 2) (N := some 75) (v := ?_) (a' := ?_) #[true, false, true, false, false, false, false, false, false, false, false, false, false, false, false, false, false, false, false, false, false, false, false] rfl rfl (by kernel_rfl) (fun _ _ _ h => h) (Or.inl ⟨by rfl, ?_⟩) ?_ ?_
  rotate_left
  · intro w'
    go_simp
    with_reducible rfl
  rotate_left
  · simp only [Act.put, List.setIfInBounds_toArray, List.set_cons_zero, List.set_cons_succ, i64_w, i32_w]
    rfl
  refine pure_ (i := 4) (N := some 77) (v := ?_) (a' := ?_) #[true, false, true, false, true, false, false, false, false, false, false, false, false, false, false, false, false, false, false, false, false, false, false] rfl rfl (by kernel_rfl) (fun _ _ _ h => h) (Or.inl ⟨by rfl, ?_⟩) ?_ ?_
  rotate_left
  · intro w'
    go_simp
    with_reducible rfl
  rotate_left
  · simp only [Act.put, List.setIfInBounds_toArray, List.set_cons_zero, List.set_cons_succ, i64_w, i32_w]
    rfl
  refine pure_ (i := 5) (N := some 78) (v := ?_) (a' := ?_) #[true, false, true, false, true, true, false, false, false, false, false, false, false, false, false, false, false, false, false, false, false, false, false] rfl rfl (by kernel_rfl) (fun _ _ _ h => h) (Or.inl ⟨by rfl, ?_⟩) ?_ ?_
  rotate_left
  · intro w'
    go_simp
    with_reducible rfl
  rotate_left
  · simp only [Act.put, List.setIfInBounds_toArray, List.set_cons_zero, List.set_cons_succ, i64_w, i32_w]
    rfl
  refine pure_ (i := 6) (N := some 79) (v := ?_) (a' := ?_) #[true, false, true, false, true, true, true, false, false, false, false, false, false, false, false, false, false, false, false, false, false, false, false] rfl rfl (by kernel_rfl) (fun _ _ _ h => h) (Or.inl ⟨by rfl, ?_⟩) ?_ ?_
  rotate_left
  · intro w'
    go_simp
    with_reducible rfl
  rotate_left
  · simp only [Act.put, List.setIfInBounds_toArray, List.set_cons_zero, List.set_cons_succ, i64_w, i32_w]
    rfl
  refine pure_ (i := 8) (N := some 81) (v := ?_) (a' := ?_) #[true, false, true, false, true, true, true, false, true, false, false, false, false, false, false, false, false, false, false, false, false, false, false] rfl rfl (by kernel_rfl) (fun _ _ _ h => h) (Or.inl ⟨by rfl, ?_⟩) ?_ ?_
  rotate_left
  · intro w'
    go_simp
    with_reducible rfl
  rotate_left
  · simp only [Act.put, List.setIfInBounds_toArray, List.set_cons_zero, List.set_cons_succ, i64_w, i32_w]
    rfl
  refine pure_ (i := 9) (N := some 82) (v := ?_) (a' := ?_) #[true, false, true, false, true, true, true, false, true, true, false, false, false, false, false, false, false, false, false, false, false, false, false] rfl rfl (by kernel_rfl) (fun _ _ _ h => h) (Or.inl ⟨by rfl, ?_⟩) ?_ ?_
  rotate_left
  · intro w'
    go_simp
    with_reducible rfl
  rotate_left
  · simp only [Act.put, List.setIfInBounds_toArray, List.set_cons_zero, List.set_cons_succ, i64_w, i32_w]
    rfl
  refine pure_ (i := 10) (N := some 83) (v := ?_) (a' := ?_) #[true, false, true, false, true, true, true, false, true, true, true, false, false, false, false, false, false, false, false, false, false, false, false] rfl rfl (by kernel_rfl) (fun _ _ _ h => h) (Or.inl ⟨by rfl, ?_⟩) ?_ ?_
  rotate_left
  · intro w'
    go_simp
    with_reducible rfl
  rotate_left
  · simp only [Act.put, List.setIfInBounds_toArray, List.set_cons_zero, List.set_cons_succ, i64_w, i32_w]
    rfl
  refine take_ (i := 7) (N := some 80) (v := ?_) (a' := ?_) #[true, false, true, false, true, true, true, true, true, true, true, false, false, false, false, false, false, false, false, false, false, false, false] rfl rfl (by kernel_rfl) (fun _ _ _ h => h) (Or.inl ⟨by rfl, ?_⟩) hHeld ?_ ?_
  rotate_left
  · rintro w' ⟨s0, s1⟩
    go_simp
    with_reducible rfl
  rotate_left
  · simp only [Act.put, List.setIfInBounds_toArray, List.set_cons_zero, List.set_cons_succ, i64_w, i32_w]
    rfl
  refine take_ (i := 11) (N := some 84) (v := ?_) (a' := ?_) #[true, false, true, false, true, true, true, true, true, true, true, true, false, false, false, false, false, false, false, false, false, false, false] rfl rfl (by kernel_rfl) (fun _ _ _ h => h) (Or.inl ⟨by rfl, ?_⟩) hHeld ?_ ?_
  rotate_left
  · rintro w' ⟨s0, s1⟩
    go_simp
    with_reducible rfl
  rotate_left
  · simp only [Act.put, List.setIfInBounds_toArray, List.set_cons_zero, List.set_cons_succ, i64_w, i32_w]
    rfl
  refine pure_ (i := 12) (N := some 85) (v := ?_) (a' := ?_) #[true, false, true, false, true, true, true, true, true, true, true, true, true, false, false, false, false, false, false, false, false, false, false] rfl rfl (by kernel_rfl) (fun _ _ _ h => h) (Or.inl ⟨by rfl, ?_⟩) ?_ ?_
  rotate_left
  · intro w'
    go_simp
    with_reducible rfl
  rotate_left
  · simp only [Act.put, List.setIfInBounds_toArray, List.set_cons_zero, List.set_cons_succ, i64_w, i32_w]
    rfl
  refine join_ (σ := Nat × Value × Nat) 9 #[true, true, true, true, true, true, true, true, true, true, true, true, true, true, false, false, false, false, false, false, false, false, false] (fun s_ => [(74, .slice (some ⟨s_.1, 0, none⟩) 0 0), (76, s_.2.1), (86, .slice (some ⟨s_.2.2, 0, none⟩) 1 1)]) (fun s_ w' => (w'.cell? (ad7.add i) = some (.int .i64 x) ∧ w'.cell? (ad7.add k) = some (.int .i64 y)) ∧ Below wq.heap.size wq w' ∧ Kd.R kE 52 w' wq.heap.size (fun _ => True) s_.2.1 l ∧ w'.cell? ⟨s_.2.2, 0, none⟩ = some (.int .i64 x) ∧ w'.cell? ⟨s_.2.2, 1, none⟩ = some (.int .i64 y) ∧ w'.cell? ⟨s_.2.2, 2, none⟩ = some (.bool false)) ?_ ?_
  rotate_left
  · intro hCont
    refine two_ (i := 1) (j := 13) (Ni := some 74) (Nj := some 86) #[true, true, true, false, true, true, true, true, true, true, true, true, true, false, false, false, false, false, false, false, false, false, false] #[true, false, true, false, true, true, true, true, true, true, true, true, true, true, false, false, false, false, false, false, false, false, false] rfl rfl rfl rfl (by kernel_rfl) (by decide) (by decide) (fun K hK => ?_) (fun K hK => ?_)
    · skip
      refine value_ (w1 := ?_) (v := ?_) (by rfl) rfl ?_ ?_
      rotate_left 2
      · go_simp
        constructor
        · rfl
        · rfl
      obtain ⟨wa, hwa⟩ : ∃ wa, wa = (wq.alloc (.cells #[] 52)).drew := ⟨_, rfl⟩
      have R1_ := Aside0.mk (show Kd.R kE 52 wa wq.heap.size (fun _ => True) (.slice (some ⟨wq.heap.size, 0, none⟩) 0 0) [] from by rw [hwa]; exact Kd.R_drewN (emptyE wq wq.heap.size (Nat.le_refl _)) 1)
      have B1_ := Aside0.mk (show Below wq.heap.size wq wa from by rw [hwa]; exact pw_below_drewN ((Below.refl wq.heap.size wq).alloc (Nat.le_refl _) (.cells #[] 52)) 1)
      have z1_ : wq.heap.size < wa.heap.size := by rw [hwa]; simp
      rw [← hwa]
      clear hwa
      refine hK.out _ _ ⟨(HF.out _ (below_step BR.out B1_.out)).1, (HF.out _ (below_step BR.out B1_.out)).2⟩ (fun hHeld => ?_)
      clear hK K
      refine norm_ (a' := ?_) ?_ ?_
      rotate_left
      · show Act.put _ (some 74) _ = _
        simp only [Act.put, List.setIfInBounds_toArray, List.set_cons_zero, List.set_cons_succ, i64_w, i32_w]
        rfl
      refine two_ (i := 3) (j := 13) (Ni := some 76) (Nj := some 86) #[true, true, true, true, true, true, true, true, true, true, true, true, true, false, false, false, false, false, false, false, false, false, false] #[true, true, true, false, true, true, true, true, true, true, true, true, true, true, false, false, false, false, false, false, false, false, false] rfl rfl rfl rfl (by kernel_rfl) (by decide) (by decide) (fun K hK => ?_) (fun K hK => ?_)
      · skip
        refine Kd.R_append_rows_step kE (Rr := kE.K wa) (w0 := wq) wq.heap.size (by rfl) (.tmp 74) (.tmp 75) 44 52 (.agg #[.int .i64 0, .int .i64 0, .bool false]) 24 rfl Try.underlying44 info52 rfl (by decide) (by omega) (.slice (some ⟨wq.heap.size, 0, none⟩) 0 0) [] l A l.length c (fun _ => True) (fun _ => False) rfl rfl R1_.out (Kd.C_below HL.out (below_step (below_step BQ.out BR.out) B1_.out)) (fun x cs h => kE_KM x cs h) (fun _ hk => hk.elim) (fun _ _ => trivial) B1_.out B1_.out.size (by simp; omega) ?_
        intro v3_ w3_ ho_ hb_ hg_ hat_
        rw [List.nil_append] at ho_
        have R3_ := Aside0.mk ho_
        have B3_ := Aside0.mk hb_
        refine hK.out _ _ ⟨(HF.out _ (below_step BR.out B3_.out)).1, (HF.out _ (below_step BR.out B3_.out)).2⟩ (fun hHeld => ?_)
        clear hK K
        refine norm_ (a' := ?_) ?_ ?_
        rotate_left
        · show Act.put _ (some 76) _ = _
          simp only [Act.put, List.setIfInBounds_toArray, List.set_cons_zero, List.set_cons_succ, i64_w, i32_w]
          rfl
        refine one_ (i := 13) (N := some 86) #[true, true, true, true, true, true, true, true, true, true, true, true, true, true, false, false, false, false, false, false, false, false, false] rfl rfl (by kernel_rfl) (by decide) (fun K hK => ?_)
        refine value_ (w1 := ?_) (v := ?_) (by rfl) rfl ?_ ?_
        rotate_left 2
        · go_simp
          constructor
          · rfl
          · rfl
        obtain ⟨w13, hw13⟩ : ∃ w13, w13 = w3_.alloc (.cells #[Value.int .i64 x, Value.int .i64 y, Value.bool false] 52) := ⟨_, rfl⟩
        have B13_ := Aside0.mk (show Below wq.heap.size wq w13 from by rw [hw13]; exact B3_.out.alloc B3_.out.size _)
        have R13_ := Aside0.mk (show Kd.R kE 52 w13 wq.heap.size (fun _ => True) v3_ l from by rw [hw13]; exact Kd.R_below R3_.out ((Below.refl _ _).alloc (Nat.le_refl _) _))
        have e0_ : w13.cell? ⟨w3_.heap.size, 0, none⟩ = some (.int .i64 x) := by rw [hw13]; simp
        have e1_ : w13.cell? ⟨w3_.heap.size, 1, none⟩ = some (.int .i64 y) := by rw [hw13]; simp
        have e2_ : w13.cell? ⟨w3_.heap.size, 2, none⟩ = some (.bool false) := by rw [hw13]; simp
        rw [← hw13]
        clear hw13
        refine hK.out _ _ ⟨(HF.out _ (below_step BR.out B13_.out)).1, (HF.out _ (below_step BR.out B13_.out)).2⟩ (fun hHeld => ?_)
        clear hK K
        refine norm_ (a' := ?_) ?_ ?_
        rotate_left
        · show Act.put _ (some 86) _ = _
          simp only [Act.put, List.setIfInBounds_toArray, List.set_cons_zero, List.set_cons_succ, i64_w, i32_w]
          rfl
        exact norm_ (by simp only [putAll, Act.put, List.setIfInBounds_toArray, List.set_cons_zero, List.set_cons_succ]) (hCont (wq.heap.size, v3_, w3_.heap.size) _ ⟨HF.out _ (below_step BR.out B13_.out), B13_.out, R13_.out, e0_, e1_, e2_⟩)
      · skip
        refine value_ (w1 := ?_) (v := ?_) (by rfl) rfl ?_ ?_
        rotate_left 2
        · go_simp
          constructor
          · rfl
          · rfl
        obtain ⟨w13, hw13⟩ : ∃ w13, w13 = wa.alloc (.cells #[Value.int .i64 x, Value.int .i64 y, Value.bool false] 52) := ⟨_, rfl⟩
        have B13_ := Aside0.mk (show Below wq.heap.size wq w13 from by rw [hw13]; exact B1_.out.alloc B1_.out.size _)
        have R13_ := Aside0.mk (show Kd.R kE 52 w13 wq.heap.size (fun _ => True) (.slice (some ⟨wq.heap.size, 0, none⟩) 0 0) [] from by rw [hw13]; exact Kd.R_below R1_.out ((Below.refl _ _).alloc (Nat.le_refl _) _))
        have e0_ : w13.cell? ⟨wa.heap.size, 0, none⟩ = some (.int .i64 x) := by rw [hw13]; simp
        have e1_ : w13.cell? ⟨wa.heap.size, 1, none⟩ = some (.int .i64 y) := by rw [hw13]; simp
        have e2_ : w13.cell? ⟨wa.heap.size, 2, none⟩ = some (.bool false) := by rw [hw13]; simp
        rw [← hw13]
        clear hw13
        refine hK.out _ _ ⟨(HF.out _ (below_step BR.out B13_.out)).1, (HF.out _ (below_step BR.out B13_.out)).2⟩ (fun hHeld => ?_)
        clear hK K
        refine norm_ (a' := ?_) ?_ ?_
        rotate_left
        · show Act.put _ (some 86) _ = _
          simp only [Act.put, List.setIfInBounds_toArray, List.set_cons_zero, List.set_cons_succ, i64_w, i32_w]
          rfl
        refine one_ (i := 3) (N := some 76) #[true, true, true, true, true, true, true, true, true, true, true, true, true, true, false, false, false, false, false, false, false, false, false] rfl rfl (by kernel_rfl) (by decide) (fun K hK => ?_)
        refine Kd.R_append_rows_step kE (Rr := kE.K w13) (w0 := wq) wq.heap.size (by rfl) (.tmp 74) (.tmp 75) 44 52 (.agg #[.int .i64 0, .int .i64 0, .bool false]) 24 rfl Try.underlying44 info52 rfl (by decide) (by omega) (.slice (some ⟨wq.heap.size, 0, none⟩) 0 0) [] l A l.length c (fun _ => True) (fun _ => False) rfl rfl R13_.out (Kd.C_below HL.out (below_step (below_step BQ.out BR.out) B13_.out)) (fun x cs h => kE_KM x cs h) (fun _ hk => hk.elim) (fun _ _ => trivial) B13_.out B13_.out.size (by simp; omega) ?_
        intro v3_ w3_ ho_ hb_ hg_ hat_
        rw [List.nil_append] at ho_
        have R3_ := Aside0.mk ho_
        have B3_ := Aside0.mk hb_
        have f0_ := hg_.cell e0_ (by simp [Value.ownBlock]; omega)
        have f1_ := hg_.cell e1_ (by simp [Value.ownBlock]; omega)
        have f2_ := hg_.cell e2_ (by simp [Value.ownBlock]; omega)
        refine hK.out _ _ ⟨(HF.out _ (below_step BR.out B3_.out)).1, (HF.out _ (below_step BR.out B3_.out)).2⟩ (fun hHeld => ?_)
        clear hK K
        refine norm_ (a' := ?_) ?_ ?_
        rotate_left
        · show Act.put _ (some 76) _ = _
          simp only [Act.put, List.setIfInBounds_toArray, List.set_cons_zero, List.set_cons_succ, i64_w, i32_w]
          rfl
        exact norm_ (by simp only [putAll, Act.put, List.setIfInBounds_toArray, List.set_cons_zero, List.set_cons_succ]) (hCont (wq.heap.size, v3_, wa.heap.size) _ ⟨HF.out _ (below_step BR.out B3_.out), B3_.out, R3_.out, f0_, f1_, f2_⟩)
    · skip
      refine value_ (w1 := ?_) (v := ?_) (by rfl) rfl ?_ ?_
      rotate_left 2
      · go_simp
        constructor
        · rfl
        · rfl
      obtain ⟨w13, hw13⟩ : ∃ w13, w13 = (wq.alloc (.cells #[Value.int .i64 x, Value.int .i64 y, Value.bool false] 52)).drew := ⟨_, rfl⟩
      have B13_ := Aside0.mk (show Below wq.heap.size wq w13 from by rw [hw13]; exact pw_below_drewN ((Below.refl wq.heap.size wq).alloc (Nat.le_refl _) _) 1)
      have z13_ : wq.heap.size < w13.heap.size := by rw [hw13]; simp
      have e0_ : w13.cell? ⟨wq.heap.size, 0, none⟩ = some (.int .i64 x) := by rw [hw13]; simp
      have e1_ : w13.cell? ⟨wq.heap.size, 1, none⟩ = some (.int .i64 y) := by rw [hw13]; simp
      have e2_ : w13.cell? ⟨wq.heap.size, 2, none⟩ = some (.bool false) := by rw [hw13]; simp
      rw [← hw13]
      clear hw13
      refine hK.out _ _ ⟨(HF.out _ (below_step BR.out B13_.out)).1, (HF.out _ (below_step BR.out B13_.out)).2⟩ (fun hHeld => ?_)
      clear hK K
      refine norm_ (a' := ?_) ?_ ?_
      rotate_left
      · show Act.put _ (some 86) _ = _
        simp only [Act.put, List.setIfInBounds_toArray, List.set_cons_zero, List.set_cons_succ, i64_w, i32_w]
        rfl
      refine one_ (i := 1) (N := some 74) #[true, true, true, false, true, true, true, true, true, true, true, true, true, true, false, false, false, false, false, false, false, false, false] rfl rfl (by kernel_rfl) (by decide) (fun K hK => ?_)
      refine value_ (w1 := ?_) (v := ?_) (by rfl) rfl ?_ ?_
      rotate_left 2
      · go_simp
        constructor
        · rfl
        · rfl
      obtain ⟨wa, hwa⟩ : ∃ wa, wa = w13.alloc (.cells #[] 52) := ⟨_, rfl⟩
      have R1_ := Aside0.mk (show Kd.R kE 52 wa wq.heap.size (fun _ => True) (.slice (some ⟨w13.heap.size, 0, none⟩) 0 0) [] from by rw [hwa]; exact emptyE w13 wq.heap.size B13_.out.size)
      have B1_ := Aside0.mk (show Below wq.heap.size wq wa from by rw [hwa]; exact B13_.out.alloc B13_.out.size (.cells #[] 52))
      have a0_ : wa.cell? ⟨wq.heap.size, 0, none⟩ = some (.int .i64 x) := by rw [hwa]; exact ((World.grownBy_alloc w13 (.cells #[] 52) none).cell e0_ (by simp))
      have a1_ : wa.cell? ⟨wq.heap.size, 1, none⟩ = some (.int .i64 y) := by rw [hwa]; exact ((World.grownBy_alloc w13 (.cells #[] 52) none).cell e1_ (by simp))
      have a2_ : wa.cell? ⟨wq.heap.size, 2, none⟩ = some (.bool false) := by rw [hwa]; exact ((World.grownBy_alloc w13 (.cells #[] 52) none).cell e2_ (by simp))
      rw [← hwa]
      clear hwa
      refine hK.out _ _ ⟨(HF.out _ (below_step BR.out B1_.out)).1, (HF.out _ (below_step BR.out B1_.out)).2⟩ (fun hHeld => ?_)
      clear hK K
      refine norm_ (a' := ?_) ?_ ?_
      rotate_left
      · show Act.put _ (some 74) _ = _
        simp only [Act.put, List.setIfInBounds_toArray, List.set_cons_zero, List.set_cons_succ, i64_w, i32_w]
        rfl
      refine one_ (i := 3) (N := some 76) #[true, true, true, true, true, true, true, true, true, true, true, true, true, true, false, false, false, false, false, false, false, false, false] rfl rfl (by kernel_rfl) (by decide) (fun K hK => ?_)
      refine Kd.R_append_rows_step kE (Rr := kE.K wa) (w0 := wq) wq.heap.size (by rfl) (.tmp 74) (.tmp 75) 44 52 (.agg #[.int .i64 0, .int .i64 0, .bool false]) 24 rfl Try.underlying44 info52 rfl (by decide) (by omega) (.slice (some ⟨w13.heap.size, 0, none⟩) 0 0) [] l A l.length c (fun _ => True) (fun _ => False) rfl rfl R1_.out (Kd.C_below HL.out (below_step (below_step BQ.out BR.out) B1_.out)) (fun x cs h => kE_KM x cs h) (fun _ hk => hk.elim) (fun _ _ => trivial) B1_.out B1_.out.size (by simp; omega) ?_
      intro v3_ w3_ ho_ hb_ hg_ hat_
      rw [List.nil_append] at ho_
      have R3_ := Aside0.mk ho_
      have B3_ := Aside0.mk hb_
      have f0_ := hg_.cell a0_ (by simp [Value.ownBlock]; omega)
      have f1_ := hg_.cell a1_ (by simp [Value.ownBlock]; omega)
      have f2_ := hg_.cell a2_ (by simp [Value.ownBlock]; omega)
      refine hK.out _ _ ⟨(HF.out _ (below_step BR.out B3_.out)).1, (HF.out _ (below_step BR.out B3_.out)).2⟩ (fun hHeld => ?_)
      clear hK K
      refine norm_ (a' := ?_) ?_ ?_
      rotate_left
      · show Act.put _ (some 76) _ = _
        simp only [Act.put, List.setIfInBounds_toArray, List.set_cons_zero, List.set_cons_succ, i64_w, i32_w]
        rfl
      exact norm_ (by simp only [putAll, Act.put, List.setIfInBounds_toArray, List.set_cons_zero, List.set_cons_succ]) (hCont (w13.heap.size, v3_, wq.heap.size) _ ⟨HF.out _ (below_step BR.out B3_.out), B3_.out, R3_.out, f0_, f1_, f2_⟩)
  rintro ⟨b1_, v76, g86⟩ wf ⟨hHeld, hb_, hr_, h0_, h1_, h2_⟩
  have BF := Aside0.mk hb_
  have RF := Aside0.mk hr_
  have ED := Aside0.mk (show Kd.C kE wf (some ⟨g86, 0, none⟩) 1 [(x, y, false)] from edge_one h0_ h1_ h2_)
  clear hb_ hr_ h0_ h1_ h2_
  refine norm_ (a' := ?_) ?_ ?_
  rotate_left
  · simp only [putAll, Act.put, List.setIfInBounds_toArray, List.set_cons_zero, List.set_cons_succ]
    rfl
  refine one_ (i := 14) (N := some 87) #[true, true, true, true, true, true, true, true, true, true, true, true, true, true, true, false, false, false, false, false, false, false, false] rfl rfl (by kernel_rfl) (by decide) (fun K hK => ?_)
  refine Kd.R_append_rows_step kE (Rr := kE.K wf) (w0 := wq) wq.heap.size (by rfl) (.tmp 76) (.tmp 86) 44 52 (.agg #[.int .i64 0, .int .i64 0, .bool false]) 24 rfl Try.underlying44 info52 rfl (by decide) (by omega) v76 l [(x, y, false)] (some ⟨g86, 0, none⟩) 1 1 (fun _ => True) (fun _ => False) rfl rfl RF.out ED.out (fun x cs h => kE_KM x cs h) (fun _ hk => hk.elim) (fun _ _ => trivial) BF.out BF.out.size (by omega) ?_
  intro v14_ w14_ ho_ hb_ hg_ hat_
  obtain ⟨A14, c14, e14, hl14, hc14⟩ := Kd.R_reads ho_
  subst e14
  have C14 := Aside0.mk hc14
  have B14 := Aside0.mk hb_
  clear ho_ hb_ hg_ hat_ hl14 hc14 RF ED BF
  refine hK.out _ _ ⟨(HF.out _ (below_step BR.out B14.out)).1, (HF.out _ (below_step BR.out B14.out)).2⟩ (fun hHeld => ?_)
  clear hK K
  refine norm_ (a' := ?_) ?_ ?_
  rotate_left
  · show Act.put _ (some 87) _ = _
    simp only [Act.put, List.setIfInBounds_toArray, List.set_cons_zero, List.set_cons_succ, i64_w, i32_w]
    rfl
  refine one_ (i := 15) (N := some 88) #[true, true, true, true, true, true, true, true, true, true, true, true, true, true, true, true, false, false, false, false, false, false, false] rfl rfl (by kernel_rfl) (by decide) (fun K hK => ?_)
  refine goes_ Try.func25 (by kernel_rfl) rfl #[.int .i64 n, .slice A14 (l ++ [(x, y, false)]).length c14] (by rfl) rfl rfl (by simp only [List.map_toArray, List.map_cons, List.map_nil]; rfl) ?_
  refine (order_any n A14 c14 (l ++ [(x, y, false)]) w14_ C14.out).mono ?_
  rintro e ws ⟨v17, v18, rfl, hr17, hr18, hb8⟩
  refine ⟨_, rfl, ?_⟩
  have BS := Aside0.mk (below_step (below_step BR.out B14.out) hb8)
  obtain ⟨A13, c13, rfl, hl17, hc17⟩ := hr17
  obtain ⟨A14, c14, rfl, hl18, hc18⟩ := hr18
  clear hb8 hl17 hc17 hl18 hc18 C14 B14
  refine hK.out _ _ ⟨(HF.out _ BS.out).1, (HF.out _ BS.out).2⟩ (fun hHeld => ?_)
  clear hK K
  refine norm_ (a' := ?_) ?_ ?_
  rotate_left
  · show Act.put _ (some 88) _ = _
    simp only [Act.put, List.setIfInBounds_toArray, List.set_cons_zero, List.set_cons_succ, i64_w, i32_w]
    rfl
  refine pure_ (i := 16) (N := some 72) (v := ?_) (a' := ?_) #[true, true, true, true, true, true, true, true, true, true, true, true, true, true, true, true, true, false, false, false, false, false, false] rfl rfl (by kernel_rfl) (fun _ _ _ h => h) (Or.inl ⟨by rfl, ?_⟩) ?_ ?_
  rotate_left
  · intro w'
    go_simp
    with_reducible rfl
  rotate_left
  · simp only [Act.put, List.setIfInBounds_toArray, List.set_cons_zero, List.set_cons_succ, i64_w, i32_w]
    rfl
  refine pure_ (i := 17) (N := some 89) (v := ?_) (a' := ?_) #[true, true, true, true, true, true, true, true, true, true, true, true, true, true, true, true, true, true, false, false, false, false, false] rfl rfl (by kernel_rfl) (fun _ _ _ h => h) (Or.inl ⟨by rfl, ?_⟩) ?_ ?_
  rotate_left
  · intro w'
    go_simp
    with_reducible rfl
  rotate_left
  · simp only [Act.put, List.setIfInBounds_toArray, List.set_cons_zero, List.set_cons_succ, i64_w, i32_w]
    rfl
  refine pure_ (i := 18) (N := some 90) (v := ?_) (a' := ?_) #[true, true, true, true, true, true, true, true, true, true, true, true, true, true, true, true, true, true, true, false, false, false, false] rfl rfl (by kernel_rfl) (fun _ _ _ h => h) (Or.inl ⟨by rfl, ?_⟩) ?_ ?_
  rotate_left
  · intro w'
    go_simp
    with_reducible rfl
  rotate_left
  · simp only [Act.put, List.setIfInBounds_toArray, List.set_cons_zero, List.set_cons_succ, i64_w, i32_w]
    rfl
  refine pure_ (i := 19) (N := some 91) (v := ?_) (a' := ?_) #[true, true, true, true, true, true, true, true, true, true, true, true, true, true, true, true, true, true, true, true, false, false, false] rfl rfl (by kernel_rfl) (fun _ _ _ h => h) (Or.inl ⟨by rfl, ?_⟩) ?_ ?_
  rotate_left
  · intro w'
    go_simp
    with_reducible rfl
  rotate_left
  · simp only [Act.put, List.setIfInBounds_toArray, List.set_cons_zero, List.set_cons_succ, i64_w, i32_w]
    rfl
  refine pure_ (i := 20) (N := some 13) (v := ?_) (a' := ?_) #[true, true, true, true, true, true, true, true, true, true, true, true, true, true, true, true, true, true, true, true, true, false, false] rfl rfl (by kernel_rfl) (fun _ _ _ h => h) (Or.inl ⟨by rfl, ?_⟩) ?_ ?_
  rotate_left
  · intro w'
    go_simp
    with_reducible rfl
  rotate_left
  · simp only [Act.put, List.setIfInBounds_toArray, List.set_cons_zero, List.set_cons_succ, i64_w, i32_w]
    rfl
  refine pure_ (i := 21) (N := some 14) (v := ?_) (a' := ?_) #[true, true, true, true, true, true, true, true, true, true, true, true, true, true, true, true, true, true, true, true, true, true, false] rfl rfl (by kernel_rfl) (fun _ _ _ h => h) (Or.inl ⟨by rfl, ?_⟩) ?_ ?_
  rotate_left
  · intro w'
    go_simp
    with_reducible rfl
  rotate_left
  · simp only [Act.put, List.setIfInBounds_toArray, List.set_cons_zero, List.set_cons_succ, i64_w, i32_w]
    rfl
  refine pure_ (i := 22) (N := some 15) (v := ?_) (a' := ?_) #[true, true, true, true, true, true, true, true, true, true, true, true, true, true, true, true, true, true, true, true, true, true, true] rfl rfl (by kernel_rfl) (fun _ _ _ h => h) (Or.inl ⟨by rfl, ?_⟩) ?_ ?_
  rotate_left
  · intro w'
    go_simp
    with_reducible rfl
  rotate_left
  · simp only [Act.put, List.setIfInBounds_toArray, List.set_cons_zero, List.set_cons_succ, i64_w, i32_w]
    rfl
  refine done_ (by kernel_rfl) ?_
  go_upto_region 17 with (fail)
  refine start_ (n := 23) (S := fun w' => w'.cell? (ad7.add i) = some (.int .i64 x) ∧ w'.cell? (ad7.add k) = some (.int .i64 y)) (ds := []) #[false, false, false, false, false, false, false, false, false, false, false, false, false, false, false, false, false, false, false, false, false, false, false] (by kernel_rfl) rfl rfl ⟨(HF.out _ (pw_below_drewN BS.out 1)).1, (HF.out _ (pw_below_drewN BS.out 1)).2⟩ (fun hHeld => ?_)
  refine pure_ (i := 0) (N := some 93) (v := ?_) (a' := ?_) #[true, false, false, false, false, false, false, false, false, false, false, false, false, false, false, false, false, false, false, false, false, false, false] rfl rfl (by kernel_rfl) (fun _ _ _ h => h) (Or.inl ⟨by rfl, ?_⟩) ?_ ?_
  rotate_left
  · intro w'
    go_simp
    with_reducible rfl
  rotate_left
  · simp only [Act.put, List.setIfInBounds_toArray, List.set_cons_zero, List.set_cons_succ, i64_w, i32_w]
    rfl
  refine pure_ (i := 2) (N := some 95) (v := ?_) (a' := ?_) #[true, false, true, false, false, false, false, false, false, false, false, false, false, false, false, false, false, false, false, false, false, false, false] rfl rfl (by kernel_rfl) (fun _ _ _ h => h) (Or.inl ⟨by rfl, ?_⟩) ?_ ?_
  rotate_left
  · intro w'
    go_simp
    with_reducible rfl
  rotate_left
  · simp only [Act.put, List.setIfInBounds_toArray, List.set_cons_zero, List.set_cons_succ, i64_w, i32_w]
    rfl
  refine pure_ (i := 4) (N := some 97) (v := ?_) (a' := ?_) #[true, false, true, false, true, false, false, false, false, false, false, false, false, false, false, false, false, false, false, false, false, false, false] rfl rfl (by kernel_rfl) (fun _ _ _ h => h) (Or.inl ⟨by rfl, ?_⟩) ?_ ?_
  rotate_left
  · intro w'
    go_simp
    with_reducible rfl
  rotate_left
  · simp only [Act.put, List.setIfInBounds_toArray, List.set_cons_zero, List.set_cons_succ, i64_w, i32_w]
    rfl
  refine pure_ (i := 5) (N := some 98) (v := ?_) (a' := ?_) #[true, false, true, false, true, true, false, false, false, false, false, false, false, false, false, false, false, false, false, false, false, false, false] rfl rfl (by kernel_rfl) (fun _ _ _ h => h) (Or.inl ⟨by rfl, ?_⟩) ?_ ?_
  rotate_left
  · intro w'
    go_simp
    with_reducible rfl
  rotate_left
  · simp only [Act.put, List.setIfInBounds_toArray, List.set_cons_zero, List.set_cons_succ, i64_w, i32_w]
    rfl
  refine pure_ (i := 6) (N := some 99) (v := ?_) (a' := ?_) #[true, false, true, false, true, true, true, false, false, false, false, false, false, false, false, false, false, false, false, false, false, false, false] rfl rfl (by kernel_rfl) (fun _ _ _ h => h) (Or.inl ⟨by rfl, ?_⟩) ?_ ?_
  rotate_left
  · intro w'
    go_simp
    with_reducible rfl
  rotate_left
  · simp only [Act.put, List.setIfInBounds_toArray, List.set_cons_zero, List.set_cons_succ, i64_w, i32_w]
    rfl
  refine pure_ (i := 8) (N := some 101) (v := ?_) (a' := ?_) #[true, false, true, false, true, true, true, false, true, false, false, false, false, false, false, false, false, false, false, false, false, false, false] rfl rfl (by kernel_rfl) (fun _ _ _ h => h) (Or.inl ⟨by rfl, ?_⟩) ?_ ?_
  rotate_left
  · intro w'
    go_simp
    with_reducible rfl
  rotate_left
  · simp only [Act.put, List.setIfInBounds_toArray, List.set_cons_zero, List.set_cons_succ, i64_w, i32_w]
    rfl
  refine pure_ (i := 9) (N := some 102) (v := ?_) (a' := ?_) #[true, false, true, false, true, true, true, false, true, true, false, false, false, false, false, false, false, false, false, false, false, false, false] rfl rfl (by kernel_rfl) (fun _ _ _ h => h) (Or.inl ⟨by rfl, ?_⟩) ?_ ?_
  rotate_left
  · intro w'
    go_simp
    with_reducible rfl
  rotate_left
  · simp only [Act.put, List.setIfInBounds_toArray, List.set_cons_zero, List.set_cons_succ, i64_w, i32_w]
    rfl
  refine pure_ (i := 10) (N := some 103) (v := ?_) (a' := ?_) #[true, false, true, false, true, true, true, false, true, true, true, false, false, false, false, false, false, false, false, false, false, false, false] rfl rfl (by kernel_rfl) (fun _ _ _ h => h) (Or.inl ⟨by rfl, ?_⟩) ?_ ?_
  rotate_left
  · intro w'
    go_simp
    with_reducible rfl
  rotate_left
  · simp only [Act.put, List.setIfInBounds_toArray, List.set_cons_zero, List.set_cons_succ, i64_w, i32_w]
    rfl
  refine take_ (i := 7) (N := some 100) (v := ?_) (a' := ?_) #[true, false, true, false, true, true, true, true, true, true, true, false, false, false, false, false, false, false, false, false, false, false, false] rfl rfl (by kernel_rfl) (fun _ _ _ h => h) (Or.inl ⟨by rfl, ?_⟩) hHeld ?_ ?_
  rotate_left
  · rintro w' ⟨s0, s1⟩
    go_simp
    with_reducible rfl
  rotate_left
  · simp only [Act.put, List.setIfInBounds_toArray, List.set_cons_zero, List.set_cons_succ, i64_w, i32_w]
    rfl
  refine take_ (i := 11) (N := some 104) (v := ?_) (a' := ?_) #[true, false, true, false, true, true, true, true, true, true, true, true, false, false, false, false, false, false, false, false, false, false, false] rfl rfl (by kernel_rfl) (fun _ _ _ h => h) (Or.inl ⟨by rfl, ?_⟩) hHeld ?_ ?_
  rotate_left
  · rintro w' ⟨s0, s1⟩
    go_simp
    with_reducible rfl
  rotate_left
  · simp only [Act.put, List.setIfInBounds_toArray, List.set_cons_zero, List.set_cons_succ, i64_w, i32_w]
    rfl
  refine pure_ (i := 12) (N := some 105) (v := ?_) (a' := ?_) #[true, false, true, false, true, true, true, true, true, true, true, true, true, false, false, false, false, false, false, false, false, false, false] rfl rfl (by kernel_rfl) (fun _ _ _ h => h) (Or.inl ⟨by rfl, ?_⟩) ?_ ?_
  rotate_left
  · intro w'
    go_simp
    with_reducible rfl
  rotate_left
  · simp only [Act.put, List.setIfInBounds_toArray, List.set_cons_zero, List.set_cons_succ, i64_w, i32_w]
    rfl
  refine join_ (σ := Nat × Value × Nat) 9 #[true, true, true, true, true, true, true, true, true, true, true, true, true, true, false, false, false, false, false, false, false, false, false] (fun s_ => [(94, .slice (some ⟨s_.1, 0, none⟩) 0 0), (96, s_.2.1), (106, .slice (some ⟨s_.2.2, 0, none⟩) 1 1)]) (fun s_ w' => (w'.cell? (ad7.add i) = some (.int .i64 x) ∧ w'.cell? (ad7.add k) = some (.int .i64 y)) ∧ Below ws.heap.size ws w' ∧ Kd.R kE 52 w' ws.heap.size (fun _ => True) s_.2.1 l ∧ w'.cell? ⟨s_.2.2, 0, none⟩ = some (.int .i64 y) ∧ w'.cell? ⟨s_.2.2, 1, none⟩ = some (.int .i64 x) ∧ w'.cell? ⟨s_.2.2, 2, none⟩ = some (.bool false)) ?_ ?_
  rotate_left
  · intro hCont
    refine two_ (i := 1) (j := 13) (Ni := some 94) (Nj := some 106) #[true, true, true, false, true, true, true, true, true, true, true, true, true, false, false, false, false, false, false, false, false, false, false] #[true, false, true, false, true, true, true, true, true, true, true, true, true, true, false, false, false, false, false, false, false, false, false] rfl rfl rfl rfl (by kernel_rfl) (by decide) (by decide) (fun K hK => ?_) (fun K hK => ?_)
    · skip
      refine value_ (w1 := ?_) (v := ?_) (by rfl) rfl ?_ ?_
      rotate_left 2
      · go_simp
        constructor
        · rfl
        · rfl
      obtain ⟨wa, hwa⟩ : ∃ wa, wa = (ws.alloc (.cells #[] 52)).drew := ⟨_, rfl⟩
      have R1_ := Aside0.mk (show Kd.R kE 52 wa ws.heap.size (fun _ => True) (.slice (some ⟨ws.heap.size, 0, none⟩) 0 0) [] from by rw [hwa]; exact Kd.R_drewN (emptyE ws ws.heap.size (Nat.le_refl _)) 1)
      have B1_ := Aside0.mk (show Below ws.heap.size ws wa from by rw [hwa]; exact pw_below_drewN ((Below.refl ws.heap.size ws).alloc (Nat.le_refl _) (.cells #[] 52)) 1)
      have z1_ : ws.heap.size < wa.heap.size := by rw [hwa]; simp
      rw [← hwa]
      clear hwa
      refine hK.out _ _ ⟨(HF.out _ (below_step BS.out B1_.out)).1, (HF.out _ (below_step BS.out B1_.out)).2⟩ (fun hHeld => ?_)
      clear hK K
      refine norm_ (a' := ?_) ?_ ?_
      rotate_left
      · show Act.put _ (some 94) _ = _
        simp only [Act.put, List.setIfInBounds_toArray, List.set_cons_zero, List.set_cons_succ, i64_w, i32_w]
        rfl
      refine two_ (i := 3) (j := 13) (Ni := some 96) (Nj := some 106) #[true, true, true, true, true, true, true, true, true, true, true, true, true, false, false, false, false, false, false, false, false, false, false] #[true, true, true, false, true, true, true, true, true, true, true, true, true, true, false, false, false, false, false, false, false, false, false] rfl rfl rfl rfl (by kernel_rfl) (by decide) (by decide) (fun K hK => ?_) (fun K hK => ?_)
      · skip
        refine Kd.R_append_rows_step kE (Rr := kE.K wa) (w0 := ws) ws.heap.size (by rfl) (.tmp 94) (.tmp 95) 44 52 (.agg #[.int .i64 0, .int .i64 0, .bool false]) 24 rfl Try.underlying44 info52 rfl (by decide) (by omega) (.slice (some ⟨ws.heap.size, 0, none⟩) 0 0) [] l A l.length c (fun _ => True) (fun _ => False) rfl rfl R1_.out (Kd.C_below HL.out (below_step (below_step BQ.out BS.out) B1_.out)) (fun x cs h => kE_KM x cs h) (fun _ hk => hk.elim) (fun _ _ => trivial) B1_.out B1_.out.size (by simp; omega) ?_
        intro v3_ w3_ ho_ hb_ hg_ hat_
        rw [List.nil_append] at ho_
        have R3_ := Aside0.mk ho_
        have B3_ := Aside0.mk hb_
        refine hK.out _ _ ⟨(HF.out _ (below_step BS.out B3_.out)).1, (HF.out _ (below_step BS.out B3_.out)).2⟩ (fun hHeld => ?_)
        clear hK K
        refine norm_ (a' := ?_) ?_ ?_
        rotate_left
        · show Act.put _ (some 96) _ = _
          simp only [Act.put, List.setIfInBounds_toArray, List.set_cons_zero, List.set_cons_succ, i64_w, i32_w]
          rfl
        refine one_ (i := 13) (N := some 106) #[true, true, true, true, true, true, true, true, true, true, true, true, true, true, false, false, false, false, false, false, false, false, false] rfl rfl (by kernel_rfl) (by decide) (fun K hK => ?_)
        refine value_ (w1 := ?_) (v := ?_) (by rfl) rfl ?_ ?_
        rotate_left 2
        · go_simp
          constructor
          · rfl
          · rfl
        obtain ⟨w13, hw13⟩ : ∃ w13, w13 = w3_.alloc (.cells #[Value.int .i64 y, Value.int .i64 x, Value.bool false] 52) := ⟨_, rfl⟩
        have B13_ := Aside0.mk (show Below ws.heap.size ws w13 from by rw [hw13]; exact B3_.out.alloc B3_.out.size _)
        have R13_ := Aside0.mk (show Kd.R kE 52 w13 ws.heap.size (fun _ => True) v3_ l from by rw [hw13]; exact Kd.R_below R3_.out ((Below.refl _ _).alloc (Nat.le_refl _) _))
        have e0_ : w13.cell? ⟨w3_.heap.size, 0, none⟩ = some (.int .i64 y) := by rw [hw13]; simp
        have e1_ : w13.cell? ⟨w3_.heap.size, 1, none⟩ = some (.int .i64 x) := by rw [hw13]; simp
        have e2_ : w13.cell? ⟨w3_.heap.size, 2, none⟩ = some (.bool false) := by rw [hw13]; simp
        rw [← hw13]
        clear hw13
        refine hK.out _ _ ⟨(HF.out _ (below_step BS.out B13_.out)).1, (HF.out _ (below_step BS.out B13_.out)).2⟩ (fun hHeld => ?_)
        clear hK K
        refine norm_ (a' := ?_) ?_ ?_
        rotate_left
        · show Act.put _ (some 106) _ = _
          simp only [Act.put, List.setIfInBounds_toArray, List.set_cons_zero, List.set_cons_succ, i64_w, i32_w]
          rfl
        exact norm_ (by simp only [putAll, Act.put, List.setIfInBounds_toArray, List.set_cons_zero, List.set_cons_succ]) (hCont (ws.heap.size, v3_, w3_.heap.size) _ ⟨HF.out _ (below_step BS.out B13_.out), B13_.out, R13_.out, e0_, e1_, e2_⟩)
      · skip
        refine value_ (w1 := ?_) (v := ?_) (by rfl) rfl ?_ ?_
        rotate_left 2
        · go_simp
          constructor
          · rfl
          · rfl
        obtain ⟨w13, hw13⟩ : ∃ w13, w13 = wa.alloc (.cells #[Value.int .i64 y, Value.int .i64 x, Value.bool false] 52) := ⟨_, rfl⟩
        have B13_ := Aside0.mk (show Below ws.heap.size ws w13 from by rw [hw13]; exact B1_.out.alloc B1_.out.size _)
        have R13_ := Aside0.mk (show Kd.R kE 52 w13 ws.heap.size (fun _ => True) (.slice (some ⟨ws.heap.size, 0, none⟩) 0 0) [] from by rw [hw13]; exact Kd.R_below R1_.out ((Below.refl _ _).alloc (Nat.le_refl _) _))
        have e0_ : w13.cell? ⟨wa.heap.size, 0, none⟩ = some (.int .i64 y) := by rw [hw13]; simp
        have e1_ : w13.cell? ⟨wa.heap.size, 1, none⟩ = some (.int .i64 x) := by rw [hw13]; simp
        have e2_ : w13.cell? ⟨wa.heap.size, 2, none⟩ = some (.bool false) := by rw [hw13]; simp
        rw [← hw13]
        clear hw13
        refine hK.out _ _ ⟨(HF.out _ (below_step BS.out B13_.out)).1, (HF.out _ (below_step BS.out B13_.out)).2⟩ (fun hHeld => ?_)
        clear hK K
        refine norm_ (a' := ?_) ?_ ?_
        rotate_left
        · show Act.put _ (some 106) _ = _
          simp only [Act.put, List.setIfInBounds_toArray, List.set_cons_zero, List.set_cons_succ, i64_w, i32_w]
          rfl
        refine one_ (i := 3) (N := some 96) #[true, true, true, true, true, true, true, true, true, true, true, true, true, true, false, false, false, false, false, false, false, false, false] rfl rfl (by kernel_rfl) (by decide) (fun K hK => ?_)
        refine Kd.R_append_rows_step kE (Rr := kE.K w13) (w0 := ws) ws.heap.size (by rfl) (.tmp 94) (.tmp 95) 44 52 (.agg #[.int .i64 0, .int .i64 0, .bool false]) 24 rfl Try.underlying44 info52 rfl (by decide) (by omega) (.slice (some ⟨ws.heap.size, 0, none⟩) 0 0) [] l A l.length c (fun _ => True) (fun _ => False) rfl rfl R13_.out (Kd.C_below HL.out (below_step (below_step BQ.out BS.out) B13_.out)) (fun x cs h => kE_KM x cs h) (fun _ hk => hk.elim) (fun _ _ => trivial) B13_.out B13_.out.size (by simp; omega) ?_
        intro v3_ w3_ ho_ hb_ hg_ hat_
        rw [List.nil_append] at ho_
        have R3_ := Aside0.mk ho_
        have B3_ := Aside0.mk hb_
        have f0_ := hg_.cell e0_ (by simp [Value.ownBlock]; omega)
        have f1_ := hg_.cell e1_ (by simp [Value.ownBlock]; omega)
        have f2_ := hg_.cell e2_ (by simp [Value.ownBlock]; omega)
        refine hK.out _ _ ⟨(HF.out _ (below_step BS.out B3_.out)).1, (HF.out _ (below_step BS.out B3_.out)).2⟩ (fun hHeld => ?_)
        clear hK K
        refine norm_ (a' := ?_) ?_ ?_
        rotate_left
        · show Act.put _ (some 96) _ = _
          simp only [Act.put, List.setIfInBounds_toArray, List.set_cons_zero, List.set_cons_succ, i64_w, i32_w]
          rfl
        exact norm_ (by simp only [putAll, Act.put, List.setIfInBounds_toArray, List.set_cons_zero, List.set_cons_succ]) (hCont (ws.heap.size, v3_, wa.heap.size) _ ⟨HF.out _ (below_step BS.out B3_.out), B3_.out, R3_.out, f0_, f1_, f2_⟩)
    · skip
      refine value_ (w1 := ?_) (v := ?_) (by rfl) rfl ?_ ?_
      rotate_left 2
      · go_simp
        constructor
        · rfl
        · rfl
      obtain ⟨w13, hw13⟩ : ∃ w13, w13 = (ws.alloc (.cells #[Value.int .i64 y, Value.int .i64 x, Value.bool false] 52)).drew := ⟨_, rfl⟩
      have B13_ := Aside0.mk (show Below ws.heap.size ws w13 from by rw [hw13]; exact pw_below_drewN ((Below.refl ws.heap.size ws).alloc (Nat.le_refl _) _) 1)
      have z13_ : ws.heap.size < w13.heap.size := by rw [hw13]; simp
      have e0_ : w13.cell? ⟨ws.heap.size, 0, none⟩ = some (.int .i64 y) := by rw [hw13]; simp
      have e1_ : w13.cell? ⟨ws.heap.size, 1, none⟩ = some (.int .i64 x) := by rw [hw13]; simp
      have e2_ : w13.cell? ⟨ws.heap.size, 2, none⟩ = some (.bool false) := by rw [hw13]; simp
      rw [← hw13]
      clear hw13
      refine hK.out _ _ ⟨(HF.out _ (below_step BS.out B13_.out)).1, (HF.out _ (below_step BS.out B13_.out)).2⟩ (fun hHeld => ?_)
      clear hK K
      refine norm_ (a' := ?_) ?_ ?_
      rotate_left
      · show Act.put _ (some 106) _ = _
        simp only [Act.put, List.setIfInBounds_toArray, List.set_cons_zero, List.set_cons_succ, i64_w, i32_w]
        rfl
      refine one_ (i := 1) (N := some 94) #[true, true, true, false, true, true, true, true, true, true, true, true, true, true, false, false, false, false, false, false, false, false, false] rfl rfl (by kernel_rfl) (by decide) (fun K hK => ?_)
      refine value_ (w1 := ?_) (v := ?_) (by rfl) rfl ?_ ?_
      rotate_left 2
      · go_simp
        constructor
        · rfl
        · rfl
      obtain ⟨wa, hwa⟩ : ∃ wa, wa = w13.alloc (.cells #[] 52) := ⟨_, rfl⟩
      have R1_ := Aside0.mk (show Kd.R kE 52 wa ws.heap.size (fun _ => True) (.slice (some ⟨w13.heap.size, 0, none⟩) 0 0) [] from by rw [hwa]; exact emptyE w13 ws.heap.size B13_.out.size)
      have B1_ := Aside0.mk (show Below ws.heap.size ws wa from by rw [hwa]; exact B13_.out.alloc B13_.out.size (.cells #[] 52))
      have a0_ : wa.cell? ⟨ws.heap.size, 0, none⟩ = some (.int .i64 y) := by rw [hwa]; exact ((World.grownBy_alloc w13 (.cells #[] 52) none).cell e0_ (by simp))
      have a1_ : wa.cell? ⟨ws.heap.size, 1, none⟩ = some (.int .i64 x) := by rw [hwa]; exact ((World.grownBy_alloc w13 (.cells #[] 52) none).cell e1_ (by simp))
      have a2_ : wa.cell? ⟨ws.heap.size, 2, none⟩ = some (.bool false) := by rw [hwa]; exact ((World.grownBy_alloc w13 (.cells #[] 52) none).cell e2_ (by simp))
      rw [← hwa]
      clear hwa
      refine hK.out _ _ ⟨(HF.out _ (below_step BS.out B1_.out)).1, (HF.out _ (below_step BS.out B1_.out)).2⟩ (fun hHeld => ?_)
      clear hK K
      refine norm_ (a' := ?_) ?_ ?_
      rotate_left
      · show Act.put _ (some 94) _ = _
        simp only [Act.put, List.setIfInBounds_toArray, List.set_cons_zero, List.set_cons_succ, i64_w, i32_w]
        rfl
      refine one_ (i := 3) (N := some 96) #[true, true, true, true, true, true, true, true, true, true, true, true, true, true, false, false, false, false, false, false, false, false, false] rfl rfl (by kernel_rfl) (by decide) (fun K hK => ?_)
      refine Kd.R_append_rows_step kE (Rr := kE.K wa) (w0 := ws) ws.heap.size (by rfl) (.tmp 94) (.tmp 95) 44 52 (.agg #[.int .i64 0, .int .i64 0, .bool false]) 24 rfl Try.underlying44 info52 rfl (by decide) (by omega) (.slice (some ⟨w13.heap.size, 0, none⟩) 0 0) [] l A l.length c (fun _ => True) (fun _ => False) rfl rfl R1_.out (Kd.C_below HL.out (below_step (below_step BQ.out BS.out) B1_.out)) (fun x cs h => kE_KM x cs h) (fun _ hk => hk.elim) (fun _ _ => trivial) B1_.out B1_.out.size (by simp; omega) ?_
      intro v3_ w3_ ho_ hb_ hg_ hat_
      rw [List.nil_append] at ho_
      have R3_ := Aside0.mk ho_
      have B3_ := Aside0.mk hb_
      have f0_ := hg_.cell a0_ (by simp [Value.ownBlock]; omega)
      have f1_ := hg_.cell a1_ (by simp [Value.ownBlock]; omega)
      have f2_ := hg_.cell a2_ (by simp [Value.ownBlock]; omega)
      refine hK.out _ _ ⟨(HF.out _ (below_step BS.out B3_.out)).1, (HF.out _ (below_step BS.out B3_.out)).2⟩ (fun hHeld => ?_)
      clear hK K
      refine norm_ (a' := ?_) ?_ ?_
      rotate_left
      · show Act.put _ (some 96) _ = _
        simp only [Act.put, List.setIfInBounds_toArray, List.set_cons_zero, List.set_cons_succ, i64_w, i32_w]
        rfl
      exact norm_ (by simp only [putAll, Act.put, List.setIfInBounds_toArray, List.set_cons_zero, List.set_cons_succ]) (hCont (w13.heap.size, v3_, ws.heap.size) _ ⟨HF.out _ (below_step BS.out B3_.out), B3_.out, R3_.out, f0_, f1_, f2_⟩)
  rintro ⟨b1_, v76, g86⟩ wf ⟨hHeld, hb_, hr_, h0_, h1_, h2_⟩
  have BF := Aside0.mk hb_
  have RF := Aside0.mk hr_
  have ED := Aside0.mk (show Kd.C kE wf (some ⟨g86, 0, none⟩) 1 [(y, x, false)] from edge_one h0_ h1_ h2_)
  clear hb_ hr_ h0_ h1_ h2_
  refine norm_ (a' := ?_) ?_ ?_
  rotate_left
  · simp only [putAll, Act.put, List.setIfInBounds_toArray, List.set_cons_zero, List.set_cons_succ]
    rfl
  refine one_ (i := 14) (N := some 107) #[true, true, true, true, true, true, true, true, true, true, true, true, true, true, true, false, false, false, false, false, false, false, false] rfl rfl (by kernel_rfl) (by decide) (fun K hK => ?_)
  refine Kd.R_append_rows_step kE (Rr := kE.K wf) (w0 := ws) ws.heap.size (by rfl) (.tmp 96) (.tmp 106) 44 52 (.agg #[.int .i64 0, .int .i64 0, .bool false]) 24 rfl Try.underlying44 info52 rfl (by decide) (by omega) v76 l [(y, x, false)] (some ⟨g86, 0, none⟩) 1 1 (fun _ => True) (fun _ => False) rfl rfl RF.out ED.out (fun x cs h => kE_KM x cs h) (fun _ hk => hk.elim) (fun _ _ => trivial) BF.out BF.out.size (by omega) ?_
  intro v14_ w14_ ho_ hb_ hg_ hat_
  obtain ⟨A14, c14, e14, hl14, hc14⟩ := Kd.R_reads ho_
  subst e14
  have C14 := Aside0.mk hc14
  have B14 := Aside0.mk hb_
  clear ho_ hb_ hg_ hat_ hl14 hc14 RF ED BF
  refine hK.out _ _ ⟨(HF.out _ (below_step BS.out B14.out)).1, (HF.out _ (below_step BS.out B14.out)).2⟩ (fun hHeld => ?_)
  clear hK K
  refine norm_ (a' := ?_) ?_ ?_
  rotate_left
  · show Act.put _ (some 107) _ = _
    simp only [Act.put, List.setIfInBounds_toArray, List.set_cons_zero, List.set_cons_succ, i64_w, i32_w]
    rfl
  refine one_ (i := 15) (N := some 108) #[true, true, true, true, true, true, true, true, true, true, true, true, true, true, true, true, false, false, false, false, false, false, false] rfl rfl (by kernel_rfl) (by decide) (fun K hK => ?_)
  refine goes_ Try.func25 (by kernel_rfl) rfl #[.int .i64 n, .slice A14 (l ++ [(y, x, false)]).length c14] (by rfl) rfl rfl (by simp only [List.map_toArray, List.map_cons, List.map_nil]; rfl) ?_
  refine (order_any n A14 c14 (l ++ [(y, x, false)]) w14_ C14.out).mono ?_
  rintro e wt ⟨v17, v18, rfl, hr17, hr18, hb8⟩
  refine ⟨_, rfl, ?_⟩
  have BT := Aside0.mk (below_step (below_step BS.out B14.out) hb8)
  obtain ⟨A16, c16, rfl, hl17, hc17⟩ := hr17
  obtain ⟨A17, c17, rfl, hl18, hc18⟩ := hr18
  clear hb8 hl17 hc17 hl18 hc18 C14 B14
  refine hK.out _ _ ⟨(HF.out _ BT.out).1, (HF.out _ BT.out).2⟩ (fun hHeld => ?_)
  clear hK K
  refine norm_ (a' := ?_) ?_ ?_
  rotate_left
  · show Act.put _ (some 108) _ = _
    simp only [Act.put, List.setIfInBounds_toArray, List.set_cons_zero, List.set_cons_succ, i64_w, i32_w]
    rfl
  refine pure_ (i := 16) (N := some 92) (v := ?_) (a' := ?_) #[true, true, true, true, true, true, true, true, true, true, true, true, true, true, true, true, true, false, false, false, false, false, false] rfl rfl (by kernel_rfl) (fun _ _ _ h => h) (Or.inl ⟨by rfl, ?_⟩) ?_ ?_
  rotate_left
  · intro w'
    go_simp
    with_reducible rfl
  rotate_left
  · simp only [Act.put, List.setIfInBounds_toArray, List.set_cons_zero, List.set_cons_succ, i64_w, i32_w]
    rfl
  refine pure_ (i := 17) (N := some 109) (v := ?_) (a' := ?_) #[true, true, true, true, true, true, true, true, true, true, true, true, true, true, true, true, true, true, false, false, false, false, false] rfl rfl (by kernel_rfl) (fun _ _ _ h => h) (Or.inl ⟨by rfl, ?_⟩) ?_ ?_
  rotate_left
  · intro w'
    go_simp
    with_reducible rfl
  rotate_left
  · simp only [Act.put, List.setIfInBounds_toArray, List.set_cons_zero, List.set_cons_succ, i64_w, i32_w]
    rfl
  refine pure_ (i := 18) (N := some 110) (v := ?_) (a' := ?_) #[true, true, true, true, true, true, true, true, true, true, true, true, true, true, true, true, true, true, true, false, false, false, false] rfl rfl (by kernel_rfl) (fun _ _ _ h => h) (Or.inl ⟨by rfl, ?_⟩) ?_ ?_
  rotate_left
  · intro w'
    go_simp
    with_reducible rfl
  rotate_left
  · simp only [Act.put, List.setIfInBounds_toArray, List.set_cons_zero, List.set_cons_succ, i64_w, i32_w]
    rfl
  refine pure_ (i := 19) (N := some 111) (v := ?_) (a' := ?_) #[true, true, true, true, true, true, true, true, true, true, true, true, true, true, true, true, true, true, true, true, false, false, false] rfl rfl (by kernel_rfl) (fun _ _ _ h => h) (Or.inl ⟨by rfl, ?_⟩) ?_ ?_
  rotate_left
  · intro w'
    go_simp
    with_reducible rfl
  rotate_left
  · simp only [Act.put, List.setIfInBounds_toArray, List.set_cons_zero, List.set_cons_succ, i64_w, i32_w]
    rfl
  refine pure_ (i := 20) (N := some 16) (v := ?_) (a' := ?_) #[true, true, true, true, true, true, true, true, true, true, true, true, true, true, true, true, true, true, true, true, true, false, false] rfl rfl (by kernel_rfl) (fun _ _ _ h => h) (Or.inl ⟨by rfl, ?_⟩) ?_ ?_
  rotate_left
  · intro w'
    go_simp
    with_reducible rfl
  rotate_left
  · simp only [Act.put, List.setIfInBounds_toArray, List.set_cons_zero, List.set_cons_succ, i64_w, i32_w]
    rfl
  refine pure_ (i := 21) (N := some 17) (v := ?_) (a' := ?_) #[true, true, true, true, true, true, true, true, true, true, true, true, true, true, true, true, true, true, true, true, true, true, false] rfl rfl (by kernel_rfl) (fun _ _ _ h => h) (Or.inl ⟨by rfl, ?_⟩) ?_ ?_
  rotate_left
  · intro w'
    go_simp
    with_reducible rfl
  rotate_left
  · simp only [Act.put, List.setIfInBounds_toArray, List.set_cons_zero, List.set_cons_succ, i64_w, i32_w]
    rfl
  refine pure_ (i := 22) (N := some 18) (v := ?_) (a' := ?_) #[true, true, true, true, true, true, true, true, true, true, true, true, true, true, true, true, true, true, true, true, true, true, true] rfl rfl (by kernel_rfl) (fun _ _ _ h => h) (Or.inl ⟨by rfl, ?_⟩) ?_ ?_
  rotate_left
  · intro w'
    go_simp
    with_reducible rfl
  rotate_left
  · simp only [Act.put, List.setIfInBounds_toArray, List.set_cons_zero, List.set_cons_succ, i64_w, i32_w]
    rfl
  refine done_ (by kernel_rfl) ?_
  have hf0 : (Gr.order n (l ++ [(x, y, false)])).2.2 = 0 := by
    rw [HX.out.1, HX.out.2]; exact (Gr.more_ok HBAD.out HTO.out i k hik3 hkl).2
  have hg0 : ((Gr.order n (l ++ [(y, x, false)])).2.2 = 80 ↔ y ∈ Gr.behind n l x) := by
    rw [HX.out.1, HX.out.2]; exact (Gr.more_cyc HBAD.out HTO.out i k hik3 hkl).2
  rw [hf0]
  obtain ⟨ge, hge⟩ : ∃ ge, ge = (Gr.order n (l ++ [(y, x, false)])).2.2 := ⟨_, rfl⟩
  rw [← hge] at hg0 ⊢
  have HG0 := Aside0.mk hg0
  clear hf0 hg0 hge BS BR
  have hx0 := (HF.out _ BT.out).1
  have BT' := Aside0.mk (below_step BQ.out BT.out)
  go_wp2_with fail
  refine (behind_any n x A c l wt (Kd.C_below HL.out BT'.out)).mono ?_
  rintro e w6 ⟨v1, rfl, ⟨A1, c1, rfl, hl1, hc1⟩, hb2⟩
  have B6 := Aside0.mk (below_step BT.out hb2)
  have C1 := Aside0.mk hc1
  have hb32 := behind_len n l x
  clear hb2 hl1 hc1 hx0 BT'
  obtain ⟨b, hbb⟩ : ∃ b, b = Gr.behind n l x := ⟨_, rfl⟩
  rw [← hbb] at C1 hb32 HG0 ⊢
  clear hbb
  have HFIN : Aside0 ((ge == 80) = b.any (fun z => z == y)) := ⟨by
    rw [Bool.eq_iff_iff, beq_iff_eq, HG0.out, List.any_eq_true]
    constructor
    · intro h; exact ⟨y, h, by simp⟩
    · rintro ⟨z, hz, e⟩; have : z = y := by simpa using e
      rw [← this]; exact hz⟩
  clear HG0
  go_wp2
  go_loopg [19, 21] b.length (fun g v19 v21 wr => ∃ (q : Nat), v21 = .int .i64 q ∧ q ≤ b.length ∧ v19 = .bool ((b.take q).any (fun z => z == y)) ∧ Aside0 (g = b.length - q) ∧ Aside0 (Below w6.heap.size w6 wr))
  case atStart => exact ⟨0, rfl, Nat.zero_le _, by simp, ⟨rfl⟩, ⟨Below.refl _ _⟩⟩
  case round =>
    obtain ⟨q, rfl, hq, rfl, HG2, HB2⟩ := hrel
    by_cases hlt2 : q < b.length
    · have hlt2' : (q : Int) < (b.length : Int) := by omega
      have hil' : (k : Int) < (oa.length : Int) := by omega
      have hk7 := (HF.out _ (below_step B6.out HB2.out)).2
      obtain ⟨ad, rfl, hz⟩ := Kd.at_int (Kd.C_below C1.out HB2.out) (q : Int) (by omega) (by omega)
      rw [Int.toNat_natCast] at hz
      have hst := any_take_succ b q hlt2 y
      obtain ⟨z, hzz⟩ : ∃ z, z = rd b (q : Int) := ⟨_, rfl⟩
      rw [← hzz] at hz hst
      clear hzz
      obtain ⟨r1, hr1⟩ : ∃ r1, r1 = (b.take q).any (fun z => z == y) := ⟨_, rfl⟩
      rw [← hr1] at hst ⊢
      have HST := Aside0.mk hst
      clear hst hr1
      cases r1
      · go_wp2
        go_quiet (fail)
        go_wp2
        go_roundg (b.length - (q + 1))
        case measure => have := HG2.out; omega
        case rel => exact ⟨q + 1, by go_num, by omega, by rw [HST.out]; simp, ⟨rfl⟩, ⟨pw_below_drewN HB2.out _⟩⟩
      · go_wp2
        go_quiet (fail)
        go_wp2
        go_roundg (b.length - (q + 1))
        case measure => have := HG2.out; omega
        case rel => exact ⟨q + 1, by go_num, by omega, by rw [HST.out]; simp, ⟨rfl⟩, ⟨pw_below_drewN HB2.out _⟩⟩
    · have hlt2' : ¬ (q : Int) < (b.length : Int) := by omega
      rw [List.take_of_length_le (by omega), ← HFIN.out]
      go_wp2
      go_ret
      exact ⟨by simp, below_step BQ.out (below_step B6.out HB2.out)⟩
end Go.Proofs.Ytcgcojdkkkfkdaa
