/-
  The walk of the statement GraphFewer.
-/
import Derived.Test.YtcgcojdkkkfkdaaLo
import Derived.Deep.DeepCutAuto
namespace Go.Proofs.Ytcgcojdkkkfkdaa
open Go.RowKit Go.Proofs.YtcgcojdkkkfkdaaW.PrintWords Go.Proofs.YtcgcojdkkkfkdaaW.PrintLast Go.Proofs.YtcgcojdkkkfkdaaW.PrintMore
set_option linter.unusedVariables false
set_option linter.unusedSimpArgs false

set_option maxHeartbeats 6400000 in
set_option maxRecDepth 100000 in
theorem lawFewer_any (n : Int) (A : Option Addr) (c : Nat) (l : List Gr.E) (i : Int) (w : World) (hl : Kd.C kE w A l.length l) (hlc : l.length ≤ c) (hy : l.length * 24 ≤ 140737488351232) (hi : (Lit.int .i64 i).wf = true) :
    Calls Try.prog 8 #[.int .i64 n, .slice A l.length c, .int .i64 i] w fun e w' => e = .returned (.bool true) ∧ Below w.heap.size w w' := by
  have HL := Aside0.mk hl
  have HLC := Aside0.mk hlc
  have hl62 : l.length ≤ 5864062014635 := by omega
  have hib : -9223372036854775808 ≤ i ∧ i ≤ 9223372036854775807 := by
    simp only [Lit.wf, decide_eq_true_eq, Bool.and_eq_true] at hi
    have h1 : IntKind.i64.min = -9223372036854775808 := rfl
    have h2 : IntKind.i64.max = 9223372036854775807 := rfl
    omega
  clear hl hlc hi
  go_enter Try.func8, Try.ntmps8
  go_wp2_with fail
  refine (shown_any w).mono ?_
  rintro e w1 ⟨rfl, hb1⟩
  have B1 := Aside0.mk hb1
  clear hb1
  go_wp2_with fail
  refine (order_any n A c l w1 (Kd.C_below HL.out B1.out)).mono ?_
  rintro e w3 ⟨v7, v8, rfl, hr7, hr8, hb3⟩
  have BW3 := Aside0.mk (below_step B1.out hb3)
  obtain ⟨A8, c8, rfl, hl8, hc8⟩ := hr8
  have C8 := Aside0.mk hc8
  obtain ⟨A7, c7, rfl, hl7, hc7⟩ := hr7
  clear hb3 hl8 hc8 hl7 hc7
  have hspec : Aside0 ((Gr.bad n l = true ∧ (Gr.order n l).2.2 = 1) ∨ (Gr.bad n l = false ∧ (Gr.order n l).2.2 = 0 ∧ (Gr.order n l).2.1 = []) ∨ (Gr.bad n l = false ∧ (Gr.order n l).2.2 = 80 ∧ Gr.Cyc n.toNat l (Gr.order n l).2.1 ∧ (Gr.order n l).2.1.length ≤ 32)) := ⟨by
    rcases Gr.order_spec n l with ⟨hb, ho⟩ | ⟨hb, a, ho, ht⟩ | ⟨hb, cy, ho, ht⟩
    · rw [ho]; left; exact ⟨hb, rfl⟩
    · rw [ho]; right; left; exact ⟨hb, rfl, rfl⟩
    · rw [ho]; right; right
      refine ⟨hb, rfl, ht, ?_⟩
      have := Gr.pigeon n.toNat cy ht.nodup ht.range
      have := (Gr.bad_false hb).2.1
      simp only; omega⟩
  obtain ⟨oa, hoa⟩ : ∃ x, x = (Gr.order n l).1 := ⟨_, rfl⟩
  obtain ⟨oc, hoc⟩ : ∃ x, x = (Gr.order n l).2.1 := ⟨_, rfl⟩
  obtain ⟨oe, hoe⟩ : ∃ x, x = (Gr.order n l).2.2 := ⟨_, rfl⟩
  rw [← hoa, ← hoc, ← hoe]
  rw [← hoc] at C8
  rw [← hoc, ← hoe] at hspec
  have HOE := Aside0.mk hoe
  clear hoa hoc hoe
  by_cases he1 : oe = 1
  · have he1' : (oe == 1) = true := by simpa using he1
    subst he1
    go_wp2
    go_ret
    exact ⟨rfl, BW3.out⟩
  have he1' : (oe == 1) = false := by simpa using he1
  by_cases hl0 : (l.length : Int) = 0
  · go_wp2
    go_ret
    exact ⟨rfl, BW3.out⟩
  go_upto_if 41 with (fail)
  go_cut [2] (fun s2 wx => wx = w3 ∧ ∃ v : Int, s2 = .int .i64 v ∧ 0 ≤ v ∧ v ≤ 9223372036854775807)
  case first =>
    go_wp2
    all_goals go_meet
    case rel => exact ⟨rfl, _, rfl, by omega, by omega⟩
    case rel => exact ⟨rfl, _, rfl, by omega, by omega⟩
  obtain ⟨hw7, v, rfl, hv0, hv1⟩ := hcut
  rw [hw7]
  clear hw7 wc
  go_upto_region 7 with (fail)
  go_cut [2] (fun s2 wx => wx = w3 ∧ ∃ j : Nat, s2 = .int .i64 j ∧ j < l.length)
  case first =>
    have hne2 : (l.length : Int) ≠ 0 := hl0
    have hj0 : 0 ≤ v.tmod (l.length : Int) := Int.tmod_nonneg _ (by omega)
    have hj1 : v.tmod (l.length : Int) < (l.length : Int) := Int.tmod_lt_of_pos _ (by omega)
    go_wp2
    go_meet
    case rel => exact ⟨rfl, (v.tmod (l.length : Int)).toNat, by rw [Int.toNat_of_nonneg hj0, Int.tmod_eq_emod_of_nonneg hv0], by omega⟩
  obtain ⟨hw7, j, rfl, hj⟩ := hcut
  rw [hw7]
  clear hw7 wc
  clear hv0 hv1 v
  go_upto_region 8 with (fail)
  have hjw : IntKind.i64.wrap ((j : Int) + 1) = (j : Int) + 1 := IntWalk.i64_in _ (by omega)
  have hjc : j ≤ c := by have := HLC.out; omega
  have hjb : (j : Int) + 1 ≤ (l.length : Int) := by omega
  have hjb0 : 0 ≤ (j : Int) + 1 := by omega
  refine start_ (n := 11) (S := fun w' => True) (ds := []) #[false, false, false, false, false, false, false, false, false, false, false] (by kernel_rfl) rfl rfl trivial (fun hHeld => ?_)
  refine pure_ (i := 1) (N := some 50) (v := ?_) (a' := ?_) #[false, true, false, false, false, false, false, false, false, false, false] rfl rfl (by kernel_rfl) (fun _ _ _ h => h) (Or.inl ⟨by rfl, ?_⟩) ?_ ?_
  rotate_left
  · intro w'
    go_simp
    with_reducible rfl
  rotate_left
  · simp only [Act.put, List.setIfInBounds_toArray, List.set_cons_zero, List.set_cons_succ, i64_w, i32_w]
    rfl
  refine pure_ (i := 2) (N := some 51) (v := ?_) (a' := ?_) #[false, true, true, false, false, false, false, false, false, false, false] rfl rfl (by kernel_rfl) (fun _ _ _ h => h) (Or.inl ⟨by rfl, ?_⟩) ?_ ?_
  rotate_left
  · intro w'
    go_simp
    with_reducible rfl
  rotate_left
  · simp only [Act.put, List.setIfInBounds_toArray, List.set_cons_zero, List.set_cons_succ, i64_w, i32_w]
    rfl
  refine pure_ (i := 3) (N := some 52) (v := ?_) (a' := ?_) #[false, true, true, true, false, false, false, false, false, false, false] rfl rfl (by kernel_rfl) (fun _ _ _ h => h) (Or.inl ⟨by rfl, ?_⟩) ?_ ?_
  rotate_left
  · intro w'
    go_simp
    with_reducible rfl
  rotate_left
  · simp only [Act.put, List.setIfInBounds_toArray, List.set_cons_zero, List.set_cons_succ, i64_w, i32_w]
    rfl
  refine pure_ (i := 5) (N := some 54) (v := ?_) (a' := ?_) #[false, true, true, true, false, true, false, false, false, false, false] rfl rfl (by kernel_rfl) (fun _ _ _ h => h) (Or.inl ⟨by rfl, ?_⟩) ?_ ?_
  rotate_left
  · intro w'
    go_simp
    with_reducible rfl
  rotate_left
  · simp only [Act.put, List.setIfInBounds_toArray, List.set_cons_zero, List.set_cons_succ, i64_w, i32_w]
    rfl
  refine pure_ (i := 6) (N := some 55) (v := ?_) (a' := ?_) #[false, true, true, true, false, true, true, false, false, false, false] rfl rfl (by kernel_rfl) (fun _ _ _ h => h) (Or.inl ⟨by rfl, ?_⟩) ?_ ?_
  rotate_left
  · intro w'
    go_simp
    with_reducible rfl
  rotate_left
  · simp only [Act.put, List.setIfInBounds_toArray, List.set_cons_zero, List.set_cons_succ, i64_w, i32_w]
    rfl
  refine pure_ (i := 7) (N := some 56) (v := ?_) (a' := ?_) #[false, true, true, true, false, true, true, true, false, false, false] rfl rfl (by kernel_rfl) (fun _ _ _ h => h) (Or.inl ⟨by rfl, ?_⟩) ?_ ?_
  rotate_left
  · intro w'
    go_simp
    with_reducible rfl
  rotate_left
  · simp only [Act.put, List.setIfInBounds_toArray, List.set_cons_zero, List.set_cons_succ, i64_w, i32_w]
    rfl
  refine pure_ (i := 8) (N := some 57) (v := ?_) (a' := ?_) #[false, true, true, true, false, true, true, true, true, false, false] rfl rfl (by kernel_rfl) (fun _ _ _ h => h) (Or.inl ⟨by rfl, ?_⟩) ?_ ?_
  rotate_left
  · intro w'
    go_simp
    with_reducible rfl
  rotate_left
  · simp only [Act.put, List.setIfInBounds_toArray, List.set_cons_zero, List.set_cons_succ, i64_w, i32_w]
    rfl
  refine one_ (i := 0) (N := some 49) #[true, true, true, true, false, true, true, true, true, false, false] rfl rfl (by kernel_rfl) (by decide) (fun K hK => ?_)
  refine value_ (w1 := ?_) (v := ?_) (by rfl) rfl ?_ ?_
  rotate_left 2
  · go_simp
    constructor
    · rfl
    · rfl
  obtain ⟨wa, hwa⟩ : ∃ wa, wa = (w3.alloc (.cells #[] 52)).drew := ⟨_, rfl⟩
  have E0 := Aside0.mk (show Kd.R kE 52 wa w3.heap.size (fun _ => True) (.slice (some ⟨w3.heap.size, 0, none⟩) 0 0) [] from by rw [hwa]; exact Kd.R_drewN (emptyE w3 w3.heap.size (Nat.le_refl _)) 1)
  have BA := Aside0.mk (show Below w3.heap.size w3 wa from by rw [hwa]; exact pw_below_drewN ((Below.refl w3.heap.size w3).alloc (Nat.le_refl _) (.cells #[] 52)) 1)
  rw [← hwa]
  clear hwa
  have CT := Aside0.mk (show Kd.C kE wa A j (l.take j) from by have h := Kd.C_take (Kd.C_below (Kd.C_below HL.out BW3.out) BA.out) (m := j) (by omega); rwa [List.length_take, Nat.min_eq_left (by omega)] at h)
  refine hK.out _ _ trivial (fun hHeld => ?_)
  clear hK K
  refine norm_ (a' := ?_) ?_ ?_
  rotate_left
  · show Act.put _ (some 49) _ = _
    simp only [Act.put, List.setIfInBounds_toArray, List.set_cons_zero, List.set_cons_succ, i64_w, i32_w]
    rfl
  refine one_ (i := 4) (N := some 53) #[true, true, true, true, true, true, true, true, true, false, false] rfl rfl (by kernel_rfl) (by decide) (fun K hK => ?_)
  refine Kd.R_append_rows_step kE (Rr := kE.K wa) (w0 := w3) w3.heap.size (by rfl) (.tmp 49) (.tmp 52) 44 52 (.agg #[.int .i64 0, .int .i64 0, .bool false]) 24 rfl Try.underlying44 info52 rfl (by decide) (by omega) (.slice (some ⟨w3.heap.size, 0, none⟩) 0 0) [] (l.take j) A j c (fun _ => True) (fun _ => False) rfl rfl E0.out CT.out (fun x cs h => kE_KM x cs h) (fun _ hk => hk.elim) (fun _ _ => trivial) BA.out BA.out.size (by simp; omega) ?_
  intro v6 w4 ho2 hb2 hg2 hat2
  rw [List.nil_append] at ho2
  have R2 := Aside0.mk ho2
  have B2 := Aside0.mk hb2
  have CD := Aside0.mk (show Kd.C kE w4 (if c = j + 1 then A else Option.map (fun x => x.add ((j + 1) * 3)) A) (l.length - (j + 1)) (l.drop (j + 1)) from by have h := Kd.C_drop (Kd.C_below HL.out (below_step BW3.out hb2)) (m := j + 1) (by omega) HLC.out; rwa [List.length_drop] at h)
  clear ho2 hb2 hg2 hat2 E0 CT BA
  refine hK.out _ _ trivial (fun hHeld => ?_)
  clear hK K
  refine norm_ (a' := ?_) ?_ ?_
  rotate_left
  · show Act.put _ (some 53) _ = _
    simp only [Act.put, List.setIfInBounds_toArray, List.set_cons_zero, List.set_cons_succ, i64_w, i32_w]
    rfl
  refine one_ (i := 9) (N := some 58) #[true, true, true, true, true, true, true, true, true, true, false] rfl rfl (by kernel_rfl) (by decide) (fun K hK => ?_)
  refine Kd.R_append_rows_step kE (Rr := kE.K w4) (w0 := w3) w3.heap.size (by rfl) (.tmp 53) (.tmp 57) 44 52 (.agg #[.int .i64 0, .int .i64 0, .bool false]) 24 rfl Try.underlying44 info52 rfl (by decide) (by omega) v6 (l.take j) (l.drop (j + 1)) _ _ _ (fun _ => True) (fun _ => False) rfl rfl R2.out CD.out (fun x cs h => kE_KM x cs h) (fun _ hk => hk.elim) (fun _ _ => trivial) B2.out B2.out.size (by rw [List.length_take]; omega) ?_
  intro v9 w5 ho2 hb2 hg2 hat2
  have R5 := Aside0.mk ho2
  have B5 := Aside0.mk hb2
  clear ho2 hb2 hg2 hat2 R2 CD B2
  refine hK.out _ _ trivial (fun hHeld => ?_)
  clear hK K
  refine norm_ (a' := ?_) ?_ ?_
  rotate_left
  · show Act.put _ (some 58) _ = _
    simp only [Act.put, List.setIfInBounds_toArray, List.set_cons_zero, List.set_cons_succ, i64_w, i32_w]
    rfl
  refine pure_ (i := 10) (N := some 11) (v := ?_) (a' := ?_) #[true, true, true, true, true, true, true, true, true, true, true] rfl rfl (by kernel_rfl) (fun _ _ _ h => h) (Or.inl ⟨by rfl, ?_⟩) ?_ ?_
  rotate_left
  · intro w'
    go_simp
    with_reducible rfl
  rotate_left
  · simp only [Act.put, List.setIfInBounds_toArray, List.set_cons_zero, List.set_cons_succ, i64_w, i32_w]
    rfl
  refine done_ (by kernel_rfl) ?_
  obtain ⟨A57, hA57⟩ : ∃ A57, A57 = (if c = j + 1 then A else Option.map (fun x => x.add ((j + 1) * 3)) A) := ⟨_, rfl⟩
  rw [← hA57]
  clear hA57
  have BW5 := Aside0.mk (below_step BW3.out B5.out)
  have C85 := Aside0.mk (Kd.C_below C8.out B5.out)
  clear hjw hjc hjb hjb0 C8 B5
  obtain ⟨A9, c9, e9, hl9, hc9⟩ := Kd.R_reads R5.out
  subst e9
  have C9 := Aside0.mk hc9
  clear hl9 hc9 R5
  obtain ⟨lf, hlf⟩ : ∃ lf, lf = l.take j ++ l.drop (j + 1) := ⟨_, rfl⟩
  rw [← hlf] at C9 ⊢
  have HLF := Aside0.mk hlf
  clear hlf
  go_wp2_with fail
  refine (order_any n A9 c9 lf w5 C9.out).mono ?_
  rintro e w6 ⟨v7, v8, rfl, hr7, hr8, hb6⟩
  have BW6 := Aside0.mk (below_step BW5.out hb6)
  have C86 := Aside0.mk (Kd.C_below C85.out hb6)
  obtain ⟨A10, c10, rfl, hl10, hc10⟩ := hr7
  obtain ⟨A11, c11, rfl, hl11, hc11⟩ := hr8
  clear hb6 hl10 hc10 hl11 hc11 C85 C9 BW5
  have HSUB : Aside0 (∀ x ∈ lf, x ∈ l) := ⟨fun x hx => by
    rw [HLF.out, List.mem_append] at hx
    rcases hx with hx | hx
    · exact List.mem_of_mem_take hx
    · exact List.mem_of_mem_drop hx⟩
  rcases hspec.out with ⟨_, h⟩ | ⟨hb, he, _⟩ | ⟨hb, he, hcy, hc32⟩
  · exact absurd h he1
  · subst he
    have hf := Gr.fewer_ok hb HSUB.out HOE.out.symm
    have hf' : ((Gr.order n lf).2.2 == 0) = true := by rw [hf]; rfl
    clear hspec
    go_wp2
    go_ret
    exact ⟨rfl, BW6.out⟩
  subst he
  have HCY := Aside0.mk hcy
  have HB0 := Aside0.mk hb
  have hpos : 0 < oc.length := by
    rcases oc with _ | ⟨x, t⟩
    · exact absurd rfl hcy.ne
    · simp
  have HFEW := Aside0.mk (Gr.few_cyc hb hcy)
  clear hcy hb hspec
  go_wp2
  have hcl : (Gr.cycEdges oc).length = oc.length := by unfold Gr.cycEdges; simp
  have HTK : Aside0 (∀ k : Nat, k < oc.length → (Gr.cycEdges oc).take (k + 1) = (Gr.cycEdges oc).take k ++ [(oc.getD k 0, oc.getD ((k + 1) % oc.length) 0, false)]) := ⟨fun k hk => by
    rw [List.take_add_one, List.getElem?_eq_getElem (by omega)]
    simp [Gr.cycEdges]⟩
  have HCL := Aside0.mk hcl
  clear hcl
  have hne : ¬ oc = [] := HCY.out.ne
  have hne2 : ¬ (oc.length : Int) = 0 := by omega
  go_loopg [15, 16] oc.length (fun g v15 v16 wr => ∃ (k : Nat), v16 = .int .i64 k ∧ k ≤ oc.length ∧ Aside0 (g = oc.length - k) ∧ Aside0 (Below w6.heap.size w6 wr) ∧ Aside0 (Kd.R kE 52 wr w6.heap.size (fun _ => True) v15 ((Gr.cycEdges oc).take k)))
  case atStart => exact ⟨0, rfl, Nat.zero_le _, ⟨rfl⟩, ⟨(Below.refl w6.heap.size w6).alloc (Nat.le_refl _) (.cells #[] 52)⟩, ⟨by simpa using emptyE w6 w6.heap.size (Nat.le_refl _)⟩⟩
  case round =>
    obtain ⟨k, rfl, hk, HG, HB, HR⟩ := hrel
    by_cases hlt : k < oc.length
    · have hlt' : (k : Int) < (oc.length : Int) := by omega
      have CC := Aside0.mk (Kd.C_below C86.out HB.out)
      obtain ⟨ad8, rfl, ha⟩ := Kd.at_int CC.out (k : Int) (by omega) (by omega)
      rw [Int.toNat_natCast] at ha
      have hj0 : 0 ≤ ((k : Int) + 1).tmod (oc.length : Int) := Int.tmod_nonneg _ (by omega)
      have hj1 : ((k : Int) + 1).tmod (oc.length : Int) < (oc.length : Int) := Int.tmod_lt_of_pos _ (by omega)
      have hjn : (((k : Int) + 1).tmod (oc.length : Int)).toNat = (k + 1) % oc.length := by
        rw [Int.tmod_eq_emod_of_nonneg (by omega), show ((k : Int) + 1) = ((k + 1 : Nat) : Int) from by omega, ← Int.natCast_emod, Int.toNat_natCast]
      obtain ⟨_, e8, hb⟩ := Kd.at_int CC.out (((k : Int) + 1).tmod (oc.length : Int)) hj0 hj1
      cases e8
      obtain ⟨y, hy⟩ : ∃ y, y = rd oc (((k : Int) + 1).tmod (oc.length : Int)) := ⟨_, rfl⟩
      have hy2 : y = oc.getD ((k + 1) % oc.length) 0 := by rw [hy]; unfold rd; rw [hjn]
      rw [← hy] at hb
      obtain ⟨x, hx⟩ : ∃ x, x = rd oc (k : Int) := ⟨_, rfl⟩
      have hx2 : x = oc.getD k 0 := by rw [hx, rd_nat]
      rw [← hx] at ha
      have hwr : IntKind.i64.wrap ((k : Int) + 1) = (k : Int) + 1 := IntWalk.i64_in _ (by omega)
      have HTK2 : Aside0 ((Gr.cycEdges oc).take (k + 1) = (Gr.cycEdges oc).take k ++ [(x, y, false)]) := ⟨by rw [hx2, hy2]; exact HTK.out k hlt⟩
      have HF : Aside0 (∀ W' : World, Below w6.heap.size w6 W' → W'.cell? (ad8.add k) = some (.int .i64 x) ∧ W'.cell? (ad8.add ((((k : Int) + 1).tmod (oc.length : Int)).toNat)) = some (.int .i64 y)) := ⟨fun W' hB => by
        have CC' := Kd.C_below C86.out hB
        obtain ⟨_, e1, h1⟩ := Kd.at_int CC' (k : Int) (by omega) (by omega)
        cases e1
        obtain ⟨_, e1, h2⟩ := Kd.at_int CC' (((k : Int) + 1).tmod (oc.length : Int)) hj0 hj1
        cases e1
        rw [Int.toNat_natCast, ← hx] at h1
        rw [← hy] at h2
        exact ⟨h1, h2⟩⟩
      clear hx2 hy2 hx hy hjn
      go_wp2
      refine start_ (n := 17) (S := fun w' => w'.cell? (ad8.add k) = some (.int .i64 x) ∧ w'.cell? (ad8.add ((((k : Int) + 1).tmod (oc.length : Int)).toNat)) = some (.int .i64 y)) (ds := []) #[false, false, false, false, false, false, false, false, false, false, false, false, false, false, false, false, false] (by kernel_rfl) rfl rfl ⟨ha, hb⟩ (fun hHeld => ?_)
      refine pure_ (i := 0) (N := some 77) (v := ?_) (a' := ?_) #[true, false, false, false, false, false, false, false, false, false, false, false, false, false, false, false, false] rfl rfl (by kernel_rfl) (fun _ _ _ h => h) (Or.inl ⟨by rfl, ?_⟩) ?_ ?_
      rotate_left
      · intro w'
        go_simp
        with_reducible rfl
      rotate_left
      · simp only [Act.put, List.setIfInBounds_toArray, List.set_cons_zero, List.set_cons_succ, i64_w, i32_w]
        rfl
      refine pure_ (i := 1) (N := some 78) (v := ?_) (a' := ?_) #[true, true, false, false, false, false, false, false, false, false, false, false, false, false, false, false, false] rfl rfl (by kernel_rfl) (fun _ _ _ h => h) (Or.inl ⟨by rfl, ?_⟩) ?_ ?_
      rotate_left
      · intro w'
        go_simp
        with_reducible rfl
      rotate_left
      · simp only [Act.put, List.setIfInBounds_toArray, List.set_cons_zero, List.set_cons_succ, i64_w, i32_w]
        rfl
      refine pure_ (i := 2) (N := some 79) (v := ?_) (a' := ?_) #[true, true, true, false, false, false, false, false, false, false, false, false, false, false, false, false, false] rfl rfl (by kernel_rfl) (fun _ _ _ h => h) (Or.inl ⟨by rfl, ?_⟩) ?_ ?_
      rotate_left
      · intro w'
        go_simp
        with_reducible rfl
      rotate_left
      · simp only [Act.put, List.setIfInBounds_toArray, List.set_cons_zero, List.set_cons_succ, i64_w, i32_w]
        rfl
      refine pure_ (i := 3) (N := some 80) (v := ?_) (a' := ?_) #[true, true, true, true, false, false, false, false, false, false, false, false, false, false, false, false, false] rfl rfl (by kernel_rfl) (fun _ _ _ h => h) (Or.inl ⟨by rfl, ?_⟩) ?_ ?_
      rotate_left
      · intro w'
        go_simp
        with_reducible rfl
      rotate_left
      · simp only [Act.put, List.setIfInBounds_toArray, List.set_cons_zero, List.set_cons_succ, i64_w, i32_w]
        rfl
      refine pure_ (i := 5) (N := some 82) (v := ?_) (a' := ?_) #[true, true, true, true, false, true, false, false, false, false, false, false, false, false, false, false, false] rfl rfl (by kernel_rfl) (fun _ _ _ h => h) (Or.inl ⟨by rfl, ?_⟩) ?_ ?_
      rotate_left
      · intro w'
        go_simp
        with_reducible rfl
      rotate_left
      · simp only [Act.put, List.setIfInBounds_toArray, List.set_cons_zero, List.set_cons_succ, i64_w, i32_w]
        rfl
      refine pure_ (i := 6) (N := some 83) (v := ?_) (a' := ?_) #[true, true, true, true, false, true, true, false, false, false, false, false, false, false, false, false, false] rfl rfl (by kernel_rfl) (fun _ _ _ h => h) (Or.inl ⟨by rfl, ?_⟩) ?_ ?_
      rotate_left
      · intro w'
        go_simp
        with_reducible rfl
      rotate_left
      · simp only [Act.put, List.setIfInBounds_toArray, List.set_cons_zero, List.set_cons_succ, i64_w, i32_w]
        rfl
      refine pure_ (i := 7) (N := some 84) (v := ?_) (a' := ?_) #[true, true, true, true, false, true, true, true, false, false, false, false, false, false, false, false, false] rfl rfl (by kernel_rfl) (fun _ _ _ h => h) (Or.inl ⟨by rfl, ?_⟩) ?_ ?_
      rotate_left
      · intro w'
        go_simp
        with_reducible rfl
      rotate_left
      · simp only [Act.put, List.setIfInBounds_toArray, List.set_cons_zero, List.set_cons_succ, i64_w, i32_w]
        rfl
      refine pure_ (i := 8) (N := some 85) (v := ?_) (a' := ?_) #[true, true, true, true, false, true, true, true, true, false, false, false, false, false, false, false, false] rfl rfl (by kernel_rfl) (fun _ _ _ h => h) (Or.inl ⟨by rfl, ?_⟩) ?_ ?_
      rotate_left
      · intro w'
        go_simp
        with_reducible rfl
      rotate_left
      · simp only [Act.put, List.setIfInBounds_toArray, List.set_cons_zero, List.set_cons_succ, i64_w, i32_w]
        rfl
      refine pure_ (i := 9) (N := some 86) (v := ?_) (a' := ?_) #[true, true, true, true, false, true, true, true, true, true, false, false, false, false, false, false, false] rfl rfl (by kernel_rfl) (fun _ _ _ h => h) (Or.inl ⟨by rfl, ?_⟩) ?_ ?_
      rotate_left
      · intro w'
        go_simp
        with_reducible rfl
      rotate_left
      · simp only [Act.put, List.setIfInBounds_toArray, List.set_cons_zero, List.set_cons_succ, i64_w, i32_w]
        rfl
      refine pure_ (i := 10) (N := some 87) (v := ?_) (a' := ?_) #[true, true, true, true, false, true, true, true, true, true, true, false, false, false, false, false, false] rfl rfl (by kernel_rfl) (fun _ _ _ h => h) (Or.inl ⟨by rfl, ?_⟩) ?_ ?_
      rotate_left
      · intro w'
        go_simp
        with_reducible rfl
      rotate_left
      · simp only [Act.put, List.setIfInBounds_toArray, List.set_cons_zero, List.set_cons_succ, i64_w, i32_w]
        rfl
      refine pure_ (i := 11) (N := some 88) (v := ?_) (a' := ?_) #[true, true, true, true, false, true, true, true, true, true, true, true, false, false, false, false, false] rfl rfl (by kernel_rfl) (fun _ _ _ h => h) (Or.inl ⟨by rfl, ?_⟩) ?_ ?_
      rotate_left
      · intro w'
        go_simp
        with_reducible rfl
      rotate_left
      · simp only [Act.put, List.setIfInBounds_toArray, List.set_cons_zero, List.set_cons_succ, i64_w, i32_w]
        rfl
      refine take_ (i := 4) (N := some 81) (v := ?_) (a' := ?_) #[true, true, true, true, true, true, true, true, true, true, true, true, false, false, false, false, false] rfl rfl (by kernel_rfl) (fun _ _ _ h => h) (Or.inl ⟨by rfl, ?_⟩) hHeld ?_ ?_
      rotate_left
      · rintro w' ⟨s0, s1⟩
        go_simp
        with_reducible rfl
      rotate_left
      · simp only [Act.put, List.setIfInBounds_toArray, List.set_cons_zero, List.set_cons_succ, i64_w, i32_w]
        rfl
      refine take_ (i := 12) (N := some 89) (v := ?_) (a' := ?_) #[true, true, true, true, true, true, true, true, true, true, true, true, true, false, false, false, false] rfl rfl (by kernel_rfl) (fun _ _ _ h => h) (Or.inl ⟨by rfl, ?_⟩) hHeld ?_ ?_
      rotate_left
      · rintro w' ⟨s0, s1⟩
        go_simp
        with_reducible rfl
      rotate_left
      · simp only [Act.put, List.setIfInBounds_toArray, List.set_cons_zero, List.set_cons_succ, i64_w, i32_w]
        rfl
      refine pure_ (i := 13) (N := some 90) (v := ?_) (a' := ?_) #[true, true, true, true, true, true, true, true, true, true, true, true, true, true, false, false, false] rfl rfl (by kernel_rfl) (fun _ _ _ h => h) (Or.inl ⟨by rfl, ?_⟩) ?_ ?_
      rotate_left
      · intro w'
        go_simp
        with_reducible rfl
      rotate_left
      · simp only [Act.put, List.setIfInBounds_toArray, List.set_cons_zero, List.set_cons_succ, i64_w, i32_w]
        rfl
      refine one_ (i := 14) (N := some 91) #[true, true, true, true, true, true, true, true, true, true, true, true, true, true, true, false, false] rfl rfl (by kernel_rfl) (by decide) (fun K hK => ?_)
      refine value_ (w1 := ?_) (v := ?_) (by rfl) rfl ?_ ?_
      rotate_left 2
      · go_simp
        constructor
        · rfl
        · rfl
      have HR' := Aside0.mk (Kd.R_drewN HR.out 1)
      have HB' := Aside0.mk (pw_below_drewN HB.out 1)
      rw [show (wr.alloc (Obj.cells #[Value.int IntKind.i64 x, Value.int IntKind.i64 y, Value.bool false] 52)).drew = (wr.drewN 1).alloc (Obj.cells #[Value.int IntKind.i64 x, Value.int IntKind.i64 y, Value.bool false] 52) from rfl]
      obtain ⟨wd, hwd⟩ : ∃ wd, wd = wr.drewN 1 := ⟨_, rfl⟩
      have hsz : wr.heap.size = wd.heap.size := by rw [hwd]; rfl
      rw [hsz]
      rw [← hwd] at HR' HB' ⊢
      clear hwd hsz
      have BA := Aside0.mk (HB'.out.alloc HB'.out.size (.cells #[Value.int IntKind.i64 x, Value.int IntKind.i64 y, Value.bool false] 52))
      refine hK.out _ _ ⟨(HF.out _ BA.out).1, (HF.out _ BA.out).2⟩ (fun hHeld => ?_)
      clear hK K
      refine norm_ (a' := ?_) ?_ ?_
      rotate_left
      · show Act.put _ (some 91) _ = _
        simp only [Act.put, List.setIfInBounds_toArray, List.set_cons_zero, List.set_cons_succ, i64_w, i32_w]
        rfl
      refine one_ (i := 15) (N := some 92) #[true, true, true, true, true, true, true, true, true, true, true, true, true, true, true, true, false] rfl rfl (by kernel_rfl) (by decide) (fun K hK => ?_)
      refine Kd.R_append_step kE (w0 := w6) w6.heap.size (by rfl) (.tmp 77) (.tmp 91) 44 52 (.agg #[.int .i64 0, .int .i64 0, .bool false]) 24 rfl Try.underlying44 info52 rfl (by decide) (by omega) u15 ((Gr.cycEdges oc).take k) (x, y, false) [.int .i64 x, .int .i64 y, .bool false] (fun _ => True) (fun _ => False) rfl rfl (kE_KM (w := wd) (x, y, false) _ (kE_mk wd (x, y, false))) (fun _ hk => hk.elim) (fun _ _ => trivial) HR'.out HB'.out HB'.out.size (by rw [List.length_take]; omega) ?_
      intro v9 w7 ho2 hb2 hg2 hat2
      rw [← HTK2.out] at ho2
      have R7 := Aside0.mk ho2
      have B7 := Aside0.mk hb2
      clear ho2 hb2 hg2 hat2 HR' HB' BA
      refine hK.out _ _ ⟨(HF.out _ B7.out).1, (HF.out _ B7.out).2⟩ (fun hHeld => ?_)
      clear hK K
      refine norm_ (a' := ?_) ?_ ?_
      rotate_left
      · show Act.put _ (some 92) _ = _
        simp only [Act.put, List.setIfInBounds_toArray, List.set_cons_zero, List.set_cons_succ, i64_w, i32_w]
        rfl
      refine pure_ (i := 16) (N := some 15) (v := ?_) (a' := ?_) #[true, true, true, true, true, true, true, true, true, true, true, true, true, true, true, true, true] rfl rfl (by kernel_rfl) (fun _ _ _ h => h) (Or.inl ⟨by rfl, ?_⟩) ?_ ?_
      rotate_left
      · intro w'
        go_simp
        with_reducible rfl
      rotate_left
      · simp only [Act.put, List.setIfInBounds_toArray, List.set_cons_zero, List.set_cons_succ, i64_w, i32_w]
        rfl
      refine done_ (by kernel_rfl) ?_
      go_wp2
      go_roundg (oc.length - (k + 1))
      case measure => have := HG.out; omega
      case rel => exact ⟨k + 1, by go_num, by omega, ⟨rfl⟩, B7, R7⟩
    · have hlt' : ¬ (k : Int) < (oc.length : Int) := by omega
      rw [List.take_of_length_le (by rw [HCL.out]; omega)] at HR
      go_wp2_with fail
      obtain ⟨A15, c15, e15, hl15, hc15⟩ := Kd.R_reads HR.out
      subst e15
      have C15 := Aside0.mk hc15
      clear hl15 hc15
      refine (order_any n A15 c15 (Gr.cycEdges oc) wr C15.out).mono ?_
      rintro e w8 ⟨v17, v18, rfl, hr17, hr18, hb8⟩
      have B8 := Aside0.mk (below_step (below_step BW6.out HB.out) hb8)
      obtain ⟨A17, c17, rfl, hl17, hc17⟩ := hr17
      obtain ⟨A18, c18, rfl, hl18, hc18⟩ := hr18
      clear hb8 hl17 hc17 hl18 hc18
      have hg : (Gr.order n (Gr.cycEdges oc)).2.2 = 80 := HFEW.out.2
      rw [hg]
      clear hg
      go_wp2
      go_ret
      exact ⟨rfl, B8.out⟩
end Go.Proofs.Ytcgcojdkkkfkdaa
