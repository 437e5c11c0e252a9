/-
  A journal: finish.
-/
import Derived.Test.YtmfndobdkihbnaaJp
namespace Go.Proofs.Ytmfndobdkihbnaa.Dk
open Go.RowKit Go.MapKept Go.Proofs.YtmfndobdkihbnaaW.PrintWords Go.Proofs.YtmfndobdkihbnaaW.PrintLast Go.Proofs.YtmfndobdkihbnaaW.PrintMore
set_option linter.unusedVariables false
set_option linter.unusedSimpArgs false

/-- The journal's blocks tell a group's writes. -/
def Tells (has : Int → List Int) (at_ len : Int) (L : List (Int × List Int)) : Prop :=
  ∀ (i : Nat) x bs, L[i]? = some (x, bs) → bs = has (at_ + 7 + (i : Int)) ∧ 0 ≤ x ∧ x < len ∧ (x < at_ ∨ at_ + 199 ≤ x) ∧
    (has (at_ + 1 + ((i / 32 : Nat) : Int))).getD (i % 32 * 2) 0 = x / 256 ∧ (has (at_ + 1 + ((i / 32 : Nat) : Int))).getD (i % 32 * 2 + 1) 0 = x % 256
theorem Tells.own {has : Int → List Int} {at_ len : Int} {L : List (Int × List Int)} (h : Tells has at_ len L) (i : Nat) (k : Int) (h0 : at_ ≤ k) (h1 : k < at_ + 199) : puts has (L.take i) k = has k := by
  refine puts_far _ _ _ fun x hx => ?_
  obtain ⟨q, hq⟩ := List.mem_iff_getElem?.1 (List.mem_of_mem_take hx)
  obtain ⟨_, _, _, ho, _⟩ := h q x.1 x.2 hq
  omega
theorem Tells.valid {has : Int → List Int} {at_ len : Int} {L : List (Int × List Int)} (h : Tells has at_ len L) (h64 : ∀ k, (has k).length = 64) : Valid len L := fun x hx => by
  obtain ⟨q, hq⟩ := List.mem_iff_getElem?.1 hx
  obtain ⟨e, a, b, _⟩ := h q x.1 x.2 hq
  exact ⟨a, b, by rw [e]; exact h64 _⟩

theorem wrs_one (s : FS) (i : Int) (bs : List Int) : wrs s [(i, bs)] = s.write i bs := by
  by_cases h : (s.write i bs).2 = 0
  · rw [wrs_ok h, wrs]
    exact Prod.ext rfl h.symm
  · rw [wrs_no h]
theorem write_valid {s : FS} {i : Int} {bs : List Int} (hon : s.off = false) (h0 : 0 ≤ i) (h1 : i < s.len) (h2 : bs.length = 64) : (s.write i bs).2 = 0 ∨ (s.write i bs).2 = 2 := by
  unfold FS.write
  rw [if_pos (check_on hon h0 h1), if_pos h2]
  split
  · exact .inr rfl
  · exact .inl rfl
theorem wrs_cut {s : FS} {L M : List (Int × List Int)} {i : Nat} {x : Int} {bs : List Int} (h : L[i]? = some (x, bs)) (he : (wrs s (L.take i)).2 = 0) : wrs s (L.take (i + 1)) = (wrs s (L.take i)).1.write x bs ∧ (((wrs s (L.take i)).1.write x bs).2 ≠ 0 → wrs s (L ++ M) = (wrs s (L.take i)).1.write x bs) := by
  have e1 : wrs s (L.take (i + 1)) = (wrs s (L.take i)).1.write x bs := by
    rw [List.take_add_one, h, wrs_append, if_pos he]
    exact wrs_one _ _ _
  refine ⟨e1, fun hne => ?_⟩
  rw [← e1] at hne ⊢
  rw [← List.take_append_drop (i + 1) L, List.append_assoc, wrs_append, List.take_append_drop, if_neg hne]
theorem wrs_state {s : FS} {l : List (Int × List Int)} (hon : s.off = false) (hv : Valid s.len l) (he : (wrs s l).2 = 0) : (wrs s l).1.off = false ∧ (wrs s l).1.len = s.len ∧ (wrs s l).1.has = puts s.has l := by
  obtain ⟨g1, j, g2, g3, g4⟩ := wrs_spec s l hon hv
  rcases g4 with ⟨a, b, c⟩ | ⟨a, b, c⟩
  · rw [a, List.take_length] at g3
    exact ⟨c, g1, g3⟩
  · rw [b] at he; cases he

set_option maxHeartbeats 4000000 in
set_option maxRecDepth 100000 in
theorem finish_any (jb b m : Nat) (s : FS) (at_ g : Int) (L : List (Int × List Int)) (w : World) (hj : JIs w jb b at_ g) (h : DiskIs w b m s) (hon : s.off = false) (h0 : 0 ≤ at_) (h1 : at_ + 199 ≤ s.len) (h2 : s.len ≤ 4096) (hn : L.length ≤ 192)
    (hT : Tells s.has at_ s.len L) :
    Calls Try.prog 29 #[.pointer (some ⟨jb, 0, none⟩), .int .i64 (L.length : Int)] w fun e w' => e = .returned (.int .i64 (wrs s (L ++ [(at_, headB g 0)])).2) ∧ DiskIs w' b m (wrs s (L ++ [(at_, headB g 0)])).1 ∧ JIs w' jb b at_ g ∧ Fr (fun k => k = b ∨ k = m) w w' := by
  have H := Aside0.mk h
  have HJ := Aside0.mk hj
  have HT := Aside0.mk hT
  have HON := Aside0.mk hon
  have HLN := Aside0.mk (And.intro h1 h2)
  have H0 := Aside0.mk h.2.2
  clear h hj hT hon h1 h2
  go_enter Try.func29, Try.ntmps29
  go_wp2
  go_loopg [11] L.length (fun gq v11 wr => ∃ (i : Nat), v11 = .int .i64 i ∧ i ≤ L.length ∧ Aside0 (gq = L.length - i) ∧ Aside0 ((wrs s (L.take i)).2 = 0) ∧ Aside0 (DiskIs wr b m (wrs s (L.take i)).1) ∧ Aside0 (JIs wr jb b at_ g) ∧ Aside0 (Fr (fun k => k = b ∨ k = m) w wr))
  case atStart => exact ⟨0, rfl, Nat.zero_le _, ⟨rfl⟩, ⟨rfl⟩, H, HJ, ⟨Fr.refl _ _⟩⟩
  case round =>
    clear H HJ
    obtain ⟨i, rfl, hi, HG, HE, H, HJ, HF⟩ := hrel
    by_cases hlt : i < L.length
    · have hlt' : (i : Int) < (L.length : Int) := by omega
      obtain ⟨⟨x, bs⟩, hLi⟩ : ∃ y, L[i]? = some y := ⟨_, List.getElem?_eq_getElem hlt⟩
      have hst := wrs_state HON.out (fun y hy => (HT.out.valid H0.out) y (List.mem_of_mem_take hy)) HE.out
      obtain ⟨t1, t2, t3, t4, t5, t6⟩ := HT.out i x bs hLi
      have hcut := wrs_cut (s := s) (M := [(at_, headB g 0)]) hLi HE.out
      obtain ⟨si, hsi⟩ : ∃ si, si = (wrs s (L.take i)).1 := ⟨_, rfl⟩
      rw [← hsi] at hst hcut H
      have hh := HLN.out
      have HP := Aside0.mk (fun (W : World) (hjw : JIs W jb b at_ g) (hdw : DiskIs W b m si) => place_any jb b m si at_ g i x W hjw hdw hst.1 h0 (by rw [hst.2.1]; exact hh.1) (by rw [hst.2.1]; exact hh.2) (by omega) t2 (by omega)
        (by rw [hst.2.2, HT.out.own i _ (by omega) (by omega)]; exact t5) (by rw [hst.2.2, HT.out.own i _ (by omega) (by omega)]; exact t6))
      have hrd : si.has (at_ + 7 + (i : Int)) = bs := by rw [hst.2.2, HT.out.own i _ (by omega) (by omega)]; exact t1.symm
      have hck : si.check (at_ + 7 + (i : Int)) = 0 := check_on hst.1 (by omega) (by rw [hst.2.1]; omega)
      have hwv := write_valid (i := x) (bs := bs) hst.1 t2 (by rw [hst.2.1]; exact t3) (by rw [t1]; exact H0.out _)
      have HV := Aside0.mk (And.intro hrd (And.intro hck (And.intro hwv hcut)))
      have HB64 := Aside0.mk (show bs.length = 64 by rw [t1]; exact H0.out _)
      have hb1 : at_ + 7 ≤ 9223372036854775807 := by omega
      have hb2 : at_ ≤ 4096 := by omega
      clear hh hst hrd hck hwv hcut t1 t2 t3 t4 t5 t6 hLi hsi
      go_wp2_with fail
      refine (HP.out wr HJ.out H.out).mono ?_
      rintro e w1 ⟨rfl, hb⟩
      have HJ1 := Aside0.mk (HJ.out.below hb)
      have H1 := Aside0.mk (H.out.below hb)
      have F1 := Aside0.mk (HF.out.trans (Fr.of_below hb))
      clear hb HJ H HF
      have hw7 : IntKind.i64.wrap (at_ + 7) = at_ + 7 := IntWalk.i64_in _ (by omega)
      have hw8 : IntKind.i64.wrap (at_ + 7 + (i : Int)) = at_ + 7 + (i : Int) := IntWalk.i64_in _ (by omega)
      have d0 := HJ1.out.c0
      have d1 := HJ1.out.c1
      go_upto_region 7 with (fail)
      refine start_ (n := 17) (S := fun w' => w'.cell? ⟨jb, 0, none⟩ = some (.pointer (some ⟨b, 0, none⟩)) ∧ w'.cell? ⟨jb, 1, none⟩ = some (.int .i64 at_)) (ds := []) #[false, false, false, false, false, false, false, false, false, false, false, false, false, false, false, false, false] (by kernel_rfl) rfl rfl ⟨d0, d1⟩ (fun hHeld => ?_)
      refine pure_ (i := 0) (N := some 24) (v := ?_) (a' := ?_) #[true, false, false, false, false, false, false, false, false, false, false, false, false, false, false, false, false] rfl rfl (by kernel_rfl) (fun _ _ _ h => h) (Or.inl ⟨by rfl, ?_⟩) ?_ ?_
      rotate_left
      · intro w'
        go_simp
        with_reducible rfl
      rotate_left
      · simp only [Act.put, List.setIfInBounds_toArray, List.set_cons_zero, List.set_cons_succ, i64_w, i32_w]
        rfl
      refine pure_ (i := 1) (N := some 25) (v := ?_) (a' := ?_) #[true, true, false, false, false, false, false, false, false, false, false, false, false, false, false, false, false] rfl rfl (by kernel_rfl) (fun _ _ _ h => h) (Or.inl ⟨by rfl, ?_⟩) ?_ ?_
      rotate_left
      · intro w'
        go_simp
        with_reducible rfl
      rotate_left
      · simp only [Act.put, List.setIfInBounds_toArray, List.set_cons_zero, List.set_cons_succ, i64_w, i32_w]
        rfl
      refine pure_ (i := 2) (N := some 26) (v := ?_) (a' := ?_) #[true, true, true, false, false, false, false, false, false, false, false, false, false, false, false, false, false] rfl rfl (by kernel_rfl) (fun _ _ _ h => h) (Or.inl ⟨by rfl, ?_⟩) ?_ ?_
      rotate_left
      · intro w'
        go_simp
        with_reducible rfl
      rotate_left
      · simp only [Act.put, List.setIfInBounds_toArray, List.set_cons_zero, List.set_cons_succ, i64_w, i32_w]
        rfl
      refine pure_ (i := 4) (N := some 28) (v := ?_) (a' := ?_) #[true, true, true, false, true, false, false, false, false, false, false, false, false, false, false, false, false] rfl rfl (by kernel_rfl) (fun _ _ _ h => h) (Or.inl ⟨by rfl, ?_⟩) ?_ ?_
      rotate_left
      · intro w'
        go_simp
        with_reducible rfl
      rotate_left
      · simp only [Act.put, List.setIfInBounds_toArray, List.set_cons_zero, List.set_cons_succ, i64_w, i32_w]
        rfl
      refine pure_ (i := 5) (N := some 29) (v := ?_) (a' := ?_) #[true, true, true, false, true, true, false, false, false, false, false, false, false, false, false, false, false] rfl rfl (by kernel_rfl) (fun _ _ _ h => h) (Or.inl ⟨by rfl, ?_⟩) ?_ ?_
      rotate_left
      · intro w'
        go_simp
        with_reducible rfl
      rotate_left
      · simp only [Act.put, List.setIfInBounds_toArray, List.set_cons_zero, List.set_cons_succ, i64_w, i32_w]
        rfl
      refine pure_ (i := 6) (N := some 30) (v := ?_) (a' := ?_) #[true, true, true, false, true, true, true, false, false, false, false, false, false, false, false, false, false] rfl rfl (by kernel_rfl) (fun _ _ _ h => h) (Or.inl ⟨by rfl, ?_⟩) ?_ ?_
      rotate_left
      · intro w'
        go_simp
        with_reducible rfl
      rotate_left
      · simp only [Act.put, List.setIfInBounds_toArray, List.set_cons_zero, List.set_cons_succ, i64_w, i32_w]
        rfl
      refine pure_ (i := 9) (N := some 33) (v := ?_) (a' := ?_) #[true, true, true, false, true, true, true, false, false, true, false, false, false, false, false, false, false] rfl rfl (by kernel_rfl) (fun _ _ _ h => h) (Or.inl ⟨by rfl, ?_⟩) ?_ ?_
      rotate_left
      · intro w'
        go_simp
        with_reducible rfl
      rotate_left
      · simp only [Act.put, List.setIfInBounds_toArray, List.set_cons_zero, List.set_cons_succ, i64_w, i32_w]
        rfl
      refine take_ (i := 3) (N := some 27) (v := ?_) (a' := ?_) #[true, true, true, true, true, true, true, false, false, true, false, false, false, false, false, false, false] rfl rfl (by kernel_rfl) (fun _ _ _ h => h) (Or.inl ⟨by rfl, ?_⟩) hHeld ?_ ?_
      rotate_left
      · rintro w' ⟨s0, s1⟩
        go_simp
        with_reducible rfl
      rotate_left
      · simp only [Act.put, List.setIfInBounds_toArray, List.set_cons_zero, List.set_cons_succ, i64_w, i32_w]
        rfl
      refine take_ (i := 7) (N := some 31) (v := ?_) (a' := ?_) #[true, true, true, true, true, true, true, true, false, true, false, false, false, false, false, false, false] rfl rfl (by kernel_rfl) (fun _ _ _ h => h) (Or.inl ⟨by rfl, ?_⟩) hHeld ?_ ?_
      rotate_left
      · rintro w' ⟨s0, s1⟩
        go_simp
        with_reducible rfl
      rotate_left
      · simp only [Act.put, List.setIfInBounds_toArray, List.set_cons_zero, List.set_cons_succ, i64_w, i32_w]
        rfl
      refine pure_ (i := 8) (N := some 32) (v := ?_) (a' := ?_) #[true, true, true, true, true, true, true, true, true, true, false, false, false, false, false, false, false] rfl rfl (by kernel_rfl) (fun _ _ _ h => h) (Or.inl ⟨by rfl, ?_⟩) ?_ ?_
      rotate_left
      · intro w'
        go_simp
        with_reducible rfl
      rotate_left
      · simp only [Act.put, List.setIfInBounds_toArray, List.set_cons_zero, List.set_cons_succ, i64_w, i32_w]
        rfl
      refine pure_ (i := 10) (N := some 34) (v := ?_) (a' := ?_) #[true, true, true, true, true, true, true, true, true, true, true, false, false, false, false, false, false] rfl rfl (by kernel_rfl) (fun _ _ _ h => h) (Or.inl ⟨by rfl, ?_⟩) ?_ ?_
      rotate_left
      · intro w'
        go_simp
        with_reducible rfl
      rotate_left
      · simp only [Act.put, List.setIfInBounds_toArray, List.set_cons_zero, List.set_cons_succ, i64_w, i32_w]
        rfl
      refine one_ (i := 11) (N := some 35) #[true, true, true, true, true, true, true, true, true, true, true, true, false, false, false, false, false] rfl rfl (by kernel_rfl) (by decide) (fun K hK => ?_)
      refine goes_ Try.func13 (by kernel_rfl) rfl #[.pointer (some ⟨b, 0, none⟩), .int .i64 (at_ + 7 + (i : Int))] (by rfl) rfl rfl (by simp only [List.map_toArray, List.map_cons, List.map_nil]; rfl) ?_
      refine (read_on b m si _ w1.drew (H1.out.step rfl rfl) HV.out.2.1).mono ?_
      rintro e w2 ⟨rfl, hq, hb⟩
      refine ⟨_, rfl, ?_⟩
      rw [HV.out.1] at hq
      have hb' : Below w1.heap.size w1 w2 := ⟨hb.os, hb.tape, hb.output, hb.size, hb.block⟩
      have HQ := Aside0.mk hq
      have HJ2 := Aside0.mk (HJ1.out.below hb')
      have H2 := Aside0.mk (H1.out.below hb')
      have F2 := Aside0.mk (F1.out.trans (Fr.of_below hb'))
      have HNE := Aside0.mk (show w1.heap.size ≠ b by have := H1.out.lt; omega)
      clear hq hb hb'
      refine hK.out _ _ ⟨HJ2.out.c0, HJ2.out.c1⟩ (fun hHeld => ?_)
      clear hK K
      refine norm_ (a' := ?_) ?_ ?_
      rotate_left
      · show Act.put _ (some 35) _ = _
        simp only [Act.put, List.setIfInBounds_toArray, List.set_cons_zero, List.set_cons_succ, i64_w, i32_w]
        rfl
      refine pure_ (i := 12) (N := some 23) (v := ?_) (a' := ?_) #[true, true, true, true, true, true, true, true, true, true, true, true, true, false, false, false, false] rfl rfl (by kernel_rfl) (fun _ _ _ h => h) (Or.inl ⟨by rfl, ?_⟩) ?_ ?_
      rotate_left
      · intro w'
        go_simp
        with_reducible rfl
      rotate_left
      · simp only [Act.put, List.setIfInBounds_toArray, List.set_cons_zero, List.set_cons_succ, i64_w, i32_w]
        rfl
      refine pure_ (i := 13) (N := some 36) (v := ?_) (a' := ?_) #[true, true, true, true, true, true, true, true, true, true, true, true, true, true, false, false, false] rfl rfl (by kernel_rfl) (fun _ _ _ h => h) (Or.inl ⟨by rfl, ?_⟩) ?_ ?_
      rotate_left
      · intro w'
        go_simp
        with_reducible rfl
      rotate_left
      · simp only [Act.put, List.setIfInBounds_toArray, List.set_cons_zero, List.set_cons_succ, i64_w, i32_w]
        rfl
      refine pure_ (i := 14) (N := some 37) (v := ?_) (a' := ?_) #[true, true, true, true, true, true, true, true, true, true, true, true, true, true, true, false, false] rfl rfl (by kernel_rfl) (fun _ _ _ h => h) (Or.inl ⟨by rfl, ?_⟩) ?_ ?_
      rotate_left
      · intro w'
        go_simp
        with_reducible rfl
      rotate_left
      · simp only [Act.put, List.setIfInBounds_toArray, List.set_cons_zero, List.set_cons_succ, i64_w, i32_w]
        rfl
      refine pure_ (i := 15) (N := some 8) (v := ?_) (a' := ?_) #[true, true, true, true, true, true, true, true, true, true, true, true, true, true, true, true, false] rfl rfl (by kernel_rfl) (fun _ _ _ h => h) (Or.inl ⟨by rfl, ?_⟩) ?_ ?_
      rotate_left
      · intro w'
        go_simp
        with_reducible rfl
      rotate_left
      · simp only [Act.put, List.setIfInBounds_toArray, List.set_cons_zero, List.set_cons_succ, i64_w, i32_w]
        rfl
      refine pure_ (i := 16) (N := some 7) (v := ?_) (a' := ?_) #[true, true, true, true, true, true, true, true, true, true, true, true, true, true, true, true, true] rfl rfl (by kernel_rfl) (fun _ _ _ h => h) (Or.inl ⟨by rfl, ?_⟩) ?_ ?_
      rotate_left
      · intro w'
        go_simp
        with_reducible rfl
      rotate_left
      · simp only [Act.put, List.setIfInBounds_toArray, List.set_cons_zero, List.set_cons_succ, i64_w, i32_w]
        rfl
      refine done_ (by kernel_rfl) ?_
      clear d0 d1 hw7 hw8 HJ1 H1 F1
      have d0 := HJ2.out.c0
      go_wp2_with fail
      have hw := write_any b m si x (some ⟨w1.heap.size, 0, none⟩) 64 bs w2 H2.out (read_bytes HQ.out (by rw [HB64.out]; decide)) (fun ad e => by cases e; exact HNE.out)
      rw [HB64.out] at hw
      refine hw.mono ?_
      clear hw
      rintro e w3 ⟨rfl, hd, hf⟩
      have HJ3 := Aside0.mk (HJ2.out.fr hf (HJ2.out.ne H2.out))
      have H3 := Aside0.mk hd
      have F3 := Aside0.mk (F2.out.trans hf)
      clear hd hf HJ2 H2 F2 d0
      obtain ⟨hrd, hck, hwv, hc1, hc2⟩ := HV.out
      rcases hwv with h0 | h2
      · rw [h0]
        have HN1 := Aside0.mk (show (wrs s (L.take (i + 1))).2 = 0 from by rw [hc1]; exact h0)
        have HN2 := Aside0.mk (show DiskIs w3 b m (wrs s (L.take (i + 1))).1 from by rw [hc1]; exact H3.out)
        clear hrd hck hc1 hc2 h0
        go_wp2
        go_roundg (L.length - (i + 1))
        case measure => have := HG.out; omega
        case rel => exact ⟨i + 1, by go_num, by omega, ⟨rfl⟩, HN1, HN2, HJ3, F3⟩
      · have hcf := hc2 (by rw [h2]; decide)
        rw [h2]
        have HCF := Aside0.mk hcf
        have HH2 := Aside0.mk h2
        clear hrd hck hc1 hc2 h2 hcf
        go_wp2
        go_ret
        rw [HCF.out, HH2.out]
        exact ⟨rfl, H3.out, HJ3.out, F3.out⟩
    · have hil : i = L.length := by omega
      subst hil
      rw [List.take_length] at HE H
      have hwl : wrs s (L ++ [(at_, headB g 0)]) = (wrs s L).1.write at_ (headB g 0) := by rw [wrs_append, if_pos HE.out, wrs_one]
      have HWL := Aside0.mk hwl
      clear hwl
      obtain ⟨si, hsi⟩ : ∃ si, si = (wrs s L).1 := ⟨_, rfl⟩
      rw [← hsi] at H HWL
      clear hsi
      have d0 := HJ.out.c0
      have d1 := HJ.out.c1
      have d2 := HJ.out.c2
      go_upto_region 16 with (fail)
      refine start_ (n := 15) (S := fun w' => w'.cell? ⟨jb, 0, none⟩ = some (.pointer (some ⟨b, 0, none⟩)) ∧ w'.cell? ⟨jb, 1, none⟩ = some (.int .i64 at_) ∧ w'.cell? ⟨jb, 2, none⟩ = some (.int .i64 g)) (ds := [13]) #[false, false, false, false, false, false, false, false, false, false, false, false, false, false, false] (by kernel_rfl) rfl rfl ⟨d0, d1, d2⟩ (fun hHeld => ?_)
      refine pure_ (i := 0) (N := some 54) (v := ?_) (a' := ?_) #[true, false, false, false, false, false, false, false, false, false, false, false, false, false, false] rfl rfl (by kernel_rfl) (fun _ _ _ h => h) (Or.inl ⟨by rfl, ?_⟩) ?_ ?_
      rotate_left
      · intro w'
        go_simp
        with_reducible rfl
      rotate_left
      · simp only [Act.put, List.setIfInBounds_toArray, List.set_cons_zero, List.set_cons_succ, i64_w, i32_w]
        rfl
      refine pure_ (i := 1) (N := some 55) (v := ?_) (a' := ?_) #[true, true, false, false, false, false, false, false, false, false, false, false, false, false, false] rfl rfl (by kernel_rfl) (fun _ _ _ h => h) (Or.inl ⟨by rfl, ?_⟩) ?_ ?_
      rotate_left
      · intro w'
        go_simp
        with_reducible rfl
      rotate_left
      · simp only [Act.put, List.setIfInBounds_toArray, List.set_cons_zero, List.set_cons_succ, i64_w, i32_w]
        rfl
      refine pure_ (i := 2) (N := some 56) (v := ?_) (a' := ?_) #[true, true, true, false, false, false, false, false, false, false, false, false, false, false, false] rfl rfl (by kernel_rfl) (fun _ _ _ h => h) (Or.inl ⟨by rfl, ?_⟩) ?_ ?_
      rotate_left
      · intro w'
        go_simp
        with_reducible rfl
      rotate_left
      · simp only [Act.put, List.setIfInBounds_toArray, List.set_cons_zero, List.set_cons_succ, i64_w, i32_w]
        rfl
      refine pure_ (i := 4) (N := some 58) (v := ?_) (a' := ?_) #[true, true, true, false, true, false, false, false, false, false, false, false, false, false, false] rfl rfl (by kernel_rfl) (fun _ _ _ h => h) (Or.inl ⟨by rfl, ?_⟩) ?_ ?_
      rotate_left
      · intro w'
        go_simp
        with_reducible rfl
      rotate_left
      · simp only [Act.put, List.setIfInBounds_toArray, List.set_cons_zero, List.set_cons_succ, i64_w, i32_w]
        rfl
      refine pure_ (i := 5) (N := some 59) (v := ?_) (a' := ?_) #[true, true, true, false, true, true, false, false, false, false, false, false, false, false, false] rfl rfl (by kernel_rfl) (fun _ _ _ h => h) (Or.inl ⟨by rfl, ?_⟩) ?_ ?_
      rotate_left
      · intro w'
        go_simp
        with_reducible rfl
      rotate_left
      · simp only [Act.put, List.setIfInBounds_toArray, List.set_cons_zero, List.set_cons_succ, i64_w, i32_w]
        rfl
      refine pure_ (i := 6) (N := some 60) (v := ?_) (a' := ?_) #[true, true, true, false, true, true, true, false, false, false, false, false, false, false, false] rfl rfl (by kernel_rfl) (fun _ _ _ h => h) (Or.inl ⟨by rfl, ?_⟩) ?_ ?_
      rotate_left
      · intro w'
        go_simp
        with_reducible rfl
      rotate_left
      · simp only [Act.put, List.setIfInBounds_toArray, List.set_cons_zero, List.set_cons_succ, i64_w, i32_w]
        rfl
      refine pure_ (i := 8) (N := some 62) (v := ?_) (a' := ?_) #[true, true, true, false, true, true, true, false, true, false, false, false, false, false, false] rfl rfl (by kernel_rfl) (fun _ _ _ h => h) (Or.inl ⟨by rfl, ?_⟩) ?_ ?_
      rotate_left
      · intro w'
        go_simp
        with_reducible rfl
      rotate_left
      · simp only [Act.put, List.setIfInBounds_toArray, List.set_cons_zero, List.set_cons_succ, i64_w, i32_w]
        rfl
      refine pure_ (i := 9) (N := some 63) (v := ?_) (a' := ?_) #[true, true, true, false, true, true, true, false, true, true, false, false, false, false, false] rfl rfl (by kernel_rfl) (fun _ _ _ h => h) (Or.inl ⟨by rfl, ?_⟩) ?_ ?_
      rotate_left
      · intro w'
        go_simp
        with_reducible rfl
      rotate_left
      · simp only [Act.put, List.setIfInBounds_toArray, List.set_cons_zero, List.set_cons_succ, i64_w, i32_w]
        rfl
      refine pure_ (i := 10) (N := some 64) (v := ?_) (a' := ?_) #[true, true, true, false, true, true, true, false, true, true, true, false, false, false, false] rfl rfl (by kernel_rfl) (fun _ _ _ h => h) (Or.inl ⟨by rfl, ?_⟩) ?_ ?_
      rotate_left
      · intro w'
        go_simp
        with_reducible rfl
      rotate_left
      · simp only [Act.put, List.setIfInBounds_toArray, List.set_cons_zero, List.set_cons_succ, i64_w, i32_w]
        rfl
      refine take_ (i := 3) (N := some 57) (v := ?_) (a' := ?_) #[true, true, true, true, true, true, true, false, true, true, true, false, false, false, false] rfl rfl (by kernel_rfl) (fun _ _ _ h => h) (Or.inl ⟨by rfl, ?_⟩) hHeld ?_ ?_
      rotate_left
      · rintro w' ⟨s0, s1, s2⟩
        go_simp
        with_reducible rfl
      rotate_left
      · simp only [Act.put, List.setIfInBounds_toArray, List.set_cons_zero, List.set_cons_succ, i64_w, i32_w]
        rfl
      refine take_ (i := 7) (N := some 61) (v := ?_) (a' := ?_) #[true, true, true, true, true, true, true, true, true, true, true, false, false, false, false] rfl rfl (by kernel_rfl) (fun _ _ _ h => h) (Or.inl ⟨by rfl, ?_⟩) hHeld ?_ ?_
      rotate_left
      · rintro w' ⟨s0, s1, s2⟩
        go_simp
        with_reducible rfl
      rotate_left
      · simp only [Act.put, List.setIfInBounds_toArray, List.set_cons_zero, List.set_cons_succ, i64_w, i32_w]
        rfl
      refine take_ (i := 11) (N := some 65) (v := ?_) (a' := ?_) #[true, true, true, true, true, true, true, true, true, true, true, true, false, false, false] rfl rfl (by kernel_rfl) (fun _ _ _ h => h) (Or.inl ⟨by rfl, ?_⟩) hHeld ?_ ?_
      rotate_left
      · rintro w' ⟨s0, s1, s2⟩
        go_simp
        with_reducible rfl
      rotate_left
      · simp only [Act.put, List.setIfInBounds_toArray, List.set_cons_zero, List.set_cons_succ, i64_w, i32_w]
        rfl
      refine one_ (i := 12) (N := some 66) #[true, true, true, true, true, true, true, true, true, true, true, true, true, false, false] rfl rfl (by kernel_rfl) (by decide) (fun K hK => ?_)
      refine goes_ Try.func28 (by kernel_rfl) rfl #[.int .i64 g, .int .i64 0] (by rfl) rfl rfl (by simp only [List.map_toArray, List.map_cons, List.map_nil]; rfl) ?_
      refine (head_any g 0 wr.drew).mono ?_
      rintro e w2 ⟨q, kq, rfl, hq, hr, hb⟩
      refine ⟨_, rfl, ?_⟩
      have hb' : Below wr.heap.size wr w2 := ⟨hb.os, hb.tape, hb.output, hb.size, hb.block⟩
      have R2 := Aside0.mk hr
      have HJ2 := Aside0.mk (HJ.out.below hb')
      have H2 := Aside0.mk (H.out.below hb')
      have F2 := Aside0.mk (HF.out.trans (Fr.of_below hb'))
      have HNE := Aside0.mk (show q ≠ b by have := H.out.lt; have hq' : wr.heap.size ≤ q := hq; omega)
      clear hq hr hb hb'
      refine hK.out _ _ ⟨HJ2.out.c0, HJ2.out.c1, HJ2.out.c2⟩ (fun hHeld => ?_)
      clear hK K
      refine norm_ (a' := ?_) ?_ ?_
      rotate_left
      · show Act.put _ (some 66) _ = _
        simp only [Act.put, List.setIfInBounds_toArray, List.set_cons_zero, List.set_cons_succ, i64_w, i32_w]
        rfl
      refine last_ (i := 13) (N := some 67) #[true, true, true, true, true, true, true, true, true, true, true, true, true, true, false] rfl rfl (by kernel_rfl) (by decide) (fun K hK => ?_)
      refine goes_ Try.func27 (by kernel_rfl) rfl #[.pointer (some ⟨b, 0, none⟩), .int .i64 at_, .slice (some ⟨q, 0, none⟩) 64 kq] (by rfl) rfl rfl (by simp only [List.map_toArray, List.map_cons, List.map_nil]; rfl) ?_
      have hw := write_any b m si at_ (some ⟨q, 0, none⟩) kq (headB g 0) w2 H2.out R2.out.bytes (fun ad e => by cases e; exact HNE.out)
      rw [headB_len, ← HWL.out] at hw
      refine hw.mono ?_
      clear hw
      rintro e w3 ⟨rfl, hd, hf⟩
      refine ⟨_, rfl, ?_⟩
      have HJ3 := Aside0.mk (HJ2.out.fr hf (HJ2.out.ne H2.out))
      have H3 := Aside0.mk hd
      have F3 := Aside0.mk (F2.out.trans hf)
      clear hd hf
      refine hK.out _ _ ?_
      clear hK K
      refine norm_ (a' := ?_) ?_ ?_
      rotate_left
      · show Act.put _ (some 67) _ = _
        simp only [Act.put, List.setIfInBounds_toArray, List.set_cons_zero, List.set_cons_succ, i64_w, i32_w]
        rfl
      refine pure_ (i := 14) (N := some 4) (v := ?_) (a' := ?_) #[true, true, true, true, true, true, true, true, true, true, true, true, true, true, true] rfl rfl (by kernel_rfl) (fun _ _ _ h => h) (Or.inl ⟨by rfl, ?_⟩) ?_ ?_
      rotate_left
      · intro w'
        go_simp
        with_reducible rfl
      rotate_left
      · simp only [Act.put, List.setIfInBounds_toArray, List.set_cons_zero, List.set_cons_succ, i64_w, i32_w]
        rfl
      refine done_ (by kernel_rfl) ?_
      go_wp2
      go_ret
      exact ⟨rfl, H3.out, HJ3.out, F3.out⟩
end Go.Proofs.Ytmfndobdkihbnaa.Dk
