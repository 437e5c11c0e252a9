/-
  The document's examples of a disk: the walk of shown (layer 1's law).
-/
import Derived.Test.YtcgcojdkkkfkdaaDi
import Derived.Test.YtcgcojdkkkfkdaaPDiskPlaysx
namespace Go.Proofs.Ytcgcojdkkkfkdaa.Dk
open Go.RowKit Go.MapKept Go.Proofs.YtcgcojdkkkfkdaaW.PrintWords Go.Proofs.YtcgcojdkkkfkdaaW.PrintLast Go.Proofs.YtcgcojdkkkfkdaaW.PrintMore
set_option linter.unusedVariables false
set_option linter.unusedSimpArgs false

theorem full_l0 (c : Int) : ∀ (m : Nat) (j : Nat), j + m = 64 → PDiskPlays.majordomolaw01_full.l0 (m + 1) c (List.replicate j c ++ List.replicate m 0) (j : Int) = some (List.replicate 64 c)
  | 0, j, h => by
    have : j = 64 := by omega
    subst this
    simp only [PDiskPlays.majordomolaw01_full.l0]
    rw [if_neg (by simp)]
    simp
  | m + 1, j, h => by
    rw [PDiskPlays.majordomolaw01_full.l0]
    rw [if_pos (by simp; omega), if_pos (by omega)]
    have e1 : wrap64 ((j : Int) + 1) = ((j + 1 : Nat) : Int) := by rw [← i64_w, IntWalk.i64_in _ (by omega)]; omega
    have e2 : (List.replicate j c ++ List.replicate (m + 1) 0).set ((j : Int)).toNat c = List.replicate (j + 1) c ++ List.replicate m 0 := by
      rw [Int.toNat_natCast, List.set_append, if_neg (by simp), List.length_replicate, Nat.sub_self, List.replicate_succ (n := m), List.set_cons_zero, List.replicate_succ' (n := j), List.append_assoc]
      rfl
    rw [e1, e2]
    exact full_l0 c m (j + 1) (by omega)
theorem full_any (c : Int) (w : World) :
    Calls Try.prog 15 #[.int .u8 c] w fun e w' => ∃ A k, e = .returned (.slice (some ⟨A, 0, none⟩) 64 k) ∧ Kd.R (Kd.int .u8) 5 w' w.heap.size (fun _ => True) (.slice (some ⟨A, 0, none⟩) 64 k) (List.replicate 64 c) ∧ w.heap.size ≤ A ∧ BytesAt w' (some ⟨A, 0, none⟩) (List.replicate 64 c) ∧ Below w.heap.size w w' := by
  have hf : PDiskPlays.majordomolaw01_full.f 65 c = some (List.replicate 64 c) := by
    unfold PDiskPlays.majordomolaw01_full.f
    rw [if_pos (by decide)]
    exact full_l0 c 64 0 rfl
  refine (PDiskPlays.majordomolaw01_full.calls 65 c _ w hf).mono ?_
  rintro e w' ⟨v, rfl, hR, hb⟩
  obtain ⟨g, k, rfl, hg, _, _⟩ := Kd.R_form hR (by simp)
  obtain ⟨A, c', e', _, hC⟩ := Kd.R_reads hR
  injection e' with e1 _ _
  rw [← e1] at hC
  have hB := BytesAt.of_C hC
  exact ⟨g, k, rfl, hR, hg, hB, hb⟩

theorem exec_convert {P : Program} {ρ : Operand → Value} {o : Oper} {t u : TypeId} {x : Operand} {v r : Value} {w : World} (ho : o.op = .convert t u x) (hx : ρ x = v) (h : (convert t u v).run P w = .ok r w) : (execOp ρ o).run P w = .ok (.value r) w := by
  unfold execOp
  simp [ho, hx, h, Result.andThen]
abbrev r64 (c : Int) : List Int := List.replicate 64 c
def s1 : FS := { FS.new 2 with has := upd (fun _ => zeros) 1 (r64 1), writes := 1 }
def s2 : FS := { s1 with fuse := 1 }
def s3 : FS := { s1 with fuse := 0, has := upd s1.has 0 (r64 2), writes := 2 }
def s4 : FS := { s3 with off := true, fuse := -1 }
def s5 : FS := { s3 with off := false, fuse := -1 }
theorem blkc_get {bs : List Int} {j : Nat} {v : Int} (h : bs[j]? = some v) : (blkc bs)[j]? = some (.int .u8 v) := by simp [blkc, h]
theorem wr1 : wrap64 (0 + 1) = 1 := by rw [← i64_w, IntWalk.i64_in _ (by omega)]; rfl
theorem wr2 : wrap64 (1 + 1) = 2 := by rw [← i64_w, IntWalk.i64_in _ (by omega)]; rfl
theorem wr0 : wrap64 (1 - 1) = 0 := by rw [← i64_w, IntWalk.i64_in _ (by omega)]; rfl
theorem w1_eq : (FS.new 2).write 1 (r64 1) = (s1, 0) := by
  unfold FS.write
  rw [if_pos (show (FS.new 2).check 1 = 0 from rfl), if_pos (show (r64 1).length = 64 from rfl), if_neg (show ¬ (FS.new 2).fuse = 0 by decide), if_neg (show ¬ 0 < (FS.new 2).fuse by decide)]
  show (({ FS.new 2 with has := upd (fun _ => zeros) 1 (r64 1), writes := wrap64 (0 + 1) } : FS), (0 : Int)) = _
  rw [wr1]
  rfl
theorem w2_eq : s1.write 2 (r64 1) = (s1, 10) := rfl
theorem w3_eq : s1.write 0 [] = (s1, 11) := rfl
theorem f_eq : s1.fuseTo 1 = s2 := rfl
theorem w4_eq : s2.write 0 (r64 2) = (s3, 0) := by
  unfold FS.write
  rw [if_pos (show s2.check 0 = 0 from rfl), if_pos (show (r64 2).length = 64 from rfl), if_neg (show ¬ s2.fuse = 0 by decide), if_pos (show 0 < s2.fuse by decide)]
  show (({ s1 with has := upd s1.has 0 (r64 2), fuse := wrap64 (1 - 1), writes := wrap64 (1 + 1) } : FS), (0 : Int)) = _
  rw [wr0, wr2]
  rfl
theorem w5_eq : s3.write 0 (r64 3) = (s4, 2) := rfl
theorem b_eq : s4.boot = s5 := rfl
theorem c5_eq : s5.check 0 = 0 := rfl
theorem g5_eq : s5.has 0 = r64 2 := rfl
set_option maxHeartbeats 8000000 in
set_option maxRecDepth 100000 in
theorem dshown_any (w : World) :
    Calls Try.prog 9 #[] w fun e w' => e = .returned (.bool true) ∧ Below w.heap.size w w' := by
  go_enter Try.func9, Try.ntmps9
  go_wp2_with fail
  refine (new_any 2 w).mono ?_
  rintro e w1 (⟨_, _, b, m, rfl, hd, hb, hm, hbl⟩ | ⟨h, _⟩)
  case inr => exact absurd ⟨by decide, by decide⟩ h
  have D := Aside0.mk hd
  have BL := Aside0.mk hbl
  clear hd hbl
  go_wp2_with fail
  refine (new_any 0 w1).mono ?_
  rintro e w2 (⟨h, _⟩ | ⟨_, rfl, rfl⟩)
  case inl => exact absurd h (by decide)
  go_wp2_with fail
  refine (full_any 1 w2).mono ?_
  rintro e w3 ⟨A3, k3, rfl, _, hA3, hB3, hb3⟩
  have D3 := Aside0.mk (D.out.below hb3)
  have BL3 := Aside0.mk (below_step BL.out hb3)
  have Y3 := Aside0.mk hB3
  have hlt3 := D.out.lt
  have N3 := Aside0.mk (show A3 ≠ b by omega)
  clear hB3 hb3 hA3 hlt3 D BL
  go_wp2_with fail
  have hw := write_any b m (FS.new 2) 1 (some ⟨A3, 0, none⟩) k3 (r64 1) w3 D3.out Y3.out (fun ad e => by cases e; exact N3.out)
  rw [w1_eq] at hw
  refine hw.mono ?_
  clear hw
  rintro e w4 ⟨rfl, hd, hf⟩
  have D4 := Aside0.mk (show DiskIs w4 b m s1 from hd)
  have BL4 := Aside0.mk (BL3.out.trans (hf.below BL3.out.size (fun k hk => hk.elim (fun e => by rw [e]; exact hb) (fun e => by rw [e]; exact hm))))
  clear hd hf D3 BL3
  clear Y3 N3
  go_wp2_with fail
  refine (full_any 1 w4).mono ?_
  rintro e w5 ⟨A5, k5, rfl, _, hA5, hB5, hb5⟩
  have D5 := Aside0.mk (D4.out.below hb5)
  have BL5 := Aside0.mk (below_step BL4.out hb5)
  have Y5 := Aside0.mk hB5
  have hlt5 := D4.out.lt
  have N5 := Aside0.mk (show A5 ≠ b by omega)
  clear hB5 hb5 hA5 hlt5 D4 BL4
  go_wp2_with fail
  have hw := write_any b m (s1) 2 (some ⟨A5, 0, none⟩) k5 (r64 1) w5 D5.out Y5.out (fun ad e => by cases e; exact N5.out)
  rw [w2_eq] at hw
  refine hw.mono ?_
  clear hw
  rintro e w6 ⟨rfl, hd, hf⟩
  have D6 := Aside0.mk (show DiskIs w6 b m s1 from hd)
  have BL6 := Aside0.mk (BL5.out.trans (hf.below BL5.out.size (fun k hk => hk.elim (fun e => by rw [e]; exact hb) (fun e => by rw [e]; exact hm))))
  clear hd hf D5 BL5
  clear Y5 N5
  go_wp2_with fail
  have hw := write_any b m (s1) 0 none 0 [] w6 D6.out ⟨by simp, fun h => by simp at h⟩ (fun ad e => by cases e)
  rw [w3_eq] at hw
  refine hw.mono ?_
  clear hw
  rintro e w7 ⟨rfl, hd, hf⟩
  have D7 := Aside0.mk (show DiskIs w7 b m s1 from hd)
  have BL7 := Aside0.mk (BL6.out.trans (hf.below BL6.out.size (fun k hk => hk.elim (fun e => by rw [e]; exact hb) (fun e => by rw [e]; exact hm))))
  clear hd hf D6 BL6
  go_wp2_with fail
  have hw := fuse_any b m s1 1 w7 D7.out
  rw [f_eq] at hw
  refine hw.mono ?_
  clear hw
  rintro e w8 ⟨rfl, hd, hf⟩
  have D8 := Aside0.mk hd
  have BL8 := Aside0.mk (BL7.out.trans (hf.below BL7.out.size (fun k e => by rw [e]; exact hb)))
  clear hd hf D7 BL7
  go_wp2_with fail
  refine (full_any 2 w8).mono ?_
  rintro e w9 ⟨A9, k9, rfl, _, hA9, hB9, hb9⟩
  have D9 := Aside0.mk (D8.out.below hb9)
  have BL9 := Aside0.mk (below_step BL8.out hb9)
  have Y9 := Aside0.mk hB9
  have hlt9 := D8.out.lt
  have N9 := Aside0.mk (show A9 ≠ b by omega)
  clear hB9 hb9 hA9 hlt9 D8 BL8
  go_wp2_with fail
  have hw := write_any b m (s2) 0 (some ⟨A9, 0, none⟩) k9 (r64 2) w9 D9.out Y9.out (fun ad e => by cases e; exact N9.out)
  rw [w4_eq] at hw
  refine hw.mono ?_
  clear hw
  rintro e w10 ⟨rfl, hd, hf⟩
  have D10 := Aside0.mk (show DiskIs w10 b m s3 from hd)
  have BL10 := Aside0.mk (BL9.out.trans (hf.below BL9.out.size (fun k hk => hk.elim (fun e => by rw [e]; exact hb) (fun e => by rw [e]; exact hm))))
  clear hd hf D9 BL9
  clear Y9 N9
  go_wp2_with fail
  refine (full_any 3 w10).mono ?_
  rintro e w11 ⟨A11, k11, rfl, _, hA11, hB11, hb11⟩
  have D11 := Aside0.mk (D10.out.below hb11)
  have BL11 := Aside0.mk (below_step BL10.out hb11)
  have Y11 := Aside0.mk hB11
  have hlt11 := D10.out.lt
  have N11 := Aside0.mk (show A11 ≠ b by omega)
  clear hB11 hb11 hA11 hlt11 D10 BL10
  go_wp2_with fail
  have hw := write_any b m (s3) 0 (some ⟨A11, 0, none⟩) k11 (r64 3) w11 D11.out Y11.out (fun ad e => by cases e; exact N11.out)
  rw [w5_eq] at hw
  refine hw.mono ?_
  clear hw
  rintro e w12 ⟨rfl, hd, hf⟩
  have D12 := Aside0.mk (show DiskIs w12 b m s4 from hd)
  have BL12 := Aside0.mk (BL11.out.trans (hf.below BL11.out.size (fun k hk => hk.elim (fun e => by rw [e]; exact hb) (fun e => by rw [e]; exact hm))))
  clear hd hf D11 BL11
  clear Y11 N11
  go_wp2_with fail
  refine (on_any b m s4 w12 D12.out).mono ?_
  rintro e w13 ⟨rfl, rfl⟩
  go_wp2_with fail
  have hw := boot_any b m s4 w13 D12.out
  rw [b_eq] at hw
  refine hw.mono ?_
  clear hw
  rintro e w14 ⟨rfl, hd, hf⟩
  have D14 := Aside0.mk hd
  have BL14 := Aside0.mk (BL12.out.trans (hf.below BL12.out.size (fun k e => by rw [e]; exact hb)))
  clear hd hf D12 BL12
  go_wp2_with fail
  refine (read_any b m s5 0 w14 D14.out).mono ?_
  rintro e w15 (⟨_, rfl, hw15⟩ | ⟨h, _⟩)
  case inr => exact absurd c5_eq h
  rw [g5_eq] at hw15
  have B15 : Below w14.heap.size w14 w15 := by rw [hw15]; exact (Below.refl _ w14).alloc (Nat.le_refl _) _
  have Y15 := Aside0.mk (show BytesAt w15 (some ⟨w14.heap.size, 0, none⟩) (r64 2) from ⟨by decide, fun _ => ⟨_, rfl, fun j v hj => by
    rw [hw15, Addr.add_mid, Nat.zero_add]
    refine heap_cell (Go.heap_alloc_new w14 _) j _ ?_
    exact blkc_get hj⟩⟩)
  have D15 := Aside0.mk (D14.out.below B15)
  have BL15 := Aside0.mk (below_step BL14.out B15)
  clear hw15 B15 D14 BL14
  go_upto_region 14 with (fail)
  have hcv : ∀ w', BytesAt w' (some ⟨w14.heap.size, 0, none⟩) (r64 2) → (convert 36 9 (.slice (some ⟨w14.heap.size, 0, none⟩) 64 64)).run Try.prog w' = .ok (.string (strB (r64 2))) w' := fun w' h => conv_bytes h 64
  have hY := Y15.out
  have DD := Aside0.mk (D15.out.step (W' := w15.drew) rfl rfl)
  have BD := Aside0.mk (show Below w.heap.size w w15.drew from pw_below_drewN BL15.out 1)
  refine start_ (n := 39) (S := fun w' => BytesAt w' (some ⟨w14.heap.size, 0, none⟩) (r64 2)) (ds := []) #[false, false, false, false, false, false, false, false, false, false, false, false, false, false, false, false, false, false, false, false, false, false, false, false, false, false, false, false, false, false, false, false, false, false, false, false, false, false, false] (by kernel_rfl) rfl rfl (hY) (fun hHeld => ?_)
  refine pure_ (i := 0) (N := some 56) (v := ?_) (a' := ?_) #[true, false, false, false, false, false, false, false, false, false, false, false, false, false, false, false, false, false, false, false, false, false, false, false, false, false, false, false, false, false, false, false, false, false, false, false, false, false, false] rfl rfl (by kernel_rfl) (fun _ _ _ h => h) (Or.inl ⟨by rfl, ?_⟩) ?_ ?_
  rotate_left
  · intro w'
    go_simp
    with_reducible rfl
  rotate_left
  · simp only [Act.put, List.setIfInBounds_toArray, List.set_cons_zero, List.set_cons_succ, i64_w, i32_w]
    rfl
  refine pure_ (i := 1) (N := some 57) (v := ?_) (a' := ?_) #[true, true, false, false, false, false, false, false, false, false, false, false, false, false, false, false, false, false, false, false, false, false, false, false, false, false, false, false, false, false, false, false, false, false, false, false, false, false, false] rfl rfl (by kernel_rfl) (fun _ _ _ h => h) (Or.inl ⟨by rfl, ?_⟩) ?_ ?_
  rotate_left
  · intro w'
    go_simp
    with_reducible rfl
  rotate_left
  · simp only [Act.put, List.setIfInBounds_toArray, List.set_cons_zero, List.set_cons_succ, i64_w, i32_w]
    rfl
  refine pure_ (i := 2) (N := some 58) (v := ?_) (a' := ?_) #[true, true, true, false, false, false, false, false, false, false, false, false, false, false, false, false, false, false, false, false, false, false, false, false, false, false, false, false, false, false, false, false, false, false, false, false, false, false, false] rfl rfl (by kernel_rfl) (fun _ _ _ h => h) (Or.inl ⟨by rfl, ?_⟩) ?_ ?_
  rotate_left
  · intro w'
    go_simp
    with_reducible rfl
  rotate_left
  · simp only [Act.put, List.setIfInBounds_toArray, List.set_cons_zero, List.set_cons_succ, i64_w, i32_w]
    rfl
  refine pure_ (i := 3) (N := some 59) (v := ?_) (a' := ?_) #[true, true, true, true, false, false, false, false, false, false, false, false, false, false, false, false, false, false, false, false, false, false, false, false, false, false, false, false, false, false, false, false, false, false, false, false, false, false, false] rfl rfl (by kernel_rfl) (fun _ _ _ h => h) (Or.inl ⟨by rfl, ?_⟩) ?_ ?_
  rotate_left
  · intro w'
    go_simp
    with_reducible rfl
  rotate_left
  · simp only [Act.put, List.setIfInBounds_toArray, List.set_cons_zero, List.set_cons_succ, i64_w, i32_w]
    rfl
  refine pure_ (i := 4) (N := some 60) (v := ?_) (a' := ?_) #[true, true, true, true, true, false, false, false, false, false, false, false, false, false, false, false, false, false, false, false, false, false, false, false, false, false, false, false, false, false, false, false, false, false, false, false, false, false, false] rfl rfl (by kernel_rfl) (fun _ _ _ h => h) (Or.inl ⟨by rfl, ?_⟩) ?_ ?_
  rotate_left
  · intro w'
    go_simp
    with_reducible rfl
  rotate_left
  · simp only [Act.put, List.setIfInBounds_toArray, List.set_cons_zero, List.set_cons_succ, i64_w, i32_w]
    rfl
  refine pure_ (i := 5) (N := some 61) (v := ?_) (a' := ?_) #[true, true, true, true, true, true, false, false, false, false, false, false, false, false, false, false, false, false, false, false, false, false, false, false, false, false, false, false, false, false, false, false, false, false, false, false, false, false, false] rfl rfl (by kernel_rfl) (fun _ _ _ h => h) (Or.inl ⟨by rfl, ?_⟩) ?_ ?_
  rotate_left
  · intro w'
    go_simp
    with_reducible rfl
  rotate_left
  · simp only [Act.put, List.setIfInBounds_toArray, List.set_cons_zero, List.set_cons_succ, i64_w, i32_w]
    rfl
  refine pure_ (i := 6) (N := some 62) (v := ?_) (a' := ?_) #[true, true, true, true, true, true, true, false, false, false, false, false, false, false, false, false, false, false, false, false, false, false, false, false, false, false, false, false, false, false, false, false, false, false, false, false, false, false, false] rfl rfl (by kernel_rfl) (fun _ _ _ h => h) (Or.inl ⟨by rfl, ?_⟩) ?_ ?_
  rotate_left
  · intro w'
    go_simp
    with_reducible rfl
  rotate_left
  · simp only [Act.put, List.setIfInBounds_toArray, List.set_cons_zero, List.set_cons_succ, i64_w, i32_w]
    rfl
  refine pure_ (i := 7) (N := some 63) (v := ?_) (a' := ?_) #[true, true, true, true, true, true, true, true, false, false, false, false, false, false, false, false, false, false, false, false, false, false, false, false, false, false, false, false, false, false, false, false, false, false, false, false, false, false, false] rfl rfl (by kernel_rfl) (fun _ _ _ h => h) (Or.inl ⟨by rfl, ?_⟩) ?_ ?_
  rotate_left
  · intro w'
    go_simp
    with_reducible rfl
  rotate_left
  · simp only [Act.put, List.setIfInBounds_toArray, List.set_cons_zero, List.set_cons_succ, i64_w, i32_w]
    rfl
  refine pure_ (i := 8) (N := some 64) (v := ?_) (a' := ?_) #[true, true, true, true, true, true, true, true, true, false, false, false, false, false, false, false, false, false, false, false, false, false, false, false, false, false, false, false, false, false, false, false, false, false, false, false, false, false, false] rfl rfl (by kernel_rfl) (fun _ _ _ h => h) (Or.inl ⟨by rfl, ?_⟩) ?_ ?_
  rotate_left
  · intro w'
    go_simp
    with_reducible rfl
  rotate_left
  · simp only [Act.put, List.setIfInBounds_toArray, List.set_cons_zero, List.set_cons_succ, i64_w, i32_w]
    rfl
  refine pure_ (i := 9) (N := some 65) (v := ?_) (a' := ?_) #[true, true, true, true, true, true, true, true, true, true, false, false, false, false, false, false, false, false, false, false, false, false, false, false, false, false, false, false, false, false, false, false, false, false, false, false, false, false, false] rfl rfl (by kernel_rfl) (fun _ _ _ h => h) (Or.inl ⟨by rfl, ?_⟩) ?_ ?_
  rotate_left
  · intro w'
    go_simp
    with_reducible rfl
  rotate_left
  · simp only [Act.put, List.setIfInBounds_toArray, List.set_cons_zero, List.set_cons_succ, i64_w, i32_w]
    rfl
  refine pure_ (i := 10) (N := some 66) (v := ?_) (a' := ?_) #[true, true, true, true, true, true, true, true, true, true, true, false, false, false, false, false, false, false, false, false, false, false, false, false, false, false, false, false, false, false, false, false, false, false, false, false, false, false, false] rfl rfl (by kernel_rfl) (fun _ _ _ h => h) (Or.inl ⟨by rfl, ?_⟩) ?_ ?_
  rotate_left
  · intro w'
    go_simp
    with_reducible rfl
  rotate_left
  · simp only [Act.put, List.setIfInBounds_toArray, List.set_cons_zero, List.set_cons_succ, i64_w, i32_w]
    rfl
  refine pure_ (i := 11) (N := some 67) (v := ?_) (a' := ?_) #[true, true, true, true, true, true, true, true, true, true, true, true, false, false, false, false, false, false, false, false, false, false, false, false, false, false, false, false, false, false, false, false, false, false, false, false, false, false, false] rfl rfl (by kernel_rfl) (fun _ _ _ h => h) (Or.inl ⟨by rfl, ?_⟩) ?_ ?_
  rotate_left
  · intro w'
    go_simp
    with_reducible rfl
  rotate_left
  · simp only [Act.put, List.setIfInBounds_toArray, List.set_cons_zero, List.set_cons_succ, i64_w, i32_w]
    rfl
  refine pure_ (i := 12) (N := some 68) (v := ?_) (a' := ?_) #[true, true, true, true, true, true, true, true, true, true, true, true, true, false, false, false, false, false, false, false, false, false, false, false, false, false, false, false, false, false, false, false, false, false, false, false, false, false, false] rfl rfl (by kernel_rfl) (fun _ _ _ h => h) (Or.inl ⟨by rfl, ?_⟩) ?_ ?_
  rotate_left
  · intro w'
    go_simp
    with_reducible rfl
  rotate_left
  · simp only [Act.put, List.setIfInBounds_toArray, List.set_cons_zero, List.set_cons_succ, i64_w, i32_w]
    rfl
  refine pure_ (i := 13) (N := some 69) (v := ?_) (a' := ?_) #[true, true, true, true, true, true, true, true, true, true, true, true, true, true, false, false, false, false, false, false, false, false, false, false, false, false, false, false, false, false, false, false, false, false, false, false, false, false, false] rfl rfl (by kernel_rfl) (fun _ _ _ h => h) (Or.inl ⟨by rfl, ?_⟩) ?_ ?_
  rotate_left
  · intro w'
    go_simp
    with_reducible rfl
  rotate_left
  · simp only [Act.put, List.setIfInBounds_toArray, List.set_cons_zero, List.set_cons_succ, i64_w, i32_w]
    rfl
  refine pure_ (i := 14) (N := some 70) (v := ?_) (a' := ?_) #[true, true, true, true, true, true, true, true, true, true, true, true, true, true, true, false, false, false, false, false, false, false, false, false, false, false, false, false, false, false, false, false, false, false, false, false, false, false, false] rfl rfl (by kernel_rfl) (fun _ _ _ h => h) (Or.inl ⟨by rfl, ?_⟩) ?_ ?_
  rotate_left
  · intro w'
    go_simp
    with_reducible rfl
  rotate_left
  · simp only [Act.put, List.setIfInBounds_toArray, List.set_cons_zero, List.set_cons_succ, i64_w, i32_w]
    rfl
  refine pure_ (i := 15) (N := some 71) (v := ?_) (a' := ?_) #[true, true, true, true, true, true, true, true, true, true, true, true, true, true, true, true, false, false, false, false, false, false, false, false, false, false, false, false, false, false, false, false, false, false, false, false, false, false, false] rfl rfl (by kernel_rfl) (fun _ _ _ h => h) (Or.inl ⟨by rfl, ?_⟩) ?_ ?_
  rotate_left
  · intro w'
    go_simp
    with_reducible rfl
  rotate_left
  · simp only [Act.put, List.setIfInBounds_toArray, List.set_cons_zero, List.set_cons_succ, i64_w, i32_w]
    rfl
  refine pure_ (i := 16) (N := some 72) (v := ?_) (a' := ?_) #[true, true, true, true, true, true, true, true, true, true, true, true, true, true, true, true, true, false, false, false, false, false, false, false, false, false, false, false, false, false, false, false, false, false, false, false, false, false, false] rfl rfl (by kernel_rfl) (fun _ _ _ h => h) (Or.inl ⟨by rfl, ?_⟩) ?_ ?_
  rotate_left
  · intro w'
    go_simp
    with_reducible rfl
  rotate_left
  · simp only [Act.put, List.setIfInBounds_toArray, List.set_cons_zero, List.set_cons_succ, i64_w, i32_w]
    rfl
  refine pure_ (i := 17) (N := some 73) (v := ?_) (a' := ?_) #[true, true, true, true, true, true, true, true, true, true, true, true, true, true, true, true, true, true, false, false, false, false, false, false, false, false, false, false, false, false, false, false, false, false, false, false, false, false, false] rfl rfl (by kernel_rfl) (fun _ _ _ h => h) (Or.inl ⟨by rfl, ?_⟩) ?_ ?_
  rotate_left
  · intro w'
    go_simp
    with_reducible rfl
  rotate_left
  · simp only [Act.put, List.setIfInBounds_toArray, List.set_cons_zero, List.set_cons_succ, i64_w, i32_w]
    rfl
  refine pure_ (i := 18) (N := some 74) (v := ?_) (a' := ?_) #[true, true, true, true, true, true, true, true, true, true, true, true, true, true, true, true, true, true, true, false, false, false, false, false, false, false, false, false, false, false, false, false, false, false, false, false, false, false, false] rfl rfl (by kernel_rfl) (fun _ _ _ h => h) (Or.inl ⟨by rfl, ?_⟩) ?_ ?_
  rotate_left
  · intro w'
    go_simp
    with_reducible rfl
  rotate_left
  · simp only [Act.put, List.setIfInBounds_toArray, List.set_cons_zero, List.set_cons_succ, i64_w, i32_w]
    rfl
  refine pure_ (i := 19) (N := some 75) (v := ?_) (a' := ?_) #[true, true, true, true, true, true, true, true, true, true, true, true, true, true, true, true, true, true, true, true, false, false, false, false, false, false, false, false, false, false, false, false, false, false, false, false, false, false, false] rfl rfl (by kernel_rfl) (fun _ _ _ h => h) (Or.inl ⟨by rfl, ?_⟩) ?_ ?_
  rotate_left
  · intro w'
    go_simp
    with_reducible rfl
  rotate_left
  · simp only [Act.put, List.setIfInBounds_toArray, List.set_cons_zero, List.set_cons_succ, i64_w, i32_w]
    rfl
  refine pure_ (i := 20) (N := some 76) (v := ?_) (a' := ?_) #[true, true, true, true, true, true, true, true, true, true, true, true, true, true, true, true, true, true, true, true, true, false, false, false, false, false, false, false, false, false, false, false, false, false, false, false, false, false, false] rfl rfl (by kernel_rfl) (fun _ _ _ h => h) (Or.inl ⟨by rfl, ?_⟩) ?_ ?_
  rotate_left
  · intro w'
    go_simp
    with_reducible rfl
  rotate_left
  · simp only [Act.put, List.setIfInBounds_toArray, List.set_cons_zero, List.set_cons_succ, i64_w, i32_w]
    rfl
  refine pure_ (i := 21) (N := some 77) (v := ?_) (a' := ?_) #[true, true, true, true, true, true, true, true, true, true, true, true, true, true, true, true, true, true, true, true, true, true, false, false, false, false, false, false, false, false, false, false, false, false, false, false, false, false, false] rfl rfl (by kernel_rfl) (fun _ _ _ h => h) (Or.inl ⟨by rfl, ?_⟩) ?_ ?_
  rotate_left
  · intro w'
    go_simp
    with_reducible rfl
  rotate_left
  · simp only [Act.put, List.setIfInBounds_toArray, List.set_cons_zero, List.set_cons_succ, i64_w, i32_w]
    rfl
  refine pure_ (i := 22) (N := some 78) (v := ?_) (a' := ?_) #[true, true, true, true, true, true, true, true, true, true, true, true, true, true, true, true, true, true, true, true, true, true, true, false, false, false, false, false, false, false, false, false, false, false, false, false, false, false, false] rfl rfl (by kernel_rfl) (fun _ _ _ h => h) (Or.inl ⟨by rfl, ?_⟩) ?_ ?_
  rotate_left
  · intro w'
    go_simp
    with_reducible rfl
  rotate_left
  · simp only [Act.put, List.setIfInBounds_toArray, List.set_cons_zero, List.set_cons_succ, i64_w, i32_w]
    rfl
  refine pure_ (i := 23) (N := some 79) (v := ?_) (a' := ?_) #[true, true, true, true, true, true, true, true, true, true, true, true, true, true, true, true, true, true, true, true, true, true, true, true, false, false, false, false, false, false, false, false, false, false, false, false, false, false, false] rfl rfl (by kernel_rfl) (fun _ _ _ h => h) (Or.inl ⟨by rfl, ?_⟩) ?_ ?_
  rotate_left
  · intro w'
    go_simp
    with_reducible rfl
  rotate_left
  · simp only [Act.put, List.setIfInBounds_toArray, List.set_cons_zero, List.set_cons_succ, i64_w, i32_w]
    rfl
  refine pure_ (i := 24) (N := some 80) (v := ?_) (a' := ?_) #[true, true, true, true, true, true, true, true, true, true, true, true, true, true, true, true, true, true, true, true, true, true, true, true, true, false, false, false, false, false, false, false, false, false, false, false, false, false, false] rfl rfl (by kernel_rfl) (fun _ _ _ h => h) (Or.inl ⟨by rfl, ?_⟩) ?_ ?_
  rotate_left
  · intro w'
    go_simp
    with_reducible rfl
  rotate_left
  · simp only [Act.put, List.setIfInBounds_toArray, List.set_cons_zero, List.set_cons_succ, i64_w, i32_w]
    rfl
  refine pure_ (i := 25) (N := some 81) (v := ?_) (a' := ?_) #[true, true, true, true, true, true, true, true, true, true, true, true, true, true, true, true, true, true, true, true, true, true, true, true, true, true, false, false, false, false, false, false, false, false, false, false, false, false, false] rfl rfl (by kernel_rfl) (fun _ _ _ h => h) (Or.inl ⟨by rfl, ?_⟩) ?_ ?_
  rotate_left
  · intro w'
    go_simp
    with_reducible rfl
  rotate_left
  · simp only [Act.put, List.setIfInBounds_toArray, List.set_cons_zero, List.set_cons_succ, i64_w, i32_w]
    rfl
  refine pure_ (i := 26) (N := some 82) (v := ?_) (a' := ?_) #[true, true, true, true, true, true, true, true, true, true, true, true, true, true, true, true, true, true, true, true, true, true, true, true, true, true, true, false, false, false, false, false, false, false, false, false, false, false, false] rfl rfl (by kernel_rfl) (fun _ _ _ h => h) (Or.inl ⟨by rfl, ?_⟩) ?_ ?_
  rotate_left
  · intro w'
    go_simp
    with_reducible rfl
  rotate_left
  · simp only [Act.put, List.setIfInBounds_toArray, List.set_cons_zero, List.set_cons_succ, i64_w, i32_w]
    rfl
  refine pure_ (i := 27) (N := some 83) (v := ?_) (a' := ?_) #[true, true, true, true, true, true, true, true, true, true, true, true, true, true, true, true, true, true, true, true, true, true, true, true, true, true, true, true, false, false, false, false, false, false, false, false, false, false, false] rfl rfl (by kernel_rfl) (fun _ _ _ h => h) (Or.inl ⟨by rfl, ?_⟩) ?_ ?_
  rotate_left
  · intro w'
    go_simp
    with_reducible rfl
  rotate_left
  · simp only [Act.put, List.setIfInBounds_toArray, List.set_cons_zero, List.set_cons_succ, i64_w, i32_w]
    rfl
  refine take_ (i := 28) (N := some 84) (v := ?_) (a' := ?_) #[true, true, true, true, true, true, true, true, true, true, true, true, true, true, true, true, true, true, true, true, true, true, true, true, true, true, true, true, true, false, false, false, false, false, false, false, false, false, false] rfl rfl (by kernel_rfl) (fun _ _ _ h => h) (Or.inl ⟨by rfl, ?_⟩) hHeld ?_ ?_
  rotate_left
  · intro w' s0
    refine exec_convert (x := .tmp 83) (v := .slice (some ⟨w14.heap.size, 0, none⟩) 64 64) (r := .string (strB (r64 2))) ?_ ?_ (hcv w' s0)
    · rfl
    · rfl
  rotate_left
  · simp only [Act.put, List.setIfInBounds_toArray, List.set_cons_zero, List.set_cons_succ, i64_w, i32_w]
    rfl
  refine one_ (i := 29) (N := some 85) #[true, true, true, true, true, true, true, true, true, true, true, true, true, true, true, true, true, true, true, true, true, true, true, true, true, true, true, true, true, true, false, false, false, false, false, false, false, false, false] rfl rfl (by kernel_rfl) (by decide) (fun K hK => ?_)
  refine goes_ Try.func15 (by kernel_rfl) rfl #[.int .u8 2] (by rfl) rfl rfl (by simp only [List.map_toArray, List.map_cons, List.map_nil]; rfl) ?_
  refine (full_any 2 _).mono ?_
  rintro e w16 ⟨A16, k16, rfl, _, _, hB16, hb16⟩
  refine ⟨_, rfl, ?_⟩
  have D16 := Aside0.mk (DD.out.below hb16)
  have BL16 := Aside0.mk (below_step BD.out hb16)
  have Y16 := Aside0.mk hB16
  have Y14 := Aside0.mk (BytesAt.below (W := w15.drew) hY hb16)
  clear hB16 hb16
  refine hK.out _ _ (Y14.out) (fun hHeld => ?_)
  clear hK K
  refine norm_ (a' := ?_) ?_ ?_
  rotate_left
  · show Act.put _ (some 85) _ = _
    simp only [Act.put, List.setIfInBounds_toArray, List.set_cons_zero, List.set_cons_succ, i64_w, i32_w]
    rfl
  refine one_ (i := 30) (N := some 86) #[true, true, true, true, true, true, true, true, true, true, true, true, true, true, true, true, true, true, true, true, true, true, true, true, true, true, true, true, true, true, true, false, false, false, false, false, false, false, false] rfl rfl (by kernel_rfl) (by decide) (fun K hK => ?_)
  refine value_ (w1 := w16) (v := .string (strB (r64 2))) (by rfl) rfl (exec_convert (x := .tmp 85) (v := .slice (some ⟨A16, 0, none⟩) 64 k16) (by rfl) (by rfl) (conv_bytes Y16.out k16)) ?_
  refine hK.out _ _ (Y14.out) (fun hHeld => ?_)
  clear hK K
  refine norm_ (a' := ?_) ?_ ?_
  rotate_left
  · show Act.put _ (some 86) _ = _
    simp only [Act.put, List.setIfInBounds_toArray, List.set_cons_zero, List.set_cons_succ, i64_w, i32_w]
    rfl
  refine pure_ (i := 31) (N := some 87) (v := ?_) (a' := ?_) #[true, true, true, true, true, true, true, true, true, true, true, true, true, true, true, true, true, true, true, true, true, true, true, true, true, true, true, true, true, true, true, true, false, false, false, false, false, false, false] rfl rfl (by kernel_rfl) (fun _ _ _ h => h) (Or.inl ⟨by rfl, ?_⟩) ?_ ?_
  rotate_left
  · intro w'
    go_simp
    with_reducible rfl
  rotate_left
  · simp only [Act.put, List.setIfInBounds_toArray, List.set_cons_zero, List.set_cons_succ, i64_w, i32_w]
    rfl
  refine pure_ (i := 32) (N := some 88) (v := ?_) (a' := ?_) #[true, true, true, true, true, true, true, true, true, true, true, true, true, true, true, true, true, true, true, true, true, true, true, true, true, true, true, true, true, true, true, true, true, false, false, false, false, false, false] rfl rfl (by kernel_rfl) (fun _ _ _ h => h) (Or.inl ⟨by rfl, ?_⟩) ?_ ?_
  rotate_left
  · intro w'
    go_simp
    with_reducible rfl
  rotate_left
  · simp only [Act.put, List.setIfInBounds_toArray, List.set_cons_zero, List.set_cons_succ, i64_w, i32_w]
    rfl
  refine pure_ (i := 33) (N := some 89) (v := ?_) (a' := ?_) #[true, true, true, true, true, true, true, true, true, true, true, true, true, true, true, true, true, true, true, true, true, true, true, true, true, true, true, true, true, true, true, true, true, true, false, false, false, false, false] rfl rfl (by kernel_rfl) (fun _ _ _ h => h) (Or.inl ⟨by rfl, ?_⟩) ?_ ?_
  rotate_left
  · intro w'
    go_simp
    with_reducible rfl
  rotate_left
  · simp only [Act.put, List.setIfInBounds_toArray, List.set_cons_zero, List.set_cons_succ, i64_w, i32_w]
    rfl
  refine pure_ (i := 34) (N := some 90) (v := ?_) (a' := ?_) #[true, true, true, true, true, true, true, true, true, true, true, true, true, true, true, true, true, true, true, true, true, true, true, true, true, true, true, true, true, true, true, true, true, true, true, false, false, false, false] rfl rfl (by kernel_rfl) (fun _ _ _ h => h) (Or.inl ⟨by rfl, ?_⟩) ?_ ?_
  rotate_left
  · intro w'
    go_simp
    with_reducible rfl
  rotate_left
  · simp only [Act.put, List.setIfInBounds_toArray, List.set_cons_zero, List.set_cons_succ, i64_w, i32_w]
    rfl
  refine one_ (i := 35) (N := some 91) #[true, true, true, true, true, true, true, true, true, true, true, true, true, true, true, true, true, true, true, true, true, true, true, true, true, true, true, true, true, true, true, true, true, true, true, true, false, false, false] rfl rfl (by kernel_rfl) (by decide) (fun K hK => ?_)
  refine goes_ Try.func32 (by kernel_rfl) rfl #[.pointer (some ⟨b, 0, none⟩)] (by rfl) rfl rfl (by simp only [List.map_toArray, List.map_cons, List.map_nil]; rfl) ?_
  refine (writes_any b m s5 w16 D16.out).mono ?_
  rintro e w17 ⟨rfl, rfl⟩
  refine ⟨_, rfl, ?_⟩
  refine hK.out _ _ (Y14.out) (fun hHeld => ?_)
  clear hK K
  refine norm_ (a' := ?_) ?_ ?_
  rotate_left
  · show Act.put _ (some 91) _ = _
    simp only [Act.put, List.setIfInBounds_toArray, List.set_cons_zero, List.set_cons_succ, i64_w, i32_w]
    rfl
  refine pure_ (i := 36) (N := some 92) (v := ?_) (a' := ?_) #[true, true, true, true, true, true, true, true, true, true, true, true, true, true, true, true, true, true, true, true, true, true, true, true, true, true, true, true, true, true, true, true, true, true, true, true, true, false, false] rfl rfl (by kernel_rfl) (fun _ _ _ h => h) (Or.inl ⟨by rfl, ?_⟩) ?_ ?_
  rotate_left
  · intro w'
    go_simp
    with_reducible rfl
  rotate_left
  · simp only [Act.put, List.setIfInBounds_toArray, List.set_cons_zero, List.set_cons_succ, i64_w, i32_w]
    rfl
  refine pure_ (i := 37) (N := some 93) (v := ?_) (a' := ?_) #[true, true, true, true, true, true, true, true, true, true, true, true, true, true, true, true, true, true, true, true, true, true, true, true, true, true, true, true, true, true, true, true, true, true, true, true, true, true, false] rfl rfl (by kernel_rfl) (fun _ _ _ h => h) (Or.inl ⟨by rfl, ?_⟩) ?_ ?_
  rotate_left
  · intro w'
    go_simp
    with_reducible rfl
  rotate_left
  · simp only [Act.put, List.setIfInBounds_toArray, List.set_cons_zero, List.set_cons_succ, i64_w, i32_w]
    rfl
  refine pure_ (i := 38) (N := some 0) (v := ?_) (a' := ?_) #[true, true, true, true, true, true, true, true, true, true, true, true, true, true, true, true, true, true, true, true, true, true, true, true, true, true, true, true, true, true, true, true, true, true, true, true, true, true, true] rfl rfl (by kernel_rfl) (fun _ _ _ h => h) (Or.inl ⟨by rfl, ?_⟩) ?_ ?_
  rotate_left
  · intro w'
    go_simp
    with_reducible rfl
  rotate_left
  · simp only [Act.put, List.setIfInBounds_toArray, List.set_cons_zero, List.set_cons_succ, i64_w, i32_w]
    rfl
  refine done_ (by kernel_rfl) ?_

  go_wp2
  go_ret
  exact ⟨rfl, BL16.out⟩
end Go.Proofs.Ytcgcojdkkkfkdaa.Dk
