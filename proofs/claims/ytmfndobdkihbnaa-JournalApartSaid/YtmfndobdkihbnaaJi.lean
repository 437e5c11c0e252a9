/-
  A journal: Open.
-/
import Derived.Test.YtmfndobdkihbnaaJh
namespace Go.Proofs.Ytmfndobdkihbnaa.Dk
open Go.RowKit Go.MapKept Go.Proofs.YtmfndobdkihbnaaW.PrintWords Go.Proofs.YtmfndobdkihbnaaW.PrintLast Go.Proofs.YtmfndobdkihbnaaW.PrintMore
set_option linter.unusedVariables false
set_option linter.unusedSimpArgs false

def decG (n : Int) (i : Nat) : Int := n / 2 ^ (64 - 8 * i)
theorem decG_step (n : Int) (i : Nat) (hi : i < 8) : decG n (i + 1) = decG n i * 256 + gB n i := by
  unfold decG gB
  rw [show 64 - 8 * (i + 1) = 56 - 8 * i from by omega, show 64 - 8 * i = (56 - 8 * i) + 8 from by omega, Int.pow_add, ← Int.ediv_ediv_of_nonneg (Int.pow_nonneg (by decide))]
  have h256 : (2 : Int) ^ 8 = 256 := by decide
  rw [h256]
  omega
theorem decG_zero (n : Int) (h0 : 0 ≤ n) (h1 : n ≤ 1000000) : decG n 0 = 0 := by
  unfold decG
  exact Int.ediv_eq_zero_of_lt h0 (by have : (2 : Int) ^ (64 - 8 * 0) = 18446744073709551616 := by decide
                                      rw [this]; omega)
theorem decG_last (n : Int) : decG n 8 = n := by simp [decG]
theorem decG_bd (n : Int) (i : Nat) (h0 : 0 ≤ n) (h1 : n ≤ 1000000) : 0 ≤ decG n i ∧ decG n i ≤ 1000000 := by
  unfold decG
  have hp : (0 : Int) < 2 ^ (64 - 8 * i) := Int.pow_pos (by decide)
  refine ⟨Int.ediv_nonneg h0 (Int.le_of_lt hp), ?_⟩
  exact Int.le_trans (Int.ediv_le_self _ h0) h1
theorem gB_bd (n : Int) (i : Nat) : 0 ≤ gB n i ∧ gB n i < 256 := by unfold gB; omega
theorem headB_get (g h : Int) (i : Nat) (hi : i < 8) : (headB g h).getD (8 + i) 0 = gB g i := by
  unfold headB
  rw [List.getD_eq_getElem?_getD, List.getElem?_append_right (by simp [markB]), List.getElem?_append_left (by simp [markB]; omega)]
  simp [markB, hi]
theorem headB_hand (g h : Int) : (headB g h).getD 16 0 = h % 256 := by
  unfold headB
  rw [List.getD_eq_getElem?_getD, List.getElem?_append_right (by simp [markB]), List.getElem?_append_right (by simp [markB])]
  simp [markB]

/-- What Open makes of a disk, and what it answers. -/
def openR (s : FS) (at_ n : Int) (L : List PutT) : FS × Int := if L.length = 0 then (s, 0) else wrs s (L ++ [(at_, headB n 0)])
def OpenPost (b m : Nat) (s : FS) (at_ n : Int) (L : List PutT) (w : World) (e : Ending) (w' : World) : Prop :=
  DiskIs w' b m (openR s at_ n L).1 ∧ Fr (DB b m) w w' ∧
  (((openR s at_ n L).2 = 0 ∧ ∃ jb, e = .returned (.tuple #[.pointer (some ⟨jb, 0, none⟩), .int .i64 0]) ∧ w.heap.size ≤ jb ∧ JIs w' jb b at_ n) ∨
   ((openR s at_ n L).2 ≠ 0 ∧ e = .returned (.tuple #[.pointer none, .int .i64 (openR s at_ n L).2])))

set_option maxHeartbeats 8000000 in
set_option maxRecDepth 100000 in
theorem open_any (b m : Nat) (s : FS) (at_ n : Int) (L : List PutT) (w : World) (h : DiskIs w b m s) (hon : s.off = false) (h0 : 0 ≤ at_) (h1 : at_ + 199 ≤ s.len) (h2 : s.len ≤ 4096) (hg0 : 0 ≤ n) (hg1 : n ≤ 1000000)
    (hL : L.length ≤ 192) (hh : s.has at_ = headB n (L.length : Int)) (hT : Tells s.has at_ s.len L) :
    Calls Try.prog 9 #[.pointer (some ⟨b, 0, none⟩), .int .i64 at_] w fun e w' => OpenPost b m s at_ n L w e w' := by
  have H := Aside0.mk h
  have HON := Aside0.mk hon
  have HLN := Aside0.mk (And.intro h1 h2)
  have HT := Aside0.mk hT
  have HH := Aside0.mk hh
  have hthere := Aside0.mk (there_any b m s at_ w h h0 h1 h2)
  have hck := Aside0.mk (check_on (i := at_) hon h0 (by omega))
  clear h hon h1 h2 hT hh
  go_enter Try.func9, Try.ntmps9
  go_wp2_with fail
  refine hthere.out.mono ?_
  rintro e w1 ⟨rfl, rfl⟩
  clear hthere
  go_wp2_with fail
  obtain ⟨wa, hwa⟩ : ∃ wa, wa = w1.alloc (.cells #[.pointer (some ⟨b, 0, none⟩), .int .i64 at_, .int .i64 0] 68) := ⟨_, rfl⟩
  rw [← hwa]
  have hba : Below w1.heap.size w1 wa := by rw [hwa]; exact (Below.refl _ w1).alloc (Nat.le_refl _) _
  have hja : JIs wa w1.heap.size b at_ 0 := by rw [hwa]; exact Go.heap_alloc_new _ _
  refine (read_on b m s at_ wa (H.out.below hba) hck.out).mono ?_
  rintro e w2 ⟨rfl, hq, hb⟩
  obtain ⟨qb, hqb⟩ : ∃ qb, qb = wa.heap.size := ⟨_, rfl⟩
  rw [← hqb] at hq ⊢
  rw [HH.out] at hq
  have HQ := Aside0.mk hq
  have B2 := Aside0.mk (below_step hba hb)
  have J2 := Aside0.mk (show JIs w2 w1.heap.size b at_ (decG n 0) from by rw [decG_zero n hg0 hg1]; exact hja.below hb)
  have HQL := Aside0.mk (show w1.heap.size < qb from by rw [hqb]; exact blk_lt hja)
  clear hwa hba hja hq hb hqb hck
  obtain ⟨jn, hjn⟩ : ∃ jn, jn = w1.heap.size := ⟨_, rfl⟩
  rw [← hjn] at J2 HQL ⊢
  have HJN := Aside0.mk hjn
  clear hjn
  go_wp2
  go_loopg [30] 8 (fun gq v30 wr => ∃ (i : Nat), v30 = .int .i64 i ∧ i ≤ 8 ∧ Aside0 (gq = 8 - i) ∧ Aside0 (JIs wr jn b at_ (decG n i)) ∧ Aside0 (wr.heap[qb]? = some (.cells (blkc (headB n (L.length : Int))) 73 (0, 0))) ∧ Aside0 (Below w1.heap.size w1 wr))
  case atStart => exact ⟨0, rfl, by omega, ⟨rfl⟩, J2, HQ, B2⟩
  case round =>
    clear J2 HQ B2
    obtain ⟨i, rfl, hi, HG, HJ, HQ, HB⟩ := hrel
    by_cases hlt : i < 8
    · have hlt' : (i : Int) < 8 := by omega
      obtain ⟨G, hG⟩ : ∃ G, G = decG n i := ⟨_, rfl⟩
      obtain ⟨y, hy⟩ : ∃ y, y = gB n i := ⟨_, rfl⟩
      obtain ⟨hG0, hG1⟩ := decG_bd n i hg0 hg1
      obtain ⟨hy0, hy1⟩ := gB_bd n i
      have hst := decG_step n i hlt
      rw [← hG] at HJ hG0 hG1 hst
      rw [← hy] at hy0 hy1 hst
      have HST := Aside0.mk hst
      have k0 := read_cell HQ.out (8 + i) (by rw [headB_len]; omega)
      rw [headB_get _ _ _ hlt, ← hy] at k0
      have c2 := HJ.out.c2
      have f2 := HJ.out.f2
      have hv : bits .or .i64 (G * 256) y = G * 256 + y := or_byte _ _ (by omega) (by omega) (by omega) (by omega)
      have hv2 : IntKind.i64.wrap (G * 256) = G * 256 := IntWalk.i64_in _ (by omega)
      have hv3 : IntKind.i64.wrap y = y := IntWalk.i64_in _ (by omega)
      have hv4 : IntKind.i64.wrap (8 + (i : Int)) = 8 + (i : Int) := IntWalk.i64_in _ (by omega)
      have hv5 : 0 ≤ 8 + (i : Int) := by omega
      have hv6 : (8 + (i : Int)).toNat = 8 + i := by omega
      have hv7 : 8 + (i : Int) < 64 := by omega
      clear hst hG hy
      go_upto_region 11 with (fail)
      refine start_ (n := 17) (S := fun w' => w'.cell? ⟨jn, 2, none⟩ = some (.int .i64 G) ∧ w'.frozen? ⟨jn, 2, none⟩ = false ∧ w'.cell? ⟨qb, 8 + i, none⟩ = some (.int .u8 y)) (ds := [16]) #[false, false, false, false, false, false, false, false, false, false, false, false, false, false, false, false, false] (by kernel_rfl) rfl rfl ⟨c2, f2, k0⟩ (fun hHeld => ?_)
      refine pure_ (i := 0) (N := some 33) (v := ?_) (a' := ?_) #[true, false, false, false, false, false, false, false, false, false, false, false, false, false, false, false, false] rfl rfl (by kernel_rfl) (fun _ _ _ h => h) (Or.inl ⟨by rfl, ?_⟩) ?_ ?_
      rotate_left
      · intro w'
        go_simp
        with_reducible rfl
      rotate_left
      · simp only [Act.put, List.setIfInBounds_toArray, List.set_cons_zero, List.set_cons_succ, i64_w, i32_w]
        rfl
      refine pure_ (i := 1) (N := some 34) (v := ?_) (a' := ?_) #[true, true, false, false, false, false, false, false, false, false, false, false, false, false, false, false, false] rfl rfl (by kernel_rfl) (fun _ _ _ h => h) (Or.inl ⟨by rfl, ?_⟩) ?_ ?_
      rotate_left
      · intro w'
        go_simp
        with_reducible rfl
      rotate_left
      · simp only [Act.put, List.setIfInBounds_toArray, List.set_cons_zero, List.set_cons_succ, i64_w, i32_w]
        rfl
      refine pure_ (i := 2) (N := some 35) (v := ?_) (a' := ?_) #[true, true, true, false, false, false, false, false, false, false, false, false, false, false, false, false, false] rfl rfl (by kernel_rfl) (fun _ _ _ h => h) (Or.inl ⟨by rfl, ?_⟩) ?_ ?_
      rotate_left
      · intro w'
        go_simp
        with_reducible rfl
      rotate_left
      · simp only [Act.put, List.setIfInBounds_toArray, List.set_cons_zero, List.set_cons_succ, i64_w, i32_w]
        rfl
      refine pure_ (i := 3) (N := some 36) (v := ?_) (a' := ?_) #[true, true, true, true, false, false, false, false, false, false, false, false, false, false, false, false, false] rfl rfl (by kernel_rfl) (fun _ _ _ h => h) (Or.inl ⟨by rfl, ?_⟩) ?_ ?_
      rotate_left
      · intro w'
        go_simp
        with_reducible rfl
      rotate_left
      · simp only [Act.put, List.setIfInBounds_toArray, List.set_cons_zero, List.set_cons_succ, i64_w, i32_w]
        rfl
      refine pure_ (i := 6) (N := some 39) (v := ?_) (a' := ?_) #[true, true, true, true, false, false, true, false, false, false, false, false, false, false, false, false, false] rfl rfl (by kernel_rfl) (fun _ _ _ h => h) (Or.inl ⟨by rfl, ?_⟩) ?_ ?_
      rotate_left
      · intro w'
        go_simp
        with_reducible rfl
      rotate_left
      · simp only [Act.put, List.setIfInBounds_toArray, List.set_cons_zero, List.set_cons_succ, i64_w, i32_w]
        rfl
      refine pure_ (i := 7) (N := some 40) (v := ?_) (a' := ?_) #[true, true, true, true, false, false, true, true, false, false, false, false, false, false, false, false, false] rfl rfl (by kernel_rfl) (fun _ _ _ h => h) (Or.inl ⟨by rfl, ?_⟩) ?_ ?_
      rotate_left
      · intro w'
        go_simp
        with_reducible rfl
      rotate_left
      · simp only [Act.put, List.setIfInBounds_toArray, List.set_cons_zero, List.set_cons_succ, i64_w, i32_w]
        rfl
      refine pure_ (i := 8) (N := some 41) (v := ?_) (a' := ?_) #[true, true, true, true, false, false, true, true, true, false, false, false, false, false, false, false, false] rfl rfl (by kernel_rfl) (fun _ _ _ h => h) (Or.inl ⟨by rfl, ?_⟩) ?_ ?_
      rotate_left
      · intro w'
        go_simp
        with_reducible rfl
      rotate_left
      · simp only [Act.put, List.setIfInBounds_toArray, List.set_cons_zero, List.set_cons_succ, i64_w, i32_w]
        rfl
      refine pure_ (i := 9) (N := some 42) (v := ?_) (a' := ?_) #[true, true, true, true, false, false, true, true, true, true, false, false, false, false, false, false, false] rfl rfl (by kernel_rfl) (fun _ _ _ h => h) (Or.inl ⟨by rfl, ?_⟩) ?_ ?_
      rotate_left
      · intro w'
        go_simp
        with_reducible rfl
      rotate_left
      · simp only [Act.put, List.setIfInBounds_toArray, List.set_cons_zero, List.set_cons_succ, i64_w, i32_w]
        rfl
      refine pure_ (i := 10) (N := some 43) (v := ?_) (a' := ?_) #[true, true, true, true, false, false, true, true, true, true, true, false, false, false, false, false, false] rfl rfl (by kernel_rfl) (fun _ _ _ h => h) (Or.inl ⟨by rfl, ?_⟩) ?_ ?_
      rotate_left
      · intro w'
        go_simp
        with_reducible rfl
      rotate_left
      · simp only [Act.put, List.setIfInBounds_toArray, List.set_cons_zero, List.set_cons_succ, i64_w, i32_w]
        rfl
      refine take_ (i := 4) (N := some 37) (v := ?_) (a' := ?_) #[true, true, true, true, true, false, true, true, true, true, true, false, false, false, false, false, false] rfl rfl (by kernel_rfl) (fun _ _ _ h => h) (Or.inl ⟨by rfl, ?_⟩) hHeld ?_ ?_
      rotate_left
      · rintro w' ⟨s0, s1, s2⟩
        go_simp
        with_reducible rfl
      rotate_left
      · simp only [Act.put, List.setIfInBounds_toArray, List.set_cons_zero, List.set_cons_succ, i64_w, i32_w]
        rfl
      refine pure_ (i := 5) (N := some 38) (v := ?_) (a' := ?_) #[true, true, true, true, true, true, true, true, true, true, true, false, false, false, false, false, false] rfl rfl (by kernel_rfl) (fun _ _ _ h => h) (Or.inl ⟨by rfl, ?_⟩) ?_ ?_
      rotate_left
      · intro w'
        go_simp
        with_reducible rfl
      rotate_left
      · simp only [Act.put, List.setIfInBounds_toArray, List.set_cons_zero, List.set_cons_succ, i64_w, i32_w]
        rfl
      refine take_ (i := 11) (N := some 44) (v := ?_) (a' := ?_) #[true, true, true, true, true, true, true, true, true, true, true, true, false, false, false, false, false] rfl rfl (by kernel_rfl) (fun _ _ _ h => h) (Or.inl ⟨by rfl, ?_⟩) hHeld ?_ ?_
      rotate_left
      · rintro w' ⟨s0, s1, s2⟩
        go_simp
        with_reducible rfl
      rotate_left
      · simp only [Act.put, List.setIfInBounds_toArray, List.set_cons_zero, List.set_cons_succ, i64_w, i32_w]
        rfl
      refine pure_ (i := 12) (N := some 45) (v := ?_) (a' := ?_) #[true, true, true, true, true, true, true, true, true, true, true, true, true, false, false, false, false] rfl rfl (by kernel_rfl) (fun _ _ _ h => h) (Or.inl ⟨by rfl, ?_⟩) ?_ ?_
      rotate_left
      · intro w'
        go_simp
        with_reducible rfl
      rotate_left
      · simp only [Act.put, List.setIfInBounds_toArray, List.set_cons_zero, List.set_cons_succ, i64_w, i32_w]
        rfl
      refine pure_ (i := 13) (N := some 46) (v := ?_) (a' := ?_) #[true, true, true, true, true, true, true, true, true, true, true, true, true, true, false, false, false] rfl rfl (by kernel_rfl) (fun _ _ _ h => h) (Or.inl ⟨by rfl, ?_⟩) ?_ ?_
      rotate_left
      · intro w'
        go_simp
        with_reducible rfl
      rotate_left
      · simp only [Act.put, List.setIfInBounds_toArray, List.set_cons_zero, List.set_cons_succ, i64_w, i32_w]
        rfl
      refine pure_ (i := 14) (N := some 47) (v := ?_) (a' := ?_) #[true, true, true, true, true, true, true, true, true, true, true, true, true, true, true, false, false] rfl rfl (by kernel_rfl) (fun _ _ _ h => h) (Or.inl ⟨by rfl, ?_⟩) ?_ ?_
      rotate_left
      · intro w'
        go_simp
        with_reducible rfl
      rotate_left
      · simp only [Act.put, List.setIfInBounds_toArray, List.set_cons_zero, List.set_cons_succ, i64_w, i32_w]
        rfl
      refine pure_ (i := 15) (N := some 48) (v := ?_) (a' := ?_) #[true, true, true, true, true, true, true, true, true, true, true, true, true, true, true, true, false] rfl rfl (by kernel_rfl) (fun _ _ _ h => h) (Or.inl ⟨by rfl, ?_⟩) ?_ ?_
      rotate_left
      · intro w'
        go_simp
        with_reducible rfl
      rotate_left
      · simp only [Act.put, List.setIfInBounds_toArray, List.set_cons_zero, List.set_cons_succ, i64_w, i32_w]
        rfl
      refine last_ (i := 16) (N := none) #[true, true, true, true, true, true, true, true, true, true, true, true, true, true, true, true, true] rfl rfl (by kernel_rfl) (by decide) (fun K hK => ?_)
      refine skip_ (w1 := ?_) (by rfl) rfl ?_ ?_
      rotate_left
      · go_simp
        rfl
      refine hK.out _ _ ?_
      clear hK K
      refine done_ (by kernel_rfl) ?_
      clear hv hv2 hv3 hv4 hv5 hv6 hv7
      go_wp2
      go_roundg (8 - (i + 1))
      case measure => have := HG.out; omega
      case rel =>
        refine ⟨i + 1, by go_num, by omega, ⟨rfl⟩, ⟨?_⟩, ⟨(Below.heap_setCell wr ⟨jn, 2, none⟩ (.int .i64 (G * 256 + y)) qb (by show qb ≠ jn; have := HQL.out; omega)).trans HQ.out⟩, ⟨below_drew (HB.out.setCell (p := ⟨jn, 2, none⟩) (by show w1.heap.size ≤ jn; have := HJN.out; omega) (.int .i64 (G * 256 + y)))⟩⟩
        rw [HST.out]
        exact HJ.out.put (G * 256 + y)
    · have hi8 : i = 8 := by omega
      subst hi8
      rw [decG_last] at HJ
      have k0 := read_cell HQ.out 16 (by rw [headB_len]; omega)
      rw [headB_hand] at k0
      have hmod : (L.length : Int) % 256 = (L.length : Int) := by omega
      rw [hmod] at k0
      clear hmod
      go_upto_region 14 with (fail)
      have hcv : ∀ w', BytesAt w' (some ⟨qb, 0, none⟩) (headB n (L.length : Int)) → (convert 37 9 (.slice (some ⟨qb, 0, none⟩) 64 64)).run Try.prog w' = .ok (.string (strB (headB n (L.length : Int)))) w' := fun w' h => by
        have := conv_bytes h 64
        rw [headB_len] at this
        exact this
      have hY := read_bytes HQ.out (by rw [headB_len]; decide)
      have c2 := HJ.out.c2
      have hn192 : ¬ (L.length : Int) > 192 := by omega
      have hn192' : decide ((L.length : Int) > 192) = false := decide_eq_false hn192
      have hn0' : decide (n < 0) = false := decide_eq_false (by omega)
      refine start_ (n := 21) (S := fun w' => BytesAt w' (some ⟨qb, 0, none⟩) (headB n (L.length : Int)) ∧ w'.cell? ⟨jn, 2, none⟩ = some (.int .i64 n)) (ds := []) #[false, false, false, false, false, false, false, false, false, false, false, false, false, false, false, false, false, false, false, false, false] (by kernel_rfl) rfl rfl ⟨hY, c2⟩ (fun hHeld => ?_)
      refine pure_ (i := 0) (N := some 56) (v := ?_) (a' := ?_) #[true, false, false, false, false, false, false, false, false, false, false, false, false, false, false, false, false, false, false, false, false] rfl rfl (by kernel_rfl) (fun _ _ _ h => h) (Or.inl ⟨by rfl, ?_⟩) ?_ ?_
      rotate_left
      · intro w'
        go_simp
        with_reducible rfl
      rotate_left
      · simp only [Act.put, List.setIfInBounds_toArray, List.set_cons_zero, List.set_cons_succ, i64_w, i32_w]
        rfl
      refine pure_ (i := 2) (N := some 58) (v := ?_) (a' := ?_) #[true, false, true, false, false, false, false, false, false, false, false, false, false, false, false, false, false, false, false, false, false] rfl rfl (by kernel_rfl) (fun _ _ _ h => h) (Or.inl ⟨by rfl, ?_⟩) ?_ ?_
      rotate_left
      · intro w'
        go_simp
        with_reducible rfl
      rotate_left
      · simp only [Act.put, List.setIfInBounds_toArray, List.set_cons_zero, List.set_cons_succ, i64_w, i32_w]
        rfl
      refine pure_ (i := 3) (N := some 59) (v := ?_) (a' := ?_) #[true, false, true, true, false, false, false, false, false, false, false, false, false, false, false, false, false, false, false, false, false] rfl rfl (by kernel_rfl) (fun _ _ _ h => h) (Or.inl ⟨by rfl, ?_⟩) ?_ ?_
      rotate_left
      · intro w'
        go_simp
        with_reducible rfl
      rotate_left
      · simp only [Act.put, List.setIfInBounds_toArray, List.set_cons_zero, List.set_cons_succ, i64_w, i32_w]
        rfl
      refine pure_ (i := 4) (N := some 60) (v := ?_) (a' := ?_) #[true, false, true, true, true, false, false, false, false, false, false, false, false, false, false, false, false, false, false, false, false] rfl rfl (by kernel_rfl) (fun _ _ _ h => h) (Or.inl ⟨by rfl, ?_⟩) ?_ ?_
      rotate_left
      · intro w'
        go_simp
        with_reducible rfl
      rotate_left
      · simp only [Act.put, List.setIfInBounds_toArray, List.set_cons_zero, List.set_cons_succ, i64_w, i32_w]
        rfl
      refine pure_ (i := 6) (N := some 62) (v := ?_) (a' := ?_) #[true, false, true, true, true, false, true, false, false, false, false, false, false, false, false, false, false, false, false, false, false] rfl rfl (by kernel_rfl) (fun _ _ _ h => h) (Or.inl ⟨by rfl, ?_⟩) ?_ ?_
      rotate_left
      · intro w'
        go_simp
        with_reducible rfl
      rotate_left
      · simp only [Act.put, List.setIfInBounds_toArray, List.set_cons_zero, List.set_cons_succ, i64_w, i32_w]
        rfl
      refine take_ (i := 1) (N := some 57) (v := ?_) (a' := ?_) #[true, true, true, true, true, false, true, false, false, false, false, false, false, false, false, false, false, false, false, false, false] rfl rfl (by kernel_rfl) (fun _ _ _ h => h) (Or.inl ⟨by rfl, ?_⟩) hHeld ?_ ?_
      rotate_left
      · rintro w' ⟨s0, s1⟩
        refine exec_convert (x := .tmp 56) (v := .slice (some ⟨qb, 0, none⟩) 64 64) (r := .string (strB (headB n (L.length : Int)))) ?_ ?_ (hcv w' s0)
        · rfl
        · rfl
      rotate_left
      · simp only [Act.put, List.setIfInBounds_toArray, List.set_cons_zero, List.set_cons_succ, i64_w, i32_w]
        rfl
      refine take_ (i := 5) (N := some 61) (v := ?_) (a' := ?_) #[true, true, true, true, true, true, true, false, false, false, false, false, false, false, false, false, false, false, false, false, false] rfl rfl (by kernel_rfl) (fun _ _ _ h => h) (Or.inl ⟨by rfl, ?_⟩) hHeld ?_ ?_
      rotate_left
      · rintro w' ⟨s0, s1⟩
        go_simp
        with_reducible rfl
      rotate_left
      · simp only [Act.put, List.setIfInBounds_toArray, List.set_cons_zero, List.set_cons_succ, i64_w, i32_w]
        rfl
      refine one_ (i := 7) (N := some 63) #[true, true, true, true, true, true, true, true, false, false, false, false, false, false, false, false, false, false, false, false, false] rfl rfl (by kernel_rfl) (by decide) (fun K hK => ?_)
      refine goes_ Try.func28 (by kernel_rfl) rfl #[.int .i64 n, .int .i64 (L.length : Int)] (by rfl) rfl rfl (by simp only [List.map_toArray, List.map_cons, List.map_nil]; rfl) ?_
      refine (head_any n (L.length : Int) wr.drew).mono ?_
      rintro e w2 ⟨q, kq, rfl, hq, hr, hb⟩
      refine ⟨_, rfl, ?_⟩
      have hb' : Below wr.heap.size wr w2 := ⟨hb.os, hb.tape, hb.output, hb.size, hb.block⟩
      have R2 := Aside0.mk hr
      have J2 := Aside0.mk (HJ.out.below hb')
      have B2 := Aside0.mk (below_step HB.out hb')
      have Y2 := Aside0.mk (hY.below hb')
      clear hq hr hb hb'
      refine hK.out _ _ ⟨Y2.out, J2.out.c2⟩ (fun hHeld => ?_)
      clear hK K
      refine norm_ (a' := ?_) ?_ ?_
      rotate_left
      · show Act.put _ (some 63) _ = _
        simp only [Act.put, List.setIfInBounds_toArray, List.set_cons_zero, List.set_cons_succ, i64_w, i32_w]
        rfl
      refine one_ (i := 8) (N := some 64) #[true, true, true, true, true, true, true, true, true, false, false, false, false, false, false, false, false, false, false, false, false] rfl rfl (by kernel_rfl) (by decide) (fun K hK => ?_)
      refine value_ (w1 := w2) (v := .string (strB (headB n (L.length : Int)))) (by rfl) rfl (exec_convert (x := .tmp 63) (v := .slice (some ⟨q, 0, none⟩) 64 kq) (by rfl) (by rfl) (by have := conv_bytes R2.out.bytes kq; rw [headB_len] at this; exact this)) ?_
      refine hK.out _ _ ⟨Y2.out, J2.out.c2⟩ (fun hHeld => ?_)
      clear hK K
      refine norm_ (a' := ?_) ?_ ?_
      rotate_left
      · show Act.put _ (some 64) _ = _
        simp only [Act.put, List.setIfInBounds_toArray, List.set_cons_zero, List.set_cons_succ, i64_w, i32_w]
        rfl
      refine pure_ (i := 9) (N := some 65) (v := ?_) (a' := ?_) #[true, true, true, true, true, true, true, true, true, true, false, false, false, false, false, false, false, false, false, false, false] rfl rfl (by kernel_rfl) (fun _ _ _ h => h) (Or.inl ⟨by rfl, ?_⟩) ?_ ?_
      rotate_left
      · intro w'
        go_simp
        with_reducible rfl
      rotate_left
      · simp only [Act.put, List.setIfInBounds_toArray, List.set_cons_zero, List.set_cons_succ, i64_w, i32_w]
        rfl
      refine pure_ (i := 10) (N := some 66) (v := ?_) (a' := ?_) #[true, true, true, true, true, true, true, true, true, true, true, false, false, false, false, false, false, false, false, false, false] rfl rfl (by kernel_rfl) (fun _ _ _ h => h) (Or.inl ⟨by rfl, ?_⟩) ?_ ?_
      rotate_left
      · intro w'
        go_simp
        with_reducible rfl
      rotate_left
      · simp only [Act.put, List.setIfInBounds_toArray, List.set_cons_zero, List.set_cons_succ, i64_w, i32_w]
        rfl
      refine pure_ (i := 11) (N := some 67) (v := ?_) (a' := ?_) #[true, true, true, true, true, true, true, true, true, true, true, true, false, false, false, false, false, false, false, false, false] rfl rfl (by kernel_rfl) (fun _ _ _ h => h) (Or.inl ⟨by rfl, ?_⟩) ?_ ?_
      rotate_left
      · intro w'
        go_simp
        with_reducible rfl
      rotate_left
      · simp only [Act.put, List.setIfInBounds_toArray, List.set_cons_zero, List.set_cons_succ, i64_w, i32_w]
        rfl
      refine pure_ (i := 12) (N := some 68) (v := ?_) (a' := ?_) #[true, true, true, true, true, true, true, true, true, true, true, true, true, false, false, false, false, false, false, false, false] rfl rfl (by kernel_rfl) (fun _ _ _ h => h) (Or.inl ⟨by rfl, ?_⟩) ?_ ?_
      rotate_left
      · intro w'
        go_simp
        with_reducible rfl
      rotate_left
      · simp only [Act.put, List.setIfInBounds_toArray, List.set_cons_zero, List.set_cons_succ, i64_w, i32_w]
        rfl
      refine pure_ (i := 13) (N := some 69) (v := ?_) (a' := ?_) #[true, true, true, true, true, true, true, true, true, true, true, true, true, true, false, false, false, false, false, false, false] rfl rfl (by kernel_rfl) (fun _ _ _ h => h) (Or.inl ⟨by rfl, ?_⟩) ?_ ?_
      rotate_left
      · intro w'
        go_simp
        with_reducible rfl
      rotate_left
      · simp only [Act.put, List.setIfInBounds_toArray, List.set_cons_zero, List.set_cons_succ, i64_w, i32_w]
        rfl
      refine pure_ (i := 14) (N := some 70) (v := ?_) (a' := ?_) #[true, true, true, true, true, true, true, true, true, true, true, true, true, true, true, false, false, false, false, false, false] rfl rfl (by kernel_rfl) (fun _ _ _ h => h) (Or.inl ⟨by rfl, ?_⟩) ?_ ?_
      rotate_left
      · intro w'
        go_simp
        with_reducible rfl
      rotate_left
      · simp only [Act.put, List.setIfInBounds_toArray, List.set_cons_zero, List.set_cons_succ, i64_w, i32_w]
        rfl
      refine pure_ (i := 15) (N := some 71) (v := ?_) (a' := ?_) #[true, true, true, true, true, true, true, true, true, true, true, true, true, true, true, true, false, false, false, false, false] rfl rfl (by kernel_rfl) (fun _ _ _ h => h) (Or.inl ⟨by rfl, ?_⟩) ?_ ?_
      rotate_left
      · intro w'
        go_simp
        with_reducible rfl
      rotate_left
      · simp only [Act.put, List.setIfInBounds_toArray, List.set_cons_zero, List.set_cons_succ, i64_w, i32_w]
        rfl
      refine pure_ (i := 16) (N := some 72) (v := ?_) (a' := ?_) #[true, true, true, true, true, true, true, true, true, true, true, true, true, true, true, true, true, false, false, false, false] rfl rfl (by kernel_rfl) (fun _ _ _ h => h) (Or.inl ⟨by rfl, ?_⟩) ?_ ?_
      rotate_left
      · intro w'
        go_simp
        with_reducible rfl
      rotate_left
      · simp only [Act.put, List.setIfInBounds_toArray, List.set_cons_zero, List.set_cons_succ, i64_w, i32_w]
        rfl
      refine pure_ (i := 17) (N := some 73) (v := ?_) (a' := ?_) #[true, true, true, true, true, true, true, true, true, true, true, true, true, true, true, true, true, true, false, false, false] rfl rfl (by kernel_rfl) (fun _ _ _ h => h) (Or.inl ⟨by rfl, ?_⟩) ?_ ?_
      rotate_left
      · intro w'
        go_simp
        with_reducible rfl
      rotate_left
      · simp only [Act.put, List.setIfInBounds_toArray, List.set_cons_zero, List.set_cons_succ, i64_w, i32_w]
        rfl
      refine take_ (i := 18) (N := some 74) (v := ?_) (a' := ?_) #[true, true, true, true, true, true, true, true, true, true, true, true, true, true, true, true, true, true, true, false, false] rfl rfl (by kernel_rfl) (fun _ _ _ h => h) (Or.inl ⟨by rfl, ?_⟩) hHeld ?_ ?_
      rotate_left
      · rintro w' ⟨s0, s1⟩
        go_simp
        with_reducible rfl
      rotate_left
      · simp only [Act.put, List.setIfInBounds_toArray, List.set_cons_zero, List.set_cons_succ, i64_w, i32_w]
        rfl
      refine pure_ (i := 19) (N := some 75) (v := ?_) (a' := ?_) #[true, true, true, true, true, true, true, true, true, true, true, true, true, true, true, true, true, true, true, true, false] rfl rfl (by kernel_rfl) (fun _ _ _ h => h) (Or.inl ⟨by rfl, ?_⟩) ?_ ?_
      rotate_left
      · intro w'
        go_simp
        with_reducible rfl
      rotate_left
      · simp only [Act.put, List.setIfInBounds_toArray, List.set_cons_zero, List.set_cons_succ, i64_w, i32_w]
        rfl
      refine pure_ (i := 20) (N := some 76) (v := ?_) (a' := ?_) #[true, true, true, true, true, true, true, true, true, true, true, true, true, true, true, true, true, true, true, true, true] rfl rfl (by kernel_rfl) (fun _ _ _ h => h) (Or.inl ⟨by rfl, ?_⟩) ?_ ?_
      rotate_left
      · intro w'
        go_simp
        with_reducible rfl
      rotate_left
      · simp only [Act.put, List.setIfInBounds_toArray, List.set_cons_zero, List.set_cons_succ, i64_w, i32_w]
        rfl
      refine done_ (by kernel_rfl) ?_
      have F2 := Aside0.mk (Fr.of_below (S := DB b m) B2.out)
      have H2 := Aside0.mk (H.out.below B2.out)
      have HJN2 := Aside0.mk (show w1.heap.size ≤ jn from by rw [HJN.out]; exact Nat.le_refl _)
      clear hcv hY c2 k0 hn192 hn192' hn0' hHeld HJ HQ HB H HJN
      by_cases hz : L.length = 0
      · have HC := Aside0.mk (show openR s at_ n L = (s, 0) from by unfold openR; rw [if_pos hz])
        have hz' : ¬ (L.length : Int) > 0 := by omega
        clear hz
        go_wp2
        refine bodyPost_ret (v := .tuple #[.pointer (some ⟨jn, 0, none⟩), .int .i64 0]) (by simp [results, Try.results9, go_sem]) rfl ?_
        unfold OpenPost
        rw [HC.out]
        exact ⟨H2.out, F2.out, .inl ⟨rfl, jn, rfl, HJN2.out, J2.out⟩⟩
      · have HC := Aside0.mk (show openR s at_ n L = wrs s (L ++ [(at_, headB n 0)]) from by unfold openR; rw [if_neg hz])
        have hz' : (L.length : Int) > 0 := by omega
        clear hz
        go_wp2_with fail
        refine (finish_any jn b m s at_ n L w2 J2.out H2.out HON.out h0 HLN.out.1 HLN.out.2 hL HT.out).mono ?_
        rintro e w5 ⟨rfl, hd, hj, hf⟩
        have HD5 := Aside0.mk hd
        have HJ5 := Aside0.mk hj
        have F5 := Aside0.mk (F2.out.trans hf)
        rw [← HC.out] at HD5 ⊢
        obtain ⟨r, hr⟩ : ∃ r, r = openR s at_ n L := ⟨_, rfl⟩
        rw [← hr] at HD5 ⊢
        have HR := Aside0.mk hr
        clear hd hj hf hr
        by_cases hz2 : r.2 = 0
        · rw [hz2]
          have HZ := Aside0.mk hz2
          clear hz2
          go_wp2
          refine bodyPost_ret (v := .tuple #[.pointer (some ⟨jn, 0, none⟩), .int .i64 0]) (by simp [results, Try.results9, go_sem]) rfl ?_
          unfold OpenPost
          rw [← HR.out]
          exact ⟨HD5.out, F5.out, .inl ⟨HZ.out, jn, rfl, HJN2.out, HJ5.out⟩⟩
        · have hz3 : (r.2 != 0) = true := by simpa using hz2
          have HZ := Aside0.mk hz2
          clear hz2
          go_wp2
          refine bodyPost_ret (v := .tuple #[.pointer none, .int .i64 r.2]) (by simp [results, Try.results9, go_sem]) rfl ?_
          unfold OpenPost
          rw [← HR.out]
          exact ⟨HD5.out, F5.out, .inr ⟨HZ.out, rfl⟩⟩
end Go.Proofs.Ytmfndobdkihbnaa.Dk
