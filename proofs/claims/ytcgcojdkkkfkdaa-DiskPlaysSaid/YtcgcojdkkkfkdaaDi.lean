/-
  The two disks side by side: the walk of alike.
-/
import Derived.Test.YtcgcojdkkkfkdaaDh
namespace Go.Proofs.Ytcgcojdkkkfkdaa.Dk
open Go.RowKit Go.MapKept Go.Proofs.YtcgcojdkkkfkdaaW.PrintWords Go.Proofs.YtcgcojdkkkfkdaaW.PrintLast Go.Proofs.YtcgcojdkkkfkdaaW.PrintMore
set_option linter.unusedVariables false
set_option linter.unusedSimpArgs false

theorem DiskIs.below {W W' : World} {b m : Nat} {s : FS} (h : DiskIs W b m s) (hf : Below W.heap.size W W') : DiskIs W' b m s := h.fr (Fr.of_below (S := fun _ => False) hf) (fun h => h) (fun h => h)
set_option maxHeartbeats 4000000 in
set_option maxRecDepth 100000 in
theorem alike_any (xb xm yb ya yc base : Nat) (s : FS) (r : RS) (i : Int) (w : World) (h : DiskIs w xb xm s) (hr : RefIs w yb ya yc base r) (hL : Like s r) :
    Calls Try.prog 23 #[.pointer (some ⟨xb, 0, none⟩), .pointer (some ⟨yb, 0, none⟩), .int .i64 i] w fun e w' => e = .returned (.bool true) ∧ Below w.heap.size w w' := by
  have H := Aside0.mk h
  have HR := Aside0.mk hr
  have HL := Aside0.mk hL
  have hck := hL.check i
  have HCK := Aside0.mk hck
  clear h hr hL hck
  go_enter Try.func23, Try.ntmps23
  go_wp2_with fail
  refine (read_any xb xm s i w H.out).mono ?_
  have hread : ∀ (A1 A2 : Option Addr) (c1 c2 : Nat) (bs : List Int) (q : Int) (w2 : World), BytesAt w2 A1 bs → BytesAt w2 A2 bs → Below w.heap.size w w2 → True := fun _ _ _ _ _ _ _ _ _ _ => trivial
  rintro e w1 (⟨hc, rfl, hw1⟩ | ⟨hc, rfl, rfl⟩)
  · have B1 := Aside0.mk (show Below w.heap.size w w1 from by rw [hw1]; exact (Below.refl _ w).alloc (Nat.le_refl _) _)
    have hby : BytesAt w1 (some ⟨w.heap.size, 0, none⟩) (s.has i) := ⟨by rw [H.out.2.2]; decide, fun _ => ⟨_, rfl, fun j v hj => by
      rw [hw1, Addr.add_mid, Nat.zero_add]
      refine heap_cell (Go.heap_alloc_new w _) j _ ?_
      simp [blkc, hj]⟩⟩
    have BY := Aside0.mk hby
    have hc2 : r.check i = 0 := HCK.out.symm.trans hc
    have HC := Aside0.mk hc2
    clear hby hw1 hc hc2
    go_wp2_with fail
    refine (rread_any yb ya yc base r i w1 (HR.out.below B1.out)).mono ?_
    rintro e w2 (⟨_, v, rfl, hv, hb2⟩ | ⟨hc, _⟩)
    case inr => exact absurd HC.out hc
    obtain ⟨A2, c2, rfl, _, hC2⟩ := Kd.R_reads hv
    have hget : r.get i = s.has i := by
      have hoff : r.off = false := by
        have := HC.out; unfold RS.check at this
        cases ho : r.off
        · rfl
        · rw [ho] at this; simp at this
      have := HC.out
      unfold RS.check at this
      rw [hoff, if_neg (by simp)] at this
      by_cases hx : i < 0 ∨ (r.B.length : Int) ≤ i
      · rw [if_pos hx] at this; cases this
      · exact (HL.out.has i (by omega) (by omega)).symm
    rw [hget] at hC2 ⊢
    have B2 := Aside0.mk (below_step B1.out hb2)
    have Y1 := BY.out.below hb2
    have Y2 := BytesAt.of_C hC2
    have l64 := H.out.2.2 i
    rw [l64]
    have hq1 : ∀ nq, (convert 36 9 (.slice (some ⟨w.heap.size, 0, none⟩) 64 64)).run Try.prog (w2.drewN nq) = .ok (.string (strB (s.has i))) (w2.drewN nq) := fun nq => by
      have := conv_bytes (W := w2.drewN nq) (A := some ⟨w.heap.size, 0, none⟩) (bs := s.has i) (Y1.fr (Fr.drewN (S := fun _ => False) (Fr.refl _ _) nq) (fun _ _ h => h)) 64
      rwa [l64] at this
    have hq2 : ∀ nq, (convert 36 9 (.slice A2 64 c2)).run Try.prog (w2.drewN nq) = .ok (.string (strB (s.has i))) (w2.drewN nq) := fun nq => by
      have := conv_bytes (W := w2.drewN nq) (A := A2) (bs := s.has i) (Y2.fr (Fr.drewN (S := fun _ => False) (Fr.refl _ _) nq) (fun _ _ h => h)) c2
      rwa [l64] at this
    have hbeq : (strB (s.has i) == strB (s.has i)) = true := (bytes_beq _ _).2 rfl
    have HX := H.out.below B2.out
    have HY := HR.out.below B2.out
    have d0 := HY.c0
    have d1 := HY.c1
    have d4 := HY.c4
    have HON : Aside0 (∀ nq, Calls Try.prog 31 #[.pointer (some ⟨xb, 0, none⟩)] (w2.drewN nq) fun e w'' => e = .returned (.bool (!r.off)) ∧ ∃ m, w'' = w2.drewN m) := ⟨fun nq => (on_any xb xm s (w2.drewN nq) (HX.step rfl rfl)).mono fun e w'' ⟨h1, h2⟩ => ⟨by rw [h1, HL.out.off], nq, h2⟩⟩
    have HWR : Aside0 (∀ nq, Calls Try.prog 32 #[.pointer (some ⟨xb, 0, none⟩)] (w2.drewN nq) fun e w'' => e = .returned (.int .i64 r.n) ∧ ∃ m, w'' = w2.drewN m) := ⟨fun nq => (writes_any xb xm s (w2.drewN nq) (HX.step rfl rfl)).mono fun e w'' ⟨h1, h2⟩ => ⟨by rw [h1, HL.out.n], nq, h2⟩⟩
    have HLE : Aside0 (∀ nq, Calls Try.prog 36 #[.pointer (some ⟨xb, 0, none⟩)] (w2.drewN nq) fun e w'' => e = .returned (.int .i64 (r.B.length : Int)) ∧ ∃ m, w'' = w2.drewN m) := ⟨fun nq => (len_any xb xm s (w2.drewN nq) (HX.step rfl rfl)).mono fun e w'' ⟨h1, h2⟩ => ⟨by rw [h1, HL.out.len], nq, h2⟩⟩
    clear hv hb2 hC2 hget HX HY l64 Y1 Y2
    go_upto_region 3 with (fail)
    go_quiet (first
      | (go_at_call 31; exact HON.out _)
      | (go_at_call 32; exact HWR.out _)
      | (go_at_call 36; exact HLE.out _))
    go_wp2
    go_ret
    exact ⟨rfl, pw_below_drewN B2.out _⟩
  · have hc2 : r.check i ≠ 0 := by rw [← HCK.out]; exact hc
    have HC := Aside0.mk hc2
    rw [HCK.out]
    clear hc hc2
    go_wp2_with fail
    refine (rread_any yb ya yc base r i w1 HR.out).mono ?_
    rintro e w2 (⟨hc, _⟩ | ⟨_, rfl, rfl⟩)
    case inl => exact absurd hc HC.out
    have Y0 : BytesAt w2 none [] := ⟨by simp, fun h => by simp at h⟩
    have hq1 : ∀ nq, (convert 36 9 (.slice none 0 0)).run Try.prog (w2.drewN nq) = .ok (.string (strB [])) (w2.drewN nq) := fun nq => conv_bytes (W := w2.drewN nq) (A := none) (bs := []) (Y0.fr (Fr.drewN (S := fun _ => False) (Fr.refl _ _) nq) (fun _ _ h => h)) 0
    have hbeq : (strB [] == strB []) = true := (bytes_beq _ _).2 rfl
    have HX := H.out
    have HY := HR.out
    have d0 := HY.c0
    have d1 := HY.c1
    have d4 := HY.c4
    have HON : Aside0 (∀ nq, Calls Try.prog 31 #[.pointer (some ⟨xb, 0, none⟩)] (w2.drewN nq) fun e w'' => e = .returned (.bool (!r.off)) ∧ ∃ m, w'' = w2.drewN m) := ⟨fun nq => (on_any xb xm s (w2.drewN nq) (HX.step rfl rfl)).mono fun e w'' ⟨h1, h2⟩ => ⟨by rw [h1, HL.out.off], nq, h2⟩⟩
    have HWR : Aside0 (∀ nq, Calls Try.prog 32 #[.pointer (some ⟨xb, 0, none⟩)] (w2.drewN nq) fun e w'' => e = .returned (.int .i64 r.n) ∧ ∃ m, w'' = w2.drewN m) := ⟨fun nq => (writes_any xb xm s (w2.drewN nq) (HX.step rfl rfl)).mono fun e w'' ⟨h1, h2⟩ => ⟨by rw [h1, HL.out.n], nq, h2⟩⟩
    have HLE : Aside0 (∀ nq, Calls Try.prog 36 #[.pointer (some ⟨xb, 0, none⟩)] (w2.drewN nq) fun e w'' => e = .returned (.int .i64 (r.B.length : Int)) ∧ ∃ m, w'' = w2.drewN m) := ⟨fun nq => (len_any xb xm s (w2.drewN nq) (HX.step rfl rfl)).mono fun e w'' ⟨h1, h2⟩ => ⟨by rw [h1, HL.out.len], nq, h2⟩⟩
    clear HX HY Y0
    obtain ⟨q, hq⟩ : ∃ q, q = r.check i := ⟨_, rfl⟩
    rw [← hq]
    clear hq
    go_upto_region 3 with (fail)
    go_quiet (first
      | (go_at_call 31; exact HON.out _)
      | (go_at_call 32; exact HWR.out _)
      | (go_at_call 36; exact HLE.out _))
    go_wp2
    go_ret
    exact ⟨rfl, pw_below_drewN (Below.refl _ _) _⟩
end Go.Proofs.Ytcgcojdkkkfkdaa.Dk
