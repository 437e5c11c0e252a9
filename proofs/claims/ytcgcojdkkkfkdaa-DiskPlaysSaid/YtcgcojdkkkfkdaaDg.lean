/-
  The reference's disk: Clone.
-/
import Derived.Test.YtcgcojdkkkfkdaaDf
namespace Go.Proofs.Ytcgcojdkkkfkdaa.Dk
open Go.RowKit Go.MapKept Go.Proofs.YtcgcojdkkkfkdaaW.PrintWords Go.Proofs.YtcgcojdkkkfkdaaW.PrintLast Go.Proofs.YtcgcojdkkkfkdaaW.PrintMore
set_option linter.unusedVariables false
set_option linter.unusedSimpArgs false

set_option maxHeartbeats 4000000 in
set_option maxRecDepth 100000 in
theorem rclone_any (b a c base : Nat) (s : RS) (w : World) (h : RefIs w b a c base s) (hp : 0 < s.B.length) (hn : s.B.length ≤ 4096) :
    Calls Try.prog 13 #[.pointer (some ⟨b, 0, none⟩)] w fun e w' => ∃ b' a' c', e = .returned (.pointer (some ⟨b', 0, none⟩)) ∧ RefIs w' b' a' c' w.heap.size s ∧ w.heap.size ≤ a' ∧ Below w.heap.size w w' := by
  have H := Aside0.mk h
  have c0 := h.c0
  have c1 := h.c1
  have c2 := h.c2
  have c3 := h.c3
  have c4 := h.c4
  have hlt := h.lt
  clear h
  go_enter Try.func13, Try.ntmps13
  go_upto_region 2 with (fail)
  obtain ⟨w1, hw1⟩ : ∃ w1, w1 = w.alloc (Obj.cells (refCells (.slice (some ⟨a, 0, none⟩) s.B.length c) s) 65) := ⟨_, rfl⟩
  have hnew : w1.heap[w.heap.size]? = some (.cells (refCells (.slice (some ⟨a, 0, none⟩) s.B.length c) s) 65 (0, 0)) := by rw [hw1]; exact Go.heap_alloc_new _ _
  have hsz : w.heap.size < w1.heap.size := by rw [hw1]; simp
  have hbl : Below w.heap.size w w1 := by rw [hw1]; exact (Below.refl _ w).alloc (Nat.le_refl _) _
  change Code.wp _ _ _ _ (w.alloc (Obj.cells (refCells (.slice (some ⟨a, 0, none⟩) s.B.length c) s) 65))
  rw [← hw1]
  have HN := Aside0.mk hnew
  have BL := Aside0.mk hbl
  have d0 : w1.cell? ⟨b, 0, none⟩ = some (.slice (some ⟨a, 0, none⟩) s.B.length c) := (H.out.fr (Fr.of_below (S := fun _ => False) hbl) (fun h => h) (fun h => h) (fun _ _ h => h.elim)).c0
  obtain ⟨xs, h3, h4, h5⟩ := H.out.2.2
  have H5 := Aside0.mk h5
  have hC := (Kd.R_reads' h4).2.2
  have hC1 : Kd.C kS (w1.alloc (.cells #[] 36)) (some ⟨a, 0, none⟩) s.B.length xs := by
    have h6 := Kd.C_below hC (hbl.alloc hbl.size (.cells #[] 36))
    rwa [h3] at h6
  have CX := Aside0.mk hC1
  have E0 := Aside0.mk (emptyS w1 w.heap.size hbl.size)
  have BA := Aside0.mk (hbl.alloc hbl.size (.cells #[] 36))
  have hltb : b < w1.heap.size := by omega
  have H3 := Aside0.mk h3
  have hn' := Aside0.mk hn
  have hb1 : b ≠ w1.heap.size := by omega
  clear h3 h4 h5 hC hC1 hbl hnew c0 c1 c2 c3 c4 hw1
  go_wp2_with (first
    | ((with_reducible refine gate_builtin (b := .append) (xs := #[.tmp 7, .tmp 11]) rfl ?_); at_builtin; refine Kd.R_append_rows kS (Rr := kS.K (w1.alloc (.cells #[] 36))) (w0 := w) w.heap.size rfl (.tmp 7) (.tmp 11) 63 36 (.slice none 0 0) 24 rfl Try.underlying63 infoSl rfl (by decide) (by omega) (.slice (some ⟨w1.heap.size, 0, none⟩) 0 0) [] xs (some ⟨a, 0, none⟩) s.B.length c (fun _ => True) (fun _ => False) rfl rfl E0.out CX.out (fun x cs h => h) (fun _ hk => hk.elim) (fun _ _ => trivial) BA.out BA.out.size (by simp; omega) ?_; intro v12 w2 ho2 hb2 hg2 hat2; rw [List.nil_append] at ho2; obtain ⟨a', c', e', ha', _, cells', hc'⟩ := Kd.R_form ho2 (by rw [H3.out]; exact hp); subst e'; have R2 := Aside0.mk ho2; have B2 := Aside0.mk hb2; have HC' := Aside0.mk hc'; have hnew2 := (hg2.block w.heap.size (by simp; omega) (by simp [Value.ownBlock]; omega)).trans ((Below.heap_alloc w1 (.cells #[] 36) _ (by omega)).trans HN.out); have HN2 := Aside0.mk hnew2; have e0 : w2.cell? ⟨w.heap.size, 0, none⟩ = some (.slice (some ⟨a, 0, none⟩) s.B.length c) := heap_cell hnew2 0 _ rfl; have g0 : w2.frozen? ⟨w.heap.size, 0, none⟩ = false := heap_frozen hnew2 0 (.slice (some ⟨a, 0, none⟩) s.B.length c) rfl; clear ho2 hb2 hg2 hat2 hc' hnew2 E0 CX BA)
    | fail)
  go_ret
  have hne : a' ≠ w.heap.size := by
    intro e
    have h1 := HC'.out
    rw [e, HN2.out] at h1
    injection h1 with h1
    injection h1 with _ h2 _
    exact absurd h2 (by decide)
  have hfr : Fr (fun k => k = w.heap.size) w2 (w2.setCell ⟨w.heap.size, 0, none⟩ (.slice (some ⟨a', 0, none⟩) xs.length c')) := Fr.cell (S := fun k => k = w.heap.size) (Fr.refl _ _) w.heap.size 0 rfl _
  have hbl2 : Below w.heap.size w (w2.setCell ⟨w.heap.size, 0, none⟩ (.slice (some ⟨a', 0, none⟩) xs.length c')) := B2.out.setCell (Nat.le_refl _) _
  refine ⟨w.heap.size, a', c', rfl, ⟨?_, Nat.le_refl _, xs, H3.out, ?_, ?_⟩, ha', hbl2⟩
  · rw [heap_set1 HN2.out 0 _ (by simp [refCells]), H3.out]
    simp [refCells]
  · have h6 : Kd.R kS 36 w2 w.heap.size (fun k => k = a') (.slice (some ⟨a', 0, none⟩) xs.length c') xs := ⟨fun k hk => by simp [Value.ownBlock] at hk; exact hk.symm, (R2.out).2.imp_ (fun _ _ hM => hM)⟩
    rw [← H3.out]
    exact Kd.R_step h6 (fun k hk hlt => hfr.block k hlt (by rw [hk]; exact hne))
  · intro i x bs hx hbs
    exact (H5.out i x bs hx hbs).fr (Fr.of_below (S := fun _ => False) hbl2) (fun _ _ h => h.elim)
end Go.Proofs.Ytcgcojdkkkfkdaa.Dk
