/-
  Contracts of package graph, second part: the closure of Order.
-/
import Derived.Test.YtcgcojdkkkfkdaaGa
namespace Go.Proofs.Ytcgcojdkkkfkdaa
open Go.RowKit Go.Proofs.YtcgcojdkkkfkdaaW.PrintWords Go.Proofs.YtcgcojdkkkfkdaaW.PrintLast Go.Proofs.YtcgcojdkkkfkdaaW.PrintMore
set_option linter.unusedVariables false
set_option linter.unusedSimpArgs false

/-- The marked numbers: an array of 32 bools at a block. -/
def Arr (w : World) (b : Nat) (d : List Bool) : Prop := d.length = 32 ∧ w.heap[b]? = some (.cells (bools d).toArray 71 (0, 0))
theorem Arr.cell {w : World} {b : Nat} {d : List Bool} (h : Arr w b d) (i : Int) (h0 : 0 ≤ i) (h1 : i < 32) : w.cell? ⟨b, i.toNat, none⟩ = some (.bool (Gr.dn d i)) := by
  simp only [World.cell?, h.2]
  have : i.toNat < d.length := by have := h.1; omega
  simp [bools, Gr.dn, this]
theorem Arr.frozen {w : World} {b : Nat} {d : List Bool} (h : Arr w b d) (i : Nat) : w.frozen? ⟨b, i, none⟩ = false := by
  simp [World.frozen?, h.2]

theorem rdE_mem {l : List Gr.E} {k : Nat} (h : k < l.length) : rdE l k ∈ l := by
  unfold rdE
  rw [List.getD_eq_getElem?_getD, Int.toNat_natCast, List.getElem?_eq_getElem h]
  simp
theorem drop_E0 (l : List Gr.E) (p : Nat) (h : p < l.length) : l.drop p = rdE l p :: l.drop (p + 1) := by
  unfold rdE
  rw [List.drop_eq_getElem_cons h, Int.toNat_natCast, List.getD_eq_getElem?_getD, List.getElem?_eq_getElem h]; rfl
theorem waits_yes {l : List Gr.E} {d : List Bool} {i : Int} {k : Nat} (h : k < l.length) (h1 : (rdE l k).2.1 = i) (h2 : (!Gr.dn d (rdE l k).1) = true) : Gr.waits (l.drop k) d i = (rdE l k).1 := by
  rw [drop_E0 l k h, Gr.waits, if_pos ⟨h1, by simpa using h2⟩]
theorem waits_no1 {l : List Gr.E} {d : List Bool} {i : Int} {k : Nat} (h : k < l.length) (h2 : (!Gr.dn d (rdE l k).1) = false) : Gr.waits (l.drop k) d i = Gr.waits (l.drop (k + 1)) d i := by
  rw [drop_E0 l k h, Gr.waits, if_neg (by simp at h2; simp [h2])]
theorem waits_no2 {l : List Gr.E} {d : List Bool} {i : Int} {k : Nat} (h : k < l.length) (h2 : ¬ (rdE l k).2.1 = i) : Gr.waits (l.drop k) d i = Gr.waits (l.drop (k + 1)) d i := by
  rw [drop_E0 l k h, Gr.waits, if_neg (by simp [h2])]

set_option maxHeartbeats 1600000 in
theorem waits_any (i : Int) (pl : Addr) (bd : Nat) (A : Option Addr) (c : Nat) (l : List Gr.E) (d : List Bool) (w : World) (hl : Kd.C kE w A l.length l) (hpl : w.cell? pl = some (.slice A l.length c))
    (hd : Arr w bd d) (hr : ∀ x ∈ l, 0 ≤ x.1 ∧ x.1 < 32) :
    Calls Try.prog 38 #[.int .i64 i, .pointer (some pl), .pointer (some ⟨bd, 0, none⟩)] w fun e w' => e = .returned (.int .i64 (Gr.waits l d i)) ∧ Below w.heap.size w w' := by
  have hm := hl.2.1
  have HL := Aside0.mk hl
  have HD := Aside0.mk hd
  have HR := Aside0.mk hr
  clear hl hd hr
  go_enter Try.func38, Try.ntmps38
  go_wp2
  go_loopw [9] (fun v wr => ∃ k : Nat, k ≤ l.length ∧ v = .int .i64 k ∧ Aside0 (Gr.waits l d i = Gr.waits (l.drop k) d i) ∧ Below w.heap.size w wr) (fun v _ => l.length - (intOf v).toNat)
  case atStart => exact ⟨0, Nat.zero_le _, rfl, ⟨by simp⟩, Below.refl _ _⟩
  case round =>
    obtain ⟨k, hk, rfl, hno, hbw⟩ := hrel
    by_cases hlt : k < l.length
    · obtain ⟨ad, rfl, h0, h1, h2⟩ := at_En (HL.out.imp_ hbw (fun _ _ h => kE.K_below hbw h)) k (by omega)
      obtain ⟨r0, r1⟩ := HR.out _ (rdE_mem hlt)
      have hdx := fun o => pw_cell_below ((Below.refl wr.heap.size wr).alloc (Nat.le_refl _) o) (pw_cell_below hbw (HD.out.cell _ r0 r1))
      go_wp2
      · have t1 : (rdE l k).2.1 = i := by assumption
        have t2 : (!Gr.dn d (rdE l k).1) = true := by assumption
        go_ret
        refine ⟨?_, hbw.alloc hbw.size _⟩
        rw [hno.out, waits_yes hlt t1 t2]; rfl
      · have t2 : (!Gr.dn d (rdE l k).1) = false := by assumption
        go_roundw
        case rel => exact ⟨k + 1, by omega, by go_num, ⟨by rw [hno.out, waits_no1 hlt t2]⟩, hbw.alloc hbw.size _⟩
        case measure => simp [intOf]; omega
      · have t2 : ¬ (rdE l k).2.1 = i := by assumption
        go_roundw
        case rel => exact ⟨k + 1, by omega, by go_num, ⟨by rw [hno.out, waits_no2 hlt t2]⟩, hbw.alloc hbw.size _⟩
        case measure => simp [intOf]; omega
    · go_wp2
      go_ret
      refine ⟨?_, hbw⟩
      rw [hno.out, List.drop_of_length_le (by omega)]; rfl
end Go.Proofs.Ytcgcojdkkkfkdaa
