/-
  The head of the statements of graph: shown answers true.
-/
import Derived.Test.YtcgcojdkkkfkdaaGf
namespace Go.Proofs.Ytcgcojdkkkfkdaa
open Go.RowKit Go.Proofs.YtcgcojdkkkfkdaaW.PrintWords Go.Proofs.YtcgcojdkkkfkdaaW.PrintLast Go.Proofs.YtcgcojdkkkfkdaaW.PrintMore
open PGraphOrders
set_option linter.unusedVariables false
set_option linter.unusedSimpArgs false

def cellsE : List Gr.E → List Value
  | [] => []
  | x :: r => .int .i64 x.1 :: .int .i64 x.2.1 :: .bool x.2.2 :: cellsE r
theorem cellsE_at (l : List Gr.E) : ∀ (j : Nat) (x : Gr.E), l[j]? = some x → ∀ (i : Nat) (u : Value), [Value.int .i64 x.1, .int .i64 x.2.1, .bool x.2.2][i]? = some u → (cellsE l)[j * 3 + i]? = some u := by
  induction l with
  | nil => intro j x h; simp at h
  | cons y r ih =>
    intro j x h i u hu
    cases j with
    | zero =>
      simp at h; subst h
      match i, hu with
      | 0, hu => simpa [cellsE] using hu
      | 1, hu => simpa [cellsE] using hu
      | 2, hu => simpa [cellsE] using hu
      | i + 3, hu => simp at hu
    | succ j =>
      have h2 := ih j x (by simpa using h) i u hu
      have e : (j + 1) * 3 + i = (j * 3 + i) + 3 := by omega
      rw [e]
      simpa [cellsE] using h2
theorem C_lit {w : World} {b : Nat} {l : List Gr.E} {fr : Nat × Nat} (h : w.heap[b]? = some (.cells (cellsE l).toArray 52 fr)) (hl : l.length ≤ 9223372036854775807) : Kd.C kE w (some ⟨b, 0, none⟩) l.length l := by
  refine ⟨rfl, hl, fun _ => ⟨_, rfl, fun j p hp => ⟨_, rfl, kE_mk w p, fun i u hu => ?_⟩⟩⟩
  have h2 := cellsE_at l j p hp i u hu
  rw [add_plain]
  show w.cell? ⟨b, j * 3 + i, none⟩ = some u
  simp only [World.cell?, h]
  simpa using h2
theorem Rd_lit {w : World} {b : Nat} {l : List Int} {fr : Nat × Nat} (h : w.heap[b]? = some (.cells (nums .i64 l).toArray 3 fr)) (hl : l.length ≤ 9223372036854775807) : Kd.C (Kd.int .i64) w (some ⟨b, 0, none⟩) l.length l := by
  refine Kd.C_of_reads (d := 0) ⟨rfl, hl, fun _ => ⟨_, rfl, fun j hj => ?_⟩⟩
  rw [add_plain]
  simp only [World.cell?, h]
  simp [nums, hj]

set_option maxHeartbeats 800000 in
set_option maxRecDepth 100000 in
theorem shown_any (w : World) : Calls Try.prog 24 #[] w fun e w' => e = .returned (.bool true) ∧ Below w.heap.size w w' := by
  have q1 : ∀ W : World, Kd.C kE (W.alloc (.cells #[.int .i64 2, .int .i64 0, .bool false] 52)) (some ⟨W.heap.size, 0, none⟩) 1 [(2, 0, false)] := fun W => C_lit (l := [(2, 0, false)]) (heap_alloc_new W _) (by simp)
  have q2 : ∀ W : World, Kd.C kE (W.alloc (.cells #[.int .i64 0, .int .i64 1, .bool false, .int .i64 1, .int .i64 0, .bool false] 52)) (some ⟨W.heap.size, 0, none⟩) 2 [(0, 1, false), (1, 0, false)] := fun W => C_lit (l := [(0, 1, false), (1, 0, false)]) (heap_alloc_new W _) (by simp)
  have q4 : ∀ W : World, Kd.C kE (W.alloc (.cells #[.int .i64 0, .int .i64 1, .bool false, .int .i64 1, .int .i64 3, .bool false] 52)) (some ⟨W.heap.size, 0, none⟩) 2 [(0, 1, false), (1, 3, false)] := fun W => C_lit (l := [(0, 1, false), (1, 3, false)]) (heap_alloc_new W _) (by simp)
  have q5 : ∀ W : World, Kd.C (Kd.int .i64) (W.alloc (.cells #[.int .i64 1, .int .i64 2, .int .i64 0] 3)) (some ⟨W.heap.size, 0, none⟩) 3 [1, 2, 0] := fun W => Rd_lit (l := [1, 2, 0]) (heap_alloc_new W _) (by simp)
  have q6 : ∀ W : World, Kd.C (Kd.int .i64) (W.alloc (.cells #[.int .i64 1, .int .i64 3] 3)) (some ⟨W.heap.size, 0, none⟩) 2 [1, 3] := fun W => Rd_lit (l := [1, 3]) (heap_alloc_new W _) (by simp)
  have Q1 := Aside0.mk q1
  have Q2 := Aside0.mk q2
  have Q4 := Aside0.mk q4
  have Q5 := Aside0.mk q5
  have Q6 := Aside0.mk q6
  clear q1 q2 q4 q5 q6
  have al : ∀ (W : World) (o : Obj), Below W.heap.size W (W.alloc o) := fun W o => (Below.refl _ _).alloc (Nat.le_refl _) o
  have AL := Aside0.mk al
  clear al
  have I1 : Aside0 (majordomolaw08_ints.f 4 [1, 2, 0] [1, 2, 0] = some true) := ⟨by simpa using ints_f [1, 2, 0] [1, 2, 0] (by simp)⟩
  have I2 : Aside0 (majordomolaw08_ints.f 3 [1, 3] [1, 3] = some true) := ⟨by simpa using ints_f [1, 3] [1, 3] (by simp)⟩
  go_enter Try.func24, Try.ntmps24
  go_wp2_with fail
  refine (order_any 3 _ 1 [(2, 0, false)] _ (Q1.out _)).mono ?_
  rw [show Gr.order 3 [(2, 0, false)] = ([1, 2, 0], [], 0) by decide]
  rintro e w1 ⟨v1, v2, rfl, ⟨A1, c1, rfl, hl1, hc1⟩, hr2, hb1⟩
  have B1 := Aside0.mk (below_then (AL.out w (.cells #[.int .i64 2, .int .i64 0, .bool false] 52)) (by simp) hb1)
  have C1 := Aside0.mk hc1
  have L1 := Aside0.mk hl1
  clear hl1 hc1 hr2 hb1
  go_wp2_with fail
  refine (order_any 2 _ 2 [(0, 1, false), (1, 0, false)] _ (Q2.out _)).mono ?_
  rw [show Gr.order 2 [(0, 1, false), (1, 0, false)] = ([], [0, 1], 80) by decide]
  rintro e w2 ⟨v3, v4, rfl, hr3, ⟨A4, c4, rfl, hl4, hc4⟩, hb2⟩
  have B2 := Aside0.mk (below_then (AL.out w1 (.cells #[.int .i64 0, .int .i64 1, .bool false, .int .i64 1, .int .i64 0, .bool false] 52)) (by simp) hb2)
  clear hr3 hl4 hc4 hb2
  go_wp2_with fail
  refine (order_any 33 _ 0 [] _ (Kd.C_nil kE _)).mono ?_
  rw [show Gr.order 33 [] = ([], [], 1) by decide]
  rintro e w3 ⟨v5, v6, rfl, hr5, hr6, hb3⟩
  have B3 := Aside0.mk hb3
  clear hr5 hr6 hb3
  go_wp2_with fail
  refine (behind_any 4 0 _ 2 [(0, 1, false), (1, 3, false)] _ (Q4.out _)).mono ?_
  rw [show Gr.behind 4 [(0, 1, false), (1, 3, false)] 0 = [1, 3] by decide]
  rintro e w4 ⟨v7, rfl, ⟨A7, c7, rfl, hl7, hc7⟩, hb4⟩
  have B4 := Aside0.mk (below_then (AL.out w3 (.cells #[.int .i64 0, .int .i64 1, .bool false, .int .i64 1, .int .i64 3, .bool false] 52)) (by simp) hb4)
  have C7 := Aside0.mk hc7
  have L7 := Aside0.mk hl7
  clear hl7 hc7 hb4
  have B14 := Aside0.mk (below_step (below_step B2.out B3.out) B4.out)
  go_wp2_with fail
  refine (majordomolaw08_ints.calls 4 _ _ [1, 2, 0] _ 3 [1, 2, 0] true _ (Kd.C_below C1.out (below_step B14.out (AL.out w4 _))) L1.out (Q5.out w4) (by simp) I1.out).mono ?_
  rintro e w5 ⟨rfl, ⟨n5, rfl⟩⟩
  go_wp2_with fail
  have q6 := Q6.out ((w4.alloc (.cells #[.int .i64 1, .int .i64 2, .int .i64 0] 3)).drewN n5)
  rw [show ((w4.alloc (.cells #[.int .i64 1, .int .i64 2, .int .i64 0] 3)).drewN n5).heap.size = w4.heap.size + 1 from by simp] at q6
  have c7' := Kd.C_below C7.out (below_step (pw_below_drewN (AL.out w4 (.cells #[.int .i64 1, .int .i64 2, .int .i64 0] 3)) n5) (AL.out _ (.cells #[.int .i64 1, .int .i64 3] 3)))
  have BZ := Aside0.mk (below_step (below_step B1.out B14.out) (below_step (pw_below_drewN (AL.out w4 (.cells #[.int .i64 1, .int .i64 2, .int .i64 0] 3)) n5) (AL.out _ (.cells #[.int .i64 1, .int .i64 3] 3))))
  refine (majordomolaw08_ints.calls 3 _ _ [1, 3] _ 2 [1, 3] true _ c7' L7.out q6 (by simp) I2.out).mono ?_
  clear c7' q6
  rintro e w6 ⟨rfl, ⟨n6, rfl⟩⟩
  go_wp2
  go_ret
  exact ⟨rfl, pw_below_drewN BZ.out n6⟩
end Go.Proofs.Ytcgcojdkkkfkdaa
