/-
  JournalApart, walked.
-/
import Derived.Test.YtmfndobdkihbnaaKs
namespace Go.Proofs.Ytmfndobdkihbnaa.Dk
open Go.RowKit Go.MapKept Go.Proofs.YtmfndobdkihbnaaW.PrintWords Go.Proofs.YtmfndobdkihbnaaW.PrintLast Go.Proofs.YtmfndobdkihbnaaW.PrintMore
set_option linter.unusedVariables false
set_option linter.unusedSimpArgs false

theorem JIs.step' {W W' : World} {jb b : Nat} {at_ g : Int} (h : JIs W jb b at_ g) (hh : W'.heap[jb]? = W.heap[jb]?) : JIs W' jb b at_ g := hh.trans h
structure AS (b m q6 q7 : Nat) (s : FS) (k : Nat) (j0 j1 : Nat) (v0 v1 : Value) (W : World) : Prop where
  d : DiskIs W b m s
  on : s.off = false
  len : s.len = 438
  fuse : s.fuse = -1
  c6 : W.heap[q6]? = some (.cells #[.int .i64 0, .int .i64 199] 28 (0, 0))
  c7 : W.heap[q7]? = some (.cells #[v0, v1] 30 (0, 0))
  h0 : 1 ≤ k → s.has 0 = headB 0 0 ∧ JIs W j0 b 0 0 ∧ v0 = .pointer (some ⟨j0, 0, none⟩)
  h1 : 2 ≤ k → s.has 199 = headB 0 0 ∧ JIs W j1 b 199 0 ∧ v1 = .pointer (some ⟨j1, 0, none⟩)
def boolc (S : List Bool) : Array Value := (S.map Value.bool).toArray
structure AM (b m q6 q7 q12 q13 : Nat) (s : FS) (j0 j1 : Nat) (n0 n1 : Int) (H : List Int) (G : Int → List Int) (W : World) : Prop where
  d : DiskIs W b m s
  on : s.off = false
  len : s.len = 438
  fuse : s.fuse = -1
  c6 : W.heap[q6]? = some (.cells #[.int .i64 0, .int .i64 199] 28 (0, 0))
  c7 : W.heap[q7]? = some (.cells #[.pointer (some ⟨j0, 0, none⟩), .pointer (some ⟨j1, 0, none⟩)] 30 (0, 0))
  c12 : W.heap[q12]? = some (.cells #[.int .i64 n0, .int .i64 n1] 28 (0, 0))
  c13 : W.heap[q13]? = some (.cells (blkc H) 34 (0, 0))
  h0 : s.has 0 = headB n0 0
  h1 : s.has 199 = headB n1 0
  J0 : JIs W j0 b 0 n0
  J1 : JIs W j1 b 199 n1
  hl : H.length = 40
  data : ∀ u, u < 40 → 0 < H.getD u 0 → G (398 + (u : Int)) = fullB (H.getD u 0) 3
section
variable {b m q6 q7 q12 q13 : Nat} {s : FS} {j0 j1 : Nat} {n0 n1 : Int} {H : List Int} {G : Int → List Int} {W W' : World} {S : Nat → Prop}
/-- A block that is none of these. -/
def Far (b m q6 q7 q12 q13 j0 j1 : Nat) (S : Nat → Prop) : Prop := ¬ S b ∧ ¬ S m ∧ ¬ S q6 ∧ ¬ S q7 ∧ ¬ S q12 ∧ ¬ S q13 ∧ ¬ S j0 ∧ ¬ S j1
theorem AM.fr (h : AM b m q6 q7 q12 q13 s j0 j1 n0 n1 H G W) (hf : Fr S W W') (hS : Far b m q6 q7 q12 q13 j0 j1 S) : AM b m q6 q7 q12 q13 s j0 j1 n0 n1 H G W' :=
  ⟨h.d.fr hf hS.1 hS.2.1, h.on, h.len, h.fuse, (hf.block q6 (blk_lt h.c6) hS.2.2.1).trans h.c6, (hf.block q7 (blk_lt h.c7) hS.2.2.2.1).trans h.c7, (hf.block q12 (blk_lt h.c12) hS.2.2.2.2.1).trans h.c12, (hf.block q13 (blk_lt h.c13) hS.2.2.2.2.2.1).trans h.c13, h.h0, h.h1, (hf.block j0 (blk_lt h.J0) hS.2.2.2.2.2.2.1).trans h.J0, (hf.block j1 (blk_lt h.J1) hS.2.2.2.2.2.2.2).trans h.J1, h.hl, h.data⟩
theorem AM.below (h : AM b m q6 q7 q12 q13 s j0 j1 n0 n1 H G W) (hb : Below W.heap.size W W') : AM b m q6 q7 q12 q13 s j0 j1 n0 n1 H G W' := h.fr (S := fun _ => False) (Fr.of_below hb) ⟨id, id, id, id, id, id, id, id⟩
/-- All of its blocks lie below. -/
theorem AM.lt (h : AM b m q6 q7 q12 q13 s j0 j1 n0 n1 H G W) : b < W.heap.size ∧ m < W.heap.size ∧ q6 < W.heap.size ∧ q7 < W.heap.size ∧ q12 < W.heap.size ∧ q13 < W.heap.size ∧ j0 < W.heap.size ∧ j1 < W.heap.size :=
  ⟨h.d.lt, h.d.2.1.lt, blk_lt h.c6, blk_lt h.c7, blk_lt h.c12, blk_lt h.c13, blk_lt h.J0, blk_lt h.J1⟩
theorem AM.ge (h : AM b m q6 q7 q12 q13 s j0 j1 n0 n1 H G W) {N : Nat} (hN : W.heap.size ≤ N) : Far b m q6 q7 q12 q13 j0 j1 (fun k => N ≤ k) := by
  obtain ⟨a1, a2, a3, a4, a5, a6, a7, a8⟩ := h.lt
  exact ⟨by show ¬ N ≤ b; omega, by show ¬ N ≤ m; omega, by show ¬ N ≤ q6; omega, by show ¬ N ≤ q7; omega, by show ¬ N ≤ q12; omega, by show ¬ N ≤ q13; omega, by show ¬ N ≤ j0; omega, by show ¬ N ≤ j1; omega⟩
theorem DiskIs.ne_q {t : TypeId} {c : Array Value} {q : Nat} (h : DiskIs W b m s) (hq : W.heap[q]? = some (.cells c t (0, 0))) (ht : t ≠ 63) : b ≠ q ∧ m ≠ q := by
  obtain ⟨es, kk, hm⟩ := h.map
  exact ⟨fun e => ne_types hq h.1 ht e.symm, fun e => ne_cells_map hq hm e.symm⟩
theorem blkc_set (H : List Int) (u : Nat) (v : Int) : (blkc H).setIfInBounds u (.int .u8 v) = blkc (H.set u v) := by
  apply Array.ext'
  simp [blkc, List.map_set]
theorem boolc_set (S : List Bool) (u : Nat) (v : Bool) : (boolc S).setIfInBounds u (.bool v) = boolc (S.set u v) := by
  apply Array.ext'
  simp [boolc, List.map_set]
theorem boolc_get {S : List Bool} {u : Nat} (h : u < S.length) : (boolc S)[u]? = some (.bool (S.getD u false)) := by
  simp [boolc, h]
theorem blkc_getD {H : List Int} {u : Nat} (h : u < H.length) : (blkc H)[u]? = some (.int .u8 (H.getD u 0)) := by
  simp [blkc, h]
theorem Fr.one (q o : Nat) (v : Value) (W : World) : Fr (fun k => k = q) W (W.setCell ⟨q, o, none⟩ v) := Fr.cell (S := fun k => k = q) (Fr.refl _ _) q o rfl v
/-- An element of the array has. -/
theorem AM.set13 {G' : Int → List Int} (h : AM b m q6 q7 q12 q13 s j0 j1 n0 n1 H G W) (u : Nat) (v : Int) (hd : ∀ x, x < 40 → 0 < (H.set u v).getD x 0 → G' (398 + (x : Int)) = fullB ((H.set u v).getD x 0) 3) : AM b m q6 q7 q12 q13 s j0 j1 n0 n1 (H.set u v) G' (W.setCell ⟨q13, u, none⟩ (.int .u8 v)) := by
  have hne := h.d.ne_q h.c13 (by decide)
  have e : ∀ k, k ≠ q13 → (W.setCell ⟨q13, u, none⟩ (.int .u8 v)).heap[k]? = W.heap[k]? := fun k hk => Below.heap_setCell W ⟨q13, u, none⟩ _ k hk
  refine ⟨h.d.step (e b hne.1) (e m hne.2), h.on, h.len, h.fuse, (e q6 (ne_types h.c6 h.c13 (by decide))).trans h.c6, (e q7 (ne_types h.c7 h.c13 (by decide))).trans h.c7, (e q12 (ne_types h.c12 h.c13 (by decide))).trans h.c12, ?_, h.h0, h.h1, (e j0 (ne_types h.J0 h.c13 (by decide))).trans h.J0, (e j1 (ne_types h.J1 h.c13 (by decide))).trans h.J1, by rw [List.length_set]; exact h.hl, hd⟩
  by_cases hu : u < (blkc H).size
  · rw [heap_set1 h.c13 u _ hu, blkc_set]
  · have h1 : H.set u v = H := List.set_eq_of_length_le (by rw [blkc_size] at hu; omega)
    rw [h1]
    have h2 : (W.setCell ⟨q13, u, none⟩ (.int .u8 v)).heap[q13]? = some (.cells ((blkc H).setIfInBounds u (.int .u8 v)) 34 (0, 0)) := by
      simp [World.setCell, Array.getElem?_modify, h.c13]
    rw [h2, blkc_set, h1]
/-- One of the two numbers. -/
theorem AM.set12 (h : AM b m q6 q7 q12 q13 s j0 j1 n0 n1 H G W) (h612 : q6 ≠ q12) {W' : World} {n0' n1' : Int} {s' : FS} (hd : DiskIs W' b m s') (hon : s'.off = false) (hlen : s'.len = 438) (hfu : s'.fuse = -1) (e : ∀ k, k ≠ b → k ≠ m → k ≠ j0 → k ≠ j1 → k ≠ q12 → k < W.heap.size → W'.heap[k]? = W.heap[k]?)
    (c12 : W'.heap[q12]? = some (.cells #[.int .i64 n0', .int .i64 n1'] 28 (0, 0))) (J0 : JIs W' j0 b 0 n0') (J1 : JIs W' j1 b 199 n1') (h0 : s'.has 0 = headB n0' 0) (h1 : s'.has 199 = headB n1' 0) {G' : Int → List Int} (hg : ∀ u, u < 40 → G' (398 + ((u : Nat) : Int)) = G (398 + (u : Int))) : AM b m q6 q7 q12 q13 s' j0 j1 n0' n1' H G' W' := by
  have n6 := h.d.ne_q h.c6 (by decide)
  have n7 := h.d.ne_q h.c7 (by decide)
  have n13 := h.d.ne_q h.c13 (by decide)
  refine ⟨hd, hon, hlen, hfu, ?_, ?_, c12, ?_, h0, h1, J0, J1, h.hl, fun u hu hp => (hg u hu).trans (h.data u hu hp)⟩
  · exact (e q6 n6.1.symm n6.2.symm (ne_types h.c6 h.J0 (by decide)) (ne_types h.c6 h.J1 (by decide)) h612 (blk_lt h.c6)).trans h.c6
  · exact (e q7 n7.1.symm n7.2.symm (ne_types h.c7 h.J0 (by decide)) (ne_types h.c7 h.J1 (by decide)) (ne_types h.c7 h.c12 (by decide)) (blk_lt h.c7)).trans h.c7
  · exact (e q13 n13.1.symm n13.2.symm (ne_types h.c13 h.J0 (by decide)) (ne_types h.c13 h.J1 (by decide)) (ne_types h.c13 h.c12 (by decide)) (blk_lt h.c13)).trans h.c13
end
theorem boolc_one (S : List Bool) : (boolc S).all (·.oneCell') = true := by
  rw [Array.all_eq_true_iff_forall_mem]
  intro v hv
  simp only [boolc, List.mem_toArray, List.mem_map] at hv
  obtain ⟨x, _, rfl⟩ := hv
  rfl
theorem boolc_size (S : List Bool) : (boolc S).size = S.length := by simp [boolc]
def z40 : List Int := List.replicate 40 0
def z20 : List Bool := List.replicate 20 false
theorem zero40 (w : World) : (zeroValue 34).run Try.prog w = .ok (.agg (blkc z40)) w := by
  have hi : (Try.prog.info? 34).map (·.zero) = some (some (.agg (blkc z40))) := by kernel_rfl
  obtain ⟨i, h1, h2⟩ := Option.map_eq_some_iff.1 hi
  simp [zeroValue, typeInfo, h1, h2]
theorem zero20 (w : World) : (zeroValue 36).run Try.prog w = .ok (.agg (boolc z20)) w := by
  have hi : (Try.prog.info? 36).map (·.zero) = some (some (.agg (boolc z20))) := by kernel_rfl
  obtain ⟨i, h1, h2⟩ := Option.map_eq_some_iff.1 hi
  simp [zeroValue, typeInfo, h1, h2]
theorem size40 : (Try.prog.info? 34).map (·.size) = some (blkc z40).size := by rw [blkc_size]; show _ = some 40; kernel_rfl
theorem size20 : (Try.prog.info? 36).map (·.size) = some (boolc z20).size := by rw [boolc_size]; show _ = some 20; kernel_rfl
theorem alloc_agg {ops : Array Oper} {rest : List Oper} {o : Oper} {a : Act} {w : World} {Q : Exit → Act → World → Prop} (T : TypeId) (cs : Array Value) (hz : ∀ w, (zeroValue T).run Try.prog w = .ok (.agg cs) w) (hg : o.guard = none) (dst : Option Tmp) (hdst : o.dst = dst) (ho : o.op = .alloc T)
    (h : wpList Try.prog ops Q rest (a.put dst (.pointer (some ⟨w.heap.size, 0, none⟩))) (w.alloc (.cells cs T))) : wpList Try.prog ops Q (o :: rest) a w := by
  refine Go.Great.wpList_runTo hg dst hdst _ _ ?_ h
  unfold execOp
  simp [ho, Instr.alloc, hz w, Result.andThen, newVar, newRow, Value.cells, go_sem]
theorem exec_build0 {ρ : Operand → Value} {o : Oper} {T E : TypeId} {n : Nat} {cs : Array Value} {w : World} (hu : Try.prog.underlying T = some (.array n E)) (hs : (Try.prog.info? E).map (·.size) = some 1) (ho : o.op = .build T #[]) (hz : ∀ w, (zeroValue T).run Try.prog w = .ok (.agg cs) w) : (execOp ρ o).run Try.prog w = .ok (.value (.agg cs)) w := by
  obtain ⟨i, h1, h2⟩ := Option.map_eq_some_iff.1 hs
  unfold execOp
  simp [ho, Instr.build, hz w, Result.andThen, run_underlying hu, sizeOf, typeInfo, h1, h2, Instr.fill, Value.cells]
theorem sizeB : (Try.prog.info? 4).map (·.size) = some 1 := by kernel_rfl
theorem JIs.two {W : World} {j0 j1 b : Nat} {n0 n1 : Int} (h0 : JIs W j0 b 0 n0) (h1 : JIs W j1 b 199 n1) : j0 ≠ j1 := by
  intro e
  unfold JIs at h0 h1
  rw [e, h1] at h0
  simp at h0
theorem AM.setJ0 {b m q6 q7 q12 q13 : Nat} {s : FS} {j0 j1 j' : Nat} {n0 n1 : Int} {H : List Int} {G : Int → List Int} {W : World} (h : AM b m q6 q7 q12 q13 s j0 j1 n0 n1 H G W) (hJ : JIs W j' b 0 n0) (h67 : q6 ≠ q7) : AM b m q6 q7 q12 q13 s j' j1 n0 n1 H G (W.setCell ⟨q7, 0, none⟩ (.pointer (some ⟨j', 0, none⟩))) := by
  have hne := h.d.ne_q h.c7 (by decide)
  have e : ∀ k, k ≠ q7 → (W.setCell ⟨q7, 0, none⟩ (.pointer (some ⟨j', 0, none⟩))).heap[k]? = W.heap[k]? := fun k hk => Below.heap_setCell W ⟨q7, 0, none⟩ _ k hk
  exact ⟨h.d.step (e b hne.1) (e m hne.2), h.on, h.len, h.fuse, (e q6 h67).trans h.c6, heap_set1 h.c7 0 _ (by simp), (e q12 (ne_types h.c12 h.c7 (by decide))).trans h.c12, (e q13 (ne_types h.c13 h.c7 (by decide))).trans h.c13, h.h0, h.h1, (e j' (ne_types hJ h.c7 (by decide))).trans hJ, (e j1 (ne_types h.J1 h.c7 (by decide))).trans h.J1, h.hl, h.data⟩
theorem AM.setJ1 {b m q6 q7 q12 q13 : Nat} {s : FS} {j0 j1 j' : Nat} {n0 n1 : Int} {H : List Int} {G : Int → List Int} {W : World} (h : AM b m q6 q7 q12 q13 s j0 j1 n0 n1 H G W) (hJ : JIs W j' b 199 n1) (h67 : q6 ≠ q7) : AM b m q6 q7 q12 q13 s j0 j' n0 n1 H G (W.setCell ⟨q7, 1, none⟩ (.pointer (some ⟨j', 0, none⟩))) := by
  have hne := h.d.ne_q h.c7 (by decide)
  have e : ∀ k, k ≠ q7 → (W.setCell ⟨q7, 1, none⟩ (.pointer (some ⟨j', 0, none⟩))).heap[k]? = W.heap[k]? := fun k hk => Below.heap_setCell W ⟨q7, 1, none⟩ _ k hk
  exact ⟨h.d.step (e b hne.1) (e m hne.2), h.on, h.len, h.fuse, (e q6 h67).trans h.c6, heap_set1 h.c7 1 _ (by simp), (e q12 (ne_types h.c12 h.c7 (by decide))).trans h.c12, (e q13 (ne_types h.c13 h.c7 (by decide))).trans h.c13, h.h0, h.h1, (e j0 (ne_types h.J0 h.c7 (by decide))).trans h.J0, (e j' (ne_types hJ h.c7 (by decide))).trans hJ, h.hl, h.data⟩
theorem format_free {s : FS} {i : Int} (hf : s.fuse = -1) (hon : s.off = false) (h0 : 0 ≤ i) (h1 : i < s.len) : (s.write i (headB 0 0)).2 = 0 ∧ (s.write i (headB 0 0)).1.fuse = -1 ∧ (s.write i (headB 0 0)).1.off = false ∧ (s.write i (headB 0 0)).1.len = s.len ∧ (s.write i (headB 0 0)).1.has = upd s.has i (headB 0 0) := by
  obtain ⟨a, b, c, d⟩ := write_free (bs := headB 0 0) hf hon h0 h1 (headB_len 0 0)
  rcases write_two (bs := headB 0 0) hon h0 h1 (headB_len 0 0) with ⟨_, _, _, e⟩ | ⟨e, _⟩
  · exact ⟨a, b, c, d, e⟩
  · rw [a] at e; cases e

set_option maxHeartbeats 16000000 in
set_option maxRecDepth 100000 in
theorem apart_any (A : Option Addr) (c : Nat) (l : List (List Int)) (w : World) (hl : Kd.C kR w A l.length l) (hG : ∀ x ∈ l, ∀ y ∈ x, 0 ≤ y ∧ y < 256) (hlen : l.length ≤ 1000000000000000) :
    Calls Try.prog 3 #[.slice A l.length c] w fun e w' => e = .returned (.bool true) ∧ Below w.heap.size w w' := by
  have HL := Aside0.mk hl
  have HGG := Aside0.mk hG
  clear hl hG
  go_enter Try.func3, Try.ntmps3
  go_wp2_with fail
  refine (shown_any w).mono ?_
  rintro e w1 ⟨rfl, hb⟩
  have B1 := Aside0.mk hb
  clear hb
  go_wp2_with fail
  refine (new_any 438 w1).mono ?_
  rintro e w2 (⟨_, _, b, m, rfl, hd, hb, hm, hB⟩ | ⟨h, _⟩)
  case inr => exact absurd (by omega) h
  have D2 := Aside0.mk hd
  have B2 := Aside0.mk (below_step B1.out hB)
  have HBM := Aside0.mk (And.intro (Nat.le_trans B1.out.size hb) (Nat.le_trans B1.out.size hm))
  clear hd hb hm hB B1
  go_wp2
  obtain ⟨q6, hq6⟩ : ∃ q, q = w2.heap.size := ⟨_, rfl⟩
  obtain ⟨q7, hq7⟩ : ∃ q, q = q6 + 1 := ⟨_, rfl⟩
  rw [← hq6, ← hq7]
  obtain ⟨w3, hw3⟩ : ∃ w3, w3 = (w2.alloc (Obj.cells #[Value.int .i64 0, Value.int .i64 199] 28)).alloc (Obj.cells #[Value.pointer none, Value.pointer none] 30) := ⟨_, rfl⟩
  rw [← hw3]
  have hb3 : Below w2.heap.size w2 w3 := by rw [hw3]; exact ((Below.refl _ w2).alloc (Nat.le_refl _) _).alloc (by simp) _
  have A3 := Aside0.mk (show AS b m q6 q7 (FS.new 438) 0 0 0 (.pointer none) (.pointer none) w3 from
    ⟨D2.out.below hb3, rfl, rfl, rfl, by rw [hw3, hq6]; exact (Below.heap_alloc _ _ _ (by simp)).trans (Go.heap_alloc_new w2 _), by rw [hw3, hq7, hq6]; exact Go.heap_alloc2_new w2 _ _, fun h => by omega, fun h => by omega⟩)
  have B3 := Aside0.mk (below_step B2.out hb3)
  have HQ := Aside0.mk (show w.heap.size ≤ q6 ∧ w.heap.size ≤ q7 ∧ q6 ≠ q7 from ⟨by rw [hq6]; exact B2.out.size, by rw [hq7, hq6]; have := B2.out.size; omega, by omega⟩)
  clear hw3 hb3 hq6 hq7 D2 B2
  go_loopg [8] 2 (fun gq v8 wr => ∃ (k : Nat) (s : FS) (j0 j1 : Nat) (v0 v1 : Value), v8 = .int .i64 k ∧ k ≤ 2 ∧ Aside0 (gq = 2 - k) ∧ Aside0 (AS b m q6 q7 s k j0 j1 v0 v1 wr) ∧ Aside0 (Below w.heap.size w wr) ∧ Aside0 ((1 ≤ k → w.heap.size ≤ j0) ∧ (2 ≤ k → w.heap.size ≤ j1)))
  case atStart => exact ⟨0, FS.new 438, 0, 0, _, _, rfl, by omega, ⟨rfl⟩, A3, B3, ⟨fun h => by omega, fun h => by omega⟩⟩
  case round =>
    clear A3 B3
    obtain ⟨k, s, j0, j1, v0, v1, rfl, hk, HG, HA, HB, HJW⟩ := hrel
    have hk3 : k = 0 ∨ k = 1 ∨ k = 2 := by omega
    rcases hk3 with rfl | rfl | rfl
    case inl =>
      have p6 := heap_cell HA.out.c6 0 (.int .i64 0) rfl
      go_wp2_with fail
      refine (format_any b m s 0 wr HA.out.d (by omega) (by rw [HA.out.len]; omega) (by rw [HA.out.len]; omega)).mono ?_
      obtain ⟨e1, e2, e3, e4, e5⟩ := format_free (i := 0) HA.out.fuse HA.out.on (by omega) (by rw [HA.out.len]; omega)
      obtain ⟨s1, hs1⟩ : ∃ x, x = (s.write 0 (headB 0 0)).1 := ⟨_, rfl⟩
      rw [e1]
      rw [← hs1] at e2 e3 e4 e5 ⊢
      rintro e w4 ⟨rfl, hd, hf⟩
      have S1 := Aside0.mk (show s1.off = false ∧ s1.len = 438 ∧ s1.fuse = -1 ∧ s1.has = upd s.has 0 (headB 0 0) from ⟨e3, e4.trans HA.out.len, e2, e5⟩)
      have I1 := Aside0.mk (show Idle s1 0 0 s1.has from ⟨by rw [e5]; simp [upd], fun _ _ => rfl⟩)
      have D4 := Aside0.mk hd
      have F4 := Aside0.mk hf
      have p6' := heap_cell ((hf.block q6 (blk_lt HA.out.c6) (fun e => by
        rcases e with e | e
        · exact ne_types HA.out.c6 HA.out.d.1 (by decide) e
        · obtain ⟨es, kk, hm⟩ := HA.out.d.map; exact ne_cells_map HA.out.c6 hm e)).trans HA.out.c6) 0 (.int .i64 0) rfl
      clear e1 e2 e3 e4 e5 hs1 hd hf p6
      go_wp2_with fail
      refine (open_js D4.out S1.out.1 S1.out.2.1 S1.out.2.2.1 I1.out (by omega) (by omega) (by omega) (by omega) (by omega)).mono ?_
      rintro e w5 ⟨jb, rfl, hjl, hj, hf⟩
      have F5 := Aside0.mk (F4.out.trans hf)
      have J5 := Aside0.mk hj
      have hnb6 : ¬ DB b m q6 := fun e => by
        rcases e with e | e
        · exact ne_types HA.out.c6 HA.out.d.1 (by decide) e
        · obtain ⟨es, kk, hm⟩ := HA.out.d.map; exact ne_cells_map HA.out.c6 hm e
      have hnb7 : ¬ DB b m q7 := fun e => by
        rcases e with e | e
        · exact ne_types HA.out.c7 HA.out.d.1 (by decide) e
        · obtain ⟨es, kk, hm⟩ := HA.out.d.map; exact ne_cells_map HA.out.c7 hm e
      have h6 := (F5.out.block q6 (blk_lt HA.out.c6) hnb6).trans HA.out.c6
      have h7 := (F5.out.block q7 (blk_lt HA.out.c7) hnb7).trans HA.out.c7
      have f7 := heap_frozen h7 0 v0 rfl
      have c7' := heap_cell h7 0 v0 rfl
      have hb5 : Below w.heap.size w w5 := HB.out.trans (F5.out.below HB.out.size (fun k hk => by have := HBM.out; rcases hk with rfl | rfl <;> omega))
      have hset : ∀ g, g ≠ q7 → (w5.setCell ⟨q7, 0, none⟩ (.pointer (some ⟨jb, 0, none⟩))).heap[g]? = w5.heap[g]? := fun g hg => Below.heap_setCell w5 ⟨q7, 0, none⟩ _ g hg
      have hqb : q7 ≠ b := fun e => hnb7 (.inl e)
      have hqm : q7 ≠ m := fun e => hnb7 (.inr e)
      have hqj : q7 ≠ jb := ne_types h7 J5.out.j (by decide)
      have A6 := Aside0.mk (show AS b m q6 q7 s1 (0 + 1) jb 0 (.pointer (some ⟨jb, 0, none⟩)) v1 (w5.setCell ⟨q7, 0, none⟩ (.pointer (some ⟨jb, 0, none⟩))) from
        ⟨J5.out.d.step (hset b hqb.symm) (hset m hqm.symm), S1.out.1, S1.out.2.1, S1.out.2.2.1, (hset q6 HQ.out.2.2).trans h6, heap_set1 h7 0 _ (by simp), fun _ => ⟨I1.out.head, J5.out.j.step' (hset jb hqj.symm), rfl⟩, fun h => by omega⟩)
      have B6 := Aside0.mk (hb5.setCell (p := ⟨q7, 0, none⟩) HQ.out.2.1 (.pointer (some ⟨jb, 0, none⟩)))
      have HJW2 := Aside0.mk (show (1 ≤ 0 + 1 → w.heap.size ≤ jb) ∧ (2 ≤ 0 + 1 → w.heap.size ≤ 0) from ⟨fun _ => by have := HB.out.size; have := F4.out.size; omega, fun h => by omega⟩)
      clear F4 F5 J5 D4 I1 S1 HA HB HJW hjl hj hf hnb6 hnb7 h6 h7 hb5 hset hqb hqm hqj p6'
      go_wp2
      go_roundg (2 - (0 + 1))
      case measure => have := HG.out; omega
      case rel => exact ⟨0 + 1, s1, _, _, _, _, by go_num, by omega, ⟨rfl⟩, A6, B6, HJW2⟩
    case inr.inl =>
      have p6 := heap_cell HA.out.c6 1 (.int .i64 199) rfl
      go_wp2_with fail
      refine (format_any b m s 199 wr HA.out.d (by omega) (by rw [HA.out.len]; omega) (by rw [HA.out.len]; omega)).mono ?_
      obtain ⟨e1, e2, e3, e4, e5⟩ := format_free (i := 199) HA.out.fuse HA.out.on (by omega) (by rw [HA.out.len]; omega)
      obtain ⟨s1, hs1⟩ : ∃ x, x = (s.write 199 (headB 0 0)).1 := ⟨_, rfl⟩
      rw [e1]
      rw [← hs1] at e2 e3 e4 e5 ⊢
      rintro e w4 ⟨rfl, hd, hf⟩
      have S1 := Aside0.mk (show s1.off = false ∧ s1.len = 438 ∧ s1.fuse = -1 ∧ s1.has = upd s.has 199 (headB 0 0) from ⟨e3, e4.trans HA.out.len, e2, e5⟩)
      have I1 := Aside0.mk (show Idle s1 199 0 s1.has from ⟨by rw [e5]; simp [upd], fun _ _ => rfl⟩)
      have D4 := Aside0.mk hd
      have F4 := Aside0.mk hf
      have p6' := heap_cell ((hf.block q6 (blk_lt HA.out.c6) (fun e => by
        rcases e with e | e
        · exact ne_types HA.out.c6 HA.out.d.1 (by decide) e
        · obtain ⟨es, kk, hm⟩ := HA.out.d.map; exact ne_cells_map HA.out.c6 hm e)).trans HA.out.c6) 1 (.int .i64 199) rfl
      clear e1 e2 e3 e4 e5 hs1 hd hf p6
      go_wp2_with fail
      refine (open_js D4.out S1.out.1 S1.out.2.1 S1.out.2.2.1 I1.out (by omega) (by omega) (by omega) (by omega) (by omega)).mono ?_
      rintro e w5 ⟨jb, rfl, hjl, hj, hf⟩
      have F5 := Aside0.mk (F4.out.trans hf)
      have J5 := Aside0.mk hj
      have hnb6 : ¬ DB b m q6 := fun e => by
        rcases e with e | e
        · exact ne_types HA.out.c6 HA.out.d.1 (by decide) e
        · obtain ⟨es, kk, hm⟩ := HA.out.d.map; exact ne_cells_map HA.out.c6 hm e
      have hnb7 : ¬ DB b m q7 := fun e => by
        rcases e with e | e
        · exact ne_types HA.out.c7 HA.out.d.1 (by decide) e
        · obtain ⟨es, kk, hm⟩ := HA.out.d.map; exact ne_cells_map HA.out.c7 hm e
      have h6 := (F5.out.block q6 (blk_lt HA.out.c6) hnb6).trans HA.out.c6
      have h7 := (F5.out.block q7 (blk_lt HA.out.c7) hnb7).trans HA.out.c7
      have f7 := heap_frozen h7 1 v1 rfl
      have c7' := heap_cell h7 1 v1 rfl
      have hb5 : Below w.heap.size w w5 := HB.out.trans (F5.out.below HB.out.size (fun k hk => by have := HBM.out; rcases hk with rfl | rfl <;> omega))
      have hset : ∀ g, g ≠ q7 → (w5.setCell ⟨q7, 1, none⟩ (.pointer (some ⟨jb, 0, none⟩))).heap[g]? = w5.heap[g]? := fun g hg => Below.heap_setCell w5 ⟨q7, 1, none⟩ _ g hg
      have hqb : q7 ≠ b := fun e => hnb7 (.inl e)
      have hqm : q7 ≠ m := fun e => hnb7 (.inr e)
      have hqj : q7 ≠ jb := ne_types h7 J5.out.j (by decide)
      have A6 := Aside0.mk (show AS b m q6 q7 s1 (1 + 1) j0 jb v0 (.pointer (some ⟨jb, 0, none⟩)) (w5.setCell ⟨q7, 1, none⟩ (.pointer (some ⟨jb, 0, none⟩))) from
        ⟨J5.out.d.step (hset b hqb.symm) (hset m hqm.symm), S1.out.1, S1.out.2.1, S1.out.2.2.1, (hset q6 HQ.out.2.2).trans h6, heap_set1 h7 1 _ (by simp), fun _ => ⟨by rw [S1.out.2.2.2]; unfold upd; rw [if_neg (by decide)]; exact (HA.out.h0 (by omega)).1, (JIs.fr (HA.out.h0 (by omega)).2.1 F5.out (fun e => (HA.out.h0 (by omega)).2.1.ne HA.out.d e)).step' (hset j0 (fun e => ne_types (JIs.fr (HA.out.h0 (by omega)).2.1 F5.out (fun e => (HA.out.h0 (by omega)).2.1.ne HA.out.d e)) h7 (by decide) e)), (HA.out.h0 (by omega)).2.2⟩, fun _ => ⟨I1.out.head, J5.out.j.step' (hset jb hqj.symm), rfl⟩⟩)
      have B6 := Aside0.mk (hb5.setCell (p := ⟨q7, 1, none⟩) HQ.out.2.1 (.pointer (some ⟨jb, 0, none⟩)))
      have HJW2 := Aside0.mk (show (1 ≤ 1 + 1 → w.heap.size ≤ j0) ∧ (2 ≤ 1 + 1 → w.heap.size ≤ jb) from ⟨fun _ => HJW.out.1 (by omega), fun _ => by have := HB.out.size; have := F4.out.size; omega⟩)
      clear F4 F5 J5 D4 I1 S1 HA HB HJW hjl hj hf hnb6 hnb7 h6 h7 hb5 hset hqb hqm hqj p6'
      go_wp2
      go_roundg (2 - (1 + 1))
      case measure => have := HG.out; omega
      case rel => exact ⟨1 + 1, s1, _, _, _, _, by go_num, by omega, ⟨rfl⟩, A6, B6, HJW2⟩
    case inr.inr =>
      --AUX0
      clear HG
      obtain ⟨e0, J0, rfl⟩ := HA.out.h0 (by omega)
      obtain ⟨e1, J1, rfl⟩ := HA.out.h1 (by omega)
      have HHD := Aside0.mk (And.intro e0 e1)
      have HJ0 := Aside0.mk J0
      have HJ1 := Aside0.mk J1
      clear e0 e1 J0 J1
      go_wp2_with (first
        | ((with_reducible refine gate_dst (N := 74) rfl ?_); refine Go.Great.wpList_runTo rfl (some 74) rfl (.agg (blkc z40)) _ (exec_build0 Try.underlying34 infoU8s rfl zero40) ?_)
        | ((with_reducible refine gate_dst (N := 13) rfl ?_); refine alloc_agg 34 (blkc z40) zero40 rfl (some 13) rfl rfl ?_; refine Go.wpList_store_rowTo rfl 34 (.tmp 13) (.tmp 74) rfl rfl _ (blkc z40) rfl rfl 34 (blkc z40) (Go.heap_alloc_new _ _) size40 rfl (blkc_one z40) ?_; rw [World.setRow_alloc_new])
        | fail)
      obtain ⟨q12, hq12⟩ : ∃ q, q = wr.heap.size := ⟨_, rfl⟩
      obtain ⟨q13, hq13⟩ : ∃ q, q = q12 + 1 := ⟨_, rfl⟩
      rw [← hq12, ← hq13]
      obtain ⟨w3, hw3⟩ : ∃ w3, w3 = (wr.alloc (Obj.cells #[Value.int .i64 0, Value.int .i64 0] 28)).alloc (Obj.cells (blkc z40) 34) := ⟨_, rfl⟩
      rw [← hw3]
      have hb3 : Below wr.heap.size wr w3 := by rw [hw3]; exact ((Below.refl _ wr).alloc (Nat.le_refl _) _).alloc (by simp) _
      have A3 := Aside0.mk (show AM b m q6 q7 q12 q13 s j0 j1 0 0 z40 s.has w3 from
        ⟨HA.out.d.below hb3, HA.out.on, HA.out.len, HA.out.fuse, (hb3.block q6 (blk_lt HA.out.c6)).trans HA.out.c6, (hb3.block q7 (blk_lt HA.out.c7)).trans HA.out.c7, by rw [hw3, hq12]; exact (Below.heap_alloc _ _ _ (by simp)).trans (Go.heap_alloc_new wr _), by rw [hw3, hq13, hq12]; exact Go.heap_alloc2_new wr _ _,
          HHD.out.1, HHD.out.2, HJ0.out.below hb3, HJ1.out.below hb3, by decide, fun u hu hp => by unfold z40 at hp; rw [List.getD_eq_getElem?_getD, List.getElem?_replicate, if_pos hu] at hp; simp at hp⟩)
      have B3 := Aside0.mk (below_step HB.out hb3)
      have HQ2 := Aside0.mk (show w.heap.size ≤ q12 ∧ w.heap.size ≤ q13 ∧ q6 ≠ q12 from ⟨by rw [hq12]; exact HB.out.size, by rw [hq13, hq12]; have := HB.out.size; omega, by have := blk_lt HA.out.c6; omega⟩)
      have HJL := Aside0.mk (show w.heap.size ≤ j0 ∧ w.heap.size ≤ j1 from ⟨HJW.out.1 (by omega), HJW.out.2 (by omega)⟩)
      clear hw3 hb3 hq12 hq13 HA HB HHD HJ0 HJ1 HJW
      go_loopg [14] 30 (fun gq v14 wr => ∃ (i : Nat) (s : FS) (j0 j1 : Nat) (n0 n1 : Int) (H : List Int), v14 = .int .i64 i ∧ i ≤ 30 ∧ i ≤ l.length ∧ 0 ≤ n0 ∧ n0 ≤ i ∧ 0 ≤ n1 ∧ n1 ≤ i ∧ Aside0 (gq = 30 - i) ∧ Aside0 (AM b m q6 q7 q12 q13 s j0 j1 n0 n1 H s.has wr) ∧ Aside0 (Below w.heap.size w wr) ∧ Aside0 (w.heap.size ≤ j0 ∧ w.heap.size ≤ j1))
      case atStart => exact ⟨0, s, j0, j1, 0, 0, _, rfl, by omega, by omega, by omega, by omega, by omega, by omega, ⟨rfl⟩, A3, B3, HJL⟩
      case round =>
        clear A3 B3 HJL s j0 j1
        obtain ⟨i, s, j0, j1, n0, n1, H, rfl, hi30, hil, hn00, hn01, hn10, hn11, HG, HA, HB, HJL⟩ := hrel
        obtain ⟨bb, hbb⟩ : ∃ bb, bb = decide (i < l.length ∧ i < 30) := ⟨_, rfl⟩
        have HBB := Aside0.mk hbb
        clear hbb
        go_upto_region 18 with (fail)
        go_cut [82] (fun s82 wx => s82 = .bool bb ∧ wx = wr)
        case first =>
          by_cases q1 : i < l.length
          · have q1' : (i : Int) < (l.length : Int) := by omega
            by_cases q2 : i < 30
            · have q2' : (i : Int) < 30 := by omega
              have HE := Aside0.mk (show bb = true by rw [HBB.out]; exact decide_eq_true ⟨q1, q2⟩)
              clear q1 q2
              go_wp2
              go_meet
              case rel => exact ⟨by rw [HE.out], rfl⟩
            · have q2' : ¬ (i : Int) < 30 := by omega
              have HE := Aside0.mk (show bb = false by rw [HBB.out]; exact decide_eq_false (fun h => q2 h.2))
              clear q1 q2
              go_wp2
              go_meet
              case rel => exact ⟨by rw [HE.out], rfl⟩
          · have q1' : ¬ (i : Int) < (l.length : Int) := by omega
            have HE := Aside0.mk (show bb = false by rw [HBB.out]; exact decide_eq_false (fun h => q1 h.1))
            clear q1
            go_wp2
            go_meet
            case rel => exact ⟨by rw [HE.out], rfl⟩
        obtain ⟨rfl, hwc⟩ := hcut
        rw [hwc]
        clear hwc wc
        cases bb
        case false =>
          as_aux_lemma =>
            clear HG HBB
            have HLH := Aside0.mk HA.out.hl
            go_wp2
            go_loopg [23] 40 (fun gq v23 wr => ∃ (u : Nat), v23 = .int .i64 u ∧ u ≤ 40 ∧ Aside0 (gq = 40 - u) ∧ Aside0 (AM b m q6 q7 q12 q13 s j0 j1 n0 n1 H s.has wr) ∧ Aside0 (Below w.heap.size w wr))
            case atStart => exact ⟨0, rfl, by omega, ⟨rfl⟩, HA, HB⟩
            case round =>
              clear HA HB
              obtain ⟨u, rfl, hu40, HG, HA, HB⟩ := hrel
              by_cases hu : u < 40
              case neg =>
                have hu' : ¬ (u : Int) < 40 := by omega
                go_wp2
                go_ret
                exact ⟨rfl, HB.out⟩
              have hu' : (u : Int) < 40 := by omega
              have hck := check_on (i := 398 + (u : Int)) HA.out.on (by omega) (by rw [HA.out.len]; omega)
              have h64 := HA.out.d.2.2 (398 + (u : Int))
              have hdt := HA.out.data u hu
              obtain ⟨bs, hbs⟩ : ∃ bs, bs = s.has (398 + (u : Int)) := ⟨_, rfl⟩
              rw [← hbs] at h64 hdt
              obtain ⟨h, hh⟩ : ∃ h, h = H.getD u 0 := ⟨_, rfl⟩
              rw [← hh] at hdt
              have HH := Aside0.mk hh
              have HDT := Aside0.mk hdt
              have H64 := Aside0.mk h64
              have HCK := Aside0.mk hck
              have HBS := Aside0.mk hbs
              clear hh hdt h64 hck hbs
              go_wp2_with fail
              refine (read_on b m s (398 + (u : Int)) wr HA.out.d HCK.out).mono ?_
              rintro e w5 ⟨rfl, hq, hb⟩
              rw [← HBS.out] at hq
              obtain ⟨q, hqq⟩ : ∃ q, q = wr.heap.size := ⟨_, rfl⟩
              rw [← hqq] at hq ⊢
              have Q5 := Aside0.mk hq
              have A5 := Aside0.mk (HA.out.below hb)
              have B5 := Aside0.mk (below_step HB.out hb)
              clear hq hb hqq HA HB HCK HBS
              have hY := read_bytes Q5.out (by rw [H64.out]; decide)
              have p13 := heap_cell A5.out.c13 u (.int .u8 h) (by rw [HH.out]; exact blkc_getD (by rw [A5.out.hl]; omega))
              go_upto_region 41 with (fail)
              by_cases hp : 0 < h
              case pos =>
                have hgt : decide (h > 0) = true := decide_eq_true hp
                have hbs := HDT.out hp
                subst hbs
                have hcv : ∀ w', BytesAt w' (some ⟨q, 0, none⟩) (fullB h 3) → (convert 37 9 (.slice (some ⟨q, 0, none⟩) 64 64)).run Try.prog w' = .ok (.string (strB (fullB h 3))) w' := fun w' h1 => by
                  have := conv_bytes h1 64
                  rw [fullB_len] at this
                  exact this
                have hbeq : ((strB (fullB h 3)).toList == (strB (fullB h 3)).toList) = true := by simp
                refine start_ (n := 18) (S := fun w' => BytesAt w' (some ⟨q, 0, none⟩) (fullB h 3) ∧ w'.cell? ⟨q13, u, none⟩ = some (.int .u8 h)) (ds := []) #[false, false, false, false, false, false, false, false, false, false, false, false, false, false, false, false, false, false] (by kernel_rfl) rfl rfl ⟨hY, p13⟩ (fun hHeld => ?_)
                refine pure_ (i := 0) (N := some 201) (v := ?_) (a' := ?_) #[true, false, false, false, false, false, false, false, false, false, false, false, false, false, false, false, false, false] rfl rfl (by kernel_rfl) (fun _ _ _ h => h) (Or.inl ⟨by rfl, ?_⟩) ?_ ?_
                rotate_left
                · intro w'
                  go_simp
                  with_reducible rfl
                rotate_left
                · simp only [Act.put, List.setIfInBounds_toArray, List.set_cons_zero, List.set_cons_succ, i64_w, i32_w]
                  rfl
                refine pure_ (i := 1) (N := some 202) (v := ?_) (a' := ?_) #[true, true, false, false, false, false, false, false, false, false, false, false, false, false, false, false, false, false] rfl rfl (by kernel_rfl) (fun _ _ _ h => h) (Or.inl ⟨by rfl, ?_⟩) ?_ ?_
                rotate_left
                · intro w'
                  go_simp
                  with_reducible rfl
                rotate_left
                · simp only [Act.put, List.setIfInBounds_toArray, List.set_cons_zero, List.set_cons_succ, i64_w, i32_w]
                  rfl
                refine pure_ (i := 2) (N := some 203) (v := ?_) (a' := ?_) #[true, true, true, false, false, false, false, false, false, false, false, false, false, false, false, false, false, false] rfl rfl (by kernel_rfl) (fun _ _ _ h => h) (Or.inl ⟨by rfl, ?_⟩) ?_ ?_
                rotate_left
                · intro w'
                  go_simp
                  with_reducible rfl
                rotate_left
                · simp only [Act.put, List.setIfInBounds_toArray, List.set_cons_zero, List.set_cons_succ, i64_w, i32_w]
                  rfl
                refine pure_ (i := 3) (N := some 204) (v := ?_) (a' := ?_) #[true, true, true, true, false, false, false, false, false, false, false, false, false, false, false, false, false, false] rfl rfl (by kernel_rfl) (fun _ _ _ h => h) (Or.inl ⟨by rfl, ?_⟩) ?_ ?_
                rotate_left
                · intro w'
                  go_simp
                  with_reducible rfl
                rotate_left
                · simp only [Act.put, List.setIfInBounds_toArray, List.set_cons_zero, List.set_cons_succ, i64_w, i32_w]
                  rfl
                refine pure_ (i := 4) (N := some 205) (v := ?_) (a' := ?_) #[true, true, true, true, true, false, false, false, false, false, false, false, false, false, false, false, false, false] rfl rfl (by kernel_rfl) (fun _ _ _ h => h) (Or.inl ⟨by rfl, ?_⟩) ?_ ?_
                rotate_left
                · intro w'
                  go_simp
                  with_reducible rfl
                rotate_left
                · simp only [Act.put, List.setIfInBounds_toArray, List.set_cons_zero, List.set_cons_succ, i64_w, i32_w]
                  rfl
                refine take_ (i := 5) (N := some 206) (v := ?_) (a' := ?_) #[true, true, true, true, true, true, false, false, false, false, false, false, false, false, false, false, false, false] rfl rfl (by kernel_rfl) (fun _ _ _ h => h) (Or.inl ⟨by rfl, ?_⟩) hHeld ?_ ?_
                rotate_left
                · rintro w' ⟨s0, s1⟩
                  go_simp
                  with_reducible rfl
                rotate_left
                · simp only [Act.put, List.setIfInBounds_toArray, List.set_cons_zero, List.set_cons_succ, i64_w, i32_w]
                  rfl
                refine pure_ (i := 6) (N := some 207) (v := ?_) (a' := ?_) #[true, true, true, true, true, true, true, false, false, false, false, false, false, false, false, false, false, false] rfl rfl (by kernel_rfl) (fun _ _ _ h => h) (Or.inl ⟨by rfl, ?_⟩) ?_ ?_
                rotate_left
                · intro w'
                  go_simp
                  with_reducible rfl
                rotate_left
                · simp only [Act.put, List.setIfInBounds_toArray, List.set_cons_zero, List.set_cons_succ, i64_w, i32_w]
                  rfl
                refine pure_ (i := 7) (N := some 208) (v := ?_) (a' := ?_) #[true, true, true, true, true, true, true, true, false, false, false, false, false, false, false, false, false, false] rfl rfl (by kernel_rfl) (fun _ _ _ h => h) (Or.inl ⟨by rfl, ?_⟩) ?_ ?_
                rotate_left
                · intro w'
                  go_simp
                  with_reducible rfl
                rotate_left
                · simp only [Act.put, List.setIfInBounds_toArray, List.set_cons_zero, List.set_cons_succ, i64_w, i32_w]
                  rfl
                refine pure_ (i := 8) (N := some 209) (v := ?_) (a' := ?_) #[true, true, true, true, true, true, true, true, true, false, false, false, false, false, false, false, false, false] rfl rfl (by kernel_rfl) (fun _ _ _ h => h) (Or.inl ⟨by rfl, ?_⟩) ?_ ?_
                rotate_left
                · intro w'
                  go_simp
                  with_reducible rfl
                rotate_left
                · simp only [Act.put, List.setIfInBounds_toArray, List.set_cons_zero, List.set_cons_succ, i64_w, i32_w]
                  rfl
                refine pure_ (i := 10) (N := some 211) (v := ?_) (a' := ?_) #[true, true, true, true, true, true, true, true, true, false, true, false, false, false, false, false, false, false] rfl rfl (by kernel_rfl) (fun _ _ _ h => h) (Or.inl ⟨by rfl, ?_⟩) ?_ ?_
                rotate_left
                · intro w'
                  go_simp
                  with_reducible rfl
                rotate_left
                · simp only [Act.put, List.setIfInBounds_toArray, List.set_cons_zero, List.set_cons_succ, i64_w, i32_w]
                  rfl
                refine pure_ (i := 11) (N := some 212) (v := ?_) (a' := ?_) #[true, true, true, true, true, true, true, true, true, false, true, true, false, false, false, false, false, false] rfl rfl (by kernel_rfl) (fun _ _ _ h => h) (Or.inl ⟨by rfl, ?_⟩) ?_ ?_
                rotate_left
                · intro w'
                  go_simp
                  with_reducible rfl
                rotate_left
                · simp only [Act.put, List.setIfInBounds_toArray, List.set_cons_zero, List.set_cons_succ, i64_w, i32_w]
                  rfl
                refine take_ (i := 9) (N := some 210) (v := ?_) (a' := ?_) #[true, true, true, true, true, true, true, true, true, true, true, true, false, false, false, false, false, false] rfl rfl (by kernel_rfl) (fun _ _ _ h => h) (Or.inl ⟨by rfl, ?_⟩) hHeld ?_ ?_
                rotate_left
                · rintro w' ⟨s0, s1⟩
                  refine exec_convert (x := .tmp 209) (v := .slice (some ⟨q, 0, none⟩) 64 64) (r := .string (strB (fullB h 3))) ?_ ?_ (hcv w' s0)
                  · rfl
                  · rfl
                rotate_left
                · simp only [Act.put, List.setIfInBounds_toArray, List.set_cons_zero, List.set_cons_succ, i64_w, i32_w]
                  rfl
                refine take_ (i := 12) (N := some 213) (v := ?_) (a' := ?_) #[true, true, true, true, true, true, true, true, true, true, true, true, true, false, false, false, false, false] rfl rfl (by kernel_rfl) (fun _ _ _ h => h) (Or.inl ⟨by rfl, ?_⟩) hHeld ?_ ?_
                rotate_left
                · rintro w' ⟨s0, s1⟩
                  go_simp
                  with_reducible rfl
                rotate_left
                · simp only [Act.put, List.setIfInBounds_toArray, List.set_cons_zero, List.set_cons_succ, i64_w, i32_w]
                  rfl
                refine one_ (i := 13) (N := some 214) #[true, true, true, true, true, true, true, true, true, true, true, true, true, true, false, false, false, false] rfl rfl (by kernel_rfl) (by decide) (fun K hK => ?_)
                refine goes_ Try.func10 (by kernel_rfl) rfl #[.int .u8 h, .int .u8 3] (by rfl) rfl rfl (by simp only [List.map_toArray, List.map_cons, List.map_nil]; rfl) ?_
                refine (full_any h 3 w5.drew).mono ?_
                rintro e wf ⟨vf, rfl, hr, hb⟩
                obtain ⟨Af, cf, rfl⟩ := Kd.R_slice hr
                refine ⟨_, rfl, ?_⟩
                have Yf := Aside0.mk (BytesAt.of_C (Kd.R_reads' hr).2.2)
                have Y2 := Aside0.mk (BytesAt.below (W := w5.drew) hY hb)
                have A6 := Aside0.mk (AM.below (W := w5.drew) (A5.out.below (below_drew (Below.refl _ w5))) hb)
                have B6 := Aside0.mk (below_step (W := w5.drew) (below_drew B5.out) hb)
                have k13 := heap_cell A6.out.c13 u (.int .u8 h) (by rw [HH.out]; exact blkc_getD (by rw [A6.out.hl]; omega))
                clear hr hb
                refine hK.out _ _ ⟨Y2.out, k13⟩ (fun hHeld => ?_)
                clear hK K
                refine norm_ (a' := ?_) ?_ ?_
                rotate_left
                · show Act.put _ (some 214) _ = _
                  simp only [Act.put, List.setIfInBounds_toArray, List.set_cons_zero, List.set_cons_succ, i64_w, i32_w]
                  rfl
                refine one_ (i := 14) (N := some 215) #[true, true, true, true, true, true, true, true, true, true, true, true, true, true, true, false, false, false] rfl rfl (by kernel_rfl) (by decide) (fun K hK => ?_)
                refine value_ (w1 := wf) (v := .string (strB (fullB h 3))) (by rfl) rfl (exec_convert (x := .tmp 214) (v := .slice Af (fullB h 3).length cf) (by rfl) (by rfl) (conv_bytes Yf.out cf)) ?_
                refine hK.out _ _ ⟨Y2.out, k13⟩ (fun hHeld => ?_)
                clear hK K
                refine norm_ (a' := ?_) ?_ ?_
                rotate_left
                · show Act.put _ (some 215) _ = _
                  simp only [Act.put, List.setIfInBounds_toArray, List.set_cons_zero, List.set_cons_succ, i64_w, i32_w]
                  rfl
                refine pure_ (i := 15) (N := some 216) (v := ?_) (a' := ?_) #[true, true, true, true, true, true, true, true, true, true, true, true, true, true, true, true, false, false] rfl rfl (by kernel_rfl) (fun _ _ _ h => h) (Or.inl ⟨by rfl, ?_⟩) ?_ ?_
                rotate_left
                · intro w'
                  go_simp
                  with_reducible rfl
                rotate_left
                · simp only [Act.put, List.setIfInBounds_toArray, List.set_cons_zero, List.set_cons_succ, i64_w, i32_w]
                  rfl
                refine pure_ (i := 16) (N := some 217) (v := ?_) (a' := ?_) #[true, true, true, true, true, true, true, true, true, true, true, true, true, true, true, true, true, false] rfl rfl (by kernel_rfl) (fun _ _ _ h => h) (Or.inl ⟨by rfl, ?_⟩) ?_ ?_
                rotate_left
                · intro w'
                  go_simp
                  with_reducible rfl
                rotate_left
                · simp only [Act.put, List.setIfInBounds_toArray, List.set_cons_zero, List.set_cons_succ, i64_w, i32_w]
                  rfl
                refine pure_ (i := 17) (N := some 218) (v := ?_) (a' := ?_) #[true, true, true, true, true, true, true, true, true, true, true, true, true, true, true, true, true, true] rfl rfl (by kernel_rfl) (fun _ _ _ h => h) (Or.inl ⟨by rfl, ?_⟩) ?_ ?_
                rotate_left
                · intro w'
                  go_simp
                  with_reducible rfl
                rotate_left
                · simp only [Act.put, List.setIfInBounds_toArray, List.set_cons_zero, List.set_cons_succ, i64_w, i32_w]
                  rfl
                refine done_ (by kernel_rfl) ?_
                clear hY p13 hgt hcv hbeq hHeld A5 B5
                go_wp2
                go_roundg (40 - (u + 1))
                case measure => have := HG.out; omega
                case rel => exact ⟨u + 1, by go_num, by omega, ⟨rfl⟩, A6, B6⟩
              case neg =>
                have hgt : decide (h > 0) = false := decide_eq_false (fun e => hp e)
                refine start_ (n := 18) (S := fun w' => BytesAt w' (some ⟨q, 0, none⟩) bs ∧ w'.cell? ⟨q13, u, none⟩ = some (.int .u8 h)) (ds := []) #[false, false, false, false, false, false, false, false, false, false, false, false, false, false, false, false, false, false] (by kernel_rfl) rfl rfl ⟨hY, p13⟩ (fun hHeld => ?_)
                refine pure_ (i := 0) (N := some 201) (v := ?_) (a' := ?_) #[true, false, false, false, false, false, false, false, false, false, false, false, false, false, false, false, false, false] rfl rfl (by kernel_rfl) (fun _ _ _ h => h) (Or.inl ⟨by rfl, ?_⟩) ?_ ?_
                rotate_left
                · intro w'
                  go_simp
                  with_reducible rfl
                rotate_left
                · simp only [Act.put, List.setIfInBounds_toArray, List.set_cons_zero, List.set_cons_succ, i64_w, i32_w]
                  rfl
                refine pure_ (i := 1) (N := some 202) (v := ?_) (a' := ?_) #[true, true, false, false, false, false, false, false, false, false, false, false, false, false, false, false, false, false] rfl rfl (by kernel_rfl) (fun _ _ _ h => h) (Or.inl ⟨by rfl, ?_⟩) ?_ ?_
                rotate_left
                · intro w'
                  go_simp
                  with_reducible rfl
                rotate_left
                · simp only [Act.put, List.setIfInBounds_toArray, List.set_cons_zero, List.set_cons_succ, i64_w, i32_w]
                  rfl
                refine pure_ (i := 2) (N := some 203) (v := ?_) (a' := ?_) #[true, true, true, false, false, false, false, false, false, false, false, false, false, false, false, false, false, false] rfl rfl (by kernel_rfl) (fun _ _ _ h => h) (Or.inl ⟨by rfl, ?_⟩) ?_ ?_
                rotate_left
                · intro w'
                  go_simp
                  with_reducible rfl
                rotate_left
                · simp only [Act.put, List.setIfInBounds_toArray, List.set_cons_zero, List.set_cons_succ, i64_w, i32_w]
                  rfl
                refine pure_ (i := 3) (N := some 204) (v := ?_) (a' := ?_) #[true, true, true, true, false, false, false, false, false, false, false, false, false, false, false, false, false, false] rfl rfl (by kernel_rfl) (fun _ _ _ h => h) (Or.inl ⟨by rfl, ?_⟩) ?_ ?_
                rotate_left
                · intro w'
                  go_simp
                  with_reducible rfl
                rotate_left
                · simp only [Act.put, List.setIfInBounds_toArray, List.set_cons_zero, List.set_cons_succ, i64_w, i32_w]
                  rfl
                refine pure_ (i := 4) (N := some 205) (v := ?_) (a' := ?_) #[true, true, true, true, true, false, false, false, false, false, false, false, false, false, false, false, false, false] rfl rfl (by kernel_rfl) (fun _ _ _ h => h) (Or.inl ⟨by rfl, ?_⟩) ?_ ?_
                rotate_left
                · intro w'
                  go_simp
                  with_reducible rfl
                rotate_left
                · simp only [Act.put, List.setIfInBounds_toArray, List.set_cons_zero, List.set_cons_succ, i64_w, i32_w]
                  rfl
                refine take_ (i := 5) (N := some 206) (v := ?_) (a' := ?_) #[true, true, true, true, true, true, false, false, false, false, false, false, false, false, false, false, false, false] rfl rfl (by kernel_rfl) (fun _ _ _ h => h) (Or.inl ⟨by rfl, ?_⟩) hHeld ?_ ?_
                rotate_left
                · rintro w' ⟨s0, s1⟩
                  go_simp
                  with_reducible rfl
                rotate_left
                · simp only [Act.put, List.setIfInBounds_toArray, List.set_cons_zero, List.set_cons_succ, i64_w, i32_w]
                  rfl
                refine pure_ (i := 6) (N := some 207) (v := ?_) (a' := ?_) #[true, true, true, true, true, true, true, false, false, false, false, false, false, false, false, false, false, false] rfl rfl (by kernel_rfl) (fun _ _ _ h => h) (Or.inl ⟨by rfl, ?_⟩) ?_ ?_
                rotate_left
                · intro w'
                  go_simp
                  with_reducible rfl
                rotate_left
                · simp only [Act.put, List.setIfInBounds_toArray, List.set_cons_zero, List.set_cons_succ, i64_w, i32_w]
                  rfl
                refine pure_ (i := 7) (N := some 208) (v := ?_) (a' := ?_) #[true, true, true, true, true, true, true, true, false, false, false, false, false, false, false, false, false, false] rfl rfl (by kernel_rfl) (fun _ _ _ h => h) (Or.inl ⟨by rfl, ?_⟩) ?_ ?_
                rotate_left
                · intro w'
                  go_simp
                  with_reducible rfl
                rotate_left
                · simp only [Act.put, List.setIfInBounds_toArray, List.set_cons_zero, List.set_cons_succ, i64_w, i32_w]
                  rfl
                refine pure_ (i := 8) (N := some 209) (v := undef) (a' := ?_) #[true, true, true, true, true, true, true, true, true, false, false, false, false, false, false, false, false, false] rfl rfl (by kernel_rfl) (fun _ _ _ h => h) (Or.inr ⟨by rfl, rfl⟩) ?_ ?_
                rotate_left
                · simp only [Act.put, List.setIfInBounds_toArray, List.set_cons_zero, List.set_cons_succ, i64_w, i32_w]
                  rfl
                refine pure_ (i := 9) (N := some 210) (v := undef) (a' := ?_) #[true, true, true, true, true, true, true, true, true, true, false, false, false, false, false, false, false, false] rfl rfl (by kernel_rfl) (fun _ _ _ h => h) (Or.inr ⟨by rfl, rfl⟩) ?_ ?_
                rotate_left
                · simp only [Act.put, List.setIfInBounds_toArray, List.set_cons_zero, List.set_cons_succ, i64_w, i32_w]
                  rfl
                refine pure_ (i := 10) (N := some 211) (v := undef) (a' := ?_) #[true, true, true, true, true, true, true, true, true, true, true, false, false, false, false, false, false, false] rfl rfl (by kernel_rfl) (fun _ _ _ h => h) (Or.inr ⟨by rfl, rfl⟩) ?_ ?_
                rotate_left
                · simp only [Act.put, List.setIfInBounds_toArray, List.set_cons_zero, List.set_cons_succ, i64_w, i32_w]
                  rfl
                refine pure_ (i := 11) (N := some 212) (v := undef) (a' := ?_) #[true, true, true, true, true, true, true, true, true, true, true, true, false, false, false, false, false, false] rfl rfl (by kernel_rfl) (fun _ _ _ h => h) (Or.inr ⟨by rfl, rfl⟩) ?_ ?_
                rotate_left
                · simp only [Act.put, List.setIfInBounds_toArray, List.set_cons_zero, List.set_cons_succ, i64_w, i32_w]
                  rfl
                refine pure_ (i := 12) (N := some 213) (v := undef) (a' := ?_) #[true, true, true, true, true, true, true, true, true, true, true, true, true, false, false, false, false, false] rfl rfl (by kernel_rfl) (fun _ _ _ h => h) (Or.inr ⟨by rfl, rfl⟩) ?_ ?_
                rotate_left
                · simp only [Act.put, List.setIfInBounds_toArray, List.set_cons_zero, List.set_cons_succ, i64_w, i32_w]
                  rfl
                refine pure_ (i := 13) (N := some 214) (v := undef) (a' := ?_) #[true, true, true, true, true, true, true, true, true, true, true, true, true, true, false, false, false, false] rfl rfl (by kernel_rfl) (fun _ _ _ h => h) (Or.inr ⟨by rfl, rfl⟩) ?_ ?_
                rotate_left
                · simp only [Act.put, List.setIfInBounds_toArray, List.set_cons_zero, List.set_cons_succ, i64_w, i32_w]
                  rfl
                refine pure_ (i := 14) (N := some 215) (v := undef) (a' := ?_) #[true, true, true, true, true, true, true, true, true, true, true, true, true, true, true, false, false, false] rfl rfl (by kernel_rfl) (fun _ _ _ h => h) (Or.inr ⟨by rfl, rfl⟩) ?_ ?_
                rotate_left
                · simp only [Act.put, List.setIfInBounds_toArray, List.set_cons_zero, List.set_cons_succ, i64_w, i32_w]
                  rfl
                refine pure_ (i := 15) (N := some 216) (v := undef) (a' := ?_) #[true, true, true, true, true, true, true, true, true, true, true, true, true, true, true, true, false, false] rfl rfl (by kernel_rfl) (fun _ _ _ h => h) (Or.inr ⟨by rfl, rfl⟩) ?_ ?_
                rotate_left
                · simp only [Act.put, List.setIfInBounds_toArray, List.set_cons_zero, List.set_cons_succ, i64_w, i32_w]
                  rfl
                refine pure_ (i := 16) (N := some 217) (v := ?_) (a' := ?_) #[true, true, true, true, true, true, true, true, true, true, true, true, true, true, true, true, true, false] rfl rfl (by kernel_rfl) (fun _ _ _ h => h) (Or.inl ⟨by rfl, ?_⟩) ?_ ?_
                rotate_left
                · intro w'
                  go_simp
                  with_reducible rfl
                rotate_left
                · simp only [Act.put, List.setIfInBounds_toArray, List.set_cons_zero, List.set_cons_succ, i64_w, i32_w]
                  rfl
                refine pure_ (i := 17) (N := some 218) (v := ?_) (a' := ?_) #[true, true, true, true, true, true, true, true, true, true, true, true, true, true, true, true, true, true] rfl rfl (by kernel_rfl) (fun _ _ _ h => h) (Or.inl ⟨by rfl, ?_⟩) ?_ ?_
                rotate_left
                · intro w'
                  go_simp
                  with_reducible rfl
                rotate_left
                · simp only [Act.put, List.setIfInBounds_toArray, List.set_cons_zero, List.set_cons_succ, i64_w, i32_w]
                  rfl
                refine done_ (by kernel_rfl) ?_
                have A6 := Aside0.mk (A5.out.below (below_drew (Below.refl _ w5)))
                have B6 := Aside0.mk (below_drew B5.out)
                clear hY p13 hgt hHeld A5 B5 hp
                go_wp2
                go_roundg (40 - (u + 1))
                case measure => have := HG.out; omega
                case rel => exact ⟨u + 1, by go_num, by omega, ⟨rfl⟩, A6, B6⟩
        case true =>
          obtain ⟨hl1, hl2⟩ := of_decide_eq_true HBB.out.symm
          clear HBB
          have hk2 : (i : Int) % 2 = 0 ∨ (i : Int) % 2 = 1 := by omega
          rcases hk2 with hk2 | hk2
          case inl =>
            as_aux_lemma =>
              go_wp2_with (first
                | ((with_reducible refine gate_dst (N := 87) rfl ?_); refine Kd.N_lit kP wr.heap.size 40 ?hg (N' := 87) ?hd (xs := ([] : List PutT)) (inner := []) (ok := fun k => wr.heap.size ≤ k) (okp := fun k => False) ?hr ?hp (fun _ hk => hk.elim) (Nat.le_refl _) (Below.refl _ _) (Nat.le_refl _) (by simp) ?_; (case hd => rfl); (case hg => rfl); (case hr => first | (go_simp; done) | (go_simp; rfl)); (case hp => exact (Reps.none _ _)); intro v16 w3 ho3 hb3 hg3 hat3; have N3 := Aside0.mk ho3; have B3 := Aside0.mk hb3; clear ho3 hb3 hg3 hat3)
                | ((with_reducible refine gate_dst (N := 88) rfl ?_); refine Go.Great.wpList_runTo rfl (some 88) rfl (.agg (boolc z20)) _ (exec_build0 Try.underlying36 sizeB rfl zero20) ?_)
                | ((with_reducible refine gate_dst (N := 17) rfl ?_); refine alloc_agg 36 (boolc z20) zero20 rfl (some 17) rfl rfl ?_; refine Go.wpList_store_rowTo rfl 36 (.tmp 17) (.tmp 88) rfl rfl _ (boolc z20) rfl rfl 36 (boolc z20) (Go.heap_alloc_new _ _) size20 rfl (boolc_one z20) ?_; rw [World.setRow_alloc_new])
                | fail)
              obtain ⟨q17, hq17⟩ : ∃ q, q = w3.heap.size := ⟨_, rfl⟩
              rw [← hq17]
              obtain ⟨w4, hw4⟩ : ∃ w4, w4 = w3.alloc (Obj.cells (boolc z20) 36) := ⟨_, rfl⟩
              rw [← hw4]
              have hb4 : Below w3.heap.size w3 w4 := by rw [hw4]; exact (Below.refl _ w3).alloc (Nat.le_refl _) _
              have C17 := Aside0.mk (show w4.heap[q17]? = some (.cells (boolc z20) 36 (0, 0)) from by rw [hw4, hq17]; exact Go.heap_alloc_new _ _)
              have A3 := HA.out.below B3.out
              have hfar := A3.ge (Nat.le_refl _)
              rw [← hq17] at hfar
              have HF17 := Aside0.mk (show Far b m q6 q7 q12 q13 j0 j1 (fun k => k = q17) from ⟨fun e => hfar.1 (Nat.le_of_eq e.symm), fun e => hfar.2.1 (Nat.le_of_eq e.symm), fun e => hfar.2.2.1 (Nat.le_of_eq e.symm), fun e => hfar.2.2.2.1 (Nat.le_of_eq e.symm), fun e => hfar.2.2.2.2.1 (Nat.le_of_eq e.symm), fun e => hfar.2.2.2.2.2.1 (Nat.le_of_eq e.symm), fun e => hfar.2.2.2.2.2.2.1 (Nat.le_of_eq e.symm), fun e => hfar.2.2.2.2.2.2.2 (Nat.le_of_eq e.symm)⟩)
              have A4 := Aside0.mk (A3.below hb4)
              have N4 := Aside0.mk (show Kd.N kP 40 w4 wr.heap.size (fun k => wr.heap.size ≤ k ∧ k ≠ q17) v16 [] from Kd.N_mono (Kd.N_below (Kd.N_bound N3.out) hb4) (fun k hk => ⟨hk.1, by have := hk.2; omega⟩))
              have BW4 := Aside0.mk (below_step HB.out (below_step B3.out hb4))
              have HWR := Aside0.mk (show HA.out.lt = HA.out.lt from rfl)
              have HLT := Aside0.mk HA.out.lt
              have HRW := Aside0.mk (show wr.heap.size ≤ q17 ∧ wr.heap.size ≤ w4.heap.size from ⟨by rw [hq17]; exact B3.out.size, Nat.le_trans B3.out.size hb4.size⟩)
              have HHA := Aside0.mk (And.intro HA.out.h0 HA.out.h1)
              have HWS := Aside0.mk (show w.heap.size ≤ wr.heap.size from HB.out.size)
              clear HWR hq17 hw4 hb4 A3 hfar N3 B3 HA HB
              obtain ⟨wS, hwS⟩ : ∃ n, n = wr.heap.size := ⟨_, rfl⟩
              rw [← hwS] at N4 HRW HLT HWS
              clear hwS wr
              go_loopg [16, 18] 20 (fun gq v16 v18 wr => ∃ (mm : Nat) (lg : List PutT) (S : List Bool) (H : List Int), v18 = .int .i64 mm ∧ mm ≤ 20 ∧ lg.length ≤ mm ∧ Aside0 (gq = 20 - mm) ∧ Aside0 (Kd.N kP 40 wr wS (fun k => wS ≤ k ∧ k ≠ q17) v16 lg) ∧ Aside0 (AM b m q6 q7 q12 q13 s j0 j1 n0 n1 H (puts s.has lg) wr) ∧ Aside0 (wr.heap[q17]? = some (.cells (boolc S) 36 (0, 0))) ∧ Aside0 (S.length = 20 ∧ (lg.map (·.1)).Nodup ∧ ∀ x ∈ lg, x.2.length = 64 ∧ ∃ t : Nat, t < 20 ∧ x.1 = 398 + (t : Int) ∧ S.getD t false = true) ∧ Aside0 (Below w.heap.size w wr) ∧ Aside0 (wS ≤ wr.heap.size))
              case atStart => exact ⟨0, [], z20, H, rfl, by omega, by simp, ⟨rfl⟩, N4, A4, C17, ⟨by decide, by simp, by simp⟩, BW4, ⟨HRW.out.2⟩⟩
              case round =>
                clear N4 A4 C17 BW4 H
                obtain ⟨mm, lg, S, H, rfl, hm20, hlm, HG2, HN, HA, HC, HK, HB, HSZ⟩ := hrel
                obtain ⟨ad, Bl, cl, rfl, e0, hcl, hby⟩ := at_Ls (Kd.C_below HL.out HB.out) i hl1
                obtain ⟨x, hx⟩ : ∃ x, x = rdS l i := ⟨_, rfl⟩
                rw [← hx] at e0 hby hcl
                have HX := Aside0.mk (show ∀ y ∈ x, 0 ≤ y ∧ y < 256 from by rw [hx]; exact HGG.out _ (List.mem_of_getElem? (rdS_get hl1)))
                have HBY := Aside0.mk hby
                have hxl : x.length ≤ 9223372036854775807 := hby.1
                obtain ⟨bb2, hbb⟩ : ∃ bb, bb = decide (mm < x.length ∧ mm < 20) := ⟨_, rfl⟩
                have HBB2 := Aside0.mk hbb
                clear hbb hx hby
                go_upto_region 24 with (fail)
                go_cut [99] (fun s99 wx => s99 = .bool bb2 ∧ wx = wr)
                case first =>
                  by_cases q1 : mm < x.length
                  · have q1' : (mm : Int) < (x.length : Int) := by omega
                    by_cases q2 : mm < 20
                    · have q2' : (mm : Int) < 20 := by omega
                      have HE := Aside0.mk (show bb2 = true by rw [HBB2.out]; exact decide_eq_true ⟨q1, q2⟩)
                      clear q1 q2
                      go_wp2
                      go_meet
                      case rel => exact ⟨by rw [HE.out], rfl⟩
                    · have q2' : ¬ (mm : Int) < 20 := by omega
                      have HE := Aside0.mk (show bb2 = false by rw [HBB2.out]; exact decide_eq_false (fun h => q2 h.2))
                      clear q1 q2
                      go_wp2
                      go_meet
                      case rel => exact ⟨by rw [HE.out], rfl⟩
                  · have q1' : ¬ (mm : Int) < (x.length : Int) := by omega
                    have HE := Aside0.mk (show bb2 = false by rw [HBB2.out]; exact decide_eq_false (fun h => q1 h.1))
                    clear q1
                    go_wp2
                    go_meet
                    case rel => exact ⟨by rw [HE.out], rfl⟩
                obtain ⟨rfl, hwc⟩ := hcut
                rw [hwc]
                clear hwc wc
                cases bb2
                case false =>
                  clear e0 HBY HX HBB2
                  as_aux_lemma =>
                    clear HG2 HRW HF17 HHA
                    obtain ⟨A16, c16, rfl⟩ := Kd.N_slice HN.out
                    have FG := Aside0.mk (Kd.V_F (Kd.N_V (base' := 0) HN.out))
                    have hml : mayB 438 0 lg = true := by
                      rw [mayB_all HK.out.2.1 (fun x hx => by
                        obtain ⟨a1, t, a2, a3, _⟩ := HK.out.2.2 x hx
                        exact ⟨by omega, by omega, by omega, a1⟩)]
                      exact decide_eq_true (by omega)
                    have KEY := Aside0.mk (show ∀ x ∈ lg, 398 ≤ x.1 from fun x hx => by
                      obtain ⟨a1, t, a2, a3, _⟩ := HK.out.2.2 x hx
                      omega)
                    have HML := Aside0.mk hml
                    have p7 := heap_cell HA.out.c7 0 (.pointer (some ⟨j0, 0, none⟩)) rfl
                    clear hml HN HK HC HSZ
                    go_wp2_with fail
                    refine (commit_js (N := 438) (F := s.has) ⟨HA.out.d, HA.out.J0, HA.out.on, HA.out.len, HA.out.fuse, ⟨HA.out.h0, fun _ _ => rfl⟩⟩ (by omega) (by omega) (by omega) (by omega) (by omega) FG.out (fun k hk e => by
                      have a := HLT.out
                      have b1 := hk.1
                      rcases e with e | e | e
                      · have := a.1; omega
                      · have := a.2.1; omega
                      · have := a.2.2.2.2.2.2.1; omega) HML.out).mono ?_
                    rintro e w5 ⟨rfl, ⟨s5, hj⟩, hf⟩
                    have hjo : ¬ DJ b m j0 j1 := fun e => by
                      rcases e with e | e | e
                      · exact ne_types HA.out.J1 HA.out.d.1 (by decide) e
                      · obtain ⟨es, kk, hm⟩ := HA.out.d.map; exact ne_cells_map HA.out.J1 hm e
                      · exact JIs.two HA.out.J0 HA.out.J1 e.symm
                    have hq12 : ¬ DJ b m j0 q12 := fun e => by
                      rcases e with e | e | e
                      · exact ne_types HA.out.c12 HA.out.d.1 (by decide) e
                      · obtain ⟨es, kk, hm⟩ := HA.out.d.map; exact ne_cells_map HA.out.c12 hm e
                      · exact ne_types HA.out.c12 HA.out.J0 (by decide) e
                    have hq6 : ¬ DJ b m j0 q6 := fun e => by
                      rcases e with e | e | e
                      · exact ne_types HA.out.c6 HA.out.d.1 (by decide) e
                      · obtain ⟨es, kk, hm⟩ := HA.out.d.map; exact ne_cells_map HA.out.c6 hm e
                      · exact ne_types HA.out.c6 HA.out.J0 (by decide) e
                    have h12 := (hf.block q12 (blk_lt HA.out.c12) hq12).trans HA.out.c12
                    have h6 := (hf.block q6 (blk_lt HA.out.c6) hq6).trans HA.out.c6
                    have p12 := heap_cell h12 0 (.int .i64 n0) rfl
                    have f12 := heap_frozen h12 0 (.int .i64 n0) rfl
                    obtain ⟨w6, hw6⟩ : ∃ w6, w6 = w5.setCell ⟨q12, 0, none⟩ (.int .i64 (n0 + 1)) := ⟨_, rfl⟩
                    have he : ∀ k, k ≠ q12 → w6.heap[k]? = w5.heap[k]? := fun k hk => by rw [hw6]; exact Below.heap_setCell w5 ⟨q12, 0, none⟩ _ k hk
                    have hne12 := hj.d.ne_q h12 (by decide)
                    have hJk : JIs w6 j0 b 0 (n0 + 1) := (he j0 (ne_types hj.j h12 (by decide))).trans hj.j
                    have hJo5 : JIs w5 j1 b 199 n1 := HA.out.J1.fr hf hjo
                    have hJo : JIs w6 j1 b 199 n1 := (he j1 (ne_types hJo5 h12 (by decide))).trans hJo5
                    have hho : s5.has 199 = headB n1 0 := by
                      rw [hj.idle.vis 199 (by unfold Own; omega), puts_far _ _ _ (fun x hx e => by have := KEY.out x hx; omega)]
                      exact HA.out.h1
                    have A6 := Aside0.mk (HA.out.set12 HQ2.out.2.2 (W' := w6) (s' := s5) (hj.d.step (he b hne12.1) (he m hne12.2)) hj.on hj.len hj.fuse
                      (fun k a1 a2 a3 a4 a5 a6 => (he k a5).trans (hf.block k a6 (fun e => by rcases e with e | e | e; exact a1 e; exact a2 e; exact a3 e)))
                      (by rw [hw6]; exact heap_set1 h12 0 _ (by simp)) hJk hJo hj.idle.head hho (G' := s5.has) (fun u hu => hj.idle.vis _ (by unfold Own; omega)))
                    have B6 := Aside0.mk (show Below w.heap.size w w6 from by
                      rw [hw6]
                      exact (HB.out.trans (hf.below HB.out.size (fun k hk => by have := HBM.out; have := HJL.out; rcases hk with e | e | e <;> omega))).setCell (p := ⟨q12, 0, none⟩) HQ2.out.1 _)
                    have p6 : w6.cell? ⟨q6, 1, none⟩ = some (.int .i64 199) := heap_cell ((he q6 HQ2.out.2.2).trans h6) 1 (.int .i64 199) rfl
                    clear p7 hjo hq12 hq6 h12 h6 he hne12 hJk hJo5 hJo hho hj hf HA HB FG HML KEY
                    have hwn : IntKind.i64.wrap (n0 + 1) = n0 + 1 := IntWalk.i64_in _ (by omega)
                    go_upto_region 33 with (fail)
                    rw [← hw6]
                    clear hw6 p12 f12 hwn
                    go_wp2_with fail
                    refine (open_js A6.out.d A6.out.on A6.out.len A6.out.fuse ⟨A6.out.h1, fun _ _ => rfl⟩ (by omega) (by omega) (by omega) (by omega) (by omega)).mono ?_
                    rintro e w7 ⟨jb', rfl, hjl, hj, hf⟩
                    have hJ0 : JIs w7 j0 b 0 (n0 + 1) := A6.out.J0.fr hf (fun e => A6.out.J0.ne A6.out.d e)
                    have hJ1 : JIs w7 j1 b 199 n1 := A6.out.J1.fr hf (fun e => A6.out.J1.ne A6.out.d e)
                    have hq12 := A6.out.d.ne_q A6.out.c12 (by decide)
                    have h12 := (hf.block q12 (blk_lt A6.out.c12) (fun e => e.elim (fun e => hq12.1 e.symm) (fun e => hq12.2 e.symm))).trans A6.out.c12
                    have A7 := Aside0.mk (A6.out.set12 HQ2.out.2.2 (W' := w7) (s' := s5) hj.d A6.out.on A6.out.len A6.out.fuse
                      (fun k a1 a2 a3 a4 a5 a6 => hf.block k a6 (fun e => e.elim a1 a2)) h12 hJ0 hJ1 A6.out.h0 A6.out.h1 (G' := s5.has) (fun u hu => rfl))
                    have J7 := Aside0.mk hj.j
                    have B7 := Aside0.mk (B6.out.trans (hf.below B6.out.size (fun k hk => by have := HBM.out; rcases hk with e | e <;> omega)))
                    have HJ7 := Aside0.mk (Nat.le_trans B6.out.size hjl)
                    clear hJ0 hJ1 hq12 h12 hjl hj hf A6 B6 p6
                    go_upto_region 34 with (fail)
                    have p120 := heap_cell A7.out.c12 0 (.int .i64 (n0 + 1)) rfl
                    have p121 := heap_cell A7.out.c12 1 (.int .i64 n1) rfl
                    have p7 := heap_cell A7.out.c7 0 (.pointer (some ⟨j0, 0, none⟩)) rfl
                    have hnn0 : ((n0 + 1) != (n0 + 1)) = false := by simp
                    have hwq : wrap64 1 = 1 := wrap_in (by omega) (by omega)
                    have hnn1 : (n1 != n1) = false := by simp
                    refine start_ (n := 29) (S := fun w' => w'.cell? ⟨q12, 0, none⟩ = some (.int .i64 (n0 + 1)) ∧ w'.cell? ⟨q12, 1, none⟩ = some (.int .i64 n1) ∧ w'.cell? ⟨q7, 0, none⟩ = some (.pointer (some ⟨j0, 0, none⟩))) (ds := []) #[false, false, false, false, false, false, false, false, false, false, false, false, false, false, false, false, false, false, false, false, false, false, false, false, false, false, false, false, false] (by kernel_rfl) rfl rfl ⟨p120, p121, p7⟩ (fun hHeld => ?_)
                    refine pure_ (i := 0) (N := some 157) (v := ?_) (a' := ?_) #[true, false, false, false, false, false, false, false, false, false, false, false, false, false, false, false, false, false, false, false, false, false, false, false, false, false, false, false, false] rfl rfl (by kernel_rfl) (fun _ _ _ h => h) (Or.inl ⟨by rfl, ?_⟩) ?_ ?_
                    rotate_left
                    · intro w'
                      go_simp
                      with_reducible rfl
                    rotate_left
                    · simp only [Act.put, List.setIfInBounds_toArray, List.set_cons_zero, List.set_cons_succ, i64_w, i32_w]
                      rfl
                    refine pure_ (i := 1) (N := some 158) (v := ?_) (a' := ?_) #[true, true, false, false, false, false, false, false, false, false, false, false, false, false, false, false, false, false, false, false, false, false, false, false, false, false, false, false, false] rfl rfl (by kernel_rfl) (fun _ _ _ h => h) (Or.inl ⟨by rfl, ?_⟩) ?_ ?_
                    rotate_left
                    · intro w'
                      go_simp
                      with_reducible rfl
                    rotate_left
                    · simp only [Act.put, List.setIfInBounds_toArray, List.set_cons_zero, List.set_cons_succ, i64_w, i32_w]
                      rfl
                    refine pure_ (i := 2) (N := some 159) (v := ?_) (a' := ?_) #[true, true, true, false, false, false, false, false, false, false, false, false, false, false, false, false, false, false, false, false, false, false, false, false, false, false, false, false, false] rfl rfl (by kernel_rfl) (fun _ _ _ h => h) (Or.inl ⟨by rfl, ?_⟩) ?_ ?_
                    rotate_left
                    · intro w'
                      go_simp
                      with_reducible rfl
                    rotate_left
                    · simp only [Act.put, List.setIfInBounds_toArray, List.set_cons_zero, List.set_cons_succ, i64_w, i32_w]
                      rfl
                    refine pure_ (i := 3) (N := some 160) (v := ?_) (a' := ?_) #[true, true, true, true, false, false, false, false, false, false, false, false, false, false, false, false, false, false, false, false, false, false, false, false, false, false, false, false, false] rfl rfl (by kernel_rfl) (fun _ _ _ h => h) (Or.inl ⟨by rfl, ?_⟩) ?_ ?_
                    rotate_left
                    · intro w'
                      go_simp
                      with_reducible rfl
                    rotate_left
                    · simp only [Act.put, List.setIfInBounds_toArray, List.set_cons_zero, List.set_cons_succ, i64_w, i32_w]
                      rfl
                    refine pure_ (i := 4) (N := some 161) (v := ?_) (a' := ?_) #[true, true, true, true, true, false, false, false, false, false, false, false, false, false, false, false, false, false, false, false, false, false, false, false, false, false, false, false, false] rfl rfl (by kernel_rfl) (fun _ _ _ h => h) (Or.inl ⟨by rfl, ?_⟩) ?_ ?_
                    rotate_left
                    · intro w'
                      go_simp
                      with_reducible rfl
                    rotate_left
                    · simp only [Act.put, List.setIfInBounds_toArray, List.set_cons_zero, List.set_cons_succ, i64_w, i32_w]
                      rfl
                    refine pure_ (i := 5) (N := some 162) (v := ?_) (a' := ?_) #[true, true, true, true, true, true, false, false, false, false, false, false, false, false, false, false, false, false, false, false, false, false, false, false, false, false, false, false, false] rfl rfl (by kernel_rfl) (fun _ _ _ h => h) (Or.inl ⟨by rfl, ?_⟩) ?_ ?_
                    rotate_left
                    · intro w'
                      go_simp
                      with_reducible rfl
                    rotate_left
                    · simp only [Act.put, List.setIfInBounds_toArray, List.set_cons_zero, List.set_cons_succ, i64_w, i32_w]
                      rfl
                    refine pure_ (i := 6) (N := some 163) (v := ?_) (a' := ?_) #[true, true, true, true, true, true, true, false, false, false, false, false, false, false, false, false, false, false, false, false, false, false, false, false, false, false, false, false, false] rfl rfl (by kernel_rfl) (fun _ _ _ h => h) (Or.inl ⟨by rfl, ?_⟩) ?_ ?_
                    rotate_left
                    · intro w'
                      go_simp
                      with_reducible rfl
                    rotate_left
                    · simp only [Act.put, List.setIfInBounds_toArray, List.set_cons_zero, List.set_cons_succ, i64_w, i32_w]
                      rfl
                    refine pure_ (i := 7) (N := some 164) (v := ?_) (a' := ?_) #[true, true, true, true, true, true, true, true, false, false, false, false, false, false, false, false, false, false, false, false, false, false, false, false, false, false, false, false, false] rfl rfl (by kernel_rfl) (fun _ _ _ h => h) (Or.inl ⟨by rfl, ?_⟩) ?_ ?_
                    rotate_left
                    · intro w'
                      go_simp
                      with_reducible rfl
                    rotate_left
                    · simp only [Act.put, List.setIfInBounds_toArray, List.set_cons_zero, List.set_cons_succ, i64_w, i32_w]
                      rfl
                    refine pure_ (i := 8) (N := some 165) (v := ?_) (a' := ?_) #[true, true, true, true, true, true, true, true, true, false, false, false, false, false, false, false, false, false, false, false, false, false, false, false, false, false, false, false, false] rfl rfl (by kernel_rfl) (fun _ _ _ h => h) (Or.inl ⟨by rfl, ?_⟩) ?_ ?_
                    rotate_left
                    · intro w'
                      go_simp
                      with_reducible rfl
                    rotate_left
                    · simp only [Act.put, List.setIfInBounds_toArray, List.set_cons_zero, List.set_cons_succ, i64_w, i32_w]
                      rfl
                    refine pure_ (i := 9) (N := some 166) (v := ?_) (a' := ?_) #[true, true, true, true, true, true, true, true, true, true, false, false, false, false, false, false, false, false, false, false, false, false, false, false, false, false, false, false, false] rfl rfl (by kernel_rfl) (fun _ _ _ h => h) (Or.inl ⟨by rfl, ?_⟩) ?_ ?_
                    rotate_left
                    · intro w'
                      go_simp
                      with_reducible rfl
                    rotate_left
                    · simp only [Act.put, List.setIfInBounds_toArray, List.set_cons_zero, List.set_cons_succ, i64_w, i32_w]
                      rfl
                    refine pure_ (i := 10) (N := some 167) (v := ?_) (a' := ?_) #[true, true, true, true, true, true, true, true, true, true, true, false, false, false, false, false, false, false, false, false, false, false, false, false, false, false, false, false, false] rfl rfl (by kernel_rfl) (fun _ _ _ h => h) (Or.inl ⟨by rfl, ?_⟩) ?_ ?_
                    rotate_left
                    · intro w'
                      go_simp
                      with_reducible rfl
                    rotate_left
                    · simp only [Act.put, List.setIfInBounds_toArray, List.set_cons_zero, List.set_cons_succ, i64_w, i32_w]
                      rfl
                    refine pure_ (i := 11) (N := some 168) (v := ?_) (a' := ?_) #[true, true, true, true, true, true, true, true, true, true, true, true, false, false, false, false, false, false, false, false, false, false, false, false, false, false, false, false, false] rfl rfl (by kernel_rfl) (fun _ _ _ h => h) (Or.inl ⟨by rfl, ?_⟩) ?_ ?_
                    rotate_left
                    · intro w'
                      go_simp
                      with_reducible rfl
                    rotate_left
                    · simp only [Act.put, List.setIfInBounds_toArray, List.set_cons_zero, List.set_cons_succ, i64_w, i32_w]
                      rfl
                    refine pure_ (i := 13) (N := some 170) (v := ?_) (a' := ?_) #[true, true, true, true, true, true, true, true, true, true, true, true, false, true, false, false, false, false, false, false, false, false, false, false, false, false, false, false, false] rfl rfl (by kernel_rfl) (fun _ _ _ h => h) (Or.inl ⟨by rfl, ?_⟩) ?_ ?_
                    rotate_left
                    · intro w'
                      go_simp
                      with_reducible rfl
                    rotate_left
                    · simp only [Act.put, List.setIfInBounds_toArray, List.set_cons_zero, List.set_cons_succ, i64_w, i32_w]
                      rfl
                    refine pure_ (i := 14) (N := some 171) (v := ?_) (a' := ?_) #[true, true, true, true, true, true, true, true, true, true, true, true, false, true, true, false, false, false, false, false, false, false, false, false, false, false, false, false, false] rfl rfl (by kernel_rfl) (fun _ _ _ h => h) (Or.inl ⟨by rfl, ?_⟩) ?_ ?_
                    rotate_left
                    · intro w'
                      go_simp
                      with_reducible rfl
                    rotate_left
                    · simp only [Act.put, List.setIfInBounds_toArray, List.set_cons_zero, List.set_cons_succ, i64_w, i32_w]
                      rfl
                    refine pure_ (i := 15) (N := some 172) (v := ?_) (a' := ?_) #[true, true, true, true, true, true, true, true, true, true, true, true, false, true, true, true, false, false, false, false, false, false, false, false, false, false, false, false, false] rfl rfl (by kernel_rfl) (fun _ _ _ h => h) (Or.inl ⟨by rfl, ?_⟩) ?_ ?_
                    rotate_left
                    · intro w'
                      go_simp
                      with_reducible rfl
                    rotate_left
                    · simp only [Act.put, List.setIfInBounds_toArray, List.set_cons_zero, List.set_cons_succ, i64_w, i32_w]
                      rfl
                    refine take_ (i := 16) (N := some 173) (v := ?_) (a' := ?_) #[true, true, true, true, true, true, true, true, true, true, true, true, false, true, true, true, true, false, false, false, false, false, false, false, false, false, false, false, false] rfl rfl (by kernel_rfl) (fun _ _ _ h => h) (Or.inl ⟨by rfl, ?_⟩) hHeld ?_ ?_
                    rotate_left
                    · rintro w' ⟨s0, s1, s2⟩
                      go_simp
                      with_reducible rfl
                    rotate_left
                    · simp only [Act.put, List.setIfInBounds_toArray, List.set_cons_zero, List.set_cons_succ, i64_w, i32_w]
                      rfl
                    refine one_ (i := 12) (N := some 169) #[true, true, true, true, true, true, true, true, true, true, true, true, true, true, true, true, true, false, false, false, false, false, false, false, false, false, false, false, false] rfl rfl (by kernel_rfl) (by decide) (fun K hK => ?_)
                    refine goes_ Try.func12 (by kernel_rfl) rfl #[.pointer (some ⟨jb', 0, none⟩)] (by rfl) rfl rfl (by simp only [List.map_toArray, List.map_cons, List.map_nil]; rfl) ?_
                    refine (groups_any jb' b 199 n1 w7.drew J7.out).mono ?_
                    rintro e wg ⟨rfl, rfl⟩
                    refine ⟨_, rfl, ?_⟩
                    refine hK.out _ _ ⟨p120, p121, p7⟩ (fun hHeld => ?_)
                    clear hK K
                    refine norm_ (a' := ?_) ?_ ?_
                    rotate_left
                    · show Act.put _ (some 169) _ = _
                      simp only [Act.put, List.setIfInBounds_toArray, List.set_cons_zero, List.set_cons_succ, i64_w, i32_w]
                      rfl
                    refine pure_ (i := 17) (N := some 174) (v := ?_) (a' := ?_) #[true, true, true, true, true, true, true, true, true, true, true, true, true, true, true, true, true, true, false, false, false, false, false, false, false, false, false, false, false] rfl rfl (by kernel_rfl) (fun _ _ _ h => h) (Or.inl ⟨by rfl, ?_⟩) ?_ ?_
                    rotate_left
                    · intro w'
                      go_simp
                      with_reducible rfl
                    rotate_left
                    · simp only [Act.put, List.setIfInBounds_toArray, List.set_cons_zero, List.set_cons_succ, i64_w, i32_w]
                      rfl
                    refine pure_ (i := 18) (N := some 175) (v := ?_) (a' := ?_) #[true, true, true, true, true, true, true, true, true, true, true, true, true, true, true, true, true, true, true, false, false, false, false, false, false, false, false, false, false] rfl rfl (by kernel_rfl) (fun _ _ _ h => h) (Or.inl ⟨by rfl, ?_⟩) ?_ ?_
                    rotate_left
                    · intro w'
                      go_simp
                      with_reducible rfl
                    rotate_left
                    · simp only [Act.put, List.setIfInBounds_toArray, List.set_cons_zero, List.set_cons_succ, i64_w, i32_w]
                      rfl
                    refine pure_ (i := 19) (N := some 176) (v := ?_) (a' := ?_) #[true, true, true, true, true, true, true, true, true, true, true, true, true, true, true, true, true, true, true, true, false, false, false, false, false, false, false, false, false] rfl rfl (by kernel_rfl) (fun _ _ _ h => h) (Or.inl ⟨by rfl, ?_⟩) ?_ ?_
                    rotate_left
                    · intro w'
                      go_simp
                      with_reducible rfl
                    rotate_left
                    · simp only [Act.put, List.setIfInBounds_toArray, List.set_cons_zero, List.set_cons_succ, i64_w, i32_w]
                      rfl
                    refine pure_ (i := 20) (N := some 177) (v := ?_) (a' := ?_) #[true, true, true, true, true, true, true, true, true, true, true, true, true, true, true, true, true, true, true, true, true, false, false, false, false, false, false, false, false] rfl rfl (by kernel_rfl) (fun _ _ _ h => h) (Or.inl ⟨by rfl, ?_⟩) ?_ ?_
                    rotate_left
                    · intro w'
                      go_simp
                      with_reducible rfl
                    rotate_left
                    · simp only [Act.put, List.setIfInBounds_toArray, List.set_cons_zero, List.set_cons_succ, i64_w, i32_w]
                      rfl
                    refine pure_ (i := 21) (N := some 178) (v := ?_) (a' := ?_) #[true, true, true, true, true, true, true, true, true, true, true, true, true, true, true, true, true, true, true, true, true, true, false, false, false, false, false, false, false] rfl rfl (by kernel_rfl) (fun _ _ _ h => h) (Or.inl ⟨by rfl, ?_⟩) ?_ ?_
                    rotate_left
                    · intro w'
                      go_simp
                      with_reducible rfl
                    rotate_left
                    · simp only [Act.put, List.setIfInBounds_toArray, List.set_cons_zero, List.set_cons_succ, i64_w, i32_w]
                      rfl
                    refine pure_ (i := 24) (N := some 181) (v := ?_) (a' := ?_) #[true, true, true, true, true, true, true, true, true, true, true, true, true, true, true, true, true, true, true, true, true, true, false, false, true, false, false, false, false] rfl rfl (by kernel_rfl) (fun _ _ _ h => h) (Or.inl ⟨by rfl, ?_⟩) ?_ ?_
                    rotate_left
                    · intro w'
                      go_simp
                      with_reducible rfl
                    rotate_left
                    · simp only [Act.put, List.setIfInBounds_toArray, List.set_cons_zero, List.set_cons_succ, i64_w, i32_w]
                      rfl
                    refine pure_ (i := 25) (N := some 182) (v := ?_) (a' := ?_) #[true, true, true, true, true, true, true, true, true, true, true, true, true, true, true, true, true, true, true, true, true, true, false, false, true, true, false, false, false] rfl rfl (by kernel_rfl) (fun _ _ _ h => h) (Or.inl ⟨by rfl, ?_⟩) ?_ ?_
                    rotate_left
                    · intro w'
                      go_simp
                      with_reducible rfl
                    rotate_left
                    · simp only [Act.put, List.setIfInBounds_toArray, List.set_cons_zero, List.set_cons_succ, i64_w, i32_w]
                      rfl
                    refine take_ (i := 22) (N := some 179) (v := ?_) (a' := ?_) #[true, true, true, true, true, true, true, true, true, true, true, true, true, true, true, true, true, true, true, true, true, true, true, false, true, true, false, false, false] rfl rfl (by kernel_rfl) (fun _ _ _ h => h) (Or.inl ⟨by rfl, ?_⟩) hHeld ?_ ?_
                    rotate_left
                    · rintro w' ⟨s0, s1, s2⟩
                      go_simp
                      with_reducible rfl
                    rotate_left
                    · simp only [Act.put, List.setIfInBounds_toArray, List.set_cons_zero, List.set_cons_succ, i64_w, i32_w]
                      rfl
                    refine take_ (i := 26) (N := some 183) (v := ?_) (a' := ?_) #[true, true, true, true, true, true, true, true, true, true, true, true, true, true, true, true, true, true, true, true, true, true, true, false, true, true, true, false, false] rfl rfl (by kernel_rfl) (fun _ _ _ h => h) (Or.inl ⟨by rfl, ?_⟩) hHeld ?_ ?_
                    rotate_left
                    · rintro w' ⟨s0, s1, s2⟩
                      go_simp
                      with_reducible rfl
                    rotate_left
                    · simp only [Act.put, List.setIfInBounds_toArray, List.set_cons_zero, List.set_cons_succ, i64_w, i32_w]
                      rfl
                    refine one_ (i := 23) (N := some 180) #[true, true, true, true, true, true, true, true, true, true, true, true, true, true, true, true, true, true, true, true, true, true, true, true, true, true, true, false, false] rfl rfl (by kernel_rfl) (by decide) (fun K hK => ?_)
                    refine goes_ Try.func12 (by kernel_rfl) rfl #[.pointer (some ⟨j0, 0, none⟩)] (by rfl) rfl rfl (by simp only [List.map_toArray, List.map_cons, List.map_nil]; rfl) ?_
                    refine (groups_any j0 b 0 (n0 + 1) w7.drew A7.out.J0).mono ?_
                    rintro e wg ⟨rfl, rfl⟩
                    refine ⟨_, rfl, ?_⟩
                    refine hK.out _ _ ⟨p120, p121, p7⟩ (fun hHeld => ?_)
                    clear hK K
                    refine norm_ (a' := ?_) ?_ ?_
                    rotate_left
                    · show Act.put _ (some 180) _ = _
                      simp only [Act.put, List.setIfInBounds_toArray, List.set_cons_zero, List.set_cons_succ, i64_w, i32_w]
                      rfl
                    refine pure_ (i := 27) (N := some 184) (v := ?_) (a' := ?_) #[true, true, true, true, true, true, true, true, true, true, true, true, true, true, true, true, true, true, true, true, true, true, true, true, true, true, true, true, false] rfl rfl (by kernel_rfl) (fun _ _ _ h => h) (Or.inl ⟨by rfl, ?_⟩) ?_ ?_
                    rotate_left
                    · intro w'
                      go_simp
                      with_reducible rfl
                    rotate_left
                    · simp only [Act.put, List.setIfInBounds_toArray, List.set_cons_zero, List.set_cons_succ, i64_w, i32_w]
                      rfl
                    refine pure_ (i := 28) (N := some 185) (v := ?_) (a' := ?_) #[true, true, true, true, true, true, true, true, true, true, true, true, true, true, true, true, true, true, true, true, true, true, true, true, true, true, true, true, true] rfl rfl (by kernel_rfl) (fun _ _ _ h => h) (Or.inl ⟨by rfl, ?_⟩) ?_ ?_
                    rotate_left
                    · intro w'
                      go_simp
                      with_reducible rfl
                    rotate_left
                    · simp only [Act.put, List.setIfInBounds_toArray, List.set_cons_zero, List.set_cons_succ, i64_w, i32_w]
                      rfl
                    refine done_ (by kernel_rfl) ?_
                    have A8 := Aside0.mk (A7.out.below (below_drew (Below.refl _ w7)))
                    have f7 := heap_frozen A8.out.c7 1 (.pointer (some ⟨j1, 0, none⟩)) rfl
                    have k7 := heap_cell A8.out.c7 1 (.pointer (some ⟨j1, 0, none⟩)) rfl
                    have A9 := Aside0.mk (A8.out.setJ1 (j' := jb') J7.out HQ.out.2.2)
                    have B9 := Aside0.mk ((below_drew B7.out).setCell (p := ⟨q7, 1, none⟩) HQ.out.2.1 (.pointer (some ⟨jb', 0, none⟩)))
                    have JL9 := Aside0.mk (show w.heap.size ≤ j0 ∧ w.heap.size ≤ jb' from ⟨HJL.out.1, HJ7.out⟩)
                    clear A7 A8 B7 J7 HJ7 p120 p121 p7 hnn0 hnn1 hHeld hwq
                    go_wp2
                    go_roundg (30 - (i + 1))
                    case measure => have := HG.out; omega
                    case rel => exact ⟨i + 1, s5, j0, jb', n0 + 1, n1, H, by go_num, by omega, by omega, by omega, by omega, by omega, by omega, ⟨rfl⟩, A9, B9, JL9⟩
                case true =>
                  obtain ⟨hl3, hl4⟩ := of_decide_eq_true HBB2.out.symm
                  have hl3' : (mm : Int) < (x.length : Int) := by omega
                  obtain ⟨ad2, rfl, hBy⟩ := HBY.out.2 (by omega)
                  obtain ⟨y, hy⟩ : ∃ y, x[mm]? = some y := ⟨_, List.getElem?_eq_getElem hl3⟩
                  have e1 := hBy mm y hy
                  obtain ⟨hy0, hy1⟩ := HX.out y (List.mem_of_getElem? hy)
                  obtain ⟨t, ht⟩ : ∃ t : Nat, (t : Int) = y % 20 := ⟨(y % 20).toNat, by omega⟩
                  have hty : y % 20 = (t : Int) := ht.symm
                  have ht20 : (t : Int) < 20 := by omega
                  obtain ⟨sb, hsb⟩ : ∃ sb, sb = S.getD t false := ⟨_, rfl⟩
                  have c17 := heap_cell HC.out t (.bool sb) (by rw [hsb]; exact boolc_get (by have := HK.out.1; omega))
                  have f17 := heap_frozen HC.out t (.bool sb) (by rw [hsb]; exact boolc_get (by have := HK.out.1; omega))
                  have HS := Aside0.mk hsb
                  clear hBy hy ht hsb HBB2 HBY HX
                  cases sb
                  case true =>
                    go_wp2
                    go_roundg (20 - (mm + 1))
                    case measure => have := HG2.out; omega
                    case rel => exact ⟨mm + 1, lg, S, H, by go_num, by omega, by omega, ⟨rfl⟩, HN, HA, HC, HK, HB, HSZ⟩
                  case false =>
                    have hu40 : t < H.length := by rw [HA.out.hl]; omega
                    have h17 : q13 ≠ q17 := ne_types HA.out.c13 HC.out (by decide)
                    have c13' := (Below.heap_setCell wr ⟨q17, t, none⟩ (.bool true) q13 h17).trans HA.out.c13
                    have f13 := heap_frozen c13' t (.int .u8 (H.getD t 0)) (blkc_getD hu40)
                    have k13 := heap_cell c13' t (.int .u8 (H.getD t 0)) (blkc_getD hu40)
                    clear c13' hu40
                    go_wp2_with fail
                    refine (full_any ((i : Int) + 1) 3 _).mono ?_
                    obtain ⟨w5, hw5⟩ : ∃ w5, w5 = (wr.setCell ⟨q17, t, none⟩ (.bool true)).setCell ⟨q13, t, none⟩ (.int .u8 ((i : Int) + 1)) := ⟨_, rfl⟩
                    rw [← hw5]
                    have hA1 := HA.out.fr (Fr.one q17 t (.bool true) wr) HF17.out
                    obtain ⟨pb, hpb⟩ : ∃ pb : PutT, pb = (398 + (t : Int), fullB ((i : Int) + 1) 3) := ⟨_, rfl⟩
                    have hA5 : AM b m q6 q7 q12 q13 s j0 j1 n0 n1 (H.set t ((i : Int) + 1)) (puts s.has (lg ++ [pb])) w5 := by
                      rw [hw5]
                      refine hA1.set13 t ((i : Int) + 1) (fun x hx hp => ?_)
                      rw [puts_append, hpb]
                      simp only [puts, upd]
                      by_cases hxu : x = t
                      · rw [if_pos (by omega)]
                        rw [hxu, List.getD_eq_getElem?_getD, List.getElem?_set_self (by rw [HA.out.hl]; omega)]
                        rfl
                      · rw [if_neg (by omega)]
                        have e : (H.set t ((i : Int) + 1)).getD x 0 = H.getD x 0 := by
                          rw [List.getD_eq_getElem?_getD, List.getElem?_set_ne (fun e => hxu e.symm), List.getD_eq_getElem?_getD]
                        rw [e] at hp ⊢
                        exact HA.out.data x hx hp
                    have hC5 : w5.heap[q17]? = some (.cells (boolc (S.set t true)) 36 (0, 0)) := by
                      rw [hw5, ← boolc_set]
                      exact (Below.heap_setCell _ ⟨q13, t, none⟩ _ q17 h17.symm).trans (heap_set1 HC.out t _ (by rw [boolc_size, HK.out.1]; omega))
                    have hN5 : Kd.N kP 40 w5 wS (fun k => wS ≤ k ∧ k ≠ q17) u16 lg := by
                      rw [hw5]
                      refine Kd.N_far (Kd.N_far HN.out (p := ⟨q17, t, none⟩) (fun k hk => hk.2) _) (p := ⟨q13, t, none⟩) (fun k hk e => ?_) _
                      have a1 := HLT.out.2.2.2.2.2.1
                      have a2 := hk.1
                      rw [e] at a2
                      exact absurd a1 (Nat.not_lt.2 a2)
                    have hB5 : Below w.heap.size w w5 := by
                      rw [hw5]
                      exact (HB.out.setCell (p := ⟨q17, t, none⟩) (show w.heap.size ≤ q17 from Nat.le_trans HWS.out HRW.out.1) _).setCell (p := ⟨q13, t, none⟩) HQ2.out.2.1 _
                    have hsz5 : w5.heap.size = wr.heap.size := by rw [hw5]; simp [World.setCell]
                    have HK5 := Aside0.mk (show (S.set t true).length = 20 ∧ ((lg ++ [pb]).map (·.1)).Nodup ∧ ∀ x ∈ lg ++ [pb], x.2.length = 64 ∧ ∃ t' : Nat, t' < 20 ∧ x.1 = 398 + (t' : Int) ∧ (S.set t true).getD t' false = true from by
                      have hget : ∀ t', t' < 20 → S.getD t' false = true → (S.set t true).getD t' false = true := fun t' h1 h2 => by
                        by_cases e : t = t'
                        · subst e; rw [List.getD_eq_getElem?_getD, List.getElem?_set_self (by rw [HK.out.1]; omega)]; rfl
                        · rw [List.getD_eq_getElem?_getD, List.getElem?_set_ne e, ← List.getD_eq_getElem?_getD]; exact h2
                      refine ⟨by rw [List.length_set]; exact HK.out.1, ?_, ?_⟩
                      · rw [List.map_append, List.nodup_append]
                        refine ⟨HK.out.2.1, by simp, ?_⟩
                        intro a ha b' hb' e
                        simp at hb'
                        subst hb'
                        obtain ⟨z, hz, rfl⟩ := List.mem_map.1 ha
                        obtain ⟨_, t', ht', hk', hs'⟩ := HK.out.2.2 z hz
                        have e2 : z.1 = 398 + (t : Int) := by rw [e, hpb]
                        have : t' = t := by omega
                        rw [this, ← HS.out] at hs'
                        cases hs'
                      · intro z hz
                        rcases List.mem_append.1 hz with hz | hz
                        · obtain ⟨a1, t', a2, a3, a4⟩ := HK.out.2.2 z hz
                          exact ⟨a1, t', a2, a3, hget t' a2 a4⟩
                        · rw [List.mem_singleton.1 hz, hpb]
                          refine ⟨fullB_len _ _, t, by omega, rfl, ?_⟩
                          rw [List.getD_eq_getElem?_getD, List.getElem?_set_self (by rw [HK.out.1]; omega)]
                          rfl)
                    rintro e w6 ⟨vf, rfl, hr, hb⟩
                    obtain ⟨Af, cf, rfl⟩ := Kd.R_slice hr
                    obtain ⟨f1, f2⟩ := full_F hr (Below.refl _ w6) (Nat.le_refl _)
                    have A6 := Aside0.mk (hA5.below hb)
                    have C6 := Aside0.mk ((hb.block _ (blk_lt hC5)).trans hC5)
                    have N6 := Aside0.mk (Kd.N_below hN5 hb)
                    have B6 := Aside0.mk (below_step hB5 hb)
                    have FK6 := Aside0.mk (show Kd.FK kP w6 (fun k => wr.heap.size ≤ k) pb [.int .i64 (398 + (t : Int)), .slice Af (fullB ((i : Int) + 1) 3).length cf] from by
                      rw [hpb]; exact FK_kP f1 (Kd.F_mono f2 (fun k hk => by rw [hsz5] at hk; exact hk)))
                    have SZ6 := Aside0.mk (show wr.heap.size ≤ w6.heap.size from by have := hb.size; omega)
                    have OW6 := Aside0.mk (show ∀ k, u16.ownBlock = some k → k < wr.heap.size from Kd.N_lt HN.out)
                    have Q6 := Aside0.mk (show q17 < wr.heap.size from blk_lt HC.out)
                    clear hA1 hA5 hC5 hN5 hB5 hsz5 hw5 hpb hr hb f1 f2 HA HC HN HB HK HS c17 f17 f13 k13 h17 e0 e1 hty ht20
                    go_wp2_with (first
                      | ((with_reducible refine gate_dst (N := 137) rfl ?_); refine Kd.N_append kP (w0 := w6) wS rfl (.tmp 125) (.tmp 136) 35 40 (.agg #[.int .i64 0, .slice none 0 0]) 32 rfl Try.underlying35 infoPut rfl (by decide) (by decide) u16 lg pb [.int .i64 (398 + (t : Int)), .slice Af (fullB ((i : Int) + 1) 3).length cf] (fun k => wS ≤ k ∧ k ≠ q17) (fun k => wr.heap.size ≤ k) rfl rfl FK6.out (fun k hk => ⟨⟨Nat.le_trans HSZ.out hk, by have := Q6.out; omega⟩, fun e => by have := OW6.out k e.symm; omega⟩) (fun k hk => ⟨by have := SZ6.out; have := HSZ.out; omega, by have := Q6.out; have := SZ6.out; omega⟩) N6.out (Below.refl _ _) (Nat.le_trans HSZ.out SZ6.out) (by omega) ?_; intro v1 w7 ho7 hb7 hg7 hat7; have N7 := Aside0.mk ho7; have A7 := Aside0.mk (A6.out.fr (Fr.of_belowB hb7 hg7.size) (by have a := HLT.out; exact ⟨Nat.not_le.2 a.1, Nat.not_le.2 a.2.1, Nat.not_le.2 a.2.2.1, Nat.not_le.2 a.2.2.2.1, Nat.not_le.2 a.2.2.2.2.1, Nat.not_le.2 a.2.2.2.2.2.1, Nat.not_le.2 a.2.2.2.2.2.2.1, Nat.not_le.2 a.2.2.2.2.2.2.2⟩)); have C7 := Aside0.mk ((hg7.block q17 (blk_lt C6.out) (fun e => (N6.out.1 q17 e.symm).2 rfl)).trans C6.out); have B7 := Aside0.mk (B6.out.trans (hb7.mono HWS.out)); have Z7 := Aside0.mk (show wS ≤ w7.heap.size from Nat.le_trans HSZ.out (Nat.le_trans SZ6.out hg7.size)); clear ho7 hb7 hg7 hat7)
                      | fail)
                    go_roundg (20 - (mm + 1))
                    case measure => have := HG2.out; omega
                    case rel => exact ⟨mm + 1, lg ++ [pb], S.set t true, H.set t ((i : Int) + 1), by go_num, by omega, by simp; omega, ⟨rfl⟩, N7, A7, C7, HK5, B7, Z7⟩
          case inr =>
            as_aux_lemma =>
              go_wp2_with (first
                | ((with_reducible refine gate_dst (N := 87) rfl ?_); refine Kd.N_lit kP wr.heap.size 40 ?hg (N' := 87) ?hd (xs := ([] : List PutT)) (inner := []) (ok := fun k => wr.heap.size ≤ k) (okp := fun k => False) ?hr ?hp (fun _ hk => hk.elim) (Nat.le_refl _) (Below.refl _ _) (Nat.le_refl _) (by simp) ?_; (case hd => rfl); (case hg => rfl); (case hr => first | (go_simp; done) | (go_simp; rfl)); (case hp => exact (Reps.none _ _)); intro v16 w3 ho3 hb3 hg3 hat3; have N3 := Aside0.mk ho3; have B3 := Aside0.mk hb3; clear ho3 hb3 hg3 hat3)
                | ((with_reducible refine gate_dst (N := 88) rfl ?_); refine Go.Great.wpList_runTo rfl (some 88) rfl (.agg (boolc z20)) _ (exec_build0 Try.underlying36 sizeB rfl zero20) ?_)
                | ((with_reducible refine gate_dst (N := 17) rfl ?_); refine alloc_agg 36 (boolc z20) zero20 rfl (some 17) rfl rfl ?_; refine Go.wpList_store_rowTo rfl 36 (.tmp 17) (.tmp 88) rfl rfl _ (boolc z20) rfl rfl 36 (boolc z20) (Go.heap_alloc_new _ _) size20 rfl (boolc_one z20) ?_; rw [World.setRow_alloc_new])
                | fail)
              obtain ⟨q17, hq17⟩ : ∃ q, q = w3.heap.size := ⟨_, rfl⟩
              rw [← hq17]
              obtain ⟨w4, hw4⟩ : ∃ w4, w4 = w3.alloc (Obj.cells (boolc z20) 36) := ⟨_, rfl⟩
              rw [← hw4]
              have hb4 : Below w3.heap.size w3 w4 := by rw [hw4]; exact (Below.refl _ w3).alloc (Nat.le_refl _) _
              have C17 := Aside0.mk (show w4.heap[q17]? = some (.cells (boolc z20) 36 (0, 0)) from by rw [hw4, hq17]; exact Go.heap_alloc_new _ _)
              have A3 := HA.out.below B3.out
              have hfar := A3.ge (Nat.le_refl _)
              rw [← hq17] at hfar
              have HF17 := Aside0.mk (show Far b m q6 q7 q12 q13 j0 j1 (fun k => k = q17) from ⟨fun e => hfar.1 (Nat.le_of_eq e.symm), fun e => hfar.2.1 (Nat.le_of_eq e.symm), fun e => hfar.2.2.1 (Nat.le_of_eq e.symm), fun e => hfar.2.2.2.1 (Nat.le_of_eq e.symm), fun e => hfar.2.2.2.2.1 (Nat.le_of_eq e.symm), fun e => hfar.2.2.2.2.2.1 (Nat.le_of_eq e.symm), fun e => hfar.2.2.2.2.2.2.1 (Nat.le_of_eq e.symm), fun e => hfar.2.2.2.2.2.2.2 (Nat.le_of_eq e.symm)⟩)
              have A4 := Aside0.mk (A3.below hb4)
              have N4 := Aside0.mk (show Kd.N kP 40 w4 wr.heap.size (fun k => wr.heap.size ≤ k ∧ k ≠ q17) v16 [] from Kd.N_mono (Kd.N_below (Kd.N_bound N3.out) hb4) (fun k hk => ⟨hk.1, by have := hk.2; omega⟩))
              have BW4 := Aside0.mk (below_step HB.out (below_step B3.out hb4))
              have HWR := Aside0.mk (show HA.out.lt = HA.out.lt from rfl)
              have HLT := Aside0.mk HA.out.lt
              have HRW := Aside0.mk (show wr.heap.size ≤ q17 ∧ wr.heap.size ≤ w4.heap.size from ⟨by rw [hq17]; exact B3.out.size, Nat.le_trans B3.out.size hb4.size⟩)
              have HHA := Aside0.mk (And.intro HA.out.h0 HA.out.h1)
              have HWS := Aside0.mk (show w.heap.size ≤ wr.heap.size from HB.out.size)
              clear HWR hq17 hw4 hb4 A3 hfar N3 B3 HA HB
              obtain ⟨wS, hwS⟩ : ∃ n, n = wr.heap.size := ⟨_, rfl⟩
              rw [← hwS] at N4 HRW HLT HWS
              clear hwS wr
              go_loopg [16, 18] 20 (fun gq v16 v18 wr => ∃ (mm : Nat) (lg : List PutT) (S : List Bool) (H : List Int), v18 = .int .i64 mm ∧ mm ≤ 20 ∧ lg.length ≤ mm ∧ Aside0 (gq = 20 - mm) ∧ Aside0 (Kd.N kP 40 wr wS (fun k => wS ≤ k ∧ k ≠ q17) v16 lg) ∧ Aside0 (AM b m q6 q7 q12 q13 s j0 j1 n0 n1 H (puts s.has lg) wr) ∧ Aside0 (wr.heap[q17]? = some (.cells (boolc S) 36 (0, 0))) ∧ Aside0 (S.length = 20 ∧ (lg.map (·.1)).Nodup ∧ ∀ x ∈ lg, x.2.length = 64 ∧ ∃ t : Nat, t < 20 ∧ x.1 = 418 + (t : Int) ∧ S.getD t false = true) ∧ Aside0 (Below w.heap.size w wr) ∧ Aside0 (wS ≤ wr.heap.size))
              case atStart => exact ⟨0, [], z20, H, rfl, by omega, by simp, ⟨rfl⟩, N4, A4, C17, ⟨by decide, by simp, by simp⟩, BW4, ⟨HRW.out.2⟩⟩
              case round =>
                clear N4 A4 C17 BW4 H
                obtain ⟨mm, lg, S, H, rfl, hm20, hlm, HG2, HN, HA, HC, HK, HB, HSZ⟩ := hrel
                obtain ⟨ad, Bl, cl, rfl, e0, hcl, hby⟩ := at_Ls (Kd.C_below HL.out HB.out) i hl1
                obtain ⟨x, hx⟩ : ∃ x, x = rdS l i := ⟨_, rfl⟩
                rw [← hx] at e0 hby hcl
                have HX := Aside0.mk (show ∀ y ∈ x, 0 ≤ y ∧ y < 256 from by rw [hx]; exact HGG.out _ (List.mem_of_getElem? (rdS_get hl1)))
                have HBY := Aside0.mk hby
                have hxl : x.length ≤ 9223372036854775807 := hby.1
                obtain ⟨bb2, hbb⟩ : ∃ bb, bb = decide (mm < x.length ∧ mm < 20) := ⟨_, rfl⟩
                have HBB2 := Aside0.mk hbb
                clear hbb hx hby
                go_upto_region 24 with (fail)
                go_cut [99] (fun s99 wx => s99 = .bool bb2 ∧ wx = wr)
                case first =>
                  by_cases q1 : mm < x.length
                  · have q1' : (mm : Int) < (x.length : Int) := by omega
                    by_cases q2 : mm < 20
                    · have q2' : (mm : Int) < 20 := by omega
                      have HE := Aside0.mk (show bb2 = true by rw [HBB2.out]; exact decide_eq_true ⟨q1, q2⟩)
                      clear q1 q2
                      go_wp2
                      go_meet
                      case rel => exact ⟨by rw [HE.out], rfl⟩
                    · have q2' : ¬ (mm : Int) < 20 := by omega
                      have HE := Aside0.mk (show bb2 = false by rw [HBB2.out]; exact decide_eq_false (fun h => q2 h.2))
                      clear q1 q2
                      go_wp2
                      go_meet
                      case rel => exact ⟨by rw [HE.out], rfl⟩
                  · have q1' : ¬ (mm : Int) < (x.length : Int) := by omega
                    have HE := Aside0.mk (show bb2 = false by rw [HBB2.out]; exact decide_eq_false (fun h => q1 h.1))
                    clear q1
                    go_wp2
                    go_meet
                    case rel => exact ⟨by rw [HE.out], rfl⟩
                obtain ⟨rfl, hwc⟩ := hcut
                rw [hwc]
                clear hwc wc
                cases bb2
                case false =>
                  clear e0 HBY HX HBB2
                  as_aux_lemma =>
                    clear HG2 HRW HF17 HHA
                    obtain ⟨A16, c16, rfl⟩ := Kd.N_slice HN.out
                    have FG := Aside0.mk (Kd.V_F (Kd.N_V (base' := 0) HN.out))
                    have hml : mayB 438 199 lg = true := by
                      rw [mayB_all HK.out.2.1 (fun x hx => by
                        obtain ⟨a1, t, a2, a3, _⟩ := HK.out.2.2 x hx
                        exact ⟨by omega, by omega, by omega, a1⟩)]
                      exact decide_eq_true (by omega)
                    have KEY := Aside0.mk (show ∀ x ∈ lg, 418 ≤ x.1 from fun x hx => by
                      obtain ⟨a1, t, a2, a3, _⟩ := HK.out.2.2 x hx
                      omega)
                    have HML := Aside0.mk hml
                    have p7 := heap_cell HA.out.c7 1 (.pointer (some ⟨j1, 0, none⟩)) rfl
                    clear hml HN HK HC HSZ
                    go_wp2_with fail
                    refine (commit_js (N := 438) (F := s.has) ⟨HA.out.d, HA.out.J1, HA.out.on, HA.out.len, HA.out.fuse, ⟨HA.out.h1, fun _ _ => rfl⟩⟩ (by omega) (by omega) (by omega) (by omega) (by omega) FG.out (fun k hk e => by
                      have a := HLT.out
                      have b1 := hk.1
                      rcases e with e | e | e
                      · have := a.1; omega
                      · have := a.2.1; omega
                      · have := a.2.2.2.2.2.2.2; omega) HML.out).mono ?_
                    rintro e w5 ⟨rfl, ⟨s5, hj⟩, hf⟩
                    have hjo : ¬ DJ b m j1 j0 := fun e => by
                      rcases e with e | e | e
                      · exact ne_types HA.out.J0 HA.out.d.1 (by decide) e
                      · obtain ⟨es, kk, hm⟩ := HA.out.d.map; exact ne_cells_map HA.out.J0 hm e
                      · exact JIs.two HA.out.J0 HA.out.J1 e
                    have hq12 : ¬ DJ b m j1 q12 := fun e => by
                      rcases e with e | e | e
                      · exact ne_types HA.out.c12 HA.out.d.1 (by decide) e
                      · obtain ⟨es, kk, hm⟩ := HA.out.d.map; exact ne_cells_map HA.out.c12 hm e
                      · exact ne_types HA.out.c12 HA.out.J1 (by decide) e
                    have hq6 : ¬ DJ b m j1 q6 := fun e => by
                      rcases e with e | e | e
                      · exact ne_types HA.out.c6 HA.out.d.1 (by decide) e
                      · obtain ⟨es, kk, hm⟩ := HA.out.d.map; exact ne_cells_map HA.out.c6 hm e
                      · exact ne_types HA.out.c6 HA.out.J1 (by decide) e
                    have h12 := (hf.block q12 (blk_lt HA.out.c12) hq12).trans HA.out.c12
                    have h6 := (hf.block q6 (blk_lt HA.out.c6) hq6).trans HA.out.c6
                    have p12 := heap_cell h12 1 (.int .i64 n1) rfl
                    have f12 := heap_frozen h12 1 (.int .i64 n1) rfl
                    obtain ⟨w6, hw6⟩ : ∃ w6, w6 = w5.setCell ⟨q12, 1, none⟩ (.int .i64 (n1 + 1)) := ⟨_, rfl⟩
                    have he : ∀ k, k ≠ q12 → w6.heap[k]? = w5.heap[k]? := fun k hk => by rw [hw6]; exact Below.heap_setCell w5 ⟨q12, 1, none⟩ _ k hk
                    have hne12 := hj.d.ne_q h12 (by decide)
                    have hJk : JIs w6 j1 b 199 (n1 + 1) := (he j1 (ne_types hj.j h12 (by decide))).trans hj.j
                    have hJo5 : JIs w5 j0 b 0 n0 := HA.out.J0.fr hf hjo
                    have hJo : JIs w6 j0 b 0 n0 := (he j0 (ne_types hJo5 h12 (by decide))).trans hJo5
                    have hho : s5.has 0 = headB n0 0 := by
                      rw [hj.idle.vis 0 (by unfold Own; omega), puts_far _ _ _ (fun x hx e => by have := KEY.out x hx; omega)]
                      exact HA.out.h0
                    have A6 := Aside0.mk (HA.out.set12 HQ2.out.2.2 (W' := w6) (s' := s5) (hj.d.step (he b hne12.1) (he m hne12.2)) hj.on hj.len hj.fuse
                      (fun k a1 a2 a3 a4 a5 a6 => (he k a5).trans (hf.block k a6 (fun e => by rcases e with e | e | e; exact a1 e; exact a2 e; exact a4 e)))
                      (by rw [hw6]; exact heap_set1 h12 1 _ (by simp)) hJo hJk hho hj.idle.head (G' := s5.has) (fun u hu => hj.idle.vis _ (by unfold Own; omega)))
                    have B6 := Aside0.mk (show Below w.heap.size w w6 from by
                      rw [hw6]
                      exact (HB.out.trans (hf.below HB.out.size (fun k hk => by have := HBM.out; have := HJL.out; rcases hk with e | e | e <;> omega))).setCell (p := ⟨q12, 1, none⟩) HQ2.out.1 _)
                    have p6 : w6.cell? ⟨q6, 0, none⟩ = some (.int .i64 0) := heap_cell ((he q6 HQ2.out.2.2).trans h6) 0 (.int .i64 0) rfl
                    clear p7 hjo hq12 hq6 h12 h6 he hne12 hJk hJo5 hJo hho hj hf HA HB FG HML KEY
                    have hwn : IntKind.i64.wrap (n1 + 1) = n1 + 1 := IntWalk.i64_in _ (by omega)
                    go_upto_region 33 with (fail)
                    rw [← hw6]
                    clear hw6 p12 f12 hwn
                    go_wp2_with fail
                    refine (open_js A6.out.d A6.out.on A6.out.len A6.out.fuse ⟨A6.out.h0, fun _ _ => rfl⟩ (by omega) (by omega) (by omega) (by omega) (by omega)).mono ?_
                    rintro e w7 ⟨jb', rfl, hjl, hj, hf⟩
                    have hJ0 : JIs w7 j0 b 0 n0 := A6.out.J0.fr hf (fun e => A6.out.J0.ne A6.out.d e)
                    have hJ1 : JIs w7 j1 b 199 (n1 + 1) := A6.out.J1.fr hf (fun e => A6.out.J1.ne A6.out.d e)
                    have hq12 := A6.out.d.ne_q A6.out.c12 (by decide)
                    have h12 := (hf.block q12 (blk_lt A6.out.c12) (fun e => e.elim (fun e => hq12.1 e.symm) (fun e => hq12.2 e.symm))).trans A6.out.c12
                    have A7 := Aside0.mk (A6.out.set12 HQ2.out.2.2 (W' := w7) (s' := s5) hj.d A6.out.on A6.out.len A6.out.fuse
                      (fun k a1 a2 a3 a4 a5 a6 => hf.block k a6 (fun e => e.elim a1 a2)) h12 hJ0 hJ1 A6.out.h0 A6.out.h1 (G' := s5.has) (fun u hu => rfl))
                    have J7 := Aside0.mk hj.j
                    have B7 := Aside0.mk (B6.out.trans (hf.below B6.out.size (fun k hk => by have := HBM.out; rcases hk with e | e <;> omega)))
                    have HJ7 := Aside0.mk (Nat.le_trans B6.out.size hjl)
                    clear hJ0 hJ1 hq12 h12 hjl hj hf A6 B6 p6
                    go_upto_region 34 with (fail)
                    have p120 := heap_cell A7.out.c12 0 (.int .i64 n0) rfl
                    have p121 := heap_cell A7.out.c12 1 (.int .i64 (n1 + 1)) rfl
                    have p7 := heap_cell A7.out.c7 1 (.pointer (some ⟨j1, 0, none⟩)) rfl
                    have hnn0 : (n0 != n0) = false := by simp
                    have hwq : wrap64 0 = 0 := wrap_in (by omega) (by omega)
                    have hnn1 : ((n1 + 1) != (n1 + 1)) = false := by simp
                    refine start_ (n := 29) (S := fun w' => w'.cell? ⟨q12, 0, none⟩ = some (.int .i64 n0) ∧ w'.cell? ⟨q12, 1, none⟩ = some (.int .i64 (n1 + 1)) ∧ w'.cell? ⟨q7, 1, none⟩ = some (.pointer (some ⟨j1, 0, none⟩))) (ds := []) #[false, false, false, false, false, false, false, false, false, false, false, false, false, false, false, false, false, false, false, false, false, false, false, false, false, false, false, false, false] (by kernel_rfl) rfl rfl ⟨p120, p121, p7⟩ (fun hHeld => ?_)
                    refine pure_ (i := 0) (N := some 157) (v := ?_) (a' := ?_) #[true, false, false, false, false, false, false, false, false, false, false, false, false, false, false, false, false, false, false, false, false, false, false, false, false, false, false, false, false] rfl rfl (by kernel_rfl) (fun _ _ _ h => h) (Or.inl ⟨by rfl, ?_⟩) ?_ ?_
                    rotate_left
                    · intro w'
                      go_simp
                      with_reducible rfl
                    rotate_left
                    · simp only [Act.put, List.setIfInBounds_toArray, List.set_cons_zero, List.set_cons_succ, i64_w, i32_w]
                      rfl
                    refine pure_ (i := 1) (N := some 158) (v := ?_) (a' := ?_) #[true, true, false, false, false, false, false, false, false, false, false, false, false, false, false, false, false, false, false, false, false, false, false, false, false, false, false, false, false] rfl rfl (by kernel_rfl) (fun _ _ _ h => h) (Or.inl ⟨by rfl, ?_⟩) ?_ ?_
                    rotate_left
                    · intro w'
                      go_simp
                      with_reducible rfl
                    rotate_left
                    · simp only [Act.put, List.setIfInBounds_toArray, List.set_cons_zero, List.set_cons_succ, i64_w, i32_w]
                      rfl
                    refine pure_ (i := 2) (N := some 159) (v := ?_) (a' := ?_) #[true, true, true, false, false, false, false, false, false, false, false, false, false, false, false, false, false, false, false, false, false, false, false, false, false, false, false, false, false] rfl rfl (by kernel_rfl) (fun _ _ _ h => h) (Or.inl ⟨by rfl, ?_⟩) ?_ ?_
                    rotate_left
                    · intro w'
                      go_simp
                      with_reducible rfl
                    rotate_left
                    · simp only [Act.put, List.setIfInBounds_toArray, List.set_cons_zero, List.set_cons_succ, i64_w, i32_w]
                      rfl
                    refine pure_ (i := 3) (N := some 160) (v := ?_) (a' := ?_) #[true, true, true, true, false, false, false, false, false, false, false, false, false, false, false, false, false, false, false, false, false, false, false, false, false, false, false, false, false] rfl rfl (by kernel_rfl) (fun _ _ _ h => h) (Or.inl ⟨by rfl, ?_⟩) ?_ ?_
                    rotate_left
                    · intro w'
                      go_simp
                      with_reducible rfl
                    rotate_left
                    · simp only [Act.put, List.setIfInBounds_toArray, List.set_cons_zero, List.set_cons_succ, i64_w, i32_w]
                      rfl
                    refine pure_ (i := 4) (N := some 161) (v := ?_) (a' := ?_) #[true, true, true, true, true, false, false, false, false, false, false, false, false, false, false, false, false, false, false, false, false, false, false, false, false, false, false, false, false] rfl rfl (by kernel_rfl) (fun _ _ _ h => h) (Or.inl ⟨by rfl, ?_⟩) ?_ ?_
                    rotate_left
                    · intro w'
                      go_simp
                      with_reducible rfl
                    rotate_left
                    · simp only [Act.put, List.setIfInBounds_toArray, List.set_cons_zero, List.set_cons_succ, i64_w, i32_w]
                      rfl
                    refine pure_ (i := 5) (N := some 162) (v := ?_) (a' := ?_) #[true, true, true, true, true, true, false, false, false, false, false, false, false, false, false, false, false, false, false, false, false, false, false, false, false, false, false, false, false] rfl rfl (by kernel_rfl) (fun _ _ _ h => h) (Or.inl ⟨by rfl, ?_⟩) ?_ ?_
                    rotate_left
                    · intro w'
                      go_simp
                      with_reducible rfl
                    rotate_left
                    · simp only [Act.put, List.setIfInBounds_toArray, List.set_cons_zero, List.set_cons_succ, i64_w, i32_w]
                      rfl
                    refine pure_ (i := 6) (N := some 163) (v := ?_) (a' := ?_) #[true, true, true, true, true, true, true, false, false, false, false, false, false, false, false, false, false, false, false, false, false, false, false, false, false, false, false, false, false] rfl rfl (by kernel_rfl) (fun _ _ _ h => h) (Or.inl ⟨by rfl, ?_⟩) ?_ ?_
                    rotate_left
                    · intro w'
                      go_simp
                      with_reducible rfl
                    rotate_left
                    · simp only [Act.put, List.setIfInBounds_toArray, List.set_cons_zero, List.set_cons_succ, i64_w, i32_w]
                      rfl
                    refine pure_ (i := 7) (N := some 164) (v := ?_) (a' := ?_) #[true, true, true, true, true, true, true, true, false, false, false, false, false, false, false, false, false, false, false, false, false, false, false, false, false, false, false, false, false] rfl rfl (by kernel_rfl) (fun _ _ _ h => h) (Or.inl ⟨by rfl, ?_⟩) ?_ ?_
                    rotate_left
                    · intro w'
                      go_simp
                      with_reducible rfl
                    rotate_left
                    · simp only [Act.put, List.setIfInBounds_toArray, List.set_cons_zero, List.set_cons_succ, i64_w, i32_w]
                      rfl
                    refine pure_ (i := 8) (N := some 165) (v := ?_) (a' := ?_) #[true, true, true, true, true, true, true, true, true, false, false, false, false, false, false, false, false, false, false, false, false, false, false, false, false, false, false, false, false] rfl rfl (by kernel_rfl) (fun _ _ _ h => h) (Or.inl ⟨by rfl, ?_⟩) ?_ ?_
                    rotate_left
                    · intro w'
                      go_simp
                      with_reducible rfl
                    rotate_left
                    · simp only [Act.put, List.setIfInBounds_toArray, List.set_cons_zero, List.set_cons_succ, i64_w, i32_w]
                      rfl
                    refine pure_ (i := 9) (N := some 166) (v := ?_) (a' := ?_) #[true, true, true, true, true, true, true, true, true, true, false, false, false, false, false, false, false, false, false, false, false, false, false, false, false, false, false, false, false] rfl rfl (by kernel_rfl) (fun _ _ _ h => h) (Or.inl ⟨by rfl, ?_⟩) ?_ ?_
                    rotate_left
                    · intro w'
                      go_simp
                      with_reducible rfl
                    rotate_left
                    · simp only [Act.put, List.setIfInBounds_toArray, List.set_cons_zero, List.set_cons_succ, i64_w, i32_w]
                      rfl
                    refine pure_ (i := 10) (N := some 167) (v := ?_) (a' := ?_) #[true, true, true, true, true, true, true, true, true, true, true, false, false, false, false, false, false, false, false, false, false, false, false, false, false, false, false, false, false] rfl rfl (by kernel_rfl) (fun _ _ _ h => h) (Or.inl ⟨by rfl, ?_⟩) ?_ ?_
                    rotate_left
                    · intro w'
                      go_simp
                      with_reducible rfl
                    rotate_left
                    · simp only [Act.put, List.setIfInBounds_toArray, List.set_cons_zero, List.set_cons_succ, i64_w, i32_w]
                      rfl
                    refine pure_ (i := 11) (N := some 168) (v := ?_) (a' := ?_) #[true, true, true, true, true, true, true, true, true, true, true, true, false, false, false, false, false, false, false, false, false, false, false, false, false, false, false, false, false] rfl rfl (by kernel_rfl) (fun _ _ _ h => h) (Or.inl ⟨by rfl, ?_⟩) ?_ ?_
                    rotate_left
                    · intro w'
                      go_simp
                      with_reducible rfl
                    rotate_left
                    · simp only [Act.put, List.setIfInBounds_toArray, List.set_cons_zero, List.set_cons_succ, i64_w, i32_w]
                      rfl
                    refine pure_ (i := 13) (N := some 170) (v := ?_) (a' := ?_) #[true, true, true, true, true, true, true, true, true, true, true, true, false, true, false, false, false, false, false, false, false, false, false, false, false, false, false, false, false] rfl rfl (by kernel_rfl) (fun _ _ _ h => h) (Or.inl ⟨by rfl, ?_⟩) ?_ ?_
                    rotate_left
                    · intro w'
                      go_simp
                      with_reducible rfl
                    rotate_left
                    · simp only [Act.put, List.setIfInBounds_toArray, List.set_cons_zero, List.set_cons_succ, i64_w, i32_w]
                      rfl
                    refine pure_ (i := 14) (N := some 171) (v := ?_) (a' := ?_) #[true, true, true, true, true, true, true, true, true, true, true, true, false, true, true, false, false, false, false, false, false, false, false, false, false, false, false, false, false] rfl rfl (by kernel_rfl) (fun _ _ _ h => h) (Or.inl ⟨by rfl, ?_⟩) ?_ ?_
                    rotate_left
                    · intro w'
                      go_simp
                      with_reducible rfl
                    rotate_left
                    · simp only [Act.put, List.setIfInBounds_toArray, List.set_cons_zero, List.set_cons_succ, i64_w, i32_w]
                      rfl
                    refine pure_ (i := 15) (N := some 172) (v := ?_) (a' := ?_) #[true, true, true, true, true, true, true, true, true, true, true, true, false, true, true, true, false, false, false, false, false, false, false, false, false, false, false, false, false] rfl rfl (by kernel_rfl) (fun _ _ _ h => h) (Or.inl ⟨by rfl, ?_⟩) ?_ ?_
                    rotate_left
                    · intro w'
                      go_simp
                      with_reducible rfl
                    rotate_left
                    · simp only [Act.put, List.setIfInBounds_toArray, List.set_cons_zero, List.set_cons_succ, i64_w, i32_w]
                      rfl
                    refine take_ (i := 16) (N := some 173) (v := ?_) (a' := ?_) #[true, true, true, true, true, true, true, true, true, true, true, true, false, true, true, true, true, false, false, false, false, false, false, false, false, false, false, false, false] rfl rfl (by kernel_rfl) (fun _ _ _ h => h) (Or.inl ⟨by rfl, ?_⟩) hHeld ?_ ?_
                    rotate_left
                    · rintro w' ⟨s0, s1, s2⟩
                      go_simp
                      with_reducible rfl
                    rotate_left
                    · simp only [Act.put, List.setIfInBounds_toArray, List.set_cons_zero, List.set_cons_succ, i64_w, i32_w]
                      rfl
                    refine one_ (i := 12) (N := some 169) #[true, true, true, true, true, true, true, true, true, true, true, true, true, true, true, true, true, false, false, false, false, false, false, false, false, false, false, false, false] rfl rfl (by kernel_rfl) (by decide) (fun K hK => ?_)
                    refine goes_ Try.func12 (by kernel_rfl) rfl #[.pointer (some ⟨jb', 0, none⟩)] (by rfl) rfl rfl (by simp only [List.map_toArray, List.map_cons, List.map_nil]; rfl) ?_
                    refine (groups_any jb' b 0 n0 w7.drew J7.out).mono ?_
                    rintro e wg ⟨rfl, rfl⟩
                    refine ⟨_, rfl, ?_⟩
                    refine hK.out _ _ ⟨p120, p121, p7⟩ (fun hHeld => ?_)
                    clear hK K
                    refine norm_ (a' := ?_) ?_ ?_
                    rotate_left
                    · show Act.put _ (some 169) _ = _
                      simp only [Act.put, List.setIfInBounds_toArray, List.set_cons_zero, List.set_cons_succ, i64_w, i32_w]
                      rfl
                    refine pure_ (i := 17) (N := some 174) (v := ?_) (a' := ?_) #[true, true, true, true, true, true, true, true, true, true, true, true, true, true, true, true, true, true, false, false, false, false, false, false, false, false, false, false, false] rfl rfl (by kernel_rfl) (fun _ _ _ h => h) (Or.inl ⟨by rfl, ?_⟩) ?_ ?_
                    rotate_left
                    · intro w'
                      go_simp
                      with_reducible rfl
                    rotate_left
                    · simp only [Act.put, List.setIfInBounds_toArray, List.set_cons_zero, List.set_cons_succ, i64_w, i32_w]
                      rfl
                    refine pure_ (i := 18) (N := some 175) (v := ?_) (a' := ?_) #[true, true, true, true, true, true, true, true, true, true, true, true, true, true, true, true, true, true, true, false, false, false, false, false, false, false, false, false, false] rfl rfl (by kernel_rfl) (fun _ _ _ h => h) (Or.inl ⟨by rfl, ?_⟩) ?_ ?_
                    rotate_left
                    · intro w'
                      go_simp
                      with_reducible rfl
                    rotate_left
                    · simp only [Act.put, List.setIfInBounds_toArray, List.set_cons_zero, List.set_cons_succ, i64_w, i32_w]
                      rfl
                    refine pure_ (i := 19) (N := some 176) (v := ?_) (a' := ?_) #[true, true, true, true, true, true, true, true, true, true, true, true, true, true, true, true, true, true, true, true, false, false, false, false, false, false, false, false, false] rfl rfl (by kernel_rfl) (fun _ _ _ h => h) (Or.inl ⟨by rfl, ?_⟩) ?_ ?_
                    rotate_left
                    · intro w'
                      go_simp
                      with_reducible rfl
                    rotate_left
                    · simp only [Act.put, List.setIfInBounds_toArray, List.set_cons_zero, List.set_cons_succ, i64_w, i32_w]
                      rfl
                    refine pure_ (i := 20) (N := some 177) (v := ?_) (a' := ?_) #[true, true, true, true, true, true, true, true, true, true, true, true, true, true, true, true, true, true, true, true, true, false, false, false, false, false, false, false, false] rfl rfl (by kernel_rfl) (fun _ _ _ h => h) (Or.inl ⟨by rfl, ?_⟩) ?_ ?_
                    rotate_left
                    · intro w'
                      go_simp
                      with_reducible rfl
                    rotate_left
                    · simp only [Act.put, List.setIfInBounds_toArray, List.set_cons_zero, List.set_cons_succ, i64_w, i32_w]
                      rfl
                    refine pure_ (i := 21) (N := some 178) (v := ?_) (a' := ?_) #[true, true, true, true, true, true, true, true, true, true, true, true, true, true, true, true, true, true, true, true, true, true, false, false, false, false, false, false, false] rfl rfl (by kernel_rfl) (fun _ _ _ h => h) (Or.inl ⟨by rfl, ?_⟩) ?_ ?_
                    rotate_left
                    · intro w'
                      go_simp
                      with_reducible rfl
                    rotate_left
                    · simp only [Act.put, List.setIfInBounds_toArray, List.set_cons_zero, List.set_cons_succ, i64_w, i32_w]
                      rfl
                    refine pure_ (i := 24) (N := some 181) (v := ?_) (a' := ?_) #[true, true, true, true, true, true, true, true, true, true, true, true, true, true, true, true, true, true, true, true, true, true, false, false, true, false, false, false, false] rfl rfl (by kernel_rfl) (fun _ _ _ h => h) (Or.inl ⟨by rfl, ?_⟩) ?_ ?_
                    rotate_left
                    · intro w'
                      go_simp
                      with_reducible rfl
                    rotate_left
                    · simp only [Act.put, List.setIfInBounds_toArray, List.set_cons_zero, List.set_cons_succ, i64_w, i32_w]
                      rfl
                    refine pure_ (i := 25) (N := some 182) (v := ?_) (a' := ?_) #[true, true, true, true, true, true, true, true, true, true, true, true, true, true, true, true, true, true, true, true, true, true, false, false, true, true, false, false, false] rfl rfl (by kernel_rfl) (fun _ _ _ h => h) (Or.inl ⟨by rfl, ?_⟩) ?_ ?_
                    rotate_left
                    · intro w'
                      go_simp
                      with_reducible rfl
                    rotate_left
                    · simp only [Act.put, List.setIfInBounds_toArray, List.set_cons_zero, List.set_cons_succ, i64_w, i32_w]
                      rfl
                    refine take_ (i := 22) (N := some 179) (v := ?_) (a' := ?_) #[true, true, true, true, true, true, true, true, true, true, true, true, true, true, true, true, true, true, true, true, true, true, true, false, true, true, false, false, false] rfl rfl (by kernel_rfl) (fun _ _ _ h => h) (Or.inl ⟨by rfl, ?_⟩) hHeld ?_ ?_
                    rotate_left
                    · rintro w' ⟨s0, s1, s2⟩
                      go_simp
                      with_reducible rfl
                    rotate_left
                    · simp only [Act.put, List.setIfInBounds_toArray, List.set_cons_zero, List.set_cons_succ, i64_w, i32_w]
                      rfl
                    refine take_ (i := 26) (N := some 183) (v := ?_) (a' := ?_) #[true, true, true, true, true, true, true, true, true, true, true, true, true, true, true, true, true, true, true, true, true, true, true, false, true, true, true, false, false] rfl rfl (by kernel_rfl) (fun _ _ _ h => h) (Or.inl ⟨by rfl, ?_⟩) hHeld ?_ ?_
                    rotate_left
                    · rintro w' ⟨s0, s1, s2⟩
                      go_simp
                      with_reducible rfl
                    rotate_left
                    · simp only [Act.put, List.setIfInBounds_toArray, List.set_cons_zero, List.set_cons_succ, i64_w, i32_w]
                      rfl
                    refine one_ (i := 23) (N := some 180) #[true, true, true, true, true, true, true, true, true, true, true, true, true, true, true, true, true, true, true, true, true, true, true, true, true, true, true, false, false] rfl rfl (by kernel_rfl) (by decide) (fun K hK => ?_)
                    refine goes_ Try.func12 (by kernel_rfl) rfl #[.pointer (some ⟨j1, 0, none⟩)] (by rfl) rfl rfl (by simp only [List.map_toArray, List.map_cons, List.map_nil]; rfl) ?_
                    refine (groups_any j1 b 199 (n1 + 1) w7.drew A7.out.J1).mono ?_
                    rintro e wg ⟨rfl, rfl⟩
                    refine ⟨_, rfl, ?_⟩
                    refine hK.out _ _ ⟨p120, p121, p7⟩ (fun hHeld => ?_)
                    clear hK K
                    refine norm_ (a' := ?_) ?_ ?_
                    rotate_left
                    · show Act.put _ (some 180) _ = _
                      simp only [Act.put, List.setIfInBounds_toArray, List.set_cons_zero, List.set_cons_succ, i64_w, i32_w]
                      rfl
                    refine pure_ (i := 27) (N := some 184) (v := ?_) (a' := ?_) #[true, true, true, true, true, true, true, true, true, true, true, true, true, true, true, true, true, true, true, true, true, true, true, true, true, true, true, true, false] rfl rfl (by kernel_rfl) (fun _ _ _ h => h) (Or.inl ⟨by rfl, ?_⟩) ?_ ?_
                    rotate_left
                    · intro w'
                      go_simp
                      with_reducible rfl
                    rotate_left
                    · simp only [Act.put, List.setIfInBounds_toArray, List.set_cons_zero, List.set_cons_succ, i64_w, i32_w]
                      rfl
                    refine pure_ (i := 28) (N := some 185) (v := ?_) (a' := ?_) #[true, true, true, true, true, true, true, true, true, true, true, true, true, true, true, true, true, true, true, true, true, true, true, true, true, true, true, true, true] rfl rfl (by kernel_rfl) (fun _ _ _ h => h) (Or.inl ⟨by rfl, ?_⟩) ?_ ?_
                    rotate_left
                    · intro w'
                      go_simp
                      with_reducible rfl
                    rotate_left
                    · simp only [Act.put, List.setIfInBounds_toArray, List.set_cons_zero, List.set_cons_succ, i64_w, i32_w]
                      rfl
                    refine done_ (by kernel_rfl) ?_
                    have A8 := Aside0.mk (A7.out.below (below_drew (Below.refl _ w7)))
                    have f7 := heap_frozen A8.out.c7 0 (.pointer (some ⟨j0, 0, none⟩)) rfl
                    have k7 := heap_cell A8.out.c7 0 (.pointer (some ⟨j0, 0, none⟩)) rfl
                    have A9 := Aside0.mk (A8.out.setJ0 (j' := jb') J7.out HQ.out.2.2)
                    have B9 := Aside0.mk ((below_drew B7.out).setCell (p := ⟨q7, 0, none⟩) HQ.out.2.1 (.pointer (some ⟨jb', 0, none⟩)))
                    have JL9 := Aside0.mk (show w.heap.size ≤ jb' ∧ w.heap.size ≤ j1 from ⟨HJ7.out, HJL.out.2⟩)
                    clear A7 A8 B7 J7 HJ7 p120 p121 p7 hnn0 hnn1 hHeld hwq
                    go_wp2
                    go_roundg (30 - (i + 1))
                    case measure => have := HG.out; omega
                    case rel => exact ⟨i + 1, s5, jb', j1, n0, n1 + 1, H, by go_num, by omega, by omega, by omega, by omega, by omega, by omega, ⟨rfl⟩, A9, B9, JL9⟩
                case true =>
                  obtain ⟨hl3, hl4⟩ := of_decide_eq_true HBB2.out.symm
                  have hl3' : (mm : Int) < (x.length : Int) := by omega
                  obtain ⟨ad2, rfl, hBy⟩ := HBY.out.2 (by omega)
                  obtain ⟨y, hy⟩ : ∃ y, x[mm]? = some y := ⟨_, List.getElem?_eq_getElem hl3⟩
                  have e1 := hBy mm y hy
                  obtain ⟨hy0, hy1⟩ := HX.out y (List.mem_of_getElem? hy)
                  obtain ⟨t, ht⟩ : ∃ t : Nat, (t : Int) = y % 20 := ⟨(y % 20).toNat, by omega⟩
                  have hty : y % 20 = (t : Int) := ht.symm
                  have ht20 : (t : Int) < 20 := by omega
                  obtain ⟨sb, hsb⟩ : ∃ sb, sb = S.getD t false := ⟨_, rfl⟩
                  have c17 := heap_cell HC.out t (.bool sb) (by rw [hsb]; exact boolc_get (by have := HK.out.1; omega))
                  have f17 := heap_frozen HC.out t (.bool sb) (by rw [hsb]; exact boolc_get (by have := HK.out.1; omega))
                  have HS := Aside0.mk hsb
                  clear hBy hy ht hsb HBB2 HBY HX
                  cases sb
                  case true =>
                    go_wp2
                    go_roundg (20 - (mm + 1))
                    case measure => have := HG2.out; omega
                    case rel => exact ⟨mm + 1, lg, S, H, by go_num, by omega, by omega, ⟨rfl⟩, HN, HA, HC, HK, HB, HSZ⟩
                  case false =>
                    have hu40 : (20 + t) < H.length := by rw [HA.out.hl]; omega
                    have h17 : q13 ≠ q17 := ne_types HA.out.c13 HC.out (by decide)
                    have c13' := (Below.heap_setCell wr ⟨q17, t, none⟩ (.bool true) q13 h17).trans HA.out.c13
                    have f13 := heap_frozen c13' (20 + t) (.int .u8 (H.getD (20 + t) 0)) (blkc_getD hu40)
                    have k13 := heap_cell c13' (20 + t) (.int .u8 (H.getD (20 + t) 0)) (blkc_getD hu40)
                    clear c13' hu40
                    go_wp2_with fail
                    refine (full_any ((i : Int) + 1) 3 _).mono ?_
                    obtain ⟨w5, hw5⟩ : ∃ w5, w5 = (wr.setCell ⟨q17, t, none⟩ (.bool true)).setCell ⟨q13, (20 + t), none⟩ (.int .u8 ((i : Int) + 1)) := ⟨_, rfl⟩
                    rw [← hw5]
                    have hA1 := HA.out.fr (Fr.one q17 t (.bool true) wr) HF17.out
                    obtain ⟨pb, hpb⟩ : ∃ pb : PutT, pb = (418 + (t : Int), fullB ((i : Int) + 1) 3) := ⟨_, rfl⟩
                    have hA5 : AM b m q6 q7 q12 q13 s j0 j1 n0 n1 (H.set (20 + t) ((i : Int) + 1)) (puts s.has (lg ++ [pb])) w5 := by
                      rw [hw5]
                      refine hA1.set13 (20 + t) ((i : Int) + 1) (fun x hx hp => ?_)
                      rw [puts_append, hpb]
                      simp only [puts, upd]
                      by_cases hxu : x = (20 + t)
                      · rw [if_pos (by omega)]
                        rw [hxu, List.getD_eq_getElem?_getD, List.getElem?_set_self (by rw [HA.out.hl]; omega)]
                        rfl
                      · rw [if_neg (by omega)]
                        have e : (H.set (20 + t) ((i : Int) + 1)).getD x 0 = H.getD x 0 := by
                          rw [List.getD_eq_getElem?_getD, List.getElem?_set_ne (fun e => hxu e.symm), List.getD_eq_getElem?_getD]
                        rw [e] at hp ⊢
                        exact HA.out.data x hx hp
                    have hC5 : w5.heap[q17]? = some (.cells (boolc (S.set t true)) 36 (0, 0)) := by
                      rw [hw5, ← boolc_set]
                      exact (Below.heap_setCell _ ⟨q13, (20 + t), none⟩ _ q17 h17.symm).trans (heap_set1 HC.out t _ (by rw [boolc_size, HK.out.1]; omega))
                    have hN5 : Kd.N kP 40 w5 wS (fun k => wS ≤ k ∧ k ≠ q17) u16 lg := by
                      rw [hw5]
                      refine Kd.N_far (Kd.N_far HN.out (p := ⟨q17, t, none⟩) (fun k hk => hk.2) _) (p := ⟨q13, (20 + t), none⟩) (fun k hk e => ?_) _
                      have a1 := HLT.out.2.2.2.2.2.1
                      have a2 := hk.1
                      rw [e] at a2
                      exact absurd a1 (Nat.not_lt.2 a2)
                    have hB5 : Below w.heap.size w w5 := by
                      rw [hw5]
                      exact (HB.out.setCell (p := ⟨q17, t, none⟩) (show w.heap.size ≤ q17 from Nat.le_trans HWS.out HRW.out.1) _).setCell (p := ⟨q13, (20 + t), none⟩) HQ2.out.2.1 _
                    have hsz5 : w5.heap.size = wr.heap.size := by rw [hw5]; simp [World.setCell]
                    have HK5 := Aside0.mk (show (S.set t true).length = 20 ∧ ((lg ++ [pb]).map (·.1)).Nodup ∧ ∀ x ∈ lg ++ [pb], x.2.length = 64 ∧ ∃ t' : Nat, t' < 20 ∧ x.1 = 418 + (t' : Int) ∧ (S.set t true).getD t' false = true from by
                      have hget : ∀ t', t' < 20 → S.getD t' false = true → (S.set t true).getD t' false = true := fun t' h1 h2 => by
                        by_cases e : t = t'
                        · subst e; rw [List.getD_eq_getElem?_getD, List.getElem?_set_self (by rw [HK.out.1]; omega)]; rfl
                        · rw [List.getD_eq_getElem?_getD, List.getElem?_set_ne e, ← List.getD_eq_getElem?_getD]; exact h2
                      refine ⟨by rw [List.length_set]; exact HK.out.1, ?_, ?_⟩
                      · rw [List.map_append, List.nodup_append]
                        refine ⟨HK.out.2.1, by simp, ?_⟩
                        intro a ha b' hb' e
                        simp at hb'
                        subst hb'
                        obtain ⟨z, hz, rfl⟩ := List.mem_map.1 ha
                        obtain ⟨_, t', ht', hk', hs'⟩ := HK.out.2.2 z hz
                        have e2 : z.1 = 418 + (t : Int) := by rw [e, hpb]
                        have : t' = t := by omega
                        rw [this, ← HS.out] at hs'
                        cases hs'
                      · intro z hz
                        rcases List.mem_append.1 hz with hz | hz
                        · obtain ⟨a1, t', a2, a3, a4⟩ := HK.out.2.2 z hz
                          exact ⟨a1, t', a2, a3, hget t' a2 a4⟩
                        · rw [List.mem_singleton.1 hz, hpb]
                          refine ⟨fullB_len _ _, t, by omega, rfl, ?_⟩
                          rw [List.getD_eq_getElem?_getD, List.getElem?_set_self (by rw [HK.out.1]; omega)]
                          rfl)
                    rintro e w6 ⟨vf, rfl, hr, hb⟩
                    obtain ⟨Af, cf, rfl⟩ := Kd.R_slice hr
                    obtain ⟨f1, f2⟩ := full_F hr (Below.refl _ w6) (Nat.le_refl _)
                    have A6 := Aside0.mk (hA5.below hb)
                    have C6 := Aside0.mk ((hb.block _ (blk_lt hC5)).trans hC5)
                    have N6 := Aside0.mk (Kd.N_below hN5 hb)
                    have B6 := Aside0.mk (below_step hB5 hb)
                    have FK6 := Aside0.mk (show Kd.FK kP w6 (fun k => wr.heap.size ≤ k) pb [.int .i64 (418 + (t : Int)), .slice Af (fullB ((i : Int) + 1) 3).length cf] from by
                      rw [hpb]; exact FK_kP f1 (Kd.F_mono f2 (fun k hk => by rw [hsz5] at hk; exact hk)))
                    have SZ6 := Aside0.mk (show wr.heap.size ≤ w6.heap.size from by have := hb.size; omega)
                    have OW6 := Aside0.mk (show ∀ k, u16.ownBlock = some k → k < wr.heap.size from Kd.N_lt HN.out)
                    have Q6 := Aside0.mk (show q17 < wr.heap.size from blk_lt HC.out)
                    clear hA1 hA5 hC5 hN5 hB5 hsz5 hw5 hpb hr hb f1 f2 HA HC HN HB HK HS c17 f17 f13 k13 h17 e0 e1 hty ht20
                    go_wp2_with (first
                      | ((with_reducible refine gate_dst (N := 137) rfl ?_); refine Kd.N_append kP (w0 := w6) wS rfl (.tmp 125) (.tmp 136) 35 40 (.agg #[.int .i64 0, .slice none 0 0]) 32 rfl Try.underlying35 infoPut rfl (by decide) (by decide) u16 lg pb [.int .i64 (418 + (t : Int)), .slice Af (fullB ((i : Int) + 1) 3).length cf] (fun k => wS ≤ k ∧ k ≠ q17) (fun k => wr.heap.size ≤ k) rfl rfl FK6.out (fun k hk => ⟨⟨Nat.le_trans HSZ.out hk, by have := Q6.out; omega⟩, fun e => by have := OW6.out k e.symm; omega⟩) (fun k hk => ⟨by have := SZ6.out; have := HSZ.out; omega, by have := Q6.out; have := SZ6.out; omega⟩) N6.out (Below.refl _ _) (Nat.le_trans HSZ.out SZ6.out) (by omega) ?_; intro v1 w7 ho7 hb7 hg7 hat7; have N7 := Aside0.mk ho7; have A7 := Aside0.mk (A6.out.fr (Fr.of_belowB hb7 hg7.size) (by have a := HLT.out; exact ⟨Nat.not_le.2 a.1, Nat.not_le.2 a.2.1, Nat.not_le.2 a.2.2.1, Nat.not_le.2 a.2.2.2.1, Nat.not_le.2 a.2.2.2.2.1, Nat.not_le.2 a.2.2.2.2.2.1, Nat.not_le.2 a.2.2.2.2.2.2.1, Nat.not_le.2 a.2.2.2.2.2.2.2⟩)); have C7 := Aside0.mk ((hg7.block q17 (blk_lt C6.out) (fun e => (N6.out.1 q17 e.symm).2 rfl)).trans C6.out); have B7 := Aside0.mk (B6.out.trans (hb7.mono HWS.out)); have Z7 := Aside0.mk (show wS ≤ w7.heap.size from Nat.le_trans HSZ.out (Nat.le_trans SZ6.out hg7.size)); clear ho7 hb7 hg7 hat7)
                      | fail)
                    go_roundg (20 - (mm + 1))
                    case measure => have := HG2.out; omega
                    case rel => exact ⟨mm + 1, lg ++ [pb], S.set t true, H.set (20 + t) ((i : Int) + 1), by go_num, by omega, by simp; omega, ⟨rfl⟩, N7, A7, C7, HK5, B7, Z7⟩
end Go.Proofs.Ytmfndobdkihbnaa.Dk
