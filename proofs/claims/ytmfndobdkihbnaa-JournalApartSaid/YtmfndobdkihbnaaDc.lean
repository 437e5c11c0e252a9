/-
  The given program's disk: Fuse, Boot, Read.
-/
import Derived.Test.YtmfndobdkihbnaaDb
import Derived.Great.Walk
import Derived.Great.BuildSlice
import Derived.Deep.WholeRow
namespace Go.Proofs.Ytmfndobdkihbnaa.Dk
open Go.RowKit Go.Proofs.YtmfndobdkihbnaaW.PrintWords Go.Proofs.YtmfndobdkihbnaaW.PrintLast Go.Proofs.YtmfndobdkihbnaaW.PrintMore
set_option linter.unusedVariables false
set_option linter.unusedSimpArgs false

theorem heap_set1 {W : World} {b : Nat} {c : Array Value} {t : TypeId} (h : W.heap[b]? = some (.cells c t (0, 0))) (i : Nat) (v : Value) (hi : i < c.size) : (W.setCell ⟨b, i, none⟩ v).heap[b]? = some (.cells (c.setIfInBounds i v) t (0, 0)) := by
  simp [World.setCell, Array.getElem?_modify, h]
theorem DiskIs.ne {W : World} {b m : Nat} {s : FS} (h : DiskIs W b m s) : m ≠ b := by
  intro e
  obtain ⟨h1, ⟨es, clock, h2, _⟩, _⟩ := h
  rw [e, h1] at h2
  cases h2
theorem DiskIs.lt {W : World} {b m : Nat} {s : FS} (h : DiskIs W b m s) : b < W.heap.size := by
  rcases Nat.lt_or_ge b W.heap.size with h' | h'
  · exact h'
  · have := h.1; simp [h'] at this
theorem DiskIs.step {W W' : World} {b m : Nat} {s : FS} (h : DiskIs W b m s) (hb : W'.heap[b]? = W.heap[b]?) (hm : W'.heap[m]? = W.heap[m]?) : DiskIs W' b m s := ⟨hb.trans h.1, h.2.1.step hm, h.2.2⟩
theorem DiskIs.fr {W W' : World} {b m : Nat} {s : FS} {S : Nat → Prop} (h : DiskIs W b m s) (hf : Fr S W W') (hb : ¬ S b) (hm : ¬ S m) : DiskIs W' b m s := h.step (hf.block b h.lt hb) (hf.block m h.2.1.lt hm)
theorem DiskIs.set {W : World} {b m : Nat} {s s' : FS} (h : DiskIs W b m s) (i : Nat) (v : Value) (hi : i < 5) (hs : (diskCells m s).setIfInBounds i v = diskCells m s') (hh : s'.has = s.has) : DiskIs (W.setCell ⟨b, i, none⟩ v) b m s' := by
  refine ⟨?_, ?_, by rw [hh]; exact h.2.2⟩
  · rw [heap_set1 h.1 i v hi, hs]
  · rw [hh]
    exact h.2.1.step (Below.heap_setCell _ _ _ _ h.ne)
theorem Fr.cell {S : Nat → Prop} {a w : World} (h : Fr S a w) (b i : Nat) (hb : S b) (u : Value) : Fr S a (w.setCell ⟨b, i, none⟩ u) := h.setCell (.inl hb) u

def FS.fuseTo (s : FS) (n : Int) : FS := if s.off then s else { s with fuse := max n (-1) }
def FS.boot (s : FS) : FS := { s with off := false, fuse := -1 }

set_option maxRecDepth 100000 in
theorem fuse_any (b m : Nat) (s : FS) (n : Int) (w : World) (h : DiskIs w b m s) :
    Calls Try.prog 21 #[.pointer (some ⟨b, 0, none⟩), .int .i64 n] w fun e w' => e = .returned (.tuple #[]) ∧ DiskIs w' b m (s.fuseTo n) ∧ Fr (fun k => k = b) w w' := by
  have c2 := h.c2
  have f3 := h.f3
  have c3 := h.c3
  obtain ⟨len, has, off, fuse, writes⟩ := s
  simp only at c2
  unfold FS.fuseTo
  have H := Aside0.mk h
  clear h
  cases off
  · simp only [Bool.false_eq_true, if_false]
    go_enter Try.func21, Try.ntmps21
    by_cases hn : n < -1
    · go_wp2
      go_end0
      exact ⟨rfl, H.out.set 3 _ (by omega) rfl rfl, Fr.cell (S := fun k => k = b) (Fr.refl _ _) b 3 rfl _⟩
    · go_wp2
      go_end0
      exact ⟨rfl, H.out.set 3 _ (by omega) rfl rfl, Fr.cell (S := fun k => k = b) (Fr.refl _ _) b 3 rfl _⟩
  · simp only [if_true]
    go_enter Try.func21, Try.ntmps21
    go_wp2
    go_end0
    exact ⟨rfl, H.out, Fr.refl _ _⟩

set_option maxRecDepth 100000 in
theorem boot_any (b m : Nat) (s : FS) (w : World) (h : DiskIs w b m s) :
    Calls Try.prog 22 #[.pointer (some ⟨b, 0, none⟩)] w fun e w' => e = .returned (.tuple #[]) ∧ DiskIs w' b m s.boot ∧ Fr (fun k => k = b) w w' := by
  have c2 := h.c2
  have c3 := h.c3
  have f2 := h.f2
  have f3 := h.f3
  have H := Aside0.mk h
  clear h
  go_enter Try.func22, Try.ntmps22
  go_wp2
  go_end0
  have h1 := H.out.set (s' := { s with off := false }) 2 (.bool false) (by omega) rfl rfl
  exact ⟨rfl, h1.set 3 (.int .i64 (-1)) (by omega) rfl rfl, Fr.cell (S := fun k => k = b) (Fr.cell (S := fun k => k = b) (Fr.refl _ _) b 2 rfl _) b 3 rfl _⟩

theorem zero_blk (w : World) : (zeroValue 73).run Try.prog w = .ok (blk zeros) w := by
  have hi : (Try.prog.info? 73).map (·.zero) = some (some (blk zeros)) := by kernel_rfl
  obtain ⟨i, h1, h2⟩ := Option.map_eq_some_iff.1 hi
  simp [zeroValue, typeInfo, h1, h2]
theorem size_blk : (Try.prog.info? 73).map (·.size) = some 64 := by kernel_rfl
theorem alloc_blk {ops : Array Oper} {rest : List Oper} {o : Oper} {a : Act} {w : World} {Q : Exit → Act → World → Prop} (hg : o.guard = none) (dst : Option Tmp) (hdst : o.dst = dst) (ho : o.op = .alloc 73)
    (h : wpList Try.prog ops Q rest (a.put dst (.pointer (some ⟨w.heap.size, 0, none⟩))) (w.alloc (.cells (blkc zeros) 73))) : wpList Try.prog ops Q (o :: rest) a w := by
  refine Go.Great.wpList_runTo hg dst hdst _ _ ?_ h
  unfold execOp
  obtain ⟨cs, hcs⟩ : ∃ cs, cs = blkc zeros := ⟨_, rfl⟩
  have hz : (zeroValue 73).run Try.prog w = .ok (.agg cs) w := by rw [hcs]; exact zero_blk w
  rw [← hcs]
  simp [ho, Instr.alloc, hz, Result.andThen, newVar, newRow, Value.cells, go_sem]

/-- What is handed out: a new array of the block's bytes. -/
def FS.get (s : FS) (i : Int) : List Int := if s.check i = 0 then s.has i else []

set_option maxRecDepth 100000 in
theorem read_any (b m : Nat) (s : FS) (i : Int) (w : World) (h : DiskIs w b m s) :
    Calls Try.prog 13 #[.pointer (some ⟨b, 0, none⟩), .int .i64 i] w fun e w' =>
      (s.check i = 0 ∧ e = .returned (.tuple #[.slice (some ⟨w.heap.size, 0, none⟩) 64 64, .int .i64 0]) ∧ w' = w.alloc (.cells (blkc (s.has i)) 73)) ∨ (s.check i ≠ 0 ∧ e = .returned (.tuple #[.slice none 0 0, .int .i64 (s.check i)]) ∧ w' = w) := by
  have c1 := h.c1
  have H := Aside0.mk h
  clear h
  go_enter Try.func13, Try.ntmps13
  go_wp2_with fail
  refine (check_any b m s i w H.out).mono ?_
  rintro e w1 ⟨rfl, rfl⟩
  have hlk := H.out.2.1.lookup (t := 61) Try.underlying61 Try.underlying3 zero_blk i
  have hs1 : (Try.prog.info? 73).map (·.size) = some (blkc (s.has i)).size := by rw [blkc_size, H.out.2.2]; exact size_blk
  have hs2 : (blkc zeros).size = (blkc (s.has i)).size := by rw [blkc_size, blkc_size, H.out.2.2]; rfl
  have hs3 := blkc_one (s.has i)
  by_cases hc : s.check i = 0
  · rw [hc]
    go_wp2_with (first
      | ((with_reducible refine gate_dst (N := 7) rfl ?_); refine alloc_blk rfl (some 7) rfl rfl ?_; refine Go.wpList_store_rowTo rfl 73 (.tmp 7) (.tmp 19) rfl rfl w1.heap.size (blkc (s.has i)) rfl rfl 73 (blkc zeros) (Go.heap_alloc_new _ _) hs1 hs2 hs3 ?_; rw [World.setRow_alloc_new])
      | fail)
    exact bodyPost_ret (v := .tuple #[.slice (some ⟨w1.heap.size, 0, none⟩) 64 64, .int .i64 0]) (by simp [results, Try.results13, go_sem]) rfl (.inl ⟨hc, rfl, rfl⟩)
  · have hc' : (s.check i != 0) = true := by simpa using hc
    go_wp2
    exact bodyPost_ret (v := .tuple #[.slice none 0 0, .int .i64 (s.check i)]) (by simp [results, Try.results13, go_sem]) rfl (.inr ⟨hc, rfl, rfl⟩)
end Go.Proofs.Ytmfndobdkihbnaa.Dk
