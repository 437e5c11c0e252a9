/-
  The given program's disk: what its small functions do.
-/
import Derived.Test.YtmfndobdkihbnaaDa
import Derived.Test.YtmfndobdkihbnaaProg
import Derived.WalkKit
import Derived.Test.YtmfndobdkihbnaaWLast
import Derived.BigRegion
import Derived.BigQuiet
import Derived.RegionTactic
namespace Go.Proofs.Ytmfndobdkihbnaa.Dk
open Go.RowKit Go.Proofs.YtmfndobdkihbnaaW.PrintWords Go.Proofs.YtmfndobdkihbnaaW.PrintLast Go.Proofs.YtmfndobdkihbnaaW.PrintMore
set_option linter.unusedVariables false
set_option linter.unusedSimpArgs false

/-- A disk: how many blocks, what they have, whether it is off, the fuse, how many writes. -/
structure FS where
  len : Int
  has : Int → List Int
  off : Bool
  fuse : Int
  writes : Int

def diskCells (m : Nat) (s : FS) : Array Value := #[.int .i64 s.len, .map (some m), .bool s.off, .int .i64 s.fuse, .int .i64 s.writes]
/-- Blocks b and m of W are the disk s. -/
def DiskIs (W : World) (b m : Nat) (s : FS) : Prop := W.heap[b]? = some (.cells (diskCells m s) 63 (0, 0)) ∧ MapIs W m s.has ∧ ∀ k, (s.has k).length = 64
section
variable {W W' : World} {b m : Nat} {s : FS}
theorem heap_cell {c : Array Value} {t : TypeId} (h : W.heap[b]? = some (.cells c t (0, 0))) (i : Nat) (v : Value) (hv : c[i]? = some v) : W.cell? ⟨b, i, none⟩ = some v := by
  simp [World.cell?, h, hv]
theorem heap_frozen {c : Array Value} {t : TypeId} (h : W.heap[b]? = some (.cells c t (0, 0))) (i : Nat) (v : Value) (hv : c[i]? = some v) : W.frozen? ⟨b, i, none⟩ = false := by
  simp [World.frozen?, h]
theorem DiskIs.c0 (h : DiskIs W b m s) : W.cell? ⟨b, 0, none⟩ = some (.int .i64 s.len) := heap_cell h.1 0 _ rfl
theorem DiskIs.c1 (h : DiskIs W b m s) : W.cell? ⟨b, 1, none⟩ = some (.map (some m)) := heap_cell h.1 1 _ rfl
theorem DiskIs.c2 (h : DiskIs W b m s) : W.cell? ⟨b, 2, none⟩ = some (.bool s.off) := heap_cell h.1 2 _ rfl
theorem DiskIs.c3 (h : DiskIs W b m s) : W.cell? ⟨b, 3, none⟩ = some (.int .i64 s.fuse) := heap_cell h.1 3 _ rfl
theorem DiskIs.c4 (h : DiskIs W b m s) : W.cell? ⟨b, 4, none⟩ = some (.int .i64 s.writes) := heap_cell h.1 4 _ rfl
theorem DiskIs.f2 (h : DiskIs W b m s) : W.frozen? ⟨b, 2, none⟩ = false := heap_frozen h.1 2 _ rfl
theorem DiskIs.f3 (h : DiskIs W b m s) : W.frozen? ⟨b, 3, none⟩ = false := heap_frozen h.1 3 _ rfl
theorem DiskIs.f4 (h : DiskIs W b m s) : W.frozen? ⟨b, 4, none⟩ = false := heap_frozen h.1 4 _ rfl
end

/-- Why block i can't be asked for. -/
def FS.check (s : FS) (i : Int) : Int := if s.off then 2 else if i < 0 ∨ s.len ≤ i then 10 else 0

set_option maxRecDepth 100000 in
theorem check_any (b m : Nat) (s : FS) (i : Int) (w : World) (h : DiskIs w b m s) :
    Calls Try.prog 31 #[.pointer (some ⟨b, 0, none⟩), .int .i64 i] w fun e w' => e = .returned (.int .i64 (s.check i)) ∧ w' = w := by
  have c0 := h.c0
  have c2 := h.c2
  obtain ⟨len, has, off, fuse, writes⟩ := s
  simp only at c0 c2
  unfold FS.check
  clear h
  cases off
  · simp only [Bool.false_eq_true, if_false]
    by_cases hi : i < 0
    · rw [if_pos (.inl hi)]
      go_enter Try.func31, Try.ntmps31
      go_wp2
      go_ret
      exact ⟨rfl, rfl⟩
    · by_cases hj : len ≤ i
      · rw [if_pos (.inr hj)]
        go_enter Try.func31, Try.ntmps31
        go_wp2
        go_ret
        exact ⟨rfl, rfl⟩
      · rw [if_neg (by omega)]
        go_enter Try.func31, Try.ntmps31
        go_wp2
        go_ret
        exact ⟨rfl, rfl⟩
  · simp only [if_true]
    go_enter Try.func31, Try.ntmps31
    go_wp2
    go_ret
    exact ⟨rfl, rfl⟩

set_option maxRecDepth 100000 in
theorem len_any (b m : Nat) (s : FS) (w : World) (h : DiskIs w b m s) :
    Calls Try.prog 19 #[.pointer (some ⟨b, 0, none⟩)] w fun e w' => e = .returned (.int .i64 s.len) ∧ w' = w := by
  have c0 := h.c0
  clear h
  go_enter Try.func19, Try.ntmps19
  go_wp2
  go_ret
  exact ⟨rfl, rfl⟩
set_option maxRecDepth 100000 in
theorem on_any (b m : Nat) (s : FS) (w : World) (h : DiskIs w b m s) :
    Calls Try.prog 17 #[.pointer (some ⟨b, 0, none⟩)] w fun e w' => e = .returned (.bool (!s.off)) ∧ w' = w := by
  have c2 := h.c2
  clear h
  go_enter Try.func17, Try.ntmps17
  go_wp2
  go_ret
  exact ⟨rfl, rfl⟩
set_option maxRecDepth 100000 in
theorem writes_any (b m : Nat) (s : FS) (w : World) (h : DiskIs w b m s) :
    Calls Try.prog 25 #[.pointer (some ⟨b, 0, none⟩)] w fun e w' => e = .returned (.int .i64 s.writes) ∧ w' = w := by
  have c4 := h.c4
  clear h
  go_enter Try.func25, Try.ntmps25
  go_wp2
  go_ret
  exact ⟨rfl, rfl⟩
end Go.Proofs.Ytmfndobdkihbnaa.Dk
