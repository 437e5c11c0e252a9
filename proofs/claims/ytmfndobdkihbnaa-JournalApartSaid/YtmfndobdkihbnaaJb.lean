/-
  A journal: there, Format, Groups.
-/
import Derived.Test.YtmfndobdkihbnaaJa
namespace Go.Proofs.Ytmfndobdkihbnaa.Dk
open Go.RowKit Go.MapKept Go.Proofs.YtmfndobdkihbnaaW.PrintWords Go.Proofs.YtmfndobdkihbnaaW.PrintLast Go.Proofs.YtmfndobdkihbnaaW.PrintMore
set_option linter.unusedVariables false
set_option linter.unusedSimpArgs false

/-- Block jb of W is the journal on the disk at b, from block at on. -/
def JIs (W : World) (jb b : Nat) (at_ groups : Int) : Prop := W.heap[jb]? = some (.cells #[.pointer (some ⟨b, 0, none⟩), .int .i64 at_, .int .i64 groups] 68 (0, 0))
section
variable {W W' : World} {jb b : Nat} {at_ groups : Int}
theorem JIs.c0 (h : JIs W jb b at_ groups) : W.cell? ⟨jb, 0, none⟩ = some (.pointer (some ⟨b, 0, none⟩)) := heap_cell h 0 _ rfl
theorem JIs.c1 (h : JIs W jb b at_ groups) : W.cell? ⟨jb, 1, none⟩ = some (.int .i64 at_) := heap_cell h 1 _ rfl
theorem JIs.c2 (h : JIs W jb b at_ groups) : W.cell? ⟨jb, 2, none⟩ = some (.int .i64 groups) := heap_cell h 2 _ rfl
theorem JIs.f2 (h : JIs W jb b at_ groups) : W.frozen? ⟨jb, 2, none⟩ = false := heap_frozen h 2 (.int .i64 groups) rfl
theorem JIs.fr {S : Nat → Prop} (h : JIs W jb b at_ groups) (hf : Fr S W W') (hS : ¬ S jb) : JIs W' jb b at_ groups := (hf.block jb (blk_lt h) hS).trans h
theorem JIs.below (h : JIs W jb b at_ groups) (hf : Below W.heap.size W W') : JIs W' jb b at_ groups := (hf.block jb (blk_lt h)).trans h
theorem JIs.put (h : JIs W jb b at_ groups) (g : Int) : JIs (W.setCell ⟨jb, 2, none⟩ (.int .i64 g)) jb b at_ g := heap_set1 h 2 _ (by simp)
/-- The disk's blocks are none of the journal's. -/
theorem JIs.ne {m : Nat} {s : FS} (h : JIs W jb b at_ groups) (hd : DiskIs W b m s) : ¬ (jb = b ∨ jb = m) := by
  obtain ⟨es, k, hm⟩ := hd.map
  exact fun e => e.elim (ne_types h hd.1 (by decide)) (ne_cells_map h hm)
end

set_option maxRecDepth 100000 in
theorem there_any (b m : Nat) (s : FS) (i : Int) (w : World) (h : DiskIs w b m s) (h0 : 0 ≤ i) (h1 : i + 199 ≤ s.len) (h2 : s.len ≤ 4096) :
    Calls Try.prog 26 #[.pointer (some ⟨b, 0, none⟩), .int .i64 i] w fun e w' => e = .returned (.bool true) ∧ w' = w := by
  have H := Aside0.mk h
  clear h
  obtain ⟨len, hlen⟩ : ∃ len, len = s.len := ⟨_, rfl⟩
  rw [← hlen] at h1 h2
  have hl := len_any b m s w H.out
  rw [← hlen] at hl
  have HL := Aside0.mk hl
  clear hlen hl
  have hle : i ≤ len - 199 := by omega
  go_enter Try.func26, Try.ntmps26
  go_wp2_with fail
  refine HL.out.mono ?_
  rintro e w1 ⟨rfl, rfl⟩
  go_wp2
  go_ret
  exact ⟨rfl, rfl⟩

set_option maxRecDepth 100000 in
theorem groups_any (jb b : Nat) (i g : Int) (w : World) (h : JIs w jb b i g) :
    Calls Try.prog 12 #[.pointer (some ⟨jb, 0, none⟩)] w fun e w' => e = .returned (.int .i64 g) ∧ w' = w := by
  have c2 := h.c2
  clear h
  go_enter Try.func12, Try.ntmps12
  go_wp2
  go_ret
  exact ⟨rfl, rfl⟩

set_option maxRecDepth 100000 in
theorem format_any (b m : Nat) (s : FS) (i : Int) (w : World) (h : DiskIs w b m s) (h0 : 0 ≤ i) (h1 : i + 199 ≤ s.len) (h2 : s.len ≤ 4096) :
    Calls Try.prog 8 #[.pointer (some ⟨b, 0, none⟩), .int .i64 i] w fun e w' => e = .returned (.int .i64 (s.write i (headB 0 0)).2) ∧ DiskIs w' b m (s.write i (headB 0 0)).1 ∧ Fr (fun k => k = b ∨ k = m) w w' := by
  have H := Aside0.mk h
  have HT := Aside0.mk (there_any b m s i w h h0 h1 h2)
  clear h h0 h1 h2
  go_enter Try.func8, Try.ntmps8
  go_wp2_with fail
  refine HT.out.mono ?_
  rintro e w1 ⟨rfl, rfl⟩
  go_wp2_with fail
  refine (head_any 0 0 w1).mono ?_
  rintro e w2 ⟨q, k, rfl, hq, hr, hb⟩
  have D2 := Aside0.mk (H.out.below hb)
  have B2 := Aside0.mk hb
  have R2 := Aside0.mk hr
  have HQ := Aside0.mk (show q ≠ b by have := H.out.lt; omega)
  clear hq hr hb
  go_wp2_with fail
  have hw := write_any b m s i (some ⟨q, 0, none⟩) k (headB 0 0) w2 D2.out R2.out.bytes (fun ad e => by cases e; exact HQ.out)
  rw [headB_len] at hw
  refine hw.mono ?_
  clear hw
  rintro e w3 ⟨rfl, hd, hf⟩
  have D3 := Aside0.mk hd
  have F3 := Aside0.mk (Fr.trans (Fr.of_below B2.out) hf)
  clear hd hf
  go_wp2
  go_ret
  exact ⟨rfl, D3.out, F3.out⟩
end Go.Proofs.Ytmfndobdkihbnaa.Dk
