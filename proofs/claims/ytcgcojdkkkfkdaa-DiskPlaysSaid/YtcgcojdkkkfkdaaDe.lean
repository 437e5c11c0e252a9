/-
  The reference's disk: a row of blocks.
-/
import Derived.Test.YtcgcojdkkkfkdaaDn
namespace Go.Proofs.Ytcgcojdkkkfkdaa.Dk
open Go.RowKit Go.MapKept Go.Proofs.YtcgcojdkkkfkdaaW.PrintWords Go.Proofs.YtcgcojdkkkfkdaaW.PrintLast Go.Proofs.YtcgcojdkkkfkdaaW.PrintMore
set_option linter.unusedVariables false
set_option linter.unusedSimpArgs false

structure RS where
  B : List (List Int)
  off : Bool
  burns : Bool
  left : Int
  n : Int

/-- A slice as an element: its one cell. -/
def encS (x : Option Addr × Nat × Nat) : Value := .slice x.1 x.2.1 x.2.2
def kS : Kd (Option Addr × Nat × Nat) := Kd.scalar encS (fun _ => rfl)
theorem infoU8 : (Try.prog.info? 5).map (fun i => (i.zero, i.size, i.bytes)) = some (some (.int .u8 0), 1, 1) := by kernel_rfl
theorem infoSl : (Try.prog.info? 36).map (fun i => (i.zero, i.size, i.bytes)) = some (some (.slice none 0 0), 1, 24) := by kernel_rfl

/-- A block of the reference: none, or 64 bytes of a block of its own. -/
def Inner (W : World) (x : Option Addr × Nat × Nat) (bs : List Int) : Prop :=
  (x = (none, 0, 0) ∧ bs = []) ∨ ∃ g c cs, x = (some ⟨g, 0, none⟩, 64, c) ∧ bs.length = 64 ∧ W.heap[g]? = some (.cells cs 5 (0, 0)) ∧ Bytes W ⟨g, 0, none⟩ bs
def refCells (v : Value) (s : RS) : Array Value := #[v, .bool s.off, .bool s.burns, .int .i64 s.left, .int .i64 s.n]
def RefIs (W : World) (b a c base : Nat) (s : RS) : Prop :=
  W.heap[b]? = some (.cells (refCells (.slice (some ⟨a, 0, none⟩) s.B.length c) s) 65 (0, 0)) ∧ base ≤ b ∧
  ∃ xs : List (Option Addr × Nat × Nat), xs.length = s.B.length ∧ Kd.R kS 36 W base (fun k => k = a) (.slice (some ⟨a, 0, none⟩) s.B.length c) xs ∧ ∀ (i : Nat) x bs, xs[i]? = some x → s.B[i]? = some bs → Inner W x bs
/-- S has no rows of bytes that are there. -/
def NoBytes (W : World) (S : Nat → Prop) : Prop := ∀ k cs, S k → W.heap[k]? ≠ some (.cells cs 5 (0, 0))
section
variable {W W' : World} {b a c base : Nat} {s : RS}
theorem blk_lt {o : Obj} {g : Nat} (h : W.heap[g]? = some o) : g < W.heap.size := by
  rcases Nat.lt_or_ge g W.heap.size with h' | h'
  · exact h'
  · simp [h'] at h
theorem Inner.fr {S : Nat → Prop} {x : Option Addr × Nat × Nat} {bs : List Int} (h : Inner W x bs) (hf : Fr S W W') (hS : NoBytes W S) : Inner W' x bs := by
  rcases h with h | ⟨g, c, cs, e, hl, hg, hb⟩
  · exact .inl h
  · have := hf.block g (blk_lt hg) (fun hk => hS g cs hk hg)
    exact .inr ⟨g, c, cs, e, hl, this.trans hg, hb.step this⟩
theorem RefIs.lt (h : RefIs W b a c base s) : b < W.heap.size := blk_lt h.1
theorem RefIs.fr {S : Nat → Prop} (h : RefIs W b a c base s) (hf : Fr S W W') (hb : ¬ S b) (ha : ¬ S a) (hS : NoBytes W S) : RefIs W' b a c base s := by
  obtain ⟨h1, h2, xs, h3, h4, h5⟩ := h
  exact ⟨(hf.block b (blk_lt h1) hb).trans h1, h2, xs, h3, Kd.R_step h4 (fun k hk hlt => hf.block k hlt (by rw [hk]; exact ha)), fun i x bs hx hbs => (h5 i x bs hx hbs).fr hf hS⟩
theorem RefIs.below (h : RefIs W b a c base s) (hf : Below W.heap.size W W') : RefIs W' b a c base s := h.fr (Fr.of_below (S := fun _ => False) hf) (fun h => h) (fun h => h) (fun _ _ h => h.elim)
theorem RefIs.c0 (h : RefIs W b a c base s) : W.cell? ⟨b, 0, none⟩ = some (.slice (some ⟨a, 0, none⟩) s.B.length c) := heap_cell h.1 0 _ rfl
theorem RefIs.c1 (h : RefIs W b a c base s) : W.cell? ⟨b, 1, none⟩ = some (.bool s.off) := heap_cell h.1 1 _ rfl
theorem RefIs.c2 (h : RefIs W b a c base s) : W.cell? ⟨b, 2, none⟩ = some (.bool s.burns) := heap_cell h.1 2 _ rfl
theorem RefIs.c3 (h : RefIs W b a c base s) : W.cell? ⟨b, 3, none⟩ = some (.int .i64 s.left) := heap_cell h.1 3 _ rfl
theorem RefIs.c4 (h : RefIs W b a c base s) : W.cell? ⟨b, 4, none⟩ = some (.int .i64 s.n) := heap_cell h.1 4 _ rfl
theorem RefIs.f1 (h : RefIs W b a c base s) : W.frozen? ⟨b, 1, none⟩ = false := heap_frozen h.1 1 _ rfl
theorem RefIs.f2 (h : RefIs W b a c base s) : W.frozen? ⟨b, 2, none⟩ = false := heap_frozen h.1 2 _ rfl
theorem RefIs.f3 (h : RefIs W b a c base s) : W.frozen? ⟨b, 3, none⟩ = false := heap_frozen h.1 3 _ rfl
theorem RefIs.f4 (h : RefIs W b a c base s) : W.frozen? ⟨b, 4, none⟩ = false := heap_frozen h.1 4 _ rfl
/-- The outer row's block, by its type. -/
theorem RefIs.row (h : RefIs W b a c base s) (hp : 0 < s.B.length) : ∃ cells, W.heap[a]? = some (.cells cells 36 (0, 0)) := by
  obtain ⟨_, _, xs, h3, h4, _⟩ := h
  obtain ⟨g, cap, e, _, _, cells, hc⟩ := Kd.R_form h4 (by omega)
  injection e with e1 _ _
  injection e1 with e1
  injection e1 with e1
  subst e1
  exact ⟨cells, hc⟩
theorem RefIs.ne (h : RefIs W b a c base s) (hp : 0 < s.B.length) : a ≠ b := by
  obtain ⟨cells, hc⟩ := h.row hp
  intro e
  rw [e, h.1] at hc
  injection hc with hc
  injection hc with _ h2 _
  exact absurd h2 (by decide)
/-- A store into the struct. -/
theorem RefIs.set {s' : RS} (h : RefIs W b a c base s) (hp : 0 < s.B.length) (i : Nat) (v : Value) (hi : i < 5) (hs : (refCells (.slice (some ⟨a, 0, none⟩) s.B.length c) s).setIfInBounds i v = refCells (.slice (some ⟨a, 0, none⟩) s'.B.length c) s') (hB : s'.B = s.B) : RefIs (W.setCell ⟨b, i, none⟩ v) b a c base s' := by
  have hne := h.ne hp
  have h' := h
  obtain ⟨h1, h2, xs, h3, h4, h5⟩ := h
  have hfr : Fr (fun k => k = b) W (W.setCell ⟨b, i, none⟩ v) := Fr.cell (S := fun k => k = b) (Fr.refl _ _) b i rfl v
  refine ⟨by rw [heap_set1 h1 i v (by simp [refCells]; omega), hs], h2, xs, by rw [hB]; exact h3, ?_, ?_⟩
  · rw [hB]
    exact Kd.R_step h4 (fun k hk hlt => hfr.block k hlt (by rw [hk]; exact hne))
  · intro j x bs hx hbs
    rw [hB] at hbs
    exact (h5 j x bs hx hbs).fr hfr (fun k cs hk hc => by
      rw [hk, h1] at hc
      injection hc with hc
      injection hc with _ h2 _
      exact absurd h2 (by decide))
end

def RS.fuseTo (s : RS) (n : Int) : RS := if s.off then s else { s with burns := decide (0 ≤ n), left := n }
def RS.boot (s : RS) : RS := { s with off := false, burns := false }
def RS.new (n : Nat) : RS := ⟨List.replicate n [], false, false, 0, 0⟩

set_option maxRecDepth 100000 in
theorem rfuse_any (b a c base : Nat) (s : RS) (n : Int) (w : World) (h : RefIs w b a c base s) (hp : 0 < s.B.length) :
    Calls Try.prog 20 #[.pointer (some ⟨b, 0, none⟩), .int .i64 n] w fun e w' => e = .returned (.tuple #[]) ∧ RefIs w' b a c base (s.fuseTo n) ∧ Fr (fun k => k = b) w w' := by
  have c1 := h.c1
  have c2 := h.c2
  have c3 := h.c3
  have f2 := h.f2
  have f3 := h.f3
  have H := Aside0.mk h
  clear h
  cases ho : s.off
  · have hs : s.fuseTo n = { s with burns := decide (0 ≤ n), left := n } := by unfold RS.fuseTo; rw [ho]; rfl
    rw [ho] at c1
    have HS := Aside0.mk hs
    clear hs ho
    go_enter Try.func20, Try.ntmps20
    go_wp2
    go_end0
    have h1 := H.out.set (s' := { s with burns := decide (0 ≤ n) }) hp 2 (.bool (decide (0 ≤ n))) (by omega) rfl rfl
    rw [HS.out]
    exact ⟨rfl, h1.set hp 3 (.int .i64 n) (by omega) rfl rfl, Fr.cell (S := fun k => k = b) (Fr.cell (S := fun k => k = b) (Fr.refl _ _) b 2 rfl _) b 3 rfl _⟩
  · have hs : s.fuseTo n = s := by unfold RS.fuseTo; rw [ho]; rfl
    rw [ho] at c1
    have HS := Aside0.mk hs
    clear hs ho
    go_enter Try.func20, Try.ntmps20
    go_wp2
    go_end0
    rw [HS.out]
    exact ⟨rfl, H.out, Fr.refl _ _⟩
set_option maxRecDepth 100000 in
theorem rboot_any (b a c base : Nat) (s : RS) (w : World) (h : RefIs w b a c base s) (hp : 0 < s.B.length) :
    Calls Try.prog 22 #[.pointer (some ⟨b, 0, none⟩)] w fun e w' => e = .returned (.tuple #[]) ∧ RefIs w' b a c base s.boot ∧ Fr (fun k => k = b) w w' := by
  have c1 := h.c1
  have c2 := h.c2
  have f1 := h.f1
  have f2 := h.f2
  have H := Aside0.mk h
  clear h
  go_enter Try.func22, Try.ntmps22
  go_wp2
  go_end0
  have h1 := H.out.set (s' := { s with off := false }) hp 1 (.bool false) (by omega) rfl rfl
  exact ⟨rfl, h1.set hp 2 (.bool false) (by omega) rfl rfl, Fr.cell (S := fun k => k = b) (Fr.cell (S := fun k => k = b) (Fr.refl _ _) b 1 rfl _) b 2 rfl _⟩

def RNewPost (n : Int) (w : World) (e : Ending) (w' : World) : Prop :=
  (1 ≤ n ∧ n ≤ 4096 ∧ ∃ b a c, e = .returned (.tuple #[.pointer (some ⟨b, 0, none⟩), .int .i64 0]) ∧ RefIs w' b a c w.heap.size (RS.new n.toNat) ∧ Below w.heap.size w w') ∨
  (¬ (1 ≤ n ∧ n ≤ 4096) ∧ e = .returned (.tuple #[.pointer none, .int .i64 1]) ∧ w' = w)
set_option maxRecDepth 100000 in
theorem rnew_any (n : Int) (w : World) :
    Calls Try.prog 11 #[.int .i64 n] w fun e w' => RNewPost n w e w' := by
  by_cases h : n < 1
  · go_enter Try.func11, Try.ntmps11
    go_wp2
    exact bodyPost_ret (v := .tuple #[.pointer none, .int .i64 1]) (by simp [results, Try.results11, go_sem]) rfl (Or.inr ⟨by omega, rfl, rfl⟩)
  by_cases h2 : n > 4096
  · go_enter Try.func11, Try.ntmps11
    go_wp2
    exact bodyPost_ret (v := .tuple #[.pointer none, .int .i64 1]) (by simp [results, Try.results11, go_sem]) rfl (Or.inr ⟨by omega, rfl, rfl⟩)
  go_enter Try.func11, Try.ntmps11
  go_wp2_with (first | ((with_reducible refine gate_dst (N := 11) rfl ?_); refine Kd.R_make kS w.heap.size 36 rfl (N := 11) rfl 63 (.tmp 10) (.tmp 10) rfl n rfl rfl Try.underlying63 (.slice none 0 0) 24 infoSl rfl (by decide) (by omega) (none, 0, 0) (ok := fun _ => True) (okp := fun _ => False) rfl (fun _ hk => hk.elim) trivial (by omega) (by omega) (Below.refl _ _) (Nat.le_refl _) ?_; intro v11 w1 ho hb hg hnew; obtain ⟨a1, c1, e1, _, hlt1, _⟩ := Kd.R_form ho (by rw [List.length_replicate]; omega); rw [List.length_replicate] at e1; subst e1; have HO := Aside0.mk ho; have HB := Aside0.mk hb; clear ho hb hg hnew) | fail)
  refine bodyPost_ret (v := .tuple #[.pointer (some ⟨w1.heap.size, 0, none⟩), .int .i64 0]) (by simp [results, Try.results11, go_sem]) rfl (Or.inl ⟨by omega, by omega, w1.heap.size, a1, c1, rfl, ⟨?_, HB.out.size, List.replicate n.toNat (none, 0, 0), by simp [RS.new], ?_, ?_⟩, HB.out.alloc HB.out.size _⟩)
  · have := Go.heap_alloc_new w1 (Obj.cells #[Value.slice (some ⟨a1, 0, none⟩) n.toNat c1, Value.bool false, Value.bool false, Value.int IntKind.i64 0, Value.int IntKind.i64 0] 65)
    rw [this]
    simp [refCells, RS.new]
  · have h1 : Kd.R kS 36 w1 w.heap.size (fun k => k = a1) (.slice (some ⟨a1, 0, none⟩) n.toNat c1) (List.replicate n.toNat (none, 0, 0)) := ⟨fun k hk => by simp [Value.ownBlock] at hk; exact hk.symm, (HO.out).2.imp_ (fun _ _ hM => hM)⟩
    have := Kd.R_below h1 ((Below.refl _ _).alloc (Nat.le_refl _) (Obj.cells #[Value.slice (some ⟨a1, 0, none⟩) n.toNat c1, Value.bool false, Value.bool false, Value.int IntKind.i64 0, Value.int IntKind.i64 0] 65))
    simpa [RS.new] using this
  · intro i x bs hx hbs
    have hx' := List.mem_of_getElem? hx
    have hb' := List.mem_of_getElem? hbs
    exact Or.inl ⟨List.eq_of_mem_replicate hx', List.eq_of_mem_replicate hb'⟩
end Go.Proofs.Ytcgcojdkkkfkdaa.Dk
