/-
  Two disks and their references side by side: what each step leaves.
-/
import Derived.Test.YtcgcojdkkkfkdaaDj
namespace Go.Proofs.Ytcgcojdkkkfkdaa.Dk
open Go.RowKit Go.MapKept Go.Proofs.YtcgcojdkkkfkdaaW.PrintWords Go.Proofs.YtcgcojdkkkfkdaaW.PrintLast Go.Proofs.YtcgcojdkkkfkdaaW.PrintMore
set_option linter.unusedVariables false
set_option linter.unusedSimpArgs false

structure Pt where
  (xb xm zb zm yb ya yc yB wb wa wc wB : Nat)
structure Dt where
  (sx sz : FS)
  (rx rz : RS)
structure St (w0 W : World) (p : Pt) (d : Dt) (o : Option (Nat × Array Value)) : Prop where
  x : DiskIs W p.xb p.xm d.sx
  z : DiskIs W p.zb p.zm d.sz
  y : RefIs W p.yb p.ya p.yc p.yB d.rx
  w : RefIs W p.wb p.wa p.wc p.wB d.rz
  lx : 0 < d.rx.B.length
  lz : 0 < d.rz.B.length
  n1 : p.xb ≠ p.zb
  n2 : p.xm ≠ p.zm
  n3 : p.yb ≠ p.wb
  n4 : p.ya ≠ p.wa
  b1 : w0.heap.size ≤ p.xb
  b2 : w0.heap.size ≤ p.xm
  b3 : w0.heap.size ≤ p.yb
  b4 : w0.heap.size ≤ p.ya
  bb : Below w0.heap.size w0 W
  o : ∀ ob oc, o = some (ob, oc) → W.heap[ob]? = some (.cells oc 34 (0, 0))

theorem ne_cells_map {W : World} {a b : Nat} {c : Array Value} {t : TypeId} {es : Array MapEntry} {k : Nat} (h : W.heap[a]? = some (.cells c t (0, 0))) (h2 : W.heap[b]? = some (.map es k)) : a ≠ b := by
  intro e; rw [e, h2] at h; cases h
theorem ne_types {W : World} {a b : Nat} {c c' : Array Value} {t t' : TypeId} (h : W.heap[a]? = some (.cells c t (0, 0))) (h2 : W.heap[b]? = some (.cells c' t' (0, 0))) (ht : t ≠ t') : a ≠ b := by
  intro e
  rw [e, h2] at h
  injection h with h
  injection h with _ h3 _
  exact ht h3.symm
theorem DiskIs.map {W : World} {b m : Nat} {s : FS} (h : DiskIs W b m s) : ∃ es k, W.heap[m]? = some (.map es k) := by
  obtain ⟨es, k, h2, _⟩ := h.2.1
  exact ⟨es, k, h2⟩
section
variable {w0 W W' : World} {p : Pt} {d : Dt} {o : Option (Nat × Array Value)}
theorem St.below (h : St w0 W p d o) (hb : Below W.heap.size W W') : St w0 W' p d o :=
  { h with x := h.x.below hb, z := h.z.below hb, y := h.y.below hb, w := h.w.below hb, bb := below_step h.bb hb, o := fun ob oc e => (hb.block ob (blk_lt (h.o ob oc e))).trans (h.o ob oc e) }
theorem St.xstep (h : St w0 W p d o) {sx' : FS} (hd : DiskIs W' p.xb p.xm sx') (hf : Fr (fun k => k = p.xb ∨ k = p.xm) W W') : St w0 W' p { d with sx := sx' } o := by
  obtain ⟨es, k, hxm⟩ := h.x.map
  obtain ⟨es', k', hzm⟩ := h.z.map
  obtain ⟨cy, hy⟩ := h.y.row h.lx
  obtain ⟨cw, hw⟩ := h.w.row h.lz
  have hnb : NoBytes W (fun k => k = p.xb ∨ k = p.xm) := fun k cs hk hc => by
    rcases hk with rfl | rfl
    · exact ne_types h.x.1 hc (by decide) rfl
    · exact ne_cells_map hc hxm rfl
  refine { h with x := hd, z := h.z.fr hf ?_ ?_, y := h.y.fr hf ?_ ?_ hnb, w := h.w.fr hf ?_ ?_ hnb, bb := h.bb.trans (hf.below h.bb.size (fun k hk => hk.elim (fun e => by rw [e]; exact h.b1) (fun e => by rw [e]; exact h.b2))), o := fun ob oc e => (hf.block ob (blk_lt (h.o ob oc e)) ?_).trans (h.o ob oc e) }
  · exact fun e => e.elim (fun e => h.n1 e.symm) (ne_cells_map h.z.1 hxm)
  · exact fun e => e.elim (fun e => ne_cells_map h.x.1 hzm e.symm) (fun e => h.n2 e.symm)
  · exact fun e => e.elim (ne_types h.y.1 h.x.1 (by decide)) (ne_cells_map h.y.1 hxm)
  · exact fun e => e.elim (ne_types hy h.x.1 (by decide)) (ne_cells_map hy hxm)
  · exact fun e => e.elim (ne_types h.w.1 h.x.1 (by decide)) (ne_cells_map h.w.1 hxm)
  · exact fun e => e.elim (ne_types hw h.x.1 (by decide)) (ne_cells_map hw hxm)
  · exact fun e2 => e2.elim (ne_types (h.o ob oc e) h.x.1 (by decide)) (ne_cells_map (h.o ob oc e) hxm)
theorem St.ystep (h : St w0 W p d o) {rx' : RS} (hd : RefIs W' p.yb p.ya p.yc p.yB rx') (hl : rx'.B.length = d.rx.B.length) (hf : Fr (fun k => k = p.yb ∨ k = p.ya) W W') : St w0 W' p { d with rx := rx' } o := by
  obtain ⟨es, k, hxm⟩ := h.x.map
  obtain ⟨es', k', hzm⟩ := h.z.map
  obtain ⟨cy, hy⟩ := h.y.row h.lx
  obtain ⟨cw, hw⟩ := h.w.row h.lz
  have hnb : NoBytes W (fun k => k = p.yb ∨ k = p.ya) := fun k cs hk hc => by
    rcases hk with rfl | rfl
    · exact ne_types h.y.1 hc (by decide) rfl
    · exact ne_types hy hc (by decide) rfl
  refine { h with y := hd, lx := by show 0 < rx'.B.length; rw [hl]; exact h.lx, x := h.x.fr hf ?_ ?_, z := h.z.fr hf ?_ ?_, w := h.w.fr hf ?_ ?_ hnb, bb := h.bb.trans (hf.below h.bb.size (fun k hk => hk.elim (fun e => by rw [e]; exact h.b3) (fun e => by rw [e]; exact h.b4))), o := fun ob oc e => (hf.block ob (blk_lt (h.o ob oc e)) ?_).trans (h.o ob oc e) }
  · exact fun e => e.elim (ne_types h.x.1 h.y.1 (by decide)) (ne_types h.x.1 hy (by decide))
  · exact fun e => e.elim (fun e => ne_cells_map h.y.1 hxm e.symm) (fun e => ne_cells_map hy hxm e.symm)
  · exact fun e => e.elim (ne_types h.z.1 h.y.1 (by decide)) (ne_types h.z.1 hy (by decide))
  · exact fun e => e.elim (fun e => ne_cells_map h.y.1 hzm e.symm) (fun e => ne_cells_map hy hzm e.symm)
  · exact fun e => e.elim (fun e => h.n3 e.symm) (ne_types h.w.1 hy (by decide))
  · exact fun e => e.elim (ne_types hw h.y.1 (by decide)) (fun e => h.n4 e.symm)
  · exact fun e2 => e2.elim (ne_types (h.o ob oc e) h.y.1 (by decide)) (ne_types (h.o ob oc e) hy (by decide))
/-- A row of bytes that is none of the references' is written over. -/
theorem St.qstep (h : St w0 W p d o) {q : Nat} {cs : Array Value} (hq : W.heap[q]? = some (.cells cs 5 (0, 0))) (hq0 : w0.heap.size ≤ q) (hay : Avoid W p.ya d.rx.B.length q) (haw : Avoid W p.wa d.rz.B.length q) (hf : Fr (fun k => k = q) W W') : St w0 W' p d o := by
  obtain ⟨es, k, hxm⟩ := h.x.map
  obtain ⟨es', k', hzm⟩ := h.z.map
  obtain ⟨cy, hy⟩ := h.y.row h.lx
  obtain ⟨cw, hw⟩ := h.w.row h.lz
  refine { h with x := h.x.fr hf ?_ ?_, z := h.z.fr hf ?_ ?_, y := h.y.other hay hf ?_ ?_, w := h.w.other haw hf ?_ ?_, bb := h.bb.trans (hf.below h.bb.size (fun k hk => by rw [hk]; exact hq0)), o := fun ob oc e => (hf.block ob (blk_lt (h.o ob oc e)) ?_).trans (h.o ob oc e) }
  · exact ne_types h.x.1 hq (by decide)
  · exact fun e => ne_cells_map hq hxm e.symm
  · exact ne_types h.z.1 hq (by decide)
  · exact fun e => ne_cells_map hq hzm e.symm
  · exact ne_types h.y.1 hq (by decide)
  · exact ne_types hy hq (by decide)
  · exact ne_types h.w.1 hq (by decide)
  · exact ne_types hw hq (by decide)
  · exact ne_types (h.o ob oc e) hq (by decide)
theorem St.q_x (h : St w0 W p d o) {q : Nat} {cs : Array Value} (hq : W.heap[q]? = some (.cells cs 5 (0, 0))) : ¬ (q = p.xb ∨ q = p.xm) := by
  obtain ⟨es, k, hxm⟩ := h.x.map
  exact fun e => e.elim (ne_types hq h.x.1 (by decide)) (ne_cells_map hq hxm)
theorem St.q_y (h : St w0 W p d o) {q : Nat} {cs : Array Value} (hq : W.heap[q]? = some (.cells cs 5 (0, 0))) : ¬ (q = p.yb ∨ q = p.ya) := by
  obtain ⟨cy, hy⟩ := h.y.row h.lx
  exact fun e => e.elim (ne_types hq h.y.1 (by decide)) (ne_types hq hy (by decide))
theorem St.av_x (h : St w0 W p d o) (hf : Fr (fun k => k = p.xb ∨ k = p.xm) W W') : W'.heap[p.ya]? = W.heap[p.ya]? ∧ W'.heap[p.wa]? = W.heap[p.wa]? := by
  obtain ⟨es, k, hxm⟩ := h.x.map
  obtain ⟨cy, hy⟩ := h.y.row h.lx
  obtain ⟨cw, hw⟩ := h.w.row h.lz
  exact ⟨hf.block _ (blk_lt hy) (fun e => e.elim (ne_types hy h.x.1 (by decide)) (ne_cells_map hy hxm)), hf.block _ (blk_lt hw) (fun e => e.elim (ne_types hw h.x.1 (by decide)) (ne_cells_map hw hxm))⟩
theorem St.av_y (h : St w0 W p d o) (hf : Fr (fun k => k = p.yb ∨ k = p.ya) W W') : W'.heap[p.wa]? = W.heap[p.wa]? := by
  obtain ⟨cw, hw⟩ := h.w.row h.lz
  exact hf.block _ (blk_lt hw) (fun e => e.elim (ne_types hw h.y.1 (by decide)) (fun e => h.n4 e.symm))
theorem St.av_q (h : St w0 W p d o) {q : Nat} {cs : Array Value} (hq : W.heap[q]? = some (.cells cs 5 (0, 0))) (hf : Fr (fun k => k = q) W W') : W'.heap[p.ya]? = W.heap[p.ya]? ∧ W'.heap[p.wa]? = W.heap[p.wa]? := by
  obtain ⟨cy, hy⟩ := h.y.row h.lx
  obtain ⟨cw, hw⟩ := h.w.row h.lz
  exact ⟨hf.block _ (blk_lt hy) (ne_types hy hq (by decide)), hf.block _ (blk_lt hw) (ne_types hw hq (by decide))⟩
theorem St.rows (h : St w0 W p d o) : p.ya < W.heap.size ∧ p.wa < W.heap.size := by
  obtain ⟨cy, hy⟩ := h.y.row h.lx
  obtain ⟨cw, hw⟩ := h.w.row h.lz
  exact ⟨blk_lt hy, blk_lt hw⟩
theorem RS.write_len (r : RS) (i : Int) (bs : List Int) : (r.write i bs).1.B.length = r.B.length := by
  unfold RS.write
  split
  · split
    · split
      · rfl
      · exact List.length_set
    · rfl
  · rfl
theorem St.drop (h : St w0 W p d o) : St w0 W p d none := { h with o := fun _ _ e => by cases e }
theorem St.cell {ob : Nat} {oc : Array Value} (h : St w0 W p d (some (ob, oc))) (i : Nat) (v : Value) (hv : oc[i]? = some v) : W.cell? ⟨ob, i, none⟩ = some v := heap_cell (h.o ob oc rfl) i v hv
/-- A clone takes its place, the old one goes on beside. -/
theorem St.clone (h : St w0 W p d o) {b' m' : Nat} {W2 : World} (hx : DiskIs W' b' m' d.sx) (hb' : W.heap.size ≤ b') (hm' : W.heap.size ≤ m') (hB : Below W.heap.size W W') {b2 a2 c2 : Nat} (hy : RefIs W2 b2 a2 c2 W'.heap.size d.rx) (ha2 : W'.heap.size ≤ a2) (hB2 : Below W'.heap.size W' W2) :
    St w0 W2 ⟨b', m', p.xb, p.xm, b2, a2, c2, W'.heap.size, p.yb, p.ya, p.yc, p.yB⟩ ⟨d.sx, d.sx, d.rx, d.rx⟩ o := by
  have h2 := (h.below hB).below hB2
  have l1 := h.x.lt
  have l2 := h.x.2.1.lt
  have l3 := h.y.lt
  obtain ⟨cy, hyr⟩ := h.y.row h.lx
  have l4 := blk_lt hyr
  have s0 := h.bb.size
  have s1 := hB.size
  exact { x := hx.below hB2, z := h2.x, y := hy, w := h2.y, lx := h.lx, lz := h.lx, n1 := by show b' ≠ p.xb; omega, n2 := by show m' ≠ p.xm; omega, n3 := by show b2 ≠ p.yb; have := hy.2.1; omega, n4 := by show a2 ≠ p.ya; omega, b1 := by show _ ≤ b'; omega, b2 := by show _ ≤ m'; omega, b3 := by show _ ≤ b2; have := hy.2.1; omega, b4 := by show _ ≤ a2; omega, bb := h2.bb, o := h2.o }
end
end Go.Proofs.Ytcgcojdkkkfkdaa.Dk
