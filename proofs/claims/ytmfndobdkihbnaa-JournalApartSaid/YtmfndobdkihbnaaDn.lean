/-
  The given program's disk: New, Clone.
-/
import Derived.Test.YtmfndobdkihbnaaDw
import Derived.Laws.Externs
namespace Go.Proofs.Ytmfndobdkihbnaa.Dk
open Go.RowKit Go.MapKept Go.Proofs.YtmfndobdkihbnaaW.PrintWords Go.Proofs.YtmfndobdkihbnaaW.PrintLast Go.Proofs.YtmfndobdkihbnaaW.PrintMore
set_option linter.unusedVariables false
set_option linter.unusedSimpArgs false

def FS.new (n : Int) : FS := ⟨n, fun _ => zeros, false, -1, 0⟩
def NewPost (n : Int) (w : World) (e : Ending) (w' : World) : Prop :=
  (1 ≤ n ∧ n ≤ 4096 ∧ ∃ b m, e = .returned (.tuple #[.pointer (some ⟨b, 0, none⟩), .int .i64 0]) ∧ DiskIs w' b m (FS.new n) ∧ w.heap.size ≤ b ∧ w.heap.size ≤ m ∧ Below w.heap.size w w') ∨
  (¬ (1 ≤ n ∧ n ≤ 4096) ∧ e = .returned (.tuple #[.pointer none, .int .i64 1]) ∧ w' = w)
set_option maxRecDepth 100000 in
theorem new_any (n : Int) (w : World) :
    Calls Try.prog 7 #[.int .i64 n] w fun e w' => NewPost n w e w' := by
  by_cases h : n < 1
  · go_enter Try.func7, Try.ntmps7
    go_wp2
    exact bodyPost_ret (v := .tuple #[.pointer none, .int .i64 1]) (by simp [results, Try.results7, go_sem]) rfl (Or.inr ⟨by omega, rfl, rfl⟩)
  by_cases h2 : n > 4096
  · go_enter Try.func7, Try.ntmps7
    go_wp2
    exact bodyPost_ret (v := .tuple #[.pointer none, .int .i64 1]) (by simp [results, Try.results7, go_sem]) rfl (Or.inr ⟨by omega, rfl, rfl⟩)
  have hmk := fun w => run_makeMap (P := Try.prog) 61 w
  go_enter Try.func7, Try.ntmps7
  go_wp2
  refine bodyPost_ret (v := .tuple #[.pointer (some ⟨w.heap.size + 1, 0, none⟩), .int .i64 0]) (by simp [results, Try.results7, go_sem]) rfl (Or.inl ⟨by omega, by omega, w.heap.size + 1, w.heap.size, rfl, ⟨?_, ?_, fun _ => rfl⟩, by omega, by omega, ?_⟩)
  · exact Go.heap_alloc2_new w _ _
  · exact (MapIs.empty w 0).step (Below.heap_alloc _ _ _ (by simp))
  · exact ((Below.refl _ w).alloc (Nat.le_refl _) _).alloc (by simp) _

/-- maps.Clone of a map. -/
theorem run_eql_map_nil (w : World) (t k e : TypeId) (p : Option Nat) (h : Try.prog.underlying t = some (.map k e)) :
    (binOp .eql t (.map p) (.map none)).run Try.prog w = .ok (.bool p.isNone) w := by
  have h1 : ∀ d : Nat, (Op.equalIn (d + 1) t (.map p) (.map none)).run Try.prog w = .ok p.isNone w := by
    intro d; cases p <;> simp [Op.equalIn, run_underlying h]
  simp only [binOp]
  simp [show Op.equal t (.map p) (.map none) = Op.equalIn (9999 + 1) t (.map p) (.map none) from rfl, h1 9999]
theorem run_typeAssert_map (w : World) (t xT k e : TypeId) (v : Value) (h : Try.prog.underlying t = some (.map k e)) : (Instr.typeAssert (.iface t v) xT t false).run Try.prog w = .ok v w := by
  simp [Instr.typeAssert, run_underlying h, go_sem, Result.andThen]
theorem run_maps_clone (w : World) {r : Nat} {es : Array MapEntry} {clock : Nat} (t : TypeId) (hb : w.heap[r]? = some (.map es clock)) :
    (Extern.MapsClone.clone #[.iface t (.map (some r))]).run Try.prog w = .ok (.iface t (.map (some w.heap.size))) (w.alloc (.map es clock)) := by
  have e : Extern.MapsClone.clone #[.iface t (.map (some r))] = (getObj r >>= fun o => match o with
      | .map entries clock => (newObj (.map entries clock) >>= fun n => pure (.iface t (.map (some n))))
      | _ => stuck "maps.clone: a map expected") := rfl
  rw [e]
  simp [MapKept.run_getObj_map hb, Result.andThen, go_sem]
set_option maxHeartbeats 2000000 in
set_option maxRecDepth 100000 in
theorem mapsClone_any (m : Nat) (f : Int → List Int) (w : World) (h : MapIs w m f) :
    Calls Try.prog 32 #[.map (some m)] w fun e w' => e = .returned (.map (some w.heap.size)) ∧ MapIs w' w.heap.size f ∧ Below w.heap.size w w' ∧ w'.heap.size = w.heap.size + 1 := by
  have hq := fun w => run_eql_map_nil w 61 _ _ (some m) Try.underlying61
  obtain ⟨es, clock, hb, hrest⟩ := h
  have HR := Aside0.mk hrest
  clear hrest
  go_enter Try.func32, Try.ntmps32
  go_wp2
  rw [run_callFunc_extern Try.func34 (by kernel_rfl) (by kernel_rfl) (by kernel_rfl) (e := Extern.MapsClone.clone) (by kernel_rfl), run_maps_clone w 61 hb]
  simp only [Result.andThen]
  rw [Oper.upon_value]
  go_wp2
  rw [run_typeAssert_map _ 61 20 _ _ _ Try.underlying61]
  simp only [Result.andThen]
  rw [Oper.upon_value]
  go_wp2
  go_ret
  exact ⟨rfl, ⟨es, clock, (heap_alloc w _).1, HR.out⟩, (Below.refl _ w).alloc (Nat.le_refl _) _, by simp⟩

set_option maxHeartbeats 2000000 in
set_option maxRecDepth 100000 in
theorem clone_any (b m : Nat) (s : FS) (w : World) (h : DiskIs w b m s) :
    Calls Try.prog 24 #[.pointer (some ⟨b, 0, none⟩)] w fun e w' => ∃ b' m', e = .returned (.pointer (some ⟨b', 0, none⟩)) ∧ DiskIs w' b' m' s ∧ w.heap.size ≤ b' ∧ w.heap.size ≤ m' ∧ Below w.heap.size w w' := by
  have H := Aside0.mk h
  have c0 := h.c0
  have c1 := h.c1
  have c2 := h.c2
  have c3 := h.c3
  have c4 := h.c4
  have hlt := h.lt
  clear h
  go_enter Try.func24, Try.ntmps24
  go_wp2_with fail
  have HM := Aside0.mk (show MapIs (w.alloc (Obj.cells (diskCells m s) 63)) m s.has from H.out.2.1.step (Below.heap_alloc _ _ _ H.out.2.1.lt))
  refine (mapsClone_any m s.has _ HM.out).mono ?_
  rintro e w2 ⟨rfl, hm2, hb2, hs2⟩
  have hsz : (w.alloc (Obj.cells (diskCells m s) 63)).heap.size = w.heap.size + 1 := by simp
  have hb2' : Below (w.heap.size + 1) (w.alloc (Obj.cells (diskCells m s) 63)) w2 := by rw [← hsz]; exact hb2
  have hnew : w2.heap[w.heap.size]? = some (.cells (diskCells m s) 63 (0, 0)) := (hb2'.block _ (by omega)).trans (Go.heap_alloc_new w _)
  have hm2' : MapIs w2 (w.heap.size + 1) s.has := by rw [← hsz]; exact hm2
  have HN := Aside0.mk hnew
  have HM2 := Aside0.mk hm2'
  have HB2 := Aside0.mk (show Below w.heap.size w w2 from ((Below.refl _ w).alloc (Nat.le_refl _) _).trans (hb2'.mono (by omega)))
  have e1 : w2.cell? ⟨w.heap.size, 1, none⟩ = some (.map (some m)) := heap_cell hnew 1 _ rfl
  have g1 : w2.frozen? ⟨w.heap.size, 1, none⟩ = false := heap_frozen hnew 1 (.map (some m)) rfl
  clear hm2 hb2 hb2' hnew hm2' c0 c1 c2 c3 c4 HM
  go_wp2
  go_ret
  refine ⟨w.heap.size, w.heap.size + 1, rfl, ⟨?_, HM2.out.step (Below.heap_setCell _ _ _ _ (by simp)), H.out.2.2⟩, by omega, by omega, HB2.out.setCell (Nat.le_refl _) _⟩
  have := heap_set1 HN.out 1 (.map (some (w.heap.size + 1))) (by simp [diskCells])
  exact this
end Go.Proofs.Ytmfndobdkihbnaa.Dk
