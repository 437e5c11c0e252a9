/-
  Bytes as a string; a row of bytes of the call's own; small words on disks.
-/
import Derived.Test.YtmfndobdkihbnaaDn
import Derived.Laws.BytesString
import Derived.Lib.BufferRead
import Derived.BigQuiet
namespace Go.Proofs.Ytmfndobdkihbnaa.Dk
open Go.RowKit Go.MapKept Go.Proofs.YtmfndobdkihbnaaW.PrintWords Go.Proofs.YtmfndobdkihbnaaW.PrintLast Go.Proofs.YtmfndobdkihbnaaW.PrintMore
set_option linter.unusedVariables false
set_option linter.unusedSimpArgs false

theorem infoU8 : (Try.prog.info? 5).map (fun i => (i.zero, i.size, i.bytes)) = some (some (.int .u8 0), 1, 1) := by kernel_rfl
theorem infoU8s : (Try.prog.info? 5).map (·.size) = some 1 := by kernel_rfl
theorem blk_lt {W : World} {o : Obj} {g : Nat} (h : W.heap[g]? = some o) : g < W.heap.size := by
  rcases Nat.lt_or_ge g W.heap.size with h' | h'
  · exact h'
  · simp [h'] at h
def strB (bs : List Int) : ByteArray := bs.foldl (fun r n => r.push (UInt8.ofNat n.toNat)) ByteArray.empty
theorem conv_bytes {W : World} {A : Option Addr} {bs : List Int} (h : BytesAt W A bs) (c : Nat) : (convert 37 9 (.slice A bs.length c)).run Try.prog W = .ok (.string (strB bs)) W := by
  rcases bs with _ | ⟨x, t⟩
  · rcases A with _ | ad
    · exact Go.Lib.run_convert_nil_bytes W 37 9 5 c Try.underlying37 Try.underlying5 Try.underlying9
    · rw [run_convert_bytes_string W 37 9 5 _ _ _ Try.underlying37 Try.underlying5 Try.underlying9]
      exact run_bytesToString W ad 0 c [] (run_loadCells_list (P := Try.prog) W ad [] (fun j v hv => by simp at hv))
  · obtain ⟨ad, rfl, hb⟩ := h.2 (by simp)
    rw [run_convert_bytes_string W 37 9 5 _ _ _ Try.underlying37 Try.underlying5 Try.underlying9]
    refine run_bytesToString W ad _ c (x :: t) ?_
    have := run_loadCells_list (P := Try.prog) W ad ((x :: t).map (Value.int .u8)) (fun j v hv => by
      rw [List.getElem?_map] at hv
      obtain ⟨y, hy, rfl⟩ := Option.map_eq_some_iff.1 hv
      exact hb j y hy)
    rw [List.length_map] at this
    exact this
theorem exec_convert {P : Program} {ρ : Operand → Value} {o : Oper} {t u : TypeId} {x : Operand} {v r : Value} {w : World} (ho : o.op = .convert t u x) (hx : ρ x = v) (h : (convert t u v).run P w = .ok r w) : (execOp ρ o).run P w = .ok (.value r) w := by
  unfold execOp
  simp [ho, hx, h, Result.andThen]
theorem blkc_get {bs : List Int} {j : Nat} {v : Int} (h : bs[j]? = some v) : (blkc bs)[j]? = some (.int .u8 v) := by simp [blkc, h]
theorem DiskIs.below {W W' : World} {b m : Nat} {s : FS} (h : DiskIs W b m s) (hf : Below W.heap.size W W') : DiskIs W' b m s := h.fr (Fr.of_below (S := fun _ => False) hf) (fun h => h) (fun h => h)
theorem emptyU8 (W : World) (base : Nat) (hb : base ≤ W.heap.size) : Kd.R (Kd.int .u8) 5 (W.alloc (.cells #[] 5)) base (fun _ => True) (.slice (some ⟨W.heap.size, 0, none⟩) 0 0) [] :=
  ⟨fun _ _ => trivial, [], by
    have h := World.ownsRow_lit (base := base) (e := 5) (size := 1) W #[] 0 hb (by simp [maxLen]) (by simp)
    show (W.alloc (.cells #[] 5)).ownsRow base 5 1 _ 0 []
    simpa using h, Reps.none _ _⟩
theorem ne_cells_map {W : World} {a b : Nat} {c : Array Value} {t : TypeId} {es : Array MapEntry} {k : Nat} (h : W.heap[a]? = some (.cells c t (0, 0))) (h2 : W.heap[b]? = some (.map es k)) : a ≠ b := by
  intro e; rw [e, h2] at h; cases h
theorem ne_types {W : World} {a b : Nat} {c c' : Array Value} {t t' : TypeId} (h : W.heap[a]? = some (.cells c t (0, 0))) (h2 : W.heap[b]? = some (.cells c' t' (0, 0))) (ht : t ≠ t') : a ≠ b := by
  intro e
  rw [e, h2] at h
  injection h with h
  injection h with _ h3 _
  exact ht h3.symm
theorem DiskIs.map {W : World} {b m : Nat} {s : FS} (h : DiskIs W b m s) : ∃ es k, W.heap[m]? = some (.map es k) := by
  obtain ⟨es, k, h2, _⟩ := h.2.1
  exact ⟨es, k, h2⟩

/-- A row of bytes of the call's own, by its block. -/
structure Row (W : World) (q m k base : Nat) (bs : List Int) : Prop where
  len : bs.length = m
  row : Kd.R (Kd.int .u8) 5 W base (fun b => b = q) (.slice (some ⟨q, 0, none⟩) m k) bs
  low : base ≤ q
  typed : ∃ cs, W.heap[q]? = some (.cells cs 5 (0, 0))
theorem Row.of_R {W : World} {base b : Nat} {v : Value} {bs : List Int} (h : Kd.R (Kd.int .u8) 5 W base (fun _ => True) v bs) (hv : v.ownBlock = some b) : ∃ k, v = .slice (some ⟨b, 0, none⟩) bs.length k ∧ Row W b bs.length k base bs := by
  obtain ⟨inner, ho⟩ := Kd.R_own h
  obtain ⟨cells, hc⟩ := own_typed ho b hv
  rcases ho.2 with ⟨e, _⟩ | ⟨g, cap, cur, e, hg, _⟩
  · rw [e] at hv; simp [Value.ownBlock] at hv
  · have : g = b := by rw [e] at hv; simpa [Value.ownBlock] using hv
    subst this
    refine ⟨cap, e, rfl, ?_, hg, cells, hc⟩
    rw [← e]
    exact ⟨fun k hk => by rw [hv] at hk; exact (Option.some.inj hk).symm, h.2.imp_ (fun _ _ hM => hM)⟩
theorem Row.fr {W W' : World} {q m k base : Nat} {bs : List Int} {S : Nat → Prop} (h : Row W q m k base bs) (hf : Fr S W W') (hS : ¬ S q) : Row W' q m k base bs := by
  obtain ⟨cs, hq⟩ := h.typed
  exact ⟨h.len, Kd.R_step h.row (fun b hb hlt => hf.block b hlt (by rw [hb]; exact hS)), h.low, cs, (hf.block q (blk_lt hq) hS).trans hq⟩
theorem Row.below {W W' : World} {q m k base : Nat} {bs : List Int} (h : Row W q m k base bs) (hb : Below W.heap.size W W') : Row W' q m k base bs := h.fr (Fr.of_below (S := fun _ => False) hb) (fun h => h)
theorem Row.bytes {W : World} {q m k base : Nat} {bs : List Int} (h : Row W q m k base bs) : BytesAt W (some ⟨q, 0, none⟩) bs := by
  obtain ⟨e, _, hC⟩ := Kd.R_reads' h.row
  exact BytesAt.of_C hC
theorem Row.put {W : World} {q m k base : Nat} {bs : List Int} (h : Row W q m k base bs) (i : Int) (x : Int) : Row (W.setCell ⟨q, i.toNat, none⟩ (.int .u8 x)) q m k base (bs.set i.toNat x) := by
  obtain ⟨cs, hq⟩ := h.typed
  have hr := (Kd.R_putg h.row i x).1
  exact ⟨by rw [List.length_set]; exact h.len, hr, h.low, by
    simp [World.setCell, Array.getElem?_modify, hq]⟩
theorem Row.cell {W : World} {q m k base : Nat} {bs : List Int} (h : Row W q m k base bs) (i : Nat) (hi : i < m) : W.cell? ⟨q, i, none⟩ = some (.int .u8 (bs.getD i 0)) ∧ W.frozen? ⟨q, i, none⟩ = false := by
  obtain ⟨e1, e2⟩ := Kd.R_celln 0 h.row (i : Int) (by omega) (by omega)
  rw [Int.toNat_natCast] at e1 e2
  refine ⟨e1.trans ?_, e2⟩
  unfold rdOf; rw [Int.toNat_natCast]
end Go.Proofs.Ytmfndobdkihbnaa.Dk
