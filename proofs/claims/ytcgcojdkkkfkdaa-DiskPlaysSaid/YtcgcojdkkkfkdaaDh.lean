/-
  The two disks side by side: alike.
-/
import Derived.Test.YtcgcojdkkkfkdaaDg
import Derived.Laws.BytesString
import Derived.Lib.BufferRead
import Derived.BigQuiet
namespace Go.Proofs.Ytcgcojdkkkfkdaa.Dk
open Go.RowKit Go.MapKept Go.Proofs.YtcgcojdkkkfkdaaW.PrintWords Go.Proofs.YtcgcojdkkkfkdaaW.PrintLast Go.Proofs.YtcgcojdkkkfkdaaW.PrintMore
set_option linter.unusedVariables false
set_option linter.unusedSimpArgs false

def strB (bs : List Int) : ByteArray := bs.foldl (fun r n => r.push (UInt8.ofNat n.toNat)) ByteArray.empty
theorem conv_bytes {W : World} {A : Option Addr} {bs : List Int} (h : BytesAt W A bs) (c : Nat) : (convert 36 9 (.slice A bs.length c)).run Try.prog W = .ok (.string (strB bs)) W := by
  rcases bs with _ | ⟨x, t⟩
  · rcases A with _ | ad
    · exact Go.Lib.run_convert_nil_bytes W 36 9 5 c Try.underlying36 Try.underlying5 Try.underlying9
    · rw [run_convert_bytes_string W 36 9 5 _ _ _ Try.underlying36 Try.underlying5 Try.underlying9]
      exact run_bytesToString W ad 0 c [] (run_loadCells_list (P := Try.prog) W ad [] (fun j v hv => by simp at hv))
  · obtain ⟨ad, rfl, hb⟩ := h.2 (by simp)
    rw [run_convert_bytes_string W 36 9 5 _ _ _ Try.underlying36 Try.underlying5 Try.underlying9]
    refine run_bytesToString W ad _ c (x :: t) ?_
    have := run_loadCells_list (P := Try.prog) W ad ((x :: t).map (Value.int .u8)) (fun j v hv => by
      rw [List.getElem?_map] at hv
      obtain ⟨y, hy, rfl⟩ := Option.map_eq_some_iff.1 hv
      exact hb j y hy)
    rw [List.length_map] at this
    exact this

def pad (b : List Int) : List Int := if b = [] then zeros else b
theorem RS.get_eq (s : RS) (i : Int) : s.get i = pad (s.B.getD i.toNat []) := rfl
theorem pad_64 {b : List Int} (h : b.length = 64) : pad b = b := by
  unfold pad; rw [if_neg (by intro e; rw [e] at h; simp at h)]
/-- The two disks are alike. -/
structure Like (s : FS) (r : RS) : Prop where
  len : s.len = (r.B.length : Int)
  pos : 0 < r.B.length
  most : r.B.length ≤ 4096
  off : s.off = r.off
  n : s.writes = r.n
  has : ∀ i : Int, 0 ≤ i → i < (r.B.length : Int) → s.has i = r.get i
  fuse : s.off = false → (r.burns = true ∧ s.fuse = r.left ∧ 0 ≤ r.left ∧ r.left ≤ 9223372036854775807) ∨ (r.burns = false ∧ s.fuse = -1)
theorem Like.check {s : FS} {r : RS} (h : Like s r) (i : Int) : s.check i = r.check i := by
  unfold FS.check RS.check
  rw [h.off, h.len]
theorem Like.boot {s : FS} {r : RS} (h : Like s r) : Like s.boot r.boot := ⟨h.len, h.pos, h.most, rfl, h.n, h.has, fun _ => .inr ⟨rfl, rfl⟩⟩
theorem Like.fuseTo {s : FS} {r : RS} (h : Like s r) (n : Int) (hn : n ≤ 9223372036854775807) : Like (s.fuseTo n) (r.fuseTo n) := by
  cases ho : r.off
  · have hs : s.off = false := by rw [h.off, ho]
    have e1 : s.fuseTo n = { s with fuse := max n (-1) } := by unfold FS.fuseTo; rw [hs]; rfl
    have e2 : r.fuseTo n = { r with burns := decide (0 ≤ n), left := n } := by unfold RS.fuseTo; rw [ho]; rfl
    rw [e1, e2]
    refine ⟨h.len, h.pos, h.most, h.off, h.n, h.has, fun _ => ?_⟩
    by_cases h0 : 0 ≤ n
    · left; exact ⟨decide_eq_true h0, by show max n (-1) = n; omega, h0, hn⟩
    · right; exact ⟨decide_eq_false h0, by show max n (-1) = -1; omega⟩
  · have hs : s.off = true := by rw [h.off, ho]
    have e1 : s.fuseTo n = s := by unfold FS.fuseTo; rw [hs]; rfl
    have e2 : r.fuseTo n = r := by unfold RS.fuseTo; rw [ho]; rfl
    rw [e1, e2]
    exact h
theorem Like.new (n : Int) (h1 : 1 ≤ n) (h2 : n ≤ 4096) : Like (FS.new n) (RS.new n.toNat) := by
  refine ⟨?_, ?_, ?_, rfl, rfl, fun i h3 h4 => ?_, fun _ => .inr ⟨rfl, rfl⟩⟩
  · simp [FS.new, RS.new]; omega
  · simp [RS.new]; omega
  · simp [RS.new]; omega
  · show zeros = RS.get (RS.new n.toNat) i
    have : (RS.new n.toNat).B.getD i.toNat [] = [] := by
      show (List.replicate n.toNat ([] : List Int)).getD i.toNat [] = []
      rw [List.getD_eq_getElem?_getD, List.getElem?_replicate]
      split <;> rfl
    rw [RS.get_eq, this]
    rfl
theorem upd_get {s : FS} {r : RS} (h : Like s r) (i : Int) (bs : List Int) (hl : bs.length = 64) (h0 : 0 ≤ i) (h1 : i < (r.B.length : Int)) {left n : Int} {off burns : Bool} (j : Int) (hj0 : 0 ≤ j) (hj1 : j < (r.B.length : Int)) :
    upd s.has i bs j = RS.get ⟨r.B.set i.toNat bs, off, burns, left, n⟩ j := by
  rw [RS.get_eq]
  show upd s.has i bs j = pad ((r.B.set i.toNat bs).getD j.toNat [])
  rw [List.getD_eq_getElem?_getD, List.getElem?_set]
  unfold upd
  by_cases hij : j = i
  · subst hij
    rw [if_pos rfl, if_pos rfl, if_pos (by omega)]
    exact (pad_64 hl).symm
  · rw [if_neg hij, if_neg (by omega), h.has j hj0 hj1, RS.get_eq, List.getD_eq_getElem?_getD]
theorem Like.write {s : FS} {r : RS} (h : Like s r) (i : Int) (bs : List Int) : (s.write i bs).2 = (r.write i bs).2 ∧ Like (s.write i bs).1 (r.write i bs).1 := by
  unfold FS.write RS.write
  rw [h.check i]
  by_cases hc : r.check i = 0
  · rw [if_pos hc, if_pos hc]
    have hoff : r.off = false := by
      unfold RS.check at hc
      cases ho : r.off
      · rfl
      · rw [ho] at hc; simp at hc
    have hr : 0 ≤ i ∧ i < (r.B.length : Int) := by
      unfold RS.check at hc
      rw [hoff, if_neg (by simp)] at hc
      by_cases hx : i < 0 ∨ (r.B.length : Int) ≤ i
      · rw [if_pos hx] at hc; cases hc
      · omega
    by_cases hl : bs.length = 64
    · rw [if_pos hl, if_pos hl]
      rcases h.fuse (by rw [h.off]; exact hoff) with ⟨f1, f2, f3, f4⟩ | ⟨f1, f2⟩
      · by_cases h0 : r.left = 0
        · rw [if_pos (show s.fuse = 0 by rw [f2]; exact h0), if_pos (⟨f1, h0⟩ : r.burns = true ∧ r.left = 0)]
          exact ⟨rfl, h.len, h.pos, h.most, rfl, h.n, h.has, fun e => by cases e⟩
        · rw [if_neg (show ¬ s.fuse = 0 by rw [f2]; exact h0), if_neg (show ¬ (r.burns = true ∧ r.left = 0) from fun e => h0 e.2)]
          have hw : wrap64 (r.left - 1) = r.left - 1 := by rw [← i64_w]; exact IntWalk.i64_in _ (by omega)
          have e1 : (if 0 < s.fuse then wrap64 (s.fuse - 1) else s.fuse) = r.left - 1 := by rw [f2, if_pos (by omega), hw]
          have e2 : (if r.burns = true then wrap64 (r.left - 1) else r.left) = r.left - 1 := by rw [if_pos f1, hw]
          rw [e1, e2]
          refine ⟨rfl, ?_, ?_, ?_, h.off, ?_, fun j hj0 hj1 => ?_, fun _ => .inl ⟨f1, rfl, ?_, ?_⟩⟩
          · show s.len = ((r.B.set i.toNat bs).length : Int); rw [List.length_set]; exact h.len
          · show 0 < (r.B.set i.toNat bs).length; rw [List.length_set]; exact h.pos
          · show (r.B.set i.toNat bs).length ≤ 4096; rw [List.length_set]; exact h.most
          · show wrap64 (s.writes + 1) = wrap64 (r.n + 1); rw [h.n]
          · have hj1' : j < ((r.B.set i.toNat bs).length : Int) := hj1
            rw [List.length_set] at hj1'
            exact upd_get h i bs hl hr.1 hr.2 j hj0 hj1'
          · show 0 ≤ r.left - 1; omega
          · show r.left - 1 ≤ 9223372036854775807; omega
      · rw [if_neg (show ¬ s.fuse = 0 by rw [f2]; decide), if_neg (show ¬ (r.burns = true ∧ r.left = 0) from fun e => by rw [f1] at e; cases e.1)]
        have e1 : (if 0 < s.fuse then wrap64 (s.fuse - 1) else s.fuse) = -1 := by rw [f2, if_neg (by decide)]
        rw [e1]
        refine ⟨rfl, ?_, ?_, ?_, h.off, ?_, fun j hj0 hj1 => ?_, fun _ => .inr ⟨f1, rfl⟩⟩
        · show s.len = ((r.B.set i.toNat bs).length : Int); rw [List.length_set]; exact h.len
        · show 0 < (r.B.set i.toNat bs).length; rw [List.length_set]; exact h.pos
        · show (r.B.set i.toNat bs).length ≤ 4096; rw [List.length_set]; exact h.most
        · show wrap64 (s.writes + 1) = wrap64 (r.n + 1); rw [h.n]
        · have hj1' : j < ((r.B.set i.toNat bs).length : Int) := hj1
          rw [List.length_set] at hj1'
          exact upd_get h i bs hl hr.1 hr.2 j hj0 hj1'
    · rw [if_neg hl, if_neg hl]
      exact ⟨rfl, h⟩
  · rw [if_neg hc, if_neg hc]
    exact ⟨rfl, h⟩
end Go.Proofs.Ytcgcojdkkkfkdaa.Dk
