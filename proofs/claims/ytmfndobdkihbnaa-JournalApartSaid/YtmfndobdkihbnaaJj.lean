/-
  The statements' own functions: ground, rows.
-/
import Derived.Test.YtmfndobdkihbnaaJi
import Derived.Test.YtmfndobdkihbnaaWShare
import Derived.Test.YtmfndobdkihbnaaWN
import Derived.Test.YtmfndobdkihbnaaWNEv
import Derived.Test.YtmfndobdkihbnaaWMore
namespace Go.Proofs.Ytmfndobdkihbnaa.Dk
open Go.RowKit Go.MapKept Go.Proofs.YtmfndobdkihbnaaW.PrintWords Go.Proofs.YtmfndobdkihbnaaW.PrintLast Go.Proofs.YtmfndobdkihbnaaW.PrintMore
set_option linter.unusedVariables false
set_option linter.unusedSimpArgs false

/-- The disk of ground. -/
def groundS (at_ : Int) : FS := ((FS.new 259).write at_ (headB 0 0)).1
theorem ground_write (at_ : Int) (h0 : 0 ≤ at_) (h1 : at_ ≤ 60) : (FS.new 259).write at_ (headB 0 0) = (groundS at_, 0) ∧ (groundS at_).len = 259 ∧ (groundS at_).off = false ∧ (groundS at_).fuse = -1 ∧ (groundS at_).has = upd (fun _ => zeros) at_ (headB 0 0) := by
  have hc : (FS.new 259).check at_ = 0 := check_on rfl h0 (by show at_ < 259; omega)
  unfold groundS FS.write
  rw [if_pos hc, if_pos (headB_len 0 0), if_neg (by decide)]
  exact ⟨rfl, rfl, rfl, rfl, rfl⟩

set_option maxRecDepth 100000 in
theorem ground_any (at_ : Int) (w : World) (h0 : 0 ≤ at_) (h1 : at_ ≤ 60) :
    Calls Try.prog 15 #[.int .i64 at_] w fun e w' => ∃ b m jb, e = .returned (.tuple #[.pointer (some ⟨b, 0, none⟩), .pointer (some ⟨jb, 0, none⟩)]) ∧ DiskIs w' b m (groundS at_) ∧ JIs w' jb b at_ 0 ∧ w.heap.size ≤ b ∧ w.heap.size ≤ m ∧ w.heap.size ≤ jb ∧ Below w.heap.size w w' := by
  obtain ⟨g1, g2, g3, g4, g5⟩ := ground_write at_ h0 h1
  have G := Aside0.mk (And.intro g1 (And.intro g2 (And.intro g3 g5)))
  clear g1 g2 g3 g4 g5
  go_enter Try.func15, Try.ntmps15
  go_wp2_with fail
  refine (new_any 259 w).mono ?_
  rintro e w1 (⟨_, _, b, m, rfl, hd, hb, hm, hB⟩ | ⟨h, _⟩)
  case inr => exact absurd (by omega) h
  have D1 := Aside0.mk hd
  have B1 := Aside0.mk hB
  have HB := Aside0.mk (And.intro hb hm)
  clear hd hb hm hB
  go_wp2_with fail
  refine (format_any b m (FS.new 259) at_ w1 D1.out h0 (by show at_ + 199 ≤ 259; omega) (by decide)).mono ?_
  rw [G.out.1]
  rintro e w2 ⟨rfl, hd, hf⟩
  have D2 := Aside0.mk hd
  have F2 := Aside0.mk hf
  clear hd hf
  go_wp2_with fail
  refine (open_any b m (groundS at_) at_ 0 [] w2 D2.out G.out.2.2.1 h0 (by rw [G.out.2.1]; omega) (by rw [G.out.2.1]; omega) (by omega) (by omega) (by decide) (by rw [G.out.2.2.2]; simp [upd]) (fun i x bs h => by simp at h)).mono ?_
  rintro e w3 ⟨hd, hf, ho⟩
  rcases ho with ⟨_, jb, rfl, hj, hJ⟩ | ⟨hne, _⟩
  case inr => exact absurd rfl hne
  have D3 := Aside0.mk hd
  have J3 := Aside0.mk hJ
  have hjb : w.heap.size ≤ jb := by have := B1.out.size; have := F2.out.size; omega
  have HJ := Aside0.mk hjb
  have F3 := Aside0.mk (Fr.below (Fr.trans F2.out hf) B1.out.size (fun k hk => by have := HB.out; rcases hk with rfl | rfl <;> omega))
  clear hd hf hj hJ hjb
  go_wp2
  refine bodyPost_ret (v := .tuple #[.pointer (some ⟨b, 0, none⟩), .pointer (some ⟨jb, 0, none⟩)]) (by simp [results, Try.results15, go_sem]) rfl ⟨b, m, jb, rfl, D3.out, J3.out, HB.out.1, HB.out.2, HJ.out, B1.out.trans F3.out⟩

/-- Blocks that are not the journal's. -/
def rowsI (n : Nat) (at_ : Int) : List Nat := (List.range n).filter fun i => decide (¬ (at_ ≤ ((i : Nat) : Int) ∧ (i : Int) < at_ + 199))
def rowsL (has : Int → List Int) (n : Nat) (at_ : Int) : List (List Int) := (rowsI n at_).map fun i : Nat => has (i : Int)
theorem rowsL_succ_in (has : Int → List Int) (n : Nat) (at_ : Int) (h : at_ ≤ (n : Int) ∧ (n : Int) < at_ + 199) : rowsL has (n + 1) at_ = rowsL has n at_ := by
  unfold rowsL rowsI
  rw [List.range_succ, List.filter_append]
  simp [h]
theorem rowsL_succ_out (has : Int → List Int) (n : Nat) (at_ : Int) (h : ¬ (at_ ≤ (n : Int) ∧ (n : Int) < at_ + 199)) : rowsL has (n + 1) at_ = rowsL has n at_ ++ [has (n : Int)] := by
  unfold rowsL rowsI
  rw [List.range_succ, List.filter_append]
  have : List.filter (fun i : Nat => decide (¬ (at_ ≤ (i : Int) ∧ (i : Int) < at_ + 199))) [n] = [n] := by
    rw [List.filter_cons, if_pos (decide_eq_true h)]; rfl
  rw [this, List.map_append]
  rfl
theorem rowsL_le (has : Int → List Int) (n : Nat) (at_ : Int) : (rowsL has n at_).length ≤ n := by
  unfold rowsL rowsI
  rw [List.length_map]
  exact Nat.le_trans (List.length_filter_le _ _) (by simp)
theorem infoBs : (Try.prog.info? 37).map (fun i => (i.zero, i.size, i.bytes)) = some (some (.slice none 0 0), 1, 24) := by kernel_rfl
theorem FK_read {W : World} {q : Nat} {bs : List Int} (h : W.heap[q]? = some (.cells (blkc bs) 73 (0, 0))) (hl : bs.length = 64) : Kd.FK (Kd.slice 5 (Kd.int .u8)) W (fun k => k = q) bs [.slice (some ⟨q, 0, none⟩) 64 64] := by
  have hf : Kd.F (Kd.int .u8) W (fun k => k = q) (some ⟨q, 0, none⟩) bs.length bs := fun W' hW => by
    have hlt := blk_lt h
    exact (read_bytes ((hW q rfl hlt).trans h) (by rw [hl]; decide)).to_C
  have := Kd.FK_slice_mk (e := 5) (c := 64) (by rw [hl]; exact Nat.le_refl _) hf
  rw [hl] at this
  exact this

theorem emptyR {α : Type} (d : Kd α) (e : Nat) (W : World) (base : Nat) (ok : Nat → Prop) (hb : base ≤ W.heap.size) (hok : ok W.heap.size) : d.R e (W.alloc (.cells #[] e)) base ok (.slice (some ⟨W.heap.size, 0, none⟩) 0 0) [] :=
  ⟨fun k hk => by simp [Value.ownBlock] at hk; subst hk; exact hok, [], by
    have h := World.ownsRow_lit (base := base) (e := e) (size := d.sz) W #[] 0 hb (by simp [maxLen]) (by simp)
    show (W.alloc (.cells #[] e)).ownsRow base e d.sz _ 0 []
    simpa using h, Reps.none _ _⟩

set_option maxHeartbeats 4000000 in
set_option maxRecDepth 100000 in
theorem rows_any (b m : Nat) (s : FS) (at_ : Int) (n : Nat) (w : World) (h : DiskIs w b m s) (hon : s.off = false) (hlen : s.len = (n : Int)) (hn : n ≤ 4096) (h0 : 0 ≤ at_) (h1 : at_ ≤ 4096) :
    Calls Try.prog 16 #[.pointer (some ⟨b, 0, none⟩), .int .i64 at_] w fun e w' => ∃ v, e = .returned (.tuple #[v, .bool true]) ∧ Kd.N (Kd.slice 5 (Kd.int .u8)) 37 w' w.heap.size (fun k => w.heap.size ≤ k) v (rowsL s.has n at_) ∧ Below w.heap.size w w' := by
  have H := Aside0.mk h
  have HON := Aside0.mk hon
  have HLE := Aside0.mk hlen
  clear h hon hlen
  go_enter Try.func16, Try.ntmps16
  go_wp2
  have HO0 := Aside0.mk (Kd.R_N (emptyR (Kd.slice 5 (Kd.int .u8)) 37 w w.heap.size (fun k => w.heap.size ≤ k) (Nat.le_refl _) (Nat.le_refl _)))
  have HB0 := Aside0.mk ((Below.refl w.heap.size w).alloc (Nat.le_refl _) (.cells #[] 37))
  go_loopg [6, 7] n (fun gq v6 v7 wr => ∃ (i : Nat), v7 = .int .i64 i ∧ i ≤ n ∧ Aside0 (gq = n - i) ∧ Aside0 (Kd.N (Kd.slice 5 (Kd.int .u8)) 37 wr w.heap.size (fun k => w.heap.size ≤ k) v6 (rowsL s.has i at_)) ∧ Aside0 (Below w.heap.size w wr))
  case atStart => exact ⟨0, rfl, Nat.zero_le _, ⟨rfl⟩, HO0, HB0⟩
  case round =>
    clear HO0 HB0
    obtain ⟨i, rfl, hi, HG, HO, HB⟩ := hrel
    go_wp2_with fail
    refine (len_any b m s wr (H.out.below HB.out)).mono ?_
    rintro e w1 ⟨rfl, rfl⟩
    rw [HLE.out]
    by_cases hlt : i < n
    · have hlt' : (i : Int) < (n : Int) := by omega
      have hck := Aside0.mk (check_on (i := (i : Int)) HON.out (by omega) (by rw [HLE.out]; omega))
      by_cases ho1 : (i : Int) ≥ at_
      · by_cases ho2 : (i : Int) < at_ + 199
        · have hr := rowsL_succ_in s.has i at_ ⟨ho1, ho2⟩
          rw [← hr] at HO
          clear hr
          go_wp2
          go_roundg (n - (i + 1))
          case measure => have := HG.out; omega
          case rel => exact ⟨i + 1, by go_num, by omega, ⟨rfl⟩, HO, HB⟩
        · have HR := Aside0.mk (rowsL_succ_out s.has i at_ (fun h => ho2 h.2))
          go_wp2_with fail
          refine (read_on b m s (i : Int) w1 (H.out.below HB.out) hck.out).mono ?_
          rintro e w2 ⟨rfl, hq, hb⟩
          obtain ⟨q, hqq⟩ : ∃ q, q = w1.heap.size := ⟨_, rfl⟩
          rw [← hqq] at hq ⊢
          have HQ := Aside0.mk hq
          have HB2 := Aside0.mk (below_step HB.out hb)
          have HO2 := Aside0.mk (Kd.N_below HO.out hb)
          have HQB := Aside0.mk (show w.heap.size ≤ q from by rw [hqq]; exact HB.out.size)
          clear hq hb hqq HO HB
          obtain ⟨A6, c6, rfl⟩ := Kd.N_slice HO2.out
          go_wp2_with (first
            | ((with_reducible refine gate_dst (N := 37) rfl ?_); refine Kd.N_append (Kd.slice 5 (Kd.int .u8)) (w0 := w) w.heap.size rfl (.tmp 34) (.tmp 36) 22 37 (.slice none 0 0) 24 rfl Try.underlying22 infoBs rfl (by decide) (by decide) (.slice A6 (rowsL s.has i at_).length c6) (rowsL s.has i at_) (s.has (i : Int)) [.slice (some ⟨q, 0, none⟩) 64 64] (fun k => w.heap.size ≤ k) (fun k => k = q) rfl rfl (FK_read HQ.out (H.out.2.2 _)) (fun k hk => by rw [hk]; exact ⟨HQB.out, Kd.N_ne HO2.out HQ.out (by decide)⟩) (fun k hk => Nat.le_trans HB2.out.size hk) HO2.out HB2.out HB2.out.size (by have := rowsL_le s.has i at_; omega) ?_; intro v1 w3 ho3 hb3 hg3 hat3; rw [← HR.out] at ho3; have HO3 := Aside0.mk ho3; have HB3 := Aside0.mk hb3; clear ho3 hb3 hg3 hat3)
            | fail)
          go_roundg (n - (i + 1))
          case measure => have := HG.out; omega
          case rel => exact ⟨i + 1, by go_num, by omega, ⟨rfl⟩, HO3, HB3⟩
      · have HR := Aside0.mk (rowsL_succ_out s.has i at_ (fun h => ho1 h.1))
        go_wp2_with fail
        refine (read_on b m s (i : Int) w1 (H.out.below HB.out) hck.out).mono ?_
        rintro e w2 ⟨rfl, hq, hb⟩
        obtain ⟨q, hqq⟩ : ∃ q, q = w1.heap.size := ⟨_, rfl⟩
        rw [← hqq] at hq ⊢
        have HQ := Aside0.mk hq
        have HB2 := Aside0.mk (below_step HB.out hb)
        have HO2 := Aside0.mk (Kd.N_below HO.out hb)
        have HQB := Aside0.mk (show w.heap.size ≤ q from by rw [hqq]; exact HB.out.size)
        clear hq hb hqq HO HB
        obtain ⟨A6, c6, rfl⟩ := Kd.N_slice HO2.out
        go_wp2_with (first
          | ((with_reducible refine gate_dst (N := 37) rfl ?_); refine Kd.N_append (Kd.slice 5 (Kd.int .u8)) (w0 := w) w.heap.size rfl (.tmp 34) (.tmp 36) 22 37 (.slice none 0 0) 24 rfl Try.underlying22 infoBs rfl (by decide) (by decide) (.slice A6 (rowsL s.has i at_).length c6) (rowsL s.has i at_) (s.has (i : Int)) [.slice (some ⟨q, 0, none⟩) 64 64] (fun k => w.heap.size ≤ k) (fun k => k = q) rfl rfl (FK_read HQ.out (H.out.2.2 _)) (fun k hk => by rw [hk]; exact ⟨HQB.out, Kd.N_ne HO2.out HQ.out (by decide)⟩) (fun k hk => Nat.le_trans HB2.out.size hk) HO2.out HB2.out HB2.out.size (by have := rowsL_le s.has i at_; omega) ?_; intro v1 w3 ho3 hb3 hg3 hat3; rw [← HR.out] at ho3; have HO3 := Aside0.mk ho3; have HB3 := Aside0.mk hb3; clear ho3 hb3 hg3 hat3)
          | fail)
        go_roundg (n - (i + 1))
        case measure => have := HG.out; omega
        case rel => exact ⟨i + 1, by go_num, by omega, ⟨rfl⟩, HO3, HB3⟩
    · have hil : i = n := by omega
      subst hil
      obtain ⟨A6, c6, rfl⟩ := Kd.N_slice HO.out
      go_wp2
      exact bodyPost_ret (v := .tuple #[.slice A6 (rowsL s.has i at_).length c6, .bool true]) (by simp [results, Try.results16, go_sem]) rfl ⟨_, rfl, HO.out, HB.out⟩
end Go.Proofs.Ytmfndobdkihbnaa.Dk
