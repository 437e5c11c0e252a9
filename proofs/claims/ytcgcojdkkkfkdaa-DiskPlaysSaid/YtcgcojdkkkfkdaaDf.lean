/-
  The reference's disk: Read, Write, Clone.
-/
import Derived.Test.YtcgcojdkkkfkdaaDe
namespace Go.Proofs.Ytcgcojdkkkfkdaa.Dk
open Go.RowKit Go.MapKept Go.Proofs.YtcgcojdkkkfkdaaW.PrintWords Go.Proofs.YtcgcojdkkkfkdaaW.PrintLast Go.Proofs.YtcgcojdkkkfkdaaW.PrintMore
set_option linter.unusedVariables false
set_option linter.unusedSimpArgs false

theorem Inner.reads {W : World} {x : Option Addr × Nat × Nat} {bs : List Int} (h : Inner W x bs) : bs.length = x.2.1 ∧ Kd.C (Kd.int .u8) W x.1 x.2.1 bs := by
  rcases h with ⟨rfl, rfl⟩ | ⟨g, c, cs, rfl, hl, _, hb⟩
  · exact ⟨rfl, Kd.C_nil _ _⟩
  · refine ⟨hl, ?_⟩
    have := BytesAt.to_C (W := W) (A := some ⟨g, 0, none⟩) (bs := bs) ⟨by omega, fun _ => ⟨_, rfl, hb⟩⟩
    rw [hl] at this
    exact this
def RS.check (s : RS) (i : Int) : Int := if s.off then 2 else if i < 0 ∨ (s.B.length : Int) ≤ i then 10 else 0
def RS.get (s : RS) (i : Int) : List Int := if s.B.getD i.toNat [] = [] then zeros else s.B.getD i.toNat []
def RReadPost (s : RS) (i : Int) (w : World) (e : Ending) (w' : World) : Prop :=
  (s.check i = 0 ∧ ∃ v, e = .returned (.tuple #[v, .int .i64 0]) ∧ Kd.R (Kd.int .u8) 5 w' w.heap.size (fun _ => True) v (s.get i) ∧ Below w.heap.size w w') ∨
  (s.check i ≠ 0 ∧ e = .returned (.tuple #[.slice none 0 0, .int .i64 (s.check i)]) ∧ w' = w)
/-- The element at i. -/
theorem RefIs.at {W : World} {b a c base : Nat} {s : RS} (h : RefIs W b a c base s) (i : Int) (h0 : 0 ≤ i) (h1 : i < s.B.length) : ∃ x, Inner W x (s.B.getD i.toNat []) ∧ W.cell? ⟨a, i.toNat, none⟩ = some (.slice x.1 x.2.1 x.2.2) ∧ W.frozen? ⟨a, i.toNat, none⟩ = false := by
  obtain ⟨_, _, xs, h3, h4, h5⟩ := h
  obtain ⟨e1, e2⟩ := Kd.R_celln (none, 0, 0) h4 i h0 h1
  have hx : i.toNat < xs.length := by omega
  have hb : i.toNat < s.B.length := by omega
  refine ⟨rdOf (none, 0, 0) xs i, ?_, e1, e2⟩
  have e3 : xs[i.toNat]? = some (rdOf (none, 0, 0) xs i) := by
    unfold rdOf; rw [List.getD_eq_getElem?_getD, List.getElem?_eq_getElem hx]; rfl
  exact h5 i.toNat _ _ e3 (by rw [List.getD_eq_getElem?_getD, List.getElem?_eq_getElem hb]; rfl)
theorem infoU8s : (Try.prog.info? 5).map (·.size) = some 1 := by kernel_rfl

set_option maxHeartbeats 2000000 in
set_option maxRecDepth 100000 in
theorem rread_any (b a c base : Nat) (s : RS) (i : Int) (w : World) (h : RefIs w b a c base s) :
    Calls Try.prog 35 #[.pointer (some ⟨b, 0, none⟩), .int .i64 i] w fun e w' => RReadPost s i w e w' := by
  have c0 := h.c0
  have c1 := h.c1
  have H := Aside0.mk h
  clear h
  cases ho : s.off
  case true =>
    rw [ho] at c1
    have hs : s.check i = 2 := by unfold RS.check; rw [ho]; rfl
    have HS := Aside0.mk hs
    clear hs ho
    go_enter Try.func35, Try.ntmps35
    go_wp2
    exact bodyPost_ret (v := .tuple #[.slice none 0 0, .int .i64 2]) (by simp [results, Try.results35, go_sem]) rfl (Or.inr ⟨by rw [HS.out]; decide, by rw [HS.out], rfl⟩)
  rw [ho] at c1
  by_cases hi : i < 0
  · have hs : s.check i = 10 := by unfold RS.check; rw [ho, if_neg (by simp), if_pos (Or.inl hi)]
    have HS := Aside0.mk hs
    clear hs ho
    go_enter Try.func35, Try.ntmps35
    go_wp2
    exact bodyPost_ret (v := .tuple #[.slice none 0 0, .int .i64 10]) (by simp [results, Try.results35, go_sem]) rfl (Or.inr ⟨by rw [HS.out]; decide, by rw [HS.out], rfl⟩)
  by_cases hj : (s.B.length : Int) ≤ i
  · have hs : s.check i = 10 := by unfold RS.check; rw [ho, if_neg (by simp), if_pos (Or.inr hj)]
    have HS := Aside0.mk hs
    clear hs ho
    go_enter Try.func35, Try.ntmps35
    go_wp2
    exact bodyPost_ret (v := .tuple #[.slice none 0 0, .int .i64 10]) (by simp [results, Try.results35, go_sem]) rfl (Or.inr ⟨by rw [HS.out]; decide, by rw [HS.out], rfl⟩)
  have hs : s.check i = 0 := by unfold RS.check; rw [ho, if_neg (by simp), if_neg (by omega)]
  have HS := Aside0.mk hs
  have hi0 : 0 ≤ i := by omega
  have hi1 : i < (s.B.length : Int) := by omega
  clear hs ho hj hi
  go_enter Try.func35, Try.ntmps35
  go_wp2_with (first
    | ((with_reducible refine gate_dst (N := 22) rfl ?_); refine Kd.R_make (Kd.int .u8) w.heap.size 5 rfl (N := 22) rfl 36 _ _ rfl 64 rfl rfl Try.underlying36 (.int .u8 0) 1 infoU8 rfl (by decide) (by omega) 0 (ok := fun _ => True) (okp := fun _ => True) rfl (fun _ hk => hk) trivial (by omega) (by omega) (Below.refl _ _) (Nat.le_refl _) ?_; intro v22 w1 ho hb hg hnew; obtain ⟨a1, k1, e1, _, _, _⟩ := Kd.R_form ho (by decide); subst e1; have HO := Aside0.mk ho; have HB := Aside0.mk hb; have H1 := Aside0.mk (H.out.below hb); obtain ⟨x, hin, he, hf⟩ := H1.out.at i hi0 hi1; have d0 := H1.out.c0; obtain ⟨A2, n2, k2⟩ := x; have HIN := Aside0.mk hin; clear hin hf ho hb hg hnew c0 c1)
    | ((with_reducible refine gate_dst (N := 31) rfl ?_); refine Kd.R_copy (enc := Value.int .u8) (h1 := fun _ => rfl) 0 (w0 := w) w.heap.size rfl (.tmp 23) (.tmp 30) 36 36 5 rfl Try.underlying36 infoU8s (.slice (some ⟨a1, 0, none⟩) 64 k1) (List.replicate 64 0) (s.B.getD i.toNat []) A2 n2 k2 (fun _ => True) rfl rfl HO.out HIN.out.reads.2 HB.out HB.out.size ?_; intro w2 ho2 hb2 hg2; have R2 := Aside0.mk ho2; have B2 := Aside0.mk hb2; clear ho2 hb2 hg2)
    | fail)
  refine bodyPost_ret (v := .tuple #[.slice (some ⟨a1, 0, none⟩) 64 k1, .int .i64 0]) (by simp [results, Try.results35, go_sem]) rfl (Or.inl ⟨HS.out, _, rfl, ?_, B2.out⟩)
  have e : s.get i = (s.B.getD i.toNat []).take (min n2 (List.replicate 64 (0 : Int)).length) ++ (List.replicate 64 (0 : Int)).drop (min n2 (List.replicate 64 (0 : Int)).length) := by
    unfold RS.get
    have hin := HIN.out
    generalize s.B.getD i.toNat [] = r at hin ⊢
    rcases hin with ⟨e1, e2⟩ | ⟨g, c', cs, e1, e2, _, _⟩
    · injection e1 with _ e1
      injection e1 with e1 _
      subst e1
      rw [if_pos e2, e2]
      rfl
    · injection e1 with _ e1
      injection e1 with e1 _
      subst e1
      rw [if_neg (by intro h; rw [h] at e2; simp at e2)]
      simp
      exact (List.take_of_length_le (by omega)).symm
  rw [e]
  exact R2.out

/-- The rows' blocks are none of them q. -/
def Avoid (W : World) (a n q : Nat) : Prop := ∀ j v, j < n → W.cell? ⟨a, j, none⟩ = some v → v.ownBlock ≠ some q
theorem Avoid.step {W W' : World} {a n q : Nat} (h : Avoid W a n q) (hb : W'.heap[a]? = W.heap[a]?) : Avoid W' a n q := fun j v hj hv => by
  rw [World.cell?_of_block (w := W) (w' := W') (a := ⟨a, j, none⟩) hb] at hv
  exact h j v hj hv
theorem RefIs.avoid_new {W : World} {b a c base q : Nat} {s : RS} (h : RefIs W b a c base s) (hq : W.heap.size ≤ q) : Avoid W a s.B.length q := fun j v hj hv => by
  obtain ⟨x, hin, hc, _⟩ := h.at (j : Int) (by omega) (by omega)
  rw [Int.toNat_natCast, hv] at hc
  cases hc
  rcases hin with ⟨rfl, _⟩ | ⟨g, c, cs, rfl, _, hg, _⟩
  · simp [Value.ownBlock]
  · have := blk_lt hg
    simp [Value.ownBlock]
    omega
/-- A block that is none of the rows' may be written. -/
theorem RefIs.other {W W' : World} {b a c base q : Nat} {s : RS} (h : RefIs W b a c base s) (hav : Avoid W a s.B.length q) (hf : Fr (fun k => k = q) W W') (hb : b ≠ q) (ha : a ≠ q) : RefIs W' b a c base s := by
  have h' := h
  obtain ⟨h1, h2, xs, h3, h4, h5⟩ := h
  refine ⟨(hf.block b (blk_lt h1) hb).trans h1, h2, xs, h3, Kd.R_step h4 (fun k hk hlt => hf.block k hlt (by rw [hk]; exact ha)), fun i x bs hx hbs => ?_⟩
  have hi : i < s.B.length := by
    rcases Nat.lt_or_ge i s.B.length with h | h
    · exact h
    · simp [h] at hbs
  rcases h5 i x bs hx hbs with h6 | ⟨g, c6, cs, e, hl, hg, hb6⟩
  · exact .inl h6
  · have hne : g ≠ q := by
      obtain ⟨e1, _⟩ := Kd.R_celln (none, 0, 0) h4 (i : Int) (by omega) (by omega)
      have e3 : rdOf (none, 0, 0) xs (i : Int) = x := by
        unfold rdOf; rw [Int.toNat_natCast, List.getD_eq_getElem?_getD, hx]; rfl
      rw [Int.toNat_natCast, e3, e] at e1
      have := hav i _ hi e1
      intro e4
      apply this
      rw [e4]
      rfl
    have := hf.block g (blk_lt hg) hne
    exact .inr ⟨g, c6, cs, e, hl, this.trans hg, hb6.step this⟩

/-- A block of the row is another one now. -/
theorem RefIs.put {W : World} {b a c base : Nat} {s : RS} (h : RefIs W b a c base s) (i : Int) (h0 : 0 ≤ i) (h1 : i < s.B.length) (x : Option Addr × Nat × Nat) (bs : List Int) (hx : Inner W x bs) :
    RefIs (W.setCell ⟨a, i.toNat, none⟩ (encS x)) b a c base { s with B := s.B.set i.toNat bs } := by
  have hp : 0 < s.B.length := by omega
  have hne := h.ne hp
  obtain ⟨cells, hrow⟩ := h.row hp
  obtain ⟨g1, g2, xs, g3, g4, g5⟩ := h
  have hfr : Fr (fun k => k = a) W (W.setCell ⟨a, i.toNat, none⟩ (encS x)) := Fr.cell (S := fun k => k = a) (Fr.refl _ _) a i.toNat rfl _
  have hnb : NoBytes W (fun k => k = a) := fun k cs hk hc => by
    rw [hk, hrow] at hc
    injection hc with hc
    injection hc with _ h2 _
    exact absurd h2 (by decide)
  have hr := (Kd.R_putg g4 i x).1
  refine ⟨?_, g2, xs.set i.toNat x, by simp [g3], by rw [List.length_set]; exact hr, ?_⟩
  · rw [hfr.block b (blk_lt g1) (fun e => hne e.symm), g1]
    simp [refCells]
  · intro j y ys hy hys
    rw [List.getElem?_set] at hy hys
    by_cases hj : i.toNat = j
    · rw [if_pos hj, if_pos (by omega)] at hy
      rw [if_pos hj, if_pos (by omega)] at hys
      cases hy; cases hys
      exact hx.fr hfr hnb
    · rw [if_neg hj] at hy hys
      exact (g5 j y ys hy hys).fr hfr hnb

/-- What a write makes of the reference's disk, and what it answers. -/
def RS.write (s : RS) (i : Int) (bs : List Int) : RS × Int :=
  if s.check i = 0 then
    if bs.length = 64 then
      if s.burns = true ∧ s.left = 0 then ({ s with off := true, burns := false }, 2)
      else ({ s with B := s.B.set i.toNat bs, left := if s.burns then wrap64 (s.left - 1) else s.left, n := wrap64 (s.n + 1) }, 0)
    else (s, 11)
  else (s, s.check i)
theorem emptyU8 (W : World) (base : Nat) (hb : base ≤ W.heap.size) : Kd.R (Kd.int .u8) 5 (W.alloc (.cells #[] 5)) base (fun _ => True) (.slice (some ⟨W.heap.size, 0, none⟩) 0 0) [] :=
  ⟨fun _ _ => trivial, [], by
    have h := World.ownsRow_lit (base := base) (e := 5) (size := 1) W #[] 0 hb (by simp [maxLen]) (by simp)
    show (W.alloc (.cells #[] 5)).ownsRow base 5 1 _ 0 []
    simpa using h, Reps.none _ _⟩
theorem emptyS (W : World) (base : Nat) (hb : base ≤ W.heap.size) : Kd.R kS 36 (W.alloc (.cells #[] 36)) base (fun _ => True) (.slice (some ⟨W.heap.size, 0, none⟩) 0 0) [] :=
  ⟨fun _ _ => trivial, [], by
    have h := World.ownsRow_lit (base := base) (e := 36) (size := 1) W #[] 0 hb (by simp [maxLen]) (by simp)
    show (W.alloc (.cells #[] 36)).ownsRow base 36 1 _ 0 []
    simpa using h, Reps.none _ _⟩

set_option maxHeartbeats 4000000 in
set_option maxRecDepth 100000 in
theorem rwrite_any (b a c base : Nat) (s : RS) (i : Int) (A : Option Addr) (k : Nat) (bs : List Int) (w : World) (h : RefIs w b a c base s) (hB : BytesAt w A bs) (hA : ∀ ad, A = some ad → ad.block ≠ b) :
    Calls Try.prog 17 #[.pointer (some ⟨b, 0, none⟩), .int .i64 i, .slice A bs.length k] w fun e w' => e = .returned (.int .i64 (s.write i bs).2) ∧ RefIs w' b a c base (s.write i bs).1 ∧ Fr (fun k => k = b ∨ k = a) w w' ∧ (∀ q, q < w.heap.size → Avoid w a s.B.length q → Avoid w' a s.B.length q) := by
  have c0 := h.c0
  have c1 := h.c1
  have c2 := h.c2
  have c3 := h.c3
  have f1 := h.f1
  have f2 := h.f2
  have f3 := h.f3
  have H := Aside0.mk h
  clear h
  cases ho : s.off
  case true =>
    rw [ho] at c1
    have hs : s.check i = 2 := by unfold RS.check; rw [ho]; rfl
    have hw : s.write i bs = (s, 2) := by unfold RS.write; rw [hs, if_neg (by decide)]
    have HW := Aside0.mk hw
    clear hs ho hw
    go_enter Try.func17, Try.ntmps17
    go_wp2
    go_ret
    rw [HW.out]
    exact ⟨rfl, H.out, Fr.refl _ _, fun _ _ h => h⟩
  rw [ho] at c1
  by_cases hi : i < 0
  · have hs : s.check i = 10 := by unfold RS.check; rw [ho, if_neg (by simp), if_pos (Or.inl hi)]
    have hw : s.write i bs = (s, 10) := by unfold RS.write; rw [hs, if_neg (by decide)]
    have HW := Aside0.mk hw
    clear hs ho hw
    go_enter Try.func17, Try.ntmps17
    go_wp2
    go_ret
    rw [HW.out]
    exact ⟨rfl, H.out, Fr.refl _ _, fun _ _ h => h⟩
  by_cases hj : (s.B.length : Int) ≤ i
  · have hs : s.check i = 10 := by unfold RS.check; rw [ho, if_neg (by simp), if_pos (Or.inr hj)]
    have hw : s.write i bs = (s, 10) := by unfold RS.write; rw [hs, if_neg (by decide)]
    have HW := Aside0.mk hw
    clear hs ho hw
    go_enter Try.func17, Try.ntmps17
    go_wp2
    go_ret
    rw [HW.out]
    exact ⟨rfl, H.out, Fr.refl _ _, fun _ _ h => h⟩
  have hs : s.check i = 0 := by unfold RS.check; rw [ho, if_neg (by simp), if_neg (by omega)]
  have hi0 : 0 ≤ i := by omega
  have hi1 : i < (s.B.length : Int) := by omega
  have hp : 0 < s.B.length := by omega
  clear ho hj hi
  by_cases hl : bs.length = 64
  case neg =>
    have hl' : ((bs.length : Int) != 64) = true := by simp; omega
    have hw : s.write i bs = (s, 11) := by unfold RS.write; rw [if_pos hs, if_neg hl]
    have HW := Aside0.mk hw
    clear hs hw hl
    go_enter Try.func17, Try.ntmps17
    go_wp2
    go_ret
    rw [HW.out]
    exact ⟨rfl, H.out, Fr.refl _ _, fun _ _ h => h⟩
  have hl' : (bs.length : Int) = 64 := by omega
  have HLEN := Aside0.mk hl
  by_cases hb0 : s.burns = true ∧ s.left = 0
  · have hw : s.write i bs = ({ s with off := true, burns := false }, 2) := by unfold RS.write; rw [if_pos hs, if_pos hl, if_pos hb0]
    rw [hb0.1] at c2
    rw [hb0.2] at c3
    have HW := Aside0.mk hw
    clear hs hw hl hb0
    go_enter Try.func17, Try.ntmps17
    go_wp2
    go_ret
    rw [HW.out]
    have h1 := H.out.set (s' := { s with off := true }) hp 1 (.bool true) (by omega) rfl rfl
    exact ⟨rfl, h1.set hp 2 (.bool false) (by omega) rfl rfl, Fr.cell (S := fun k => k = b ∨ k = a) (Fr.cell (S := fun k => k = b ∨ k = a) (Fr.refl _ _) b 1 (.inl rfl) _) b 2 (.inl rfl) _, fun q _ h => h.step (by rw [Below.heap_setCell _ _ _ _ (H.out.ne hp), Below.heap_setCell _ _ _ _ (H.out.ne hp)])⟩
  have HW := Aside0.mk (show s.write i bs = _ from by unfold RS.write; rw [if_pos hs, if_pos hl, if_neg hb0])
  go_enter Try.func17, Try.ntmps17
  go_upto_region 7 with (fail)
  go_cut [35] (fun s35 wx => wx = w ∧ s35 = .bool false)
  case first =>
    cases hbu : s.burns
    · rw [hbu] at c2
      go_wp2
      go_meet
      case rel => exact ⟨rfl, rfl⟩
    · rw [hbu] at c2
      have hlf : (s.left == 0) = false := by
        rw [beq_eq_false_iff_ne]; intro e; exact hb0 ⟨hbu, e⟩
      go_wp2
      go_meet
      case rel => exact ⟨rfl, rfl⟩
  obtain ⟨hwc, rfl⟩ := hcut
  rw [hwc]
  clear hwc wc hb0 hl
  go_upto_if 45 with (fail)
  go_cut [] (fun wx => Aside0 (RefIs wx b a c base { s with left := if s.burns then wrap64 (s.left - 1) else s.left }) ∧ Aside0 (Fr (fun k => k = b) w wx))
  case first =>
    cases hbu : s.burns
    · rw [hbu] at c2
      go_wp2
      go_meet
      case rel =>
        refine ⟨⟨?_⟩, ⟨Fr.refl _ _⟩⟩
        rw [if_neg (by rw [hbu]; decide)]
        exact H.out
    · rw [hbu] at c2
      go_wp2
      go_meet
      case rel =>
        refine ⟨⟨?_⟩, ⟨Fr.cell (S := fun k => k = b) (Fr.refl _ _) b 3 rfl _⟩⟩
        rw [if_pos hbu]
        exact H.out.set hp 3 _ (by omega) rfl rfl
  obtain ⟨HD, HF⟩ := hcut
  clear c0 c1 c2 c3 f1 f2 f3
  obtain ⟨s2, hs2⟩ : ∃ s2 : RS, s2 = { s with left := if s.burns then wrap64 (s.left - 1) else s.left } := ⟨_, rfl⟩
  rw [← hs2] at HD
  have hBL : s2.B = s.B := by rw [hs2]
  have HB := Aside0.mk (hB.fr HF.out (fun ad e hk => hA ad e hk))
  go_upto_region 13 with (fail)
  have hi1' : i < (s2.B.length : Int) := by rw [hBL]; exact hi1
  have HBL := Aside0.mk hBL
  have d0 : (wc.drew).cell? ⟨b, 0, none⟩ = some (.slice (some ⟨a, 0, none⟩) s2.B.length c) := HD.out.c0
  have HS2 := Aside0.mk hs2
  clear hs2 hBL
  refine start_ (n := 10) (S := fun w' => w'.cell? ⟨b, 0, none⟩ = some (.slice (some ⟨a, 0, none⟩) s2.B.length c)) (ds := [9]) #[false, false, false, false, false, false, false, false, false, false] (by kernel_rfl) rfl rfl (d0) (fun hHeld => ?_)
  refine pure_ (i := 0) (N := some 53) (v := ?_) (a' := ?_) #[true, false, false, false, false, false, false, false, false, false] rfl rfl (by kernel_rfl) (fun _ _ _ h => h) (Or.inl ⟨by rfl, ?_⟩) ?_ ?_
  rotate_left
  · intro w'
    go_simp
    with_reducible rfl
  rotate_left
  · simp only [Act.put, List.setIfInBounds_toArray, List.set_cons_zero, List.set_cons_succ, i64_w, i32_w]
    rfl
  refine pure_ (i := 1) (N := some 54) (v := ?_) (a' := ?_) #[true, true, false, false, false, false, false, false, false, false] rfl rfl (by kernel_rfl) (fun _ _ _ h => h) (Or.inl ⟨by rfl, ?_⟩) ?_ ?_
  rotate_left
  · intro w'
    go_simp
    with_reducible rfl
  rotate_left
  · simp only [Act.put, List.setIfInBounds_toArray, List.set_cons_zero, List.set_cons_succ, i64_w, i32_w]
    rfl
  refine pure_ (i := 2) (N := some 55) (v := ?_) (a' := ?_) #[true, true, true, false, false, false, false, false, false, false] rfl rfl (by kernel_rfl) (fun _ _ _ h => h) (Or.inl ⟨by rfl, ?_⟩) ?_ ?_
  rotate_left
  · intro w'
    go_simp
    with_reducible rfl
  rotate_left
  · simp only [Act.put, List.setIfInBounds_toArray, List.set_cons_zero, List.set_cons_succ, i64_w, i32_w]
    rfl
  refine pure_ (i := 4) (N := some 57) (v := ?_) (a' := ?_) #[true, true, true, false, true, false, false, false, false, false] rfl rfl (by kernel_rfl) (fun _ _ _ h => h) (Or.inl ⟨by rfl, ?_⟩) ?_ ?_
  rotate_left
  · intro w'
    go_simp
    with_reducible rfl
  rotate_left
  · simp only [Act.put, List.setIfInBounds_toArray, List.set_cons_zero, List.set_cons_succ, i64_w, i32_w]
    rfl
  refine pure_ (i := 6) (N := some 59) (v := ?_) (a' := ?_) #[true, true, true, false, true, false, true, false, false, false] rfl rfl (by kernel_rfl) (fun _ _ _ h => h) (Or.inl ⟨by rfl, ?_⟩) ?_ ?_
  rotate_left
  · intro w'
    go_simp
    with_reducible rfl
  rotate_left
  · simp only [Act.put, List.setIfInBounds_toArray, List.set_cons_zero, List.set_cons_succ, i64_w, i32_w]
    rfl
  refine take_ (i := 3) (N := some 56) (v := ?_) (a' := ?_) #[true, true, true, true, true, false, true, false, false, false] rfl rfl (by kernel_rfl) (fun _ _ _ h => h) (Or.inl ⟨by rfl, ?_⟩) hHeld ?_ ?_
  rotate_left
  · intro w' s0
    go_simp
    with_reducible rfl
  rotate_left
  · simp only [Act.put, List.setIfInBounds_toArray, List.set_cons_zero, List.set_cons_succ, i64_w, i32_w]
    rfl
  refine one_ (i := 5) (N := some 58) #[true, true, true, true, true, true, true, false, false, false] rfl rfl (by kernel_rfl) (by decide) (fun K hK => ?_)
  refine value_ (w1 := ?_) (v := ?_) (by rfl) rfl ?_ ?_
  rotate_left 2
  · go_simp
    constructor
    · rfl
    · rfl
  obtain ⟨wa, hwa⟩ : ∃ wa, wa = (wc.alloc (.cells #[] 5)).drew := ⟨_, rfl⟩
  have R0 := Aside0.mk (show Kd.R (Kd.int .u8) 5 wa wc.heap.size (fun _ => True) (.slice (some ⟨wc.heap.size, 0, none⟩) 0 0) [] from by rw [hwa]; exact Kd.R_drewN (emptyU8 wc wc.heap.size (Nat.le_refl _)) 1)
  have B0 := Aside0.mk (show Below wc.heap.size wc wa from by rw [hwa]; exact pw_below_drewN ((Below.refl wc.heap.size wc).alloc (Nat.le_refl _) (.cells #[] 5)) 1)
  rw [← hwa]
  clear hwa
  have CB := Aside0.mk (show Kd.C (Kd.int .u8) wa A 64 bs from by have h := (HB.out.below B0.out).to_C; rwa [HLEN.out] at h)
  refine hK.out _ _ ((HD.out.below B0.out).c0) (fun hHeld => ?_)
  clear hK K
  refine norm_ (a' := ?_) ?_ ?_
  rotate_left
  · show Act.put _ (some 58) _ = _
    simp only [Act.put, List.setIfInBounds_toArray, List.set_cons_zero, List.set_cons_succ, i64_w, i32_w]
    rfl
  refine one_ (i := 7) (N := some 60) #[true, true, true, true, true, true, true, true, false, false] rfl rfl (by kernel_rfl) (by decide) (fun K hK => ?_)
  refine Kd.R_append_rows_step (Kd.int .u8) (Rr := (Kd.int .u8).K wa) (w0 := wc) wc.heap.size (by rfl) (.tmp 58) (.tmp 59) 36 5 (.int .u8 0) 1 rfl Try.underlying36 infoU8 rfl (by decide) (by omega) (.slice (some ⟨wc.heap.size, 0, none⟩) 0 0) [] bs A 64 k (fun _ => True) (fun _ => False) rfl rfl R0.out CB.out (fun x cs h => h) (fun _ hk => hk.elim) (fun _ _ => trivial) B0.out B0.out.size (by decide) ?_
  intro v7 w7 ho2 hb2 hg2 hat2
  rw [List.nil_append] at ho2
  obtain ⟨g7, k7, e7, hg7, _, cells7, hc7⟩ := Kd.R_form ho2 (by rw [HLEN.out]; decide)
  subst e7
  have HD7 := Aside0.mk (HD.out.below hb2)
  have R7 := Aside0.mk ho2
  have B7 := Aside0.mk hb2
  have HC7 := Aside0.mk hc7
  obtain ⟨x7, _, he7, hf7⟩ := HD7.out.at i hi0 hi1'
  clear ho2 hb2 hg2 hat2 R0 B0 CB hc7
  refine hK.out _ _ (HD7.out.c0) (fun hHeld => ?_)
  clear hK K
  refine norm_ (a' := ?_) ?_ ?_
  rotate_left
  · show Act.put _ (some 60) _ = _
    simp only [Act.put, List.setIfInBounds_toArray, List.set_cons_zero, List.set_cons_succ, i64_w, i32_w]
    rfl
  refine pure_ (i := 8) (N := some 61) (v := ?_) (a' := ?_) #[true, true, true, true, true, true, true, true, true, false] rfl rfl (by kernel_rfl) (fun _ _ _ h => h) (Or.inl ⟨by rfl, ?_⟩) ?_ ?_
  rotate_left
  · intro w'
    go_simp
    with_reducible rfl
  rotate_left
  · simp only [Act.put, List.setIfInBounds_toArray, List.set_cons_zero, List.set_cons_succ, i64_w, i32_w]
    rfl
  refine last_ (i := 9) (N := none) #[true, true, true, true, true, true, true, true, true, true] rfl rfl (by kernel_rfl) (by decide) (fun K hK => ?_)
  refine skip_ (w1 := ?_) (by rfl) rfl ?_ ?_
  rotate_left
  · go_simp
    rfl
  refine hK.out _ _ ?_
  clear hK K
  refine done_ (by kernel_rfl) ?_
  have hin7 : Inner w7 (some ⟨g7, 0, none⟩, bs.length, k7) bs := Or.inr ⟨g7, k7, cells7, by rw [HLEN.out], HLEN.out, HC7.out, by
    obtain ⟨A', c', e', _, hC⟩ := Kd.R_reads R7.out
    injection e' with e1 _ _
    obtain ⟨ad, e3, hb3⟩ := (BytesAt.of_C hC).2 (by rw [HLEN.out]; decide)
    rw [← e1] at e3
    cases e3
    exact hb3⟩
  obtain ⟨w9, hw9⟩ : ∃ w9, w9 = w7.setCell ⟨a, i.toNat, none⟩ (.slice (some ⟨g7, 0, none⟩) bs.length k7) := ⟨_, rfl⟩
  have HD9 : RefIs w9 b a c base { s2 with B := s2.B.set i.toNat bs } := by rw [hw9]; exact HD7.out.put i hi0 hi1' _ bs hin7
  have HF9 : Fr (fun k => k = b ∨ k = a) w w9 := by
    rw [hw9]
    exact Fr.cell (S := fun k => k = b ∨ k = a) ((HF.out.mono (fun k h => Or.inl h)).trans (Fr.of_below B7.out)) a i.toNat (.inr rfl) _
  rw [← hw9]
  have e4 := HD9.c4
  have g4 := HD9.f4
  have HAV : Aside0 (∀ q, q < w.heap.size → Avoid w a s.B.length q → Avoid w9 a s.B.length q) := ⟨fun q hq hav => by
    have hane := HD.out.ne (by rw [HBL.out]; exact hp)
    obtain ⟨cells, hrow⟩ := HD.out.row (by rw [HBL.out]; exact hp)
    have h7 : Avoid w7 a s.B.length q := hav.step ((B7.out.block a (blk_lt hrow)).trans (HF.out.block a (by
      obtain ⟨cells', hrow'⟩ := H.out.row hp
      exact blk_lt hrow') hane))
    intro j v hj hv
    rw [hw9] at hv
    by_cases hji : i.toNat = j
    · subst hji
      rw [World.cell?_setCell_same' _ _ _ (by rw [he7]; rfl)] at hv
      cases hv
      have := HF.out.size
      simp [Value.ownBlock]
      omega
    · rw [World.cell?_setCell_other _ _ _ _ (by intro e; injection e with _ e _; exact hji e)] at hv
      exact h7 j v hj hv⟩
  have HD9' := Aside0.mk HD9
  have HF9' := Aside0.mk HF9
  clear HD9 HF9 hw9 hin7 he7 hf7 d0 hB
  go_wp2
  go_ret
  rw [HW.out]
  have := HD9'.out.set (s' := { s2 with B := s2.B.set i.toNat bs, n := wrap64 (s2.n + 1) }) (by simp; omega) 4 (.int .i64 (wrap64 (s2.n + 1))) (by omega) rfl rfl
  refine ⟨rfl, ?_, Fr.cell (S := fun k => k = b ∨ k = a) HF9'.out b 4 (.inl rfl) _, fun q hq hav => (HAV.out q hq hav).step (Below.heap_setCell _ _ _ _ (HD.out.ne (by rw [HBL.out]; exact hp)))⟩
  rw [HS2.out] at this ⊢
  exact this
end Go.Proofs.Ytcgcojdkkkfkdaa.Dk
