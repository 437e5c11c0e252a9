/-
  JournalSteps, walked.
-/
import Derived.Test.YtmfndobdkihbnaaKa
namespace Go.Proofs.Ytmfndobdkihbnaa.Dk
open Go.RowKit Go.MapKept Go.Proofs.YtmfndobdkihbnaaW.PrintWords Go.Proofs.YtmfndobdkihbnaaW.PrintLast Go.Proofs.YtmfndobdkihbnaaW.PrintMore
set_option linter.unusedVariables false
set_option linter.unusedSimpArgs false

theorem write_writes {s : FS} {i : Int} {bs : List Int} (h0 : 0 ≤ s.writes) (h1 : s.writes ≤ 1000000) : s.writes ≤ (s.write i bs).1.writes ∧ (s.write i bs).1.writes ≤ s.writes + 1 := by
  unfold FS.write
  split
  · split
    · split
      · simp only; omega
      · have e : wrap64 (s.writes + 1) = s.writes + 1 := wrap_in (by omega) (by omega)
        simp only [e]; omega
    · simp only; omega
  · simp only; omega
theorem wrs_writes {s : FS} {l : List PutT} (h0 : 0 ≤ s.writes) (h1 : s.writes + (l.length : Int) ≤ 1000000) : s.writes ≤ (wrs s l).1.writes ∧ (wrs s l).1.writes ≤ s.writes + (l.length : Int) := by
  induction l generalizing s with
  | nil => simp [wrs]
  | cons x r ih =>
    obtain ⟨i, bs⟩ := x
    simp only [List.length_cons] at h1 ⊢
    obtain ⟨a, b⟩ := write_writes (i := i) (bs := bs) h0 (by omega)
    by_cases h : (s.write i bs).2 = 0
    · rw [wrs_ok h]
      obtain ⟨c, d⟩ := ih (s := (s.write i bs).1) (by omega) (by omega)
      omega
    · rw [wrs_no h]; omega
theorem commit_writes {s : FS} {at_ g : Int} {l : List PutT} (h0 : 0 ≤ s.writes) (h1 : s.writes ≤ 900000) (hm : mayB s.len at_ l = true) : s.writes ≤ (commitR s at_ g l).1.writes ∧ (commitR s at_ g l).1.writes ≤ s.writes + 400 := by
  have hM := mayB_spec hm
  have hn := hM.n
  have hs := hM.lis
  have hl := preW_len at_ g l
  obtain ⟨a, b⟩ := wrs_writes (s := s) (l := preW at_ g l) h0 (by rw [hl]; omega)
  rw [hl] at b
  unfold commitR
  rw [if_pos hm]
  split
  · split
    · simp only; omega
    · obtain ⟨c, d⟩ := wrs_writes (s := (wrs s (preW at_ g l)).1) (l := l ++ [(at_, headB (g + 1) 0)]) (by omega) (by simp; omega)
      simp only [List.length_append, List.length_cons, List.length_nil] at d
      simp only
      omega
  · simp only; omega
theorem ground_writes (at_ : Int) (h0 : 0 ≤ at_) (h1 : at_ ≤ 60) : 0 ≤ (groundS at_).writes ∧ (groundS at_).writes ≤ 1 := by
  have := write_writes (s := FS.new 259) (i := at_) (bs := headB 0 0) (by decide) (by decide)
  exact this
theorem commit_js2 {W : World} {b m jb : Nat} {s : FS} {at_ g : Int} {F : Int → List Int} {N : Int} (h : JS W b m jb s at_ g F N) (h0 : 0 ≤ at_) (h1 : at_ + 199 ≤ N) (h2 : N ≤ 4096) (hg0 : 0 ≤ g) (hg1 : g ≤ 1000000)
    {ok : Nat → Prop} {A : Option Addr} {c : Nat} {l : List PutT} (hF : Kd.F kP W ok A l.length l) (hok : ∀ k, ok k → ¬ DJ b m jb k) (hm : mayB N at_ l = true) :
    Calls Try.prog 11 #[.pointer (some ⟨jb, 0, none⟩), .slice A l.length c] W fun e w' => e = .returned (.int .i64 0) ∧ JS w' b m jb (commitR s at_ g l).1 at_ (g + 1) (puts F l) N ∧ Fr (DJ b m jb) W w' := by
  have hM := mayB_spec hm
  have hn := hM.n
  refine (commit_any jb b m s at_ g A c l W h.j h.d h.on h0 (by rw [h.len]; exact h1) (by rw [h.len]; exact h2) hg0 hg1 (Kd.F_now hF) (PutsAt.of_F hF hok) (by omega)).mono ?_
  rintro e w' ⟨rfl, hd, hj, hf⟩
  have hm' : mayB s.len at_ l = true := by rw [h.len]; exact hm
  obtain ⟨p1, p2⟩ := commit_plain h.idle h.on h0 (by rw [h.len]; exact h1) (by rw [h.len]; exact h2) hm'
  obtain ⟨q1, q2⟩ := commit_free (g := g) h.fuse h.on h0 (by rw [h.len]; exact h1) hm'
  rcases p2 with ⟨r1, r2, r3, r4⟩ | ⟨r1, _⟩
  · refine ⟨by rw [r1], ⟨hd, by rw [r3] at hj; exact hj, r2, by rw [p1, h.len], q2, r4⟩, hf⟩
  · rw [q1] at r1; cases r1

def rdB (xs : List Int) (i : Nat) : Int := xs.getD i 0
/-- The first group's puts, and the second one's. -/
def putA (old : List Int) (i : Nat) : PutT := (199 + (i : Int), fullB (rdB old i) (i : Int))
def putB (next : List Int) (i : Nat) : PutT := (199 + ((7 * i % 60 : Nat) : Int), fullB (rdB next i) (i : Int))
def lA (old : List Int) (n : Nat) : List PutT := (List.range n).map (putA old)
def lB (next : List Int) (n : Nat) : List PutT := (List.range n).map (putB next)
theorem lA_may (old : List Int) (n : Nat) (hn : n ≤ 40) : mayB 259 0 (lA old n) = true := by
  rw [mayB_all]
  · simp [lA]; omega
  · have : (lA old n).map (·.1) = (List.range n).map fun i : Nat => 199 + (i : Int) := by simp [lA, putA]
    rw [this]
    exact range_map_nodup _ _ (fun i j _ _ e => by omega)
  · intro x hx
    obtain ⟨i, hi, rfl⟩ := List.mem_map.1 hx
    have := List.mem_range.1 hi
    exact ⟨by simp only [putA]; omega, by simp only [putA]; omega, by simp only [putA]; omega, fullB_len _ _⟩
theorem lB_may (next : List Int) (n : Nat) (hn : n ≤ 40) : mayB 259 0 (lB next n) = true := by
  rw [mayB_all]
  · simp [lB]; omega
  · have : (lB next n).map (·.1) = (List.range n).map fun i : Nat => 199 + ((7 * i % 60 : Nat) : Int) := by simp [lB, putB]
    rw [this]
    exact range_map_nodup _ _ (fun i j hi hj e => by omega)
  · intro x hx
    obtain ⟨i, hi, rfl⟩ := List.mem_map.1 hx
    have := List.mem_range.1 hi
    exact ⟨by simp only [putB]; omega, by simp only [putB]; omega, by simp only [putB]; omega, fullB_len _ _⟩
theorem infoPut : (Try.prog.info? 40).map (fun i => (i.zero, i.size, i.bytes)) = some (some (.agg #[.int .i64 0, .slice none 0 0]), 2, 32) := by kernel_rfl
theorem FK_kP {W : World} {ok : Nat → Prop} {x : Int} {A : Option Addr} {c : Nat} {bs : List Int} (hl : bs.length ≤ c) (hF : Kd.F (Kd.int .u8) W ok A bs.length bs) : Kd.FK kP W ok (x, bs) [.int .i64 x, .slice A bs.length c] :=
  fun W' hW => ⟨[.int .i64 x], [.slice A bs.length c], rfl, rfl, ⟨A, c, rfl, hl, hF W' hW⟩⟩
theorem at_B {w : World} {A : Option Addr} {n : Nat} {xs : List Int} (h : Kd.C (Kd.int .u8) w A n xs) (i : Nat) (h1 : i < n) : ∃ ad, A = some ad ∧ w.cell? (ad.add i) = some (.int .u8 (rdB xs i)) := by
  obtain ⟨ad, c, e, _, hK, hc0⟩ := Kd.C_get h 0 (i : Int) (by omega) (by omega)
  rw [Int.toNat_natCast] at hK hc0
  have hK' : c = [.int .u8 (xs.getD i 0)] := hK
  subst hK'
  have h2 := hc0 0 _ rfl
  rw [show (Kd.int .u8).sz = 1 from rfl, Nat.mul_one, Nat.add_zero] at h2
  exact ⟨ad, e, h2⟩

theorem N_tight_nil {α : Type} {d : Kd α} {e : Nat} {w : World} {base : Nat} {ok : Nat → Prop} {v : Value} (h : Kd.N d e w base ok v []) : Kd.N d e w base (fun k => some k = v.ownBlock) v [] := by
  obtain ⟨h0, rows, hl, hR, hf⟩ := h
  exact ⟨fun k hk => hk.symm, rows, hl, hR, fun j x c hx => by simp at hx⟩
theorem lA_succ (old : List Int) (i : Nat) : lA old (i + 1) = lA old i ++ [putA old i] := by simp [lA, List.range_succ]
theorem lB_succ (next : List Int) (i : Nat) : lB next (i + 1) = lB next i ++ [putB next i] := by simp [lB, List.range_succ]
theorem lA_len (old : List Int) (i : Nat) : (lA old i).length = i := by simp [lA]
theorem lB_len (next : List Int) (i : Nat) : (lB next i).length = i := by simp [lB]

/-- What the last Open leaves. -/
def OpenS (b m : Nat) (s : FS) (F1 F2 : Int → List Int) (h : Int) (w : World) (e : Ending) (w' : World) : Prop :=
  ∃ jb s' g G, e = .returned (.tuple #[.pointer (some ⟨jb, 0, none⟩), .int .i64 0]) ∧ w.heap.size ≤ jb ∧ DiskIs w' b m s' ∧ s'.off = false ∧ s'.len = s.len ∧ Idle s' 0 g G ∧ JIs w' jb b 0 g ∧ Fr (DB b m) w w' ∧ ((g = 1 ∧ G = F1 ∧ h = 2) ∨ (g = 2 ∧ G = F2))
theorem open_s (b m : Nat) (s : FS) (F1 : Int → List Int) (l : List PutT) (h : Int) (w : World) (hd : DiskIs w b m s) (hon : s.off = false) (hfu : s.fuse = -1) (hlen : s.len = 259) (hs : (h = 0 ∧ Idle s 0 2 (puts F1 l)) ∨ (h = 2 ∧ OSt s 0 1 F1 l true)) :
    Calls Try.prog 9 #[.pointer (some ⟨b, 0, none⟩), .int .i64 0] w fun e w' => OpenS b m s F1 (puts F1 l) h w e w' := by
  rcases hs with ⟨rfl, hi⟩ | ⟨rfl, ho⟩
  · refine (open_i b m s 0 2 _ w hd hon hi (by omega) (by omega) (by omega) (by omega) (by omega)).mono ?_
    rintro e w' ⟨jb, rfl, hj, hJ, hd', hf⟩
    exact ⟨jb, s, 2, _, rfl, hj, hd', hon, rfl, hi, hJ, hf, .inr ⟨rfl, rfl⟩⟩
  · refine (open_o b m s 0 1 F1 l true w hd hon ho (by omega) (by omega) (by omega) (by omega) (by omega)).mono ?_
    rintro e w' ⟨s', hd', hl', _, hf, hres⟩
    rcases hres with ⟨jb, rfl, hj, hof, halt⟩ | ⟨hne, _⟩
    case inr => exact absurd hfu hne
    rcases halt with ⟨hi, hJ⟩ | ⟨_, _, hi, hJ⟩
    · exact ⟨jb, s', 1, _, rfl, hj, hd', hof, hl', hi, hJ, hf, .inl ⟨rfl, rfl, rfl⟩⟩
    · exact ⟨jb, s', 2, _, rfl, hj, hd', hof, hl', hi, hJ, hf, .inr ⟨rfl, rfl⟩⟩
theorem rows_0 (F : Int → List Int) : (rowsL F 259 (0 : Int)).length = 60 := rowsL_60 F 0 (by omega)
/-- rows, of a disk with a journal at 0. -/
theorem rows_js (b m : Nat) (s : FS) (G : Int → List Int) (w : World) (hd : DiskIs w b m s) (hon : s.off = false) (hlen : s.len = 259) (hv : ∀ k, ¬ Own 0 k → s.has k = G k) :
    Calls Try.prog 16 #[.pointer (some ⟨b, 0, none⟩), .int .i64 0] w fun e w' => ∃ A c, e = .returned (.tuple #[.slice A 60 c, .bool true]) ∧ Kd.V kR 37 w' 0 (fun k => w.heap.size ≤ k) (.slice A 60 c) (rowsL G 259 0) ∧ Below w.heap.size w w' := by
  refine (rows_any b m s 0 259 w hd hon hlen (by omega) (by omega) (by omega)).mono ?_
  rintro e w' ⟨v, rfl, hn, hb⟩
  rw [rowsL_congr hv] at hn
  obtain ⟨A, c, rfl⟩ := Kd.N_slice hn
  rw [rows_0] at hn ⊢
  exact ⟨A, c, rfl, Kd.N_V hn, hb⟩
theorem same_js (A0 : Option Addr) (c0 : Nat) (F : Int → List Int) (A1 : Option Addr) (c1 : Nat) (G : Int → List Int) (ok ok' : Nat → Prop) (w : World) (h0 : Kd.V kR 37 w 0 ok (.slice A0 60 c0) (rowsL F 259 0)) (h1 : Kd.V kR 37 w 0 ok' (.slice A1 60 c1) (rowsL G 259 0)) :
    Calls Try.prog 23 #[.slice A0 60 c0, .slice A1 60 c1] w fun e w' => ∃ r : Bool, e = .returned (.bool r) ∧ (F = G → r = true) ∧ Below w.heap.size w w' := by
  have h := same_any A0 c0 (rowsL F 259 0) A1 c1 (rowsL G 259 0) w (Kd.V_reads' h0).2.2 (Kd.V_reads' h1).2.2 (by rw [rows_0, rows_0]) (by rw [rows_0]; omega)
  rw [rows_0, rows_0] at h
  refine h.mono ?_
  rintro e w' ⟨r, rfl, hr, n, rfl⟩
  exact ⟨r, rfl, fun e => hr (by rw [e]), pw_below_drewN (Below.refl _ _) n⟩

set_option maxHeartbeats 16000000 in
set_option maxRecDepth 100000 in
theorem steps_any (Ao : Option Addr) (co : Nat) (old : List Int) (An : Option Addr) (cn : Nat) (next : List Int) (w : World) (ho : Kd.C (Kd.int .u8) w Ao old.length old) (hn : Kd.C (Kd.int .u8) w An next.length next) (hbo : old.length ≤ 1000000000000000) (hbn : next.length ≤ 1000000000000000) :
    Calls Try.prog 5 #[.slice Ao old.length co, .slice An next.length cn] w fun e w' => e = .returned (.bool true) ∧ Below w.heap.size w w' := by
  have HO := Aside0.mk ho
  have HNX := Aside0.mk hn
  clear ho hn
  go_enter Try.func5, Try.ntmps5
  go_wp2_with fail
  refine (shown_any w).mono ?_
  rintro e w1 ⟨rfl, hb⟩
  have B1 := Aside0.mk hb
  clear hb
  go_wp2_with fail
  refine (ground_js 0 w1 (by omega) (by omega)).mono ?_
  rintro e w2 ⟨b, m, jb, rfl, hj, h1, h2, h3, hb⟩
  have J2 := Aside0.mk hj
  have HBM := Aside0.mk (And.intro (Nat.le_trans B1.out.size h1) (And.intro (Nat.le_trans B1.out.size h2) (Nat.le_trans B1.out.size h3)))
  have B2 := Aside0.mk (below_step B1.out hb)
  clear hj h1 h2 h3 hb B1
  go_wp2_with (first
    | ((with_reducible refine gate_dst (N := 42) rfl ?_); refine Kd.N_lit kP w2.heap.size 40 ?hg (N' := 42) ?hd (xs := ([] : List PutT)) (inner := []) (ok := fun k => w2.heap.size ≤ k) (okp := fun k => False) ?hr ?hp (fun _ hk => hk.elim) (Nat.le_refl _) (Below.refl _ _) (Nat.le_refl _) (by simp) ?_; (case hd => rfl); (case hg => rfl); (case hr => first | (go_simp; done) | (go_simp; rfl)); (case hp => exact (Reps.none _ _)); intro v8 w3 ho3 hb3 hg3 hat3; have HA3 := Aside0.mk ho3; have B3 := Aside0.mk hb3; clear ho3 hb3 hg3 hat3)
    | ((with_reducible refine gate_dst (N := 43) rfl ?_); refine Kd.N_lit kP w2.heap.size 40 ?hg (N' := 43) ?hd (xs := ([] : List PutT)) (inner := []) (ok := fun k => w2.heap.size ≤ k ∧ some k ≠ v8.ownBlock) (okp := fun k => False) ?hr ?hp (fun _ hk => hk.elim) ⟨B3.out.size, fun e => by have := Kd.N_lt HA3.out _ e.symm; omega⟩ B3.out B3.out.size (by simp) ?_; (case hd => rfl); (case hg => rfl); (case hr => first | (go_simp; done) | (go_simp; rfl)); (case hp => exact (Reps.none _ _)); intro v9 w4 ho4 hb4 hg4 hat4; have HB4 := Aside0.mk ho4; have B4 := Aside0.mk hb4; have HA4 := Aside0.mk (Kd.N_grown HA3.out hg4 (fun k _ e => by cases e)); clear ho4 hb4 hg4 hat4)
    | fail)
  have N8 := Aside0.mk (show Kd.N kP 40 w4 w2.heap.size (fun k => w2.heap.size ≤ k ∧ some k ≠ v9.ownBlock) v8 (lA old 0) from by
    have h := N_tight_nil HA4.out
    refine Kd.N_mono h (fun k hk => ⟨HA4.out.1 k hk.symm, fun e => ?_⟩)
    exact (HB4.out.1 k e.symm).2 hk)
  have N9 := Aside0.mk (N_tight_nil HB4.out)
  have HV9 := Aside0.mk (show ∀ k, some k = v9.ownBlock → w2.heap.size ≤ k from fun k hk => by have := Kd.N_base HB4.out k hk.symm; exact this)
  clear HA4 HB4 HA3 B3
  go_loopg [8, 10] 40 (fun gq v8 v10 wr => ∃ (i : Nat), v10 = .int .i64 i ∧ i ≤ 40 ∧ i ≤ old.length ∧ Aside0 (gq = 40 - i) ∧ Aside0 (Kd.N kP 40 wr w2.heap.size (fun k => w2.heap.size ≤ k ∧ some k ≠ v9.ownBlock) v8 (lA old i)) ∧ Aside0 (Kd.N kP 40 wr w2.heap.size (fun k => some k = v9.ownBlock) v9 []) ∧ Aside0 (Below w2.heap.size w2 wr))
  case atStart => exact ⟨0, rfl, by omega, by omega, ⟨rfl⟩, N8, N9, B4⟩
  case round =>
    clear N8 N9 B4
    obtain ⟨i, rfl, hi40, hio, HG, N8, N9, HB⟩ := hrel
    obtain ⟨bb, hbb⟩ : ∃ bb, bb = decide (i < old.length ∧ i < 40) := ⟨_, rfl⟩
    have HBB := Aside0.mk hbb
    clear hbb
    go_upto_region 8 with (fail)
    go_cut [51] (fun s51 wx => s51 = .bool bb ∧ wx = wr)
    case first =>
      by_cases q1 : i < old.length
      · have q1' : (i : Int) < (old.length : Int) := by omega
        by_cases q2 : i < 40
        · have q2' : (i : Int) < 40 := by omega
          have HE := Aside0.mk (show bb = true by rw [HBB.out]; exact decide_eq_true ⟨q1, q2⟩)
          clear q1 q2
          go_wp2
          go_meet
          case rel => exact ⟨by rw [HE.out], rfl⟩
        · have q2' : ¬ (i : Int) < 40 := by omega
          have HE := Aside0.mk (show bb = false by rw [HBB.out]; exact decide_eq_false (fun h => q2 h.2))
          clear q1 q2
          go_wp2
          go_meet
          case rel => exact ⟨by rw [HE.out], rfl⟩
      · have q1' : ¬ (i : Int) < (old.length : Int) := by omega
        have HE := Aside0.mk (show bb = false by rw [HBB.out]; exact decide_eq_false (fun h => q1 h.1))
        clear q1
        go_wp2
        go_meet
        case rel => exact ⟨by rw [HE.out], rfl⟩
    obtain ⟨rfl, hwc⟩ := hcut
    rw [hwc]
    clear hwc wc
    cases bb
    case true =>
      obtain ⟨hl1, hl2⟩ := of_decide_eq_true HBB.out.symm
      have hl1' : (i : Int) < (old.length : Int) := by omega
      have hl2' : (i : Int) < 40 := by omega
      obtain ⟨ad, rfl, e1⟩ := at_B (Kd.C_below HO.out (below_step B2.out HB.out)) i hl1
      go_wp2_with fail
      refine (full_any (rdB old i) (i : Int) wr).mono ?_
      rintro e w5 ⟨vf, rfl, hr, hb⟩
      obtain ⟨Af, cf, rfl⟩ := Kd.R_slice hr
      obtain ⟨f1, f2⟩ := full_F hr (Below.refl _ w5) (Nat.le_refl _)
      have N8' := Aside0.mk (Kd.N_below N8.out hb)
      have N9' := Aside0.mk (Kd.N_below N9.out hb)
      have HB5 := Aside0.mk (below_step HB.out hb)
      have FK5 := Aside0.mk (FK_kP (x := 199 + (i : Int)) f1 f2)
      have HLO := Aside0.mk (show w2.heap.size ≤ wr.heap.size from HB.out.size)
      have HLT := Aside0.mk (show (∀ k, u8.ownBlock = some k → k < wr.heap.size) ∧ (∀ k, v9.ownBlock = some k → k < wr.heap.size) from ⟨Kd.N_lt N8.out, Kd.N_lt N9.out⟩)
      clear hr hb f1 f2 N8 N9 HB e1
      go_wp2_with (first
        | ((with_reducible refine gate_dst (N := 66) rfl ?_); refine Kd.N_append kP (w0 := w2) w2.heap.size rfl (.tmp 54) (.tmp 65) 35 40 (.agg #[.int .i64 0, .slice none 0 0]) 32 rfl Try.underlying35 infoPut rfl (by decide) (by decide) u8 (lA old i) (putA old i) [.int .i64 (199 + (i : Int)), .slice Af (fullB (rdB old i) (i : Int)).length cf] (fun k => w2.heap.size ≤ k ∧ some k ≠ v9.ownBlock) (fun k => wr.heap.size ≤ k) rfl rfl FK5.out (fun k hk => ⟨⟨Nat.le_trans HLO.out hk, fun e => by have := HLT.out.2 k e.symm; omega⟩, fun e => by have := HLT.out.1 k e.symm; omega⟩) (fun k hk => ⟨by have := HB5.out.size; omega, fun e => by have := Kd.N_lt N9'.out k e.symm; omega⟩) N8'.out HB5.out HB5.out.size (by rw [lA_len]; omega) ?_; intro v1 w6 ho6 hb6 hg6 hat6; rw [← lA_succ] at ho6; have N86 := Aside0.mk ho6; have HB6 := Aside0.mk hb6; have N96 := Aside0.mk (Kd.N_grown N9'.out hg6 (fun k hk e => (N8'.out.1 k e.symm).2 hk)); clear ho6 hb6 hg6 hat6)
        | fail)
      go_roundg (40 - (i + 1))
      case measure => have := HG.out; omega
      case rel => exact ⟨i + 1, by go_num, by omega, by omega, ⟨rfl⟩, N86, N96, HB6⟩
    case false =>
      clear HG
      have HLA := Aside0.mk (lA_may old i hi40)
      have NA := Aside0.mk (Kd.N_V (base' := 0) N8.out)
      obtain ⟨A8, c8, rfl⟩ := Kd.N_slice N8.out
      rw [lA_len] at NA N8 ⊢
      have FA := Aside0.mk (Kd.F_bound (Kd.V_F NA.out))
      clear N8 NA HBB
      obtain ⟨na, hna⟩ : ∃ na, na = i := ⟨_, rfl⟩
      rw [← hna] at HLA FA ⊢
      have hna40 : na ≤ 40 := by omega
      clear hna hio hi40 i
      have F9 := Aside0.mk (show Kd.N kP 40 wr w2.heap.size (fun k => some k = v9.ownBlock ∨ wr.heap.size ≤ k) v9 (lB next 0) from Kd.N_mono N9.out (fun k hk => .inl hk))
      obtain ⟨wA, hwA⟩ : ∃ wA, wA = wr := ⟨_, rfl⟩
      rw [← hwA] at FA F9 HB N9 ⊢
      clear hwA wr
      have HW2A := Aside0.mk (show w2.heap.size ≤ wA.heap.size from HB.out.size)
      go_wp2
      go_loopg [9, 11] 40 (fun gq v9' v11 wr => ∃ (i : Nat), v11 = .int .i64 i ∧ i ≤ 40 ∧ i ≤ next.length ∧ Aside0 (gq = 40 - i) ∧ Aside0 (Kd.F kP wr (fun k => (w2.heap.size ≤ k ∧ some k ≠ v9.ownBlock) ∧ k < wA.heap.size) A8 na (lA old na)) ∧ Aside0 (Kd.N kP 40 wr w2.heap.size (fun k => some k = v9.ownBlock ∨ wA.heap.size ≤ k) v9' (lB next i)) ∧ Aside0 (Below w2.heap.size w2 wr) ∧ Aside0 (wA.heap.size ≤ wr.heap.size))
      case atStart => exact ⟨0, rfl, by omega, by omega, ⟨rfl⟩, FA, F9, HB, ⟨Nat.le_refl _⟩⟩
      case round =>
        clear FA F9 HB N9
        obtain ⟨i, rfl, hi40, hio, HG, FA, N9, HB, HSZ⟩ := hrel
        obtain ⟨bb, hbb⟩ : ∃ bb, bb = decide (i < next.length ∧ i < 40) := ⟨_, rfl⟩
        have HBB := Aside0.mk hbb
        clear hbb
        go_upto_region 12 with (fail)
        go_cut [74] (fun s51 wx => s51 = .bool bb ∧ wx = wr)
        case first =>
          by_cases q1 : i < next.length
          · have q1' : (i : Int) < (next.length : Int) := by omega
            by_cases q2 : i < 40
            · have q2' : (i : Int) < 40 := by omega
              have HE := Aside0.mk (show bb = true by rw [HBB.out]; exact decide_eq_true ⟨q1, q2⟩)
              clear q1 q2
              go_wp2
              go_meet
              case rel => exact ⟨by rw [HE.out], rfl⟩
            · have q2' : ¬ (i : Int) < 40 := by omega
              have HE := Aside0.mk (show bb = false by rw [HBB.out]; exact decide_eq_false (fun h => q2 h.2))
              clear q1 q2
              go_wp2
              go_meet
              case rel => exact ⟨by rw [HE.out], rfl⟩
          · have q1' : ¬ (i : Int) < (next.length : Int) := by omega
            have HE := Aside0.mk (show bb = false by rw [HBB.out]; exact decide_eq_false (fun h => q1 h.1))
            clear q1
            go_wp2
            go_meet
            case rel => exact ⟨by rw [HE.out], rfl⟩
        obtain ⟨rfl, hwc⟩ := hcut
        rw [hwc]
        clear hwc wc
        cases bb
        case true =>
          obtain ⟨hl1, hl2⟩ := of_decide_eq_true HBB.out.symm
          have hl1' : (i : Int) < (next.length : Int) := by omega
          have hl2' : (i : Int) < 40 := by omega
          obtain ⟨ad, rfl, e1⟩ := at_B (Kd.C_below HNX.out (below_step B2.out HB.out)) i hl1
          obtain ⟨j7, hj7⟩ : ∃ j7, j7 = 7 * i % 60 := ⟨_, rfl⟩
          have hj60 : j7 < 60 := by omega
          have hmod : (7 * (i : Int)) % 60 = (j7 : Int) := by omega
          have HPB := Aside0.mk (show putB next i = (199 + (j7 : Int), fullB (rdB next i) (i : Int)) from by unfold putB; rw [hj7])
          clear hj7
          go_wp2_with fail
          refine (full_any (rdB next i) (i : Int) wr).mono ?_
          rintro e w5 ⟨vf, rfl, hr, hb⟩
          obtain ⟨Af, cf, rfl⟩ := Kd.R_slice hr
          obtain ⟨f1, f2⟩ := full_F hr (Below.refl _ w5) (Nat.le_refl _)
          have FA' := Aside0.mk (Kd.F_below FA.out hb)
          have N9' := Aside0.mk (Kd.N_below N9.out hb)
          have HB5 := Aside0.mk (below_step HB.out hb)
          have FK5 := Aside0.mk (FK_kP (x := 199 + (j7 : Int)) f1 f2)
          have HSZ5 := Aside0.mk (Nat.le_trans HSZ.out hb.size)
          have HLT := Aside0.mk (show (∀ k, u9.ownBlock = some k → k < wr.heap.size) from Kd.N_lt N9.out)
          rw [← HPB.out] at FK5
          clear hr hb f1 f2 FA N9 HB e1 HPB
          go_wp2_with (first
            | ((with_reducible refine gate_dst (N := 91) rfl ?_); refine Kd.N_append kP (w0 := w2) w2.heap.size rfl (.tmp 77) (.tmp 90) 35 40 (.agg #[.int .i64 0, .slice none 0 0]) 32 rfl Try.underlying35 infoPut rfl (by decide) (by decide) u9 (lB next i) (putB next i) [.int .i64 (199 + (j7 : Int)), .slice Af (fullB (rdB next i) (i : Int)).length cf] (fun k => some k = v9.ownBlock ∨ wA.heap.size ≤ k) (fun k => wr.heap.size ≤ k) rfl rfl FK5.out (fun k hk => ⟨.inr (Nat.le_trans HSZ.out hk), fun e => by have := HLT.out k e.symm; omega⟩) (fun k hk => .inr (Nat.le_trans HSZ5.out hk)) N9'.out HB5.out HB5.out.size (by rw [lB_len]; omega) ?_; intro v1 w6 ho6 hb6 hg6 hat6; rw [← lB_succ] at ho6; have N96 := Aside0.mk ho6; have HB6 := Aside0.mk hb6; have FA6 := Aside0.mk (Kd.F_grown FA'.out hg6 (fun k hk e => by have := N9'.out.1 k e.symm; rcases this with h | h; exact hk.1.2 h; have := hk.2; omega)); have HSZ6 := Aside0.mk (Nat.le_trans HSZ5.out hg6.size); clear ho6 hb6 hg6 hat6)
            | fail)
          go_roundg (40 - (i + 1))
          case measure => have := HG.out; omega
          case rel => exact ⟨i + 1, by go_num, by omega, by omega, ⟨rfl⟩, FA6, N96, HB6, HSZ6⟩
        case false =>
          as_aux_lemma =>
            clear HG
            have HLB := Aside0.mk (lB_may next i hi40)
            have HWA := HW2A
            have NBV := Kd.N_V (base' := 0) N9.out
            obtain ⟨A9, c9, rfl⟩ := Kd.N_slice N9.out
            rw [lB_len] at NBV ⊢
            have FB := Aside0.mk (Kd.F_mono (Kd.V_F NBV) (ok' := fun k => w2.heap.size ≤ k) (fun k hk => hk.elim (fun h => HV9.out k h) (fun h => Nat.le_trans HWA.out h)))
            have FA2 := Aside0.mk (Kd.F_mono FA.out (ok' := fun k => w2.heap.size ≤ k) (fun k hk => hk.1.1))
            clear NBV N9 HBB FA HWA HSZ
            obtain ⟨la, hla⟩ : ∃ la, la = lA old na := ⟨_, rfl⟩
            obtain ⟨lb, hlb⟩ : ∃ lb, lb = lB next i := ⟨_, rfl⟩
            have hlal : la.length = na := by rw [hla]; exact lA_len _ _
            have hlbl : lb.length = i := by rw [hlb]; exact lB_len _ _
            rw [← hla] at FA2 HLA
            rw [← hlb] at FB HLB
            have LL := Aside0.mk (And.intro hlal hlbl)
            obtain rfl := hlal
            obtain rfl := hlbl
            clear hla hlb hio hi40 hna40
            have J3 := Aside0.mk (J2.out.below HB.out)
            have HLT := Aside0.mk (show ∀ k, w2.heap.size ≤ k → ¬ DJ b m jb k from J2.out.lt)
            have B3 := Aside0.mk (below_step B2.out HB.out)
            clear J2 B2 HB
            go_wp2_with fail
            refine (commit_js2 J3.out (by omega) (by omega) (by omega) (by omega) (by omega) FA2.out HLT.out HLA.out).mono ?_
            have hw0 := ground_writes 0 (by omega) (by omega)
            have hw1 := commit_writes (s := groundS 0) (at_ := 0) (g := 0) (l := la) hw0.1 (by omega) (by rw [J3.out.len]; exact HLA.out)
            obtain ⟨s1, hs1⟩ : ∃ s1, s1 = commitR (groundS 0) 0 0 la := ⟨_, rfl⟩
            rw [← hs1] at hw1 ⊢
            obtain ⟨F1, hF1⟩ : ∃ F1, F1 = puts (fun _ => zeros) la := ⟨_, rfl⟩
            rw [← hF1]
            rintro e w5 ⟨rfl, hj, hf⟩
            have W1 := Aside0.mk (show 0 ≤ s1.1.writes ∧ s1.1.writes ≤ 500 from by omega)
            have J5 := Aside0.mk (show JS w5 b m jb s1.1 0 1 F1 259 from hj)
            have B5 := Aside0.mk (B3.out.trans (hf.below B3.out.size (fun k hk => by have := HBM.out; rcases hk with rfl | rfl | rfl <;> omega)))
            have FB5 := Aside0.mk (Kd.F_step FB.out (fun k hk hlt => hf.block k hlt (HLT.out k hk)))
            obtain ⟨s1, hs1'⟩ : ∃ s, s = s1.1 := ⟨_, rfl⟩
            rw [← hs1'] at W1 J5
            clear hw0 hw1 hs1 hs1' hF1 hj hf J3 B3 FB FA2 HLA
            go_wp2_with fail
            refine (rows_js b m s1 F1 w5 J5.out.d J5.out.on J5.out.len J5.out.idle.vis).mono ?_
            rintro e w6 ⟨A13, c13, rfl, hv, hb⟩
            have V6 := Aside0.mk (Kd.V_mono (ok' := fun k => w5.heap.size ≤ k) hv (fun k hk => hk))
            have J6 := Aside0.mk (J5.out.below hb)
            have B6 := Aside0.mk (below_step B5.out hb)
            have FB6 := Aside0.mk (Kd.F_below FB5.out hb)
            have H56 := Aside0.mk (show (∀ k, w5.heap.size ≤ k → ¬ DJ b m jb k) ∧ w5.heap.size ≤ w6.heap.size from ⟨J5.out.lt, hb.size⟩)
            clear hv hb J5 B5 FB5
            go_wp2_with fail
            refine (clone_any b m s1 w6 J6.out.d).mono ?_
            rintro e w7 ⟨b2, m2, rfl, hd, hb2, hm2, hb⟩
            have D7 := Aside0.mk hd
            have H7 := Aside0.mk (show ¬ DJ b m jb b2 ∧ ¬ DJ b m jb m2 from ⟨H56.out.1 _ (Nat.le_trans H56.out.2 hb2), H56.out.1 _ (Nat.le_trans H56.out.2 hm2)⟩)
            have V7 := Aside0.mk (Kd.V_below V6.out hb)
            have J7 := Aside0.mk (J6.out.below hb)
            have B7 := Aside0.mk (below_step B6.out hb)
            have FB7 := Aside0.mk (Kd.F_below FB6.out hb)
            clear hd hb2 hm2 hb V6 J6 B6 FB6
            go_wp2_with fail
            refine (writes_any b m s1 w7 J7.out.d).mono ?_
            rintro e w7 ⟨rfl, rfl⟩
            go_wp2_with fail
            refine (commit_js2 J7.out (by omega) (by omega) (by omega) (by omega) (by omega) FB7.out HLT.out HLB.out).mono ?_
            have hw1 := commit_writes (s := s1) (at_ := 0) (g := 1) (l := lb) W1.out.1 (by have := W1.out; omega) (by rw [J7.out.len]; exact HLB.out)
            obtain ⟨s2, hs2⟩ : ∃ s2, s2 = (commitR s1 0 1 lb).1 := ⟨_, rfl⟩
            rw [← hs2] at hw1 ⊢
            rintro e w8 ⟨rfl, hj, hf⟩
            have S1 := Aside0.mk (And.intro J7.out.on (And.intro J7.out.len (And.intro J7.out.fuse J7.out.idle)))
            obtain ⟨T, hT⟩ : ∃ T, T = s2.writes - s1.writes := ⟨_, rfl⟩
            have hT0 : 0 ≤ T := by omega
            have hT1 : T ≤ 400 := by omega
            have WT := Aside0.mk (show IntKind.i64.wrap (s2.writes - s1.writes) = T from by rw [← hT]; exact IntWalk.i64_in _ (by omega))
            have J8 := Aside0.mk (show JS w8 b m jb s2 0 2 (puts F1 lb) 259 from hj)
            have D8 := Aside0.mk (D7.out.fr hf H7.out.1 H7.out.2)
            have V8 := Aside0.mk (Kd.V_step V7.out (fun k hk hlt => hf.block k hlt (H56.out.1 k hk)))
            have B8 := Aside0.mk (B7.out.trans (hf.below B7.out.size (fun k hk => by have := HBM.out; rcases hk with rfl | rfl | rfl <;> omega)))
            have FB8 := Aside0.mk (Kd.F_step FB7.out (fun k hk hlt => hf.block k hlt (HLT.out k hk)))
            clear hw1 hs2 hj hf J7 D7 V7 B7 FB7 H7 H56 hT W1
            go_wp2_with fail
            refine (rows_js b m s2 (puts F1 lb) w8 J8.out.d J8.out.on J8.out.len J8.out.idle.vis).mono ?_
            rintro e w9 ⟨A18, c18, rfl, hv, hb⟩
            have V9 := Aside0.mk (Kd.V_below V8.out hb)
            have U9 := Aside0.mk hv
            have J9 := Aside0.mk (J8.out.below hb)
            have D9 := Aside0.mk (D8.out.below hb)
            have B9 := Aside0.mk (below_step B8.out hb)
            have FB9 := Aside0.mk (Kd.F_mono (Kd.F_bound (Kd.F_below FB8.out hb)) (ok' := fun k => k < w9.heap.size) (fun k hk => hk.2))
            clear hv hb J8 D8 V8 B8 FB8
            go_wp2_with fail
            refine (writes_any b m s2 w9 J9.out.d).mono ?_
            rintro e w9 ⟨rfl, rfl⟩
            have hWT := WT.out
            clear J9 HLT HBM
            go_wp2
            go_loopg [21] 2000 (fun gq v21 wr => ∃ (f : Nat), v21 = .int .i64 f ∧ f ≤ 1000 ∧ Aside0 (gq = 2000 - f) ∧ Aside0 (Below w9.heap.size w9 wr))
            case atStart => exact ⟨0, rfl, by omega, ⟨rfl⟩, ⟨Below.refl _ _⟩⟩
            case round =>
              clear hWT WT
              obtain ⟨f, rfl, hf1000, HG, HB⟩ := hrel
              by_cases hfT : (f : Int) < T
              case neg =>
                go_wp2
                go_ret
                exact ⟨rfl, below_step B9.out HB.out⟩
              have D1 := Aside0.mk (D9.out.below HB.out)
              have V1 := Aside0.mk (Kd.V_below V9.out HB.out)
              have U1 := Aside0.mk (Kd.V_below U9.out HB.out)
              have FB1 := Aside0.mk (Kd.F_below FB9.out HB.out)
              have HSZ := Aside0.mk HB.out.size
              clear D9 V9 U9 FB9
              go_wp2_with fail
              refine (clone_any b2 m2 s1 wr D1.out).mono ?_
              rintro e wa ⟨b3, m3, rfl, hd, hb3, hm3, hb⟩
              have Da := Aside0.mk hd
              have Fa := Aside0.mk (Fr.of_below (S := fun k => wr.heap.size ≤ k) hb)
              have Hb := Aside0.mk (And.intro hb3 hm3)
              clear hd hb3 hm3 hb D1
              go_wp2_with fail
              refine (open_i b3 m3 s1 0 1 F1 wa Da.out S1.out.1 S1.out.2.2.2 (by omega) (by rw [S1.out.2.1]; omega) (by rw [S1.out.2.1]; omega) (by omega) (by omega)).mono ?_
              rintro e wb ⟨jb3, rfl, hjl, hJ, hd, hf⟩
              have hdb : ∀ k, DB b3 m3 k → wr.heap.size ≤ k := fun k hk => by have := Hb.out; rcases hk with rfl | rfl <;> omega
              have Db := Aside0.mk hd
              have Jb := Aside0.mk hJ
              have Fb := Aside0.mk (Fa.out.trans (hf.mono hdb))
              have Hj := Aside0.mk (show wr.heap.size ≤ jb3 from Nat.le_trans Fa.out.size hjl)
              have HDJ := Aside0.mk (show ∀ k, DJ b3 m3 jb3 k → wr.heap.size ≤ k from fun k hk => by
                rcases hk with h | h | h
                · exact hdb k (.inl h)
                · exact hdb k (.inr h)
                · rw [h]; exact Hj.out)
              clear hjl hJ hd hf hdb Da Fa
              go_wp2_with fail
              refine (fuse_any b3 m3 s1 (f : Int) wb Db.out).mono ?_
              rintro e wc ⟨rfl, hd, hf⟩
              obtain ⟨s3, hs3⟩ : ∃ s3, s3 = s1.fuseTo (f : Int) := ⟨_, rfl⟩
              rw [← hs3] at hd
              have hfo := fuseTo_on (n := (f : Int)) S1.out.1
              rw [← hs3] at hfo
              have S3 := Aside0.mk (show s3.off = false ∧ s3.len = 259 ∧ Idle s3 0 1 F1 from ⟨hfo.1, hfo.2.1.trans S1.out.2.1, S1.out.2.2.2.like hfo.2.2⟩)
              have Dc := Aside0.mk hd
              have Jc := Aside0.mk (Jb.out.fr hf (fun e => Jb.out.ne Db.out (.inl e)))
              have Fc := Aside0.mk (Fb.out.trans (hf.mono (fun k hk => HDJ.out k (.inl hk))))
              clear hs3 hd hf hfo Db Jb Fb
              have hmb : mayB s3.len 0 lb = true := by rw [S3.out.2.1]; exact HLB.out
              have FBc := Aside0.mk (Kd.F_step FB1.out (fun k hk hlt => Fc.out.block k hlt (by have := HSZ.out; omega)))
              go_wp2_with fail
              refine (commit_any jb3 b3 m3 s3 0 1 A9 c9 lb wc Jc.out Dc.out S3.out.1 (by omega) (by rw [S3.out.2.1]; omega) (by rw [S3.out.2.1]; omega) (by omega) (by omega) (Kd.F_now FBc.out) (PutsAt.of_F FBc.out (fun k hk e => by have := HDJ.out k e; have := HSZ.out; omega)) (by have := (mayB_spec hmb).n; omega)).mono ?_
              have hcp := commit_plain (l := lb) S3.out.2.2 S3.out.1 (by omega) (by rw [S3.out.2.1]; omega) (by rw [S3.out.2.1]; omega) hmb
              have HMS := Aside0.mk (mayB_spec hmb)
              obtain ⟨cr, hcr⟩ : ∃ x, x = commitR s3 0 1 lb := ⟨_, rfl⟩
              rw [← hcr] at hcp ⊢
              rintro e wd ⟨rfl, hd, hj, hf⟩
              obtain ⟨h, hh⟩ : ∃ h, h = cr.2.1 := ⟨_, rfl⟩
              rw [← hh]
              have S4 := Aside0.mk (show cr.1.len = 259 ∧ (h = 0 ∨ h = 2) ∧ ((h = 0 ∧ Idle cr.1 0 2 (puts F1 lb)) ∨ (h = 2 ∧ OSt cr.1 0 1 F1 lb true)) from by
                refine ⟨hcp.1.trans S3.out.2.1, ?_, ?_⟩
                · rcases hcp.2 with ⟨e0, _⟩ | ⟨e0, _⟩
                  · exact .inl (hh.trans e0)
                  · exact .inr (hh.trans e0)
                · rcases hcp.2 with ⟨e0, _, _, e3⟩ | ⟨e0, _, e3⟩
                  · exact .inl ⟨hh.trans e0, e3⟩
                  · refine .inr ⟨hh.trans e0, ?_⟩
                    rcases e3 with e3 | e3
                    · exact .inl e3
                    · exact .inr ⟨rfl, e3.may, .inl e3⟩)
              have Dd := Aside0.mk hd
              have Fd := Aside0.mk (Fc.out.trans (hf.mono HDJ.out))
              clear hcp hcr hd hj hf hh hmb HMS Dc Jc Fc FBc S3
              go_wp2_with fail
              refine (boot_any b3 m3 cr.1 wd Dd.out).mono ?_
              rintro e we ⟨rfl, hd, hf⟩
              obtain ⟨s5, hs5⟩ : ∃ s5, s5 = cr.1.boot := ⟨_, rfl⟩
              rw [← hs5] at hd
              have S5 := Aside0.mk (show s5.off = false ∧ s5.fuse = -1 ∧ s5.len = 259 ∧ ((h = 0 ∧ Idle s5 0 2 (puts F1 lb)) ∨ (h = 2 ∧ OSt s5 0 1 F1 lb true)) from by
                rw [hs5]
                refine ⟨rfl, rfl, S4.out.1, ?_⟩
                rcases S4.out.2.2 with ⟨e0, e1⟩ | ⟨e0, e1⟩
                · exact .inl ⟨e0, e1.like rfl⟩
                · exact .inr ⟨e0, e1.like rfl rfl⟩)
              have H02 := Aside0.mk S4.out.2.1
              have De := Aside0.mk hd
              have Fe := Aside0.mk (Fd.out.trans (hf.mono (fun k hk => HDJ.out k (.inl hk))))
              clear hs5 hd hf Dd Fd S4
              go_wp2_with fail
              refine (open_s b3 m3 s5 F1 lb h we De.out S5.out.1 S5.out.2.1 S5.out.2.2.1 S5.out.2.2.2).mono ?_
              rintro e wf ⟨jb4, s6, g, G, rfl, hjl, hd, hon6, hl6, hi6, hJ, hf, halt⟩
              have S6 := Aside0.mk (And.intro hon6 (And.intro (hl6.trans S5.out.2.2.1) hi6))
              have Df := Aside0.mk hd
              have Jf := Aside0.mk hJ
              have Ff := Aside0.mk (Fe.out.trans (hf.mono (fun k hk => HDJ.out k (hk.elim .inl (fun h => .inr (.inl h))))))
              have HA := Aside0.mk halt
              clear hjl hd hon6 hl6 hi6 hJ hf halt De Fe S5
              go_upto_region 37 with (fail)
              go_cut [183] (fun s183 wx => s183 = .bool false ∧ wx = wf)
              case first =>
                rcases H02.out with rfl | rfl
                · go_wp2
                  go_meet
                  case rel => exact ⟨rfl, rfl⟩
                · go_wp2
                  go_meet
                  case rel => exact ⟨rfl, rfl⟩
              obtain ⟨rfl, hwc⟩ := hcut
              rw [hwc]
              clear hwc wc
              have H2 := H02
              clear H02
              go_wp2_with fail
              refine (rows_js b3 m3 s6 G wf Df.out S6.out.1 S6.out.2.1 S6.out.2.2.vis).mono ?_
              rintro e wg ⟨A26, c26, rfl, hv, hb⟩
              have X7 := Aside0.mk hv
              have Jg := Aside0.mk (Jf.out.below hb)
              have Fg := Aside0.mk (Ff.out.trans (Fr.of_below hb))
              clear hv hb Jf Ff Df S6
              have V7 := Aside0.mk (Kd.V_step (Kd.V_bound (Kd.V_mono (Kd.V_bound V1.out) (ok' := fun k => k < wr.heap.size) (fun k hk => hk.2))) (fun k hk hlt => Fg.out.block k hlt (by have := hk.1; omega)))
              have U7 := Aside0.mk (Kd.V_step (Kd.V_bound (Kd.V_mono (Kd.V_bound U1.out) (ok' := fun k => k < wr.heap.size) (fun k hk => hk.2))) (fun k hk hlt => Fg.out.block k hlt (by have := hk.1; omega)))
              clear V1 U1
              go_wp2_with fail
              refine (same_js A26 c26 G A13 c13 F1 _ _ wg X7.out V7.out).mono ?_
              rintro e wh ⟨r1, rfl, hr1, hb⟩
              have X8 := Aside0.mk (Kd.V_below X7.out hb)
              have U8 := Aside0.mk (Kd.V_below U7.out hb)
              have Jh := Aside0.mk (Jg.out.below hb)
              have Fh := Aside0.mk (Fg.out.trans (Fr.of_below hb))
              have R1 := Aside0.mk hr1
              clear hb X7 U7 V7 Jg Fg hr1
              go_wp2_with fail
              refine (same_js A26 c26 G A18 c18 (puts F1 lb) _ _ wh X8.out U8.out).mono ?_
              rintro e wi ⟨r2, rfl, hr2, hb⟩
              have Ji := Aside0.mk (Jh.out.below hb)
              have Bi := Aside0.mk (HB.out.trans (Fr.below (Fh.out.trans (Fr.of_below hb)) HB.out.size (fun k hk => by have := HSZ.out; omega)))
              have R2 := Aside0.mk hr2
              clear hb X8 U8 Jh Fh hr2
              go_wp2_with fail
              refine (groups_any jb4 b3 0 g wi Ji.out).mono ?_
              rintro e wi ⟨rfl, rfl⟩
              clear Ji FB1 HDJ Hj Hb
              have hq40 : IntKind.i64.wrap (T / 40) = T / 40 := IntWalk.i64_in _ (by omega)
              have HF := Aside0.mk (show ∃ f' : Nat, (f' : Int) = (f : Int) + 1 + T / 40 ∧ f < f' ∧ f' ≤ 1000 from ⟨((f : Int) + 1 + T / 40).toNat, by omega, by omega, by omega⟩)
              obtain ⟨f', hf', hf1, hf2⟩ := HF.out
              have HFF := Aside0.mk (And.intro hf' (And.intro hf1 hf2))
              clear HF hf' hf1 hf2
              rcases HA.out with ⟨rfl, hG, rfl⟩ | ⟨rfl, hG⟩
              case inl =>
                obtain rfl := R1.out hG
                clear hG HA R1 R2
                cases r2
                case false =>
                  go_wp2
                  go_roundg (2000 - f')
                  case measure => have := HG.out; have := HFF.out; omega
                  case rel => exact ⟨f', by rw [HFF.out.1], HFF.out.2.2, ⟨rfl⟩, Bi⟩
                case true =>
                  go_wp2
                  go_roundg (2000 - f')
                  case measure => have := HG.out; have := HFF.out; omega
                  case rel => exact ⟨f', by rw [HFF.out.1], HFF.out.2.2, ⟨rfl⟩, Bi⟩
              case inr =>
                obtain rfl := R2.out hG
                clear hG HA R1 R2
                rcases H2.out with rfl | rfl
                case inl =>
                  cases r1
                  case false =>
                    go_wp2
                    go_roundg (2000 - f')
                    case measure => have := HG.out; have := HFF.out; omega
                    case rel => exact ⟨f', by rw [HFF.out.1], HFF.out.2.2, ⟨rfl⟩, Bi⟩
                  case true =>
                    go_wp2
                    go_roundg (2000 - f')
                    case measure => have := HG.out; have := HFF.out; omega
                    case rel => exact ⟨f', by rw [HFF.out.1], HFF.out.2.2, ⟨rfl⟩, Bi⟩
                case inr =>
                  cases r1
                  case false =>
                    go_wp2
                    go_roundg (2000 - f')
                    case measure => have := HG.out; have := HFF.out; omega
                    case rel => exact ⟨f', by rw [HFF.out.1], HFF.out.2.2, ⟨rfl⟩, Bi⟩
                  case true =>
                    go_wp2
                    go_roundg (2000 - f')
                    case measure => have := HG.out; have := HFF.out; omega
                    case rel => exact ⟨f', by rw [HFF.out.1], HFF.out.2.2, ⟨rfl⟩, Bi⟩
end Go.Proofs.Ytmfndobdkihbnaa.Dk
