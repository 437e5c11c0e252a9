/-
  The document's examples, as the statements show them first.
-/
import Derived.Test.YtmfndobdkihbnaaJn
namespace Go.Proofs.Ytmfndobdkihbnaa.Dk
open Go.RowKit Go.MapKept Go.Proofs.YtmfndobdkihbnaaW.PrintWords Go.Proofs.YtmfndobdkihbnaaW.PrintLast Go.Proofs.YtmfndobdkihbnaaW.PrintMore
set_option linter.unusedVariables false
set_option linter.unusedSimpArgs false

theorem F_puts1 {W : World} {ok : Nat → Prop} {q : Nat} {x : Int} {A : Option Addr} {c : Nat} {bs : List Int} (h : W.heap[q]? = some (.cells #[.int .i64 x, .slice A bs.length c] 40 (0, 0))) (hq : ok q) (hl : bs.length ≤ c) (hF : Kd.F (Kd.int .u8) W ok A bs.length bs) :
    Kd.F kP W ok (some ⟨q, 0, none⟩) 1 [(x, bs)] := fun W' hW => by
  have h' := (hW q hq (blk_lt h)).trans h
  refine ⟨rfl, by decide, fun _ => ⟨_, rfl, fun j p hj => ?_⟩⟩
  match j, hj with
  | 0, hj =>
    simp at hj
    subst hj
    refine ⟨[.int .i64 x, .slice A bs.length c], rfl, ⟨[.int .i64 x], [.slice A bs.length c], rfl, rfl, ⟨A, c, rfl, hl, hF W' hW⟩⟩, fun i u hu => ?_⟩
    rw [Addr.add_mid, Nat.zero_add]
    refine heap_cell h' _ u ?_
    match i, hu with
    | 0, hu => simpa using hu
    | 1, hu => simpa using hu
theorem F_puts2 {W : World} {ok : Nat → Prop} {q : Nat} {x y : Int} {A B : Option Addr} {c d : Nat} {bs es : List Int} (h : W.heap[q]? = some (.cells #[.int .i64 x, .slice A bs.length c, .int .i64 y, .slice B es.length d] 40 (0, 0))) (hq : ok q) (hl : bs.length ≤ c) (hF : Kd.F (Kd.int .u8) W ok A bs.length bs) (hl2 : es.length ≤ d) (hF2 : Kd.F (Kd.int .u8) W ok B es.length es) :
    Kd.F kP W ok (some ⟨q, 0, none⟩) 2 [(x, bs), (y, es)] := fun W' hW => by
  have h' := (hW q hq (blk_lt h)).trans h
  refine ⟨rfl, by decide, fun _ => ⟨_, rfl, fun j p hj => ?_⟩⟩
  match j, hj with
  | 0, hj =>
    simp at hj
    subst hj
    refine ⟨[.int .i64 x, .slice A bs.length c], rfl, ⟨[.int .i64 x], [.slice A bs.length c], rfl, rfl, ⟨A, c, rfl, hl, hF W' hW⟩⟩, fun i u hu => ?_⟩
    rw [Addr.add_mid, Nat.zero_add]
    refine heap_cell h' _ u ?_
    match i, hu with
    | 0, hu => simpa using hu
    | 1, hu => simpa using hu
  | 1, hj =>
    simp at hj
    subst hj
    refine ⟨[.int .i64 y, .slice B es.length d], rfl, ⟨[.int .i64 y], [.slice B es.length d], rfl, rfl, ⟨B, d, rfl, hl2, hF2 W' hW⟩⟩, fun i u hu => ?_⟩
    rw [Addr.add_mid, Nat.zero_add, show kP.sz = 2 from rfl]
    refine heap_cell h' _ u ?_
    match i, hu with
    | 0, hu => simpa using hu
    | 1, hu => simpa using hu

/-- A journal on a disk that is on and has no fuse; none of its groups is at hand. -/
structure JS (W : World) (b m jb : Nat) (s : FS) (at_ g : Int) (F : Int → List Int) (N : Int) : Prop where
  d : DiskIs W b m s
  j : JIs W jb b at_ g
  on : s.off = false
  len : s.len = N
  fuse : s.fuse = -1
  idle : Idle s at_ g F
theorem JS.below {W W' : World} {b m jb : Nat} {s : FS} {at_ g : Int} {F : Int → List Int} {N : Int} (h : JS W b m jb s at_ g F N) (hb : Below W.heap.size W W') : JS W' b m jb s at_ g F N := ⟨h.d.below hb, h.j.below hb, h.on, h.len, h.fuse, h.idle⟩
theorem JS.lt {W : World} {b m jb : Nat} {s : FS} {at_ g : Int} {F : Int → List Int} {N : Int} (h : JS W b m jb s at_ g F N) : ∀ k, W.heap.size ≤ k → ¬ DJ b m jb k := fun k hk e => by
  have a1 := h.d.lt
  have a2 := h.d.2.1.lt
  have a3 := blk_lt h.j
  rcases e with e | e | e <;> omega
theorem commit_js {W : World} {b m jb : Nat} {s : FS} {at_ g : Int} {F : Int → List Int} {N : Int} (h : JS W b m jb s at_ g F N) (h0 : 0 ≤ at_) (h1 : at_ + 199 ≤ N) (h2 : N ≤ 4096) (hg0 : 0 ≤ g) (hg1 : g ≤ 1000000)
    {ok : Nat → Prop} {A : Option Addr} {c : Nat} {l : List PutT} (hF : Kd.F kP W ok A l.length l) (hok : ∀ k, ok k → ¬ DJ b m jb k) (hm : mayB N at_ l = true) :
    Calls Try.prog 11 #[.pointer (some ⟨jb, 0, none⟩), .slice A l.length c] W fun e w' => e = .returned (.int .i64 0) ∧ (∃ s', JS w' b m jb s' at_ (g + 1) (puts F l) N) ∧ Fr (DJ b m jb) W w' := by
  have hM := mayB_spec hm
  have hn := hM.n
  refine (commit_any jb b m s at_ g A c l W h.j h.d h.on h0 (by rw [h.len]; exact h1) (by rw [h.len]; exact h2) hg0 hg1 (Kd.F_now hF) (PutsAt.of_F hF hok) (by omega)).mono ?_
  rintro e w' ⟨rfl, hd, hj, hf⟩
  have hm' : mayB s.len at_ l = true := by rw [h.len]; exact hm
  obtain ⟨p1, p2⟩ := commit_plain h.idle h.on h0 (by rw [h.len]; exact h1) (by rw [h.len]; exact h2) hm'
  obtain ⟨q1, q2⟩ := commit_free (g := g) h.fuse h.on h0 (by rw [h.len]; exact h1) hm'
  rcases p2 with ⟨r1, r2, r3, r4⟩ | ⟨r1, _⟩
  · refine ⟨by rw [r1], ⟨_, hd, by rw [r3] at hj; exact hj, r2, by rw [p1, h.len], q2, r4⟩, hf⟩
  · rw [q1] at r1; cases r1
theorem commit_js_bad {W : World} {b m jb : Nat} {s : FS} {at_ g : Int} {F : Int → List Int} {N : Int} (h : JS W b m jb s at_ g F N) (h0 : 0 ≤ at_) (h1 : at_ + 199 ≤ N) (h2 : N ≤ 4096) (hg0 : 0 ≤ g) (hg1 : g ≤ 1000000)
    {ok : Nat → Prop} {A : Option Addr} {c : Nat} {l : List PutT} (hF : Kd.F kP W ok A l.length l) (hok : ∀ k, ok k → ¬ DJ b m jb k) (hn : l.length ≤ 9223372036854775807) (hm : mayB N at_ l = false) :
    Calls Try.prog 11 #[.pointer (some ⟨jb, 0, none⟩), .slice A l.length c] W fun e w' => e = .returned (.int .i64 20) ∧ JS w' b m jb s at_ g F N ∧ Fr (DJ b m jb) W w' := by
  refine (commit_any jb b m s at_ g A c l W h.j h.d h.on h0 (by rw [h.len]; exact h1) (by rw [h.len]; exact h2) hg0 hg1 (Kd.F_now hF) (PutsAt.of_F hF hok) hn).mono ?_
  rintro e w' ⟨rfl, hd, hj, hf⟩
  have hc : commitR s at_ g l = (s, 20, g) := commit_no (by rw [h.len]; exact hm)
  rw [hc] at hd hj ⊢
  exact ⟨rfl, ⟨hd, hj, h.on, h.len, h.fuse, h.idle⟩, hf⟩
theorem open_js {W : World} {b m : Nat} {s : FS} {at_ g : Int} {F : Int → List Int} {N : Int} (hd : DiskIs W b m s) (hon : s.off = false) (hlen : s.len = N) (hfu : s.fuse = -1) (hi : Idle s at_ g F) (h0 : 0 ≤ at_) (h1 : at_ + 199 ≤ N) (h2 : N ≤ 4096) (hg0 : 0 ≤ g) (hg1 : g ≤ 1000000) :
    Calls Try.prog 9 #[.pointer (some ⟨b, 0, none⟩), .int .i64 at_] W fun e w' => ∃ jb, e = .returned (.tuple #[.pointer (some ⟨jb, 0, none⟩), .int .i64 0]) ∧ W.heap.size ≤ jb ∧ JS w' b m jb s at_ g F N ∧ Fr (DB b m) W w' := by
  refine (open_any b m s at_ g [] W hd hon h0 (by rw [hlen]; exact h1) (by rw [hlen]; exact h2) hg0 hg1 (by decide) hi.head (fun i x bs h => by simp at h)).mono ?_
  rintro e w' ⟨hd', hf, ho⟩
  rcases ho with ⟨_, jb, rfl, hj, hJ⟩ | ⟨hne, _⟩
  case inr => exact absurd rfl hne
  exact ⟨jb, rfl, hj, ⟨hd', hJ, hon, hlen, hfu, hi⟩, hf⟩
theorem groundF (at_ : Int) (h0 : 0 ≤ at_) (h1 : at_ ≤ 60) : Idle (groundS at_) at_ 0 (fun _ => zeros) := by
  obtain ⟨g1, g2, g3, g4, g5⟩ := ground_write at_ h0 h1
  refine ⟨by rw [g5]; simp [upd], fun k hk => ?_⟩
  rw [g5]
  unfold upd
  rw [if_neg (fun e => hk ⟨by omega, by omega⟩)]
theorem ground_js (at_ : Int) (w : World) (h0 : 0 ≤ at_) (h1 : at_ ≤ 60) :
    Calls Try.prog 15 #[.int .i64 at_] w fun e w' => ∃ b m jb, e = .returned (.tuple #[.pointer (some ⟨b, 0, none⟩), .pointer (some ⟨jb, 0, none⟩)]) ∧ JS w' b m jb (groundS at_) at_ 0 (fun _ => zeros) 259 ∧ w.heap.size ≤ b ∧ w.heap.size ≤ m ∧ w.heap.size ≤ jb ∧ Below w.heap.size w w' := by
  refine (ground_any at_ w h0 h1).mono ?_
  rintro e w1 ⟨b, m, jb, rfl, hd, hj, a, b', c, hb⟩
  obtain ⟨g1, g2, g3, g4, g5⟩ := ground_write at_ h0 h1
  exact ⟨b, m, jb, rfl, ⟨hd, hj, g3, g2, g4, groundF at_ h0 h1⟩, a, b', c, hb⟩
theorem write_zero {s : FS} {i : Int} {bs : List Int} (hf : s.fuse = 0) (hon : s.off = false) (h0 : 0 ≤ i) (h1 : i < s.len) (h2 : bs.length = 64) : s.write i bs = ({ s with off := true, fuse := -1 }, 2) := by
  unfold FS.write
  rw [if_pos (check_on hon h0 h1), if_pos h2, if_pos hf]
theorem wrs_zero {s : FS} {x : PutT} {r : List PutT} (hf : s.fuse = 0) (hon : s.off = false) (hv : Valid s.len (x :: r)) : wrs s (x :: r) = ({ s with off := true, fuse := -1 }, 2) := by
  obtain ⟨h0, h1, h2⟩ := hv x (List.mem_cons_self ..)
  rw [show x = (x.1, x.2) from rfl, wrs_no (by rw [write_zero hf hon h0 h1 h2]; exact (by decide : (2 : Int) ≠ 0))]
  exact write_zero hf hon h0 h1 h2
theorem wrs_zero' {s : FS} {l : List PutT} (hl : 0 < l.length) (hf : s.fuse = 0) (hon : s.off = false) (hv : Valid s.len l) : wrs s l = ({ s with off := true, fuse := -1 }, 2) := by
  cases l with
  | nil => simp at hl
  | cons x r => exact wrs_zero hf hon hv
theorem commit_zero {s : FS} {at_ g : Int} {l : List PutT} (hf : s.fuse = 0) (hon : s.off = false) (h0 : 0 ≤ at_) (h1 : at_ + 199 ≤ s.len) (hm : mayB s.len at_ l = true) : commitR s at_ g l = ({ s with off := true, fuse := -1 }, 2, g) := by
  have hM := mayB_spec hm
  have e := wrs_zero' (by rw [preW_len]; omega) hf hon (preW_valid (g := g) hM h0 h1)
  unfold commitR
  rw [if_pos hm, e, if_neg (show ¬ (2 : Int) = 0 by decide)]
/-- Bytes of the call's own, by their blocks. -/
theorem full_F {w w1 w' : World} {B c : Nat} {A : Option Addr} {bs : List Int} (hr : Kd.R (Kd.int .u8) 5 w1 w.heap.size (fun _ => True) (.slice A bs.length c) bs) (hb : Below w1.heap.size w1 w') (hB : B ≤ w.heap.size) : bs.length ≤ c ∧ Kd.F (Kd.int .u8) w' (fun k => B ≤ k) A bs.length bs :=
  ⟨(Kd.R_reads' hr).2.1, Kd.F_below (Kd.F_mono (Kd.R_F (Kd.R_bound hr)) (fun k hk => Nat.le_trans hB hk.2.1)) hb⟩

def l1S : List PutT := [(220, fullB 1 1), (221, fullB 2 2)]
def l2S : List PutT := [(220, fullB 1 1), (220, fullB 1 1)]
def l3S : List PutT := [(5, fullB 1 1)]
def l4S : List PutT := [(220, fullB 3 3)]
theorem m1S : mayB 259 0 l1S = true := by decide +kernel
theorem m2S : mayB 259 0 l2S = false := by decide +kernel
theorem m3S : mayB 259 0 l3S = false := by decide +kernel
theorem m4S : mayB 259 0 l4S = true := by decide +kernel

set_option maxHeartbeats 8000000 in
set_option maxRecDepth 100000 in
theorem shown_any (w : World) : Calls Try.prog 6 #[] w fun e w' => e = .returned (.bool true) ∧ Below w.heap.size w w' := by
  go_enter Try.func6, Try.ntmps6
  go_wp2_with fail
  refine (ground_js 0 w (by omega) (by omega)).mono ?_
  rintro e w1 ⟨b, m, jb, rfl, hj, h1, h2, h3, hb⟩
  have J1 := Aside0.mk hj
  have L1 := Aside0.mk (And.intro h1 (And.intro h2 h3))
  have B1 := Aside0.mk hb
  clear hj h1 h2 h3 hb
  -- the first group
  go_wp2_with fail
  refine (full_any 1 1 w1).mono ?_
  rintro e w2 ⟨v1, rfl, hr, hb⟩
  obtain ⟨A1, c1, rfl⟩ := Kd.R_slice hr
  have R2 := Aside0.mk hr
  have B2 := Aside0.mk hb
  clear hr hb
  go_wp2_with fail
  refine (full_any 2 2 w2).mono ?_
  rintro e w3 ⟨v2, rfl, hr, hb⟩
  obtain ⟨A2, c2, rfl⟩ := Kd.R_slice hr
  have R3 := Aside0.mk hr
  have B3 := Aside0.mk hb
  clear hr hb
  go_wp2_with fail
  obtain ⟨w4, hw4⟩ : ∃ w4, w4 = w3.alloc (Obj.cells #[.int .i64 220, .slice A1 (fullB 1 1).length c1, .int .i64 221, .slice A2 (fullB 2 2).length c2] 40) := ⟨_, rfl⟩
  have hb4 : Below w3.heap.size w3 w4 := by rw [hw4]; exact (Below.refl _ w3).alloc (Nat.le_refl _) _
  have hh4 : w4.heap[w3.heap.size]? = some (.cells #[.int .i64 220, .slice A1 (fullB 1 1).length c1, .int .i64 221, .slice A2 (fullB 2 2).length c2] 40 (0, 0)) := by rw [hw4]; exact Go.heap_alloc_new _ _
  rw [← hw4]
  obtain ⟨f1, f2⟩ := full_F R2.out (below_step B3.out hb4) (Nat.le_refl _)
  obtain ⟨f3, f4⟩ := full_F R3.out hb4 B2.out.size
  have hb13 := below_step B2.out B3.out
  have hb14 := below_step hb13 hb4
  have HF := Aside0.mk (F_puts2 (ok := fun k => w1.heap.size ≤ k) hh4 hb13.size f1 f2 f3 f4)
  have J4 := Aside0.mk (J1.out.below hb14)
  have HLT := Aside0.mk J1.out.lt
  have B4 := Aside0.mk (Fr.of_below (S := DJ b m jb) hb14)
  clear hb13 hb14 hb4 hh4 hw4 R2 R3 B2 B3 f1 f2 f3 f4 J1
  refine (commit_js J4.out (by omega) (by omega) (by omega) (by omega) (by omega) (l := l1S) HF.out HLT.out m1S).mono ?_
  rintro e w5 ⟨rfl, ⟨s5, hj⟩, hf⟩
  have J5 := Aside0.mk hj
  have B5 := Aside0.mk (B4.out.trans hf)
  clear hj hf HF J4 B4 HLT
  go_wp2_with fail
  refine (full_any 1 1 w5).mono ?_
  rintro e w6 ⟨v0, rfl, hr, hb⟩
  obtain ⟨A0, c0, rfl⟩ := Kd.R_slice hr
  have R6 := Aside0.mk hr
  have B6 := Aside0.mk hb
  clear hr hb
  go_wp2_with fail
  refine (full_any 1 1 w6).mono ?_
  rintro e w7 ⟨v1, rfl, hr, hb⟩
  obtain ⟨A1, c1, rfl⟩ := Kd.R_slice hr
  have R7 := Aside0.mk hr
  have B7 := Aside0.mk hb
  clear hr hb
  go_wp2_with fail
  obtain ⟨w8, hw4⟩ : ∃ w4, w4 = w7.alloc (Obj.cells #[.int .i64 220, .slice A0 (fullB 1 1).length c0, .int .i64 220, .slice A1 (fullB 1 1).length c1] 40) := ⟨_, rfl⟩
  have hb4 : Below w7.heap.size w7 w8 := by rw [hw4]; exact (Below.refl _ w7).alloc (Nat.le_refl _) _
  have hh4 : w8.heap[w7.heap.size]? = some (.cells #[.int .i64 220, .slice A0 (fullB 1 1).length c0, .int .i64 220, .slice A1 (fullB 1 1).length c1] 40 (0, 0)) := by rw [hw4]; exact Go.heap_alloc_new _ _
  rw [← hw4]
  obtain ⟨f1, f2⟩ := full_F R6.out (below_step B7.out hb4) (Nat.le_refl _)
  obtain ⟨f3, f4⟩ := full_F R7.out hb4 B6.out.size
  have hb13 := below_step B6.out B7.out
  have hb14 := below_step hb13 hb4
  have HF := Aside0.mk (F_puts2 (ok := fun k => w5.heap.size ≤ k) hh4 hb13.size f1 f2 f3 f4)
  have J8 := Aside0.mk (J5.out.below hb14)
  have HLT := Aside0.mk J5.out.lt
  have B8 := Aside0.mk (B5.out.trans (Fr.of_below (S := DJ b m jb) hb14))
  clear J5 B5
  clear hb13 hb14 hb4 hh4 hw4 R6 R7 B6 B7 f1 f2 f3 f4
  refine (commit_js_bad J8.out (by omega) (by omega) (by omega) (by omega) (by omega) (l := l2S) HF.out HLT.out (by decide) m2S).mono ?_
  rintro e w9 ⟨rfl, hj, hf⟩
  have J9 := Aside0.mk hj
  have B9 := Aside0.mk (B8.out.trans hf)
  clear hj hf HF J8 B8 HLT
  go_wp2_with fail
  refine (full_any 1 1 w9).mono ?_
  rintro e w10 ⟨v0, rfl, hr, hb⟩
  obtain ⟨A0, c0, rfl⟩ := Kd.R_slice hr
  have R10 := Aside0.mk hr
  have B10 := Aside0.mk hb
  clear hr hb
  go_wp2_with fail
  obtain ⟨w11, hw4⟩ : ∃ w4, w4 = w10.alloc (Obj.cells #[.int .i64 5, .slice A0 (fullB 1 1).length c0] 40) := ⟨_, rfl⟩
  have hb4 : Below w10.heap.size w10 w11 := by rw [hw4]; exact (Below.refl _ w10).alloc (Nat.le_refl _) _
  have hh4 : w11.heap[w10.heap.size]? = some (.cells #[.int .i64 5, .slice A0 (fullB 1 1).length c0] 40 (0, 0)) := by rw [hw4]; exact Go.heap_alloc_new _ _
  rw [← hw4]
  obtain ⟨f1, f2⟩ := full_F R10.out hb4 (Nat.le_refl _)
  have hb13 := B10.out
  have hb14 := below_step hb13 hb4
  have HF := Aside0.mk (F_puts1 (ok := fun k => w9.heap.size ≤ k) hh4 hb13.size f1 f2)
  have J11 := Aside0.mk (J9.out.below hb14)
  have HLT := Aside0.mk J9.out.lt
  have B11 := Aside0.mk (B9.out.trans (Fr.of_below (S := DJ b m jb) hb14))
  clear J9 B9
  clear hb13 hb14 hb4 hh4 hw4 R10 B10 f1 f2
  refine (commit_js_bad J11.out (by omega) (by omega) (by omega) (by omega) (by omega) (l := l3S) HF.out HLT.out (by decide) m3S).mono ?_
  rintro e w12 ⟨rfl, hj, hf⟩
  have J12 := Aside0.mk hj
  have B12 := Aside0.mk (B11.out.trans hf)
  clear hj hf HF J11 B11 HLT
  go_wp2_with fail
  refine (groups_any jb b 0 1 w12 J12.out.j).mono ?_
  rintro e w13 ⟨rfl, rfl⟩
  have J13 := J12
  have B13 := B12
  clear J12 B12
  go_wp2_with fail
  refine (fuse_any b m s5 0 w13 J13.out.d).mono ?_
  rintro e w14 ⟨rfl, hd, hf⟩
  have hs6 : s5.fuseTo 0 = { s5 with fuse := 0 } := by unfold FS.fuseTo; rw [J13.out.on, if_neg (by decide)]; rfl
  rw [hs6] at hd
  have D14 := Aside0.mk hd
  have K14 := Aside0.mk (J13.out.j.fr hf (fun e => J13.out.j.ne J13.out.d (.inl e)))
  have B14 := Aside0.mk (B13.out.trans (hf.mono (fun k h => .inl h)))
  have S5 := Aside0.mk (And.intro J13.out.on (And.intro J13.out.len J13.out.idle))
  clear hd hf hs6 J13 B13
  go_wp2_with fail
  refine (full_any 3 3 w14).mono ?_
  rintro e w15 ⟨v0, rfl, hr, hb⟩
  obtain ⟨A0, c0, rfl⟩ := Kd.R_slice hr
  have R15 := Aside0.mk hr
  have B15 := Aside0.mk hb
  clear hr hb
  go_wp2_with fail
  obtain ⟨w16, hw4⟩ : ∃ w4, w4 = w15.alloc (Obj.cells #[.int .i64 220, .slice A0 (fullB 3 3).length c0] 40) := ⟨_, rfl⟩
  have hb4 : Below w15.heap.size w15 w16 := by rw [hw4]; exact (Below.refl _ w15).alloc (Nat.le_refl _) _
  have hh4 : w16.heap[w15.heap.size]? = some (.cells #[.int .i64 220, .slice A0 (fullB 3 3).length c0] 40 (0, 0)) := by rw [hw4]; exact Go.heap_alloc_new _ _
  rw [← hw4]
  obtain ⟨f1, f2⟩ := full_F R15.out hb4 (Nat.le_refl _)
  have hb13 := B15.out
  have hb14 := below_step hb13 hb4
  have HF := Aside0.mk (F_puts1 (ok := fun k => w14.heap.size ≤ k) hh4 hb13.size f1 f2)
  have D16 := Aside0.mk (D14.out.below hb14)
  have K16 := Aside0.mk (K14.out.below hb14)
  have HLT := Aside0.mk (show ∀ k, w14.heap.size ≤ k → ¬ DJ b m jb k from fun k hk e => by have a1 := D14.out.lt; have a2 := D14.out.2.1.lt; have a3 := blk_lt K14.out; rcases e with e | e | e <;> omega)
  have B16 := Aside0.mk (B14.out.trans (Fr.of_below (S := DJ b m jb) hb14))
  clear D14 K14 B14
  clear hb13 hb14 hb4 hh4 hw4 R15 B15 f1 f2
  have hcz := commit_zero (s := { s5 with fuse := 0 }) (at_ := 0) (g := 1) (l := l4S) rfl S5.out.1 (by omega) (by show _ ≤ s5.len; rw [S5.out.2.1]; omega) (by show mayB s5.len 0 l4S = true; rw [S5.out.2.1]; exact m4S)
  have hca := fun A c hF => commit_any jb b m { s5 with fuse := 0 } 0 1 A c l4S w16 K16.out D16.out S5.out.1 (by omega) (by show _ ≤ s5.len; rw [S5.out.2.1]; omega) (by show s5.len ≤ _; rw [S5.out.2.1]; omega) (by omega) (by omega) (Kd.F_now (ok := fun k => w14.heap.size ≤ k) hF) (PutsAt.of_F hF HLT.out) (by decide)
  rw [hcz] at hca
  refine (hca _ _ HF.out).mono ?_
  clear hca hcz
  rintro e w17 ⟨rfl, hd, hj, hf⟩
  have D17 := Aside0.mk hd
  have B17 := Aside0.mk (B16.out.trans hf)
  clear hd hj hf HF D16 K16 B16 HLT
  go_wp2_with fail
  refine (boot_any b m _ w17 D17.out).mono ?_
  rintro e w18 ⟨rfl, hd, hf⟩
  obtain ⟨s7, hs7⟩ : ∃ s7 : FS, s7 = { s5 with off := false, fuse := -1 } := ⟨_, rfl⟩
  have hd' : DiskIs w18 b m s7 := by rw [hs7]; exact hd
  have S7 := Aside0.mk (show s7.off = false ∧ s7.len = 259 ∧ s7.fuse = -1 ∧ Idle s7 0 1 (puts (fun _ => zeros) l1S) from by rw [hs7]; exact ⟨rfl, S5.out.2.1, rfl, ⟨S5.out.2.2.head, S5.out.2.2.vis⟩⟩)
  have D18 := Aside0.mk hd'
  have B18 := Aside0.mk (B17.out.trans (hf.mono (fun k h => .inl h)))
  clear hd hf hd' hs7 D17 B17
  go_wp2_with fail
  refine (open_js D18.out S7.out.1 S7.out.2.1 S7.out.2.2.1 S7.out.2.2.2 (by omega) (by omega) (by omega) (by omega) (by omega)).mono ?_
  rintro e w19 ⟨jb2, rfl, hjl, hj, hf⟩
  have J19 := Aside0.mk hj
  have B19 := Aside0.mk (B18.out.trans (DB.to hf))
  clear hjl hj hf D18 B18
  have hck := check_on (i := 220) S7.out.1 (by omega) (by rw [S7.out.2.1]; omega)
  have h220 : s7.has 220 = fullB 1 1 := by rw [S7.out.2.2.2.vis 220 (by unfold Own; omega)]; simp [l1S, puts, upd]
  have HC := Aside0.mk (And.intro hck h220)
  clear hck h220
  go_wp2_with fail
  refine (read_on b m s7 220 w19 J19.out.d HC.out.1).mono ?_
  rintro e w20 ⟨rfl, hq, hb⟩
  rw [HC.out.2] at hq
  obtain ⟨q, hqq⟩ : ∃ q, q = w19.heap.size := ⟨_, rfl⟩
  rw [← hqq] at hq ⊢
  have Q20 := Aside0.mk hq
  have J20 := Aside0.mk (J19.out.below hb)
  have B20 := Aside0.mk (Fr.trans B19.out (Fr.of_below hb))
  clear hq hb hqq J19 B19
  go_upto_region 15 with (fail)
  have hcv : ∀ w', BytesAt w' (some ⟨q, 0, none⟩) (fullB 1 1) → (convert 37 9 (.slice (some ⟨q, 0, none⟩) 64 64)).run Try.prog w' = .ok (.string (strB (fullB 1 1))) w' := fun w' h => conv_bytes h 64
  have hY := read_bytes Q20.out (by decide)
  have hbeq : ((strB (fullB 1 1)).toList == (strB (fullB 1 1)).toList) = true := by simp
  refine start_ (n := 39) (S := fun w' => BytesAt w' (some ⟨q, 0, none⟩) (fullB 1 1)) (ds := []) #[false, false, false, false, false, false, false, false, false, false, false, false, false, false, false, false, false, false, false, false, false, false, false, false, false, false, false, false, false, false, false, false, false, false, false, false, false, false, false] (by kernel_rfl) rfl rfl (hY) (fun hHeld => ?_)
  refine pure_ (i := 0) (N := some 60) (v := ?_) (a' := ?_) #[true, false, false, false, false, false, false, false, false, false, false, false, false, false, false, false, false, false, false, false, false, false, false, false, false, false, false, false, false, false, false, false, false, false, false, false, false, false, false] rfl rfl (by kernel_rfl) (fun _ _ _ h => h) (Or.inl ⟨by rfl, ?_⟩) ?_ ?_
  rotate_left
  · intro w'
    go_simp
    with_reducible rfl
  rotate_left
  · simp only [Act.put, List.setIfInBounds_toArray, List.set_cons_zero, List.set_cons_succ, i64_w, i32_w]
    rfl
  refine pure_ (i := 1) (N := some 61) (v := ?_) (a' := ?_) #[true, true, false, false, false, false, false, false, false, false, false, false, false, false, false, false, false, false, false, false, false, false, false, false, false, false, false, false, false, false, false, false, false, false, false, false, false, false, false] rfl rfl (by kernel_rfl) (fun _ _ _ h => h) (Or.inl ⟨by rfl, ?_⟩) ?_ ?_
  rotate_left
  · intro w'
    go_simp
    with_reducible rfl
  rotate_left
  · simp only [Act.put, List.setIfInBounds_toArray, List.set_cons_zero, List.set_cons_succ, i64_w, i32_w]
    rfl
  refine pure_ (i := 2) (N := some 62) (v := ?_) (a' := ?_) #[true, true, true, false, false, false, false, false, false, false, false, false, false, false, false, false, false, false, false, false, false, false, false, false, false, false, false, false, false, false, false, false, false, false, false, false, false, false, false] rfl rfl (by kernel_rfl) (fun _ _ _ h => h) (Or.inl ⟨by rfl, ?_⟩) ?_ ?_
  rotate_left
  · intro w'
    go_simp
    with_reducible rfl
  rotate_left
  · simp only [Act.put, List.setIfInBounds_toArray, List.set_cons_zero, List.set_cons_succ, i64_w, i32_w]
    rfl
  refine pure_ (i := 3) (N := some 63) (v := ?_) (a' := ?_) #[true, true, true, true, false, false, false, false, false, false, false, false, false, false, false, false, false, false, false, false, false, false, false, false, false, false, false, false, false, false, false, false, false, false, false, false, false, false, false] rfl rfl (by kernel_rfl) (fun _ _ _ h => h) (Or.inl ⟨by rfl, ?_⟩) ?_ ?_
  rotate_left
  · intro w'
    go_simp
    with_reducible rfl
  rotate_left
  · simp only [Act.put, List.setIfInBounds_toArray, List.set_cons_zero, List.set_cons_succ, i64_w, i32_w]
    rfl
  refine pure_ (i := 4) (N := some 64) (v := ?_) (a' := ?_) #[true, true, true, true, true, false, false, false, false, false, false, false, false, false, false, false, false, false, false, false, false, false, false, false, false, false, false, false, false, false, false, false, false, false, false, false, false, false, false] rfl rfl (by kernel_rfl) (fun _ _ _ h => h) (Or.inl ⟨by rfl, ?_⟩) ?_ ?_
  rotate_left
  · intro w'
    go_simp
    with_reducible rfl
  rotate_left
  · simp only [Act.put, List.setIfInBounds_toArray, List.set_cons_zero, List.set_cons_succ, i64_w, i32_w]
    rfl
  refine pure_ (i := 5) (N := some 65) (v := ?_) (a' := ?_) #[true, true, true, true, true, true, false, false, false, false, false, false, false, false, false, false, false, false, false, false, false, false, false, false, false, false, false, false, false, false, false, false, false, false, false, false, false, false, false] rfl rfl (by kernel_rfl) (fun _ _ _ h => h) (Or.inl ⟨by rfl, ?_⟩) ?_ ?_
  rotate_left
  · intro w'
    go_simp
    with_reducible rfl
  rotate_left
  · simp only [Act.put, List.setIfInBounds_toArray, List.set_cons_zero, List.set_cons_succ, i64_w, i32_w]
    rfl
  refine pure_ (i := 6) (N := some 66) (v := ?_) (a' := ?_) #[true, true, true, true, true, true, true, false, false, false, false, false, false, false, false, false, false, false, false, false, false, false, false, false, false, false, false, false, false, false, false, false, false, false, false, false, false, false, false] rfl rfl (by kernel_rfl) (fun _ _ _ h => h) (Or.inl ⟨by rfl, ?_⟩) ?_ ?_
  rotate_left
  · intro w'
    go_simp
    with_reducible rfl
  rotate_left
  · simp only [Act.put, List.setIfInBounds_toArray, List.set_cons_zero, List.set_cons_succ, i64_w, i32_w]
    rfl
  refine pure_ (i := 7) (N := some 67) (v := ?_) (a' := ?_) #[true, true, true, true, true, true, true, true, false, false, false, false, false, false, false, false, false, false, false, false, false, false, false, false, false, false, false, false, false, false, false, false, false, false, false, false, false, false, false] rfl rfl (by kernel_rfl) (fun _ _ _ h => h) (Or.inl ⟨by rfl, ?_⟩) ?_ ?_
  rotate_left
  · intro w'
    go_simp
    with_reducible rfl
  rotate_left
  · simp only [Act.put, List.setIfInBounds_toArray, List.set_cons_zero, List.set_cons_succ, i64_w, i32_w]
    rfl
  refine pure_ (i := 8) (N := some 68) (v := ?_) (a' := ?_) #[true, true, true, true, true, true, true, true, true, false, false, false, false, false, false, false, false, false, false, false, false, false, false, false, false, false, false, false, false, false, false, false, false, false, false, false, false, false, false] rfl rfl (by kernel_rfl) (fun _ _ _ h => h) (Or.inl ⟨by rfl, ?_⟩) ?_ ?_
  rotate_left
  · intro w'
    go_simp
    with_reducible rfl
  rotate_left
  · simp only [Act.put, List.setIfInBounds_toArray, List.set_cons_zero, List.set_cons_succ, i64_w, i32_w]
    rfl
  refine pure_ (i := 9) (N := some 69) (v := ?_) (a' := ?_) #[true, true, true, true, true, true, true, true, true, true, false, false, false, false, false, false, false, false, false, false, false, false, false, false, false, false, false, false, false, false, false, false, false, false, false, false, false, false, false] rfl rfl (by kernel_rfl) (fun _ _ _ h => h) (Or.inl ⟨by rfl, ?_⟩) ?_ ?_
  rotate_left
  · intro w'
    go_simp
    with_reducible rfl
  rotate_left
  · simp only [Act.put, List.setIfInBounds_toArray, List.set_cons_zero, List.set_cons_succ, i64_w, i32_w]
    rfl
  refine pure_ (i := 10) (N := some 70) (v := ?_) (a' := ?_) #[true, true, true, true, true, true, true, true, true, true, true, false, false, false, false, false, false, false, false, false, false, false, false, false, false, false, false, false, false, false, false, false, false, false, false, false, false, false, false] rfl rfl (by kernel_rfl) (fun _ _ _ h => h) (Or.inl ⟨by rfl, ?_⟩) ?_ ?_
  rotate_left
  · intro w'
    go_simp
    with_reducible rfl
  rotate_left
  · simp only [Act.put, List.setIfInBounds_toArray, List.set_cons_zero, List.set_cons_succ, i64_w, i32_w]
    rfl
  refine pure_ (i := 11) (N := some 71) (v := ?_) (a' := ?_) #[true, true, true, true, true, true, true, true, true, true, true, true, false, false, false, false, false, false, false, false, false, false, false, false, false, false, false, false, false, false, false, false, false, false, false, false, false, false, false] rfl rfl (by kernel_rfl) (fun _ _ _ h => h) (Or.inl ⟨by rfl, ?_⟩) ?_ ?_
  rotate_left
  · intro w'
    go_simp
    with_reducible rfl
  rotate_left
  · simp only [Act.put, List.setIfInBounds_toArray, List.set_cons_zero, List.set_cons_succ, i64_w, i32_w]
    rfl
  refine pure_ (i := 12) (N := some 72) (v := ?_) (a' := ?_) #[true, true, true, true, true, true, true, true, true, true, true, true, true, false, false, false, false, false, false, false, false, false, false, false, false, false, false, false, false, false, false, false, false, false, false, false, false, false, false] rfl rfl (by kernel_rfl) (fun _ _ _ h => h) (Or.inl ⟨by rfl, ?_⟩) ?_ ?_
  rotate_left
  · intro w'
    go_simp
    with_reducible rfl
  rotate_left
  · simp only [Act.put, List.setIfInBounds_toArray, List.set_cons_zero, List.set_cons_succ, i64_w, i32_w]
    rfl
  refine pure_ (i := 13) (N := some 73) (v := ?_) (a' := ?_) #[true, true, true, true, true, true, true, true, true, true, true, true, true, true, false, false, false, false, false, false, false, false, false, false, false, false, false, false, false, false, false, false, false, false, false, false, false, false, false] rfl rfl (by kernel_rfl) (fun _ _ _ h => h) (Or.inl ⟨by rfl, ?_⟩) ?_ ?_
  rotate_left
  · intro w'
    go_simp
    with_reducible rfl
  rotate_left
  · simp only [Act.put, List.setIfInBounds_toArray, List.set_cons_zero, List.set_cons_succ, i64_w, i32_w]
    rfl
  refine pure_ (i := 14) (N := some 74) (v := ?_) (a' := ?_) #[true, true, true, true, true, true, true, true, true, true, true, true, true, true, true, false, false, false, false, false, false, false, false, false, false, false, false, false, false, false, false, false, false, false, false, false, false, false, false] rfl rfl (by kernel_rfl) (fun _ _ _ h => h) (Or.inl ⟨by rfl, ?_⟩) ?_ ?_
  rotate_left
  · intro w'
    go_simp
    with_reducible rfl
  rotate_left
  · simp only [Act.put, List.setIfInBounds_toArray, List.set_cons_zero, List.set_cons_succ, i64_w, i32_w]
    rfl
  refine pure_ (i := 15) (N := some 75) (v := ?_) (a' := ?_) #[true, true, true, true, true, true, true, true, true, true, true, true, true, true, true, true, false, false, false, false, false, false, false, false, false, false, false, false, false, false, false, false, false, false, false, false, false, false, false] rfl rfl (by kernel_rfl) (fun _ _ _ h => h) (Or.inl ⟨by rfl, ?_⟩) ?_ ?_
  rotate_left
  · intro w'
    go_simp
    with_reducible rfl
  rotate_left
  · simp only [Act.put, List.setIfInBounds_toArray, List.set_cons_zero, List.set_cons_succ, i64_w, i32_w]
    rfl
  refine pure_ (i := 16) (N := some 76) (v := ?_) (a' := ?_) #[true, true, true, true, true, true, true, true, true, true, true, true, true, true, true, true, true, false, false, false, false, false, false, false, false, false, false, false, false, false, false, false, false, false, false, false, false, false, false] rfl rfl (by kernel_rfl) (fun _ _ _ h => h) (Or.inl ⟨by rfl, ?_⟩) ?_ ?_
  rotate_left
  · intro w'
    go_simp
    with_reducible rfl
  rotate_left
  · simp only [Act.put, List.setIfInBounds_toArray, List.set_cons_zero, List.set_cons_succ, i64_w, i32_w]
    rfl
  refine pure_ (i := 17) (N := some 77) (v := ?_) (a' := ?_) #[true, true, true, true, true, true, true, true, true, true, true, true, true, true, true, true, true, true, false, false, false, false, false, false, false, false, false, false, false, false, false, false, false, false, false, false, false, false, false] rfl rfl (by kernel_rfl) (fun _ _ _ h => h) (Or.inl ⟨by rfl, ?_⟩) ?_ ?_
  rotate_left
  · intro w'
    go_simp
    with_reducible rfl
  rotate_left
  · simp only [Act.put, List.setIfInBounds_toArray, List.set_cons_zero, List.set_cons_succ, i64_w, i32_w]
    rfl
  refine pure_ (i := 18) (N := some 78) (v := ?_) (a' := ?_) #[true, true, true, true, true, true, true, true, true, true, true, true, true, true, true, true, true, true, true, false, false, false, false, false, false, false, false, false, false, false, false, false, false, false, false, false, false, false, false] rfl rfl (by kernel_rfl) (fun _ _ _ h => h) (Or.inl ⟨by rfl, ?_⟩) ?_ ?_
  rotate_left
  · intro w'
    go_simp
    with_reducible rfl
  rotate_left
  · simp only [Act.put, List.setIfInBounds_toArray, List.set_cons_zero, List.set_cons_succ, i64_w, i32_w]
    rfl
  refine pure_ (i := 19) (N := some 79) (v := ?_) (a' := ?_) #[true, true, true, true, true, true, true, true, true, true, true, true, true, true, true, true, true, true, true, true, false, false, false, false, false, false, false, false, false, false, false, false, false, false, false, false, false, false, false] rfl rfl (by kernel_rfl) (fun _ _ _ h => h) (Or.inl ⟨by rfl, ?_⟩) ?_ ?_
  rotate_left
  · intro w'
    go_simp
    with_reducible rfl
  rotate_left
  · simp only [Act.put, List.setIfInBounds_toArray, List.set_cons_zero, List.set_cons_succ, i64_w, i32_w]
    rfl
  refine pure_ (i := 20) (N := some 80) (v := ?_) (a' := ?_) #[true, true, true, true, true, true, true, true, true, true, true, true, true, true, true, true, true, true, true, true, true, false, false, false, false, false, false, false, false, false, false, false, false, false, false, false, false, false, false] rfl rfl (by kernel_rfl) (fun _ _ _ h => h) (Or.inl ⟨by rfl, ?_⟩) ?_ ?_
  rotate_left
  · intro w'
    go_simp
    with_reducible rfl
  rotate_left
  · simp only [Act.put, List.setIfInBounds_toArray, List.set_cons_zero, List.set_cons_succ, i64_w, i32_w]
    rfl
  refine pure_ (i := 21) (N := some 81) (v := ?_) (a' := ?_) #[true, true, true, true, true, true, true, true, true, true, true, true, true, true, true, true, true, true, true, true, true, true, false, false, false, false, false, false, false, false, false, false, false, false, false, false, false, false, false] rfl rfl (by kernel_rfl) (fun _ _ _ h => h) (Or.inl ⟨by rfl, ?_⟩) ?_ ?_
  rotate_left
  · intro w'
    go_simp
    with_reducible rfl
  rotate_left
  · simp only [Act.put, List.setIfInBounds_toArray, List.set_cons_zero, List.set_cons_succ, i64_w, i32_w]
    rfl
  refine pure_ (i := 22) (N := some 82) (v := ?_) (a' := ?_) #[true, true, true, true, true, true, true, true, true, true, true, true, true, true, true, true, true, true, true, true, true, true, true, false, false, false, false, false, false, false, false, false, false, false, false, false, false, false, false] rfl rfl (by kernel_rfl) (fun _ _ _ h => h) (Or.inl ⟨by rfl, ?_⟩) ?_ ?_
  rotate_left
  · intro w'
    go_simp
    with_reducible rfl
  rotate_left
  · simp only [Act.put, List.setIfInBounds_toArray, List.set_cons_zero, List.set_cons_succ, i64_w, i32_w]
    rfl
  refine pure_ (i := 23) (N := some 83) (v := ?_) (a' := ?_) #[true, true, true, true, true, true, true, true, true, true, true, true, true, true, true, true, true, true, true, true, true, true, true, true, false, false, false, false, false, false, false, false, false, false, false, false, false, false, false] rfl rfl (by kernel_rfl) (fun _ _ _ h => h) (Or.inl ⟨by rfl, ?_⟩) ?_ ?_
  rotate_left
  · intro w'
    go_simp
    with_reducible rfl
  rotate_left
  · simp only [Act.put, List.setIfInBounds_toArray, List.set_cons_zero, List.set_cons_succ, i64_w, i32_w]
    rfl
  refine one_ (i := 24) (N := some 84) #[true, true, true, true, true, true, true, true, true, true, true, true, true, true, true, true, true, true, true, true, true, true, true, true, true, false, false, false, false, false, false, false, false, false, false, false, false, false, false] rfl rfl (by kernel_rfl) (by decide) (fun K hK => ?_)
  refine goes_ Try.func12 (by kernel_rfl) rfl #[.pointer (some ⟨jb2, 0, none⟩)] (by rfl) rfl rfl (by simp only [List.map_toArray, List.map_cons, List.map_nil]; rfl) ?_
  refine (groups_any jb2 b 0 1 w20.drew J20.out.j).mono ?_
  rintro e wg ⟨rfl, rfl⟩
  refine ⟨_, rfl, ?_⟩
  refine hK.out _ _ (hY) (fun hHeld => ?_)
  clear hK K
  refine norm_ (a' := ?_) ?_ ?_
  rotate_left
  · show Act.put _ (some 84) _ = _
    simp only [Act.put, List.setIfInBounds_toArray, List.set_cons_zero, List.set_cons_succ, i64_w, i32_w]
    rfl
  refine pure_ (i := 25) (N := some 85) (v := ?_) (a' := ?_) #[true, true, true, true, true, true, true, true, true, true, true, true, true, true, true, true, true, true, true, true, true, true, true, true, true, true, false, false, false, false, false, false, false, false, false, false, false, false, false] rfl rfl (by kernel_rfl) (fun _ _ _ h => h) (Or.inl ⟨by rfl, ?_⟩) ?_ ?_
  rotate_left
  · intro w'
    go_simp
    with_reducible rfl
  rotate_left
  · simp only [Act.put, List.setIfInBounds_toArray, List.set_cons_zero, List.set_cons_succ, i64_w, i32_w]
    rfl
  refine pure_ (i := 26) (N := some 86) (v := ?_) (a' := ?_) #[true, true, true, true, true, true, true, true, true, true, true, true, true, true, true, true, true, true, true, true, true, true, true, true, true, true, true, false, false, false, false, false, false, false, false, false, false, false, false] rfl rfl (by kernel_rfl) (fun _ _ _ h => h) (Or.inl ⟨by rfl, ?_⟩) ?_ ?_
  rotate_left
  · intro w'
    go_simp
    with_reducible rfl
  rotate_left
  · simp only [Act.put, List.setIfInBounds_toArray, List.set_cons_zero, List.set_cons_succ, i64_w, i32_w]
    rfl
  refine pure_ (i := 27) (N := some 87) (v := ?_) (a' := ?_) #[true, true, true, true, true, true, true, true, true, true, true, true, true, true, true, true, true, true, true, true, true, true, true, true, true, true, true, true, false, false, false, false, false, false, false, false, false, false, false] rfl rfl (by kernel_rfl) (fun _ _ _ h => h) (Or.inl ⟨by rfl, ?_⟩) ?_ ?_
  rotate_left
  · intro w'
    go_simp
    with_reducible rfl
  rotate_left
  · simp only [Act.put, List.setIfInBounds_toArray, List.set_cons_zero, List.set_cons_succ, i64_w, i32_w]
    rfl
  refine pure_ (i := 28) (N := some 88) (v := ?_) (a' := ?_) #[true, true, true, true, true, true, true, true, true, true, true, true, true, true, true, true, true, true, true, true, true, true, true, true, true, true, true, true, true, false, false, false, false, false, false, false, false, false, false] rfl rfl (by kernel_rfl) (fun _ _ _ h => h) (Or.inl ⟨by rfl, ?_⟩) ?_ ?_
  rotate_left
  · intro w'
    go_simp
    with_reducible rfl
  rotate_left
  · simp only [Act.put, List.setIfInBounds_toArray, List.set_cons_zero, List.set_cons_succ, i64_w, i32_w]
    rfl
  refine pure_ (i := 29) (N := some 89) (v := ?_) (a' := ?_) #[true, true, true, true, true, true, true, true, true, true, true, true, true, true, true, true, true, true, true, true, true, true, true, true, true, true, true, true, true, true, false, false, false, false, false, false, false, false, false] rfl rfl (by kernel_rfl) (fun _ _ _ h => h) (Or.inl ⟨by rfl, ?_⟩) ?_ ?_
  rotate_left
  · intro w'
    go_simp
    with_reducible rfl
  rotate_left
  · simp only [Act.put, List.setIfInBounds_toArray, List.set_cons_zero, List.set_cons_succ, i64_w, i32_w]
    rfl
  refine pure_ (i := 30) (N := some 90) (v := ?_) (a' := ?_) #[true, true, true, true, true, true, true, true, true, true, true, true, true, true, true, true, true, true, true, true, true, true, true, true, true, true, true, true, true, true, true, false, false, false, false, false, false, false, false] rfl rfl (by kernel_rfl) (fun _ _ _ h => h) (Or.inl ⟨by rfl, ?_⟩) ?_ ?_
  rotate_left
  · intro w'
    go_simp
    with_reducible rfl
  rotate_left
  · simp only [Act.put, List.setIfInBounds_toArray, List.set_cons_zero, List.set_cons_succ, i64_w, i32_w]
    rfl
  refine pure_ (i := 31) (N := some 91) (v := ?_) (a' := ?_) #[true, true, true, true, true, true, true, true, true, true, true, true, true, true, true, true, true, true, true, true, true, true, true, true, true, true, true, true, true, true, true, true, false, false, false, false, false, false, false] rfl rfl (by kernel_rfl) (fun _ _ _ h => h) (Or.inl ⟨by rfl, ?_⟩) ?_ ?_
  rotate_left
  · intro w'
    go_simp
    with_reducible rfl
  rotate_left
  · simp only [Act.put, List.setIfInBounds_toArray, List.set_cons_zero, List.set_cons_succ, i64_w, i32_w]
    rfl
  refine pure_ (i := 32) (N := some 92) (v := ?_) (a' := ?_) #[true, true, true, true, true, true, true, true, true, true, true, true, true, true, true, true, true, true, true, true, true, true, true, true, true, true, true, true, true, true, true, true, true, false, false, false, false, false, false] rfl rfl (by kernel_rfl) (fun _ _ _ h => h) (Or.inl ⟨by rfl, ?_⟩) ?_ ?_
  rotate_left
  · intro w'
    go_simp
    with_reducible rfl
  rotate_left
  · simp only [Act.put, List.setIfInBounds_toArray, List.set_cons_zero, List.set_cons_succ, i64_w, i32_w]
    rfl
  refine take_ (i := 33) (N := some 93) (v := ?_) (a' := ?_) #[true, true, true, true, true, true, true, true, true, true, true, true, true, true, true, true, true, true, true, true, true, true, true, true, true, true, true, true, true, true, true, true, true, true, false, false, false, false, false] rfl rfl (by kernel_rfl) (fun _ _ _ h => h) (Or.inl ⟨by rfl, ?_⟩) hHeld ?_ ?_
  rotate_left
  · intro w' s0
    refine exec_convert (x := .tmp 92) (v := .slice (some ⟨q, 0, none⟩) 64 64) (r := .string (strB (fullB 1 1))) ?_ ?_ (hcv w' s0)
    · rfl
    · rfl
  rotate_left
  · simp only [Act.put, List.setIfInBounds_toArray, List.set_cons_zero, List.set_cons_succ, i64_w, i32_w]
    rfl
  refine one_ (i := 34) (N := some 94) #[true, true, true, true, true, true, true, true, true, true, true, true, true, true, true, true, true, true, true, true, true, true, true, true, true, true, true, true, true, true, true, true, true, true, true, false, false, false, false] rfl rfl (by kernel_rfl) (by decide) (fun K hK => ?_)
  refine goes_ Try.func10 (by kernel_rfl) rfl #[.int .u8 1, .int .u8 1] (by rfl) rfl rfl (by simp only [List.map_toArray, List.map_cons, List.map_nil]; rfl) ?_
  refine (full_any 1 1 w20.drew).mono ?_
  rintro e wf ⟨vf, rfl, hr, hb⟩
  obtain ⟨Af, cf, rfl⟩ := Kd.R_slice hr
  refine ⟨_, rfl, ?_⟩
  have Yf := Aside0.mk (BytesAt.of_C (Kd.R_reads' hr).2.2)
  have Y2 := Aside0.mk (BytesAt.below (W := w20.drew) hY hb)
  have Bf := Aside0.mk (Fr.trans (Fr.drew B20.out) (Fr.of_below hb))
  clear hr hb
  refine hK.out _ _ (Y2.out) (fun hHeld => ?_)
  clear hK K
  refine norm_ (a' := ?_) ?_ ?_
  rotate_left
  · show Act.put _ (some 94) _ = _
    simp only [Act.put, List.setIfInBounds_toArray, List.set_cons_zero, List.set_cons_succ, i64_w, i32_w]
    rfl
  refine one_ (i := 35) (N := some 95) #[true, true, true, true, true, true, true, true, true, true, true, true, true, true, true, true, true, true, true, true, true, true, true, true, true, true, true, true, true, true, true, true, true, true, true, true, false, false, false] rfl rfl (by kernel_rfl) (by decide) (fun K hK => ?_)
  refine value_ (w1 := wf) (v := .string (strB (fullB 1 1))) (by rfl) rfl (exec_convert (x := .tmp 94) (v := .slice Af (fullB 1 1).length cf) (by rfl) (by rfl) (conv_bytes Yf.out cf)) ?_
  refine hK.out _ _ (Y2.out) (fun hHeld => ?_)
  clear hK K
  refine norm_ (a' := ?_) ?_ ?_
  rotate_left
  · show Act.put _ (some 95) _ = _
    simp only [Act.put, List.setIfInBounds_toArray, List.set_cons_zero, List.set_cons_succ, i64_w, i32_w]
    rfl
  refine pure_ (i := 36) (N := some 96) (v := ?_) (a' := ?_) #[true, true, true, true, true, true, true, true, true, true, true, true, true, true, true, true, true, true, true, true, true, true, true, true, true, true, true, true, true, true, true, true, true, true, true, true, true, false, false] rfl rfl (by kernel_rfl) (fun _ _ _ h => h) (Or.inl ⟨by rfl, ?_⟩) ?_ ?_
  rotate_left
  · intro w'
    go_simp
    with_reducible rfl
  rotate_left
  · simp only [Act.put, List.setIfInBounds_toArray, List.set_cons_zero, List.set_cons_succ, i64_w, i32_w]
    rfl
  refine pure_ (i := 37) (N := some 97) (v := ?_) (a' := ?_) #[true, true, true, true, true, true, true, true, true, true, true, true, true, true, true, true, true, true, true, true, true, true, true, true, true, true, true, true, true, true, true, true, true, true, true, true, true, true, false] rfl rfl (by kernel_rfl) (fun _ _ _ h => h) (Or.inl ⟨by rfl, ?_⟩) ?_ ?_
  rotate_left
  · intro w'
    go_simp
    with_reducible rfl
  rotate_left
  · simp only [Act.put, List.setIfInBounds_toArray, List.set_cons_zero, List.set_cons_succ, i64_w, i32_w]
    rfl
  refine pure_ (i := 38) (N := some 0) (v := ?_) (a' := ?_) #[true, true, true, true, true, true, true, true, true, true, true, true, true, true, true, true, true, true, true, true, true, true, true, true, true, true, true, true, true, true, true, true, true, true, true, true, true, true, true] rfl rfl (by kernel_rfl) (fun _ _ _ h => h) (Or.inl ⟨by rfl, ?_⟩) ?_ ?_
  rotate_left
  · intro w'
    go_simp
    with_reducible rfl
  rotate_left
  · simp only [Act.put, List.setIfInBounds_toArray, List.set_cons_zero, List.set_cons_succ, i64_w, i32_w]
    rfl
  refine done_ (by kernel_rfl) ?_
  go_wp2
  go_ret
  exact ⟨rfl, B1.out.trans (Bf.out.below B1.out.size (fun k hk => by have := L1.out; rcases hk with rfl | rfl | rfl <;> omega))⟩
end Go.Proofs.Ytmfndobdkihbnaa.Dk
