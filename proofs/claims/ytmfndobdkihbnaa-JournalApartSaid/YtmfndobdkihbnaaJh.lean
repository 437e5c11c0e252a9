/-
  A journal: Commit.
-/
import Derived.Test.YtmfndobdkihbnaaJg
namespace Go.Proofs.Ytmfndobdkihbnaa.Dk
open Go.RowKit Go.MapKept Go.Proofs.YtmfndobdkihbnaaW.PrintWords Go.Proofs.YtmfndobdkihbnaaW.PrintLast Go.Proofs.YtmfndobdkihbnaaW.PrintMore
set_option linter.unusedVariables false
set_option linter.unusedSimpArgs false

theorem BytesAt.ne_disk {W : World} {A : Option Addr} {bs : List Int} {b m : Nat} {s : FS} (h : BytesAt W A bs) (hp : 0 < bs.length) (hd : DiskIs W b m s) : ∀ ad, A = some ad → ad.block ≠ b := by
  intro ad e eb
  obtain ⟨ad', e', hB⟩ := h.2 hp
  rw [e] at e'
  cases e'
  have h0 := hB 0 _ (List.getElem?_eq_getElem hp)
  have hb1 : (ad.add 0).block = b := by rw [add_block]; exact eb
  have hd1 := hd.1
  rw [← hb1] at hd1
  simp [World.cell?, hd1] at h0
  obtain ⟨_, h0⟩ := h0
  rcases hk : (ad.add 0).off with _ | _ | _ | _ | _ | k <;> rw [hk] at h0 <;> simp [diskCells] at h0

/-- The puts of a group, by their cells: they stay, whatever becomes of the blocks of S. -/
def PutsAt (S : Nat → Prop) (w : World) (A : Option Addr) (l : List PutT) : Prop :=
  ∀ i, i < l.length → ∃ ad B c, A = some ad ∧ ∀ W', Fr S w W' → W'.cell? (ad.add (i * 2)) = some (.int .i64 (rdP l i).1) ∧ W'.cell? ⟨(ad.add (i * 2)).block, (ad.add (i * 2)).off + 1, none⟩ = some (.slice B (rdP l i).2.length c) ∧ BytesAt W' B (rdP l i).2
theorem Fr.of_belowB {B : Nat} {a b : World} (h : Below B a b) (hs : a.heap.size ≤ b.heap.size) : Fr (fun k => B ≤ k) a b := ⟨h.os, h.tape, h.output, hs, fun k hk hn => h.block k (by omega)⟩
theorem two_C (wo : World) (x y : Int) : Kd.C (Kd.int .u8) (wo.alloc (Obj.cells #[Value.int .u8 x, Value.int .u8 y] 5)) (some ⟨wo.heap.size, 0, none⟩) 2 [x, y] := by
  refine BytesAt.to_C (bs := [x, y]) ⟨by simp, fun _ => ⟨_, rfl, fun j v hj => ?_⟩⟩
  rw [Addr.add_mid, Nat.zero_add]
  refine heap_cell (Go.heap_alloc_new wo _) j _ ?_
  match j, hj with
  | 0, hj => simp at hj; subst hj; rfl
  | 1, hj => simp at hj; subst hj; rfl
abbrev DB (b m : Nat) : Nat → Prop := fun k => k = b ∨ k = m
abbrev DJ (b m jb : Nat) : Nat → Prop := fun k => k = b ∨ k = m ∨ k = jb
theorem DB.to {b m jb : Nat} {a c : World} (h : Fr (DB b m) a c) : Fr (DJ b m jb) a c := h.mono (fun k h => h.elim .inl (fun h => .inr (.inl h)))

theorem R_frB {α : Type} {d : Kd α} {e base : Nat} {w1 w3 : World} {v : Value} {xs : List α} {S : Nat → Prop} (h : d.R e w1 base (fun _ => True) v xs) (hf : Fr S w1 w3) (hS : ∀ k, S k → k < base) : d.R e w3 base (fun _ => True) v xs :=
  Kd.R_mono (Kd.R_step (Kd.R_bound h) (fun k hk hlt => hf.block k hlt (fun hs => by have := hS k hs; have := hk.2.1; omega))) (fun _ _ => trivial)
/-- One of a group's writes. -/
theorem pre_step {s : FS} {L : List PutT} {k : Nat} {x : Int} {bs : List Int} (hon : s.off = false) (hv : Valid s.len L) (h : L[k]? = some (x, bs)) (he : (wrs s (L.take k)).2 = 0) :
    (((wrs s (L.take k)).1.write x bs).2 = 0 ∧ wrs s (L.take (k + 1)) = (wrs s (L.take k)).1.write x bs) ∨ (((wrs s (L.take k)).1.write x bs).2 = 2 ∧ wrs s L = (wrs s (L.take k)).1.write x bs) := by
  have hst := wrs_state hon (fun y hy => hv y (List.mem_of_mem_take hy)) he
  obtain ⟨a, b, c⟩ := hv (x, bs) (List.mem_of_getElem? h)
  obtain ⟨h1, h2⟩ := wrs_cut (s := s) (M := []) h he
  rcases write_valid (i := x) (bs := bs) hst.1 a (by rw [hst.2.1]; exact b) c with hw | hw
  · exact .inl ⟨hw, h1⟩
  · exact .inr ⟨hw, by have := h2 (by rw [hw]; decide); rwa [List.append_nil] at this⟩

set_option maxHeartbeats 8000000 in
set_option maxRecDepth 100000 in
theorem commit_any (jb b m : Nat) (s : FS) (at_ g : Int) (A : Option Addr) (c : Nat) (l : List PutT) (w : World) (hj : JIs w jb b at_ g) (h : DiskIs w b m s) (hon : s.off = false) (h0 : 0 ≤ at_) (h1 : at_ + 199 ≤ s.len) (h2 : s.len ≤ 4096) (hg0 : 0 ≤ g) (hg1 : g ≤ 1000000)
    (hl : Kd.C kP w A l.length l) (hP : PutsAt (DJ b m jb) w A l) (h63 : l.length ≤ 9223372036854775807) :
    Calls Try.prog 11 #[.pointer (some ⟨jb, 0, none⟩), .slice A l.length c] w fun e w' => e = .returned (.int .i64 (commitR s at_ g l).2.1) ∧ DiskIs w' b m (commitR s at_ g l).1 ∧ JIs w' jb b at_ (commitR s at_ g l).2.2 ∧ Fr (DJ b m jb) w w' := by
  have H := Aside0.mk h
  have HJ := Aside0.mk hj
  have HP := Aside0.mk hP
  have HON := Aside0.mk hon
  have HLN := Aside0.mk (And.intro h1 h2)
  have HLT := Aside0.mk (show b < w.heap.size ∧ m < w.heap.size ∧ jb < w.heap.size from ⟨h.lt, h.2.1.lt, blk_lt hj⟩)
  have hmay := Aside0.mk (may_any jb b m s at_ g A c l w hj h h0 (by omega) hl h63)
  clear h hj hl hP hon h1 h2 h63
  go_enter Try.func11, Try.ntmps11
  go_wp2_with fail
  refine hmay.out.mono ?_
  rintro e w1 ⟨rfl, hb⟩
  have HJ1 := Aside0.mk (HJ.out.below hb)
  have H1 := Aside0.mk (H.out.below hb)
  have F1 := Aside0.mk (Fr.of_below (S := DB b m) hb)
  clear hb hmay H HJ
  by_cases hm : mayB s.len at_ l = true
  case neg =>
    have hm' : mayB s.len at_ l = false := by simpa using hm
    have hc : commitR s at_ g l = (s, 20, g) := by unfold commitR; rw [if_neg hm]
    have HC := Aside0.mk hc
    rw [hm']
    clear hc hm hm'
    go_wp2
    go_ret
    rw [HC.out]
    exact ⟨rfl, H1.out, HJ1.out, DB.to F1.out⟩
  have HM := Aside0.mk (mayB_spec hm)
  have hcm : commitR s at_ g l = if (wrs s (preW at_ g l)).2 = 0 then
      if l.length = 0 then ((wrs s (preW at_ g l)).1, 0, g + 1)
      else ((wrs (wrs s (preW at_ g l)).1 (l ++ [(at_, headB (g + 1) 0)])).1, (wrs (wrs s (preW at_ g l)).1 (l ++ [(at_, headB (g + 1) 0)])).2, g + 1)
    else ((wrs s (preW at_ g l)).1, (wrs s (preW at_ g l)).2, g) := by unfold commitR; rw [if_pos hm]
  have HCM := Aside0.mk hcm
  have HV := Aside0.mk (preW_valid (g := g) HM.out h0 HLN.out.1)
  have hn192 := HM.out.n
  rw [hm]
  clear hcm hm
  have HR0 := Aside0.mk (Kd.R_nil (Kd.int .u8) 5 w1 w.heap.size (fun _ => True))
  go_wp2
  go_loopg [5, 19] l.length (fun gq v5 v19 wr => ∃ (i : Nat), v19 = .int .i64 i ∧ i ≤ l.length ∧ Aside0 (gq = l.length - i) ∧ Aside0 ((wrs s ((preW at_ g l).take i)).2 = 0) ∧ Aside0 (DiskIs wr b m (wrs s ((preW at_ g l).take i)).1) ∧ Aside0 (JIs wr jb b at_ g) ∧ Aside0 (Fr (DB b m) w wr) ∧ Aside0 (Kd.R (Kd.int .u8) 5 wr w.heap.size (fun _ => True) v5 (toB (l.take i))))
  case atStart => exact ⟨0, rfl, Nat.zero_le _, ⟨rfl⟩, ⟨rfl⟩, H1, HJ1, F1, HR0⟩
  case round =>
    clear H1 HJ1 F1 HR0
    obtain ⟨i, rfl, hi, HG, HE, H, HJ, HF, HR⟩ := hrel
    by_cases hlt : i < l.length
    · have hlt' : (i : Int) < (l.length : Int) := by omega
      obtain ⟨ad, Bx, cx, rfl, hall⟩ := HP.out i hlt
      obtain ⟨⟨xb, bs⟩, hx⟩ : ∃ x, x = rdP l i := ⟨_, rfl⟩
      rw [← hx] at hall
      have hmx := HM.out.at hlt
      rw [← hx] at hmx
      simp only at hall hmx
      have hxb0 : 0 ≤ xb := hmx.2.1
      have hxb1 : xb < 4096 := by have := HLN.out.2; omega
      have HB64 := Aside0.mk hmx.2.2.2
      have HX := Aside0.mk hx
      obtain ⟨q0, q1, _⟩ := hall wr (DB.to HF.out)
      have HALL := Aside0.mk hall
      clear hx hmx hall
      go_upto_region 7 with (fail)
      obtain ⟨wo, hwo⟩ : ∃ wo, wo = wr.alloc (Obj.cells #[Value.int .i64 xb, Value.slice Bx bs.length cx] 40) := ⟨_, rfl⟩
      have hbo : Below wr.heap.size wr wo := by rw [hwo]; exact (Below.refl _ wr).alloc (Nat.le_refl _) _
      have hho : wo.heap[wr.heap.size]? = some (.cells #[Value.int .i64 xb, Value.slice Bx bs.length cx] 40 (0, 0)) := by rw [hwo]; exact Go.heap_alloc_new _ _
      rw [← hwo]
      have HO := Aside0.mk (H.out.below hbo)
      have HJO := Aside0.mk (HJ.out.below hbo)
      have FO := Aside0.mk (HF.out.trans (Fr.of_below hbo))
      have HRO := Aside0.mk (Kd.R_below HR.out hbo)
      have p0 := heap_cell hho 0 (.int .i64 xb) rfl
      have HHO := Aside0.mk hho
      clear hwo hho hbo q0 q1 H HJ HF HR
      obtain ⟨A5, c5, rfl⟩ := Kd.R_slice HRO.out
      go_wp2_with (first
        | ((with_reducible refine gate_dst (N := 33) rfl ?_); refine Kd.R_append_row (Value.int .u8) 0 (w0 := wo.alloc (Obj.cells #[Value.int .u8 (xb / 256), Value.int .u8 (xb % 256)] 5)) w.heap.size rfl (.tmp 24) (.tmp 32) 37 5 (.int .u8 0) 1 rfl Try.underlying37 infoU8 rfl (by decide) (.slice A5 (toB (l.take i)).length c5) (toB (l.take i)) [xb / 256, xb % 256] (some ⟨wo.heap.size, 0, none⟩) 2 2 (fun _ => True) rfl rfl (fun _ _ => trivial) (Kd.R_alloc HRO.out _) (two_C wo (xb / 256) (xb % 256)) (Below.refl _ _) (by have := FO.out.size; simp; omega) (by rw [toB_len, List.length_take]; omega) ?_; intro v1 w1 hr1 hb1 hg1' hat1)
        | fail)
      have FW := (FO.out.trans (Fr.of_below (S := DB b m) ((Below.refl _ wo).alloc (Nat.le_refl _) (Obj.cells #[Value.int .u8 (xb / 256), Value.int .u8 (xb % 256)] 5)))).then (Fr.of_belowB hb1 hg1'.size) (fun k h => .inr h)
      have hwo2 : Below wo.heap.size wo (wo.alloc (Obj.cells #[Value.int .u8 (xb / 256), Value.int .u8 (xb % 256)] 5)) := (Below.refl _ wo).alloc (Nat.le_refl _) _
      have FB := Fr.of_belowB hb1 hg1'.size
      have hlts := HLT.out
      have D1 := Aside0.mk ((HO.out.below hwo2).fr FB (by omega) (by omega))
      have J1 := Aside0.mk ((HJO.out.below hwo2).fr FB (by omega))
      have hne := Kd.R_ne (Kd.R_alloc HRO.out (Obj.cells #[Value.int .u8 (xb / 256), Value.int .u8 (xb % 256)] 5)) ((hwo2.block _ (blk_lt HHO.out)).trans HHO.out) (by decide)
      have hho1 := (hg1'.block _ (Nat.lt_of_lt_of_le (blk_lt HHO.out) hwo2.size) hne).trans ((hwo2.block _ (blk_lt HHO.out)).trans HHO.out)
      have p1 := heap_cell hho1 1 (.slice Bx bs.length cx) rfl
      have BY1 := Aside0.mk ((HALL.out w1 (DB.to FW)).2.2)
      have R1 := Aside0.mk (show Kd.R (Kd.int .u8) 5 w1 w.heap.size (fun _ => True) v1 (toB (l.take (i + 1))) from by
        rw [toB_snoc l i hlt, ← HX.out]
        have : xb / 256 % 256 = xb / 256 := by omega
        simp only [this]
        exact hr1)
      have F1 := Aside0.mk FW
      obtain ⟨si, hsi⟩ : ∃ si, si = (wrs s ((preW at_ g l).take i)).1 := ⟨_, rfl⟩
      have hps := pre_step HON.out HV.out (show (preW at_ g l)[i]? = some (at_ + 7 + (i : Int), bs) from by rw [preW_data at_ g l i hlt, ← HX.out]) HE.out
      rw [← hsi] at hps D1
      have HPS := Aside0.mk hps
      have HNE := Aside0.mk (BY1.out.ne_disk (by rw [HB64.out]; decide) D1.out)
      have hw7 : IntKind.i64.wrap (at_ + 7) = at_ + 7 := IntWalk.i64_in _ (by have := HLN.out; omega)
      have hw8 : IntKind.i64.wrap (at_ + 7 + (i : Int)) = at_ + 7 + (i : Int) := IntWalk.i64_in _ (by have := HLN.out; omega)
      have hb2 : at_ ≤ 4096 := by have := HLN.out; omega
      clear hwo2 FB hlts hne hho1 FW hr1 hb1 hg1' hat1 HO HJO FO HRO p0 HHO hps hsi
      have d0 := J1.out.c0
      have d1 := J1.out.c1
      refine start_ (n := 15) (S := fun w' => w'.cell? ⟨jb, 0, none⟩ = some (.pointer (some ⟨b, 0, none⟩)) ∧ w'.cell? ⟨jb, 1, none⟩ = some (.int .i64 at_) ∧ w'.cell? ⟨wr.heap.size, 1, none⟩ = some (.slice Bx bs.length cx)) (ds := [13]) #[false, false, false, false, false, false, false, false, false, false, false, false, false, false, false] (by kernel_rfl) rfl rfl ⟨d0, d1, p1⟩ (fun hHeld => ?_)
      refine pure_ (i := 0) (N := some 34) (v := ?_) (a' := ?_) #[true, false, false, false, false, false, false, false, false, false, false, false, false, false, false] rfl rfl (by kernel_rfl) (fun _ _ _ h => h) (Or.inl ⟨by rfl, ?_⟩) ?_ ?_
      rotate_left
      · intro w'
        go_simp
        with_reducible rfl
      rotate_left
      · simp only [Act.put, List.setIfInBounds_toArray, List.set_cons_zero, List.set_cons_succ, i64_w, i32_w]
        rfl
      refine pure_ (i := 1) (N := some 35) (v := ?_) (a' := ?_) #[true, true, false, false, false, false, false, false, false, false, false, false, false, false, false] rfl rfl (by kernel_rfl) (fun _ _ _ h => h) (Or.inl ⟨by rfl, ?_⟩) ?_ ?_
      rotate_left
      · intro w'
        go_simp
        with_reducible rfl
      rotate_left
      · simp only [Act.put, List.setIfInBounds_toArray, List.set_cons_zero, List.set_cons_succ, i64_w, i32_w]
        rfl
      refine pure_ (i := 2) (N := some 36) (v := ?_) (a' := ?_) #[true, true, true, false, false, false, false, false, false, false, false, false, false, false, false] rfl rfl (by kernel_rfl) (fun _ _ _ h => h) (Or.inl ⟨by rfl, ?_⟩) ?_ ?_
      rotate_left
      · intro w'
        go_simp
        with_reducible rfl
      rotate_left
      · simp only [Act.put, List.setIfInBounds_toArray, List.set_cons_zero, List.set_cons_succ, i64_w, i32_w]
        rfl
      refine pure_ (i := 4) (N := some 38) (v := ?_) (a' := ?_) #[true, true, true, false, true, false, false, false, false, false, false, false, false, false, false] rfl rfl (by kernel_rfl) (fun _ _ _ h => h) (Or.inl ⟨by rfl, ?_⟩) ?_ ?_
      rotate_left
      · intro w'
        go_simp
        with_reducible rfl
      rotate_left
      · simp only [Act.put, List.setIfInBounds_toArray, List.set_cons_zero, List.set_cons_succ, i64_w, i32_w]
        rfl
      refine pure_ (i := 5) (N := some 39) (v := ?_) (a' := ?_) #[true, true, true, false, true, true, false, false, false, false, false, false, false, false, false] rfl rfl (by kernel_rfl) (fun _ _ _ h => h) (Or.inl ⟨by rfl, ?_⟩) ?_ ?_
      rotate_left
      · intro w'
        go_simp
        with_reducible rfl
      rotate_left
      · simp only [Act.put, List.setIfInBounds_toArray, List.set_cons_zero, List.set_cons_succ, i64_w, i32_w]
        rfl
      refine pure_ (i := 6) (N := some 40) (v := ?_) (a' := ?_) #[true, true, true, false, true, true, true, false, false, false, false, false, false, false, false] rfl rfl (by kernel_rfl) (fun _ _ _ h => h) (Or.inl ⟨by rfl, ?_⟩) ?_ ?_
      rotate_left
      · intro w'
        go_simp
        with_reducible rfl
      rotate_left
      · simp only [Act.put, List.setIfInBounds_toArray, List.set_cons_zero, List.set_cons_succ, i64_w, i32_w]
        rfl
      refine pure_ (i := 9) (N := some 43) (v := ?_) (a' := ?_) #[true, true, true, false, true, true, true, false, false, true, false, false, false, false, false] rfl rfl (by kernel_rfl) (fun _ _ _ h => h) (Or.inl ⟨by rfl, ?_⟩) ?_ ?_
      rotate_left
      · intro w'
        go_simp
        with_reducible rfl
      rotate_left
      · simp only [Act.put, List.setIfInBounds_toArray, List.set_cons_zero, List.set_cons_succ, i64_w, i32_w]
        rfl
      refine pure_ (i := 11) (N := some 45) (v := ?_) (a' := ?_) #[true, true, true, false, true, true, true, false, false, true, false, true, false, false, false] rfl rfl (by kernel_rfl) (fun _ _ _ h => h) (Or.inl ⟨by rfl, ?_⟩) ?_ ?_
      rotate_left
      · intro w'
        go_simp
        with_reducible rfl
      rotate_left
      · simp only [Act.put, List.setIfInBounds_toArray, List.set_cons_zero, List.set_cons_succ, i64_w, i32_w]
        rfl
      refine take_ (i := 3) (N := some 37) (v := ?_) (a' := ?_) #[true, true, true, true, true, true, true, false, false, true, false, true, false, false, false] rfl rfl (by kernel_rfl) (fun _ _ _ h => h) (Or.inl ⟨by rfl, ?_⟩) hHeld ?_ ?_
      rotate_left
      · rintro w' ⟨s0, s1, s2⟩
        go_simp
        with_reducible rfl
      rotate_left
      · simp only [Act.put, List.setIfInBounds_toArray, List.set_cons_zero, List.set_cons_succ, i64_w, i32_w]
        rfl
      refine take_ (i := 7) (N := some 41) (v := ?_) (a' := ?_) #[true, true, true, true, true, true, true, true, false, true, false, true, false, false, false] rfl rfl (by kernel_rfl) (fun _ _ _ h => h) (Or.inl ⟨by rfl, ?_⟩) hHeld ?_ ?_
      rotate_left
      · rintro w' ⟨s0, s1, s2⟩
        go_simp
        with_reducible rfl
      rotate_left
      · simp only [Act.put, List.setIfInBounds_toArray, List.set_cons_zero, List.set_cons_succ, i64_w, i32_w]
        rfl
      refine pure_ (i := 8) (N := some 42) (v := ?_) (a' := ?_) #[true, true, true, true, true, true, true, true, true, true, false, true, false, false, false] rfl rfl (by kernel_rfl) (fun _ _ _ h => h) (Or.inl ⟨by rfl, ?_⟩) ?_ ?_
      rotate_left
      · intro w'
        go_simp
        with_reducible rfl
      rotate_left
      · simp only [Act.put, List.setIfInBounds_toArray, List.set_cons_zero, List.set_cons_succ, i64_w, i32_w]
        rfl
      refine pure_ (i := 10) (N := some 44) (v := ?_) (a' := ?_) #[true, true, true, true, true, true, true, true, true, true, true, true, false, false, false] rfl rfl (by kernel_rfl) (fun _ _ _ h => h) (Or.inl ⟨by rfl, ?_⟩) ?_ ?_
      rotate_left
      · intro w'
        go_simp
        with_reducible rfl
      rotate_left
      · simp only [Act.put, List.setIfInBounds_toArray, List.set_cons_zero, List.set_cons_succ, i64_w, i32_w]
        rfl
      refine take_ (i := 12) (N := some 46) (v := ?_) (a' := ?_) #[true, true, true, true, true, true, true, true, true, true, true, true, true, false, false] rfl rfl (by kernel_rfl) (fun _ _ _ h => h) (Or.inl ⟨by rfl, ?_⟩) hHeld ?_ ?_
      rotate_left
      · rintro w' ⟨s0, s1, s2⟩
        go_simp
        with_reducible rfl
      rotate_left
      · simp only [Act.put, List.setIfInBounds_toArray, List.set_cons_zero, List.set_cons_succ, i64_w, i32_w]
        rfl
      refine last_ (i := 13) (N := some 47) #[true, true, true, true, true, true, true, true, true, true, true, true, true, true, false] rfl rfl (by kernel_rfl) (by decide) (fun K hK => ?_)
      refine goes_ Try.func27 (by kernel_rfl) rfl #[.pointer (some ⟨b, 0, none⟩), .int .i64 (at_ + 7 + (i : Int)), .slice Bx bs.length cx] (by rfl) rfl rfl (by simp only [List.map_toArray, List.map_cons, List.map_nil]; rfl) ?_
      refine (write_any b m si (at_ + 7 + (i : Int)) Bx cx bs w1.drew (D1.out.step rfl rfl) (BY1.out.fr (Fr.drew (Fr.refl (fun _ => False) w1)) (fun _ _ h => h)) HNE.out).mono ?_
      rintro e w3 ⟨rfl, hd, hf⟩
      refine ⟨_, rfl, ?_⟩
      have F3' : Fr (DB b m) w1 w3 := (Fr.drew (Fr.refl _ w1)).trans hf
      have J3 := Aside0.mk (J1.out.fr F3' (J1.out.ne D1.out))
      have D3 := Aside0.mk hd
      have R3 := Aside0.mk (R_frB R1.out F3' (by have := HLT.out; intro k hk; rcases hk with rfl | rfl <;> omega))
      have F3 := Aside0.mk (F1.out.trans F3')
      clear hd hf F3'
      refine hK.out _ _ ?_
      clear hK K
      refine norm_ (a' := ?_) ?_ ?_
      rotate_left
      · show Act.put _ (some 47) _ = _
        simp only [Act.put, List.setIfInBounds_toArray, List.set_cons_zero, List.set_cons_succ, i64_w, i32_w]
        rfl
      refine pure_ (i := 14) (N := some 8) (v := ?_) (a' := ?_) #[true, true, true, true, true, true, true, true, true, true, true, true, true, true, true] rfl rfl (by kernel_rfl) (fun _ _ _ h => h) (Or.inl ⟨by rfl, ?_⟩) ?_ ?_
      rotate_left
      · intro w'
        go_simp
        with_reducible rfl
      rotate_left
      · simp only [Act.put, List.setIfInBounds_toArray, List.set_cons_zero, List.set_cons_succ, i64_w, i32_w]
        rfl
      refine done_ (by kernel_rfl) ?_
      clear d0 d1 p1 hw7 hw8 J1 D1 R1 F1 BY1 HNE hxb0 hxb1
      rcases HPS.out with ⟨hw0, hwn⟩ | ⟨hw2, hwn⟩
      · rw [hw0]
        have HN1 := Aside0.mk (show (wrs s ((preW at_ g l).take (i + 1))).2 = 0 from by rw [hwn]; exact hw0)
        have HN2 := Aside0.mk (show DiskIs w3 b m (wrs s ((preW at_ g l).take (i + 1))).1 from by rw [hwn]; exact D3.out)
        clear hw0 hwn
        go_wp2
        go_roundg (l.length - (i + 1))
        case measure => have := HG.out; omega
        case rel => exact ⟨i + 1, by go_num, by omega, ⟨rfl⟩, HN1, HN2, J3, F3, R3⟩
      · rw [hw2]
        have HC := Aside0.mk (show commitR s at_ g l = ((si.write (at_ + 7 + (i : Int)) bs).1, 2, g) from by
          rw [HCM.out, hwn, hw2, if_neg (by decide)])
        clear hw2 hwn
        go_wp2
        go_ret
        rw [HC.out]
        exact ⟨rfl, D3.out, J3.out, DB.to F3.out⟩
    · have hil : i = l.length := by omega
      subst hil
      rw [List.take_length] at HR
      obtain ⟨A5, c5, rfl⟩ := Kd.R_slice HR.out
      obtain ⟨n2, hn2⟩ : ∃ n2, n2 = (toB l).length := ⟨_, rfl⟩
      rw [← hn2] at HR ⊢
      have HN2 := Aside0.mk (show n2 = 2 * l.length from hn2.trans (toB_len l))
      have HN2' := Aside0.mk hn2
      have hn2b : n2 ≤ 384 := by have := HN2.out; omega
      clear hn2
      go_wp2
      go_loopg [9] (lisN l.length) (fun gq v9 wx => ∃ (t k : Nat), v9 = .int .i64 k ∧ Aside0 (k = 64 * t) ∧ t ≤ lisN l.length ∧ Aside0 (gq = lisN l.length - t) ∧ Aside0 ((wrs s ((preW at_ g l).take (l.length + t))).2 = 0) ∧ Aside0 (DiskIs wx b m (wrs s ((preW at_ g l).take (l.length + t))).1) ∧ Aside0 (JIs wx jb b at_ g) ∧ Aside0 (Fr (DB b m) w wx) ∧ Aside0 (Kd.R (Kd.int .u8) 5 wx w.heap.size (fun _ => True) (.slice A5 n2 c5) (toB l)))
      case atStart => exact ⟨0, 0, rfl, ⟨rfl⟩, Nat.zero_le _, ⟨rfl⟩, HE, H, HJ, HF, HR⟩
      case round =>
        clear HE H HJ HF HR
        obtain ⟨t, k, rfl, HK, ht, HG, HE, H, HJ, HF, HR⟩ := hrel
        by_cases hlt2 : k < n2
        · have hlt2' : (k : Int) < (n2 : Int) := by omega
          have htl : t < lisN l.length := by have := HN2.out; have := HK.out; unfold lisN; omega
          obtain ⟨q5, k5, e5, _, _, _⟩ := Kd.R_form HR.out (by have := HN2'.out; omega)
          obtain ⟨rfl, hnk⟩ : A5 = some ⟨q5, 0, none⟩ ∧ n2 ≤ c5 := ⟨by injection e5, (Kd.R_reads' HR.out).2.1⟩
          have hkc : k < c5 := by omega
          clear e5
          obtain ⟨src, hsrc⟩ : ∃ src, src = (toB l).drop k := ⟨_, rfl⟩
          have hsl : src.length = n2 - k := by rw [hsrc, List.length_drop, ← HN2'.out]
          have hCd : Kd.C (Kd.int .u8) wr (some ⟨q5, k, none⟩) (n2 - k) src := by
            have h1 := (Kd.R_reads' HR.out).2.2
            have h2 := Kd.C_drop (m := k) (c := c5) h1 (by rw [← HN2'.out]; omega) (by rw [← HN2'.out]; exact hnk)
            rw [if_neg (by omega), ← hsrc, hsl] at h2
            have e : (some (⟨q5, 0, none⟩ : Addr)).map (·.add (k * (Kd.int .u8).sz)) = some ⟨q5, k, none⟩ := by
              show some ((⟨q5, 0, none⟩ : Addr).add (k * 1)) = _
              rw [Addr.add_mid]; simp
            rw [e] at h2
            exact h2
          have HCD := Aside0.mk hCd
          have HSL := Aside0.mk hsl
          have HSRC := Aside0.mk hsrc
          clear hCd hsl hsrc
          go_wp2_with (first
            | ((with_reducible refine gate_dst (N := 58) rfl ?_); refine Kd.R_make (Kd.int .u8) wr.heap.size 5 rfl (N := 58) rfl 37 _ _ rfl 64 rfl rfl Try.underlying37 (.int .u8 0) 1 infoU8 rfl (by decide) (by omega) 0 (ok := fun _ => True) (okp := fun _ => True) rfl (fun _ hk => hk) trivial (by omega) (by omega) (Below.refl _ _) (Nat.le_refl _) ?_; intro v10 w2 ho hb hg hnew; obtain ⟨q, hv, hq⟩ := hnew; obtain ⟨kq, e8, hrow⟩ := Row.of_R ho hv; rw [List.length_replicate] at e8 hrow; subst e8; have RW := Aside0.mk hrow; have HB := Aside0.mk hb; have HQ := Aside0.mk hq; clear ho hb hg hv hq hrow)
            | ((with_reducible refine gate_dst (N := 63) rfl ?_); refine Kd.R_copy (enc := Value.int .u8) (h1 := fun _ => rfl) 0 (w0 := wr) wr.heap.size rfl (.tmp 59) (.tmp 62) 37 37 5 rfl Try.underlying37 infoU8s (.slice (some ⟨q, 0, none⟩) 64 kq) (List.replicate 64 0) src (some ⟨q5, k, none⟩) (n2 - k) (c5 - k) (fun b => b = q) rfl rfl RW.out.row (Kd.C_below HCD.out HB.out) HB.out HB.out.size ?_; intro w3 ho2 hb2 hg2; have R2 := Aside0.mk ho2; have B2 := Aside0.mk hb2; clear ho2 hb2 hg2)
            | fail)
          go_upto_region 17 with (fail)
          have R3 := Aside0.mk (show Row w3 q 64 kq wr.heap.size (padB src) from by
            have hr := R2.out
            have e : src.take (min (n2 - k) (List.replicate 64 (0 : Int)).length) ++ (List.replicate 64 0).drop (min (n2 - k) (List.replicate 64 (0 : Int)).length) = padB src := by
              unfold padB; rw [List.length_replicate, HSL.out]
            rw [e] at hr
            refine ⟨padB_len _, hr, HQ.out, ?_⟩
            exact Kd.R_typed hr q rfl)
          have hsi0 := HE.out
          obtain ⟨si, hsi⟩ : ∃ si, si = (wrs s ((preW at_ g l).take (l.length + t))).1 := ⟨_, rfl⟩
          have hkt : (at_ + 1 + (t : Int)) = at_ + 1 + (k : Int) / 64 := by have := HK.out; omega
          have hps := pre_step HON.out HV.out (show (preW at_ g l)[l.length + t]? = some (at_ + 1 + (k : Int) / 64, padB src) from by rw [preW_list at_ g l t htl, hkt, HSRC.out, HK.out]) hsi0
          rw [← hsi] at hps H
          have HPS := Aside0.mk hps
          have D1 := Aside0.mk (H.out.below B2.out)
          have J1 := Aside0.mk (HJ.out.below B2.out)
          have F1 := Aside0.mk (HF.out.trans (Fr.of_below (S := DB b m) B2.out))
          have R1 := Aside0.mk (Kd.R_below HR.out B2.out)
          have HNE := Aside0.mk (show q ≠ b by have := H.out.lt; have := HQ.out; omega)
          have hw1 : IntKind.i64.wrap (at_ + 1) = at_ + 1 := IntWalk.i64_in _ (by have := HLN.out; omega)
          have hw2 : IntKind.i64.wrap ((k : Int) / 64) = (k : Int) / 64 := IntWalk.i64_in _ (by omega)
          have hw3 : IntKind.i64.wrap (at_ + 1 + (k : Int) / 64) = at_ + 1 + (k : Int) / 64 := IntWalk.i64_in _ (by have := HLN.out; omega)
          clear R2 hsi0 hkt hps hsi H HJ HF HR HCD RW HB
          have d0 := J1.out.c0
          have d1 := J1.out.c1
          refine start_ (n := 15) (S := fun w' => w'.cell? ⟨jb, 0, none⟩ = some (.pointer (some ⟨b, 0, none⟩)) ∧ w'.cell? ⟨jb, 1, none⟩ = some (.int .i64 at_)) (ds := [13]) #[false, false, false, false, false, false, false, false, false, false, false, false, false, false, false] (by kernel_rfl) rfl rfl ⟨d0, d1⟩ (fun hHeld => ?_)
          refine pure_ (i := 0) (N := some 64) (v := ?_) (a' := ?_) #[true, false, false, false, false, false, false, false, false, false, false, false, false, false, false] rfl rfl (by kernel_rfl) (fun _ _ _ h => h) (Or.inl ⟨by rfl, ?_⟩) ?_ ?_
          rotate_left
          · intro w'
            go_simp
            with_reducible rfl
          rotate_left
          · simp only [Act.put, List.setIfInBounds_toArray, List.set_cons_zero, List.set_cons_succ, i64_w, i32_w]
            rfl
          refine pure_ (i := 1) (N := some 65) (v := ?_) (a' := ?_) #[true, true, false, false, false, false, false, false, false, false, false, false, false, false, false] rfl rfl (by kernel_rfl) (fun _ _ _ h => h) (Or.inl ⟨by rfl, ?_⟩) ?_ ?_
          rotate_left
          · intro w'
            go_simp
            with_reducible rfl
          rotate_left
          · simp only [Act.put, List.setIfInBounds_toArray, List.set_cons_zero, List.set_cons_succ, i64_w, i32_w]
            rfl
          refine pure_ (i := 2) (N := some 66) (v := ?_) (a' := ?_) #[true, true, true, false, false, false, false, false, false, false, false, false, false, false, false] rfl rfl (by kernel_rfl) (fun _ _ _ h => h) (Or.inl ⟨by rfl, ?_⟩) ?_ ?_
          rotate_left
          · intro w'
            go_simp
            with_reducible rfl
          rotate_left
          · simp only [Act.put, List.setIfInBounds_toArray, List.set_cons_zero, List.set_cons_succ, i64_w, i32_w]
            rfl
          refine pure_ (i := 4) (N := some 68) (v := ?_) (a' := ?_) #[true, true, true, false, true, false, false, false, false, false, false, false, false, false, false] rfl rfl (by kernel_rfl) (fun _ _ _ h => h) (Or.inl ⟨by rfl, ?_⟩) ?_ ?_
          rotate_left
          · intro w'
            go_simp
            with_reducible rfl
          rotate_left
          · simp only [Act.put, List.setIfInBounds_toArray, List.set_cons_zero, List.set_cons_succ, i64_w, i32_w]
            rfl
          refine pure_ (i := 5) (N := some 69) (v := ?_) (a' := ?_) #[true, true, true, false, true, true, false, false, false, false, false, false, false, false, false] rfl rfl (by kernel_rfl) (fun _ _ _ h => h) (Or.inl ⟨by rfl, ?_⟩) ?_ ?_
          rotate_left
          · intro w'
            go_simp
            with_reducible rfl
          rotate_left
          · simp only [Act.put, List.setIfInBounds_toArray, List.set_cons_zero, List.set_cons_succ, i64_w, i32_w]
            rfl
          refine pure_ (i := 6) (N := some 70) (v := ?_) (a' := ?_) #[true, true, true, false, true, true, true, false, false, false, false, false, false, false, false] rfl rfl (by kernel_rfl) (fun _ _ _ h => h) (Or.inl ⟨by rfl, ?_⟩) ?_ ?_
          rotate_left
          · intro w'
            go_simp
            with_reducible rfl
          rotate_left
          · simp only [Act.put, List.setIfInBounds_toArray, List.set_cons_zero, List.set_cons_succ, i64_w, i32_w]
            rfl
          refine pure_ (i := 9) (N := some 73) (v := ?_) (a' := ?_) #[true, true, true, false, true, true, true, false, false, true, false, false, false, false, false] rfl rfl (by kernel_rfl) (fun _ _ _ h => h) (Or.inl ⟨by rfl, ?_⟩) ?_ ?_
          rotate_left
          · intro w'
            go_simp
            with_reducible rfl
          rotate_left
          · simp only [Act.put, List.setIfInBounds_toArray, List.set_cons_zero, List.set_cons_succ, i64_w, i32_w]
            rfl
          refine pure_ (i := 10) (N := some 74) (v := ?_) (a' := ?_) #[true, true, true, false, true, true, true, false, false, true, true, false, false, false, false] rfl rfl (by kernel_rfl) (fun _ _ _ h => h) (Or.inl ⟨by rfl, ?_⟩) ?_ ?_
          rotate_left
          · intro w'
            go_simp
            with_reducible rfl
          rotate_left
          · simp only [Act.put, List.setIfInBounds_toArray, List.set_cons_zero, List.set_cons_succ, i64_w, i32_w]
            rfl
          refine pure_ (i := 12) (N := some 76) (v := ?_) (a' := ?_) #[true, true, true, false, true, true, true, false, false, true, true, false, true, false, false] rfl rfl (by kernel_rfl) (fun _ _ _ h => h) (Or.inl ⟨by rfl, ?_⟩) ?_ ?_
          rotate_left
          · intro w'
            go_simp
            with_reducible rfl
          rotate_left
          · simp only [Act.put, List.setIfInBounds_toArray, List.set_cons_zero, List.set_cons_succ, i64_w, i32_w]
            rfl
          refine take_ (i := 3) (N := some 67) (v := ?_) (a' := ?_) #[true, true, true, true, true, true, true, false, false, true, true, false, true, false, false] rfl rfl (by kernel_rfl) (fun _ _ _ h => h) (Or.inl ⟨by rfl, ?_⟩) hHeld ?_ ?_
          rotate_left
          · rintro w' ⟨s0, s1⟩
            go_simp
            with_reducible rfl
          rotate_left
          · simp only [Act.put, List.setIfInBounds_toArray, List.set_cons_zero, List.set_cons_succ, i64_w, i32_w]
            rfl
          refine take_ (i := 7) (N := some 71) (v := ?_) (a' := ?_) #[true, true, true, true, true, true, true, true, false, true, true, false, true, false, false] rfl rfl (by kernel_rfl) (fun _ _ _ h => h) (Or.inl ⟨by rfl, ?_⟩) hHeld ?_ ?_
          rotate_left
          · rintro w' ⟨s0, s1⟩
            go_simp
            with_reducible rfl
          rotate_left
          · simp only [Act.put, List.setIfInBounds_toArray, List.set_cons_zero, List.set_cons_succ, i64_w, i32_w]
            rfl
          refine pure_ (i := 8) (N := some 72) (v := ?_) (a' := ?_) #[true, true, true, true, true, true, true, true, true, true, true, false, true, false, false] rfl rfl (by kernel_rfl) (fun _ _ _ h => h) (Or.inl ⟨by rfl, ?_⟩) ?_ ?_
          rotate_left
          · intro w'
            go_simp
            with_reducible rfl
          rotate_left
          · simp only [Act.put, List.setIfInBounds_toArray, List.set_cons_zero, List.set_cons_succ, i64_w, i32_w]
            rfl
          refine pure_ (i := 11) (N := some 75) (v := ?_) (a' := ?_) #[true, true, true, true, true, true, true, true, true, true, true, true, true, false, false] rfl rfl (by kernel_rfl) (fun _ _ _ h => h) (Or.inl ⟨by rfl, ?_⟩) ?_ ?_
          rotate_left
          · intro w'
            go_simp
            with_reducible rfl
          rotate_left
          · simp only [Act.put, List.setIfInBounds_toArray, List.set_cons_zero, List.set_cons_succ, i64_w, i32_w]
            rfl
          refine last_ (i := 13) (N := some 77) #[true, true, true, true, true, true, true, true, true, true, true, true, true, true, false] rfl rfl (by kernel_rfl) (by decide) (fun K hK => ?_)
          refine goes_ Try.func27 (by kernel_rfl) rfl #[.pointer (some ⟨b, 0, none⟩), .int .i64 (at_ + 1 + (k : Int) / 64), .slice (some ⟨q, 0, none⟩) 64 kq] (by rfl) rfl rfl (by simp only [List.map_toArray, List.map_cons, List.map_nil]; rfl) ?_
          have hw := write_any b m si (at_ + 1 + (k : Int) / 64) (some ⟨q, 0, none⟩) kq (padB src) w3.drew (D1.out.step rfl rfl) (R3.out.bytes.fr (Fr.drew (Fr.refl (fun _ => False) w3)) (fun _ _ h => h)) (fun ad e => by cases e; exact HNE.out)
          rw [padB_len] at hw
          refine hw.mono ?_
          clear hw
          rintro e w4 ⟨rfl, hd, hf⟩
          refine ⟨_, rfl, ?_⟩
          have F3' : Fr (DB b m) w3 w4 := (Fr.drew (Fr.refl _ w3)).trans hf
          have J3 := Aside0.mk (J1.out.fr F3' (J1.out.ne D1.out))
          have D3 := Aside0.mk hd
          have R4 := Aside0.mk (R_frB R1.out F3' (by have := HLT.out; intro k hk; rcases hk with rfl | rfl <;> omega))
          have F3 := Aside0.mk (F1.out.trans F3')
          clear hd hf F3'
          refine hK.out _ _ ?_
          clear hK K
          refine norm_ (a' := ?_) ?_ ?_
          rotate_left
          · show Act.put _ (some 77) _ = _
            simp only [Act.put, List.setIfInBounds_toArray, List.set_cons_zero, List.set_cons_succ, i64_w, i32_w]
            rfl
          refine pure_ (i := 14) (N := some 11) (v := ?_) (a' := ?_) #[true, true, true, true, true, true, true, true, true, true, true, true, true, true, true] rfl rfl (by kernel_rfl) (fun _ _ _ h => h) (Or.inl ⟨by rfl, ?_⟩) ?_ ?_
          rotate_left
          · intro w'
            go_simp
            with_reducible rfl
          rotate_left
          · simp only [Act.put, List.setIfInBounds_toArray, List.set_cons_zero, List.set_cons_succ, i64_w, i32_w]
            rfl
          refine done_ (by kernel_rfl) ?_
          clear d0 d1 hw1 hw2 hw3 J1 D1 R1 F1 R3 HNE
          rcases HPS.out with ⟨hw0, hwn⟩ | ⟨hw2, hwn⟩
          · rw [hw0]
            have HN1 := Aside0.mk (show (wrs s ((preW at_ g l).take (l.length + (t + 1)))).2 = 0 from by rw [← Nat.add_assoc, hwn]; exact hw0)
            have HN2 := Aside0.mk (show DiskIs w4 b m (wrs s ((preW at_ g l).take (l.length + (t + 1)))).1 from by rw [← Nat.add_assoc, hwn]; exact D3.out)
            clear hw0 hwn
            go_wp2
            go_roundg (lisN l.length - (t + 1))
            case measure => have := HG.out; omega
            case rel => exact ⟨t + 1, k + 64, by go_num, ⟨by have := HK.out; omega⟩, by omega, ⟨rfl⟩, HN1, HN2, J3, F3, R4⟩
          · rw [hw2]
            have HC := Aside0.mk (show commitR s at_ g l = ((si.write (at_ + 1 + (k : Int) / 64) (padB src)).1, 2, g) from by
              rw [HCM.out, hwn, hw2, if_neg (by decide)])
            clear hw2 hwn
            go_wp2
            go_ret
            rw [HC.out]
            exact ⟨rfl, D3.out, J3.out, DB.to F3.out⟩
        · have htl : t = lisN l.length := by have := HN2.out; have := HK.out; unfold lisN at ht ⊢; omega
          subst htl
          have hlt2' : ¬ (k : Int) < (n2 : Int) := by omega
          have hps := pre_step HON.out HV.out (preW_head at_ g l) HE.out
          have hend : (preW at_ g l).take (l.length + lisN l.length + 1) = preW at_ g l := List.take_of_length_le (Nat.le_of_eq (preW_len at_ g l))
          rw [hend] at hps
          obtain ⟨si, hsi⟩ : ∃ si, si = (wrs s ((preW at_ g l).take (l.length + lisN l.length))).1 := ⟨_, rfl⟩
          rw [← hsi] at hps H
          have HPS := Aside0.mk hps
          have hwg : IntKind.i64.wrap (g + 1) = g + 1 := IntWalk.i64_in _ (by omega)
          clear hps hend hsi HK
          have d0 := HJ.out.c0
          have d1 := HJ.out.c1
          have d2 := HJ.out.c2
          go_upto_region 20 with (fail)
          refine start_ (n := 18) (S := fun w' => w'.cell? ⟨jb, 0, none⟩ = some (.pointer (some ⟨b, 0, none⟩)) ∧ w'.cell? ⟨jb, 1, none⟩ = some (.int .i64 at_) ∧ w'.cell? ⟨jb, 2, none⟩ = some (.int .i64 g)) (ds := [16]) #[false, false, false, false, false, false, false, false, false, false, false, false, false, false, false, false, false, false] (by kernel_rfl) rfl rfl ⟨d0, d1, d2⟩ (fun hHeld => ?_)
          refine pure_ (i := 0) (N := some 81) (v := ?_) (a' := ?_) #[true, false, false, false, false, false, false, false, false, false, false, false, false, false, false, false, false, false] rfl rfl (by kernel_rfl) (fun _ _ _ h => h) (Or.inl ⟨by rfl, ?_⟩) ?_ ?_
          rotate_left
          · intro w'
            go_simp
            with_reducible rfl
          rotate_left
          · simp only [Act.put, List.setIfInBounds_toArray, List.set_cons_zero, List.set_cons_succ, i64_w, i32_w]
            rfl
          refine pure_ (i := 1) (N := some 82) (v := ?_) (a' := ?_) #[true, true, false, false, false, false, false, false, false, false, false, false, false, false, false, false, false, false] rfl rfl (by kernel_rfl) (fun _ _ _ h => h) (Or.inl ⟨by rfl, ?_⟩) ?_ ?_
          rotate_left
          · intro w'
            go_simp
            with_reducible rfl
          rotate_left
          · simp only [Act.put, List.setIfInBounds_toArray, List.set_cons_zero, List.set_cons_succ, i64_w, i32_w]
            rfl
          refine pure_ (i := 2) (N := some 83) (v := ?_) (a' := ?_) #[true, true, true, false, false, false, false, false, false, false, false, false, false, false, false, false, false, false] rfl rfl (by kernel_rfl) (fun _ _ _ h => h) (Or.inl ⟨by rfl, ?_⟩) ?_ ?_
          rotate_left
          · intro w'
            go_simp
            with_reducible rfl
          rotate_left
          · simp only [Act.put, List.setIfInBounds_toArray, List.set_cons_zero, List.set_cons_succ, i64_w, i32_w]
            rfl
          refine pure_ (i := 4) (N := some 85) (v := ?_) (a' := ?_) #[true, true, true, false, true, false, false, false, false, false, false, false, false, false, false, false, false, false] rfl rfl (by kernel_rfl) (fun _ _ _ h => h) (Or.inl ⟨by rfl, ?_⟩) ?_ ?_
          rotate_left
          · intro w'
            go_simp
            with_reducible rfl
          rotate_left
          · simp only [Act.put, List.setIfInBounds_toArray, List.set_cons_zero, List.set_cons_succ, i64_w, i32_w]
            rfl
          refine pure_ (i := 5) (N := some 86) (v := ?_) (a' := ?_) #[true, true, true, false, true, true, false, false, false, false, false, false, false, false, false, false, false, false] rfl rfl (by kernel_rfl) (fun _ _ _ h => h) (Or.inl ⟨by rfl, ?_⟩) ?_ ?_
          rotate_left
          · intro w'
            go_simp
            with_reducible rfl
          rotate_left
          · simp only [Act.put, List.setIfInBounds_toArray, List.set_cons_zero, List.set_cons_succ, i64_w, i32_w]
            rfl
          refine pure_ (i := 6) (N := some 87) (v := ?_) (a' := ?_) #[true, true, true, false, true, true, true, false, false, false, false, false, false, false, false, false, false, false] rfl rfl (by kernel_rfl) (fun _ _ _ h => h) (Or.inl ⟨by rfl, ?_⟩) ?_ ?_
          rotate_left
          · intro w'
            go_simp
            with_reducible rfl
          rotate_left
          · simp only [Act.put, List.setIfInBounds_toArray, List.set_cons_zero, List.set_cons_succ, i64_w, i32_w]
            rfl
          refine pure_ (i := 8) (N := some 89) (v := ?_) (a' := ?_) #[true, true, true, false, true, true, true, false, true, false, false, false, false, false, false, false, false, false] rfl rfl (by kernel_rfl) (fun _ _ _ h => h) (Or.inl ⟨by rfl, ?_⟩) ?_ ?_
          rotate_left
          · intro w'
            go_simp
            with_reducible rfl
          rotate_left
          · simp only [Act.put, List.setIfInBounds_toArray, List.set_cons_zero, List.set_cons_succ, i64_w, i32_w]
            rfl
          refine pure_ (i := 9) (N := some 90) (v := ?_) (a' := ?_) #[true, true, true, false, true, true, true, false, true, true, false, false, false, false, false, false, false, false] rfl rfl (by kernel_rfl) (fun _ _ _ h => h) (Or.inl ⟨by rfl, ?_⟩) ?_ ?_
          rotate_left
          · intro w'
            go_simp
            with_reducible rfl
          rotate_left
          · simp only [Act.put, List.setIfInBounds_toArray, List.set_cons_zero, List.set_cons_succ, i64_w, i32_w]
            rfl
          refine pure_ (i := 10) (N := some 91) (v := ?_) (a' := ?_) #[true, true, true, false, true, true, true, false, true, true, true, false, false, false, false, false, false, false] rfl rfl (by kernel_rfl) (fun _ _ _ h => h) (Or.inl ⟨by rfl, ?_⟩) ?_ ?_
          rotate_left
          · intro w'
            go_simp
            with_reducible rfl
          rotate_left
          · simp only [Act.put, List.setIfInBounds_toArray, List.set_cons_zero, List.set_cons_succ, i64_w, i32_w]
            rfl
          refine pure_ (i := 13) (N := some 94) (v := ?_) (a' := ?_) #[true, true, true, false, true, true, true, false, true, true, true, false, false, true, false, false, false, false] rfl rfl (by kernel_rfl) (fun _ _ _ h => h) (Or.inl ⟨by rfl, ?_⟩) ?_ ?_
          rotate_left
          · intro w'
            go_simp
            with_reducible rfl
          rotate_left
          · simp only [Act.put, List.setIfInBounds_toArray, List.set_cons_zero, List.set_cons_succ, i64_w, i32_w]
            rfl
          refine pure_ (i := 14) (N := some 95) (v := ?_) (a' := ?_) #[true, true, true, false, true, true, true, false, true, true, true, false, false, true, true, false, false, false] rfl rfl (by kernel_rfl) (fun _ _ _ h => h) (Or.inl ⟨by rfl, ?_⟩) ?_ ?_
          rotate_left
          · intro w'
            go_simp
            with_reducible rfl
          rotate_left
          · simp only [Act.put, List.setIfInBounds_toArray, List.set_cons_zero, List.set_cons_succ, i64_w, i32_w]
            rfl
          refine take_ (i := 3) (N := some 84) (v := ?_) (a' := ?_) #[true, true, true, true, true, true, true, false, true, true, true, false, false, true, true, false, false, false] rfl rfl (by kernel_rfl) (fun _ _ _ h => h) (Or.inl ⟨by rfl, ?_⟩) hHeld ?_ ?_
          rotate_left
          · rintro w' ⟨s0, s1, s2⟩
            go_simp
            with_reducible rfl
          rotate_left
          · simp only [Act.put, List.setIfInBounds_toArray, List.set_cons_zero, List.set_cons_succ, i64_w, i32_w]
            rfl
          refine take_ (i := 7) (N := some 88) (v := ?_) (a' := ?_) #[true, true, true, true, true, true, true, true, true, true, true, false, false, true, true, false, false, false] rfl rfl (by kernel_rfl) (fun _ _ _ h => h) (Or.inl ⟨by rfl, ?_⟩) hHeld ?_ ?_
          rotate_left
          · rintro w' ⟨s0, s1, s2⟩
            go_simp
            with_reducible rfl
          rotate_left
          · simp only [Act.put, List.setIfInBounds_toArray, List.set_cons_zero, List.set_cons_succ, i64_w, i32_w]
            rfl
          refine take_ (i := 11) (N := some 92) (v := ?_) (a' := ?_) #[true, true, true, true, true, true, true, true, true, true, true, true, false, true, true, false, false, false] rfl rfl (by kernel_rfl) (fun _ _ _ h => h) (Or.inl ⟨by rfl, ?_⟩) hHeld ?_ ?_
          rotate_left
          · rintro w' ⟨s0, s1, s2⟩
            go_simp
            with_reducible rfl
          rotate_left
          · simp only [Act.put, List.setIfInBounds_toArray, List.set_cons_zero, List.set_cons_succ, i64_w, i32_w]
            rfl
          refine pure_ (i := 12) (N := some 93) (v := ?_) (a' := ?_) #[true, true, true, true, true, true, true, true, true, true, true, true, true, true, true, false, false, false] rfl rfl (by kernel_rfl) (fun _ _ _ h => h) (Or.inl ⟨by rfl, ?_⟩) ?_ ?_
          rotate_left
          · intro w'
            go_simp
            with_reducible rfl
          rotate_left
          · simp only [Act.put, List.setIfInBounds_toArray, List.set_cons_zero, List.set_cons_succ, i64_w, i32_w]
            rfl
          refine one_ (i := 15) (N := some 96) #[true, true, true, true, true, true, true, true, true, true, true, true, true, true, true, true, false, false] rfl rfl (by kernel_rfl) (by decide) (fun K hK => ?_)
          refine goes_ Try.func28 (by kernel_rfl) rfl #[.int .i64 (g + 1), .int .i64 (l.length : Int)] (by rfl) rfl rfl (by simp only [List.map_toArray, List.map_cons, List.map_nil]; rfl) ?_
          refine (head_any (g + 1) (l.length : Int) wr.drew).mono ?_
          rintro e w2 ⟨q, kq, rfl, hq, hr, hb⟩
          refine ⟨_, rfl, ?_⟩
          have hb' : Below wr.heap.size wr w2 := ⟨hb.os, hb.tape, hb.output, hb.size, hb.block⟩
          have R2 := Aside0.mk hr
          have HJ2 := Aside0.mk (HJ.out.below hb')
          have H2 := Aside0.mk (H.out.below hb')
          have F2 := Aside0.mk (HF.out.trans (Fr.of_below hb'))
          have HNE := Aside0.mk (show q ≠ b by have := H.out.lt; have hq' : wr.heap.size ≤ q := hq; omega)
          clear hq hr hb hb'
          refine hK.out _ _ ⟨HJ2.out.c0, HJ2.out.c1, HJ2.out.c2⟩ (fun hHeld => ?_)
          clear hK K
          refine norm_ (a' := ?_) ?_ ?_
          rotate_left
          · show Act.put _ (some 96) _ = _
            simp only [Act.put, List.setIfInBounds_toArray, List.set_cons_zero, List.set_cons_succ, i64_w, i32_w]
            rfl
          refine last_ (i := 16) (N := some 97) #[true, true, true, true, true, true, true, true, true, true, true, true, true, true, true, true, true, false] rfl rfl (by kernel_rfl) (by decide) (fun K hK => ?_)
          refine goes_ Try.func27 (by kernel_rfl) rfl #[.pointer (some ⟨b, 0, none⟩), .int .i64 at_, .slice (some ⟨q, 0, none⟩) 64 kq] (by rfl) rfl rfl (by simp only [List.map_toArray, List.map_cons, List.map_nil]; rfl) ?_
          have hw := write_any b m si at_ (some ⟨q, 0, none⟩) kq (headB (g + 1) (l.length : Int)) w2 H2.out R2.out.bytes (fun ad e => by cases e; exact HNE.out)
          rw [headB_len] at hw
          refine hw.mono ?_
          clear hw
          rintro e w3 ⟨rfl, hd, hf⟩
          refine ⟨_, rfl, ?_⟩
          have HJ3 := Aside0.mk (HJ2.out.fr hf (HJ2.out.ne H2.out))
          have H3 := Aside0.mk hd
          have F3 := Aside0.mk (F2.out.trans hf)
          clear hd hf
          refine hK.out _ _ ?_
          clear hK K
          refine norm_ (a' := ?_) ?_ ?_
          rotate_left
          · show Act.put _ (some 97) _ = _
            simp only [Act.put, List.setIfInBounds_toArray, List.set_cons_zero, List.set_cons_succ, i64_w, i32_w]
            rfl
          refine pure_ (i := 17) (N := some 12) (v := ?_) (a' := ?_) #[true, true, true, true, true, true, true, true, true, true, true, true, true, true, true, true, true, true] rfl rfl (by kernel_rfl) (fun _ _ _ h => h) (Or.inl ⟨by rfl, ?_⟩) ?_ ?_
          rotate_left
          · intro w'
            go_simp
            with_reducible rfl
          rotate_left
          · simp only [Act.put, List.setIfInBounds_toArray, List.set_cons_zero, List.set_cons_succ, i64_w, i32_w]
            rfl
          refine done_ (by kernel_rfl) ?_
          clear d0 d1 d2
          rcases HPS.out with ⟨hw0, hwn⟩ | ⟨hw2, hwn⟩
          · rw [hw0]
            have c2 := HJ3.out.c2
            have f2 := HJ3.out.f2
            have hjne := HJ3.out.ne H3.out
            have HJ4 := Aside0.mk (HJ3.out.put (g + 1))
            have H4 := Aside0.mk (H3.out.step (W' := w3.setCell ⟨jb, 2, none⟩ (.int .i64 (g + 1))) (Below.heap_setCell _ _ _ _ (fun e => hjne (.inl e.symm))) (Below.heap_setCell _ _ _ _ (fun e => hjne (.inr e.symm))))
            have F4 := Aside0.mk (Fr.cell (DB.to (jb := jb) F3.out) jb 2 (.inr (.inr rfl)) (.int .i64 (g + 1)))
            by_cases hz : l.length = 0
            · have HC := Aside0.mk (show commitR s at_ g l = ((si.write at_ (headB (g + 1) (l.length : Int))).1, 0, g + 1) from by
                rw [HCM.out, hwn, if_pos hw0, if_pos hz])
              have hz' : ((l.length : Int) == 0) = true := by simp only [beq_iff_eq]; omega
              clear hw0 hwn hz hjne
              go_wp2
              go_ret
              rw [HC.out]
              exact ⟨rfl, H4.out, HJ4.out, F4.out⟩
            · have hst := wrs_state HON.out HV.out (by rw [hwn]; exact hw0)
              have HC := Aside0.mk (show commitR s at_ g l = ((wrs (si.write at_ (headB (g + 1) (l.length : Int))).1 (l ++ [(at_, headB (g + 1) 0)])).1, (wrs (si.write at_ (headB (g + 1) (l.length : Int))).1 (l ++ [(at_, headB (g + 1) 0)])).2, g + 1) from by
                rw [HCM.out, hwn, if_pos hw0, if_neg hz])
              rw [hwn] at hst
              have HT := Aside0.mk (show Tells (si.write at_ (headB (g + 1) (l.length : Int))).1.has at_ (si.write at_ (headB (g + 1) (l.length : Int))).1.len l from by
                rw [hst.2.2, hst.2.1]
                exact preW_tells s.has HM.out HLN.out.2)
              have HST := Aside0.mk hst
              have hz' : ((l.length : Int) == 0) = false := by simp only [beq_eq_false_iff_ne]; omega
              clear hw0 hwn hz hjne hst
              go_wp2_with fail
              refine (finish_any jb b m _ at_ (g + 1) l _ HJ4.out H4.out HST.out.1 h0 (by rw [HST.out.2.1]; exact HLN.out.1) (by rw [HST.out.2.1]; exact HLN.out.2) hn192 HT.out).mono ?_
              rintro e w5 ⟨rfl, hd, hj, hf⟩
              have HD5 := Aside0.mk hd
              have HJ5 := Aside0.mk hj
              have F5 := Aside0.mk (F4.out.trans (DB.to hf))
              clear hd hj hf c2 f2 hwg
              go_wp2
              go_ret
              rw [HC.out]
              exact ⟨rfl, HD5.out, HJ5.out, F5.out⟩
          · rw [hw2]
            have HC := Aside0.mk (show commitR s at_ g l = ((si.write at_ (headB (g + 1) (l.length : Int))).1, 2, g) from by
              rw [HCM.out, hwn, hw2, if_neg (by decide)])
            clear hw2 hwn hwg
            go_wp2
            go_ret
            rw [HC.out]
            exact ⟨rfl, H3.out, HJ3.out, DB.to F3.out⟩
end Go.Proofs.Ytmfndobdkihbnaa.Dk
