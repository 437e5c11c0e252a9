/-
  The walk of the statement DiskPlays.
-/
import Derived.Test.YtcgcojdkkkfkdaaDk
import Derived.Deep.DeepCutAuto
namespace Go.Proofs.Ytcgcojdkkkfkdaa.Dk
open Go.RowKit Go.MapKept Go.Proofs.YtcgcojdkkkfkdaaW.PrintWords Go.Proofs.YtcgcojdkkkfkdaaW.PrintLast Go.Proofs.YtcgcojdkkkfkdaaW.PrintMore
set_option linter.unusedVariables false
set_option linter.unusedSimpArgs false

abbrev OpT := Int × Int × Int × Int
def kO : Kd OpT := Kd.pair (Kd.int .i64) (Kd.pair (Kd.int .i64) (Kd.pair (Kd.int .i64) (Kd.int .u8)))
theorem kO_open {w : World} {x : OpT} {cs : List Value} (h : kO.K w x cs) : cs = [.int .i64 x.1, .int .i64 x.2.1, .int .i64 x.2.2.1, .int .u8 x.2.2.2] := by
  obtain ⟨_, _, rfl, rfl, ⟨_, _, rfl, rfl, ⟨_, _, rfl, rfl, rfl⟩⟩⟩ := h
  exact rfl
def rdO (xs : List OpT) (i : Nat) : OpT := xs.getD i (0, 0, 0, 0)
theorem at_O {w : World} {A : Option Addr} {n : Nat} {xs : List OpT} (h : Kd.C kO w A n xs) (i : Nat) (h1 : i < n) : ∃ ad, A = some ad ∧ w.cell? (ad.add (i * 4)) = some (.int .i64 (rdO xs i).1) ∧ w.cell? ⟨(ad.add (i * 4)).block, (ad.add (i * 4)).off + 1, none⟩ = some (.int .i64 (rdO xs i).2.1) ∧ w.cell? ⟨(ad.add (i * 4)).block, (ad.add (i * 4)).off + 2, none⟩ = some (.int .i64 (rdO xs i).2.2.1) ∧ w.cell? ⟨(ad.add (i * 4)).block, (ad.add (i * 4)).off + 3, none⟩ = some (.int .u8 (rdO xs i).2.2.2) := by
  obtain ⟨ad, c, e, _, hK, hc0⟩ := Kd.C_get h (0, 0, 0, 0) (i : Int) (by omega) (by omega)
  rw [Int.toNat_natCast] at hK hc0
  have hc : ∀ j u, c[j]? = some u → w.cell? (ad.add (i * 4 + j)) = some u := hc0
  obtain rfl := kO_open hK
  exact ⟨ad, e, hc 0 _ rfl, by rw [← add_field _ _ 1 (by omega)]; exact hc 1 _ rfl, by rw [← add_field _ _ 2 (by omega)]; exact hc 2 _ rfl, by rw [← add_field _ _ 3 (by omega)]; exact hc 3 _ rfl⟩
theorem RefIs.row_base {W : World} {b a c base : Nat} {s : RS} (h : RefIs W b a c base s) (hp : 0 < s.B.length) : base ≤ a := by
  obtain ⟨_, _, xs, h3, h4, _⟩ := h
  obtain ⟨g, cap, e, hg, _⟩ := Kd.R_form h4 (by omega)
  injection e with e1 _ _
  injection e1 with e1
  injection e1 with e1
  omega
def kindv (c n : Int) : Int := if c < 0 then Int.tmod (wrap64 (-(wrap64 (c + 1)))) n else Int.tmod c n
theorem kind_any (c n : Int) (hn : n ≠ 0) (w : World) : Calls Try.prog 14 #[.int .i64 c, .int .i64 n] w fun e w' => e = .returned (.int .i64 (kindv c n)) ∧ Drawn0 w w' := by
  refine PDiskPlays.majordomolaw01_kind.calls c n (kindv c n) w ?_
  unfold PDiskPlays.majordomolaw01_kind.f kindv
  by_cases h : c < 0
  · rw [if_pos h, if_pos h, if_neg hn]
  · rw [if_neg h, if_neg h, if_neg hn]
theorem kindv_range (c n : Int) (hc : -9223372036854775808 ≤ c ∧ c ≤ 9223372036854775807) (hn : 0 < n) : 0 ≤ kindv c n ∧ kindv c n < n := by
  unfold kindv
  split
  · have e1 : wrap64 (c + 1) = c + 1 := by rw [← i64_w]; exact IntWalk.i64_in _ (by omega)
    have e2 : wrap64 (-(c + 1)) = -(c + 1) := by rw [← i64_w]; exact IntWalk.i64_in _ (by omega)
    rw [e1, e2]
    exact ⟨Int.tmod_nonneg _ (by omega), Int.tmod_lt_of_pos _ hn⟩
  · exact ⟨Int.tmod_nonneg _ (by omega), Int.tmod_lt_of_pos _ hn⟩

/-- A row of bytes of the call's own, by its block. -/
structure Row (W : World) (q m k base : Nat) (bs : List Int) : Prop where
  len : bs.length = m
  row : Kd.R (Kd.int .u8) 5 W base (fun b => b = q) (.slice (some ⟨q, 0, none⟩) m k) bs
  low : base ≤ q
  typed : ∃ cs, W.heap[q]? = some (.cells cs 5 (0, 0))
theorem Row.of_R {W : World} {base b : Nat} {v : Value} {bs : List Int} (h : Kd.R (Kd.int .u8) 5 W base (fun _ => True) v bs) (hv : v.ownBlock = some b) : ∃ k, v = .slice (some ⟨b, 0, none⟩) bs.length k ∧ Row W b bs.length k base bs := by
  obtain ⟨inner, ho⟩ := Kd.R_own h
  obtain ⟨cells, hc⟩ := own_typed ho b hv
  rcases ho.2 with ⟨e, _⟩ | ⟨g, cap, cur, e, hg, _⟩
  · rw [e] at hv; simp [Value.ownBlock] at hv
  · have : g = b := by rw [e] at hv; simpa [Value.ownBlock] using hv
    subst this
    refine ⟨cap, e, rfl, ?_, hg, cells, hc⟩
    rw [← e]
    exact ⟨fun k hk => by rw [hv] at hk; exact (Option.some.inj hk).symm, h.2.imp_ (fun _ _ hM => hM)⟩
theorem Row.fr {W W' : World} {q m k base : Nat} {bs : List Int} {S : Nat → Prop} (h : Row W q m k base bs) (hf : Fr S W W') (hS : ¬ S q) : Row W' q m k base bs := by
  obtain ⟨cs, hq⟩ := h.typed
  exact ⟨h.len, Kd.R_step h.row (fun b hb hlt => hf.block b hlt (by rw [hb]; exact hS)), h.low, cs, (hf.block q (blk_lt hq) hS).trans hq⟩
theorem Row.below {W W' : World} {q m k base : Nat} {bs : List Int} (h : Row W q m k base bs) (hb : Below W.heap.size W W') : Row W' q m k base bs := h.fr (Fr.of_below (S := fun _ => False) hb) (fun h => h)
theorem Row.bytes {W : World} {q m k base : Nat} {bs : List Int} (h : Row W q m k base bs) : BytesAt W (some ⟨q, 0, none⟩) bs := by
  obtain ⟨e, _, hC⟩ := Kd.R_reads' h.row
  exact BytesAt.of_C hC
theorem Row.put {W : World} {q m k base : Nat} {bs : List Int} (h : Row W q m k base bs) (i : Int) (x : Int) : Row (W.setCell ⟨q, i.toNat, none⟩ (.int .u8 x)) q m k base (bs.set i.toNat x) := by
  obtain ⟨cs, hq⟩ := h.typed
  have hr := (Kd.R_putg h.row i x).1
  exact ⟨by rw [List.length_set]; exact h.len, hr, h.low, by
    simp [World.setCell, Array.getElem?_modify, hq]⟩
theorem Row.cell {W : World} {q m k base : Nat} {bs : List Int} (h : Row W q m k base bs) (i : Nat) (hi : i < m) : (∃ x, W.cell? ⟨q, i, none⟩ = some (.int .u8 x)) ∧ W.frozen? ⟨q, i, none⟩ = false := by
  obtain ⟨e1, e2⟩ := Kd.R_celln 0 h.row (i : Int) (by omega) (by omega)
  rw [Int.toNat_natCast] at e1 e2
  exact ⟨⟨_, e1⟩, e2⟩

set_option maxHeartbeats 16000000 in
set_option maxRecDepth 100000 in
theorem lawDisk_any (n : Int) (A : Option Addr) (c : Nat) (l : List OpT) (w : World) (hl : Kd.C kO w A l.length l) (hG : ∀ x ∈ l, (-9223372036854775808 ≤ x.1 ∧ x.1 ≤ 9223372036854775807) ∧ (-9223372036854775808 ≤ x.2.2.1 ∧ x.2.2.1 ≤ 9223372036854775807)) (h63 : l.length ≤ 9223372036854775806) :
    Calls Try.prog 3 #[.int .i64 n, .slice A l.length c] w fun e w' => e = .returned (.bool true) ∧ Below w.heap.size w w' := by
  have HL := Aside0.mk hl
  have HGG := Aside0.mk hG
  clear hl hG
  go_enter Try.func3, Try.ntmps3
  go_wp2_with fail
  refine (dshown_any w).mono ?_
  rintro e w1 ⟨rfl, hb1⟩
  have B1 := Aside0.mk hb1
  clear hb1
  go_wp2_with fail
  refine (new_any n w1).mono ?_
  rintro e w2 (⟨hn1, hn2, xb, xm, rfl, hd, hxb, hxm, hb2⟩ | ⟨hn, rfl, rfl⟩)
  case inr =>
    have HN := Aside0.mk hn
    clear hn
    go_wp2_with fail
    refine (rnew_any n w2).mono ?_
    rintro e w3 (⟨h1, h2, _⟩ | ⟨_, rfl, rfl⟩)
    case inl => exact absurd ⟨h1, h2⟩ HN.out
    go_wp2
    go_ret
    exact ⟨rfl, B1.out⟩
  have HN := Aside0.mk (And.intro hn1 hn2)
  have HX := Aside0.mk hd
  have B2 := Aside0.mk (below_step B1.out hb2)
  have HXS := Aside0.mk (And.intro hxb hxm)
  have S1 := B1.out.size
  clear hd hb2 hn1 hn2 hxb hxm
  go_wp2_with fail
  refine (rnew_any n w2).mono ?_
  rintro e w3 (⟨_, _, yb, ya, yc, rfl, hy, hb3⟩ | ⟨h, _⟩)
  case inr => exact absurd HN.out h
  have HY := Aside0.mk hy
  have B3 := Aside0.mk (below_step B2.out hb3)
  have HX3 := Aside0.mk (HX.out.below hb3)
  have hlx : 0 < (RS.new n.toNat).B.length := by have := HN.out; simp [RS.new]; omega
  have HLX := Aside0.mk hlx
  have S3 := Aside0.mk (And.intro hb3.size B2.out.size)
  clear hy hb3 HX hlx
  go_wp2_with fail
  refine (clone_any xb xm (FS.new n) w3 HX3.out).mono ?_
  rintro e w4 ⟨zb, zm, rfl, hz, hzb, hzm, hb4⟩
  have HZ := Aside0.mk hz
  have HX4 := Aside0.mk (HX3.out.below hb4)
  have HY4 := Aside0.mk (HY.out.below hb4)
  have B4 := Aside0.mk (below_step B3.out hb4)
  have S4 := Aside0.mk (And.intro hzb (And.intro hzm hb4.size))
  have L4 := Aside0.mk (And.intro HX3.out.lt HX3.out.2.1.lt)
  clear hz hzb hzm hb4
  go_wp2_with fail
  refine (rclone_any yb ya yc w2.heap.size (RS.new n.toNat) w4 HY4.out HLX.out (by have := HN.out; simp [RS.new]; omega)).mono ?_
  rintro e w5 ⟨wb, wa, wc, rfl, hw, hwa, hb5⟩
  have ST : St w w5 ⟨xb, xm, zb, zm, yb, ya, yc, w2.heap.size, wb, wa, wc, w4.heap.size⟩ ⟨FS.new n, FS.new n, RS.new n.toNat, RS.new n.toNat⟩ none := by
    have s0 := B1.out.size
    have s3 := S3.out
    have s4 := S4.out
    have l4 := L4.out
    have xs := HXS.out
    have l5 := HY4.out.lt
    obtain ⟨cy, hyr⟩ := HY4.out.row HLX.out
    have l6 := blk_lt hyr
    have l7 := hw.2.1
    have l8 := HY4.out.2.1
    exact { x := HX4.out.below hb5, z := HZ.out.below hb5, y := HY4.out.below hb5, w := hw, lx := HLX.out, lz := HLX.out, n1 := by show xb ≠ zb; omega, n2 := by show xm ≠ zm; omega, n3 := by show yb ≠ wb; omega, n4 := by show ya ≠ wa; omega, b1 := by show _ ≤ xb; omega, b2 := by show _ ≤ xm; omega, b3 := by show _ ≤ yb; omega, b4 := by show _ ≤ ya; have := HY4.out.row_base HLX.out; omega, bb := below_step B4.out hb5, o := fun _ _ e => by cases e }
  have HST := Aside0.mk ST
  clear ST hw hwa hb5 HX3 HX4 HY HY4 HZ B1 B2 B3 B4 S3 S4 L4 HXS HLX
  go_wp2
  have HLK := Aside0.mk (show Like (FS.new n) (RS.new n.toNat) from Like.new n HN.out.1 HN.out.2)
  go_loopg [6, 8, 10, 11, 12] l.length (fun g v6 v8 v10 v11 v12 wr => ∃ (k : Nat) (p : Pt) (d : Dt), v12 = .int .i64 k ∧ k ≤ l.length ∧ v6 = .pointer (some ⟨p.xb, 0, none⟩) ∧ v8 = .pointer (some ⟨p.yb, 0, none⟩) ∧ v10 = .pointer (some ⟨p.zb, 0, none⟩) ∧ v11 = .pointer (some ⟨p.wb, 0, none⟩) ∧ Aside0 (g = l.length - k) ∧ Aside0 (St w wr p d none) ∧ Aside0 (Like d.sx d.rx ∧ Like d.sz d.rz))
  case atStart => exact ⟨0, _, _, rfl, Nat.zero_le _, rfl, rfl, rfl, rfl, ⟨rfl⟩, HST, ⟨HLK.out, HLK.out⟩⟩
  case round =>
    clear HST HLK HN
    obtain ⟨k, p, d, rfl, hk, rfl, rfl, rfl, rfl, HGM, HS, HLK⟩ := hrel
    by_cases hlt : k < l.length
    case neg =>
      have hlt' : ¬ (k : Int) < (l.length : Int) := by omega
      go_wp2
      go_ret
      exact ⟨rfl, HS.out.bb⟩
    have hlt' : (k : Int) < (l.length : Int) := by omega
    obtain ⟨ad, rfl, q0, q1, q2, q3⟩ := at_O (Kd.C_below HL.out HS.out.bb) k (by omega)
    have hgk := HGG.out (rdO l k) (by unfold rdO; rw [List.getD_eq_getElem?_getD, List.getElem?_eq_getElem hlt]; exact List.getElem_mem hlt)
    obtain ⟨⟨oK, oA, oN, oB⟩, ho⟩ : ∃ x : OpT, x = rdO l k := ⟨_, rfl⟩
    rw [← ho] at q0 q1 q2 q3 hgk
    have HKB := Aside0.mk hgk
    clear ho hgk
    go_wp2_with fail
    obtain ⟨oc, hoc⟩ : ∃ oc : Array Value, oc = #[Value.int IntKind.i64 oK, Value.int IntKind.i64 oA, Value.int IntKind.i64 oN, Value.int IntKind.u8 oB] := ⟨_, rfl⟩
    rw [← hoc]
    have hs0 : St w (wr.alloc (.cells oc 34)) p d (some (wr.heap.size, oc)) := { (HS.out.below ((Below.refl wr.heap.size wr).alloc (Nat.le_refl _) (.cells oc 34))) with o := fun ob oc' e => by cases e; exact Go.heap_alloc_new wr _ }
    obtain ⟨wo, hwo⟩ : ∃ wo, wo = wr.alloc (.cells oc 34) := ⟨_, rfl⟩
    rw [← hwo] at hs0 ⊢
    have H0 := Aside0.mk hs0
    have HOC := Aside0.mk hoc
    clear hs0 hwo hoc HS q0 q1 q2 q3
    have hki := kind_any oK 8 (by decide) wo
    obtain ⟨kd, hkd⟩ : ∃ kd, kd = kindv oK 8 := ⟨_, rfl⟩
    have hkr := kindv_range oK 8 HKB.out.1 (by decide)
    rw [← hkd] at hki hkr
    have HKD := Aside0.mk hkd
    refine hki.mono ?_
    clear hki hkd
    rintro e w1 ⟨rfl, hdr⟩
    obtain ⟨m1, rfl⟩ := hdr
    have hs1 := H0.out.below (pw_below_drewN (Below.refl wo.heap.size wo) m1)
    obtain ⟨w1, hw1⟩ : ∃ w1, w1 = wo.drewN m1 := ⟨_, rfl⟩
    rw [← hw1] at hs1 ⊢
    have H1 := Aside0.mk hs1
    clear hs1 hw1 H0
    have HCL : Aside0 (∀ W pp dd, St w W pp dd (some (wr.heap.size, oc)) → W.cell? ⟨wr.heap.size, 0, none⟩ = some (.int .i64 oK) ∧ W.cell? ⟨wr.heap.size, 1, none⟩ = some (.int .i64 oA) ∧ W.cell? ⟨wr.heap.size, 2, none⟩ = some (.int .i64 oN) ∧ W.cell? ⟨wr.heap.size, 3, none⟩ = some (.int .u8 oB)) := ⟨fun W pp dd h => ⟨h.cell 0 _ (by rw [HOC.out]; rfl), h.cell 1 _ (by rw [HOC.out]; rfl), h.cell 2 _ (by rw [HOC.out]; rfl), h.cell 3 _ (by rw [HOC.out]; rfl)⟩⟩
    have hcases : kd = 0 ∨ kd = 1 ∨ kd = 2 ∨ kd = 3 ∨ kd = 4 ∨ kd = 5 ∨ kd = 6 ∨ kd = 7 := by omega
    clear hkr HOC
    rcases hcases with h | h | h | h | h | h | h | h
    · subst h
      obtain ⟨x10, x11, x12, x13⟩ := HCL.out _ _ _ H1.out
      go_wp2_with fail
      refine (full_any oB w1).mono ?_
      rintro e w2 ⟨q0, kq0, rfl, hR, hq1, hby, hb2⟩
      have H2 := Aside0.mk (H1.out.below hb2)
      obtain ⟨kq', hv', hrow⟩ := Row.of_R hR rfl
      injection hv' with e1 e2 e3
      clear e2
      subst e3
      rw [List.length_replicate] at hrow
      have RW := Aside0.mk hrow
      have HQ := Aside0.mk (show w.heap.size ≤ q0 by have := H1.out.bb.size; omega)
      have AV := Aside0.mk (And.intro ((H1.out.y.avoid_new hq1).step (hb2.block _ H1.out.rows.1)) ((H1.out.w.avoid_new hq1).step (hb2.block _ H1.out.rows.2)))
      clear hrow
      clear hR hq1 hby hb2 H1
      clear x10 x11 x12 x13
      obtain ⟨x20, x21, x22, x23⟩ := HCL.out _ _ _ H2.out
      go_wp2_with fail
      have hki := kind_any oK 8 (by decide) w2
      rw [← HKD.out] at hki
      refine hki.mono ?_
      clear hki
      rintro e w3 ⟨rfl, m3, rfl⟩
      have H3 := Aside0.mk (H2.out.below (pw_below_drewN (Below.refl w2.heap.size w2) m3))
      have R3 := Aside0.mk (RW.out.below (pw_below_drewN (Below.refl w2.heap.size w2) m3))
      have AV3 := Aside0.mk (show Avoid (w2.drewN m3) p.ya d.rx.B.length q0 ∧ Avoid (w2.drewN m3) p.wa d.rz.B.length q0 from ⟨AV.out.1.step rfl, AV.out.2.step rfl⟩)
      clear AV RW
      obtain ⟨w3, hw3⟩ : ∃ w3, w3 = w2.drewN m3 := ⟨_, rfl⟩
      rw [← hw3] at H3 R3 AV3 ⊢
      clear hw3 H2
      clear x20 x21 x22 x23
      obtain ⟨x30, x31, x32, x33⟩ := HCL.out _ _ _ H3.out
      obtain ⟨bs, hbs⟩ : ∃ bs, bs = List.replicate 64 oB := ⟨_, rfl⟩
      rw [← hbs] at R3
      clear hbs
      have HLN := R3.out.len
      have HLEN := Aside0.mk HLN
      clear HLN
      go_wp2_with fail
      have hwr := write_any p.xb p.xm d.sx oA (some ⟨q0, 0, none⟩) kq0 bs w3 H3.out.x R3.out.bytes (fun ad e => by cases e; obtain ⟨cs, hq⟩ := R3.out.typed; exact fun e => H3.out.q_x hq (Or.inl e))
      rw [HLEN.out] at hwr
      refine hwr.mono ?_
      clear hwr
      rintro e w6 ⟨rfl, hd, hf⟩
      have H6 := Aside0.mk (H3.out.xstep hd hf)
      have R6 := Aside0.mk (R3.out.fr hf (by obtain ⟨cs, hq⟩ := R3.out.typed; exact H3.out.q_x hq))
      have AV6 := Aside0.mk (And.intro (AV3.out.1.step (H3.out.av_x hf).1) (AV3.out.2.step (H3.out.av_x hf).2))
      clear hd hf H3 R3 AV3
      clear x30 x31 x32 x33
      obtain ⟨x60, x61, x62, x63⟩ := HCL.out _ _ _ H6.out
      go_wp2_with fail
      have hwr := rwrite_any p.yb p.ya p.yc p.yB d.rx oA (some ⟨q0, 0, none⟩) kq0 bs w6 H6.out.y R6.out.bytes (fun ad e => by cases e; obtain ⟨cs, hq⟩ := R6.out.typed; exact fun e => H6.out.q_y hq (Or.inl e))
      rw [HLEN.out, ← (HLK.out.1.write oA bs).1] at hwr
      refine hwr.mono ?_
      clear hwr
      rintro e w7 ⟨rfl, hd, hf, hav⟩
      have H7 := Aside0.mk (H6.out.ystep hd (RS.write_len _ _ _) hf)
      have R7 := Aside0.mk (R6.out.fr hf (by obtain ⟨cs, hq⟩ := R6.out.typed; exact H6.out.q_y hq))
      have AV7 := Aside0.mk (show Avoid w7 p.ya (d.rx.write oA bs).1.B.length q0 ∧ Avoid w7 p.wa d.rz.B.length q0 from ⟨by rw [RS.write_len]; exact hav q0 (by obtain ⟨cs, hq⟩ := R6.out.typed; exact blk_lt hq) AV6.out.1, AV6.out.2.step (H6.out.av_y hf)⟩)
      have LK := Aside0.mk (show Like (d.sx.write oA bs).1 (d.rx.write oA bs).1 ∧ Like d.sz d.rz from ⟨(HLK.out.1.write oA bs).2, HLK.out.2⟩)
      clear hd hf hav H6 R6 AV6
      clear x60 x61 x62 x63
      obtain ⟨an, han⟩ : ∃ an, an = (d.sx.write oA bs).2 := ⟨_, rfl⟩
      rw [← han]
      clear han
      obtain ⟨d2, hd2⟩ : ∃ d2 : Dt, d2 = ⟨(d.sx.write oA bs).1, d.sz, (d.rx.write oA bs).1, d.rz⟩ := ⟨_, rfl⟩
      have H7' := Aside0.mk (show St w w7 p d2 (some (wr.heap.size, oc)) from by rw [hd2]; exact H7.out)
      have AV7' := Aside0.mk (show Avoid w7 p.ya d2.rx.B.length q0 ∧ Avoid w7 p.wa d2.rz.B.length q0 from by rw [hd2]; exact AV7.out)
      have LK' := Aside0.mk (show Like d2.sx d2.rx ∧ Like d2.sz d2.rz from by rw [hd2]; exact LK.out)
      clear hd2 H7 AV7 LK
      go_wp2
      go_loopg [17] 64 (fun g v17 wq => ∃ (j : Nat) (xs : List Int) (bse : Nat), v17 = .int .i64 j ∧ j ≤ 64 ∧ Aside0 (g = 64 - j) ∧ Aside0 (St w wq p d2 (some (wr.heap.size, oc))) ∧ Aside0 (Row wq q0 64 kq0 bse xs) ∧ Aside0 (Avoid wq p.ya d2.rx.B.length q0 ∧ Avoid wq p.wa d2.rz.B.length q0))
      case atStart => exact ⟨0, _, _, rfl, Nat.zero_le _, ⟨rfl⟩, H7', R7, AV7'⟩
      case round =>
        clear H7' R7 AV7'
        obtain ⟨j, xs, bse, rfl, hj, HG2, HS2, HR2, HAV2⟩ := hrel
        by_cases hjl : j < 64
        · have hjl' : (j : Int) < (64 : Int) := by omega
          obtain ⟨⟨u, e1⟩, e2⟩ := HR2.out.cell j hjl
          go_wp2
          go_roundg (64 - (j + 1))
          case measure => have := HG2.out; omega
          case rel =>
            obtain ⟨cs, hq⟩ := HR2.out.typed
            have hf : Fr (fun k => k = q0) wr (wr.setCell ⟨q0, j, none⟩ (.int .u8 98)) := Fr.cell (S := fun k => k = q0) (Fr.refl _ _) q0 j rfl _
            have hr := HR2.out.put (j : Int) 98
            rw [Int.toNat_natCast] at hr
            exact ⟨j + 1, _, _, by go_num, by omega, ⟨rfl⟩, ⟨HS2.out.qstep hq HQ.out HAV2.out.1 HAV2.out.2 hf⟩, ⟨hr⟩, ⟨HAV2.out.1.step (HS2.out.av_q hq hf).1, HAV2.out.2.step (HS2.out.av_q hq hf).2⟩⟩
        · have hjl' : ¬ (j : Int) < (64 : Int) := by omega
          clear HR2 HAV2
          obtain ⟨x80, x81, x82, x83⟩ := HCL.out _ _ _ HS2.out
          go_wp2_with fail
          refine (alike_any p.xb p.xm p.yb p.ya p.yc p.yB d2.sx d2.rx oA _ HS2.out.x HS2.out.y LK'.out.1).mono ?_
          rintro e wA ⟨rfl, hbA⟩
          have HA_ := Aside0.mk (HS2.out.below hbA)
          clear hbA HS2
          clear x80 x81 x82 x83
          obtain ⟨y0, y1, y2, y3⟩ := HCL.out _ _ _ HA_.out
          go_wp2_with fail
          refine (alike_any p.zb p.zm p.wb p.wa p.wc p.wB d2.sz d2.rz oA wA HA_.out.z HA_.out.w LK'.out.2).mono ?_
          rintro e wB ⟨rfl, hbB⟩
          have HB_ := Aside0.mk (HA_.out.below hbB)
          clear hbB HA_ y0 y1 y2 y3
          go_wp2
          go_roundg (l.length - (k + 1))
          case measure => have := HGM.out; omega
          case rel => exact ⟨k + 1, p, d2, by go_num, by omega, rfl, rfl, rfl, rfl, ⟨rfl⟩, ⟨HB_.out.drop⟩, LK'⟩

    · subst h
      obtain ⟨x10, x11, x12, x13⟩ := HCL.out _ _ _ H1.out
      go_wp2_with fail
      refine (full_any oB w1).mono ?_
      rintro e w2 ⟨q0, kq0, rfl, hR, hq1, hby, hb2⟩
      have H2 := Aside0.mk (H1.out.below hb2)
      obtain ⟨kq', hv', hrow⟩ := Row.of_R hR rfl
      injection hv' with e1 e2 e3
      clear e2
      subst e3
      rw [List.length_replicate] at hrow
      have RW := Aside0.mk hrow
      have HQ := Aside0.mk (show w.heap.size ≤ q0 by have := H1.out.bb.size; omega)
      have AV := Aside0.mk (And.intro ((H1.out.y.avoid_new hq1).step (hb2.block _ H1.out.rows.1)) ((H1.out.w.avoid_new hq1).step (hb2.block _ H1.out.rows.2)))
      clear hrow
      clear hR hq1 hby hb2 H1
      clear x10 x11 x12 x13
      obtain ⟨x20, x21, x22, x23⟩ := HCL.out _ _ _ H2.out
      go_wp2_with fail
      have hki := kind_any oK 8 (by decide) w2
      rw [← HKD.out] at hki
      refine hki.mono ?_
      clear hki
      rintro e w3 ⟨rfl, m3, rfl⟩
      have H3 := Aside0.mk (H2.out.below (pw_below_drewN (Below.refl w2.heap.size w2) m3))
      have R3 := Aside0.mk (RW.out.below (pw_below_drewN (Below.refl w2.heap.size w2) m3))
      have AV3 := Aside0.mk (show Avoid (w2.drewN m3) p.ya d.rx.B.length q0 ∧ Avoid (w2.drewN m3) p.wa d.rz.B.length q0 from ⟨AV.out.1.step rfl, AV.out.2.step rfl⟩)
      clear AV RW
      obtain ⟨w3, hw3⟩ : ∃ w3, w3 = w2.drewN m3 := ⟨_, rfl⟩
      rw [← hw3] at H3 R3 AV3 ⊢
      clear hw3 H2
      clear x20 x21 x22 x23
      obtain ⟨x30, x31, x32, x33⟩ := HCL.out _ _ _ H3.out
      obtain ⟨bs, hbs⟩ : ∃ bs, bs = List.replicate 64 oB := ⟨_, rfl⟩
      rw [← hbs] at R3
      clear hbs
      have HLN := R3.out.len
      have HLEN := Aside0.mk HLN
      clear HLN
      go_wp2_with fail
      have hwr := write_any p.xb p.xm d.sx oA (some ⟨q0, 0, none⟩) kq0 bs w3 H3.out.x R3.out.bytes (fun ad e => by cases e; obtain ⟨cs, hq⟩ := R3.out.typed; exact fun e => H3.out.q_x hq (Or.inl e))
      rw [HLEN.out] at hwr
      refine hwr.mono ?_
      clear hwr
      rintro e w6 ⟨rfl, hd, hf⟩
      have H6 := Aside0.mk (H3.out.xstep hd hf)
      have R6 := Aside0.mk (R3.out.fr hf (by obtain ⟨cs, hq⟩ := R3.out.typed; exact H3.out.q_x hq))
      have AV6 := Aside0.mk (And.intro (AV3.out.1.step (H3.out.av_x hf).1) (AV3.out.2.step (H3.out.av_x hf).2))
      clear hd hf H3 R3 AV3
      clear x30 x31 x32 x33
      obtain ⟨x60, x61, x62, x63⟩ := HCL.out _ _ _ H6.out
      go_wp2_with fail
      have hwr := rwrite_any p.yb p.ya p.yc p.yB d.rx oA (some ⟨q0, 0, none⟩) kq0 bs w6 H6.out.y R6.out.bytes (fun ad e => by cases e; obtain ⟨cs, hq⟩ := R6.out.typed; exact fun e => H6.out.q_y hq (Or.inl e))
      rw [HLEN.out, ← (HLK.out.1.write oA bs).1] at hwr
      refine hwr.mono ?_
      clear hwr
      rintro e w7 ⟨rfl, hd, hf, hav⟩
      have H7 := Aside0.mk (H6.out.ystep hd (RS.write_len _ _ _) hf)
      have R7 := Aside0.mk (R6.out.fr hf (by obtain ⟨cs, hq⟩ := R6.out.typed; exact H6.out.q_y hq))
      have AV7 := Aside0.mk (show Avoid w7 p.ya (d.rx.write oA bs).1.B.length q0 ∧ Avoid w7 p.wa d.rz.B.length q0 from ⟨by rw [RS.write_len]; exact hav q0 (by obtain ⟨cs, hq⟩ := R6.out.typed; exact blk_lt hq) AV6.out.1, AV6.out.2.step (H6.out.av_y hf)⟩)
      have LK := Aside0.mk (show Like (d.sx.write oA bs).1 (d.rx.write oA bs).1 ∧ Like d.sz d.rz from ⟨(HLK.out.1.write oA bs).2, HLK.out.2⟩)
      clear hd hf hav H6 R6 AV6
      clear x60 x61 x62 x63
      obtain ⟨an, han⟩ : ∃ an, an = (d.sx.write oA bs).2 := ⟨_, rfl⟩
      rw [← han]
      clear han
      obtain ⟨d2, hd2⟩ : ∃ d2 : Dt, d2 = ⟨(d.sx.write oA bs).1, d.sz, (d.rx.write oA bs).1, d.rz⟩ := ⟨_, rfl⟩
      have H7' := Aside0.mk (show St w w7 p d2 (some (wr.heap.size, oc)) from by rw [hd2]; exact H7.out)
      have AV7' := Aside0.mk (show Avoid w7 p.ya d2.rx.B.length q0 ∧ Avoid w7 p.wa d2.rz.B.length q0 from by rw [hd2]; exact AV7.out)
      have LK' := Aside0.mk (show Like d2.sx d2.rx ∧ Like d2.sz d2.rz from by rw [hd2]; exact LK.out)
      clear hd2 H7 AV7 LK
      go_wp2
      go_loopg [17] 64 (fun g v17 wq => ∃ (j : Nat) (xs : List Int) (bse : Nat), v17 = .int .i64 j ∧ j ≤ 64 ∧ Aside0 (g = 64 - j) ∧ Aside0 (St w wq p d2 (some (wr.heap.size, oc))) ∧ Aside0 (Row wq q0 64 kq0 bse xs) ∧ Aside0 (Avoid wq p.ya d2.rx.B.length q0 ∧ Avoid wq p.wa d2.rz.B.length q0))
      case atStart => exact ⟨0, _, _, rfl, Nat.zero_le _, ⟨rfl⟩, H7', R7, AV7'⟩
      case round =>
        clear H7' R7 AV7'
        obtain ⟨j, xs, bse, rfl, hj, HG2, HS2, HR2, HAV2⟩ := hrel
        by_cases hjl : j < 64
        · have hjl' : (j : Int) < (64 : Int) := by omega
          obtain ⟨⟨u, e1⟩, e2⟩ := HR2.out.cell j hjl
          go_wp2
          go_roundg (64 - (j + 1))
          case measure => have := HG2.out; omega
          case rel =>
            obtain ⟨cs, hq⟩ := HR2.out.typed
            have hf : Fr (fun k => k = q0) wr (wr.setCell ⟨q0, j, none⟩ (.int .u8 98)) := Fr.cell (S := fun k => k = q0) (Fr.refl _ _) q0 j rfl _
            have hr := HR2.out.put (j : Int) 98
            rw [Int.toNat_natCast] at hr
            exact ⟨j + 1, _, _, by go_num, by omega, ⟨rfl⟩, ⟨HS2.out.qstep hq HQ.out HAV2.out.1 HAV2.out.2 hf⟩, ⟨hr⟩, ⟨HAV2.out.1.step (HS2.out.av_q hq hf).1, HAV2.out.2.step (HS2.out.av_q hq hf).2⟩⟩
        · have hjl' : ¬ (j : Int) < (64 : Int) := by omega
          clear HR2 HAV2
          obtain ⟨x80, x81, x82, x83⟩ := HCL.out _ _ _ HS2.out
          go_wp2_with fail
          refine (alike_any p.xb p.xm p.yb p.ya p.yc p.yB d2.sx d2.rx oA _ HS2.out.x HS2.out.y LK'.out.1).mono ?_
          rintro e wA ⟨rfl, hbA⟩
          have HA_ := Aside0.mk (HS2.out.below hbA)
          clear hbA HS2
          clear x80 x81 x82 x83
          obtain ⟨y0, y1, y2, y3⟩ := HCL.out _ _ _ HA_.out
          go_wp2_with fail
          refine (alike_any p.zb p.zm p.wb p.wa p.wc p.wB d2.sz d2.rz oA wA HA_.out.z HA_.out.w LK'.out.2).mono ?_
          rintro e wB ⟨rfl, hbB⟩
          have HB_ := Aside0.mk (HA_.out.below hbB)
          clear hbB HA_ y0 y1 y2 y3
          go_wp2
          go_roundg (l.length - (k + 1))
          case measure => have := HGM.out; omega
          case rel => exact ⟨k + 1, p, d2, by go_num, by omega, rfl, rfl, rfl, rfl, ⟨rfl⟩, ⟨HB_.out.drop⟩, LK'⟩

    · subst h
      obtain ⟨x10, x11, x12, x13⟩ := HCL.out _ _ _ H1.out
      go_wp2_with fail
      refine (full_any oB w1).mono ?_
      rintro e w2 ⟨q0, kq0, rfl, hR, hq1, hby, hb2⟩
      have H2 := Aside0.mk (H1.out.below hb2)
      obtain ⟨kq', hv', hrow⟩ := Row.of_R hR rfl
      injection hv' with e1 e2 e3
      clear e2
      subst e3
      rw [List.length_replicate] at hrow
      have RW := Aside0.mk hrow
      have HQ := Aside0.mk (show w.heap.size ≤ q0 by have := H1.out.bb.size; omega)
      have AV := Aside0.mk (And.intro ((H1.out.y.avoid_new hq1).step (hb2.block _ H1.out.rows.1)) ((H1.out.w.avoid_new hq1).step (hb2.block _ H1.out.rows.2)))
      clear hrow
      clear hR hq1 hby hb2 H1
      clear x10 x11 x12 x13
      obtain ⟨x20, x21, x22, x23⟩ := HCL.out _ _ _ H2.out
      go_wp2_with fail
      have hki := kind_any oK 8 (by decide) w2
      rw [← HKD.out] at hki
      refine hki.mono ?_
      clear hki
      rintro e w3 ⟨rfl, m3, rfl⟩
      have H3 := Aside0.mk (H2.out.below (pw_below_drewN (Below.refl w2.heap.size w2) m3))
      have R3 := Aside0.mk (RW.out.below (pw_below_drewN (Below.refl w2.heap.size w2) m3))
      have AV3 := Aside0.mk (show Avoid (w2.drewN m3) p.ya d.rx.B.length q0 ∧ Avoid (w2.drewN m3) p.wa d.rz.B.length q0 from ⟨AV.out.1.step rfl, AV.out.2.step rfl⟩)
      clear AV RW
      obtain ⟨w3, hw3⟩ : ∃ w3, w3 = w2.drewN m3 := ⟨_, rfl⟩
      rw [← hw3] at H3 R3 AV3 ⊢
      clear hw3 H2
      clear x20 x21 x22 x23
      obtain ⟨x30, x31, x32, x33⟩ := HCL.out _ _ _ H3.out
      obtain ⟨bs, hbs⟩ : ∃ bs, bs = List.replicate 64 oB := ⟨_, rfl⟩
      rw [← hbs] at R3
      clear hbs
      have HLN := R3.out.len
      have HLEN := Aside0.mk HLN
      clear HLN
      go_wp2_with fail
      have hwr := write_any p.xb p.xm d.sx oA (some ⟨q0, 0, none⟩) kq0 bs w3 H3.out.x R3.out.bytes (fun ad e => by cases e; obtain ⟨cs, hq⟩ := R3.out.typed; exact fun e => H3.out.q_x hq (Or.inl e))
      rw [HLEN.out] at hwr
      refine hwr.mono ?_
      clear hwr
      rintro e w6 ⟨rfl, hd, hf⟩
      have H6 := Aside0.mk (H3.out.xstep hd hf)
      have R6 := Aside0.mk (R3.out.fr hf (by obtain ⟨cs, hq⟩ := R3.out.typed; exact H3.out.q_x hq))
      have AV6 := Aside0.mk (And.intro (AV3.out.1.step (H3.out.av_x hf).1) (AV3.out.2.step (H3.out.av_x hf).2))
      clear hd hf H3 R3 AV3
      clear x30 x31 x32 x33
      obtain ⟨x60, x61, x62, x63⟩ := HCL.out _ _ _ H6.out
      go_wp2_with fail
      have hwr := rwrite_any p.yb p.ya p.yc p.yB d.rx oA (some ⟨q0, 0, none⟩) kq0 bs w6 H6.out.y R6.out.bytes (fun ad e => by cases e; obtain ⟨cs, hq⟩ := R6.out.typed; exact fun e => H6.out.q_y hq (Or.inl e))
      rw [HLEN.out, ← (HLK.out.1.write oA bs).1] at hwr
      refine hwr.mono ?_
      clear hwr
      rintro e w7 ⟨rfl, hd, hf, hav⟩
      have H7 := Aside0.mk (H6.out.ystep hd (RS.write_len _ _ _) hf)
      have R7 := Aside0.mk (R6.out.fr hf (by obtain ⟨cs, hq⟩ := R6.out.typed; exact H6.out.q_y hq))
      have AV7 := Aside0.mk (show Avoid w7 p.ya (d.rx.write oA bs).1.B.length q0 ∧ Avoid w7 p.wa d.rz.B.length q0 from ⟨by rw [RS.write_len]; exact hav q0 (by obtain ⟨cs, hq⟩ := R6.out.typed; exact blk_lt hq) AV6.out.1, AV6.out.2.step (H6.out.av_y hf)⟩)
      have LK := Aside0.mk (show Like (d.sx.write oA bs).1 (d.rx.write oA bs).1 ∧ Like d.sz d.rz from ⟨(HLK.out.1.write oA bs).2, HLK.out.2⟩)
      clear hd hf hav H6 R6 AV6
      clear x60 x61 x62 x63
      obtain ⟨an, han⟩ : ∃ an, an = (d.sx.write oA bs).2 := ⟨_, rfl⟩
      rw [← han]
      clear han
      obtain ⟨d2, hd2⟩ : ∃ d2 : Dt, d2 = ⟨(d.sx.write oA bs).1, d.sz, (d.rx.write oA bs).1, d.rz⟩ := ⟨_, rfl⟩
      have H7' := Aside0.mk (show St w w7 p d2 (some (wr.heap.size, oc)) from by rw [hd2]; exact H7.out)
      have AV7' := Aside0.mk (show Avoid w7 p.ya d2.rx.B.length q0 ∧ Avoid w7 p.wa d2.rz.B.length q0 from by rw [hd2]; exact AV7.out)
      have LK' := Aside0.mk (show Like d2.sx d2.rx ∧ Like d2.sz d2.rz from by rw [hd2]; exact LK.out)
      clear hd2 H7 AV7 LK
      go_wp2
      go_loopg [17] 64 (fun g v17 wq => ∃ (j : Nat) (xs : List Int) (bse : Nat), v17 = .int .i64 j ∧ j ≤ 64 ∧ Aside0 (g = 64 - j) ∧ Aside0 (St w wq p d2 (some (wr.heap.size, oc))) ∧ Aside0 (Row wq q0 64 kq0 bse xs) ∧ Aside0 (Avoid wq p.ya d2.rx.B.length q0 ∧ Avoid wq p.wa d2.rz.B.length q0))
      case atStart => exact ⟨0, _, _, rfl, Nat.zero_le _, ⟨rfl⟩, H7', R7, AV7'⟩
      case round =>
        clear H7' R7 AV7'
        obtain ⟨j, xs, bse, rfl, hj, HG2, HS2, HR2, HAV2⟩ := hrel
        by_cases hjl : j < 64
        · have hjl' : (j : Int) < (64 : Int) := by omega
          obtain ⟨⟨u, e1⟩, e2⟩ := HR2.out.cell j hjl
          go_wp2
          go_roundg (64 - (j + 1))
          case measure => have := HG2.out; omega
          case rel =>
            obtain ⟨cs, hq⟩ := HR2.out.typed
            have hf : Fr (fun k => k = q0) wr (wr.setCell ⟨q0, j, none⟩ (.int .u8 98)) := Fr.cell (S := fun k => k = q0) (Fr.refl _ _) q0 j rfl _
            have hr := HR2.out.put (j : Int) 98
            rw [Int.toNat_natCast] at hr
            exact ⟨j + 1, _, _, by go_num, by omega, ⟨rfl⟩, ⟨HS2.out.qstep hq HQ.out HAV2.out.1 HAV2.out.2 hf⟩, ⟨hr⟩, ⟨HAV2.out.1.step (HS2.out.av_q hq hf).1, HAV2.out.2.step (HS2.out.av_q hq hf).2⟩⟩
        · have hjl' : ¬ (j : Int) < (64 : Int) := by omega
          clear HR2 HAV2
          obtain ⟨x80, x81, x82, x83⟩ := HCL.out _ _ _ HS2.out
          go_wp2_with fail
          refine (alike_any p.xb p.xm p.yb p.ya p.yc p.yB d2.sx d2.rx oA _ HS2.out.x HS2.out.y LK'.out.1).mono ?_
          rintro e wA ⟨rfl, hbA⟩
          have HA_ := Aside0.mk (HS2.out.below hbA)
          clear hbA HS2
          clear x80 x81 x82 x83
          obtain ⟨y0, y1, y2, y3⟩ := HCL.out _ _ _ HA_.out
          go_wp2_with fail
          refine (alike_any p.zb p.zm p.wb p.wa p.wc p.wB d2.sz d2.rz oA wA HA_.out.z HA_.out.w LK'.out.2).mono ?_
          rintro e wB ⟨rfl, hbB⟩
          have HB_ := Aside0.mk (HA_.out.below hbB)
          clear hbB HA_ y0 y1 y2 y3
          go_wp2
          go_roundg (l.length - (k + 1))
          case measure => have := HGM.out; omega
          case rel => exact ⟨k + 1, p, d2, by go_num, by omega, rfl, rfl, rfl, rfl, ⟨rfl⟩, ⟨HB_.out.drop⟩, LK'⟩

    · subst h
      obtain ⟨x10, x11, x12, x13⟩ := HCL.out _ _ _ H1.out
      go_wp2_with fail
      refine (read_any p.xb p.xm d.sx oA w1 H1.out.x).mono ?_
      rintro e w2 (⟨_, rfl, hw2⟩ | ⟨_, rfl, rfl⟩)
      · have hb2 : Below w1.heap.size w1 w2 := by rw [hw2]; exact (Below.refl _ w1).alloc (Nat.le_refl _) _
        have hq : ∃ cs : Array Value, cs.size = 64 ∧ w2.heap[w1.heap.size]? = some (.cells cs 68 (0, 0)) := ⟨blkc (d.sx.has oA), by rw [blkc_size, H1.out.x.2.2], by rw [hw2]; exact Go.heap_alloc_new w1 _⟩
        have HQ := Aside0.mk hq
        have B2 := Aside0.mk hb2
        clear hq hb2 hw2
        clear x10 x11 x12 x13
        go_wp2
        go_loopg [20] 64 (fun g v20 wq => ∃ (j : Nat), v20 = .int .i64 j ∧ j ≤ 64 ∧ Aside0 (g = 64 - j) ∧ Aside0 (Below w1.heap.size w1 wq) ∧ Aside0 (∃ cs : Array Value, cs.size = 64 ∧ wq.heap[w1.heap.size]? = some (.cells cs 68 (0, 0))))
        case atStart => exact ⟨0, rfl, by omega, ⟨rfl⟩, B2, HQ⟩
        case round =>
          clear B2 HQ
          obtain ⟨j, rfl, hj, HG2, HB, HQ⟩ := hrel
          by_cases hjl : j < 64
          · have hjl' : (j : Int) < 64 := by omega
            obtain ⟨cs, hcs, hq⟩ := HQ.out
            obtain ⟨u, hu⟩ : ∃ u, cs[j]? = some u := ⟨_, Array.getElem?_eq_getElem (by omega)⟩
            have e1 := heap_cell hq j u hu
            have e2 := heap_frozen hq j u hu
            have HU := Aside0.mk (And.intro hcs (And.intro hq hu))
            clear hcs hq hu
            go_wp2
            go_roundg (64 - (j + 1))
            case measure => have := HG2.out; omega
            case rel => exact ⟨j + 1, by go_num, by omega, ⟨rfl⟩, ⟨HB.out.setCell (Nat.le_refl _) _⟩, ⟨⟨_, by rw [Array.size_setIfInBounds]; exact HU.out.1, heap_set1 HU.out.2.1 j _ (by have := HU.out.1; omega)⟩⟩⟩
          · have hjl' : ¬ (j : Int) < 64 := by omega
            have H3 := Aside0.mk (H1.out.below HB.out)
            obtain ⟨x30, x31, x32, x33⟩ := HCL.out _ _ _ H3.out
            go_wp2_with fail
            refine (alike_any p.xb p.xm p.yb p.ya p.yc p.yB d.sx d.rx oA wr H3.out.x H3.out.y HLK.out.1).mono ?_
            rintro e wA ⟨rfl, hbA⟩
            have HA_ := Aside0.mk (H3.out.below hbA)
            clear hbA H3
            clear x30 x31 x32 x33
            obtain ⟨y0, y1, y2, y3⟩ := HCL.out _ _ _ HA_.out
            go_wp2_with fail
            refine (alike_any p.zb p.zm p.wb p.wa p.wc p.wB d.sz d.rz oA wA HA_.out.z HA_.out.w HLK.out.2).mono ?_
            rintro e wB ⟨rfl, hbB⟩
            have HB_ := Aside0.mk (HA_.out.below hbB)
            clear hbB HA_ y0 y1 y2 y3
            go_wp2
            go_roundg (l.length - (k + 1))
            case measure => have := HGM.out; omega
            case rel => exact ⟨k + 1, p, d, by go_num, by omega, rfl, rfl, rfl, rfl, ⟨rfl⟩, ⟨HB_.out.drop⟩, HLK⟩

      · clear x10 x11 x12 x13
        go_wp2
        go_loopg [20] 0 (fun g v20 wq => v20 = .int .i64 0 ∧ Aside0 (wq = w2))
        case atStart => exact ⟨rfl, ⟨rfl⟩⟩
        case round =>
          obtain ⟨rfl, hq⟩ := hrel
          have H3 := Aside0.mk (H1.out.below (show Below w2.heap.size w2 wr from by rw [hq.out]; exact Below.refl _ _))
          obtain ⟨x30, x31, x32, x33⟩ := HCL.out _ _ _ H3.out
          go_wp2_with fail
          refine (alike_any p.xb p.xm p.yb p.ya p.yc p.yB d.sx d.rx oA wr H3.out.x H3.out.y HLK.out.1).mono ?_
          rintro e wA ⟨rfl, hbA⟩
          have HA_ := Aside0.mk (H3.out.below hbA)
          clear hbA H3
          clear x30 x31 x32 x33
          obtain ⟨y0, y1, y2, y3⟩ := HCL.out _ _ _ HA_.out
          go_wp2_with fail
          refine (alike_any p.zb p.zm p.wb p.wa p.wc p.wB d.sz d.rz oA wA HA_.out.z HA_.out.w HLK.out.2).mono ?_
          rintro e wB ⟨rfl, hbB⟩
          have HB_ := Aside0.mk (HA_.out.below hbB)
          clear hbB HA_ y0 y1 y2 y3
          go_wp2
          go_roundg (l.length - (k + 1))
          case measure => have := HGM.out; omega
          case rel => exact ⟨k + 1, p, d, by go_num, by omega, rfl, rfl, rfl, rfl, ⟨rfl⟩, ⟨HB_.out.drop⟩, HLK⟩

    · subst h
      obtain ⟨x10, x11, x12, x13⟩ := HCL.out _ _ _ H1.out
      go_wp2_with fail
      refine (fuse_any p.xb p.xm d.sx oN w1 H1.out.x).mono ?_
      rintro e w2 ⟨rfl, hd, hf⟩
      have H2 := Aside0.mk (H1.out.xstep hd (hf.mono (fun _ e => Or.inl e)))
      clear hd hf H1
      clear x10 x11 x12 x13
      obtain ⟨x20, x21, x22, x23⟩ := HCL.out _ _ _ H2.out
      go_wp2_with fail
      refine (rfuse_any p.yb p.ya p.yc p.yB d.rx oN w2 H2.out.y H2.out.lx).mono ?_
      rintro e w3 ⟨rfl, hd, hf⟩
      have H3 := Aside0.mk (H2.out.ystep hd (by unfold RS.fuseTo; split <;> rfl) (hf.mono (fun _ e => Or.inl e)))
      clear hd hf H2
      clear x20 x21 x22 x23
      have LK := Aside0.mk (And.intro (HLK.out.1.fuseTo oN HKB.out.2.2) HLK.out.2)
      obtain ⟨x30, x31, x32, x33⟩ := HCL.out _ _ _ H3.out
      go_wp2_with fail
      refine (alike_any p.xb p.xm p.yb p.ya p.yc p.yB (d.sx.fuseTo oN) (d.rx.fuseTo oN) oA w3 H3.out.x H3.out.y LK.out.1).mono ?_
      rintro e wA ⟨rfl, hbA⟩
      have HA_ := Aside0.mk (H3.out.below hbA)
      clear hbA H3
      clear x30 x31 x32 x33
      obtain ⟨y0, y1, y2, y3⟩ := HCL.out _ _ _ HA_.out
      go_wp2_with fail
      refine (alike_any p.zb p.zm p.wb p.wa p.wc p.wB d.sz d.rz oA wA HA_.out.z HA_.out.w LK.out.2).mono ?_
      rintro e wB ⟨rfl, hbB⟩
      have HB_ := Aside0.mk (HA_.out.below hbB)
      clear hbB HA_ y0 y1 y2 y3
      go_wp2
      go_roundg (l.length - (k + 1))
      case measure => have := HGM.out; omega
      case rel => exact ⟨k + 1, p, { { d with sx := d.sx.fuseTo oN } with rx := d.rx.fuseTo oN }, by go_num, by omega, rfl, rfl, rfl, rfl, ⟨rfl⟩, ⟨HB_.out.drop⟩, LK⟩

    · subst h
      obtain ⟨x10, x11, x12, x13⟩ := HCL.out _ _ _ H1.out
      go_wp2_with fail
      refine (boot_any p.xb p.xm d.sx w1 H1.out.x).mono ?_
      rintro e w2 ⟨rfl, hd, hf⟩
      have H2 := Aside0.mk (H1.out.xstep hd (hf.mono (fun _ e => Or.inl e)))
      clear hd hf H1
      clear x10 x11 x12 x13
      obtain ⟨x20, x21, x22, x23⟩ := HCL.out _ _ _ H2.out
      go_wp2_with fail
      refine (rboot_any p.yb p.ya p.yc p.yB d.rx w2 H2.out.y H2.out.lx).mono ?_
      rintro e w3 ⟨rfl, hd, hf⟩
      have H3 := Aside0.mk (H2.out.ystep hd rfl (hf.mono (fun _ e => Or.inl e)))
      clear hd hf H2
      clear x20 x21 x22 x23
      have LK := Aside0.mk (And.intro HLK.out.1.boot HLK.out.2)
      obtain ⟨x30, x31, x32, x33⟩ := HCL.out _ _ _ H3.out
      go_wp2_with fail
      refine (alike_any p.xb p.xm p.yb p.ya p.yc p.yB d.sx.boot d.rx.boot oA w3 H3.out.x H3.out.y LK.out.1).mono ?_
      rintro e wA ⟨rfl, hbA⟩
      have HA_ := Aside0.mk (H3.out.below hbA)
      clear hbA H3
      clear x30 x31 x32 x33
      obtain ⟨y0, y1, y2, y3⟩ := HCL.out _ _ _ HA_.out
      go_wp2_with fail
      refine (alike_any p.zb p.zm p.wb p.wa p.wc p.wB d.sz d.rz oA wA HA_.out.z HA_.out.w LK.out.2).mono ?_
      rintro e wB ⟨rfl, hbB⟩
      have HB_ := Aside0.mk (HA_.out.below hbB)
      clear hbB HA_ y0 y1 y2 y3
      go_wp2
      go_roundg (l.length - (k + 1))
      case measure => have := HGM.out; omega
      case rel => exact ⟨k + 1, p, { { d with sx := d.sx.boot } with rx := d.rx.boot }, by go_num, by omega, rfl, rfl, rfl, rfl, ⟨rfl⟩, ⟨HB_.out.drop⟩, LK⟩

    · subst h
      obtain ⟨x10, x11, x12, x13⟩ := HCL.out _ _ _ H1.out
      go_wp2_with fail
      refine (clone_any p.xb p.xm d.sx w1 H1.out.x).mono ?_
      rintro e w2 ⟨b2, m2, rfl, hd, hb2, hm2, hB2⟩
      have HY2 := Aside0.mk (H1.out.y.below hB2)
      clear x10 x11 x12 x13
      go_wp2_with fail
      refine (rclone_any p.yb p.ya p.yc p.yB d.rx w2 HY2.out H1.out.lx HLK.out.1.most).mono ?_
      rintro e w3 ⟨b3, a3, c3, rfl, hy, ha3, hB3⟩
      have H3 := Aside0.mk (H1.out.clone hd hb2 hm2 hB2 hy ha3 hB3)
      clear hd hb2 hm2 hB2 hy ha3 hB3 H1 HY2
      have LK := Aside0.mk (And.intro HLK.out.1 HLK.out.1)
      obtain ⟨x30, x31, x32, x33⟩ := HCL.out _ _ _ H3.out
      go_wp2_with fail
      refine (alike_any b2 m2 b3 a3 c3 w2.heap.size d.sx d.rx oA w3 H3.out.x H3.out.y LK.out.1).mono ?_
      rintro e wA ⟨rfl, hbA⟩
      have HA_ := Aside0.mk (H3.out.below hbA)
      clear hbA H3
      clear x30 x31 x32 x33
      obtain ⟨y0, y1, y2, y3⟩ := HCL.out _ _ _ HA_.out
      go_wp2_with fail
      refine (alike_any p.xb p.xm p.yb p.ya p.yc p.yB d.sx d.rx oA wA HA_.out.z HA_.out.w LK.out.2).mono ?_
      rintro e wB ⟨rfl, hbB⟩
      have HB_ := Aside0.mk (HA_.out.below hbB)
      clear hbB HA_ y0 y1 y2 y3
      go_wp2
      go_roundg (l.length - (k + 1))
      case measure => have := HGM.out; omega
      case rel => exact ⟨k + 1, ⟨b2, m2, p.xb, p.xm, b3, a3, c3, w2.heap.size, p.yb, p.ya, p.yc, p.yB⟩, ⟨d.sx, d.sx, d.rx, d.rx⟩, by go_num, by omega, rfl, rfl, rfl, rfl, ⟨rfl⟩, ⟨HB_.out.drop⟩, LK⟩

    · subst h
      obtain ⟨x10, x11, x12, x13⟩ := HCL.out _ _ _ H1.out
      go_wp2_with fail
      refine (full_any oB w1).mono ?_
      rintro e w2 ⟨q0, kq0, rfl, hR, hq1, hby, hb2⟩
      have H2 := Aside0.mk (H1.out.below hb2)
      clear hR hq1 hby hb2 H1
      clear x10 x11 x12 x13
      obtain ⟨x20, x21, x22, x23⟩ := HCL.out _ _ _ H2.out
      go_wp2_with fail
      have hki := kind_any oK 8 (by decide) w2
      rw [← HKD.out] at hki
      refine hki.mono ?_
      clear hki
      rintro e w3 ⟨rfl, m3, rfl⟩
      have H3 := Aside0.mk (H2.out.below (pw_below_drewN (Below.refl w2.heap.size w2) m3))
      obtain ⟨w3, hw3⟩ : ∃ w3, w3 = w2.drewN m3 := ⟨_, rfl⟩
      rw [← hw3] at H3 ⊢
      clear hw3 H2
      clear x20 x21 x22 x23
      obtain ⟨x30, x31, x32, x33⟩ := HCL.out _ _ _ H3.out
      go_wp2_with fail
      refine (kind_any oN 71 (by decide) w3).mono ?_
      have hnr := kindv_range oN 71 HKB.out.2 (by decide)
      obtain ⟨mm, hmm⟩ := Int.eq_ofNat_of_zero_le hnr.1
      rw [hmm]
      rw [hmm] at hnr
      have hm71 : mm < 71 := by omega
      clear hmm hnr
      rintro e w4 ⟨rfl, m4, rfl⟩
      have H4 := Aside0.mk (H3.out.below (pw_below_drewN (Below.refl w3.heap.size w3) m4))
      obtain ⟨w4, hw4⟩ : ∃ w4, w4 = w3.drewN m4 := ⟨_, rfl⟩
      rw [← hw4] at H4 ⊢
      clear hw4 H3
      clear x30 x31 x32 x33
      obtain ⟨x40, x41, x42, x43⟩ := HCL.out _ _ _ H4.out
      go_wp2_with (first
        | ((with_reducible refine gate_dst (N := 84) rfl ?_); refine Kd.R_make (Kd.int .u8) w4.heap.size 5 rfl (N := 84) rfl 36 _ _ rfl (mm : Int) rfl rfl Try.underlying36 (.int .u8 0) 1 infoU8 rfl (by decide) (by omega) 0 (ok := fun _ => True) (okp := fun _ => True) rfl (fun _ hk => hk) trivial (by omega) (by omega) (Below.refl _ _) (Nat.le_refl _) ?_; intro v84 w5 ho hb hg hnew; obtain ⟨q0, hv, hq1⟩ := hnew; rw [Int.toNat_natCast] at ho; obtain ⟨bs, hbs⟩ : ∃ bs : List Int, bs = List.replicate mm 0 := ⟨_, rfl⟩; have HLN : bs.length = mm := (by rw [hbs, List.length_replicate]); rw [← hbs] at ho; clear hbs; obtain ⟨kq0, e84, hrow⟩ := Row.of_R ho hv; rw [HLN] at e84 hrow; subst e84; have R5 := Aside0.mk hrow; have HLEN := Aside0.mk HLN; have H5 := Aside0.mk (H4.out.below hb); have HQ := Aside0.mk (show w.heap.size ≤ q0 by have := H4.out.bb.size; omega); have AV5 := Aside0.mk (And.intro ((H4.out.y.avoid_new hq1).step (hb.block _ H4.out.rows.1)) ((H4.out.w.avoid_new hq1).step (hb.block _ H4.out.rows.2))); clear ho hb hg hv hq1 hrow HLN; clear x40 x41 x42 x43; obtain ⟨x50, x51, x52, x53⟩ := HCL.out _ _ _ H5.out)
        | fail)
      clear H4
      have hwr := write_any p.xb p.xm d.sx oA (some ⟨q0, 0, none⟩) kq0 bs w5 H5.out.x R5.out.bytes (fun ad e => by cases e; obtain ⟨cs, hq⟩ := R5.out.typed; exact fun e => H5.out.q_x hq (Or.inl e))
      rw [HLEN.out] at hwr
      refine hwr.mono ?_
      clear hwr
      rintro e w6 ⟨rfl, hd, hf⟩
      have H6 := Aside0.mk (H5.out.xstep hd hf)
      have R6 := Aside0.mk (R5.out.fr hf (by obtain ⟨cs, hq⟩ := R5.out.typed; exact H5.out.q_x hq))
      have AV6 := Aside0.mk (And.intro (AV5.out.1.step (H5.out.av_x hf).1) (AV5.out.2.step (H5.out.av_x hf).2))
      clear hd hf H5 R5 AV5
      clear x50 x51 x52 x53
      obtain ⟨x60, x61, x62, x63⟩ := HCL.out _ _ _ H6.out
      go_wp2_with fail
      have hwr := rwrite_any p.yb p.ya p.yc p.yB d.rx oA (some ⟨q0, 0, none⟩) kq0 bs w6 H6.out.y R6.out.bytes (fun ad e => by cases e; obtain ⟨cs, hq⟩ := R6.out.typed; exact fun e => H6.out.q_y hq (Or.inl e))
      rw [HLEN.out, ← (HLK.out.1.write oA bs).1] at hwr
      refine hwr.mono ?_
      clear hwr
      rintro e w7 ⟨rfl, hd, hf, hav⟩
      have H7 := Aside0.mk (H6.out.ystep hd (RS.write_len _ _ _) hf)
      have R7 := Aside0.mk (R6.out.fr hf (by obtain ⟨cs, hq⟩ := R6.out.typed; exact H6.out.q_y hq))
      have AV7 := Aside0.mk (show Avoid w7 p.ya (d.rx.write oA bs).1.B.length q0 ∧ Avoid w7 p.wa d.rz.B.length q0 from ⟨by rw [RS.write_len]; exact hav q0 (by obtain ⟨cs, hq⟩ := R6.out.typed; exact blk_lt hq) AV6.out.1, AV6.out.2.step (H6.out.av_y hf)⟩)
      have LK := Aside0.mk (show Like (d.sx.write oA bs).1 (d.rx.write oA bs).1 ∧ Like d.sz d.rz from ⟨(HLK.out.1.write oA bs).2, HLK.out.2⟩)
      clear hd hf hav H6 R6 AV6
      clear x60 x61 x62 x63
      obtain ⟨an, han⟩ : ∃ an, an = (d.sx.write oA bs).2 := ⟨_, rfl⟩
      rw [← han]
      clear han
      obtain ⟨d2, hd2⟩ : ∃ d2 : Dt, d2 = ⟨(d.sx.write oA bs).1, d.sz, (d.rx.write oA bs).1, d.rz⟩ := ⟨_, rfl⟩
      have H7' := Aside0.mk (show St w w7 p d2 (some (wr.heap.size, oc)) from by rw [hd2]; exact H7.out)
      have AV7' := Aside0.mk (show Avoid w7 p.ya d2.rx.B.length q0 ∧ Avoid w7 p.wa d2.rz.B.length q0 from by rw [hd2]; exact AV7.out)
      have LK' := Aside0.mk (show Like d2.sx d2.rx ∧ Like d2.sz d2.rz from by rw [hd2]; exact LK.out)
      clear hd2 H7 AV7 LK
      go_wp2
      go_loopg [17] mm (fun g v17 wq => ∃ (j : Nat) (xs : List Int) (bse : Nat), v17 = .int .i64 j ∧ j ≤ mm ∧ Aside0 (g = mm - j) ∧ Aside0 (St w wq p d2 (some (wr.heap.size, oc))) ∧ Aside0 (Row wq q0 mm kq0 bse xs) ∧ Aside0 (Avoid wq p.ya d2.rx.B.length q0 ∧ Avoid wq p.wa d2.rz.B.length q0))
      case atStart => exact ⟨0, _, _, rfl, Nat.zero_le _, ⟨rfl⟩, H7', R7, AV7'⟩
      case round =>
        clear H7' R7 AV7'
        obtain ⟨j, xs, bse, rfl, hj, HG2, HS2, HR2, HAV2⟩ := hrel
        by_cases hjl : j < mm
        · have hjl' : (j : Int) < (mm : Int) := by omega
          obtain ⟨⟨u, e1⟩, e2⟩ := HR2.out.cell j hjl
          go_wp2
          go_roundg (mm - (j + 1))
          case measure => have := HG2.out; omega
          case rel =>
            obtain ⟨cs, hq⟩ := HR2.out.typed
            have hf : Fr (fun k => k = q0) wr (wr.setCell ⟨q0, j, none⟩ (.int .u8 98)) := Fr.cell (S := fun k => k = q0) (Fr.refl _ _) q0 j rfl _
            have hr := HR2.out.put (j : Int) 98
            rw [Int.toNat_natCast] at hr
            exact ⟨j + 1, _, _, by go_num, by omega, ⟨rfl⟩, ⟨HS2.out.qstep hq HQ.out HAV2.out.1 HAV2.out.2 hf⟩, ⟨hr⟩, ⟨HAV2.out.1.step (HS2.out.av_q hq hf).1, HAV2.out.2.step (HS2.out.av_q hq hf).2⟩⟩
        · have hjl' : ¬ (j : Int) < (mm : Int) := by omega
          clear HR2 HAV2
          obtain ⟨x80, x81, x82, x83⟩ := HCL.out _ _ _ HS2.out
          go_wp2_with fail
          refine (alike_any p.xb p.xm p.yb p.ya p.yc p.yB d2.sx d2.rx oA _ HS2.out.x HS2.out.y LK'.out.1).mono ?_
          rintro e wA ⟨rfl, hbA⟩
          have HA_ := Aside0.mk (HS2.out.below hbA)
          clear hbA HS2
          clear x80 x81 x82 x83
          obtain ⟨y0, y1, y2, y3⟩ := HCL.out _ _ _ HA_.out
          go_wp2_with fail
          refine (alike_any p.zb p.zm p.wb p.wa p.wc p.wB d2.sz d2.rz oA wA HA_.out.z HA_.out.w LK'.out.2).mono ?_
          rintro e wB ⟨rfl, hbB⟩
          have HB_ := Aside0.mk (HA_.out.below hbB)
          clear hbB HA_ y0 y1 y2 y3
          go_wp2
          go_roundg (l.length - (k + 1))
          case measure => have := HGM.out; omega
          case rel => exact ⟨k + 1, p, d2, by go_num, by omega, rfl, rfl, rfl, rfl, ⟨rfl⟩, ⟨HB_.out.drop⟩, LK'⟩

end Go.Proofs.Ytcgcojdkkkfkdaa.Dk
