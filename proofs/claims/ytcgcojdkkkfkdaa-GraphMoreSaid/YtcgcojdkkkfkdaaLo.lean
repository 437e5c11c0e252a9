/-
  The walk of the statement GraphOrders.
-/
import Derived.Test.YtcgcojdkkkfkdaaGs
namespace Go.Proofs.Ytcgcojdkkkfkdaa
open Go.RowKit Go.Proofs.YtcgcojdkkkfkdaaW.PrintWords Go.Proofs.YtcgcojdkkkfkdaaW.PrintLast Go.Proofs.YtcgcojdkkkfkdaaW.PrintMore
set_option linter.unusedVariables false
set_option linter.unusedSimpArgs false

theorem info52 : (Try.prog.info? 52).map (fun i => (i.zero, i.size, i.bytes)) = some (some (.agg #[.int .i64 0, .int .i64 0, .bool false]), 3, 24) := by kernel_rfl
theorem kE_KM {w : World} {base : Nat} {ok : Nat → Prop} (x : Gr.E) (cs : List Value) (h : kE.K w x cs) : kE.M w base ok x cs := by
  obtain rfl := kE_open h
  exact ⟨[.int .i64 x.1], [.int .i64 x.2.1, .bool x.2.2], rfl, rfl, ⟨[.int .i64 x.2.1], [.bool x.2.2], rfl, rfl, rfl⟩⟩
theorem emptyE (W : World) (base : Nat) (hb : base ≤ W.heap.size) : Kd.R kE 52 (W.alloc (.cells #[] 52)) base (fun _ => True) (.slice (some ⟨W.heap.size, 0, none⟩) 0 0) [] :=
  ⟨fun _ _ => trivial, [], by
    have h := World.ownsRow_lit (base := base) (e := 52) (size := 3) W #[] 0 hb (by simp [maxLen]) (by simp)
    show (W.alloc (.cells #[] 52)).ownsRow base 52 3 _ 0 []
    simpa using h, Reps.none _ _⟩

set_option maxHeartbeats 6400000 in
set_option maxRecDepth 100000 in
theorem lawOrders_any (n : Int) (A : Option Addr) (c : Nat) (l : List Gr.E) (w : World) (hl : Kd.C kE w A l.length l) (hlc : l.length ≤ c) (hy : l.length * 24 ≤ 140737488351232) :
    Calls Try.prog 4 #[.int .i64 n, .slice A l.length c] w fun e w' => e = .returned (.bool true) ∧ Below w.heap.size w w' := by
  have HL := Aside0.mk hl
  have HLC := Aside0.mk hlc
  have hl62 : l.length ≤ 5864062014635 := by omega
  obtain ⟨kb, hkb⟩ := rord_f n l (by omega)
  have hre := Gr.refOrder_eq n l
  have HKB := Aside0.mk hkb
  clear hl hlc hkb
  go_enter Try.func4, Try.ntmps4
  go_wp2_with fail
  refine (shown_any w).mono ?_
  rintro e w1 ⟨rfl, hb1⟩
  have B1 := Aside0.mk hb1
  clear hb1
  have E0 := Aside0.mk (emptyE w1 w1.heap.size (Nat.le_refl _))
  have CL1 := Aside0.mk (Kd.C_below HL.out B1.out)
  have AL1 := Aside0.mk ((Below.refl w1.heap.size w1).alloc (Nat.le_refl _) (.cells #[] 52))
  go_wp2_with (first
    | ((with_reducible refine gate_builtin (b := .append) (xs := #[.tmp 18, .tmp 19]) rfl ?_); at_builtin; refine Kd.R_append_rows kE (Rr := kE.K (w1.alloc (.cells #[] 52))) (w0 := w1) w1.heap.size rfl (.tmp 18) (.tmp 19) 44 52 (.agg #[.int .i64 0, .int .i64 0, .bool false]) 24 rfl Try.underlying44 info52 rfl (by decide) (by omega) (.slice (some ⟨w1.heap.size, 0, none⟩) 0 0) [] l A l.length c (fun _ => True) (fun _ => False) rfl rfl E0.out (Kd.C_below CL1.out AL1.out) (fun x cs h => kE_KM x cs h) (fun _ hk => hk.elim) (fun _ _ => trivial) AL1.out AL1.out.size (by simp; omega) ?_; intro v6 w2 ho2 hb2 hg2 hat2; have R2 := Aside0.mk ho2; have B2 := Aside0.mk hb2; clear ho2 hb2 hg2 hat2)
    | fail)
  rw [List.nil_append] at R2
  obtain ⟨A6, c6, e6, hl6, hc6⟩ := Kd.R_reads R2.out
  subst e6
  have C6 := Aside0.mk hc6
  have BW2 := Aside0.mk (below_step B1.out B2.out)
  clear hl6 hc6 E0 CL1 AL1
  refine (order_any n _ c6 l _ C6.out).mono ?_
  rintro e w3 ⟨v7, v8, rfl, hr7, hr8, hb3⟩
  obtain ⟨A7, c7, rfl, hl7, hc7⟩ := hr7
  obtain ⟨A8, c8, rfl, hl8, hc8⟩ := hr8
  have B23 := Aside0.mk hb3
  have BW3 := Aside0.mk (below_step BW2.out hb3)
  have C7 := Aside0.mk hc7
  have L7 := Aside0.mk hl7
  have C8 := Aside0.mk hc8
  clear hb3 hl7 hc7 hl8 hc8
  go_wp2_with fail
  have hlm : (l.map mk52).length = l.length := by simp
  have CK := Aside0.mk (C_mk (Kd.C_below HL.out BW3.out))
  obtain ⟨r1, hr1⟩ : ∃ r1, r1 = Gr.refOrder n l := ⟨_, rfl⟩
  rw [← hr1] at HKB hre
  clear hr1
  obtain ⟨ra, re⟩ := r1
  obtain ⟨hra, hre⟩ := hre
  simp only at hra hre
  subst hra
  subst hre
  have hcall := PGraphOrders.majordomoref08_Order.calls kb n A c (l.map mk52) (Gr.order n l).1 (Gr.order n l).2.2 w3 (by rw [hlm]; exact CK.out) (by rw [hlm]; exact HLC.out) HKB.out
  rw [hlm] at hcall
  refine hcall.mono ?_
  clear hcall hlm
  rintro e w4 ⟨v9, rfl, hr9, hb4⟩
  obtain ⟨A9, c9, rfl, hl9, hc9⟩ := Kd.R_reads hr9
  have B34 := Aside0.mk hb4
  have BW4 := Aside0.mk (below_step BW3.out hb4)
  have C9 := Aside0.mk hc9
  have L9 := Aside0.mk hl9
  clear hb4 hr9 hl9 hc9
  have hol : (Gr.order n l).1.length ≤ 4611686018427387904 := by
    rcases Gr.order_spec n l with ⟨hb, ho⟩ | ⟨hb, a, ho, ht⟩ | ⟨hb, cy, ho, ht⟩
    · rw [ho]; simp
    · rw [ho]; have := ht.len; have := (Gr.bad_false hb).2.1; simp only; omega
    · rw [ho]; simp
  have HI := Aside0.mk (ints_f (Gr.order n l).1 (Gr.order n l).1 hol)
  rw [decide_eq_true rfl] at HI
  clear hol
  go_wp2_with fail
  refine (PGraphOrders.majordomolaw08_ints.calls _ _ _ (Gr.order n l).1 _ _ (Gr.order n l).1 true _ (Kd.C_below C7.out B34.out) L7.out C9.out L9.out HI.out).mono ?_
  rintro e w5 ⟨rfl, ⟨n5, rfl⟩⟩
  have BW5 := Aside0.mk (pw_below_drewN BW4.out n5)
  have B25 := Aside0.mk (pw_below_drewN (below_step B23.out B34.out) n5)
  have C8' := Aside0.mk (Kd.C_below C8.out (pw_below_drewN B34.out n5))
  have hlen : 0 ≤ l.length := Nat.zero_le _
  go_wp2
  have hspec : Aside0 (((Gr.order n l).2.2 ≠ 80 ∧ (Gr.order n l).2.1 = []) ∨ ((Gr.order n l).2.2 = 80 ∧ Gr.Cyc n.toNat l (Gr.order n l).2.1 ∧ (Gr.order n l).2.1.length ≤ 32)) := ⟨by
    rcases Gr.order_spec n l with ⟨hb, ho⟩ | ⟨hb, a, ho, ht⟩ | ⟨hb, cy, ho, ht⟩
    · rw [ho]; left; simp
    · rw [ho]; left; simp
    · rw [ho]; right
      refine ⟨rfl, ht, ?_⟩
      have := Gr.pigeon n.toNat cy ht.nodup ht.range
      have := (Gr.bad_false hb).2.1
      simp only; omega⟩
  obtain ⟨oa, hoa⟩ : ∃ x, x = (Gr.order n l).1 := ⟨_, rfl⟩
  obtain ⟨oc, hoc⟩ : ∃ x, x = (Gr.order n l).2.1 := ⟨_, rfl⟩
  obtain ⟨oe, hoe⟩ : ∃ x, x = (Gr.order n l).2.2 := ⟨_, rfl⟩
  rw [← hoa, ← hoc, ← hoe]
  rw [← hoc] at C8' hspec
  rw [← hoe] at hspec
  clear hoa hoc hoe C8 HI HKB C9 L9 L7 C7
  obtain ⟨wA, hwA⟩ : ∃ wA, wA = w4.drewN n5 := ⟨_, rfl⟩
  rw [← hwA] at BW5 B25 C8' ⊢
  clear hwA
  go_loopg [13] l.length (fun g v13 wr => ∃ (k : Nat), v13 = .int .i64 k ∧ k ≤ l.length ∧ Aside0 (g = l.length - k) ∧ Aside0 (Below wA.heap.size wA wr))
  case atStart => exact ⟨0, rfl, Nat.zero_le _, ⟨rfl⟩, ⟨Below.refl _ _⟩⟩
  case round =>
    obtain ⟨k, rfl, hk, HG, HB⟩ := hrel
    by_cases hlt : k < l.length
    · have hlt' : (k : Int) < (l.length : Int) := by omega
      obtain ⟨ad6, rfl, p0, p1, p2⟩ := at_En (Kd.C_below C6.out (below_step B25.out HB.out)) k (by omega)
      obtain ⟨ad, rfl, q0, q1, q2⟩ := at_En (Kd.C_below HL.out (below_step BW5.out HB.out)) k (by omega)
      obtain ⟨xa, hxa⟩ : ∃ xa, xa = (rdE l k).1 := ⟨_, rfl⟩
      obtain ⟨xb, hxb⟩ : ∃ xb, xb = (rdE l k).2.1 := ⟨_, rfl⟩
      obtain ⟨xc, hxc⟩ : ∃ xc, xc = (rdE l k).2.2 := ⟨_, rfl⟩
      rw [← hxa] at p0 q0
      rw [← hxb] at p1 q1
      rw [← hxc] at p2 q2
      clear hxa hxb hxc
      go_wp2
      go_quiet (fail)
      go_wp2
      go_roundg (l.length - (k + 1))
      case measure => have := HG.out; omega
      case rel => exact ⟨k + 1, by go_num, by omega, ⟨rfl⟩, ⟨pw_below_drewN HB.out _⟩⟩
    · have hlt' : ¬ (k : Int) < (l.length : Int) := by omega
      rcases hspec.out with ⟨he, hcn⟩ | ⟨he, hcy, hc32⟩
      · have he' : (oe != 80) = true := by simpa using he
        subst hcn
        clear he
        go_wp2
        go_ret
        exact ⟨rfl, below_step BW5.out HB.out⟩
      · subst he
        go_wp2
        have HCY := Aside0.mk hcy
        have hpos : 0 < oc.length := by
          rcases oc with _ | ⟨x, t⟩
          · exact absurd rfl hcy.ne
          · simp
        clear hcy
        go_loopg [14] oc.length (fun g v14 wr => ∃ (i : Nat), v14 = .int .i64 i ∧ i ≤ oc.length ∧ Aside0 (g = oc.length - i) ∧ Aside0 (Below wA.heap.size wA wr))
        case atStart => exact ⟨0, rfl, Nat.zero_le _, ⟨rfl⟩, HB⟩
        case round =>
          clear HB
          obtain ⟨i, rfl, hi, HG2, HB⟩ := hrel
          by_cases hlt2 : i < oc.length
          · have hlt2' : (i : Int) < (oc.length : Int) := by omega
            have CC := Aside0.mk (Kd.C_below C8'.out HB.out)
            obtain ⟨ad8, rfl, ha⟩ := Kd.at_int CC.out (i : Int) (by omega) (by omega)
            rw [Int.toNat_natCast] at ha
            have hj0 : 0 ≤ ((i : Int) + 1).tmod (oc.length : Int) := Int.tmod_nonneg _ (by omega)
            have hj1 : ((i : Int) + 1).tmod (oc.length : Int) < (oc.length : Int) := Int.tmod_lt_of_pos _ (by omega)
            have hjn : (((i : Int) + 1).tmod (oc.length : Int)).toNat = (i + 1) % oc.length := by
              rw [Int.tmod_eq_emod_of_nonneg (by omega), show ((i : Int) + 1) = ((i + 1 : Nat) : Int) from by omega, ← Int.natCast_emod, Int.toNat_natCast]
            obtain ⟨_, e8, hb⟩ := Kd.at_int CC.out (((i : Int) + 1).tmod (oc.length : Int)) hj0 hj1
            cases e8
            obtain ⟨y, hy⟩ : ∃ y, y = rd oc (((i : Int) + 1).tmod (oc.length : Int)) := ⟨_, rfl⟩
            have hy2 : y = oc.getD ((i + 1) % oc.length) 0 := by rw [hy]; unfold rd; rw [hjn]
            rw [← hy] at hb
            obtain ⟨x, hx⟩ : ∃ x, x = rd oc (i : Int) := ⟨_, rfl⟩
            have hx2 : x = oc.getD i 0 := by rw [hx, rd_nat]
            rw [← hx] at ha
            have hee := HCY.out.edge i hlt2
            rw [← hx2, ← hy2] at hee
            have hany : l.any (fun z => decide (z.1 = x ∧ z.2.1 = y)) = true := by
              rw [List.any_eq_true]
              obtain ⟨z, hz, e1, e2⟩ := hee
              exact ⟨z, hz, by simp [e1, e2]⟩
            have hef := edge_f l x y (by omega)
            rw [hany] at hef
            have HEDGE : Aside0 (∀ nq, Calls Try.prog 28 #[.slice A l.length c, .int .i64 x, .int .i64 y] (wr.drewN nq) fun e w'' => e = .returned (.bool true) ∧ ∃ m, w'' = wr.drewN m) := ⟨fun nq => by
              have hcl := PGraphOrders.majordomolaw08_edge.calls (l.length + 1) A c (l.map mk52) x y true (wr.drewN nq) (by rw [List.length_map]; exact C_mk (Kd.C_drewN (Kd.C_below HL.out (below_step BW5.out HB.out)) nq)) (by rw [List.length_map]; exact HLC.out) hef
              rw [List.length_map] at hcl
              exact Calls.quiet_of (hcl.mono fun e w' h => ⟨h.1, h.2.out⟩)⟩
            clear hany hef hee hjn hx hy
            have HX2 := Aside0.mk hx2
            clear hx2 hy2
            have hne : ¬ oc = [] := HCY.out.ne
            have hne2 : ¬ (oc.length : Int) = 0 := by omega
            have hwr : IntKind.i64.wrap ((i : Int) + 1) = (i : Int) + 1 := IntWalk.i64_in _ (by omega)
            go_wp2
            go_quiet ((go_at_call 28; exact HEDGE.out _))
            go_wp2
            have HB2 := Aside0.mk (pw_below_drewN HB.out nq)
            clear hwr hj0 hj1 hb ha
            obtain ⟨wB, hwB⟩ : ∃ wB, wB = wr.drewN nq := ⟨_, rfl⟩
            rw [← hwB] at HB2 ⊢
            clear hwB
            go_loopg [16] i (fun g v16 wr => ∃ (q : Nat), v16 = .int .i64 q ∧ q ≤ i ∧ Aside0 (g = i - q) ∧ Aside0 (Below wA.heap.size wA wr))
            case atStart => exact ⟨0, rfl, Nat.zero_le _, ⟨rfl⟩, HB2⟩
            case round =>
              clear HB2
              obtain ⟨q, rfl, hq, HG3, HB3⟩ := hrel
              by_cases hlt3 : q < i
              · have hlt3' : (q : Int) < (i : Int) := by omega
                have CC3 := Aside0.mk (Kd.C_below C8'.out HB3.out)
                obtain ⟨_, e1, hqa⟩ := Kd.at_int CC3.out (q : Int) (by omega) (by omega)
                cases e1
                obtain ⟨_, e1, hia⟩ := Kd.at_int CC3.out (i : Int) (by omega) (by omega)
                cases e1
                rw [Int.toNat_natCast] at hqa hia
                rw [show rd oc (i : Int) = x from by rw [rd_nat]; exact HX2.out.symm] at hia
                obtain ⟨z, hz⟩ : ∃ z, z = rd oc (q : Int) := ⟨_, rfl⟩
                rw [← hz] at hqa
                have hzx : (z == x) = false := by
                  rw [beq_eq_false_iff_ne, hz, rd_nat, HX2.out]
                  intro e
                  have h1 := Gr.idxOf_getD HCY.out.nodup q (by omega)
                  have h2 := Gr.idxOf_getD HCY.out.nodup i hlt2
                  rw [e, h2] at h1
                  omega
                have hql : (q : Int) < (oc.length : Int) := by omega
                clear hz
                go_wp2
                go_quiet (fail)
                go_wp2
                go_roundg (i - (q + 1))
                case measure => have := HG3.out; omega
                case rel => exact ⟨q + 1, by go_num, by omega, ⟨rfl⟩, ⟨pw_below_drewN HB3.out _⟩⟩
              · have hlt3' : ¬ (q : Int) < (i : Int) := by omega
                go_wp2
                go_roundg (oc.length - (i + 1))
                case measure => have := HG2.out; omega
                case rel => exact ⟨i + 1, by go_num, by omega, ⟨rfl⟩, HB3⟩
          · have hlt2' : ¬ (i : Int) < (oc.length : Int) := by omega
            have hpos' : 0 < (oc.length : Int) := by omega
            go_wp2
            go_ret
            exact ⟨rfl, below_step BW5.out HB.out⟩
end Go.Proofs.Ytcgcojdkkkfkdaa
