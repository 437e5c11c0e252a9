/-
  JournalCrashes, walked.
-/
import Derived.Test.YtmfndobdkihbnaaKa
namespace Go.Proofs.Ytmfndobdkihbnaa.Dk
open Go.RowKit Go.MapKept Go.Proofs.YtmfndobdkihbnaaW.PrintWords Go.Proofs.YtmfndobdkihbnaaW.PrintLast Go.Proofs.YtmfndobdkihbnaaW.PrintMore
set_option linter.unusedVariables false
set_option linter.unusedSimpArgs false

set_option maxHeartbeats 16000000 in
set_option maxRecDepth 100000 in
theorem crashes_any (place : Int) (A : Option Addr) (c : Nat) (l : List OpT) (w : World) (hp0 : -9223372036854775808 ≤ place) (hp1 : place ≤ 9223372036854775807) (hl : Kd.C kO w A l.length l)
    (hG : ∀ x ∈ l, (-9223372036854775808 ≤ x.1 ∧ x.1 ≤ 9223372036854775807)) (hlen : l.length ≤ 1000000000000000) :
    Calls Try.prog 4 #[.int .i64 place, .slice A l.length c] w fun e w' => e = .returned (.bool true) ∧ Below w.heap.size w w' := by
  have HL := Aside0.mk hl
  have HGG := Aside0.mk hG
  have HP := Aside0.mk (And.intro hp0 hp1)
  clear hl hG hp0 hp1
  go_enter Try.func4, Try.ntmps4
  go_wp2_with fail
  refine (shown_any w).mono ?_
  rintro e w1 ⟨rfl, hb⟩
  have B1 := Aside0.mk hb
  clear hb
  go_wp2_with fail
  refine (among_any place 61 w1 (by omega) (by omega) HP.out.1 HP.out.2).mono ?_
  rintro e w1 ⟨r, rfl, hr0, hr1, rfl⟩
  obtain ⟨a, rfl⟩ := Int.eq_ofNat_of_zero_le hr0
  have ha60 : a ≤ 60 := by omega
  clear hr0 hr1
  go_wp2_with fail
  refine (ground_js (a : Int) w1 (by omega) (by omega)).mono ?_
  rintro e w2 ⟨b, m, jb, rfl, hj, h1, h2, h3, hb⟩
  have J2 := Aside0.mk hj
  have HBM := Aside0.mk (And.intro (Nat.le_trans B1.out.size h1) (Nat.le_trans B1.out.size h2))
  have HJL := Aside0.mk (Nat.le_trans B1.out.size h3)
  have B2 := Aside0.mk (below_step B1.out hb)
  clear hj h1 h2 h3 hb
  go_wp2_with fail
  refine (rows_any b m (groundS (a : Int)) (a : Int) 259 w2 J2.out.d J2.out.on J2.out.len (by omega) (by omega) (by omega)).mono ?_
  rintro e w3 ⟨v9, rfl, hn, hb⟩
  have hrw : rowsL (groundS (a : Int)).has 259 (a : Int) = rowsL (fun _ => zeros) 259 (a : Int) := rowsL_congr J2.out.idle.vis
  rw [hrw] at hn
  obtain ⟨A9, c9, rfl⟩ := Kd.N_slice hn
  rw [rowsL_60 _ a ha60] at hn ⊢
  have V3 := Aside0.mk (show Kd.V kR 37 w3 0 (fun k => ¬ DJ b m jb k) (.slice A9 60 c9) (rowsL (fun _ => zeros) 259 (a : Int)) from Kd.V_mono (Kd.N_V hn) J2.out.lt)
  have J3 := Aside0.mk (J2.out.below hb)
  have B3 := Aside0.mk (below_step B2.out hb)
  clear hrw hn hb J2
  go_wp2
  have hb4 : Below w3.heap.size w3 (w3.alloc (Obj.cells #[] 40)) := (Below.refl _ w3).alloc (Nat.le_refl _) _
  have F0 := Fr.of_below (S := DJ b m jb) hb4
  have I0 := Aside0.mk (show CInv w b m a jb A9 c9 0 (some ⟨w3.heap.size, 0, none⟩) [] 0 false false (groundS (a : Int)) (fun _ => zeros) 0 (w3.alloc (Obj.cells #[] 40)) from
    ⟨(J3.out.below hb4).d, J3.out.len, (J3.out.below hb4).j, HJL.out, rows_on V3.out F0 (.inl rfl), fun W' _ => ⟨rfl, Nat.zero_le _, fun h => absurd h (Nat.lt_irrefl 0)⟩, .inl ⟨J3.out.on, rfl, rfl, rfl, J3.out.idle⟩, below_step B3.out hb4⟩)
  clear hb4 F0 V3 J3 B3 B2 HJL B1
  go_loopg [8, 9, 11, 12, 13, 14, 15] 60 (fun gq v8 v9 v11 v12 v13 v14 v15 wr => ∃ (i jb : Nat) (A9 : Option Addr) (c9 : Nat) (n : Int) (A12 : Option Addr) (h12 : List PutT) (c12 : Nat) (sm fr : Bool) (s : FS) (F : Int → List Int) (gj : Int),
    v8 = .pointer (some ⟨jb, 0, none⟩) ∧ v9 = .slice A9 60 c9 ∧ v11 = .int .i64 n ∧ v12 = .slice A12 h12.length c12 ∧ v13 = .bool sm ∧ v14 = .bool fr ∧ v15 = .int .i64 i ∧ i ≤ 60 ∧ 0 ≤ n ∧ n ≤ i ∧ Aside0 (gq = 60 - i) ∧ Aside0 (CInv w b m a jb A9 c9 n A12 h12 c12 sm fr s F gj wr))
  case atStart => exact ⟨0, jb, A9, c9, 0, _, [], 0, false, false, groundS (a : Int), fun _ => zeros, 0, rfl, rfl, rfl, rfl, rfl, rfl, rfl, by omega, by omega, by omega, ⟨rfl⟩, I0⟩
  case round =>
    clear I0
    obtain ⟨i, jb, A9, c9, n, A12, h12, c12, sm, fr, s, F, gj, rfl, rfl, rfl, rfl, rfl, rfl, rfl, hi, hn0, hn1, HG, HI⟩ := hrel
    by_cases hlt : i < l.length
    case neg =>
      have hlt' : ¬ (i : Int) < (l.length : Int) := by omega
      go_wp2
      go_ret
      exact ⟨rfl, HI.out.below⟩
    have hlt' : (i : Int) < (l.length : Int) := by omega
    by_cases h60 : i < 60
    case neg =>
      have h60' : ¬ (i : Int) < 60 := by omega
      go_wp2
      go_ret
      exact ⟨rfl, HI.out.below⟩
    have h60' : (i : Int) < 60 := by omega
    obtain ⟨ad, Bo, co, rfl, q0, q1, q2, qle, qC⟩ := at_O (Kd.C_below HL.out HI.out.below) i hlt
    have hgo := HGG.out _ (List.mem_of_getElem? (rdO_get hlt))
    obtain ⟨⟨ok_, on_, ol⟩, hx⟩ : ∃ x, x = rdO l i := ⟨_, rfl⟩
    rw [← hx] at q0 q1 q2 qle qC hgo
    simp only at q0 q1 q2 qle qC hgo
    have HOL := Aside0.mk (show Kd.F kP wr (fun k => k < w.heap.size) Bo ol.length ol from by
      obtain ⟨ad0, B0, c0, e0, _, _, r2, _, rC⟩ := at_O HL.out i hlt
      cases e0
      have e2 := (HI.out.below.cell (World.block_lt_of_cell? w _ r2)).trans r2
      rw [← hx] at e2 rC
      rw [q2] at e2
      injection e2 with e2
      injection e2 with e2 _ _
      subst e2
      exact Kd.F_below (Kd.C_F heap_kP rC) HI.out.below)
    have HGO := Aside0.mk hgo
    clear hx qle qC hgo
    go_upto_region 17 with (fail)
    obtain ⟨wo, hwo⟩ : ∃ wo, wo = wr.alloc (Obj.cells #[Value.int .i64 ok_, Value.int .i64 on_, Value.slice Bo ol.length co] 53) := ⟨_, rfl⟩
    have hbo : Below wr.heap.size wr wo := by rw [hwo]; exact (Below.refl _ wr).alloc (Nat.le_refl _) _
    have hho : wo.heap[wr.heap.size]? = some (.cells #[Value.int .i64 ok_, Value.int .i64 on_, Value.slice Bo ol.length co] 53 (0, 0)) := by rw [hwo]; exact Go.heap_alloc_new _ _
    rw [← hwo]
    obtain ⟨qp, hqp⟩ : ∃ qp, qp = wr.heap.size := ⟨_, rfl⟩
    rw [← hqp] at hho ⊢
    have HHO := Aside0.mk hho
    have IO := Aside0.mk (show CInv w b m a jb A9 c9 n A12 h12 c12 sm fr s F gj wo from
      ⟨HI.out.d.below hbo, HI.out.len, HI.out.j.below hbo, HI.out.jlow, rows_on HI.out.rows (Fr.of_below hbo) (.inl rfl), hand_on HI.out.hand (Fr.of_below hbo) (.inl rfl), HI.out.st, below_step HI.out.below hbo⟩)
    have HOL2 := Aside0.mk (Kd.F_below HOL.out hbo)
    have HQP := Aside0.mk (show ¬ DJ b m jb qp from fun e => by
      have a1 := HI.out.d.lt
      have a2 := HI.out.d.2.1.lt
      have a3 := blk_lt HI.out.j
      rcases e with e | e | e <;> omega)
    clear hwo hbo hho hqp HI HOL q0 q1 q2
    obtain ⟨off, hof⟩ : ∃ o, o = s.off := ⟨_, rfl⟩
    obtain ⟨r, hr⟩ : ∃ r, r = amongF ok_ 8 := ⟨_, rfl⟩
    have hrb := amongF_bd ok_ 8 (by omega)
    rw [← hr] at hrb
    obtain ⟨hr0, hr1⟩ := hrb
    have HOF := Aside0.mk hof
    have HR := Aside0.mk hr
    clear hof hr
    go_cut [74] (fun s74 wx => s74 = .bool (off && decide (r ≠ 6)) ∧ wx = wo)
    case first =>
      go_wp2_with fail
      refine (on_any b m s wo IO.out.d).mono ?_
      rintro e w4 ⟨rfl, rfl⟩
      rw [← HOF.out]
      cases off
      · go_wp2
        go_meet
        case rel => exact ⟨rfl, rfl⟩
      · have p0 := heap_cell HHO.out 0 (.int .i64 ok_) rfl
        go_wp2_with fail
        refine (among_det ok_ 8 w4 (by omega) (by omega) HGO.out.1 HGO.out.2).mono ?_
        rintro e w4 ⟨rfl, rfl⟩
        rw [← HR.out]
        by_cases h6 : r = 6
        · subst h6
          go_wp2
          go_meet
          case rel => exact ⟨rfl, rfl⟩
        · have h6' : (r != 6) = true := by simpa using h6
          go_wp2
          go_meet
          case rel => exact ⟨by simp [h6], rfl⟩
    obtain ⟨rfl, hwc⟩ := hcut
    rw [hwc]
    clear hwc wc
    by_cases hskip : off = true ∧ r ≠ 6
    · obtain ⟨rfl, h6⟩ := hskip
      have h6' : (true && decide (r ≠ 6)) = true := by simp [h6]
      rw [h6']
      clear h6 h6'
      go_wp2
      go_roundg (60 - (i + 1))
      case measure => have := HG.out; omega
      case rel => exact ⟨i + 1, jb, A9, c9, n, A12, h12, c12, sm, fr, s, F, gj, rfl, rfl, rfl, rfl, rfl, rfl, by go_num, by omega, hn0, by omega, ⟨rfl⟩, IO⟩
    have h6' : (off && decide (r ≠ 6)) = false := by
      cases off
      · rfl
      · have : r = 6 := by
          rcases Int.decEq r 6 with h | h
          · exact absurd ⟨rfl, h⟩ hskip
          · exact h
        simp [this]
    have HSK := Aside0.mk (show off = false ∨ r = 6 from by
      cases off
      · exact .inl rfl
      · rcases Int.decEq r 6 with h | h
        · exact absurd ⟨rfl, h⟩ hskip
        · exact .inr h)
    rw [h6']
    clear h6' hskip
    have p0 := heap_cell HHO.out 0 (.int .i64 ok_) rfl
    go_wp2_with fail
    refine (among_det ok_ 8 wo (by omega) (by omega) HGO.out.1 HGO.out.2).mono ?_
    rintro e w4 ⟨rfl, rfl⟩
    rw [← HR.out]
    clear p0 HR
    go_upto_block 2 with (fail)
    go_cut [8, 9, 11, 12, 13, 14] (fun v8 v9 v11 v12 v13 v14 wx => ∃ (jb : Nat) (A9 : Option Addr) (c9 : Nat) (n : Int) (A12 : Option Addr) (h12 : List PutT) (c12 : Nat) (sm fr : Bool) (s : FS) (F : Int → List Int) (gj : Int),
      v8 = .pointer (some ⟨jb, 0, none⟩) ∧ v9 = .slice A9 60 c9 ∧ v11 = .int .i64 n ∧ v12 = .slice A12 h12.length c12 ∧ v13 = .bool sm ∧ v14 = .bool fr ∧ 0 ≤ n ∧ n ≤ i + 1 ∧ Aside0 (CInv w b m a jb A9 c9 n A12 h12 c12 sm fr s F gj wx))
    case first =>
      by_cases h6 : r = 6
      case pos =>
        as_aux_lemma =>
          subst h6
          have OS := Aside0.mk IO.out.st.ost
          have HSF := Aside0.mk (show sm = true → fr = false from fun h => by
            rcases IO.out.st with ⟨_, h1, _⟩ | ⟨_, _, h1, _⟩ | ⟨_, h1, _⟩
            · rw [h1] at h; cases h
            · exact h1
            · rw [h1] at h; cases h)
          have L0 := Aside0.mk IO.out.len
          clear HSK HOF HOL2 HGO
          go_wp2_with fail
          refine (boot_any b m s w4 IO.out.d).mono ?_
          rintro e w5 ⟨rfl, hd, hf⟩
          obtain ⟨s5, hs5⟩ : ∃ s5, s5 = s.boot := ⟨_, rfl⟩
          rw [← hs5] at hd
          have G5 := Aside0.mk (show s5.off = false ∧ s5.len = 259 ∧ OSt s5 (a : Int) n F h12 sm from by rw [hs5]; exact ⟨rfl, L0.out, OS.out.like rfl rfl⟩)
          have F5 := Aside0.mk (hf.mono (S' := DJ b m jb) (fun k h => .inl h))
          have D5 := Aside0.mk hd
          have p1 := heap_cell ((hf.block qp (blk_lt HHO.out) (fun e => HQP.out (.inl e))).trans HHO.out) 1 (.int .i64 on_) rfl
          clear hs5 hd hf OS L0
          go_wp2_with fail
          refine (fuse_any b m s5 on_ w5 D5.out).mono ?_
          rintro e w6 ⟨rfl, hd, hf⟩
          obtain ⟨s6, hs6⟩ : ∃ s6, s6 = s5.fuseTo on_ := ⟨_, rfl⟩
          rw [← hs6] at hd
          have hfo := fuseTo_on (n := on_) G5.out.1
          rw [← hs6] at hfo
          have G6 := Aside0.mk (show s6.off = false ∧ s6.len = 259 ∧ OSt s6 (a : Int) n F h12 sm from ⟨hfo.1, hfo.2.1.trans G5.out.2.1, G5.out.2.2.like hfo.2.2 hfo.2.1⟩)
          have F6 := Aside0.mk (F5.out.trans (hf.mono (S' := DJ b m jb) (fun k h => .inl h)))
          have D6 := Aside0.mk hd
          clear hs6 hd hf hfo G5 F5 D5 p1 HHO
          go_wp2_with fail
          refine (open_o b m s6 (a : Int) n F h12 sm w6 D6.out G6.out.1 G6.out.2.2 (by omega) (by rw [G6.out.2.1]; omega) (by rw [G6.out.2.1]; omega) hn0 (by omega)).mono ?_
          rintro e w7 ⟨s7, hd, hlen7, ho, hf, hres⟩
          obtain ⟨v1, v2, rfl⟩ : ∃ v1 v2, e = .returned (.tuple #[v1, v2]) := by
            rcases hres with ⟨_, rfl, _⟩ | ⟨_, rfl⟩
            · exact ⟨_, _, rfl⟩
            · exact ⟨_, _, rfl⟩
          have F7 := Aside0.mk (F6.out.trans (DB.to (jb := jb) hf))
          have D7 := Aside0.mk hd
          have G7 := Aside0.mk (And.intro (hlen7.trans G6.out.2.1) ho)
          clear hd hlen7 ho hf hres F6 D6 G6
          go_wp2_with fail
          refine (boot_any b m s7 w7 D7.out).mono ?_
          rintro e w8 ⟨rfl, hd, hf⟩
          obtain ⟨s8, hs8⟩ : ∃ s8, s8 = s7.boot := ⟨_, rfl⟩
          rw [← hs8] at hd
          have G8 := Aside0.mk (show s8.off = false ∧ s8.len = 259 ∧ s8.fuse = -1 ∧ OSt s8 (a : Int) n F h12 sm from by rw [hs8]; exact ⟨rfl, G7.out.1, rfl, G7.out.2.like rfl rfl⟩)
          have F8 := Aside0.mk (F7.out.trans (hf.mono (S' := DJ b m jb) (fun k h => .inl h)))
          have D8 := Aside0.mk hd
          clear hs8 hd hf F7 D7 G7
          go_wp2_with fail
          refine (open_o b m s8 (a : Int) n F h12 sm w8 D8.out G8.out.1 G8.out.2.2.2 (by omega) (by rw [G8.out.2.1]; omega) (by rw [G8.out.2.1]; omega) hn0 (by omega)).mono ?_
          rintro e w9 ⟨s9, hd, hlen9, ho, hf, hres⟩
          rcases hres with ⟨jb9, rfl, hjb, hoff9, halt⟩ | ⟨hne, _⟩
          case inr => exact absurd G8.out.2.2.1 hne
          have F9 := Aside0.mk (F8.out.trans (DB.to (jb := jb) hf))
          have L9 := Aside0.mk (hlen9.trans G8.out.2.1)
          have HJ9 := Aside0.mk (show w4.heap.size ≤ jb9 from Nat.le_trans F8.out.size hjb)
          have D9 := Aside0.mk hd
          have O9 := Aside0.mk hoff9
          clear hd hlen9 ho hf hjb hoff9 F8 D8 G8
          rcases halt with ⟨hid, hJ⟩ | ⟨hsm, hmay, hid, hJ⟩
          · have I9 := Aside0.mk (IO.out.next HBM.out F9.out D9.out L9.out hJ (.inr HJ9.out) (.inl ⟨O9.out, rfl, rfl, rfl, hid⟩))
            have J9 := Aside0.mk hJ
            clear hid hJ F9 L9 HJ9 D9 O9 IO
            have hne1 : (n == n + 1) = false := by simp only [beq_eq_false_iff_ne]; omega
            cases fr
            · cases sm
              · go_wp2
                go_meet
                case rel => exact ⟨jb9, A9, c9, _, A12, h12, c12, false, false, _, F, _, rfl, rfl, rfl, rfl, rfl, rfl, hn0, by omega, I9⟩
              · go_wp2_with fail
                refine (groups_any jb9 b (a : Int) n w9 J9.out).mono ?_
                rintro e w9 ⟨rfl, rfl⟩
                go_wp2
                go_meet
                case rel => exact ⟨jb9, A9, c9, _, A12, h12, c12, false, false, _, F, _, rfl, rfl, rfl, rfl, rfl, rfl, hn0, by omega, I9⟩
            · have hsm0 : sm = false := by
                cases sm
                · rfl
                · have := HSF.out rfl; cases this
              subst hsm0
              go_wp2_with fail
              refine (groups_any jb9 b (a : Int) n w9 J9.out).mono ?_
              rintro e w9 ⟨rfl, rfl⟩
              by_cases hz : n = 0
              · subst hz
                go_wp2
                go_meet
                case rel => exact ⟨jb9, A9, c9, 0, A12, h12, c12, false, false, _, F, _, rfl, rfl, rfl, rfl, rfl, rfl, by omega, by omega, I9⟩
              · have hz' : (n == 0) = false := by simp only [beq_eq_false_iff_ne]; exact hz
                clear hz
                go_wp2
                go_meet
                case rel => exact ⟨jb9, A9, c9, _, A12, h12, c12, false, false, _, F, _, rfl, rfl, rfl, rfl, rfl, rfl, hn0, by omega, I9⟩
          · subst hsm
            obtain rfl := HSF.out rfl
            have J9 := Aside0.mk hJ
            have E9 := Aside0.mk (And.intro hmay hid)
            clear hid hJ hmay
            have heq1 : (n + 1 == n + 1) = true := by simp
            go_wp2_with fail
            refine (groups_any jb9 b (a : Int) (n + 1) w9 J9.out).mono ?_
            rintro e w9 ⟨rfl, rfl⟩
            go_wp2_with fail
            have hmay' : May 259 (a : Int) h12 := by have := E9.out.1; rw [L9.out] at this; exact this
            refine (with_60 a ha60 F _ A9 c9 A12 c12 h12 w9 (rows_on (jb' := jb9) IO.out.rows F9.out (.inr HJ9.out)) (Kd.F_now (hand_on (jb' := jb9) IO.out.hand F9.out (.inr HJ9.out))) hmay').mono ?_
            rintro e w10 ⟨A', c', rfl, hv, hb⟩
            have F10 := F9.out.trans (Fr.of_below (S := DJ b m jb) hb)
            have I10 := Aside0.mk (show CInv w b m a jb9 A' c' (n + 1) A12 h12 c12 false false s9 (puts F h12) (n + 1) w10 from
              ⟨D9.out.below hb, L9.out, J9.out.below hb, Nat.le_trans IO.out.below.size HJ9.out, Kd.V_mono hv (fun k hk => hk.elim id (fun hk => by
                  intro e
                  have a1 := D9.out.lt
                  have a2 := D9.out.2.1.lt
                  have a3 := blk_lt J9.out
                  rcases e with e | e | e <;> omega)), hand_on IO.out.hand F10 (.inr HJ9.out), .inl ⟨O9.out, rfl, rfl, rfl, E9.out.2⟩, IO.out.below' HBM.out F10⟩)
            clear F9 L9 HJ9 D9 O9 IO hv hb F10 hmay' E9 J9
            go_wp2
            go_meet
            case rel => exact ⟨jb9, A', c', _, A12, h12, c12, false, false, _, _, _, rfl, rfl, by go_num, rfl, rfl, rfl, by omega, by omega, I10⟩
      have hoff0 := HSK.out.resolve_right h6
      subst hoff0
      have hst := IO.out.st
      rcases hst with ⟨hs1, rfl, rfl, hgj, hidle⟩ | ⟨hs1, _⟩ | ⟨hs1, _⟩
      case inr.inl => have := HOF.out; rw [hs1] at this; cases this
      case inr.inr => have := HOF.out; rw [hs1] at this; cases this
      subst hgj
      obtain ⟨n_, hn_⟩ : ∃ n_, n_ = gj := ⟨_, rfl⟩
      obtain rfl := hn_
      have S0 := Aside0.mk (And.intro hs1 hidle)
      clear hs1 hidle HSK
      have p0 := heap_cell HHO.out 0 (.int .i64 ok_) rfl
      have p1 := heap_cell HHO.out 1 (.int .i64 on_) rfl
      have p2 := heap_cell HHO.out 2 (.slice Bo ol.length co) rfl
      by_cases h5 : r = 5
      case pos =>
        as_aux_lemma =>
          subst h5
          go_wp2_with fail
          refine (fuse_any b m s on_ w4 IO.out.d).mono ?_
          rintro e w5 ⟨rfl, hd, hf⟩
          obtain ⟨f1, f2, f3⟩ := fuseTo_on (n := on_) S0.out.1
          have I5 := Aside0.mk (IO.out.next HBM.out (hf.mono (fun k h => .inl h)) hd (f2.trans IO.out.len) (IO.out.j.fr hf (fun e => IO.out.j.ne IO.out.d (.inl e))) (.inl rfl) (.inl ⟨f1, rfl, rfl, rfl, S0.out.2.like f3⟩))
          clear hd hf f1 f2 f3
          go_wp2
          go_meet
          case rel => exact ⟨jb, A9, c9, _, A12, h12, c12, false, false, _, F, _, rfl, rfl, rfl, rfl, rfl, rfl, hn0, by omega, I5⟩
      by_cases h4 : r = 4
      case pos =>
        as_aux_lemma =>
          subst h4
          go_wp2_with fail
          refine (open_i b m s (a : Int) _ F w4 IO.out.d S0.out.1 S0.out.2 (by omega) (by rw [IO.out.len]; omega) (by rw [IO.out.len]; omega) hn0 (by omega)).mono ?_
          rintro e w5 ⟨jb', rfl, hjb, hJ, hd, hf⟩
          have I5 := Aside0.mk (IO.out.next HBM.out (DB.to hf) hd IO.out.len hJ (.inr hjb) (.inl ⟨S0.out.1, rfl, rfl, rfl, S0.out.2⟩))
          clear hd hf hJ hjb
          go_wp2
          go_meet
          case rel => exact ⟨jb', A9, c9, _, A12, h12, c12, false, false, _, F, _, rfl, rfl, rfl, rfl, rfl, rfl, hn0, by omega, I5⟩
      by_cases h7 : r = 7
      case pos =>
        as_aux_lemma =>
          subst h7
          by_cases hN : on_ = 7
          case neg =>
            have hN' : (on_ != 7) = true := by simpa using hN
            clear hN
            go_wp2
            go_meet
            case rel => exact ⟨jb, A9, c9, _, A12, h12, c12, false, false, s, F, _, rfl, rfl, rfl, rfl, rfl, rfl, hn0, by omega, IO⟩
          subst hN
          go_wp2_with fail
          refine (format_any b m s (a : Int) w4 IO.out.d (by omega) (by rw [IO.out.len]; omega) (by rw [IO.out.len]; omega)).mono ?_
          have hwt := write_two (i := (a : Int)) (bs := headB 0 0) S0.out.1 (by omega) (by rw [IO.out.len]; omega) (headB_len 0 0)
          obtain ⟨wr_, hwr⟩ : ∃ x, x = s.write (a : Int) (headB 0 0) := ⟨_, rfl⟩
          rw [← hwr] at hwt ⊢
          rintro e w5 ⟨rfl, hd, hf⟩
          rcases hwt with ⟨g1, g2, g3, g4⟩ | ⟨g1, g2, g3, g4⟩
          · have hid := S0.out.2.fresh (s' := wr_.1) (by omega) g4
            have hj5 := IO.out.j.fr hf (fun e => IO.out.j.ne IO.out.d e)
            have D5 := Aside0.mk hd
            have F5 := Aside0.mk (DB.to (jb := jb) hf)
            have G5 := Aside0.mk (And.intro g2 (And.intro (g3.trans IO.out.len) hid))
            rw [g1]
            clear hd hf g1 g2 g3 g4 hid hj5 hwr
            go_wp2_with fail
            refine (open_i b m wr_.1 (a : Int) 0 F w5 D5.out G5.out.1 G5.out.2.2 (by omega) (by rw [G5.out.2.1]; omega) (by rw [G5.out.2.1]; omega) (by omega) (by omega)).mono ?_
            rintro e w6 ⟨jb', rfl, hjb, hJ, hd, hf⟩
            have I6 := Aside0.mk (IO.out.next HBM.out (F5.out.trans (DB.to hf)) hd G5.out.2.1 hJ (.inr (Nat.le_trans F5.out.size hjb)) (.inl ⟨G5.out.1, rfl, rfl, rfl, G5.out.2.2⟩))
            clear hd hf hJ hjb
            go_wp2
            go_meet
            case rel => exact ⟨jb', A9, c9, _, A12, h12, c12, false, false, _, F, _, rfl, rfl, rfl, rfl, rfl, rfl, by omega, by omega, I6⟩
          · have hj5 := IO.out.j.fr hf (fun e => IO.out.j.ne IO.out.d e)
            have I5 := Aside0.mk (IO.out.next HBM.out (DB.to hf) hd (g3.trans IO.out.len) hj5 (.inl rfl) (.inr (.inr ⟨g2, rfl, rfl, S0.out.2.like g4⟩)))
            rw [g1]
            clear hd hf g1 g2 g3 g4 hj5 hwr
            go_wp2
            go_meet
            case rel => exact ⟨jb, A9, c9, _, A12, h12, c12, false, true, _, F, _, rfl, rfl, rfl, rfl, rfl, rfl, hn0, by omega, I5⟩
      as_aux_lemma =>
        have h4' : r < 4 := by omega
        go_upto_if 78 with (fail)
        go_cut [78] (fun s78 wx => s78 = .bool true ∧ wx = w4)
        case first =>
          have hc : r = 0 ∨ r = 1 ∨ r = 2 ∨ r = 3 := by omega
          rcases hc with rfl | rfl | rfl | rfl
          · go_wp2
            go_meet
            case rel => exact ⟨rfl, rfl⟩
          · go_wp2
            go_meet
            case rel => exact ⟨rfl, rfl⟩
          · go_wp2
            go_meet
            case rel => exact ⟨rfl, rfl⟩
          · go_wp2
            go_meet
            case rel => exact ⟨rfl, rfl⟩
        obtain ⟨rfl, hwc⟩ := hcut
        rw [hwc]
        clear hwc wc h4' h4 h5 h6 h7
        go_wp2_with fail
        have hfar : ∀ k, k < w.heap.size → ¬ DJ b m jb k := IO.out.far HBM.out
        have h259 := IO.out.len
        refine (commit_any jb b m s (a : Int) _ Bo co ol w4 IO.out.j IO.out.d S0.out.1 (by omega) (by rw [h259]; omega) (by rw [h259]; omega) hn0 (by omega) (Kd.F_now HOL2.out) (PutsAt.of_F HOL2.out hfar) (Kd.F_now HOL2.out).2.1).mono ?_
        have hcn := commit_no (s := s) (at_ := (a : Int)) (g := n_) (l := ol)
        have hcp := commit_plain (l := ol) S0.out.2 S0.out.1 (by omega) (by rw [h259]; omega) (by rw [h259]; omega)
        obtain ⟨cr, hcr⟩ : ∃ x, x = commitR s (a : Int) n_ ol := ⟨_, rfl⟩
        rw [← hcr] at hcp hcn ⊢
        rintro e w5 ⟨rfl, hd, hj, hf⟩
        have hq := hf.block qp (blk_lt HHO.out) HQP.out
        have HH5 := Aside0.mk (hq.trans HHO.out)
        have D5 := Aside0.mk hd
        have J5 := Aside0.mk hj
        have F5 := Aside0.mk hf
        have L5 := Aside0.mk (Kd.F_step HOL2.out (fun k hk hlt => hf.block k hlt (hfar k hk)))
        obtain ⟨mb, hmb⟩ : ∃ x, x = mayB s.len (a : Int) ol := ⟨_, rfl⟩
        rw [← hmb] at hcp hcn
        have HMB := Aside0.mk (show mayB 259 (a : Int) ol = mb by rw [hmb, h259])
        have HCN := Aside0.mk hcn
        have HCP := Aside0.mk hcp
        have HL5 := Aside0.mk h259
        clear hfar h259 hcn hcp hcr hd hj hf hq hmb p0 p1 p2
        have p2 := heap_cell HH5.out 2 (.slice Bo ol.length co) rfl
        go_upto_region 24 with (fail)
        refine start_ (n := 7) (S := fun w' => w'.cell? ⟨qp, 2, none⟩ = some (.slice Bo ol.length co)) (ds := []) #[false, false, false, false, false, false, false] (by kernel_rfl) rfl rfl (p2) (fun hHeld => ?_)
        refine pure_ (i := 0) (N := some 87) (v := ?_) (a' := ?_) #[true, false, false, false, false, false, false] rfl rfl (by kernel_rfl) (fun _ _ _ h => h) (Or.inl ⟨by rfl, ?_⟩) ?_ ?_
        rotate_left
        · intro w'
          go_simp
          with_reducible rfl
        rotate_left
        · simp only [Act.put, List.setIfInBounds_toArray, List.set_cons_zero, List.set_cons_succ, i64_w, i32_w]
          rfl
        refine pure_ (i := 2) (N := some 89) (v := ?_) (a' := ?_) #[true, false, true, false, false, false, false] rfl rfl (by kernel_rfl) (fun _ _ _ h => h) (Or.inl ⟨by rfl, ?_⟩) ?_ ?_
        rotate_left
        · intro w'
          go_simp
          with_reducible rfl
        rotate_left
        · simp only [Act.put, List.setIfInBounds_toArray, List.set_cons_zero, List.set_cons_succ, i64_w, i32_w]
          rfl
        refine pure_ (i := 3) (N := some 90) (v := ?_) (a' := ?_) #[true, false, true, true, false, false, false] rfl rfl (by kernel_rfl) (fun _ _ _ h => h) (Or.inl ⟨by rfl, ?_⟩) ?_ ?_
        rotate_left
        · intro w'
          go_simp
          with_reducible rfl
        rotate_left
        · simp only [Act.put, List.setIfInBounds_toArray, List.set_cons_zero, List.set_cons_succ, i64_w, i32_w]
          rfl
        refine take_ (i := 1) (N := some 88) (v := ?_) (a' := ?_) #[true, true, true, true, false, false, false] rfl rfl (by kernel_rfl) (fun _ _ _ h => h) (Or.inl ⟨by rfl, ?_⟩) hHeld ?_ ?_
        rotate_left
        · intro w' s0
          go_simp
          with_reducible rfl
        rotate_left
        · simp only [Act.put, List.setIfInBounds_toArray, List.set_cons_zero, List.set_cons_succ, i64_w, i32_w]
          rfl
        refine one_ (i := 4) (N := some 91) #[true, true, true, true, true, false, false] rfl rfl (by kernel_rfl) (by decide) (fun K hK => ?_)
        refine goes_ Try.func19 (by kernel_rfl) rfl #[.pointer (some ⟨b, 0, none⟩)] (by rfl) rfl rfl (by simp only [List.map_toArray, List.map_cons, List.map_nil]; rfl) ?_
        refine (len_any b m cr.1 w5.drew (D5.out.step rfl rfl)).mono ?_
        rintro e wl ⟨rfl, rfl⟩
        refine ⟨_, rfl, ?_⟩
        refine hK.out _ _ (p2) (fun hHeld => ?_)
        clear hK K
        refine norm_ (a' := ?_) ?_ ?_
        rotate_left
        · show Act.put _ (some 91) _ = _
          simp only [Act.put, List.setIfInBounds_toArray, List.set_cons_zero, List.set_cons_succ, i64_w, i32_w]
          rfl
        refine one_ (i := 5) (N := some 92) #[true, true, true, true, true, true, false] rfl rfl (by kernel_rfl) (by decide) (fun K hK => ?_)
        refine goes_ Try.func18 (by kernel_rfl) rfl #[.slice Bo ol.length co, .int .i64 (a : Int), .int .i64 cr.1.len] (by rfl) rfl rfl (by simp only [List.map_toArray, List.map_cons, List.map_nil]; rfl) ?_
        refine (group_any (a : Int) cr.1.len Bo co ol w5.drew (by omega) (by omega) (Kd.F_now (Kd.F_drew L5.out)) (Kd.F_now L5.out).2.1).mono ?_
        rintro e wg ⟨rfl, hb⟩
        refine ⟨_, rfl, ?_⟩
        have hb' : Below w5.heap.size w5 wg := ⟨hb.os, hb.tape, hb.output, hb.size, hb.block⟩
        have BG := Aside0.mk hb'
        have HH6 := Aside0.mk ((hb'.block _ (blk_lt HH5.out)).trans HH5.out)
        clear hb hb'
        refine hK.out _ _ (heap_cell HH6.out 2 (.slice Bo ol.length co) rfl) (fun hHeld => ?_)
        clear hK K
        refine norm_ (a' := ?_) ?_ ?_
        rotate_left
        · show Act.put _ (some 92) _ = _
          simp only [Act.put, List.setIfInBounds_toArray, List.set_cons_zero, List.set_cons_succ, i64_w, i32_w]
          rfl
        refine pure_ (i := 6) (N := some 93) (v := ?_) (a' := ?_) #[true, true, true, true, true, true, true] rfl rfl (by kernel_rfl) (fun _ _ _ h => h) (Or.inl ⟨by rfl, ?_⟩) ?_ ?_
        rotate_left
        · intro w'
          go_simp
          with_reducible rfl
        rotate_left
        · simp only [Act.put, List.setIfInBounds_toArray, List.set_cons_zero, List.set_cons_succ, i64_w, i32_w]
          rfl
        refine done_ (by kernel_rfl) ?_
        clear p2 hHeld
        have F6 := Aside0.mk (F5.out.trans (Fr.of_below (S := DJ b m jb) BG.out))
        have D6 := Aside0.mk (D5.out.below BG.out)
        have J6 := Aside0.mk (J5.out.below BG.out)
        have L6 := Aside0.mk (Kd.F_below L5.out BG.out)
        have ML := Aside0.mk (show mayB cr.1.len (a : Int) ol = mb from by
          cases mb
          · rw [HCN.out rfl]; show mayB s.len _ _ = _; rw [HL5.out]; exact HMB.out
          · rw [(HCP.out rfl).1, HL5.out]; exact HMB.out)
        rw [ML.out]
        clear F5 D5 J5 L5 BG HH5 ML HHO HOL2 HGO
        cases mb
        case false =>
          have hc := HCN.out rfl
          subst hc
          have I6 := Aside0.mk (IO.out.next HBM.out F6.out D6.out IO.out.len J6.out (.inl rfl) (.inl ⟨S0.out.1, rfl, rfl, rfl, S0.out.2⟩))
          clear HCN HCP IO F6 D6 J6 L6 HMB S0 HL5
          go_wp2
          go_meet
          case rel => exact ⟨jb, A9, c9, _, A12, h12, c12, false, false, _, F, _, rfl, rfl, rfl, rfl, rfl, rfl, hn0, by omega, I6⟩
        obtain ⟨hlen6, hcp⟩ := HCP.out rfl
        rcases hcp with ⟨e0, eoff, eg, eid⟩ | ⟨e2, eoff, est⟩
        case inr =>
          have I6 := Aside0.mk (show CInv w b m a jb A9 c9 n_ Bo ol co true false cr.1 F cr.2.2 wg from
            ⟨D6.out, hlen6.trans IO.out.len, J6.out, IO.out.jlow, rows_on IO.out.rows F6.out (.inl rfl), Kd.F_mono L6.out (IO.out.far HBM.out), .inr (.inl ⟨eoff, rfl, rfl, by rw [hlen6, IO.out.len]; exact mayB_spec HMB.out, est⟩), IO.out.below' HBM.out F6.out⟩)
          have p2 := heap_cell HH6.out 2 (.slice Bo ol.length co) rfl
          rw [e2]
          clear HCN HCP IO F6 D6 J6 L6 HMB S0 HL5 hlen6 e2 eoff est
          go_wp2
          go_meet
          case rel => exact ⟨jb, A9, c9, _, Bo, ol, co, true, false, _, F, _, rfl, rfl, rfl, rfl, rfl, rfl, hn0, by omega, I6⟩
        have p2 := heap_cell HH6.out 2 (.slice Bo ol.length co) rfl
        have E6 := Aside0.mk (And.intro eoff (And.intro eg eid))
        have HLN := Aside0.mk (hlen6.trans IO.out.len)
        rw [e0]
        clear HCN HCP S0 HL5 hlen6 e0 eoff eg eid
        go_wp2_with fail
        refine (with_60 a ha60 F _ A9 c9 Bo co ol wg (rows_on (jb' := jb) IO.out.rows F6.out (.inl rfl)) (Kd.F_now L6.out) (mayB_spec HMB.out)).mono ?_
        rintro e w7 ⟨A', c', rfl, hv, hb⟩
        have F7 := F6.out.trans (Fr.of_below (S := DJ b m jb) hb)
        have I7 := Aside0.mk (show CInv w b m a jb A' c' (n_ + 1) A12 h12 c12 false false cr.1 (puts F ol) cr.2.2 w7 from
          ⟨D6.out.below hb, HLN.out, J6.out.below hb, IO.out.jlow, Kd.V_mono hv (fun k hk => hk.elim id (fun hk => by
              intro e
              have a1 := D6.out.lt
              have a2 := D6.out.2.1.lt
              have a3 := blk_lt J6.out
              rcases e with e | e | e <;> omega)), hand_on IO.out.hand F7 (.inl rfl), .inl ⟨E6.out.1, rfl, rfl, E6.out.2.1, E6.out.2.2⟩, IO.out.below' HBM.out F7⟩)
        clear IO F6 D6 J6 L6 HMB E6 HLN F7 hv hb p2 HH6
        go_wp2
        go_meet
        case rel => exact ⟨jb, A', c', _, A12, h12, c12, false, false, _, _, _, rfl, rfl, by go_num, rfl, rfl, rfl, by omega, by omega, I7⟩
    obtain ⟨jb, A9, c9, n, A12, h12, c12, sm, fr, s, F, gj, rfl, rfl, rfl, rfl, rfl, rfl, hn0, hn1, HI⟩ := hcut
    as_aux_lemma =>
      clear IO HGO HOL2 HHO HQP HOF HSK
      go_wp2_with fail
      refine (on_any b m s wc HI.out.d).mono ?_
      rintro e w5 ⟨rfl, rfl⟩
      have hst := HI.out.st
      by_cases hs : s.off = true
      · rw [hs]
        clear hs hst
        go_wp2
        go_roundg (60 - (i + 1))
        case measure => have := HG.out; omega
        case rel => exact ⟨i + 1, jb, A9, c9, n, A12, h12, c12, sm, fr, s, F, gj, rfl, rfl, rfl, rfl, rfl, rfl, by go_num, by omega, hn0, by omega, ⟨rfl⟩, HI⟩
      have hs' : s.off = false := by simpa using hs
      rcases hst with ⟨_, rfl, rfl, hgj, hidle⟩ | ⟨hs1, _⟩ | ⟨hs1, _⟩
      case inr.inl => exact absurd hs1 hs
      case inr.inr => exact absurd hs1 hs
      rw [hs']
      have S0 := Aside0.mk (And.intro hs' hidle)
      have HGJ := Aside0.mk hgj
      clear hs hs' hidle hgj
      go_wp2_with fail
      refine (rows_any b m s (a : Int) 259 w5 HI.out.d S0.out.1 HI.out.len (by omega) (by omega) (by omega)).mono ?_
      rintro e w6 ⟨v26, rfl, hn, hb⟩
      have hrw : rowsL s.has 259 (a : Int) = rowsL F 259 (a : Int) := rowsL_congr S0.out.2.vis
      rw [hrw] at hn
      obtain ⟨A26, c26, rfl⟩ := Kd.N_slice hn
      have hC1 := (Kd.N_reads' hn).2.2
      have hC2 := (Kd.V_reads' (rows_on (jb' := jb) HI.out.rows (Fr.of_below hb) (.inl rfl))).2.2
      have hsa := same_any A26 c26 (rowsL F 259 (a : Int)) A9 c9 (rowsL F 259 (a : Int)) w6 hC1 hC2 rfl (by rw [rowsL_60 F a ha60]; omega)
      rw [rowsL_60 F a ha60] at hsa ⊢
      have HSA := Aside0.mk hsa
      have I6 := Aside0.mk (HI.out.next HBM.out (Fr.of_below hb) (HI.out.d.below hb) HI.out.len (HI.out.j.below hb) (.inl rfl) (n' := n) HI.out.st)
      clear hrw hn hb hC1 hC2 hsa HI
      go_wp2_with fail
      refine HSA.out.mono ?_
      rintro e w7 ⟨r7, rfl, hr7, q7, hq7⟩
      obtain rfl := hr7 rfl
      have I7 := Aside0.mk (I6.out.next HBM.out (W' := w7) (Fr.of_below (by rw [hq7]; exact pw_below_drewN (Below.refl _ _) q7)) (I6.out.d.below (by rw [hq7]; exact pw_below_drewN (Below.refl _ _) q7)) I6.out.len (I6.out.j.below (by rw [hq7]; exact pw_below_drewN (Below.refl _ _) q7)) (.inl rfl) (n' := n) I6.out.st)
      clear HSA I6 hq7 hr7
      go_wp2_with fail
      refine (groups_any jb b (a : Int) gj w7 I7.out.j).mono ?_
      rintro e w7 ⟨rfl, rfl⟩
      rw [HGJ.out]
      have hnn : (n != n) = false := by simp
      go_wp2
      go_roundg (60 - (i + 1))
      case measure => have := HG.out; omega
      case rel => exact ⟨i + 1, jb, A9, c9, n, A12, h12, c12, false, false, s, F, gj, rfl, rfl, rfl, rfl, rfl, rfl, by go_num, by omega, hn0, by omega, ⟨rfl⟩, I7⟩
end Go.Proofs.Ytmfndobdkihbnaa.Dk
