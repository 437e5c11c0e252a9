/-
  A journal: may.
-/
import Derived.Test.YtmfndobdkihbnaaJe
namespace Go.Proofs.Ytmfndobdkihbnaa.Dk
open Go.RowKit Go.MapKept Go.Proofs.YtmfndobdkihbnaaW.PrintWords Go.Proofs.YtmfndobdkihbnaaW.PrintLast Go.Proofs.YtmfndobdkihbnaaW.PrintMore
set_option linter.unusedVariables false
set_option linter.unusedSimpArgs false

theorem wpList_skipTo {P : Program} {ops : Array Oper} {rest : List Oper} {o : Oper} {a : Act} {w : World} {Q : Exit → Act → World → Prop} (hg : o.guard = none) (hdst : o.dst = none)
    (w' : World) (hrun : (execOp a.eval o).run P w = .ok .skip w')
    (h : wpList P ops Q rest a w') : wpList P ops Q (o :: rest) a w := by
  refine wpList_plain hg fun K hK => ?_
  unfold Oper.wp
  rw [hrun]
  show K (a.put o.dst undef) w'
  rw [hdst]
  exact hK _ _ h
abbrev PutT := Int × List Int
def kP : Kd PutT := Kd.pair (Kd.int .i64) (Kd.slice 5 (Kd.int .u8))
theorem kP_open {w : World} {x : PutT} {cs : List Value} (h : kP.K w x cs) : ∃ A c, cs = [.int .i64 x.1, .slice A x.2.length c] ∧ x.2.length ≤ c ∧ BytesAt w A x.2 := by
  obtain ⟨_, _, rfl, rfl, ⟨A, c, rfl, hl, hC⟩⟩ := h
  exact ⟨A, c, rfl, hl, BytesAt.of_C hC⟩
def rdP (xs : List PutT) (i : Nat) : PutT := xs.getD i (0, [])
theorem at_P {w : World} {A : Option Addr} {n : Nat} {xs : List PutT} (h : Kd.C kP w A n xs) (i : Nat) (h1 : i < n) : ∃ ad B c, A = some ad ∧ w.cell? (ad.add (i * 2)) = some (.int .i64 (rdP xs i).1) ∧ w.cell? ⟨(ad.add (i * 2)).block, (ad.add (i * 2)).off + 1, none⟩ = some (.slice B (rdP xs i).2.length c) ∧ (rdP xs i).2.length ≤ c ∧ BytesAt w B (rdP xs i).2 := by
  obtain ⟨ad, c, e, _, hK, hc0⟩ := Kd.C_get h (0, []) (i : Int) (by omega) (by omega)
  rw [Int.toNat_natCast] at hK hc0
  have hc : ∀ j u, c[j]? = some u → w.cell? (ad.add (i * 2 + j)) = some u := hc0
  obtain ⟨B, k, rfl, hl, hb⟩ := kP_open hK
  exact ⟨ad, B, k, e, hc 0 _ rfl, by rw [← add_field _ _ 1 (by omega)]; exact hc 1 _ rfl, hl, hb⟩
/-- Is it a group? -/
def mayB (len at_ : Int) (l : List PutT) : Bool :=
  decide (l.length ≤ 192) && decide ((l.map (·.1)).Nodup) && l.all fun x => decide (¬ (at_ ≤ x.1 ∧ x.1 < at_ + 199) ∧ 0 ≤ x.1 ∧ x.1 < len ∧ x.2.length = 64)

theorem mayB_bad {len at_ : Int} {l : List PutT} {x : PutT} (hx : x ∈ l) (h : ¬ (¬ (at_ ≤ x.1 ∧ x.1 < at_ + 199) ∧ 0 ≤ x.1 ∧ x.1 < len ∧ x.2.length = 64)) : mayB len at_ l = false := by
  unfold mayB
  have : (l.all fun x => decide (¬ (at_ ≤ x.1 ∧ x.1 < at_ + 199) ∧ 0 ≤ x.1 ∧ x.1 < len ∧ x.2.length = 64)) = false := by
    rw [List.all_eq_false]
    exact ⟨x, hx, by simp only [decide_eq_true_eq]; exact h⟩
  rw [this, Bool.and_false]
theorem rdP_get {l : List PutT} {i : Nat} (h : i < l.length) : l[i]? = some (rdP l i) := by
  unfold rdP; rw [List.getD_eq_getElem?_getD, List.getElem?_eq_getElem h]; rfl
theorem mayB_twice {len at_ : Int} {l : List PutT} {i : Nat} (hi : i < l.length) (h : (rdP l i).1 ∈ (l.take i).map (·.1)) : mayB len at_ l = false := by
  unfold mayB
  have : ¬ (l.map (·.1)).Nodup := fun hn => by
    have e : l = l.take i ++ (rdP l i :: l.drop (i + 1)) := by
      have := List.take_append_drop i l
      rw [List.drop_eq_getElem_cons hi] at this
      have h2 : l[i] = rdP l i := by
        have := rdP_get hi
        rw [List.getElem?_eq_getElem hi] at this
        exact Option.some.inj this
      rw [h2] at this
      exact this.symm
    rw [e, List.map_append, List.map_cons] at hn
    have := (List.nodup_append.1 hn).2.2 _ h _ (List.mem_cons_self ..)
    exact this rfl
  rw [decide_eq_false this, Bool.and_false, Bool.false_and]
theorem mayB_all {len at_ : Int} {l : List PutT} (h1 : (l.map (·.1)).Nodup) (h2 : ∀ x ∈ l, ¬ (at_ ≤ x.1 ∧ x.1 < at_ + 199) ∧ 0 ≤ x.1 ∧ x.1 < len ∧ x.2.length = 64) : mayB len at_ l = decide (l.length ≤ 192) := by
  unfold mayB
  have : (l.all fun x => decide (¬ (at_ ≤ x.1 ∧ x.1 < at_ + 199) ∧ 0 ≤ x.1 ∧ x.1 < len ∧ x.2.length = 64)) = true := by
    rw [List.all_eq_true]
    exact fun x hx => decide_eq_true (h2 x hx)
  rw [this, decide_eq_true h1, Bool.and_true, Bool.and_true]

set_option maxHeartbeats 8000000 in
set_option maxRecDepth 100000 in
theorem may_any (jb b m : Nat) (s : FS) (at_ g : Int) (A : Option Addr) (c : Nat) (l : List PutT) (w : World) (hj : JIs w jb b at_ g) (h : DiskIs w b m s) (h0 : 0 ≤ at_) (h1 : at_ ≤ 4096) (hl : Kd.C kP w A l.length l) (h63 : l.length ≤ 9223372036854775807) :
    Calls Try.prog 30 #[.pointer (some ⟨jb, 0, none⟩), .slice A l.length c] w fun e w' => e = .returned (.bool (mayB s.len at_ l)) ∧ Below w.heap.size w w' := by
  have H := Aside0.mk h
  have HJ := Aside0.mk hj
  have HL := Aside0.mk hl
  clear h hj hl
  have hmk := fun w => run_makeMap (P := Try.prog) 77 w
  go_enter Try.func30, Try.ntmps30
  go_wp2
  have HS0 := Aside0.mk (SeenIs.empty w 0)
  have HB0 := Aside0.mk ((Below.refl w.heap.size w).alloc (Nat.le_refl _) (.map #[] 0))
  clear hmk
  go_loopg [14] l.length (fun gq v14 wr => ∃ (i : Nat), v14 = .int .i64 i ∧ i ≤ l.length ∧ Aside0 (gq = l.length - i) ∧ Aside0 (Below w.heap.size w wr) ∧ Aside0 (SeenIs wr w.heap.size ((l.take i).map (·.1)).reverse) ∧ Aside0 (((l.take i).map (·.1)).Nodup ∧ ∀ x ∈ l.take i, ¬ (at_ ≤ x.1 ∧ x.1 < at_ + 199) ∧ 0 ≤ x.1 ∧ x.1 < s.len ∧ x.2.length = 64))
  case atStart => exact ⟨0, rfl, Nat.zero_le _, ⟨rfl⟩, HB0, ⟨by simpa using HS0.out⟩, ⟨by simp⟩⟩
  case round =>
    clear HS0 HB0
    obtain ⟨i, rfl, hi, HG, HB, HS, HK⟩ := hrel
    by_cases hlt : i < l.length
    · have hlt' : (i : Int) < (l.length : Int) := by omega
      obtain ⟨ad, Bx, cx, rfl, q0, q1, _, _⟩ := at_P (Kd.C_below HL.out HB.out) i hlt
      obtain ⟨⟨xb, bs⟩, hx⟩ : ∃ x, x = rdP l i := ⟨_, rfl⟩
      rw [← hx] at q0 q1
      have HX := Aside0.mk hx
      clear hx
      simp only at q0 q1
      go_upto_region 5 with (fail)
      obtain ⟨wo, hwo⟩ : ∃ wo, wo = wr.alloc (Obj.cells #[Value.int .i64 xb, Value.slice Bx bs.length cx] 40) := ⟨_, rfl⟩
      have hbo : Below wr.heap.size wr wo := by rw [hwo]; exact (Below.refl _ wr).alloc (Nat.le_refl _) _
      have hho : wo.heap[wr.heap.size]? = some (.cells #[Value.int .i64 xb, Value.slice Bx bs.length cx] 40 (0, 0)) := by rw [hwo]; exact Go.heap_alloc_new _ _
      rw [← hwo]
      have HBO := Aside0.mk (below_step HB.out hbo)
      obtain ⟨es_, k_, hm_⟩ := HS.out.map
      have HSO := Aside0.mk (HS.out.step (hbo.block _ (blk_lt hm_)))
      have HHO := Aside0.mk hho
      obtain ⟨v, hlk⟩ := HSO.out.lookup xb
      obtain ⟨tw, htw⟩ : ∃ tw, tw = decide (xb ∈ ((l.take i).map (·.1)).reverse) := ⟨_, rfl⟩
      rw [← htw] at hlk
      have HTW := Aside0.mk htw
      have p0 := heap_cell hho 0 (.int .i64 xb) rfl
      have p1 := heap_cell hho 1 (.slice Bx bs.length cx) rfl
      have d0 := (HJ.out.below HBO.out).c0
      have d1 := (HJ.out.below HBO.out).c1
      clear hwo hbo hho hm_ htw HB HS q0 q1
      go_upto_region 6 with (fail)
      have hwa : IntKind.i64.wrap (at_ + 199) = at_ + 199 := IntWalk.i64_in _ (by omega)
      go_cut [10] (fun s10 wx => s10 = .bool (decide (at_ ≤ xb ∧ xb < at_ + 199)) ∧ ∃ n, wx = wo.drewN n)
      case first =>
        by_cases ho1 : at_ ≤ xb
        · have ho1' : decide (xb ≥ at_) = true := decide_eq_true ho1
          by_cases ho2 : xb < at_ + 199
          · go_quiet (fail)
            go_wp2
            go_meet
            case rel => exact ⟨by rw [decide_eq_true (And.intro ho1 ho2)], _, rfl⟩
          · go_quiet (fail)
            go_wp2
            go_meet
            case rel => exact ⟨by rw [decide_eq_false (show ¬ (at_ ≤ xb ∧ xb < at_ + 199) by omega)], _, rfl⟩
        · have ho1' : decide (xb ≥ at_) = false := decide_eq_false ho1
          go_quiet (fail)
          go_wp2
          go_meet
          case rel => exact ⟨by rw [decide_eq_false (show ¬ (at_ ≤ xb ∧ xb < at_ + 199) by omega)], _, rfl⟩
      obtain ⟨rfl, n6, hwc⟩ := hcut
      rw [hwc]
      obtain ⟨w6, hw6⟩ : ∃ w6, w6 = wo.drewN n6 := ⟨_, rfl⟩
      have HB6 := Aside0.mk (show Below w.heap.size w w6 from by rw [hw6]; exact pw_below_drewN HBO.out n6)
      have HS6 := Aside0.mk (show SeenIs w6 w.heap.size ((l.take i).map (·.1)).reverse from by rw [hw6]; exact HSO.out.step rfl)
      have p0' : w6.cell? ⟨wr.heap.size, 0, none⟩ = some (.int .i64 xb) := by rw [hw6]; exact p0
      have p1' : w6.cell? ⟨wr.heap.size, 1, none⟩ = some (.slice Bx bs.length cx) := by rw [hw6]; exact p1
      have d0' : w6.cell? ⟨jb, 0, none⟩ = some (.pointer (some ⟨b, 0, none⟩)) := by rw [hw6]; exact d0
      rw [← hw6]
      clear hw6 hwc hlk p0 p1 d0 d1 hwa HBO HSO HHO wc
      have HLE : Aside0 (∀ nq, Calls Try.prog 19 #[.pointer (some ⟨b, 0, none⟩)] (w6.drewN nq) fun e w'' => e = .returned (.int .i64 s.len) ∧ ∃ m, w'' = w6.drewN m) := ⟨fun nq => (len_any b m s (w6.drewN nq) ((H.out.below HB6.out).step rfl rfl)).mono fun e w'' ⟨h1, h2⟩ => ⟨h1, nq, h2⟩⟩
      obtain ⟨own, hown⟩ : ∃ own, own = decide (at_ ≤ xb ∧ xb < at_ + 199) := ⟨_, rfl⟩
      rw [← hown]
      have HOWN := Aside0.mk hown
      obtain ⟨len, hlen⟩ : ∃ len, len = s.len := ⟨_, rfl⟩
      rw [← hlen] at HLE
      have HLEN := Aside0.mk hlen
      clear hown hlen
      go_upto_region 7 with (fail)
      cases tw
      case true =>
        have HBAD := Aside0.mk (show mayB s.len at_ l = false from mayB_twice hlt (by have := HTW.out; rw [← HX.out]; simpa using this))
        go_quiet (first | (go_at_call 19; exact HLE.out _) | fail)
        go_wp2
        go_ret
        rw [HBAD.out]
        exact ⟨rfl, pw_below_drewN HB6.out _⟩
      cases own
      case true =>
        have HBAD := Aside0.mk (show mayB s.len at_ l = false from mayB_bad (List.mem_of_getElem? ((rdP_get hlt).trans (congrArg some HX.out.symm))) (by have := HOWN.out; simp only [true_eq_decide_iff] at this; exact fun e => e.1 this))
        go_quiet (first | (go_at_call 19; exact HLE.out _) | fail)
        go_wp2
        go_ret
        rw [HBAD.out]
        exact ⟨rfl, pw_below_drewN HB6.out _⟩
      by_cases hn : xb < 0
      · have hn' : decide (xb < 0) = true := decide_eq_true hn
        have HBAD := Aside0.mk (show mayB s.len at_ l = false from mayB_bad (List.mem_of_getElem? ((rdP_get hlt).trans (congrArg some HX.out.symm))) (fun e => by have := e.2.1; simp only at this; omega))
        go_quiet (first | (go_at_call 19; exact HLE.out _) | fail)
        go_wp2
        go_ret
        rw [HBAD.out]
        exact ⟨rfl, pw_below_drewN HB6.out _⟩
      have hn' : decide (xb < 0) = false := decide_eq_false hn
      by_cases hge : xb ≥ len
      · have hge' : decide (xb ≥ len) = true := decide_eq_true hge
        have HBAD := Aside0.mk (show mayB s.len at_ l = false from mayB_bad (List.mem_of_getElem? ((rdP_get hlt).trans (congrArg some HX.out.symm))) (fun e => by have := e.2.2.1; rw [← HLEN.out] at this; simp only at this; omega))
        go_quiet (first | (go_at_call 19; exact HLE.out _) | fail)
        go_wp2
        go_ret
        rw [HBAD.out]
        exact ⟨rfl, pw_below_drewN HB6.out _⟩
      have hge' : decide (xb ≥ len) = false := decide_eq_false hge
      by_cases h64 : (bs.length : Int) = 64
      case neg =>
        have h64' : ((bs.length : Int) != 64) = true := by simp; omega
        have HBAD := Aside0.mk (show mayB s.len at_ l = false from mayB_bad (List.mem_of_getElem? ((rdP_get hlt).trans (congrArg some HX.out.symm))) (fun e => by have := e.2.2.2; simp only at this; omega))
        go_quiet (first | (go_at_call 19; exact HLE.out _) | fail)
        go_wp2
        go_ret
        rw [HBAD.out]
        exact ⟨rfl, pw_below_drewN HB6.out _⟩
      have h64' : ((bs.length : Int) != 64) = false := by simp; omega
      go_quiet (first | (go_at_call 19; exact HLE.out _) | fail)
      obtain ⟨w7, hw7⟩ : ∃ w7, w7 = w6.drewN nq := ⟨_, rfl⟩
      have HB7 := Aside0.mk (show Below w.heap.size w w7 from by rw [hw7]; exact pw_below_drewN HB6.out nq)
      have HS7 := Aside0.mk (show SeenIs w7 w.heap.size ((l.take i).map (·.1)).reverse from by rw [hw7]; exact HS6.out.step rfl)
      have q0 : w7.cell? ⟨wr.heap.size, 0, none⟩ = some (.int .i64 xb) := by rw [hw7]; exact p0'
      rw [← hw7]
      clear hw7 HB6 HS6 p0' p1' d0' HLE
      have hni : xb ∉ ((l.take i).map (·.1)).reverse := by have := HTW.out; simpa using this
      obtain ⟨w9, hrun, hs9, hg9⟩ := HS7.out.update xb (i : Int) hni
      go_wp2_with (first | ((with_reducible refine gate_ (.mapUpdate 77 (.tmp 68) (.tmp 70) (.tmp 71)) rfl ?_); refine wpList_skipTo rfl rfl w9 (exec_mapUpdate (m := .tmp 68) (k := .tmp 70) (x := .tmp 71) (vm := .map (some w.heap.size)) (vk := .int .i64 xb) (vx := .int .i64 (i : Int)) (by rfl) (by rfl) (by rfl) (by rfl) hrun) ?_) | fail)
      have HB9 := Aside0.mk (show Below w.heap.size w w9 from HB7.out.trans (Fr.below (Fr.mono (Fr.of_grown hg9) (S' := fun k => k = w.heap.size) (fun k e => (Option.some.inj e).symm)) (by have := HB7.out.size; exact this) (fun k e => by omega)))
      have HS9 := Aside0.mk (show SeenIs w9 w.heap.size ((l.take (i + 1)).map (·.1)).reverse from by
        rw [List.take_add_one, rdP_get hlt, ← HX.out]; simpa using hs9)
      have HK9 := Aside0.mk (show ((l.take (i + 1)).map (·.1)).Nodup ∧ ∀ x ∈ l.take (i + 1), ¬ (at_ ≤ x.1 ∧ x.1 < at_ + 199) ∧ 0 ≤ x.1 ∧ x.1 < s.len ∧ x.2.length = 64 from by
        rw [List.take_add_one, rdP_get hlt, ← HX.out]
        refine ⟨?_, ?_⟩
        · rw [List.map_append, List.nodup_append]
          refine ⟨HK.out.1, by simp, ?_⟩
          intro a ha b' hb' e
          simp at hb'
          subst hb'
          subst e
          exact hni (by simpa using ha)
        · intro x hx
          rcases List.mem_append.1 hx with hx | hx
          · exact HK.out.2 x hx
          · simp at hx
            subst hx
            have ho := HOWN.out
            have hL := HLEN.out
            simp only [false_eq_decide_iff] at ho
            exact ⟨ho, by simp only; omega, by simp only; omega, by simp only; omega⟩)
      clear hs9 hg9 hrun hni HB7 HS7 q0
      go_roundg (l.length - (i + 1))
      case measure => have := HG.out; omega
      case rel => exact ⟨i + 1, by go_num, by omega, ⟨rfl⟩, HB9, HS9, HK9⟩
    · have hil : i = l.length := by omega
      subst hil
      have HM := Aside0.mk (show mayB s.len at_ l = decide ((l.length : Int) ≤ 192) from by
        have hk := HK.out
        rw [List.take_length] at hk
        rw [mayB_all hk.1 hk.2]
        exact decide_eq_decide.2 (by omega))
      go_wp2
      go_ret
      rw [HM.out]
      exact ⟨rfl, HB.out⟩
end Go.Proofs.Ytmfndobdkihbnaa.Dk
