/-
  The walk of the statement GraphGoes.
-/
import Derived.Test.YtcgcojdkkkfkdaaGs
namespace Go.Proofs.Ytcgcojdkkkfkdaa
open Go.RowKit Go.Proofs.YtcgcojdkkkfkdaaW.PrintWords Go.Proofs.YtcgcojdkkkfkdaaW.PrintLast Go.Proofs.YtcgcojdkkkfkdaaW.PrintMore
set_option linter.unusedVariables false
set_option linter.unusedSimpArgs false

/-- The places of the first k numbers of an order. -/
def PIn (n : Nat) (a : List Int) (k : Nat) (xs : List Int) : Prop :=
  xs.length = n ∧ ∀ j : Nat, j < n → xs.getD j 0 = if (j : Int) ∈ a.take k then ((a.idxOf (j : Int) : Nat) : Int) else -1
theorem PIn.start {n : Nat} {a xs : List Int} (h : xs.length = n) (h1 : ∀ j, j < n → xs.getD j 0 = -1) : PIn n a 0 xs := ⟨h, fun j hj => by rw [h1 j hj]; simp⟩
theorem take_mem_iff {a : List Int} (hn : a.Nodup) {k : Nat} (hk : k < a.length) (x : Int) : x ∈ a.take (k + 1) ↔ x ∈ a.take k ∨ x = a.getD k 0 := by
  rw [List.take_add_one, List.getElem?_eq_getElem hk]
  simp only [List.getD_eq_getElem?_getD, List.getElem?_eq_getElem hk, Option.toList_some, List.mem_append, List.mem_singleton, Option.getD_some]
theorem not_mem_take {a : List Int} (hn : a.Nodup) {k : Nat} (hk : k < a.length) : a.getD k 0 ∉ a.take k := by
  intro h
  obtain ⟨j, hj, e⟩ := List.mem_iff_getElem.1 h
  rw [List.length_take] at hj
  rw [List.getElem_take, List.getD_eq_getElem?_getD, List.getElem?_eq_getElem hk] at e
  have := (List.getElem_inj (xs := a) (h₀ := by omega) (h₁ := hk) hn).1 e
  omega
theorem PIn.free {n : Nat} {a xs : List Int} (hn : a.Nodup) {k : Nat} (h : PIn n a k xs) (hk : k < a.length) (h0 : 0 ≤ a.getD k 0) (h1 : a.getD k 0 < n) : xs.getD (a.getD k 0).toNat 0 = -1 := by
  have := h.2 (a.getD k 0).toNat (by omega)
  rw [this, Int.toNat_of_nonneg h0, if_neg (not_mem_take hn hk)]
theorem PIn.next {n : Nat} {a xs : List Int} (hn : a.Nodup) {k : Nat} (h : PIn n a k xs) (hk : k < a.length) (h0 : 0 ≤ a.getD k 0) (h1 : a.getD k 0 < n) : PIn n a (k + 1) (xs.set (a.getD k 0).toNat (k : Int)) := by
  refine ⟨by rw [List.length_set]; exact h.1, fun j hj => ?_⟩
  rw [getD_set' _ _ _ _ (by rw [h.1]; omega)]
  by_cases e : j = (a.getD k 0).toNat
  · have e' : (j : Int) = a.getD k 0 := by omega
    rw [if_pos e, if_pos ((take_mem_iff hn hk _).2 (.inr e')), e', Gr.idxOf_getD hn k hk]
  · rw [if_neg e, h.2 j hj]
    have e' : (j : Int) ≠ a.getD k 0 := by omega
    by_cases hm : (j : Int) ∈ a.take k
    · rw [if_pos hm, if_pos ((take_mem_iff hn hk _).2 (.inl hm))]
    · rw [if_neg hm, if_neg (fun h2 => by rcases (take_mem_iff hn hk _).1 h2 with h2 | h2 <;> contradiction)]
theorem PIn.full {n : Nat} {a xs : List Int} {l : List Gr.E} (ht : Gr.Topo n l a) (h : PIn n a a.length xs) (x : Int) (h0 : 0 ≤ x) (h1 : x < n) : xs.getD x.toNat 0 = ((a.idxOf x : Nat) : Int) := by
  have := h.2 x.toNat (by omega)
  rw [this, Int.toNat_of_nonneg h0, List.take_length, if_pos (Gr.all_in ht.nodup ht.range ht.len x h0 h1)]

set_option maxHeartbeats 6400000 in
set_option maxRecDepth 100000 in
theorem goes_any (n : Int) (A : Option Addr) (c : Nat) (l : List Gr.E) (w : World) (hl : Kd.C kE w A l.length l) :
    Calls Try.prog 5 #[.int .i64 n, .slice A l.length c] w fun e w' => e = .returned (.bool true) ∧ Below w.heap.size w w' := by
  have hm := hl.2.1
  have HL := Aside0.mk hl
  clear hl
  rcases Gr.order_spec n l with ⟨hb, ho⟩ | ⟨hb, a, ho, ht⟩ | ⟨hb, cy, ho, ht⟩
  · have HO := Aside0.mk ho
    clear ho hb
    go_enter Try.func5, Try.ntmps5
    go_wp2_with fail
    refine (shown_any w).mono ?_
    rintro e w1 ⟨rfl, hb1⟩
    have B1 := Aside0.mk hb1
    clear hb1
    go_wp2_with fail
    refine (order_any n _ c l _ (Kd.C_below HL.out B1.out)).mono ?_
    rw [HO.out]
    rintro e w2 ⟨v1, v2, rfl, ⟨A1, c1, rfl, _, _⟩, _, hb2⟩
    have B2 := Aside0.mk (below_step B1.out hb2)
    clear hb2
    go_wp2
    go_ret
    exact ⟨rfl, B2.out⟩
  · have HO := Aside0.mk ho
    have HT := Aside0.mk ht
    obtain ⟨h0, h1, h2⟩ := Gr.bad_false hb
    obtain ⟨m, rfl⟩ := Int.eq_ofNat_of_zero_le h0
    have HR := Aside0.mk h2
    have hm32 : m ≤ 32 := by omega
    have hal : a.length = m := ht.len
    clear ho hb ht h0 h1 h2
    go_enter Try.func5, Try.ntmps5
    go_wp2_with fail
    refine (shown_any w).mono ?_
    rintro e w1 ⟨rfl, hb1⟩
    have B1 := Aside0.mk hb1
    clear hb1
    go_wp2_with fail
    refine (order_any (m : Int) _ c l _ (Kd.C_below HL.out B1.out)).mono ?_
    rw [HO.out]
    rintro e w2 ⟨v1, v2, rfl, ⟨A1, c1, rfl, hl1, hc1⟩, _, hb2⟩
    have B2 := Aside0.mk (below_step B1.out hb2)
    have C1 := Aside0.mk hc1
    clear hb2 hl1 hc1
    have HAL := Aside0.mk hal
    clear hal
    have HLw := Aside0.mk (Kd.C_below HL.out B2.out)
    go_wp2_with ((with_reducible refine gate_dst (N := 34) rfl ?_); refine Kd.R_make (Kd.int .i64) (w0 := w2) w2.heap.size 3 rfl (N := 34) rfl 45 _ _ rfl (m : Int) rfl rfl Try.underlying45 (.int .i64 0) 8 info3' rfl (by decide) (by omega) (0 : Int) (ok := fun _ => True) (okp := fun _ => True) rfl (fun _ hk => hk) trivial (by omega) (by simp; omega) (Below.refl _ _) (Nat.le_refl _) ?_; intro v9 w3 ho3 hb3 hg3 hat3; clear hat3; have R3 := Aside0.mk ho3; have B3 := Aside0.mk hb3; clear ho3 hb3 hg3)
    obtain ⟨A9, c9, e9⟩ := Kd.R_slice R3.out
    rw [List.length_replicate, Int.toNat_natCast] at e9
    subst e9
    go_loopg [10] m (fun g v10 wr => ∃ (k : Nat) (xs : List Int), v10 = .int .i64 k ∧ k ≤ m ∧ Aside0 (g = m - k) ∧ Aside0 (xs.length = m ∧ ∀ j, j < k → xs.getD j 0 = -1) ∧ Aside0 (Kd.R (Kd.int .i64) 3 wr w2.heap.size (fun _ => True) (.slice A9 m c9) xs) ∧ Aside0 (Below w2.heap.size w2 wr))
    case atStart => exact ⟨0, List.replicate m 0, rfl, Nat.zero_le _, ⟨rfl⟩, ⟨by simp, fun j hj => absurd hj (Nat.not_lt_zero _)⟩, R3, B3⟩
    case round =>
      clear R3 B3
      obtain ⟨k, xs, rfl, hk, HG, HX, HV, HB⟩ := hrel
      by_cases hlt : k < m
      · have hlt' : (k : Int) < (m : Int) := by omega
        obtain ⟨go, co, eo, gb, gl, cl, hgh⟩ := Kd.R_form HV.out (by have := HX.out.1; omega)
        injection eo with ea en ec
        subst ea
        subst ec
        clear en
        have GB := Aside0.mk gb
        clear gb gl hgh
        obtain ⟨hx, hf⟩ := Kd.R_celln (0 : Int) HV.out (k : Int) (by omega) (by omega)
        rw [Int.toNat_natCast] at hx hf
        have HP := Aside0.mk (Kd.R_putg HV.out (k : Int) (-1))
        rw [Int.toNat_natCast] at HP
        have hxl : xs.length = m := HX.out.1
        have HXL := Aside0.mk hxl
        clear hxl
        go_wp2_with ((with_reducible refine gate_store (t := 3) (p := 42) rfl ?_); refine store_event (t := 3) (p := 42) (v := _) (w1 := wr.setCell ⟨go, k, none⟩ (.int .i64 (-1))) rfl rfl rfl ?hr ?_; (case hr => first | (go_simp; done) | (go_simp; rfl)); intro w4 hw; have HV4 : Aside0 (Kd.R (Kd.int .i64) 3 w4 w2.heap.size (fun _ => True) (.slice (some ⟨go, 0, none⟩) m c9) (xs.set k (-1))) := ⟨by rw [hw]; exact HP.out.1⟩; have HB4 := Aside0.mk (show Below w2.heap.size w2 w4 by rw [hw]; exact below_set HB.out GB.out); clear hw)
        go_roundg (m - (k + 1))
        case measure => have := HG.out; omega
        case rel =>
          refine ⟨k + 1, xs.set k (-1), by go_num, by omega, ⟨rfl⟩, ⟨by rw [List.length_set]; exact HXL.out, fun j hj => ?_⟩, HV4, HB4⟩
          rw [getD_set' _ _ _ _ (by have := HXL.out; omega)]
          by_cases e : j = k
          · rw [if_pos e]
          · rw [if_neg e]; exact HX.out.2 j (by omega)
      · have hlt' : ¬ (k : Int) < (m : Int) := by omega
        have hkm : k = m := by omega
        subst hkm
        have HP0 := Aside0.mk (PIn.start (a := a) HX.out.1 HX.out.2)
        clear HX
        go_wp2
        go_loopg [11] a.length (fun g v11 wr => ∃ (k2 : Nat) (xs : List Int), v11 = .int .i64 k2 ∧ k2 ≤ a.length ∧ Aside0 (g = a.length - k2) ∧ Aside0 (PIn k a k2 xs) ∧ Aside0 (Kd.R (Kd.int .i64) 3 wr w2.heap.size (fun _ => True) (.slice A9 k c9) xs) ∧ Aside0 (Below w2.heap.size w2 wr))
        case atStart => exact ⟨0, xs, rfl, Nat.zero_le _, ⟨rfl⟩, HP0, HV, HB⟩
        case round =>
          clear HP0 HV HB
          obtain ⟨k2, xs, rfl, hk2, HG2, HX, HV, HB⟩ := hrel
          have hal32 : a.length ≤ 32 := by have := HAL.out; omega
          by_cases hlt2 : k2 < a.length
          · have hlt2' : (k2 : Int) < (a.length : Int) := by omega
            obtain ⟨ad, rfl, ha⟩ := Kd.at_int (Kd.C_below C1.out HB.out) (k2 : Int) (by omega) (by omega)
            obtain ⟨x, hx0⟩ : ∃ x, x = rd a (k2 : Int) := ⟨_, rfl⟩
            have hx0' : x = a.getD k2 0 := by rw [hx0, rd_nat]
            rw [← hx0, Int.toNat_natCast] at ha
            obtain ⟨r0, r1⟩ := HT.out.range x (by rw [hx0']; exact Gr.getD_mem k2 hlt2)
            have r1 : x < (k : Int) := by simpa using r1
            have HXX := Aside0.mk hx0'
            clear hx0 hx0'
            obtain ⟨go, co, eo, gb, gl, cl, hgh⟩ := Kd.R_form HV.out (by have := HX.out.1; omega)
            injection eo with ea en ec
            subst ea
            subst ec
            clear en
            have GB := Aside0.mk gb
            clear gb gl hgh
            have hxl : xs.length = k := HX.out.1
            obtain ⟨hx, hf⟩ := Kd.R_celln (0 : Int) HV.out x r0 r1
            rw [show rdOf (0 : Int) xs x = -1 from by
              have := PIn.free HT.out.nodup HX.out hlt2 (by rw [← HXX.out]; exact r0) (by rw [← HXX.out]; exact r1)
              rw [← HXX.out] at this; exact this] at hx
            have HP := Aside0.mk (Kd.R_putg HV.out x (k2 : Int))
            have HXL := Aside0.mk hxl
            clear hxl
            have hx1 : ¬ x < 0 := by omega
            have hx2 : ¬ x ≥ (k : Int) := by omega
            go_wp2_with ((with_reducible refine gate_store (t := 3) (p := 78) rfl ?_); refine store_event (t := 3) (p := 78) (v := _) (w1 := wr.setCell ⟨go, x.toNat, none⟩ (.int .i64 (k2 : Int))) rfl rfl rfl ?hr ?_; (case hr => first | (go_simp; done) | (go_simp; rfl)); intro w4 hw; have HV4 : Aside0 (Kd.R (Kd.int .i64) 3 w4 w2.heap.size (fun _ => True) (.slice (some ⟨go, 0, none⟩) k c9) (xs.set x.toNat (k2 : Int))) := ⟨by rw [hw]; exact HP.out.1⟩; have HB4 := Aside0.mk (show Below w2.heap.size w2 w4 by rw [hw]; exact below_set HB.out GB.out); clear hw)
            go_roundg (a.length - (k2 + 1))
            case measure => have := HG2.out; omega
            case rel =>
              refine ⟨k2 + 1, xs.set x.toNat (k2 : Int), by go_num, by omega, ⟨rfl⟩, ⟨?_⟩, HV4, HB4⟩
              have := PIn.next HT.out.nodup HX.out hlt2 (by rw [← HXX.out]; exact r0) (by rw [← HXX.out]; exact r1)
              rwa [← HXX.out] at this
          · have hlt2' : ¬ (k2 : Int) < (a.length : Int) := by omega
            have hkm : k2 = a.length := by omega
            subst hkm
            go_wp2
            go_loopg [12] l.length (fun g v12 wr => ∃ (k3 : Nat), v12 = .int .i64 k3 ∧ k3 ≤ l.length ∧ Aside0 (g = l.length - k3) ∧ Aside0 (Kd.R (Kd.int .i64) 3 wr w2.heap.size (fun _ => True) (.slice A9 k c9) xs) ∧ Aside0 (Below w2.heap.size w2 wr))
            case atStart => exact ⟨0, rfl, Nat.zero_le _, ⟨rfl⟩, HV, HB⟩
            case round =>
              clear HV HB
              obtain ⟨k3, rfl, hk3, HG3, HV, HB⟩ := hrel
              by_cases hlt3 : k3 < l.length
              · have hlt3' : (k3 : Int) < (l.length : Int) := by omega
                obtain ⟨ad, rfl, e0, e1, e2⟩ := at_En (Kd.C_below HLw.out HB.out) k3 (by omega)
                obtain ⟨r0, r1, r2, r3⟩ := HR.out _ (rdE_mem hlt3)
                have hto := HT.out.edge _ (rdE_mem hlt3)
                obtain ⟨xa, hxa⟩ : ∃ xa, xa = (rdE l k3).1 := ⟨_, rfl⟩
                obtain ⟨xb, hxb⟩ : ∃ xb, xb = (rdE l k3).2.1 := ⟨_, rfl⟩
                rw [← hxa] at e0 r0 r1 hto
                rw [← hxb] at e1 r2 r3 hto
                clear hxa hxb
                obtain ⟨go, co, eo, gb, gl, cl, hgh⟩ := Kd.R_form HV.out (by have := HX.out.1; omega)
                injection eo with ea en ec
                subst ea
                subst ec
                clear en gb gl hgh
                have hxl : xs.length = k := HX.out.1
                have HT2 : Aside0 (Gr.Topo k l a) := ⟨by simpa using HT.out⟩
                obtain ⟨ha, _⟩ := Kd.R_celln (0 : Int) HV.out xa r0 (by omega)
                obtain ⟨hb, _⟩ := Kd.R_celln (0 : Int) HV.out xb r2 (by omega)
                rw [show rdOf (0 : Int) xs xa = ((a.idxOf xa : Nat) : Int) from PIn.full HT2.out HX.out xa r0 r1] at ha
                rw [show rdOf (0 : Int) xs xb = ((a.idxOf xb : Nat) : Int) from PIn.full HT2.out HX.out xb r2 r3] at hb
                clear hxl
                have hge : ¬ ((a.idxOf xa : Nat) : Int) ≥ ((a.idxOf xb : Nat) : Int) := by omega
                have hge2 : decide (((a.idxOf xb : Nat) : Int) ≤ ((a.idxOf xa : Nat) : Int)) = false := by simpa using hge
                go_wp2
                go_quiet (fail)
                go_wp2
                go_roundg (l.length - (k3 + 1))
                case measure => have := HG3.out; omega
                case rel => exact ⟨k3 + 1, by go_num, by omega, ⟨rfl⟩, ⟨Kd.R_drewN HV.out _⟩, ⟨pw_below_drewN HB.out _⟩⟩
              · have hlt3' : ¬ (k3 : Int) < (l.length : Int) := by omega
                have hbe : ((a.length : Int) == (k : Int)) = true := by have := HAL.out; simp; omega
                go_wp2
                go_ret
                exact ⟨rfl, below_step B2.out HB.out⟩
  · have HO := Aside0.mk ho
    clear ho hb
    go_enter Try.func5, Try.ntmps5
    go_wp2_with fail
    refine (shown_any w).mono ?_
    rintro e w1 ⟨rfl, hb1⟩
    have B1 := Aside0.mk hb1
    clear hb1
    go_wp2_with fail
    refine (order_any n _ c l _ (Kd.C_below HL.out B1.out)).mono ?_
    rw [HO.out]
    rintro e w2 ⟨v1, v2, rfl, ⟨A1, c1, rfl, _, _⟩, _, hb2⟩
    have B2 := Aside0.mk (below_step B1.out hb2)
    clear hb2
    go_wp2
    go_ret
    exact ⟨rfl, B2.out⟩
end Go.Proofs.Ytcgcojdkkkfkdaa
