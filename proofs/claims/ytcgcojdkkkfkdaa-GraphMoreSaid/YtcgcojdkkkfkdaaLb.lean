/-
  The walk of the statement GraphBehind.
-/
import Derived.Test.YtcgcojdkkkfkdaaGs
import Derived.Test.YtcgcojdkkkfkdaaGg
namespace Go.Proofs.Ytcgcojdkkkfkdaa
open Go.RowKit Go.Proofs.YtcgcojdkkkfkdaaW.PrintWords Go.Proofs.YtcgcojdkkkfkdaaW.PrintLast Go.Proofs.YtcgcojdkkkfkdaaW.PrintMore
set_option linter.unusedVariables false
set_option linter.unusedSimpArgs false

theorem behind_len (n : Int) (l : List Gr.E) (a : Int) : (Gr.behind n l a).length ≤ 32 := by
  unfold Gr.behind
  split
  · simp
  · exact collect_len _ 32
def rnd (n : Int) (l : List Gr.E) (k : Nat) : Bool := (List.range k).any fun j => (Gr.behind n l (j : Int)).any (fun x => x == (j : Int))
theorem rnd_succ (n : Int) (l : List Gr.E) (k : Nat) : rnd n l (k + 1) = (rnd n l k || (Gr.behind n l (k : Int)).any (fun x => x == (k : Int))) := by
  unfold rnd; rw [List.range_succ, List.any_append]; simp
theorem any_take_succ (b : List Int) (q : Nat) (hq : q < b.length) (k : Int) : (b.take (q + 1)).any (fun x => x == k) = ((b.take q).any (fun x => x == k) || (rd b (q : Int) == k)) := by
  rw [List.take_add_one, List.getElem?_eq_getElem hq, List.any_append, rd_nat, List.getD_eq_getElem?_getD, List.getElem?_eq_getElem hq]
  simp
theorem rnd_iff {m : Nat} {l : List Gr.E} (hb : Gr.bad (m : Int) l = false) : rnd (m : Int) l m = true ↔ (Gr.order (m : Int) l).2.2 = 80 := by
  rw [← Gr.behind_cyc hb]
  unfold rnd
  rw [List.any_eq_true]
  constructor
  · rintro ⟨j, hj, h⟩
    rw [List.mem_range] at hj
    rw [List.any_eq_true] at h
    obtain ⟨x, hx, e⟩ := h
    have e : x = (j : Int) := by simpa using e
    subst e
    exact ⟨(j : Int), by omega, by omega, hx⟩
  · rintro ⟨i, h0, h1, h⟩
    refine ⟨i.toNat, by rw [List.mem_range]; omega, ?_⟩
    rw [List.any_eq_true]
    exact ⟨i, by rw [Int.toNat_of_nonneg h0]; exact h, by simp; omega⟩

set_option maxHeartbeats 6400000 in
set_option maxRecDepth 100000 in
theorem lawBehind_any (n from_ : Int) (A : Option Addr) (c : Nat) (l : List Gr.E) (w : World) (hl : Kd.C kE w A l.length l) (hlc : l.length ≤ c) (hl62 : l.length ≤ 4611686018427387904) :
    Calls Try.prog 6 #[.int .i64 n, .slice A l.length c, .int .i64 from_] w fun e w' => e = .returned (.bool true) ∧ Below w.heap.size w w' := by
  have HL := Aside0.mk hl
  have HLC := Aside0.mk hlc
  obtain ⟨kb, hkb⟩ := BehindRef.rbehind_f n l from_ hl62
  rw [← Gr.refBehind_eq] at hkb
  have HKB := Aside0.mk hkb
  have HI := Aside0.mk (ints_f (Gr.behind n l from_) (Gr.behind n l from_) (by have := behind_len n l from_; omega))
  rw [decide_eq_true rfl] at HI
  have HBL := Aside0.mk (behind_len n l from_)
  clear hl hlc hkb
  go_enter Try.func6, Try.ntmps6
  go_wp2_with fail
  refine (shown_any w).mono ?_
  rintro e w1 ⟨rfl, hb1⟩
  have B1 := Aside0.mk hb1
  clear hb1
  go_wp2_with fail
  refine (behind_any n from_ _ c l _ (Kd.C_below HL.out B1.out)).mono ?_
  rintro e w2 ⟨v1, rfl, ⟨A1, c1, rfl, hl1, hc1⟩, hb2⟩
  have B2 := Aside0.mk (below_step B1.out hb2)
  have C1 := Aside0.mk hc1
  have L1 := Aside0.mk hl1
  clear hb2 hl1 hc1
  go_wp2_with fail
  have hlm : (l.map BehindRef.mkB).length = l.length := by simp
  have CK := Aside0.mk (BehindRef.C_mk (Kd.C_below HL.out B2.out))
  have hcall := PGraphBehind.majordomoref08_Behind.calls kb n A c (l.map BehindRef.mkB) from_ (Gr.behind n l from_) w2 (by rw [hlm]; exact CK.out) (by rw [hlm]; exact HLC.out) HKB.out
  rw [hlm] at hcall
  refine hcall.mono ?_
  clear hcall hlm
  rintro e w3 ⟨v2, rfl, hr2, hb3⟩
  obtain ⟨A2, c2, rfl, hl2, hc2⟩ := Kd.R_reads hr2
  have B23 := Aside0.mk hb3
  have B3 := Aside0.mk (below_step B2.out hb3)
  have C2 := Aside0.mk hc2
  have L2 := Aside0.mk hl2
  clear hr2 hl2 hc2 hb3
  go_wp2_with fail
  refine (PGraphOrders.majordomolaw08_ints.calls _ _ _ (Gr.behind n l from_) _ _ (Gr.behind n l from_) true _ (Kd.C_below C1.out B23.out) L1.out C2.out L2.out HI.out).mono ?_
  rintro e w4 ⟨rfl, ⟨n4, rfl⟩⟩
  have B4 := Aside0.mk (pw_below_drewN B3.out n4)
  go_wp2_with fail
  refine (order_any n _ c l _ (Kd.C_below HL.out B4.out)).mono ?_
  rintro e w5 ⟨v5, v6, rfl, hr5, hr6, hb5⟩
  have B5 := Aside0.mk (below_step B4.out hb5)
  clear hr5 hr6 hb5
  rcases Gr.order_spec n l with ⟨hb, ho⟩ | ⟨hb, a, ho, ht⟩ | ⟨hb, cy, ho, ht⟩
  · rw [ho]
    have hbe : Gr.behind n l from_ = [] := by unfold Gr.behind; rw [if_pos (.inl hb)]
    have hbl : (((Gr.behind n l from_).length : Int) == 0) = true := by rw [hbe]; rfl
    clear ho hb hbe
    go_wp2
    go_ret
    exact ⟨rfl, B5.out⟩
  all_goals
    obtain ⟨h0, h1, h2⟩ := Gr.bad_false hb
    obtain ⟨m, rfl⟩ := Int.eq_ofNat_of_zero_le h0
    have hri := rnd_iff hb
    rw [ho] at hri ⊢
    simp only at hri
    have hm32 : m ≤ 32 := by omega
  · have HRI : Aside0 (rnd (m : Int) l m = false) := ⟨by
      cases hc : rnd (m : Int) l m
      · rfl
      · have := hri.1 hc; omega⟩
    clear hri h0 h1 h2 ho ht hb
    go_wp2
    go_loopg [13, 14] m (fun g v13 v14 wr => ∃ (k : Nat), v14 = .int .i64 k ∧ k ≤ m ∧ v13 = .bool (rnd (m : Int) l k) ∧ Aside0 (g = m - k) ∧ Aside0 (Below w.heap.size w wr))
    case atStart => exact ⟨0, rfl, Nat.zero_le _, rfl, ⟨rfl⟩, B5⟩
    case round =>
      obtain ⟨k, rfl, hk, rfl, HG, HB⟩ := hrel
      by_cases hlt : k < m
      · have hlt' : (k : Int) < (m : Int) := by omega
        obtain ⟨r0, hr0⟩ : ∃ r0, r0 = rnd (m : Int) l k := ⟨_, rfl⟩
        rw [← hr0]
        have HR0 := Aside0.mk hr0
        clear hr0
        go_wp2_with (go_at_call 29; (with_reducible refine (behind_any (m : Int) (k : Int) _ c l _ (Kd.C_below HL.out HB.out)).mono ?_); rintro e w6 ⟨v15, rfl, ⟨A15, c15, rfl, hl15, hc15⟩, hb6⟩; have B6 := Aside0.mk (below_step HB.out hb6); have C15 := Aside0.mk hc15; clear hb6 hl15 hc15)
        obtain ⟨b, hbb⟩ : ∃ b, b = Gr.behind (m : Int) l (k : Int) := ⟨_, rfl⟩
        have hbl : b.length ≤ 32 := by rw [hbb]; exact behind_len _ _ _
        rw [← hbb] at C15 ⊢
        have HBB := Aside0.mk hbb
        clear hbb
        go_loopg [13, 16] b.length (fun g v13 v16 wr => ∃ (q : Nat), v16 = .int .i64 q ∧ q ≤ b.length ∧ v13 = .bool (r0 || (b.take q).any (fun x => x == (k : Int))) ∧ Aside0 (g = b.length - q) ∧ Aside0 (Below w6.heap.size w6 wr))
        case atStart => exact ⟨0, rfl, Nat.zero_le _, by simp, ⟨rfl⟩, ⟨Below.refl _ _⟩⟩
        case round =>
          obtain ⟨q, rfl, hq, rfl, HG2, HB2⟩ := hrel
          by_cases hlt2 : q < b.length
          · have hlt2' : (q : Int) < (b.length : Int) := by omega
            obtain ⟨ad, rfl, ha⟩ := Kd.at_int (Kd.C_below C15.out HB2.out) (q : Int) (by omega) (by omega)
            rw [Int.toNat_natCast] at ha
            have hst := any_take_succ b q hlt2 (k : Int)
            obtain ⟨x, hx⟩ : ∃ x, x = rd b (q : Int) := ⟨_, rfl⟩
            rw [← hx] at ha hst
            clear hx
            obtain ⟨r1, hr1⟩ : ∃ r1, r1 = (r0 || (b.take q).any (fun x => x == (k : Int))) := ⟨_, rfl⟩
            have hst2 : Aside0 ((r0 || (b.take (q + 1)).any (fun x => x == (k : Int))) = (r1 || x == (k : Int))) := ⟨by rw [hst, hr1, Bool.or_assoc]⟩
            rw [← hr1]
            clear hst hr1
            cases r1
            · go_wp2
              go_roundg (b.length - (q + 1))
              case measure => have := HG2.out; omega
              case rel => exact ⟨q + 1, by go_num, by omega, by rw [hst2.out]; simp, ⟨rfl⟩, HB2⟩
            · go_wp2
              go_roundg (b.length - (q + 1))
              case measure => have := HG2.out; omega
              case rel => exact ⟨q + 1, by go_num, by omega, by rw [hst2.out]; simp, ⟨rfl⟩, HB2⟩
          · have hlt2' : ¬ (q : Int) < (b.length : Int) := by omega
            have hqb : q = b.length := by omega
            subst hqb
            rw [List.take_length]
            have hrs := rnd_succ (m : Int) l k
            rw [← HBB.out, ← HR0.out] at hrs
            have HRS := Aside0.mk hrs
            obtain ⟨r1, hr1⟩ : ∃ r1, r1 = (r0 || b.any (fun x => x == (k : Int))) := ⟨_, rfl⟩
            rw [← hr1] at HRS ⊢
            clear hr1 hrs
            go_wp2
            go_roundg (m - (k + 1))
            case measure => have := HG.out; omega
            case rel => exact ⟨k + 1, by go_num, by omega, by rw [HRS.out], ⟨rfl⟩, ⟨below_step B6.out HB2.out⟩⟩
      · have hlt' : ¬ (k : Int) < (m : Int) := by omega
        have hkm : k = m := by omega
        subst hkm
        rw [HRI.out]
        go_wp2
        go_ret
        exact ⟨rfl, HB.out⟩
  · have HRI : Aside0 (rnd (m : Int) l m = true) := ⟨hri.2 trivial⟩
    clear hri h0 h1 h2 ho ht hb
    go_wp2
    go_loopg [13, 14] m (fun g v13 v14 wr => ∃ (k : Nat), v14 = .int .i64 k ∧ k ≤ m ∧ v13 = .bool (rnd (m : Int) l k) ∧ Aside0 (g = m - k) ∧ Aside0 (Below w.heap.size w wr))
    case atStart => exact ⟨0, rfl, Nat.zero_le _, rfl, ⟨rfl⟩, B5⟩
    case round =>
      obtain ⟨k, rfl, hk, rfl, HG, HB⟩ := hrel
      by_cases hlt : k < m
      · have hlt' : (k : Int) < (m : Int) := by omega
        obtain ⟨r0, hr0⟩ : ∃ r0, r0 = rnd (m : Int) l k := ⟨_, rfl⟩
        rw [← hr0]
        have HR0 := Aside0.mk hr0
        clear hr0
        go_wp2_with (go_at_call 29; (with_reducible refine (behind_any (m : Int) (k : Int) _ c l _ (Kd.C_below HL.out HB.out)).mono ?_); rintro e w6 ⟨v15, rfl, ⟨A15, c15, rfl, hl15, hc15⟩, hb6⟩; have B6 := Aside0.mk (below_step HB.out hb6); have C15 := Aside0.mk hc15; clear hb6 hl15 hc15)
        obtain ⟨b, hbb⟩ : ∃ b, b = Gr.behind (m : Int) l (k : Int) := ⟨_, rfl⟩
        have hbl : b.length ≤ 32 := by rw [hbb]; exact behind_len _ _ _
        rw [← hbb] at C15 ⊢
        have HBB := Aside0.mk hbb
        clear hbb
        go_loopg [13, 16] b.length (fun g v13 v16 wr => ∃ (q : Nat), v16 = .int .i64 q ∧ q ≤ b.length ∧ v13 = .bool (r0 || (b.take q).any (fun x => x == (k : Int))) ∧ Aside0 (g = b.length - q) ∧ Aside0 (Below w6.heap.size w6 wr))
        case atStart => exact ⟨0, rfl, Nat.zero_le _, by simp, ⟨rfl⟩, ⟨Below.refl _ _⟩⟩
        case round =>
          obtain ⟨q, rfl, hq, rfl, HG2, HB2⟩ := hrel
          by_cases hlt2 : q < b.length
          · have hlt2' : (q : Int) < (b.length : Int) := by omega
            obtain ⟨ad, rfl, ha⟩ := Kd.at_int (Kd.C_below C15.out HB2.out) (q : Int) (by omega) (by omega)
            rw [Int.toNat_natCast] at ha
            have hst := any_take_succ b q hlt2 (k : Int)
            obtain ⟨x, hx⟩ : ∃ x, x = rd b (q : Int) := ⟨_, rfl⟩
            rw [← hx] at ha hst
            clear hx
            obtain ⟨r1, hr1⟩ : ∃ r1, r1 = (r0 || (b.take q).any (fun x => x == (k : Int))) := ⟨_, rfl⟩
            have hst2 : Aside0 ((r0 || (b.take (q + 1)).any (fun x => x == (k : Int))) = (r1 || x == (k : Int))) := ⟨by rw [hst, hr1, Bool.or_assoc]⟩
            rw [← hr1]
            clear hst hr1
            cases r1
            · go_wp2
              go_roundg (b.length - (q + 1))
              case measure => have := HG2.out; omega
              case rel => exact ⟨q + 1, by go_num, by omega, by rw [hst2.out]; simp, ⟨rfl⟩, HB2⟩
            · go_wp2
              go_roundg (b.length - (q + 1))
              case measure => have := HG2.out; omega
              case rel => exact ⟨q + 1, by go_num, by omega, by rw [hst2.out]; simp, ⟨rfl⟩, HB2⟩
          · have hlt2' : ¬ (q : Int) < (b.length : Int) := by omega
            have hqb : q = b.length := by omega
            subst hqb
            rw [List.take_length]
            have hrs := rnd_succ (m : Int) l k
            rw [← HBB.out, ← HR0.out] at hrs
            have HRS := Aside0.mk hrs
            obtain ⟨r1, hr1⟩ : ∃ r1, r1 = (r0 || b.any (fun x => x == (k : Int))) := ⟨_, rfl⟩
            rw [← hr1] at HRS ⊢
            clear hr1 hrs
            go_wp2
            go_roundg (m - (k + 1))
            case measure => have := HG.out; omega
            case rel => exact ⟨k + 1, by go_num, by omega, by rw [HRS.out], ⟨rfl⟩, ⟨below_step B6.out HB2.out⟩⟩
      · have hlt' : ¬ (k : Int) < (m : Int) := by omega
        have hkm : k = m := by omega
        subst hkm
        rw [HRI.out]
        go_wp2
        go_ret
        exact ⟨rfl, HB.out⟩
end Go.Proofs.Ytcgcojdkkkfkdaa
