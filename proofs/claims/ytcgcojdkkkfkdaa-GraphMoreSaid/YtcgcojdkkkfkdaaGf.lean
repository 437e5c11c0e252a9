/-
  Contracts of package graph, fifth part: Behind.
-/
import Derived.Test.YtcgcojdkkkfkdaaGe
namespace Go.Proofs.Ytcgcojdkkkfkdaa
open Go.RowKit Go.Proofs.YtcgcojdkkkfkdaaW.PrintWords Go.Proofs.YtcgcojdkkkfkdaaW.PrintLast Go.Proofs.YtcgcojdkkkfkdaaW.PrintMore
set_option linter.unusedVariables false
set_option linter.unusedSimpArgs false

theorem index71 (s : List Bool) (hs : s.length = 32) (k : Nat) (hk : k < 32) (w : World) : (Instr.index 71 (.agg (bools s).toArray) (.int .i64 (k : Int))).run Try.prog w = .ok (.bool (Gr.dn s (k : Int))) w := by
  have hlt : k < s.length := by omega
  have h4 : (Try.prog.info? 4).map (·.size) = some 1 := by kernel_rfl
  obtain ⟨i4, hi4, hz⟩ := Option.map_eq_some_iff.1 h4
  simp [Instr.index, asIntOf, run_underlying Try.underlying71, go_sem, sizeOf, typeInfo, hi4, hz, part, bools, hlt, Gr.dn]
  intro h; omega
theorem info71 : (Try.prog.info? 71).map (·.size) = some 32 := by kernel_rfl

/-- What Behind's outer loop keeps. -/
structure BIn (l : List Gr.E) (from_ : Int) (f : Nat) (s : List Bool) (t : List Int) : Prop where
  same : Gr.bfs l f s t = Gr.bfs l 33 Gr.d0 [from_]
  len : s.length = 32
  meas : Gr.cntF s + t.length ≤ f
  small : f ≤ 33
theorem BIn.start (l : List Gr.E) (from_ : Int) : BIn l from_ 33 Gr.d0 [from_] := ⟨rfl, by simp [Gr.d0], by simp [Gr.cntF, Gr.d0], Nat.le_refl _⟩
theorem BIn.done {l : List Gr.E} {from_ : Int} {f : Nat} {s : List Bool} (h : BIn l from_ f s []) : s = Gr.bfs l 33 Gr.d0 [from_] := by
  rw [← h.same]
  cases f <;> rfl
/-- What the loop over the edges keeps. -/
structure EIn (l : List Gr.E) (i : Int) (s : List Bool) (t : List Int) (k : Nat) (s' : List Bool) (t' : List Int) : Prop where
  same : Gr.edgesOf (l.drop k) i s' t' = Gr.edgesOf l i s t
  len : s'.length = 32
  meas : Gr.cntF s' + t'.length = Gr.cntF s + t.length
theorem EIn.start {l : List Gr.E} {i : Int} {s : List Bool} {t : List Int} (h : s.length = 32) : EIn l i s t 0 s t := ⟨by simp, h, rfl⟩
theorem EIn.skip {l : List Gr.E} {i : Int} {s : List Bool} {t : List Int} {k : Nat} {s' : List Bool} {t' : List Int} (h : EIn l i s t k s' t') (hk : k < l.length) (hn : ¬ ((rdE l k).1 = i ∧ Gr.dn s' (rdE l k).2.1 = false)) : EIn l i s t (k + 1) s' t' := by
  refine ⟨?_, h.len, h.meas⟩
  rw [← h.same, drop_E0 l k hk]
  unfold Gr.edgesOf
  rw [List.foldl_cons, if_neg hn]
theorem EIn.take {l : List Gr.E} {i : Int} {s : List Bool} {t : List Int} {k : Nat} {s' : List Bool} {t' : List Int} (h : EIn l i s t k s' t') (hk : k < l.length) (hn : (rdE l k).1 = i ∧ Gr.dn s' (rdE l k).2.1 = false) (h0 : 0 ≤ (rdE l k).2.1) (h1 : (rdE l k).2.1 < 32) :
    EIn l i s t (k + 1) (s'.set (rdE l k).2.1.toNat true) (t' ++ [(rdE l k).2.1]) := by
  refine ⟨?_, by simp [h.len], ?_⟩
  · rw [← h.same, drop_E0 l k hk]
    unfold Gr.edgesOf
    rw [List.foldl_cons, if_pos hn]
  · have := Gr.cntF_set s' (rdE l k).2.1.toNat hn.2 (by rw [h.len]; omega)
    have := h.meas
    simp; omega
theorem BIn.next {l : List Gr.E} {from_ i : Int} {f : Nat} {s : List Bool} {t : List Int} {s' : List Bool} {t' : List Int} (h : BIn l from_ (f + 1) s (i :: t)) (he : EIn l i s t l.length s' t') : BIn l from_ f s' t' := by
  have hs : Gr.edgesOf l i s t = (s', t') := by
    rw [← he.same]; simp [Gr.edgesOf]
  refine ⟨?_, he.len, ?_, by have := h.small; omega⟩
  · rw [← h.same]
    show _ = (let p := Gr.edgesOf l i s t; Gr.bfs l f p.1 p.2)
    rw [hs]
  · rw [he.meas]; have := h.meas; simp at this; omega
theorem EIn.bound {l : List Gr.E} {from_ i : Int} {f : Nat} {s : List Bool} {t : List Int} {k : Nat} {s' : List Bool} {t' : List Int} (h : BIn l from_ (f + 1) s (i :: t)) (he : EIn l i s t k s' t') : t'.length ≤ 32 := by
  have := he.meas
  have := h.meas
  have := h.small
  simp at *; omega

theorem collect_succ (s : List Bool) (k : Nat) : Gr.collect s (k + 1) = Gr.collect s k ++ if Gr.dn s (k : Int) then [(k : Int)] else [] := by
  unfold Gr.collect
  rw [List.range_succ, List.map_append, List.filter_append]
  congr 1
  simp only [List.map_cons, List.map_nil]
  cases h : Gr.dn s (k : Int)
  · rw [List.filter_cons_of_neg (by simp [h])]; rfl
  · rw [List.filter_cons_of_pos h]; rfl
theorem collect_len (s : List Bool) (k : Nat) : (Gr.collect s k).length ≤ k := by
  unfold Gr.collect
  refine Nat.le_trans (List.length_filter_le _ _) (by simp)

/-- The world in Behind's loops: the marks at bd. -/
structure BW (w : World) (bd : Nat) (s : List Bool) (wr : World) : Prop where
  arr : Arr wr bd s
  bdge : w.heap.size ≤ bd
  below : Below w.heap.size w wr
theorem BW.step {w : World} {bd : Nat} {s : List Bool} {wr w2 : World} (h : BW w bd s wr) (hb : Below wr.heap.size wr w2) : BW w bd s w2 := ⟨h.arr.below hb, h.bdge, below_then h.below h.below.size hb⟩
theorem BW.mark {w : World} {bd : Nat} {s : List Bool} {wr : World} (h : BW w bd s wr) (i : Int) (h0 : 0 ≤ i) (h1 : i < 32) : BW w bd (s.set i.toNat true) (wr.setCell ⟨bd, i.toNat, none⟩ (.bool true)) := by
  refine ⟨⟨by simp [h.arr.1], ?_⟩, h.bdge, h.below.setCell h.bdge _⟩
  simp only [World.setCell]
  rw [Array.getElem?_modify, if_pos rfl, h.arr.2]
  simp [bools]
theorem BW.grownQ {w : World} {bd : Nat} {s : List Bool} {wr w2 : World} {v : Value} {xs : List Int} {ok : Nat → Prop} (h : BW w bd s wr) (hR : Kd.Q (Kd.int .i64) 3 wr w.heap.size ok v xs) (hg : wr.grownBy w2 v.ownBlock) : BW w bd s w2 :=
  ⟨⟨h.arr.1, blk_grown h.arr.2 hg (Kd.Q_ne hR h.arr.2 (by decide))⟩, h.bdge, pw_below_grown h.below _ h.below.size hg (fun k hk => Kd.Q_base hR k hk)⟩

set_option maxHeartbeats 6400000 in
set_option maxRecDepth 100000 in
theorem behind_good (n : Nat) (from_ : Int) (A : Option Addr) (c : Nat) (l : List Gr.E) (w : World) (hl : Kd.C kE w A l.length l) (hb : Gr.bad n l = false) (hf0 : 0 ≤ from_) (hfn : from_ < n) :
    Calls Try.prog 29 #[.int .i64 (n : Int), .slice A l.length c, .int .i64 from_] w fun e w' => ∃ v, e = .returned v ∧ Rd w' v (Gr.collect (Gr.bfs l 33 Gr.d0 [from_]) 32) ∧ Below w.heap.size w w' := by
  obtain ⟨h0, h1, h2⟩ := Gr.bad_false hb
  have hm := hl.2.1
  have HL := Aside0.mk hl
  have HR32 : Aside0 (∀ x ∈ l, 0 ≤ x.2.1 ∧ x.2.1 < 32) := ⟨fun x hx => by have := h2 x hx; omega⟩
  have HBad := Aside0.mk hb
  clear hl h2 hb h0 h1
  have hf1 : decide (from_ < 0) = false := by simp; omega
  have hf2 : decide ((n : Int) ≤ from_) = false := by simp; omega
  go_enter Try.func29, Try.ntmps29
  go_wp2_with (first
    | (go_at_call 37; (with_reducible refine (bad_any n A c l _ HL.out).mono ?_); rw [HBad.out]; rintro e w1 ⟨rfl, hb1⟩; have HB1 := Aside0.mk hb1; clear hb1))
  obtain ⟨bd, hbd⟩ : ∃ bd, bd = w1.heap.size := ⟨_, rfl⟩
  have HW0 : Aside0 (BW w bd Gr.d0 ((w1.alloc (.cells (bools Gr.d0).toArray 71)).alloc (.cells #[.int .i64 from_] 3))) := ⟨by
    subst hbd
    have e0 : BW w w1.heap.size Gr.d0 (w1.alloc (.cells (bools Gr.d0).toArray 71)) := ⟨⟨by simp [Gr.d0], heap_alloc_new w1 _⟩, HB1.out.size, HB1.out.alloc HB1.out.size _⟩
    exact e0.step ((Below.refl _ _).alloc (Nat.le_refl _) _)⟩
  have HV0 : Aside0 (Kd.Q (Kd.int .i64) 3 ((w1.alloc (.cells (bools Gr.d0).toArray 71)).alloc (.cells #[.int .i64 from_] 3)) w.heap.size (fun _ => True) (.slice (some ⟨bd + 1, 0, none⟩) 1 1) [from_]) := ⟨by
    subst hbd
    have e0 := own_lit (w1.alloc (.cells (bools Gr.d0).toArray 71)) w.heap.size 3 .i64 [from_] (by have := HB1.out.size; simp; omega) (by simp)
    have e1 : (w1.alloc (.cells (bools Gr.d0).toArray 71)).heap.size = w1.heap.size + 1 := by simp
    rw [e1] at e0
    exact Kd.Q_of_R (Kd.R_of_own e0 (fun _ _ => trivial))⟩
  rw [show (bools Gr.d0).toArray = #[Value.bool false, Value.bool false, Value.bool false, Value.bool false, Value.bool false, Value.bool false, Value.bool false, Value.bool false, Value.bool false, Value.bool false, Value.bool false, Value.bool false, Value.bool false, Value.bool false, Value.bool false, Value.bool false, Value.bool false, Value.bool false, Value.bool false, Value.bool false, Value.bool false, Value.bool false, Value.bool false, Value.bool false, Value.bool false, Value.bool false, Value.bool false, Value.bool false, Value.bool false, Value.bool false, Value.bool false, Value.bool false] from rfl] at HW0 HV0
  rw [← hbd]
  clear hbd
  go_loopg [8] 33 (fun f v8 wr => ∃ (s : List Bool) (t : List Int), Aside0 (BIn l from_ f s t) ∧ Aside0 (Kd.Q (Kd.int .i64) 3 wr w.heap.size (fun _ => True) v8 t) ∧ Aside0 (BW w bd s wr))
  case atStart => exact ⟨Gr.d0, [from_], ⟨BIn.start l from_⟩, HV0, HW0⟩
  case round =>
    clear HW0 HV0 HB1
    obtain ⟨s, t, HI, HV, HW⟩ := hrel
    obtain ⟨A8, c8, rfl, hle, hC⟩ := Kd.Q_reads HV.out
    cases t with
    | nil =>
      clear hle hC
      have HS := Aside0.mk HI.out.done
      have h0 : ¬ 0 < (([] : List Int).length : Int) := by simp
      have hidx : ∀ (k : Nat), k < 32 → ∀ W : World, (Instr.index 71 (.agg (bools s).toArray) (.int .i64 (k : Int))).run Try.prog W = .ok (.bool (Gr.dn s (k : Int))) W := fun k hk W => index71 s HI.out.len k hk W
      have HIX := Aside0.mk hidx
      clear hidx
      go_wp2_with ((with_reducible refine gate_dst (N := 63) rfl ?_); refine wpList_load_row rfl 71 _ rfl bd rfl 71 (bools s).toArray (0, 0) (.array 32 4) HW.out.arr.2 Try.underlying71 rfl (by rw [info71]; simp [bools, HW.out.arr.1]) ?_)
      obtain ⟨sv, hsv⟩ : ∃ sv, sv = (bools s).toArray := ⟨_, rfl⟩
      rw [← hsv] at HIX ⊢
      clear hsv
      go_loopg [12, 64] 32 (fun g v12 v64 wr => ∃ (k : Nat), v64 = .int .i64 k ∧ k ≤ 32 ∧ Aside0 (g = 32 - k) ∧ Aside0 (Kd.R (Kd.int .i64) 3 wr w.heap.size (fun _ => True) v12 (Gr.collect s k)) ∧ Aside0 (Below w.heap.size w wr))
      case atStart => exact ⟨0, rfl, Nat.zero_le _, ⟨rfl⟩, ⟨Kd.R_nil _ _ _ _ _⟩, ⟨HW.out.below⟩⟩
      case round =>
        clear HW HV
        obtain ⟨k, rfl, hk, HG, HV, HB⟩ := hrel
        by_cases hlt : k < 32
        · have hlt' : (k : Int) < 32 := by omega
          have hik := HIX.out k hlt
          have hcl := collect_len s k
          have HCS := Aside0.mk (collect_succ s k)
          obtain ⟨A12, c12, rfl, _⟩ := Kd.R_reads HV.out
          cases hd : Gr.dn s (k : Int)
          · rw [hd] at hik HCS
            clear hd
            go_wp2
            go_roundg (32 - (k + 1))
            case measure => have := HG.out; omega
            case rel => exact ⟨k + 1, by go_num, by omega, ⟨rfl⟩, ⟨by rw [HCS.out]; simpa using HV.out⟩, HB⟩
          · rw [hd] at hik HCS
            clear hd
            go_wp2_with (at_builtin; refine Kd.R_append (Kd.int .i64) (w0 := w) w.heap.size rfl (.tmp 69) (.tmp 71) 45 3 (.int .i64 0) 8 rfl Try.underlying45 info3' rfl (by decide) (by omega) (.slice A12 (Gr.collect s k).length c12) (Gr.collect s k) (k : Int) [.int .i64 (k : Int)] (fun _ => True) (fun _ => False) rfl rfl rfl (fun _ hk => hk.elim) (fun _ _ => trivial) HV.out HB.out HB.out.size (by omega) ?_; intro v1 w4 ho hbb hg hat; have HV4 := Aside0.mk ho; have HB4 := Aside0.mk hbb; clear ho hbb hg hat)
            go_roundg (32 - (k + 1))
            case measure => have := HG.out; omega
            case rel => exact ⟨k + 1, by go_num, by omega, ⟨rfl⟩, ⟨by rw [HCS.out]; exact HV4.out⟩, HB4⟩
        · have hlt' : ¬ (k : Int) < 32 := by omega
          have hk32 : k = 32 := by omega
          subst hk32
          go_wp2
          go_ret
          exact ⟨_, rfl, by rw [← HS.out]; exact Kd.R_reads HV.out, HB.out⟩
    | cons i t =>
      obtain ⟨f, rfl⟩ : ∃ m, gk = m + 1 := ⟨gk - 1, by have := HI.out.meas; simp at this; omega⟩
      obtain ⟨ad, rfl, hc0⟩ := Kd.at_int hC 0 (by omega) (by simp)
      have hc0 : wr.cell? ad = some (.int .i64 i) := by simpa [Addr.add, rd] using hc0
      obtain ⟨i3, hi3, hz3⟩ := Option.map_eq_some_iff.1 info3'
      have hcut := cut_from (P := Try.prog) 45 3 .i64 Try.underlying45 hi3 1 (by simp only [Prod.mk.injEq] at hz3; exact hz3.2.1) (some ad) (i :: t).length c8 1 (by omega) (by simp; omega)
      have HQ := Kd.Q_drop (k := 1) HV.out (by simp)
      obtain ⟨A9, hA9⟩ : ∃ A9, A9 = (if c8 = 1 then some ad else (some ad).map (·.add (1 * 1))) := ⟨_, rfl⟩
      have HQ2 : Aside0 (Kd.Q (Kd.int .i64) 3 wr w.heap.size (fun _ => True) (.slice A9 t.length (c8 - 1)) t) := ⟨by
        rw [hA9]; simpa [Kd.int, Kd.scalar] using HQ⟩
      have hcut2 : ∀ W : World, (Instr.slice 45 (.slice (some ad) (t.length + 1) c8) (some (.int .i64 1)) none none).run Try.prog W = .ok (.slice A9 t.length (c8 - 1)) W := by
        intro W; rw [hA9]; simpa using hcut W
      clear hC hle HQ hA9 hcut hz3 hi3
      simp only [List.length_cons]
      have hpos : 0 < (t.length : Int) + 1 := by omega
      have HT := Aside0.mk (EIn.start (l := l) (i := i) (t := t) HI.out.len)
      go_wp2
      go_loopg [8, 39] l.length (fun g v8 v39 wr => ∃ (k : Nat) (s' : List Bool) (t' : List Int), v39 = .int .i64 k ∧ k ≤ l.length ∧ Aside0 (g = l.length - k) ∧ Aside0 (EIn l i s t k s' t') ∧ Aside0 (Kd.Q (Kd.int .i64) 3 wr w.heap.size (fun _ => True) v8 t') ∧ Aside0 (BW w bd s' wr))
      case atStart => exact ⟨0, s, t, rfl, Nat.zero_le _, ⟨rfl⟩, HT, HQ2, HW⟩
      case round =>
        clear HT HV HQ2 HW
        obtain ⟨k, s', t', rfl, hk, HG, HE, HV, HW⟩ := hrel
        by_cases hlt : k < l.length
        · have hlt' : (k : Int) < (l.length : Int) := by omega
          obtain ⟨ad2, rfl, h0, h1, h2⟩ := at_En (Kd.C_below HL.out HW.out.below) k (by omega)
          obtain ⟨r0, r1⟩ := HR32.out _ (rdE_mem hlt)
          obtain ⟨xa, hxa⟩ : ∃ xa, xa = (rdE l k).1 := ⟨_, rfl⟩
          obtain ⟨xb, hxb⟩ : ∃ xb, xb = (rdE l k).2.1 := ⟨_, rfl⟩
          obtain ⟨xc, hxc⟩ : ∃ xc, xc = (rdE l k).2.2 := ⟨_, rfl⟩
          rw [← hxa] at h0
          rw [← hxb] at h1 r0 r1
          rw [← hxc] at h2
          have HXA := Aside0.mk hxa
          have HXB := Aside0.mk hxb
          clear hxa hxb hxc
          have HWa : Aside0 (BW w bd s' (wr.alloc (.cells #[.int .i64 xa, .int .i64 xb, .bool xc] 52))) := ⟨HW.out.step ((Below.refl _ _).alloc (Nat.le_refl _) _)⟩
          have hdx := HWa.out.arr.cell xb r0 r1
          have hfx := HWa.out.arr.frozen xb.toNat
          by_cases e1 : xa = i
          · cases hd : Gr.dn s' xb
            · rw [hd] at hdx
              have HTK := Aside0.mk (HE.out.take hlt ⟨by rw [← HXA.out]; exact e1, by rw [← HXB.out]; exact hd⟩ (by rw [← HXB.out]; exact r0) (by rw [← HXB.out]; exact r1))
              rw [← HXB.out] at HTK
              subst e1
              have hbl := EIn.bound HI.out HE.out
              have hbs : bd < wr.heap.size := (Array.getElem?_eq_some_iff.1 HW.out.arr.2).1
              have HNE : Aside0 ((⟨bd, xb.toNat, none⟩ : Addr) ≠ ⟨wr.heap.size, 1, none⟩) := ⟨fun e => by injection e with e1 _ _; omega⟩
              clear hd
              obtain ⟨A8, c9, rfl, _⟩ := Kd.Q_reads HV.out
              go_wp2_with (first
                | ((with_reducible refine gate_store (t := 4) (p := 56) rfl ?_); refine store_event (t := 4) (p := 56) (v := _) (w1 := (wr.alloc (.cells #[.int .i64 xa, .int .i64 xb, .bool xc] 52)).setCell ⟨bd, xb.toNat, none⟩ (.bool true)) rfl rfl rfl ?hr ?_; (case hr => first | (go_simp; done) | (go_simp; rfl)); intro w3 hw; have HW3 := Aside0.mk (HWa.out.mark xb r0 r1); have HV3 := Aside0.mk (Kd.Q_set (Kd.Q_alloc HV.out (.cells #[.int .i64 xa, .int .i64 xb, .bool xc] 52)) HWa.out.arr.2 (by decide) xb.toNat (.bool true)); have hx3 : w3.cell? ⟨wr.heap.size, 1, none⟩ = some (.int .i64 xb) := (by rw [hw, World.cell?_setCell_other _ _ _ _ HNE.out]; simp [World.cell?_alloc_new]); rw [← hw] at HW3 HV3; clear hw)
                | (at_builtin; refine Kd.Q_append (Kd.int .i64) (w0 := w) w.heap.size rfl (.tmp 57) (.tmp 60) 45 3 (.int .i64 0) 8 rfl Try.underlying45 info3' rfl (by decide) (by omega) (.slice A8 t'.length c9) t' xb [.int .i64 xb] (fun _ => True) (fun _ => False) rfl rfl rfl (fun _ hk => hk.elim) (fun _ _ => trivial) HV3.out HW3.out.below HW3.out.below.size (by omega) ?_; intro v1 w4 ho hbb hg hat; have HV4 := Aside0.mk ho; have HW4 := Aside0.mk (HW3.out.grownQ HV3.out hg); clear ho hbb hg hat))
              go_roundg (l.length - (k + 1))
              case measure => have := HG.out; omega
              case rel => exact ⟨k + 1, _, _, by go_num, by omega, ⟨rfl⟩, HTK, HV4, HW4⟩
            · rw [hd] at hdx
              have HTK := Aside0.mk (HE.out.skip hlt (fun h => by rw [← HXB.out, hd] at h; cases h.2))
              subst e1
              clear hd
              go_wp2
              go_roundg (l.length - (k + 1))
              case measure => have := HG.out; omega
              case rel => exact ⟨k + 1, _, _, by go_num, by omega, ⟨rfl⟩, HTK, ⟨Kd.Q_alloc HV.out _⟩, HWa⟩
          · have HTK := Aside0.mk (HE.out.skip hlt (fun h => e1 (by rw [HXA.out]; exact h.1)))
            have e1' : (xa == i) = false := by simpa using e1
            clear e1 hdx hfx
            go_wp2
            go_roundg (l.length - (k + 1))
            case measure => have := HG.out; omega
            case rel => exact ⟨k + 1, _, _, by go_num, by omega, ⟨rfl⟩, HTK, ⟨Kd.Q_alloc HV.out _⟩, HWa⟩
        · have hlt' : ¬ (k : Int) < (l.length : Int) := by omega
          have hkl : k = l.length := by omega
          subst hkl
          have HN := Aside0.mk (HI.out.next HE.out)
          go_wp2
          go_roundg f
          case measure => omega
          case rel => exact ⟨s', t', HN, HV, HW⟩

theorem behind_any (n from_ : Int) (A : Option Addr) (c : Nat) (l : List Gr.E) (w : World) (hl : Kd.C kE w A l.length l) :
    Calls Try.prog 29 #[.int .i64 n, .slice A l.length c, .int .i64 from_] w fun e w' => ∃ v, e = .returned v ∧ Rd w' v (Gr.behind n l from_) ∧ Below w.heap.size w w' := by
  by_cases h : Gr.bad n l ∨ from_ < 0 ∨ n ≤ from_
  · have he : Gr.behind n l from_ = [] := by unfold Gr.behind; rw [if_pos h]
    rw [he]
    have HL := Aside0.mk hl
    clear hl he
    cases hb : Gr.bad n l
    · have HBad := Aside0.mk hb
      rw [hb] at h
      clear hb
      by_cases h1 : from_ < 0
      · have h1' : decide (from_ < 0) = true := by simpa using h1
        clear h h1
        go_enter Try.func29, Try.ntmps29
        go_wp2_with (go_at_call 37; (with_reducible refine (bad_any n A c l _ HL.out).mono ?_); rw [HBad.out]; rintro e w1 ⟨rfl, hb1⟩; have HB1 := Aside0.mk hb1; clear hb1)
        go_ret
        exact ⟨_, rfl, Rd.nil _, HB1.out⟩
      · have h1' : decide (from_ < 0) = false := by simpa using h1
        have h2' : decide (n ≤ from_) = true := by simp; rcases h with h | h | h <;> first | cases h | omega
        clear h h1
        go_enter Try.func29, Try.ntmps29
        go_wp2_with (go_at_call 37; (with_reducible refine (bad_any n A c l _ HL.out).mono ?_); rw [HBad.out]; rintro e w1 ⟨rfl, hb1⟩; have HB1 := Aside0.mk hb1; clear hb1)
        go_ret
        exact ⟨_, rfl, Rd.nil _, HB1.out⟩
    · have HBad := Aside0.mk hb
      clear hb h
      go_enter Try.func29, Try.ntmps29
      go_wp2_with (go_at_call 37; (with_reducible refine (bad_any n A c l _ HL.out).mono ?_); rw [HBad.out]; rintro e w1 ⟨rfl, hb1⟩; have HB1 := Aside0.mk hb1; clear hb1)
      go_ret
      exact ⟨_, rfl, Rd.nil _, HB1.out⟩
  · have he : Gr.behind n l from_ = Gr.collect (Gr.bfs l 33 Gr.d0 [from_]) 32 := by unfold Gr.behind; rw [if_neg h]
    rw [he]
    simp only [not_or, Int.not_lt, Int.not_le] at h
    have hb : Gr.bad n l = false := by simpa using h.1
    obtain ⟨m, rfl⟩ := Int.eq_ofNat_of_zero_le (Gr.bad_false hb).1
    exact behind_good m from_ A c l w hl hb h.2.1 h.2.2
end Go.Proofs.Ytcgcojdkkkfkdaa
