/-
  Contracts of package graph, fourth part: Order.
-/
import Derived.Test.YtcgcojdkkkfkdaaGd
namespace Go.Proofs.Ytcgcojdkkkfkdaa
open Go.RowKit Go.Proofs.YtcgcojdkkkfkdaaW.PrintWords Go.Proofs.YtcgcojdkkkfkdaaW.PrintLast Go.Proofs.YtcgcojdkkkfkdaaW.PrintMore
set_option linter.unusedVariables false
set_option linter.unusedSimpArgs false

/-- A slice of ints that can be read. -/
def Rd (w : World) (v : Value) (xs : List Int) : Prop := ∃ A c, v = .slice A xs.length c ∧ xs.length ≤ c ∧ Kd.C (Kd.int .i64) w A xs.length xs
theorem Rd.nil (w : World) : Rd w (.slice none 0 0) [] := ⟨none, 0, rfl, Nat.le_refl _, Kd.C_nil _ _⟩
theorem Rd.below {w w1 : World} {v : Value} {xs : List Int} (h : Rd w v xs) (hb : Below w.heap.size w w1) : Rd w1 v xs := by
  obtain ⟨A, c, h1, h2, h3⟩ := h
  exact ⟨A, c, h1, h2, Kd.C_below h3 hb⟩

/-- What Order's loop keeps. -/
structure OIn (n : Nat) (l : List Gr.E) (f : Nat) (d : List Bool) (out : List Int) : Prop where
  same : Gr.ord l n f d out = Gr.ord l n n Gr.d0 []
  dlen : d.length = 32
  done : ∀ j : Int, 0 ≤ j → (Gr.dn d j = true ↔ j ∈ out)
  nodup : out.Nodup
  range : ∀ x ∈ out, 0 ≤ x ∧ x < (n : Int)
  fuel : f + out.length = n

theorem OIn.start (n : Nat) (l : List Gr.E) : OIn n l n Gr.d0 [] :=
  ⟨rfl, by simp [Gr.d0], fun j hj => by rw [Gr.dn_d0]; simp, by simp, by simp, by simp⟩
theorem OIn.next {n : Nat} {l : List Gr.E} {f : Nat} {d : List Bool} {out : List Int} (h : OIn n l (f + 1) d out) {i last : Int} (hi : Gr.scan l d n 0 (-1) = (i, last)) (h0 : 0 ≤ i) (hn : n ≤ 32) (hr : ∀ x ∈ l, 0 ≤ x.1) :
    OIn n l f (d.set i.toNat true) (out ++ [i]) ∧ i < 32 := by
  have hsp := Gr.scan_spec l d hr n 0 (-1) (by omega)
  rw [hi] at hsp
  have hsp2 : i < n ∧ Gr.dn d i = false := by
    rcases hsp with ⟨h1, _⟩ | ⟨_, h2, h3, _⟩
    · simp at h1; omega
    · exact ⟨by simpa using h2, h3⟩
  have hni : i ∉ out := fun hm => by rw [(h.done i h0).2 hm] at hsp2; cases hsp2.2
  refine ⟨⟨?_, by simp [h.dlen], ?_, ?_, ?_, ?_⟩, by omega⟩
  · rw [← h.same]
    show _ = (let p := Gr.scan l d n 0 (-1); if p.1 < 0 then ([], Gr.round l d p.2, 80) else Gr.ord l n f (d.set p.1.toNat true) (out ++ [p.1]))
    rw [hi]
    simp only
    rw [if_neg (by omega)]
  · intro j hj
    have := h.dlen
    rw [Gr.dn_set d i h0 (by omega) j hj]
    by_cases e : j = i
    · simp [e]
    · rw [if_neg e, h.done j hj]; simp [e]
  · rw [List.nodup_append]
    refine ⟨h.nodup, by simp, fun a ha b hb => ?_⟩
    simp at hb; subst hb; intro e; subst e; exact hni ha
  · intro x hx
    rcases List.mem_append.1 hx with hx | hx
    · exact h.range x hx
    · simp at hx; subst hx; exact ⟨h0, hsp2.1⟩
  · have := h.fuel; simp; omega
theorem OIn.stuck {n : Nat} {l : List Gr.E} {f : Nat} {d : List Bool} {out : List Int} (h : OIn n l (f + 1) d out) {last : Int} (hi : Gr.scan l d n 0 (-1) = (-1, last)) (hn : n ≤ 32)
    (hr : ∀ x ∈ l, 0 ≤ x.1 ∧ x.1 < (n : Int) ∧ 0 ≤ x.2.1 ∧ x.2.1 < (n : Int)) :
    Gr.Stuck n l d ∧ (0 ≤ last ∧ last < (n : Int) ∧ Gr.dn d last = false) ∧ Gr.ord l n n Gr.d0 [] = ([], Gr.round l d last, 80) := by
  have hsp := Gr.scan_spec l d (fun x hx => (hr x hx).1) n 0 (-1) (by omega)
  rw [hi] at hsp
  have h3 := h.fuel
  rcases hsp with ⟨h1, h2, h3'⟩ | ⟨h1, _⟩
  · refine ⟨⟨fun j j0 j1 j2 => h2 j (by omega) (by omega) j2, hr⟩, ?_, ?_⟩
    · rcases h3' with ⟨_, h4⟩ | ⟨h4, h5, h6⟩
      · exfalso
        have hall : ∀ j : Int, 0 ≤ j → j < n → j ∈ out := fun j h0 h1 => (h.done j h0).1 (h4 j (by omega) (by omega))
        have hnd2 : ((List.range n).map (fun k : Nat => (k : Int))).Nodup := by
          refine List.Pairwise.map _ ?_ List.nodup_range
          intro a b h; omega
        have := List.Nodup.length_le_of_subset hnd2 (l₂ := out) (fun x hx => by
          simp at hx
          obtain ⟨k, hk, rfl⟩ := hx
          exact hall _ (by omega) (by omega))
        simp at this; omega
      · exact ⟨h4, by simpa using h5, h6⟩
    · rw [← h.same]
      show (let p := Gr.scan l d n 0 (-1); if p.1 < 0 then ([], Gr.round l d p.2, 80) else Gr.ord l n f (d.set p.1.toNat true) (out ++ [p.1])) = _
      rw [hi]
      rfl
  · simp at h1

theorem scan_done {l : List Gr.E} {d : List Bool} {k n : Nat} {last : Int} (h : k < n) (hd : Gr.dn d k = true) : Gr.scan l d (n - k) k last = Gr.scan l d (n - (k + 1)) ((k + 1 : Nat) : Int) last := by
  obtain ⟨m, hm⟩ : ∃ m, n - k = m + 1 := ⟨n - k - 1, by omega⟩
  rw [hm, show n - (k + 1) = m by omega]
  show (if Gr.dn d k = true then Gr.scan l d m ((k : Int) + 1) last else _) = _
  rw [if_pos hd]; rfl
theorem scan_free {l : List Gr.E} {d : List Bool} {k n : Nat} {last : Int} (h : k < n) (hd : Gr.dn d k = false) (hw : Gr.waits l d k < 0) : Gr.scan l d (n - k) k last = ((k : Int), (k : Int)) := by
  obtain ⟨m, hm⟩ : ∃ m, n - k = m + 1 := ⟨n - k - 1, by omega⟩
  rw [hm]
  show (if Gr.dn d k = true then Gr.scan l d m ((k : Int) + 1) last else if Gr.waits l d k < 0 then ((k : Int), (k : Int)) else Gr.scan l d m ((k : Int) + 1) k) = _
  rw [if_neg (by simp [hd]), if_pos hw]
theorem scan_wait {l : List Gr.E} {d : List Bool} {k n : Nat} {last : Int} (h : k < n) (hd : Gr.dn d k = false) (hw : ¬ Gr.waits l d k < 0) : Gr.scan l d (n - k) k last = Gr.scan l d (n - (k + 1)) ((k + 1 : Nat) : Int) (k : Int) := by
  obtain ⟨m, hm⟩ : ∃ m, n - k = m + 1 := ⟨n - k - 1, by omega⟩
  rw [hm, show n - (k + 1) = m by omega]
  show (if Gr.dn d k = true then Gr.scan l d m ((k : Int) + 1) last else if Gr.waits l d k < 0 then ((k : Int), (k : Int)) else Gr.scan l d m ((k : Int) + 1) k) = _
  rw [if_neg (by simp [hd]), if_neg hw]; rfl

/-- The world in Order's loops: the parameter's box at B, the marks at bd. -/
structure OW (w : World) (bd : Nat) (sv : Value) (d : List Bool) (wr : World) : Prop where
  box : wr.heap[w.heap.size]? = some (.cells #[sv] 44 (0, 0))
  arr : Arr wr bd d
  bdge : w.heap.size < bd
  below : Below w.heap.size w wr
theorem OW.step {w : World} {bd : Nat} {sv : Value} {d : List Bool} {wr w2 : World} (h : OW w bd sv d wr) (hb : Below wr.heap.size wr w2) : OW w bd sv d w2 :=
  ⟨(hb.block _ (Array.getElem?_eq_some_iff.1 h.box).1).trans h.box, h.arr.below hb, h.bdge, below_then h.below h.below.size hb⟩
theorem OW.cell {w : World} {bd : Nat} {sv : Value} {d : List Bool} {wr : World} (h : OW w bd sv d wr) : wr.cell? ⟨w.heap.size, 0, none⟩ = some sv := by
  simp [World.cell?, h.box]
theorem OW.mark {w : World} {bd : Nat} {sv : Value} {d : List Bool} {wr : World} (h : OW w bd sv d wr) (i : Int) (h0 : 0 ≤ i) (h1 : i < 32) : OW w bd sv (d.set i.toNat true) (wr.setCell ⟨bd, i.toNat, none⟩ (.bool true)) := by
  refine ⟨?_, ⟨by simp [h.arr.1], ?_⟩, h.bdge, h.below.setCell (Nat.le_of_lt h.bdge) _⟩
  · rw [Below.heap_setCell _ _ _ _ (by have := h.bdge; show w.heap.size ≠ bd; omega)]; exact h.box
  · simp only [World.setCell]
    rw [Array.getElem?_modify, if_pos rfl, h.arr.2]
    simp [bools]
theorem OW.grown {w : World} {bd : Nat} {sv : Value} {d : List Bool} {wr w2 : World} {v : Value} {xs : List Int} {ok : Nat → Prop} (h : OW w bd sv d wr) (hR : Kd.R (Kd.int .i64) 3 wr w.heap.size ok v xs) (hg : wr.grownBy w2 v.ownBlock) : OW w bd sv d w2 := by
  refine ⟨blk_grown h.box hg (Kd.R_ne hR h.box (by decide)), ⟨h.arr.1, blk_grown h.arr.2 hg (Kd.R_ne hR h.arr.2 (by decide))⟩, h.bdge, pw_below_grown h.below _ h.below.size hg (fun k hk => ?_)⟩
  obtain ⟨inner, ho⟩ := Kd.R_own hR
  exact own_base ho k hk

theorem OW.start {w w1 : World} {sv : Value} (hb1 : Below (w.alloc (.cells #[sv] 44)).heap.size (w.alloc (.cells #[sv] 44)) w1) :
    OW w w1.heap.size sv Gr.d0 (w1.alloc (.cells (bools Gr.d0).toArray 71)) := by
  have hs := hb1.size
  simp at hs
  refine ⟨?_, ⟨by simp [Gr.d0], heap_alloc_new w1 _⟩, by omega, ?_⟩
  · have := hb1.block w.heap.size (by simp)
    rw [Below.heap_alloc _ _ _ (by omega), this]
    exact heap_alloc_new w _
  · exact (below_then ((Below.refl w.heap.size w).alloc (Nat.le_refl _) _) (by simp) hb1).alloc (by omega) _

set_option maxHeartbeats 6400000 in
set_option maxRecDepth 100000 in
theorem order_good (n : Nat) (A : Option Addr) (c : Nat) (l : List Gr.E) (w : World) (hl : Kd.C kE w A l.length l) (hb : Gr.bad n l = false) :
    Calls Try.prog 25 #[.int .i64 (n : Int), .slice A l.length c] w fun e w' =>
      ∃ v1 v2, e = .returned (.tuple #[v1, v2, .int .i64 (Gr.ord l n n Gr.d0 []).2.2]) ∧ Rd w' v1 (Gr.ord l n n Gr.d0 []).1 ∧ Rd w' v2 (Gr.ord l n n Gr.d0 []).2.1 ∧ Below w.heap.size w w' := by
  obtain ⟨h0, h1, h2⟩ := Gr.bad_false hb
  have HL := Aside0.mk hl
  have HR := Aside0.mk h2
  have HR32 : Aside0 (∀ x ∈ l, 0 ≤ x.1 ∧ x.1 < 32) := ⟨fun x hx => by have := h2 x hx; omega⟩
  have HBad := Aside0.mk hb
  have hn : n ≤ 32 := by omega
  clear hl h2 hb h0 h1
  have hmf : ∀ (fn : Fn) (first cap : Array Value) (w : World), (Instr.makeFunc fn first cap).run Try.prog w = .ok (.func fn first cap) w := fun _ _ _ _ => rfl
  have HB0 := Aside0.mk ((Below.refl w.heap.size w).alloc (Nat.le_refl _) (.cells #[.slice A l.length c] 44))
  go_enter Try.func25, Try.ntmps25
  go_wp2_with (first
    | (go_at_call 37; (with_reducible refine (bad_any n A c l _ (Kd.C_below HL.out HB0.out)).mono ?_); rw [HBad.out]; rintro e w1 ⟨rfl, hb1⟩; have HB1 := Aside0.mk hb1; clear hb1))
  have HS := Aside0.mk (OW.start HB1.out)
  rw [show (bools Gr.d0).toArray = #[Value.bool false, Value.bool false, Value.bool false, Value.bool false, Value.bool false, Value.bool false, Value.bool false, Value.bool false, Value.bool false, Value.bool false, Value.bool false, Value.bool false, Value.bool false, Value.bool false, Value.bool false, Value.bool false, Value.bool false, Value.bool false, Value.bool false, Value.bool false, Value.bool false, Value.bool false, Value.bool false, Value.bool false, Value.bool false, Value.bool false, Value.bool false, Value.bool false, Value.bool false, Value.bool false, Value.bool false, Value.bool false] from rfl] at HS
  obtain ⟨bd, hbd⟩ : ∃ bd, bd = w1.heap.size := ⟨_, rfl⟩
  rw [← hbd] at HS ⊢
  clear hbd
  go_loopg [4] n (fun f v4 wr => ∃ (d : List Bool) (out : List Int), Aside0 (OIn n l f d out) ∧ Aside0 (Kd.R (Kd.int .i64) 3 wr w.heap.size (fun _ => True) v4 out) ∧ Aside0 (OW w bd (.slice A l.length c) d wr))
  case atStart => exact ⟨Gr.d0, [], ⟨OIn.start n l⟩, ⟨Kd.R_nil _ _ _ _ _⟩, HS⟩
  case round =>
    clear HS HB1
    obtain ⟨d, out, HO, HV, HW⟩ := hrel
    obtain ⟨A4, c4, rfl, hle, hC⟩ := Kd.R_reads HV.out
    clear hle hC
    have hlen : gk + out.length = n := HO.out.fuel
    cases gk with
    | zero =>
      have h2 : ¬ (out.length : Int) < (n : Int) := by omega
      clear hlen
      go_wp2
      exact bodyPost_ret (v := .tuple #[.slice A4 out.length c4, .slice none 0 0, .int .i64 0]) (by simp [results, Try.results25, go_sem]) rfl ⟨_, _, by rw [← HO.out.same]; rfl, by
        rw [← HO.out.same]; exact Kd.R_reads HV.out, by rw [← HO.out.same]; exact Rd.nil _, HW.out.below⟩
    | succ f =>
      have h2 : (out.length : Int) < (n : Int) := by omega
      have HLEN := Aside0.mk hlen
      clear hlen
      go_wp2
      go_loopg [9, 10, 21] n (fun g v9 v10 v21 wr => ∃ (k : Nat) (last : Int), v21 = .int .i64 k ∧ k ≤ n ∧ g = n - k ∧ v9 = .int .i64 (-1) ∧ v10 = .int .i64 last ∧ Aside0 (Gr.scan l d (n - k) k last = Gr.scan l d n 0 (-1)) ∧ Aside0 (Kd.R (Kd.int .i64) 3 wr w.heap.size (fun _ => True) (.slice A4 out.length c4) out) ∧ Aside0 (OW w bd (.slice A l.length c) d wr))
      case atStart => exact ⟨0, -1, rfl, Nat.zero_le _, rfl, rfl, rfl, ⟨rfl⟩, HV, HW⟩
      case round =>
        clear HV HW
        obtain ⟨k, last, rfl, hk, hg, rfl, rfl, HSC, HV, HW⟩ := hrel
        have HG := Aside0.mk hg
        clear hg
        by_cases hkn : k < n
        · have hkn' : (k : Int) < (n : Int) := by omega
          have hc0 := HW.out.arr.cell (k : Int) (by omega) (by omega)
          rw [Int.toNat_natCast] at hc0
          have hk32 : (k : Int) < 32 := by omega
          cases hd : Gr.dn d (k : Int)
          · rw [hd] at hc0
            have HDN := Aside0.mk hd
            clear hd
            by_cases hwt : Gr.waits l d (k : Int) < 0
            · have HSF := scan_free (last := last) hkn HDN.out hwt
              rw [HSC.out] at HSF
              obtain ⟨hnx, hk32'⟩ := HO.out.next HSF (by omega) hn (fun x hx => (HR.out x hx).1)
              have HNX := Aside0.mk hnx
              clear hnx HSF hk32'
              have hf0 : wr.frozen? ⟨bd, k, none⟩ = false := HW.out.arr.frozen k
              have hol : out.length ≤ 32 := by omega
              clear HSC
              go_wp2_with (first
                | (go_at_call 38; (with_reducible refine (waits_any (k : Int) ⟨w.heap.size, 0, none⟩ bd A c l d _ (Kd.C_below HL.out HW.out.below) HW.out.cell HW.out.arr HR32.out).mono ?_); rintro e w2 ⟨rfl, hb2⟩; have HW2 := Aside0.mk (HW.out.step hb2); have HV2 := Aside0.mk (Kd.R_below HV.out hb2); clear hb2; have hc2 : w2.cell? ⟨bd, k, none⟩ = some (.bool (Gr.dn d (k : Int))) := HW2.out.arr.cell (k : Int) (by omega) (by omega); have hf2 := HW2.out.arr.frozen k)
                | ((with_reducible refine gate_store (t := 4) (p := 40) rfl ?_); refine store_event (t := 4) (p := 40) (v := _) (w1 := w2.setCell ⟨bd, k, none⟩ (.bool true)) rfl rfl rfl ?hr ?_; (case hr => first | (go_simp; done) | (go_simp; rfl)); intro w3 hw; have HW3 := Aside0.mk (HW2.out.mark (k : Int) (by omega) (by omega)); have HV3 := Aside0.mk (Kd.R_set HV2.out HW2.out.arr.2 (by decide) k (.bool true)); rw [Int.toNat_natCast, ← hw] at HW3; rw [← hw] at HV3; clear hw)
                | (at_builtin; refine Kd.R_append (Kd.int .i64) (w0 := w) w.heap.size rfl (.tmp 41) (.tmp 43) 45 3 (.int .i64 0) 8 rfl Try.underlying45 info3' rfl (by decide) (by omega) (.slice A4 out.length c4) out (k : Int) [.int .i64 (k : Int)] (fun _ => True) (fun _ => False) rfl rfl rfl (fun _ hk => hk.elim) (fun _ _ => trivial) HV3.out HW3.out.below HW3.out.below.size (by omega) ?_; intro v1 w4 ho hbb hg hat; have HV4 := Aside0.mk ho; have HW4 := Aside0.mk (HW3.out.grown HV3.out hg); clear ho hbb hg hat))
              go_roundg f
              case measure => omega
              case rel => exact ⟨_, _, HNX, HV4, HW4⟩
            · have HSF := Aside0.mk (scan_wait (last := last) hkn HDN.out hwt)
              go_wp2_with (first
                | (go_at_call 38; (with_reducible refine (waits_any (k : Int) ⟨w.heap.size, 0, none⟩ bd A c l d _ (Kd.C_below HL.out HW.out.below) HW.out.cell HW.out.arr HR32.out).mono ?_); rintro e w2 ⟨rfl, hb2⟩; have HW2 := Aside0.mk (HW.out.step hb2); have HV2 := Aside0.mk (Kd.R_below HV.out hb2); clear hb2))
              go_roundg (n - (k + 1))
              case measure => have := HG.out; omega
              case rel => exact ⟨k + 1, (k : Int), by go_num, by omega, rfl, rfl, rfl, ⟨by rw [← HSF.out]; exact HSC.out⟩, HV2, HW2⟩
          · rw [hd] at hc0
            have HSF := Aside0.mk (scan_done (l := l) (last := last) hkn hd)
            clear hd
            go_wp2
            go_roundg (n - (k + 1))
            case measure => have := HG.out; omega
            case rel => exact ⟨k + 1, last, by go_num, by omega, rfl, rfl, rfl, ⟨by rw [← HSF.out]; exact HSC.out⟩, HV, HW⟩
        · have hkn' : ¬ (k : Int) < (n : Int) := by omega
          have hsc := HSC.out
          rw [show n - k = 0 by omega] at hsc
          obtain ⟨hst, hla, hord⟩ := HO.out.stuck (last := last) (by rw [← hsc]; rfl) hn HR.out
          have HST := Aside0.mk hst
          have HLA := Aside0.mk hla
          have HORD := Aside0.mk hord
          clear hsc HSC hst hla hord
          go_wp2_with (first
            | (go_at_call 39; (with_reducible refine (round_any last ⟨w.heap.size, 0, none⟩ bd A c n l d _ (Kd.C_below HL.out HW.out.below) HW.out.cell HW.out.arr HST.out hn HLA.out).mono ?_); rintro e w2 ⟨A2, c2, rfl, hl2, hC2, hb2⟩; have HL2 := Aside0.mk hl2; have HC2 := Aside0.mk hC2; have HB2 := Aside0.mk hb2; clear hl2 hC2 hb2))
          exact bodyPost_ret (v := .tuple #[.slice none 0 0, .slice A2 (Gr.round l d last).length c2, .int .i64 80]) (by simp [results, Try.results25, go_sem]) rfl ⟨_, _, by rw [HORD.out], by
            rw [HORD.out]; exact Rd.nil _, by rw [HORD.out]; exact ⟨_, _, rfl, HL2.out, HC2.out⟩, below_then HW.out.below HW.out.below.size HB2.out⟩

theorem order_any (n : Int) (A : Option Addr) (c : Nat) (l : List Gr.E) (w : World) (hl : Kd.C kE w A l.length l) :
    Calls Try.prog 25 #[.int .i64 n, .slice A l.length c] w fun e w' =>
      ∃ v1 v2, e = .returned (.tuple #[v1, v2, .int .i64 (Gr.order n l).2.2]) ∧ Rd w' v1 (Gr.order n l).1 ∧ Rd w' v2 (Gr.order n l).2.1 ∧ Below w.heap.size w w' := by
  cases hb : Gr.bad n l
  · obtain ⟨m, rfl⟩ := Int.eq_ofNat_of_zero_le (Gr.bad_false hb).1
    have he : Gr.order (m : Int) l = Gr.ord l m m Gr.d0 [] := by unfold Gr.order; rw [hb]; rfl
    rw [he]
    exact order_good m A c l w hl hb
  · have he : Gr.order n l = ([], [], 1) := by unfold Gr.order; rw [hb]; rfl
    rw [he]
    have HL := Aside0.mk hl
    have HBad := Aside0.mk hb
    clear hl hb he
    have HB0 := Aside0.mk ((Below.refl w.heap.size w).alloc (Nat.le_refl _) (.cells #[.slice A l.length c] 44))
    go_enter Try.func25, Try.ntmps25
    go_wp2_with (first
      | (go_at_call 37; (with_reducible refine (bad_any n A c l _ (Kd.C_below HL.out HB0.out)).mono ?_); rw [HBad.out]; rintro e w1 ⟨rfl, hb1⟩; have HB1 := Aside0.mk hb1; clear hb1))
    exact bodyPost_ret (v := .tuple #[.slice none 0 0, .slice none 0 0, .int .i64 1]) (by simp [results, Try.results25, go_sem]) rfl ⟨_, _, rfl, Rd.nil _, Rd.nil _, below_then HB0.out (by simp) HB1.out⟩
end Go.Proofs.Ytcgcojdkkkfkdaa
