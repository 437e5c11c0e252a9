/-
  Contracts of package graph, third part: slices.Reverse of a cut, and round.
-/
import Derived.Test.YtcgcojdkkkfkdaaGc
import Derived.BigRegion
import Derived.RegionTactic
namespace Go.Proofs.Ytcgcojdkkkfkdaa
open Go.RowKit Go.Proofs.YtcgcojdkkkfkdaaW.PrintWords Go.Proofs.YtcgcojdkkkfkdaaW.PrintLast Go.Proofs.YtcgcojdkkkfkdaaW.PrintMore
open PGraphOrders
set_option linter.unusedVariables false
set_option linter.unusedSimpArgs false

/-- Numbers in the middle of a block of ints. -/
def Mid (w : World) (b off : Nat) (xs : List Int) : Prop := ∃ cells : Array Value, w.heap[b]? = some (.cells cells 3 (0, 0)) ∧ ∀ j, j < xs.length → cells[off + j]? = some (.int .i64 (xs.getD j 0))
theorem Mid.cell {w : World} {b off : Nat} {xs : List Int} (h : Mid w b off xs) (j : Nat) (hj : j < xs.length) : w.cell? ⟨b, off + j, none⟩ = some (.int .i64 (xs.getD j 0)) := by
  obtain ⟨cells, h1, h2⟩ := h
  simp only [World.cell?, h1]
  simpa using h2 j hj
theorem Mid.frozen {w : World} {b off : Nat} {xs : List Int} (h : Mid w b off xs) (j : Nat) : w.frozen? ⟨b, j, none⟩ = false := by
  obtain ⟨cells, h1, h2⟩ := h
  simp [World.frozen?, h1]
theorem Mid.put {w : World} {b off : Nat} {xs : List Int} (h : Mid w b off xs) (i : Nat) (hi : i < xs.length) (x : Int) : Mid (w.setCell ⟨b, off + i, none⟩ (.int .i64 x)) b off (xs.set i x) := by
  obtain ⟨cells, h1, h2⟩ := h
  refine ⟨cells.setIfInBounds (off + i) (.int .i64 x), ?_, ?_⟩
  · simp only [World.setCell]
    rw [Array.getElem?_modify, if_pos rfl, h1]; simp
  · intro j hj
    rw [List.length_set] at hj
    rw [getD_set' xs i x j hi, Array.getElem?_setIfInBounds]
    by_cases e : j = i
    · subst e
      have := h2 j hj
      have hs : off + j < cells.size := by
        rcases Nat.lt_or_ge (off + j) cells.size with h | h
        · exact h
        · simp [h] at this
      simp [hs]
    · rw [if_neg (by omega), if_neg e]; exact h2 j hj
theorem grown_set (w : World) (b o : Nat) (v : Value) : w.grownBy (w.setCell ⟨b, o, none⟩ v) (some b) := by
  refine ⟨rfl, rfl, rfl, ?_, fun k hk hne => Below.heap_setCell w _ v k (fun e => hne (by rw [e]))⟩
  simp [World.setCell]
theorem grown_drew (w : World) (row : Option Nat) : w.grownBy w.drew row := ⟨rfl, rfl, rfl, Nat.le_refl _, fun _ _ _ => rfl⟩
theorem Mid.drew {w : World} {b off : Nat} {xs : List Int} (h : Mid w b off xs) : Mid w.drew b off xs := h

def RevInv (l x : List Int) (i : Nat) : Prop := x.length = l.length ∧ ∀ q, q < l.length → x.getD q 0 = if q < i ∨ l.length - i ≤ q then l.getD (l.length - 1 - q) 0 else l.getD q 0
theorem RevInv.step {l x : List Int} {i : Nat} (h : RevInv l x i) (hi : 2 * i + 1 < l.length) : RevInv l ((x.set i (x.getD (l.length - 1 - i) 0)).set (l.length - 1 - i) (x.getD i 0)) (i + 1) := by
  obtain ⟨hx, h⟩ := h
  refine ⟨by simp [hx], fun q hq => ?_⟩
  rw [getD_set' _ _ _ _ (by simp; omega), getD_set' _ _ _ _ (by omega), h i (by omega), h (l.length - 1 - i) (by omega)]
  by_cases q1 : q = l.length - 1 - i
  · subst q1
    rw [if_pos rfl, if_neg (by omega), if_pos (by omega)]
    congr 1; omega
  · rw [if_neg q1]
    by_cases q2 : q = i
    · subst q2
      rw [if_pos rfl, if_neg (by omega), if_pos (by omega)]
    · rw [if_neg q2, h q hq]
      by_cases q3 : q < i ∨ l.length - i ≤ q
      · rw [if_pos q3, if_pos (by omega)]
      · rw [if_neg q3, if_neg (by omega)]
theorem RevInv.done {l x : List Int} {i : Nat} (h : RevInv l x i) (hi : ¬ 2 * i + 1 < l.length) : x = l.reverse := by
  obtain ⟨hx, h⟩ := h
  refine List.ext_getElem (by simp [hx]) fun q h1 h2 => ?_
  have := h q (by omega)
  rw [List.getElem_reverse]
  rw [List.getD_eq_getElem?_getD, List.getElem?_eq_getElem h1] at this
  simp only [Option.getD_some] at this
  rw [this]
  split
  · rw [List.getD_eq_getElem?_getD, List.getElem?_eq_getElem (by omega)]; rfl
  · have e : l.length - 1 - q = q := by omega
    rw [List.getD_eq_getElem?_getD, List.getElem?_eq_getElem (by omega)]
    simp [e]

set_option maxHeartbeats 3200000 in
set_option maxRecDepth 100000 in
theorem rev_mid (b off c : Nat) (l : List Int) (w : World) (hl : l.length ≤ 4611686018427387904) (h : Mid w b off l) :
    Calls Try.prog 46 #[.slice (some ⟨b, off, none⟩) l.length c] w fun e w' => e = .returned (.tuple #[]) ∧ Mid w' b off l.reverse ∧ w.grownBy w' (some b) := by
  have HM := Aside0.mk h
  clear h
  go_enter Try.func46, Try.ntmps46
  go_wp2
  go_loopw [2, 3] (fun v2 v3 wr => ∃ (i : Nat) (x : List Int), v2 = .int .i64 i ∧ v3 = .int .i64 ((l.length : Int) - 1 - i) ∧ i ≤ l.length ∧ Aside0 (RevInv l x i) ∧ Aside0 (Mid wr b off x) ∧ Aside0 (w.grownBy wr (some b))) (fun v2 _ _ => l.length - (intOf v2).toNat)
  case atStart => exact ⟨0, l, rfl, by simp, by omega, ⟨rfl, fun q hq => by rw [if_neg (by omega)]⟩, HM, ⟨World.grownBy.refl _ _⟩⟩
  case round =>
    obtain ⟨i, x, rfl, rfl, hi, hR, hM, hG⟩ := hrel
    by_cases hc : 2 * i + 1 < l.length
    · obtain ⟨j, hj⟩ : ∃ j : Nat, j = l.length - 1 - i := ⟨_, rfl⟩
      have ej : (l.length : Int) - 1 - i = (j : Int) := by omega
      rw [ej]
      have hxl := hR.out.1
      have ci := hM.out.cell i (by omega)
      have cj := hM.out.cell j (by omega)
      have fi := hM.out.frozen (off + i)
      have fj := hM.out.frozen (off + j)
      have hij : (i : Int) < (j : Int) := by omega
      have hj1 : (j : Int) < (l.length : Int) := by omega
      have hi1 : (i : Int) < (l.length : Int) := by omega
      have HJ := Aside0.mk hj
      have HE := Aside0.mk ej
      have HX := Aside0.mk hxl
      clear hj ej hxl
      go_wp2
      go_region
      go_wp2
      go_roundw
      case rel =>
        have hR2 := hR.out.step hc
        have hj := HJ.out
        have hxl := HX.out
        have hM2 := ((hM.out.put i (by omega) (x.getD j 0)).put j (by simp; omega) (x.getD i 0)).drew
        have hG2 := ((hG.out.trans (grown_set wr b (off + i) (.int .i64 (x.getD j 0)))).trans (grown_set _ b (off + j) (.int .i64 (x.getD i 0)))).trans (grown_drew _ _)
        rw [← hj] at hR2
        simp only [List.getD_eq_getElem?_getD] at hR2 hM2 hG2
        exact ⟨i + 1, _, by go_num, by rw [show (l.length : Int) - 1 - ((i + 1 : Nat) : Int) = (j : Int) - 1 by omega], by omega, ⟨hR2⟩, ⟨hM2⟩, ⟨hG2⟩⟩
      case measure => simp [intOf]; omega
    · go_wp2
      go_end0
      exact ⟨rfl, by rw [← hR.out.done hc]; exact hM.out, hG.out⟩

theorem rev_midn (b off c n : Nat) (l : List Int) (w : World) (hn : l.length = n) (hl : l.length ≤ 4611686018427387904) (h : Mid w b off l) :
    Calls Try.prog 46 #[.slice (some ⟨b, off, none⟩) n c] w fun e w' => e = .returned (.tuple #[]) ∧ Mid w' b off l.reverse ∧ w.grownBy w' (some b) := by
  subst hn
  exact rev_mid b off c l w hl h

/-- What a walk back keeps: see Gr.roundGo_spec. -/
structure RIn (n : Nat) (l : List Gr.E) (d : List Bool) (i0 : Int) (f : Nat) (acc : List Int) (i : Int) : Prop where
  same : Gr.roundGo l d f acc i = Gr.roundGo l d 33 [] i0
  fuel : f + acc.length = 33
  nodup : acc.Nodup
  rng : ∀ x ∈ acc, 0 ≤ x ∧ x < (n : Int)
  here : 0 ≤ i ∧ i < (n : Int) ∧ Gr.dn d i = false
theorem RIn.pos {n : Nat} {l : List Gr.E} {d : List Bool} {i0 : Int} {f : Nat} {acc : List Int} {i : Int} (h : RIn n l d i0 f acc i) (hn : n ≤ 32) : 0 < f := by
  have := Gr.pigeon n acc h.nodup h.rng
  have := h.fuel
  omega
theorem RIn.stop {n : Nat} {l : List Gr.E} {d : List Bool} {i0 : Int} {f : Nat} {acc : List Int} {i : Int} (h : RIn n l d i0 f acc i) (hn : n ≤ 32) (hc : acc.contains i = true) : Gr.round l d i0 = (acc.drop (acc.idxOf i)).reverse := by
  have hp := h.pos hn
  obtain ⟨f, rfl⟩ : ∃ m, f = m + 1 := ⟨f - 1, by omega⟩
  have := h.same
  rw [show Gr.roundGo l d (f + 1) acc i = if acc.contains i then (acc, i) else Gr.roundGo l d f (acc ++ [i]) (Gr.waits l d i) from rfl, if_pos hc] at this
  show (let p := Gr.roundGo l d 33 [] i0; (p.1.drop (p.1.idxOf p.2)).reverse) = _
  rw [← this]
theorem RIn.step {n : Nat} {l : List Gr.E} {d : List Bool} {i0 : Int} {f : Nat} {acc : List Int} {i : Int} (hs : Gr.Stuck n l d) (h : RIn n l d i0 (f + 1) acc i) (hc : acc.contains i = false) : RIn n l d i0 f (acc ++ [i]) (Gr.waits l d i) := by
  have hm : i ∉ acc := by simpa using hc
  obtain ⟨x, hx, h1, h2, h3⟩ := hs.wait i h.here.1 h.here.2.1 h.here.2.2
  refine ⟨?_, ?_, ?_, ?_, ?_⟩
  · rw [← h.same, show Gr.roundGo l d (f + 1) acc i = if acc.contains i then (acc, i) else Gr.roundGo l d f (acc ++ [i]) (Gr.waits l d i) from rfl, if_neg (by rw [hc]; simp)]
  · have := h.fuel; simp; omega
  · rw [List.nodup_append]
    refine ⟨h.nodup, by simp, fun a ha b hb => ?_⟩
    simp at hb; subst hb; intro e; subst e; exact hm ha
  · intro y hy
    rcases List.mem_append.1 hy with hy | hy
    · exact h.rng y hy
    · simp at hy; subst hy; exact ⟨h.here.1, h.here.2.1⟩
  · rw [h3]; exact ⟨(hs.rng x hx).1, (hs.rng x hx).2.1, h2⟩

theorem Arr.below {w w1 : World} {b : Nat} {d : List Bool} (h : Arr w b d) (hb : Below w.heap.size w w1) : Arr w1 b d :=
  ⟨h.1, (hb.block b (Array.getElem?_eq_some_iff.1 h.2).1).trans h.2⟩


theorem R_mid {w : World} {base : Nat} {ok : Nat → Prop} {v : Value} {xs : List Int} (h : Kd.R (Kd.int .i64) 3 w base ok v xs) (hp : xs ≠ []) : ∃ b c, v = .slice (some ⟨b, 0, none⟩) xs.length c ∧ xs.length ≤ c ∧ base ≤ b ∧ Mid w b 0 xs := by
  have hl : 0 < xs.length := by
    rcases xs with _ | ⟨x, t⟩
    · exact absurd rfl hp
    · simp
  have ho := Kd.own_of_R h
  rcases ho.2 with ⟨rfl, h0⟩ | ⟨g, cap, cur, rfl, hb, hh, h1, h2, h3, h4⟩
  · omega
  · refine ⟨g, cap, rfl, h1, hb, cur, hh, fun j hj => ?_⟩
    have h5 := congrArg (fun z => z[j]?) h4
    simp only [Nat.mul_one] at h5
    rw [List.getElem?_take_of_lt hj, Array.getElem?_toList] at h5
    rw [Nat.zero_add, h5]
    simp [encs, List.getD_eq_getElem?_getD, List.getElem?_eq_getElem hj]

theorem Mid.drop {w : World} {b : Nat} {xs : List Int} (h : Mid w b 0 xs) (k : Nat) : Mid w b k (xs.drop k) := by
  obtain ⟨cells, h1, h2⟩ := h
  refine ⟨cells, h1, fun j hj => ?_⟩
  rw [List.length_drop] at hj
  have := h2 (k + j) (by omega)
  rw [Nat.zero_add] at this
  rw [this]
  simp [List.getD_eq_getElem?_getD, List.getElem?_drop]
theorem Mid.reads {w : World} {b off : Nat} {xs : List Int} (h : Mid w b off xs) (hl : xs.length ≤ 9223372036854775807) : Kd.C (Kd.int .i64) w (some ⟨b, off, none⟩) xs.length xs := by
  refine Kd.C_of_reads (d := 0) ⟨rfl, hl, fun _ => ⟨_, rfl, fun j hj => ?_⟩⟩
  have := h.cell j hj
  rw [show (⟨b, off, none⟩ : Addr).add j = ⟨b, off + j, none⟩ by unfold Addr.add; split <;> simp_all]
  exact this
theorem Mid.drewN {w : World} {b off : Nat} {xs : List Int} (h : Mid w b off xs) (n : Nat) : Mid (w.drewN n) b off xs := h

theorem info3' : (Try.prog.info? 3).map (fun i => (i.zero, i.size, i.bytes)) = some (some (.int .i64 0), 1, 8) := by kernel_rfl

set_option maxHeartbeats 3200000 in
set_option maxRecDepth 100000 in
theorem round_any (i : Int) (pl : Addr) (bd : Nat) (A : Option Addr) (c n : Nat) (l : List Gr.E) (d : List Bool) (w : World) (hl : Kd.C kE w A l.length l) (hpl : w.cell? pl = some (.slice A l.length c))
    (hd : Arr w bd d) (hs : Gr.Stuck n l d) (hn : n ≤ 32) (hi : 0 ≤ i ∧ i < (n : Int) ∧ Gr.dn d i = false) :
    Calls Try.prog 39 #[.int .i64 i, .func (.func 38) #[] #[.pointer (some pl), .pointer (some ⟨bd, 0, none⟩)]] w fun e w' =>
      ∃ A1 c1, e = .returned (.slice A1 (Gr.round l d i).length c1) ∧ (Gr.round l d i).length ≤ c1 ∧ Kd.C (Kd.int .i64) w' A1 (Gr.round l d i).length (Gr.round l d i) ∧ Below w.heap.size w w' := by
  have HL := Aside0.mk hl
  have HD := Aside0.mk hd
  have HS := Aside0.mk hs
  have HR32 : Aside0 (∀ x ∈ l, 0 ≤ x.1 ∧ x.1 < 32) := ⟨fun x hx => by have := hs.rng x hx; omega⟩
  have HP := Aside0.mk hpl
  have HI : Aside0 (RIn n l d i 33 [] i) := ⟨⟨rfl, rfl, by simp, by simp, hi⟩⟩
  clear hl hd hs hpl hi
  go_enter Try.func39, Try.ntmps39
  go_wp2
  go_loopg [0, 5] 33 (fun f v0 v5 wr => ∃ (acc : List Int) (j : Int), v0 = .int .i64 j ∧ Aside0 (RIn n l d i f acc j) ∧ Aside0 (Kd.R (Kd.int .i64) 3 wr w.heap.size (fun _ => True) v5 acc) ∧ Aside0 (Below w.heap.size w wr))
  case atStart => exact ⟨[], i, rfl, HI, ⟨Kd.R_nil _ _ _ _ _⟩, ⟨Below.refl _ _⟩⟩
  case round =>
    obtain ⟨acc, j, rfl, HR, HO, HB⟩ := hrel
    have hf := HR.out.pos hn
    obtain ⟨f, rfl⟩ : ∃ m, gk = m + 1 := ⟨gk - 1, by omega⟩
    clear hf
    obtain ⟨A5, c5, rfl, hle, hC⟩ := Kd.R_reads HO.out
    have hal : acc.length ≤ 33 := by have := HR.out.fuel; omega
    have HC := Aside0.mk hC
    have HLE := Aside0.mk hle
    clear hC hle
    have HF := Aside0.mk (cont_f acc j (by omega))
    cases hb : acc.contains j
    · rw [hb] at HF
      have HCB := Aside0.mk hb
      clear hb
      go_wp2_with (first
        | (go_at_call 44; (with_reducible refine (slices_Contains_int_int.calls _ _ _ acc j _ _ HC.out HLE.out HF.out).mono ?_); rintro e w' ⟨rfl, ⟨nd, rfl⟩⟩)
        | (at_builtin; refine Kd.R_append (Kd.int .i64) (w0 := w) w.heap.size rfl (.tmp 10) (.tmp 12) 45 3 (.int .i64 0) 8 rfl Try.underlying45 info3' rfl (by decide) (by omega) (.slice A5 acc.length c5) acc j [.int .i64 j] (fun _ => True) (fun _ => False) rfl rfl rfl (fun _ hk => hk.elim) (fun _ _ => trivial) (Kd.R_drewN HO.out _) (pw_below_drewN HB.out _) HB.out.size (by omega) ?_; intro v1 w1 ho hbb hg hat; have HO1 := Aside0.mk ho; have HB1 := Aside0.mk hbb; clear ho hbb hg hat)
        | (go_at_call 38; (with_reducible refine (waits_any j pl bd A c l d _ (Kd.C_below HL.out HB1.out) (pw_cell_below HB1.out HP.out) (HD.out.below HB1.out) HR32.out).mono ?_); rintro e w2 ⟨rfl, hb2⟩; have HB2 := Aside0.mk hb2; clear hb2))
      go_roundg f
      case measure => omega
      case rel => exact ⟨acc ++ [j], Gr.waits l d j, rfl, ⟨HR.out.step HS.out HCB.out⟩, ⟨Kd.R_below HO1.out HB2.out⟩, ⟨below_then HB1.out HB1.out.size HB2.out⟩⟩
    · rw [hb] at HF
      have HCB := Aside0.mk hb
      have hmem : j ∈ acc := by simpa using hb
      have hidx : acc.idxOf j < acc.length := List.idxOf_lt_length_iff.2 hmem
      have HX0 := idx_f acc j (by omega)
      rw [if_pos hmem] at HX0
      have HX := Aside0.mk HX0
      obtain ⟨b5, c5', e5, hc5, hb5, hm5⟩ := R_mid HO.out (by intro e; rw [e] at hmem; simp at hmem)
      injection e5 with ea _ ec
      subst ea
      subst ec
      have HM5 := Aside0.mk hm5
      have HB5 := Aside0.mk hb5
      have HMEM := Aside0.mk hmem
      have hic : acc.idxOf j < c5 := by omega
      clear hb HX0 hm5 hb5 hmem hc5
      go_wp2_with (first
        | (go_at_call 44; (with_reducible refine (slices_Contains_int_int.calls _ _ _ acc j _ _ HC.out HLE.out HF.out).mono ?_); rintro e w' ⟨rfl, ⟨nd, rfl⟩⟩)
        | (go_at_call 45; (with_reducible refine (slices_Index_int_int.calls _ _ _ acc j _ _ (Kd.C_drewN HC.out _) HLE.out HX.out).mono ?_); rintro e w' ⟨rfl, ⟨nd2, rfl⟩⟩)
        | (go_at_call 46; (with_reducible refine (rev_midn b5 (acc.idxOf j) (c5 - acc.idxOf j) (acc.length - acc.idxOf j) (acc.drop (acc.idxOf j)) _ List.length_drop (by rw [List.length_drop]; omega) ((HM5.out.drop _).drewN _)).mono ?_); rintro e w3 ⟨rfl, hm3, hg3⟩; have HM3 := Aside0.mk hm3; have HG3 := Aside0.mk hg3; clear hm3 hg3))
      go_ret
      have hrd := HR.out.stop hn HCB.out
      have hm := HM3.out
      rw [← hrd] at hm
      have hlen : (Gr.round l d i).length = acc.length - acc.idxOf j := by rw [hrd]; simp
      refine ⟨some ⟨b5, acc.idxOf j, none⟩, c5 - acc.idxOf j, by rw [hlen]; rfl, by rw [hlen]; have := HLE.out; omega, hm.reads (by omega), ?_⟩
      exact pw_below_grown (pw_below_drewN HB.out _) (some b5) HB.out.size HG3.out (fun k hk => by injection hk with hk; rw [← hk]; exact HB5.out)
end Go.Proofs.Ytcgcojdkkkfkdaa
