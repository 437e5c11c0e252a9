/-
  The statements' own functions: with; puts by their footprint.
-/
import Derived.Test.YtmfndobdkihbnaaJl
namespace Go.Proofs.Ytmfndobdkihbnaa.Dk
open Go.RowKit Go.MapKept Go.Proofs.YtmfndobdkihbnaaW.PrintWords Go.Proofs.YtmfndobdkihbnaaW.PrintLast Go.Proofs.YtmfndobdkihbnaaW.PrintMore
set_option linter.unusedVariables false
set_option linter.unusedSimpArgs false

theorem FK_put {W : World} {ok : Nat → Prop} {x : PutT} {cs : List Value} (h : Kd.FK kP W ok x cs) : ∃ A c, cs = [.int .i64 x.1, .slice A x.2.length c] ∧ x.2.length ≤ c ∧ Kd.F (Kd.int .u8) W ok A x.2.length x.2 := by
  obtain ⟨A, c, rfl, hl, hb⟩ := kP_open (Kd.FK_now h)
  refine ⟨A, c, rfl, hl, fun W' hW => ?_⟩
  obtain ⟨A', c', e, _, hb'⟩ := kP_open (h W' hW)
  injection e with e1 e2
  injection e2 with e2 e3
  injection e2 with e4 e5 e6
  subst e4
  exact hb'.to_C
/-- Puts whose cells lie in ok stay, if nothing of ok is written. -/
theorem PutsAt.of_F {S ok : Nat → Prop} {w : World} {A : Option Addr} {l : List PutT} (h : Kd.F kP w ok A l.length l) (hS : ∀ k, ok k → ¬ S k) : PutsAt S w A l := by
  intro i hi
  obtain ⟨ad, cs, rfl, hcl, hK, hcc, hin⟩ := Kd.F_get h (0, []) (i : Int) (by omega) (by omega)
  rw [Int.toNat_natCast] at hK hcc
  have hx : l.getD i (0, []) = rdP l i := rfl
  rw [hx] at hK
  obtain ⟨B, c, rfl, hl, hF⟩ := FK_put hK
  refine ⟨ad, B, c, rfl, fun W' hf => ?_⟩
  have had : ok ad.block := hin (by decide)
  have h0 := hcc 0 _ rfl
  have h1 := hcc 1 _ rfl
  have hsz : kP.sz = 2 := rfl
  rw [hsz] at h0 h1
  have hblk : ∀ j, (ad.add j).block = ad.block := fun j => add_block ad j
  have hlt : ad.block < w.heap.size := by
    have := World.block_lt_of_cell? w _ h0
    rwa [hblk] at this
  have hb : W'.heap[ad.block]? = w.heap[ad.block]? := hf.block _ hlt (hS _ had)
  refine ⟨?_, ?_, BytesAt.of_C (hF W' (fun k hk hlt => hf.block k hlt (hS k hk)))⟩
  · rw [World.cell?_of_block (w := w) (w' := W') (a := ad.add (i * 2)) (by rw [hblk]; exact hb)]
    exact h0
  · rw [World.cell?_of_block (w := w) (w' := W') (a := ⟨(ad.add (i * 2)).block, (ad.add (i * 2)).off + 1, none⟩) (by show W'.heap[(ad.add (i * 2)).block]? = w.heap[(ad.add (i * 2)).block]?; rw [hblk]; exact hb)]
    rw [add_field _ _ 1 (by omega)] at h1
    exact h1
theorem heap_kP : Kd.Heap kP := Kd.heap_pair (Kd.heap_int _) (Kd.heap_slice _ (Kd.heap_int _))
abbrev kR : Kd (List Int) := Kd.slice 5 (Kd.int .u8)

theorem infoBss : (Try.prog.info? 37).map (·.size) = some 1 := by kernel_rfl
theorem new_FK {W : World} {B base g n cap : Nat} {ok : Nat → Prop} {A : Option Addr} {c : Nat} {bs : List Int} {xs : List (List Int)} {ce : List Value} (hr : Kd.R (Kd.int .u8) 5 W B (fun _ => True) (.slice A bs.length c) bs) (ho : Kd.N kR 37 W base ok (.slice (some ⟨g, 0, none⟩) n cap) xs) (hcl : ce.length = kR.sz) :
    Kd.FK kR W (fun k => B ≤ k ∧ k ≠ g) bs (ce.take 0 ++ [.slice A bs.length c] ++ ce.drop (0 + [Value.slice A bs.length c].length)) := by
  have e : ce.take 0 ++ [.slice A bs.length c] ++ ce.drop (0 + [Value.slice A bs.length c].length) = [.slice A bs.length c] := by
    rw [List.drop_eq_nil_of_le (by rw [hcl]; exact Nat.le_refl _)]; rfl
  rw [e]
  have h2 := Kd.R_bound (Kd.R_apart' hr (Kd.N_typed ho) (by decide))
  exact Kd.FK_slice_mk (Kd.R_reads' hr).2.1 (Kd.F_mono (Kd.R_F h2) (fun k hk => ⟨hk.2.1, fun e => hk.1.2 (by rw [e]; rfl)⟩))

set_option maxHeartbeats 8000000 in
set_option maxRecDepth 100000 in
theorem with_any (a n : Nat) (han : a + n ≤ 3000) (han0 : 0 < a + n) (f : Int → List Int) (ok : Nat → Prop) (A0 : Option Addr) (c0 : Nat) (N : Nat) (hN : N = a + n) (A : Option Addr) (c : Nat) (l : List PutT) (w : World) (hv : Kd.V kR 37 w w.heap.size ok (.slice A0 N c0) (rowsL f (a + 199 + n) (a : Int)))
    (hl : Kd.C kP w A l.length l) (hm : May ((a + 199 + n : Nat) : Int) (a : Int) l) :
    Calls Try.prog 20 #[.slice A0 N c0, .int .i64 (a : Int), .slice A l.length c] w fun e w' => ∃ v, e = .returned v ∧ Kd.N kR 37 w' w.heap.size (fun k => ok k ∨ w.heap.size ≤ k) v (rowsL (puts f l) (a + 199 + n) (a : Int)) ∧ Below w.heap.size w w' := by
  have HV := Aside0.mk hv
  have HL := Aside0.mk hl
  have HM := Aside0.mk hm
  have HN := Aside0.mk hN
  clear hv hl hm hN
  have hn192 := HM.out.n
  have HF0 := Aside0.mk (Kd.F_bound (Kd.V_F HV.out))
  go_enter Try.func20, Try.ntmps20
  go_wp2_with (first
    | ((with_reducible refine gate_dst (N := 10) rfl ?_); refine Kd.N_lit kR w.heap.size 37 ?hg (N' := 10) ?hd (xs := ([] : List (List Int))) (inner := []) (ok := fun k => ok k ∨ w.heap.size ≤ k) (okp := fun k => ok k ∨ w.heap.size ≤ k) ?hr ?hp (fun _ hk => hk) (.inr (Nat.le_refl _)) (Below.refl _ _) (Nat.le_refl _) (by simp) ?_; (case hd => rfl); (case hg => rfl); (case hr => first | (go_simp; done) | (go_simp; rfl)); (case hp => exact (Reps.none _ _)); intro v0 w0 ho0 hb0 hg0 hat0; have HO0 := Aside0.mk ho0; have HB0 := Aside0.mk hb0; have HA0 := Aside0.mk hat0; clear ho0 hb0 hg0 hat0)
    | ((with_reducible refine gate_dst (N := 12) rfl ?_); refine Kd.N_append_rows kR (w0 := w) w.heap.size rfl (.tmp 10) (.tmp 11) 22 37 (.slice none 0 0) 24 rfl Try.underlying22 infoBs rfl (by decide) (by decide) v0 [] (rowsL f (a + 199 + n) (a : Int)) A0 N c0 (fun k => ok k ∨ w.heap.size ≤ k) (fun k => ok k ∧ k < w.heap.size) rfl rfl HO0.out (Kd.F_below HF0.out HB0.out) (fun k hk => ⟨.inl hk.1, fun e => by obtain ⟨b0, e0, hb0⟩ := HA0.out; rw [e0] at e; injection e with e; have := hk.2; omega⟩) (fun k hk => .inr (by have := HB0.out.size; omega)) HB0.out HB0.out.size (by have := HN.out; simp; omega) ?_; intro v1 w1 ho1 hb1 hg1 hat1; rw [List.nil_append] at ho1; have HO1 := Aside0.mk ho1; have HB1 := Aside0.mk hb1; clear ho1 hb1 hg1 hat1)
    | fail)
  obtain ⟨rows0, hrows⟩ : ∃ r, r = rowsL f (a + 199 + n) (a : Int) := ⟨_, rfl⟩
  rw [← hrows] at HO1
  have HRW := Aside0.mk hrows
  have hrl : rows0.length = a + n := by rw [hrows]; exact rowsL_len f a n
  have HRL := Aside0.mk hrl
  obtain ⟨g7, c7, rfl, hg7, _, _⟩ := Kd.N_form HO1.out (by omega)
  have HG7 := Aside0.mk hg7
  rw [hrl] at HO1 ⊢
  clear hrows hrl hg7 HO0 HB0 HA0 HF0
  go_loopg [8] l.length (fun gq v8 wr => ∃ (i : Nat), v8 = .int .i64 i ∧ i ≤ l.length ∧ Aside0 (gq = l.length - i) ∧ Aside0 (Kd.N kR 37 wr w.heap.size (fun k => ok k ∨ w.heap.size ≤ k) (.slice (some ⟨g7, 0, none⟩) (a + n) c7) (withL (a : Int) (l.take i) rows0)) ∧ Aside0 (Below w.heap.size w wr))
  case atStart => exact ⟨0, rfl, Nat.zero_le _, ⟨rfl⟩, HO1, HB1⟩
  case round =>
    clear HO1 HB1
    obtain ⟨i, rfl, hi, HG, HO, HB⟩ := hrel
    by_cases hlt : i < l.length
    · have hlt' : (i : Int) < (l.length : Int) := by omega
      obtain ⟨ad, Bx, cx, rfl, q0, q1, hcx, hby⟩ := at_P (Kd.C_below HL.out HB.out) i hlt
      have hmx := HM.out.at hlt
      have hsn := withL_snoc (a : Int) l i hlt rows0
      obtain ⟨⟨xb, bs⟩, hx⟩ : ∃ x, x = rdP l i := ⟨_, rfl⟩
      rw [← hx] at q0 q1 hmx hsn hby hcx
      simp only at q0 q1 hmx hsn hby hcx
      have HSN := Aside0.mk hsn
      have HBY := Aside0.mk hby
      obtain ⟨ix, hix⟩ : ∃ ix, ix = rowIx (a : Int) xb := ⟨_, rfl⟩
      have hixb : 0 ≤ ix ∧ ix < (a : Int) + (n : Int) := by rw [hix]; unfold rowIx; split <;> omega
      obtain ⟨hix0, hix1⟩ := hixb
      have HIX := Aside0.mk hix
      have hxb0 : 0 ≤ xb := hmx.2.1
      have hxb1 : xb ≤ 4096 := by omega
      have HB64 := Aside0.mk hmx.2.2.2
      rw [← hix] at HSN
      clear hsn hby hx hmx hix
      go_upto_if 27 with (fail)
      go_cut [9] (fun s9 wx => s9 = .int .i64 ix ∧ wx = wr)
      case first =>
        by_cases hk : xb ≥ (a : Int) + 199
        · have HE := Aside0.mk (show ix = xb - 199 by rw [HIX.out]; unfold rowIx; rw [if_pos hk])
          go_wp2
          go_meet
          case rel => exact ⟨by rw [HE.out], rfl⟩
        · have HE := Aside0.mk (show ix = xb by rw [HIX.out]; unfold rowIx; rw [if_neg hk])
          go_wp2
          go_meet
          case rel => exact ⟨by rw [HE.out], rfl⟩
      obtain ⟨rfl, rfl⟩ := hcut
      go_wp2_with (first
        | ((with_reducible refine gate_dst (N := 32) rfl ?_); refine Kd.R_lit (Kd.int .u8) wc.heap.size 5 ?hg (N := 32) ?hd (xs := ([] : List Int)) (inner := []) (ok := fun _ => True) (okp := fun _ => True) ?hr ?hp (fun _ hk => hk) trivial (Below.refl _ _) (Nat.le_refl _) (by simp) ?_; (case hd => rfl); (case hg => rfl); (case hr => first | (go_simp; done) | (go_simp; rfl)); (case hp => exact (Reps.none _ _)); intro v2 w2 ho2 hb2 hg2 hat2; have R2 := Aside0.mk ho2; have B2 := Aside0.mk hb2; clear ho2 hb2 hg2 hat2; have e1 := (B2.out.cell (World.block_lt_of_cell? wc _ q1)).trans q1)
        | ((with_reducible refine gate_dst (N := 38) rfl ?_); refine Kd.R_append_row (Value.int .u8) 0 (w0 := wc) wc.heap.size rfl (.tmp 32) (.tmp 37) 37 5 (.int .u8 0) 1 rfl Try.underlying37 infoU8 rfl (by decide) v2 [] bs Bx bs.length cx (fun _ => True) rfl rfl (fun _ _ => trivial) R2.out (HBY.out.below B2.out).to_C B2.out B2.out.size (by rw [HB64.out]; simp) ?_; intro v3 w3 ho3 hb3 hg3 hat3; rw [List.nil_append] at ho3; obtain ⟨A3, c3, rfl⟩ := Kd.R_slice ho3; have R3 := Aside0.mk ho3; have B3 := Aside0.mk hb3; have O3 := Aside0.mk (Kd.N_below HO.out hb3); clear ho3 hb3 hg3 hat3)
        | ((with_reducible refine gate_store (t := 37) (p := 39) rfl ?_); obtain ⟨ce, hcl, _, hcc, _⟩ := Kd.N_elem O3.out [] ix hix0 (by omega); refine Kd.N_store kR (w0 := w) w.heap.size rfl rfl 37 (.tmp 39) (.tmp 38) rfl 37 (g := g7) (n := a + n) (cap := c7) (o' := ix.toNat) ix 0 (withL (a : Int) (l.take i) rows0) bs (.slice A3 bs.length c3) [.slice A3 bs.length c3] ce (fun k => ok k ∨ w.heap.size ≤ k) (fun k => wc.heap.size ≤ k ∧ k ≠ g7) rfl (by show ix.toNat = ix.toNat * 1 + 0; omega) rfl rfl infoBss (fun q hq => by rw [List.mem_singleton.1 hq]; rfl) O3.out hix0 (by omega) hcl hcc (show 1 ≤ 1 from Nat.le_refl 1) (new_FK R3.out O3.out hcl) (fun k hk => ⟨.inr (Nat.le_trans HB.out.size hk.1), hk.2⟩) (below_step HB.out B3.out) ?_; intro w4 ho4 hb4 hg4; have HB4 := Aside0.mk hb4; rw [← HSN.out] at ho4; have HO4 := Aside0.mk ho4; clear ho4 hb4 hg4)
        | fail)
      go_roundg (l.length - (i + 1))
      case measure => have := HG.out; omega
      case rel => exact ⟨i + 1, by go_num, by omega, ⟨rfl⟩, HO4, HB4⟩
    · have hil : i = l.length := by omega
      subst hil
      rw [List.take_length] at HO
      have HEQ := Aside0.mk (with_rows a n l f (fun x hx => HM.out.all x hx))
      rw [HRW.out, HEQ.out] at HO
      go_wp2
      go_ret
      exact ⟨_, rfl, HO.out, HB.out⟩
end Go.Proofs.Ytmfndobdkihbnaa.Dk
