/-
  The given program's disk: Write.
-/
import Derived.Test.YtmfndobdkihbnaaDc
import Derived.Deep.DeepCutAuto
import Derived.Laws.Cover3
namespace Go.Proofs.Ytmfndobdkihbnaa.Dk
open Go.RowKit Go.Proofs.YtmfndobdkihbnaaW.PrintWords Go.Proofs.YtmfndobdkihbnaaW.PrintLast Go.Proofs.YtmfndobdkihbnaaW.PrintMore
set_option linter.unusedVariables false
set_option linter.unusedSimpArgs false

/-- The bytes from address ad on. -/
def Bytes (W : World) (ad : Addr) (bs : List Int) : Prop := ∀ j v, bs[j]? = some v → W.cell? (ad.add j) = some (.int .u8 v)
/-- A slice of bytes: its cells lie in a block that is not of S. -/
def BytesAt (W : World) (A : Option Addr) (bs : List Int) : Prop := bs.length ≤ 9223372036854775807 ∧ (0 < bs.length → ∃ ad, A = some ad ∧ Bytes W ad bs)
theorem add_block (ad : Addr) (j : Nat) : (ad.add j).block = ad.block := by unfold Addr.add; split <;> rfl
theorem BytesAt.of_C {W : World} {A : Option Addr} {bs : List Int} (h : Kd.C (Kd.int .u8) W A bs.length bs) : BytesAt W A bs := by
  refine ⟨h.2.1, fun hp => ?_⟩
  obtain ⟨ad, e, hc⟩ := h.2.2 hp
  refine ⟨ad, e, fun j v hj => ?_⟩
  obtain ⟨c, _, hK, hcell⟩ := hc j v hj
  have hK' : c = [.int .u8 v] := hK
  subst hK'
  have := hcell 0 (.int .u8 v) rfl
  rw [show (Kd.int .u8).sz = 1 from rfl] at this
  simpa using this
theorem BytesAt.to_C {W : World} {A : Option Addr} {bs : List Int} (h : BytesAt W A bs) : Kd.C (Kd.int .u8) W A bs.length bs := by
  refine ⟨rfl, h.1, fun hp => ?_⟩
  obtain ⟨ad, e, hc⟩ := h.2 hp
  refine ⟨ad, e, fun j v hj => ⟨[.int .u8 v], rfl, rfl, fun i u hu => ?_⟩⟩
  rcases i with _ | i
  · simp at hu; subst hu
    have := hc j v hj
    rw [show (Kd.int .u8).sz = 1 from rfl]
    simpa using this
  · simp at hu
theorem Bytes.step {W W' : World} {ad : Addr} {bs : List Int} (h : Bytes W ad bs) (hb : W'.heap[ad.block]? = W.heap[ad.block]?) : Bytes W' ad bs := fun j v hj => by
  rw [World.cell?_of_block (w := W) (w' := W') (a := ad.add j) (by rw [add_block]; exact hb)]
  exact h j v hj
theorem Bytes.lt {W : World} {ad : Addr} {bs : List Int} (h : Bytes W ad bs) (hp : 0 < bs.length) : ad.block < W.heap.size := by
  have := h 0 _ (List.getElem?_eq_getElem hp)
  rcases Nat.lt_or_ge ad.block W.heap.size with h' | h'
  · exact h'
  · exfalso
    have e : (ad.add 0).block = ad.block := add_block ad 0
    simp [World.cell?, e, h'] at this
theorem BytesAt.fr {W W' : World} {A : Option Addr} {bs : List Int} {S : Nat → Prop} (h : BytesAt W A bs) (hf : Fr S W W') (hA : ∀ ad, A = some ad → ¬ S ad.block) : BytesAt W' A bs :=
  ⟨h.1, fun hp => by
    obtain ⟨ad, e, hB⟩ := h.2 hp
    exact ⟨ad, e, hB.step (hf.block _ (hB.lt hp) (hA ad e))⟩⟩
theorem BytesAt.below {W W' : World} {A : Option Addr} {bs : List Int} (h : BytesAt W A bs) (hf : Below W.heap.size W W') : BytesAt W' A bs := h.fr (Fr.of_below (S := fun _ => False) hf) (fun _ _ hk => hk)
/-- A whole array out of a slice's cells. -/
theorem run_load_bytes {P : Program} {t e : TypeId} {n : Nat} {W : World} {ad : Addr} {bs : List Int} (hu : P.underlying t = some (.array n e)) (hi : (P.info? t).map (·.size) = some bs.length) (h : Bytes W ad bs) : (loadVar t ad).run P W = .ok (.agg (blkc bs)) W := by
  have hl : (loadCells ad (bs.map (Value.int .u8)).length).run P W = .ok (blkc bs) W :=
    run_loadCells_list (P := P) W ad (bs.map (Value.int .u8)) (fun j v hv => by
      rw [List.getElem?_map] at hv
      obtain ⟨x, hx, rfl⟩ := Option.map_eq_some_iff.1 hv
      exact h j x hx)
  rw [List.length_map] at hl
  cases hq : P.info? t with
  | none => simp [hq] at hi
  | some i =>
    have hs : i.size = bs.length := by simpa [hq] using hi
    have hagg : (isAgg t).run P W = .ok true W := by
      unfold isAgg
      rw [Sem.run_bind, run_underlying hu W]
      simp
    simp [loadVar, Sem.run_bind, hagg, sizeOf, typeInfo, hq, hs, hl]

theorem exec_arrayAt {P : Program} {ρ : Operand → Value} {o : Oper} {t : TypeId} {x : Operand} {v r : Value} {w : World} (ho : o.op = .sliceToArrayPointer t x) (hx : ρ x = v) (h : (Instr.arrayAt t v).run P w = .ok r w) : (execOp ρ o).run P w = .ok (.value r) w := by
  unfold execOp; simp [ho, hx, h, Result.andThen]
theorem exec_load {P : Program} {ρ : Operand → Value} {o : Oper} {t : TypeId} {x : Operand} {ad : Addr} {r : Value} {w : World} (ho : o.op = .load t x) (hx : ρ x = .pointer (some ad)) (h : (loadVar t ad).run P w = .ok r w) : (execOp ρ o).run P w = .ok (.value r) w := by
  unfold execOp
  simp only [ho, hx, Instr.loadAt, Instr.sureAddr, Sem.run_bind, Sem.run_pure, Result.andThen_ok, h]
theorem exec_mapUpdate {P : Program} {ρ : Operand → Value} {o : Oper} {t : TypeId} {m k x : Operand} {vm vk vx : Value} {w w' : World} (ho : o.op = .mapUpdate t m k x) (hm : ρ m = vm) (hk : ρ k = vk) (hx : ρ x = vx) (h : (Instr.mapUpdate t vm vk vx).run P w = .ok () w') : (execOp ρ o).run P w = .ok .skip w' := by
  unfold execOp
  simp [ho, hm, hk, hx, h, Result.andThen]

/-- What a write makes of a disk, and what it answers. -/
def FS.write (s : FS) (i : Int) (bs : List Int) : FS × Int :=
  if s.check i = 0 then
    if bs.length = 64 then
      if s.fuse = 0 then ({ s with off := true, fuse := -1 }, 2)
      else ({ s with has := upd s.has i bs, fuse := if 0 < s.fuse then wrap64 (s.fuse - 1) else s.fuse, writes := wrap64 (s.writes + 1) }, 0)
    else (s, 11)
  else (s, s.check i)

set_option maxHeartbeats 3200000 in
set_option maxRecDepth 100000 in
theorem write_any (b m : Nat) (s : FS) (i : Int) (A : Option Addr) (c : Nat) (bs : List Int) (w : World) (h : DiskIs w b m s) (hB : BytesAt w A bs) (hA : ∀ ad, A = some ad → ad.block ≠ b) :
    Calls Try.prog 27 #[.pointer (some ⟨b, 0, none⟩), .int .i64 i, .slice A bs.length c] w fun e w' => e = .returned (.int .i64 (s.write i bs).2) ∧ DiskIs w' b m (s.write i bs).1 ∧ Fr (fun k => k = b ∨ k = m) w w' := by
  have H := Aside0.mk h
  have c3 := h.c3
  have f2 := h.f2
  have f3 := h.f3
  have c2 := h.c2
  clear h
  go_enter Try.func27, Try.ntmps27
  go_wp2_with fail
  refine (check_any b m s i w H.out).mono ?_
  rintro e w1 ⟨rfl, rfl⟩
  by_cases hc : s.check i = 0
  case neg =>
    have hc' : (s.check i != 0) = true := by simpa using hc
    have hw : s.write i bs = (s, s.check i) := by unfold FS.write; rw [if_neg hc]
    clear c2 c3 f2 f3
    have HW := Aside0.mk hw
    clear hw
    go_wp2
    go_ret
    rw [HW.out]
    exact ⟨rfl, H.out, Fr.refl _ _⟩
  rw [hc]
  by_cases hl : bs.length = 64
  case neg =>
    have hl' : ((bs.length : Int) != 64) = true := by simp; omega
    have hw : s.write i bs = (s, 11) := by unfold FS.write; rw [if_pos hc, if_neg hl]
    clear c2 c3 f2 f3
    have HW := Aside0.mk hw
    clear hw hl
    go_wp2
    go_ret
    rw [HW.out]
    exact ⟨rfl, H.out, Fr.refl _ _⟩
  have hl' : (bs.length : Int) = 64 := by omega
  have HLEN := Aside0.mk hl
  by_cases hf0 : s.fuse = 0
  · have hf0' : (s.fuse == 0) = true := by simpa using hf0
    have hw : s.write i bs = ({ s with off := true, fuse := -1 }, 2) := by unfold FS.write; rw [if_pos hc, if_pos hl, if_pos hf0]
    have HW := Aside0.mk hw
    clear hw hl hf0
    go_wp2
    go_ret
    rw [HW.out]
    have h1 := H.out.set (s' := { s with off := true }) 2 (.bool true) (by omega) rfl rfl
    exact ⟨rfl, h1.set 3 (.int .i64 (-1)) (by omega) rfl rfl, Fr.cell (S := fun k => k = b ∨ k = m) (Fr.cell (S := fun k => k = b ∨ k = m) (Fr.refl _ _) b 2 (.inl rfl) _) b 3 (.inl rfl) _⟩
  have hf0' : (s.fuse == 0) = false := by simpa using hf0
  have HW := Aside0.mk (show s.write i bs = _ from by unfold FS.write; rw [if_pos hc, if_pos hl, if_neg hf0])
  clear hl hf0 hc
  go_upto_if 32 with (fail)
  go_cut [] (fun wx => Aside0 (DiskIs wx b m { s with fuse := if 0 < s.fuse then wrap64 (s.fuse - 1) else s.fuse }) ∧ Aside0 (Fr (fun k => k = b ∨ k = m) w1 wx))
  case first =>
    by_cases hp : 0 < s.fuse
    · go_wp2
      go_meet
      case rel =>
        refine ⟨⟨?_⟩, ⟨Fr.cell (S := fun k => k = b ∨ k = m) (Fr.refl _ _) b 3 (.inl rfl) _⟩⟩
        rw [if_pos hp]
        exact H.out.set 3 _ (by omega) rfl rfl
    · go_wp2
      go_meet
      case rel =>
        refine ⟨⟨?_⟩, ⟨Fr.refl _ _⟩⟩
        rw [if_neg (by omega)]
        exact H.out
  obtain ⟨HD, HF⟩ := hcut
  clear c2 c3 f2 f3
  go_upto_region 11 with (fail)
  obtain ⟨s2, hs2⟩ : ∃ s2 : FS, s2 = { s with fuse := if 0 < s.fuse then wrap64 (s.fuse - 1) else s.fuse } := ⟨_, rfl⟩
  rw [← hs2] at HD
  have HB := Aside0.mk (hB.fr HF.out (fun ad e hk => hk.elim (hA ad e) (fun e2 => by
    obtain ⟨_, ⟨es, clock, h2, _⟩, _⟩ := H.out
    obtain ⟨ad', e', hb'⟩ := hB.2 (by omega)
    rw [e] at e'; cases e'
    have := hb' 0 _ (List.getElem?_eq_getElem (by omega))
    simp [World.cell?, add_block, e2, h2] at this)))
  obtain ⟨ad, rfl, hBy⟩ := HB.out.2 (by omega)
  have hat : ∀ w, (Instr.arrayAt 73 (.slice (some ad) bs.length c)).run Try.prog w = .ok (.pointer (some ad)) w := fun w => run_arrayAt w 73 _ 64 _ bs.length c Try.underlying73 (by omega)
  have d1 := HD.out.c1
  have hld : ∀ w', Bytes w' ad bs → (loadVar 73 ad).run Try.prog w' = .ok (.agg (blkc bs)) w' := fun w' hb => run_load_bytes Try.underlying73 (by rw [HLEN.out]; exact size_blk) hb
  have HDD : DiskIs wc.drew b m s2 := HD.out.step rfl rfl
  obtain ⟨w9, hrun, hm9, hg9⟩ := HDD.2.1.update (P := Try.prog) (t := 61) Try.underlying61 Try.underlying3 i bs
  refine start_ (n := 9) (S := fun w' => w'.cell? ⟨b, 1, none⟩ = some (.map (some m)) ∧ Bytes w' ad bs) (ds := [8]) #[false, false, false, false, false, false, false, false, false] (by kernel_rfl) rfl rfl ⟨d1, hBy⟩ (fun hHeld => ?_)
  refine pure_ (i := 0) (N := some 40) (v := ?_) (a' := ?_) #[true, false, false, false, false, false, false, false, false] rfl rfl (by kernel_rfl) (fun _ _ _ h => h) (Or.inl ⟨by rfl, ?_⟩) ?_ ?_
  rotate_left
  · intro w'
    go_simp
    with_reducible rfl
  rotate_left
  · simp only [Act.put, List.setIfInBounds_toArray, List.set_cons_zero, List.set_cons_succ, i64_w, i32_w]
    rfl
  refine pure_ (i := 1) (N := some 41) (v := ?_) (a' := ?_) #[true, true, false, false, false, false, false, false, false] rfl rfl (by kernel_rfl) (fun _ _ _ h => h) (Or.inl ⟨by rfl, ?_⟩) ?_ ?_
  rotate_left
  · intro w'
    go_simp
    with_reducible rfl
  rotate_left
  · simp only [Act.put, List.setIfInBounds_toArray, List.set_cons_zero, List.set_cons_succ, i64_w, i32_w]
    rfl
  refine pure_ (i := 2) (N := some 42) (v := ?_) (a' := ?_) #[true, true, true, false, false, false, false, false, false] rfl rfl (by kernel_rfl) (fun _ _ _ h => h) (Or.inl ⟨by rfl, ?_⟩) ?_ ?_
  rotate_left
  · intro w'
    go_simp
    with_reducible rfl
  rotate_left
  · simp only [Act.put, List.setIfInBounds_toArray, List.set_cons_zero, List.set_cons_succ, i64_w, i32_w]
    rfl
  refine pure_ (i := 4) (N := some 44) (v := ?_) (a' := ?_) #[true, true, true, false, true, false, false, false, false] rfl rfl (by kernel_rfl) (fun _ _ _ h => h) (Or.inl ⟨by rfl, ?_⟩) ?_ ?_
  rotate_left
  · intro w'
    go_simp
    with_reducible rfl
  rotate_left
  · simp only [Act.put, List.setIfInBounds_toArray, List.set_cons_zero, List.set_cons_succ, i64_w, i32_w]
    rfl
  refine pure_ (i := 5) (N := some 45) (v := ?_) (a' := ?_) #[true, true, true, false, true, true, false, false, false] rfl rfl (by kernel_rfl) (fun _ _ _ h => h) (Or.inl ⟨by rfl, ?_⟩) ?_ ?_
  rotate_left
  · intro w'
    go_simp
    with_reducible rfl
  rotate_left
  · simp only [Act.put, List.setIfInBounds_toArray, List.set_cons_zero, List.set_cons_succ, i64_w, i32_w]
    rfl
  refine pure_ (i := 6) (N := some 46) (v := ?_) (a' := ?_) #[true, true, true, false, true, true, true, false, false] rfl rfl (by kernel_rfl) (fun _ _ _ h => h) (Or.inl ⟨by rfl, ?_⟩) ?_ ?_
  rotate_left
  · intro w'
    refine exec_arrayAt (x := .tmp 45) (v := .slice (some ad) bs.length c) (r := .pointer (some ad)) ?_ ?_ (hat w')
    · rfl
    · rfl
  rotate_left
  · simp only [Act.put, List.setIfInBounds_toArray, List.set_cons_zero, List.set_cons_succ, i64_w, i32_w]
    rfl
  refine take_ (i := 3) (N := some 43) (v := ?_) (a' := ?_) #[true, true, true, true, true, true, true, false, false] rfl rfl (by kernel_rfl) (fun _ _ _ h => h) (Or.inl ⟨by rfl, ?_⟩) hHeld ?_ ?_
  rotate_left
  · rintro w' ⟨s0, s1⟩
    go_simp
    with_reducible rfl
  rotate_left
  · simp only [Act.put, List.setIfInBounds_toArray, List.set_cons_zero, List.set_cons_succ, i64_w, i32_w]
    rfl
  refine take_ (i := 7) (N := some 47) (v := ?_) (a' := ?_) #[true, true, true, true, true, true, true, true, false] rfl rfl (by kernel_rfl) (fun _ _ _ h => h) (Or.inl ⟨by rfl, ?_⟩) hHeld ?_ ?_
  rotate_left
  · rintro w' ⟨s0, s1⟩
    refine exec_load (x := .tmp 46) (ad := ad) (r := .agg (blkc bs)) ?_ ?_ (hld w' s1)
    · rfl
    · rfl
  rotate_left
  · simp only [Act.put, List.setIfInBounds_toArray, List.set_cons_zero, List.set_cons_succ, i64_w, i32_w]
    rfl
  refine last_ (i := 8) (N := none) #[true, true, true, true, true, true, true, true, true] rfl rfl (by kernel_rfl) (by decide) (fun K hK => ?_)
  refine skip_ (w1 := w9) (by rfl) rfl (exec_mapUpdate (m := .tmp 43) (k := .tmp 44) (x := .tmp 47) (vm := .map (some m)) (vk := .int .i64 i) (vx := .agg (blkc bs)) (by rfl) (by rfl) (by rfl) (by rfl) hrun) ?_
  refine hK.out _ _ ?_
  clear hK K
  refine done_ (by kernel_rfl) ?_
  have HD9 : DiskIs w9 b m { s2 with has := upd s2.has i bs } := ⟨(hg9.block b HDD.lt (fun e => HDD.ne (Option.some.inj e).symm)).trans HDD.1, hm9, fun k => by
    show (upd s2.has i bs k).length = 64
    unfold upd
    split
    · exact HLEN.out
    · exact HDD.2.2 k⟩
  have HF9 : Fr (fun k => k = b ∨ k = m) w1 w9 := HF.out.drew.trans (Fr.mono (S' := fun k => k = b ∨ k = m) (Fr.of_grown hg9) (fun k e => Or.inr (Option.some.inj e).symm))
  have HD9' := Aside0.mk HD9
  have HF9' := Aside0.mk HF9
  have e4 := HD9.c4
  have g4 := HD9.f4
  have HS2 := Aside0.mk hs2
  clear HD9 HF9 hrun hm9 hg9 HDD hld hat d1 hBy hB hs2
  go_wp2
  go_ret
  rw [HW.out]
  refine ⟨rfl, ?_, Fr.cell (S := fun k => k = b ∨ k = m) HF9'.out b 4 (.inl rfl) _⟩
  have := HD9'.out.set (s' := { s2 with has := upd s2.has i bs, writes := wrap64 (s2.writes + 1) }) 4 (.int .i64 (wrap64 (s2.writes + 1))) (by omega) rfl rfl
  rw [HS2.out] at this ⊢
  exact this
end Go.Proofs.Ytmfndobdkihbnaa.Dk
