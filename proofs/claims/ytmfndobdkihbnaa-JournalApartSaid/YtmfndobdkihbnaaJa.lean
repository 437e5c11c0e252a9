/-
  A journal's head: its bytes, and the walk of head.
-/
import Derived.Test.YtmfndobdkihbnaaDq
import Derived.Lib.LazyBuf
namespace Go.Proofs.Ytmfndobdkihbnaa.Dk
open Go.RowKit Go.MapKept Go.Proofs.YtmfndobdkihbnaaW.PrintWords Go.Proofs.YtmfndobdkihbnaaW.PrintLast Go.Proofs.YtmfndobdkihbnaaW.PrintMore
set_option linter.unusedVariables false
set_option linter.unusedSimpArgs false

theorem Row.setCells {q m k base : Nat} : ∀ (ys : List Int) (o : Nat) {W : World} {bs : List Int}, Row W q m k base bs → o + ys.length ≤ m → Row (W.setCells q o (ys.map (Value.int .u8))) q m k base (bs.take o ++ ys ++ bs.drop (o + ys.length))
  | [], o, W, bs, h, _ => by simpa [World.setCells] using h
  | y :: r, o, W, bs, h, hl => by
    have h1 := h.put (o : Int) y
    rw [Int.toNat_natCast] at h1
    have hol : o < bs.length := by rw [h.len]; simp at hl; omega
    have h2 := Row.setCells r (o + 1) h1 (by simp at hl; omega)
    rw [List.map_cons, World.setCells]
    have e : (bs.set o y).take (o + 1) ++ r ++ (bs.set o y).drop (o + 1 + r.length) = bs.take o ++ (y :: r) ++ bs.drop (o + (y :: r).length) := by
      rw [List.drop_set_of_lt (by omega), List.take_add_one, List.take_set_of_le (by omega), List.getElem?_set_self (by omega)]
      simp [Nat.add_assoc, Nat.add_comm 1]
    rw [e] at h2
    exact h2
theorem Below.setCells {B : Nat} {a : World} {q : Nat} (hq : B ≤ q) : ∀ (vs : List Value) (o : Nat) {W : World}, Below B a W → Below B a (W.setCells q o vs)
  | [], _, _, h => h
  | v :: r, o, W, h => by
    rw [World.setCells]
    exact Below.setCells hq r (o + 1) (h.setCell hq v)
theorem wpList_copyStr {ops : Array Oper} {rest : List Oper} {o : Oper} {a : Act} {W : World} {Q : Exit → Act → World → Prop} (hgd : o.guard = none) (dst : Option Tmp) (hd : o.dst = dst) (s x : Operand) (t t' : TypeId)
    (ho : o.op = .call { callee := .builtin .copy, args := #[s, x], argTypes := #[t, t'] }) (ht : Try.prog.underlying t = some (.slice 5)) {q m k base : Nat} {bs : List Int} (str : ByteArray)
    (hs : a.eval s = .slice (some ⟨q, 0, none⟩) m k) (hx : a.eval x = .string str) (hr : Row W q m k base bs) (hle : str.size ≤ m)
    (h : wpList Try.prog ops Q rest (a.put dst (.int .i64 (str.size : Int))) (W.setCells q 0 ((bytesOf str).map (Value.int .u8)))) : wpList Try.prog ops Q (o :: rest) a W := by
  subst hd
  have hz : ∀ w, (Go.sizeOf 5).run Try.prog w = .ok 1 w := by
    intro w
    obtain ⟨i, h1, h2⟩ := Option.map_eq_some_iff.1 infoU8s
    simp [sizeOf, typeInfo, h1, h2]
  have hrun := run_copy_string (P := Try.prog) W t t' o.type 5 q 0 m k str ht hz hle (fun j hj => by rw [Nat.zero_add, (hr.cell j (by omega)).1]; rfl) (fun j hj => by rw [Nat.zero_add]; exact (hr.cell j (by omega)).2)
  have e : (bytesOf str).map (Value.int .u8) = str.data.toList.map fun x => Value.int .u8 (x.toNat : Int) := by simp [bytesOf]
  rw [e] at h
  refine wpList_plain hgd fun K hK => ?_
  unfold Oper.wp execOp
  simp only [ho, resolve, invoke, builtin, Sem.run_bind, Sem.run_pure, Result.andThen_ok, List.map_toArray, List.map_cons, List.map_nil, hs, hx, hrun]
  exact hK _ _ h

def markB : List Int := [106, 111, 117, 114, 110, 97, 108, 58]
def gB (g : Int) (i : Nat) : Int := g / 2 ^ (56 - 8 * i) % 256
def headI (g : Int) (i : Nat) : List Int := markB ++ ((List.range i).map (gB g) ++ List.replicate (56 - i) 0)
/-- A head's bytes. -/
def headB (g h : Int) : List Int := markB ++ ((List.range 8).map (gB g) ++ ((h % 256) :: List.replicate 47 0))
theorem headB_len (g h : Int) : (headB g h).length = 64 := by simp [headB, markB]
theorem headI_step (g : Int) (i : Nat) (hi : i < 8) : (headI g i).set (8 + i) (gB g i) = headI g (i + 1) := by
  unfold headI
  rw [List.set_append, if_neg (by simp [markB]), show 8 + i - markB.length = i from by simp [markB], List.set_append, if_neg (by simp), List.length_map, List.length_range, Nat.sub_self, show 56 - i = (56 - (i + 1)) + 1 from by omega, List.replicate_succ, List.set_cons_zero, List.range_succ, List.map_append, List.append_assoc]
  rfl
theorem headI_last (g h : Int) : (headI g 8).set 16 (h % 256) = headB g h := by
  unfold headI headB
  rw [List.set_append, if_neg (by simp [markB]), show 16 - markB.length = 8 from by simp [markB], List.set_append, if_neg (by simp), List.length_map, List.length_range, Nat.sub_self, show 56 - 8 = 47 + 1 from rfl, List.replicate_succ, List.set_cons_zero]

set_option maxHeartbeats 4000000 in
set_option maxRecDepth 100000 in
theorem head_any (g h : Int) (w : World) :
    Calls Try.prog 28 #[.int .i64 g, .int .i64 h] w fun e w' => ∃ q k, e = .returned (.slice (some ⟨q, 0, none⟩) 64 k) ∧ w.heap.size ≤ q ∧ Row w' q 64 k w.heap.size (headB g h) ∧ Below w.heap.size w w' := by
  go_enter Try.func28, Try.ntmps28
  go_wp2_with (first
    | ((with_reducible refine gate_dst (N := 8) rfl ?_); refine Kd.R_make (Kd.int .u8) w.heap.size 5 rfl (N := 8) rfl 37 _ _ rfl 64 rfl rfl Try.underlying37 (.int .u8 0) 1 infoU8 rfl (by decide) (by omega) 0 (ok := fun _ => True) (okp := fun _ => True) rfl (fun _ hk => hk) trivial (by omega) (by omega) (Below.refl _ _) (Nat.le_refl _) ?_; intro v8 w1 ho hb hg hnew; obtain ⟨q, hv, hq⟩ := hnew; obtain ⟨kq, e8, hrow⟩ := Row.of_R ho hv; rw [List.length_replicate] at e8 hrow; subst e8; have RW := Aside0.mk hrow; have HB := Aside0.mk hb; have HQ := Aside0.mk hq; clear ho hb hg hv hq hrow)
    | ((with_reducible refine gate_dst (N := 10) rfl ?_); refine wpList_copyStr rfl (some 10) rfl (.tmp 9) (.const (.string ⟨#[106, 111, 117, 114, 110, 97, 108, 58]⟩)) 37 9 rfl Try.underlying37 ⟨#[106, 111, 117, 114, 110, 97, 108, 58]⟩ rfl rfl RW.out (by decide) ?_)
    | fail)
  have R2 := Aside0.mk (Row.setCells (bytesOf ⟨#[106, 111, 117, 114, 110, 97, 108, 58]⟩) 0 RW.out (by decide))
  have HB2 := Aside0.mk (Below.setCells (q := q) HQ.out ((bytesOf ⟨#[106, 111, 117, 114, 110, 97, 108, 58]⟩).map (Value.int .u8)) 0 HB.out)
  have hst : (List.replicate 64 (0 : Int)).take 0 ++ bytesOf ⟨#[106, 111, 117, 114, 110, 97, 108, 58]⟩ ++ (List.replicate 64 (0 : Int)).drop (0 + (bytesOf ⟨#[106, 111, 117, 114, 110, 97, 108, 58]⟩).length) = headI g 0 := by rfl
  have R3 := Aside0.mk (hst ▸ R2.out)
  clear hst R2
  go_loopg [7, 11] 8 (fun gq v7 v11 wr => ∃ (i : Nat), v11 = .int .i64 i ∧ i ≤ 8 ∧ Aside0 (gq = 8 - i) ∧ Aside0 (Row wr q 64 kq w.heap.size (headI g i)) ∧ Aside0 (Below w.heap.size w wr))
  case atStart => exact ⟨0, rfl, by omega, ⟨rfl⟩, R3, HB2⟩
  case round =>
    clear R3 HB2
    obtain ⟨i, rfl, hi, HG, HR, HBR⟩ := hrel
    by_cases hlt : i < 8
    · have hlt' : (i : Int) < 8 := by omega
      obtain ⟨e1, e2⟩ := HR.out.cell (8 + i) (by omega)
      go_wp2
      go_roundg (8 - (i + 1))
      case measure => have := HG.out; omega
      case rel =>
        have h1 := HR.out.put ((8 + i : Nat) : Int) (gB g i)
        rw [Int.toNat_natCast, headI_step g i hlt] at h1
        exact ⟨i + 1, by go_num, by omega, ⟨rfl⟩, ⟨h1⟩, ⟨HBR.out.setCell HQ.out _⟩⟩
    · have hi8 : i = 8 := by omega
      subst hi8
      obtain ⟨e1, e2⟩ := HR.out.cell 16 (by omega)
      go_wp2
      go_ret
      have h1 := HR.out.put ((16 : Nat) : Int) (h % 256)
      rw [Int.toNat_natCast, headI_last g h] at h1
      exact ⟨q, kq, rfl, HQ.out, h1, HBR.out.setCell HQ.out _⟩
end Go.Proofs.Ytmfndobdkihbnaa.Dk
