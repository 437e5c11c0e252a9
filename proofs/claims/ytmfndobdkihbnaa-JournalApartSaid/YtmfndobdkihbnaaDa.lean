/-
  A map from numbers to blocks of 64 bytes: what it answers, and what a store makes of it; frames.
-/
import Derived.MapKept
import Derived.Below
import Derived.Test.YtmfndobdkihbnaaWWords
import Derived.Test.YtmfndobdkihbnaaWMore
namespace Go.Proofs.Ytmfndobdkihbnaa.Dk
open Go.RowKit Go.MapKept Go.Proofs.YtmfndobdkihbnaaW.PrintWords
set_option linter.unusedVariables false

/-- A block's value. -/
def blkc (bs : List Int) : Array Value := (bs.map (Value.int .u8)).toArray
abbrev blk (bs : List Int) : Value := .agg (blkc bs)
theorem blkc_size (bs : List Int) : (blkc bs).size = bs.length := by simp [blkc]
theorem blkc_one (bs : List Int) : (blkc bs).all (·.oneCell') = true := by
  rw [Array.all_eq_true_iff_forall_mem]
  intro v hv
  simp only [blkc, List.mem_toArray, List.mem_map] at hv
  obtain ⟨x, _, rfl⟩ := hv
  rfl
def zeros : List Int := List.replicate 64 0

/-- Block m is a map from numbers to blocks; f: what it answers, noughts where there is none. -/
def MapIs (W : World) (m : Nat) (f : Int → List Int) : Prop :=
  ∃ es clock, W.heap[m]? = some (.map es clock) ∧ Stamped es clock ∧ (∀ e ∈ es.toList, ∃ k, e.key = .int .i64 k ∧ e.val = blk (f k)) ∧ ∀ k : Int, (∀ e ∈ es.toList, e.key ≠ .int .i64 k) → f k = zeros
def upd (f : Int → List Int) (i : Int) (bs : List Int) : Int → List Int := fun k => if k = i then bs else f k

theorem MapIs.lt {W : World} {m : Nat} {f : Int → List Int} (h : MapIs W m f) : m < W.heap.size := by
  obtain ⟨es, clock, hb, _⟩ := h
  rcases Nat.lt_or_ge m W.heap.size with h | h
  · exact h
  · simp [h] at hb
theorem MapIs.step {W W' : World} {m : Nat} {f : Int → List Int} (h : MapIs W m f) (hb : W'.heap[m]? = W.heap[m]?) : MapIs W' m f := by
  obtain ⟨es, clock, h1, h2⟩ := h
  exact ⟨es, clock, hb.trans h1, h2⟩
theorem MapIs.keys {es : Array MapEntry} {f : Int → List Int} (h : ∀ e ∈ es.toList, ∃ k, e.key = .int .i64 k ∧ e.val = blk (f k)) : ∀ x ∈ es.toList, IsKey (.int .i64) x.key := fun x hx => by
  obtain ⟨k, hk, _⟩ := h x hx
  rw [hk]; exact rfl
theorem MapIs.empty (W : World) (clock : Nat) : MapIs (W.alloc (.map #[] clock)) W.heap.size (fun _ => zeros) :=
  ⟨#[], clock, (heap_alloc W _).1, stamped_empty _, by simp, fun _ _ => rfl⟩

theorem MapIs.lookup {P : Program} {t kt et : TypeId} (ht : P.underlying t = some (.map kt et)) (hk : P.underlying kt = some (.int .i64)) (hz : ∀ w, (zeroValue et).run P w = .ok (blk zeros) w)
    {W : World} {m : Nat} {f : Int → List Int} (h : MapIs W m f) (i : Int) : (Instr.lookup t (.map (some m)) (.int .i64 i) false).run P W = .ok (blk (f i)) W := by
  obtain ⟨es, clock, hb, hs, he, h0⟩ := h
  have hki : IsKey (.int .i64) (.int .i64 i) := rfl
  rcases findNow_spec hki es.toList 0 (MapIs.keys he) with ⟨h1, h2⟩ | ⟨j, e, h1, h2, h3⟩
  · simp [Instr.lookup, run_underlying ht, MapKept.run_getObj_map hb, run_checkKey hk hki, run_findKey hk h1, hz, Result.andThen, h0 i h2]
  · obtain ⟨k, hk1, hv⟩ := he e (List.mem_of_getElem? h2)
    rw [h3] at hk1
    injection hk1 with _ e1
    subst e1
    simp [Instr.lookup, run_underlying ht, MapKept.run_getObj_map hb, run_checkKey hk hki, run_findKey hk h1, Result.andThen, hv]

theorem MapIs.update {P : Program} {t kt et : TypeId} (ht : P.underlying t = some (.map kt et)) (hk : P.underlying kt = some (.int .i64))
    {W : World} {m : Nat} {f : Int → List Int} (h : MapIs W m f) (i : Int) (bs : List Int) :
    ∃ W' : World, (Instr.mapUpdate t (.map (some m)) (.int .i64 i) (blk bs)).run P W = .ok () W' ∧ MapIs W' m (upd f i bs) ∧ W.grownBy W' (some m) := by
  obtain ⟨es, clock, hb, hs, he, h0⟩ := h
  have hki : IsKey (.int .i64) (.int .i64 i) := rfl
  have hgrow : ∀ o, W.grownBy { W with heap := W.heap.setIfInBounds m o } (some m) := fun o =>
    ⟨rfl, rfl, rfl, by simp, fun k hlt hne => (heap_set hb).2 k (fun e => hne (by rw [e]))⟩
  rcases findNow_spec hki es.toList 0 (MapIs.keys he) with ⟨h1, h2⟩ | ⟨j, e, h1, h2, h3⟩
  · refine ⟨{ W with heap := W.heap.setIfInBounds m (.map (es.push { key := .int .i64 i, val := blk bs, born := clock }) (clock + 1)) }, by simp [Instr.mapUpdate, run_underlying ht, MapKept.run_getObj_map hb, run_checkKey hk hki, run_findKey hk h1, run_setObj_map _ hb, Result.andThen], ⟨_, _, (heap_set hb).1, stamped_push hs h2, ?_, ?_⟩, hgrow _⟩
    · intro x hx
      simp only [Array.toList_push, List.mem_append, List.mem_singleton] at hx
      rcases hx with hx | rfl
      · obtain ⟨k, hk1, hv⟩ := he x hx
        have : k ≠ i := fun e => h2 x hx (by rw [hk1, e])
        exact ⟨k, hk1, by rw [hv]; simp [upd, this]⟩
      · exact ⟨i, rfl, by simp [upd]⟩
    · intro k hk1
      have hne : k ≠ i := fun e => hk1 _ (by simp; exact .inr rfl) (by rw [e])
      simp only [upd, if_neg hne]
      exact h0 k (fun x hx => hk1 x (by simp [Array.mem_toList_iff.1 hx]))
  · have hj : es[j]? = some e := by simpa using h2
    have hkey : ∀ e', es[j]? = some e' → ({ e' with key := .int .i64 i, val := blk bs } : MapEntry).key = e'.key := fun e' he' => by rw [hj] at he'; cases he'; exact h3.symm
    refine ⟨{ W with heap := W.heap.setIfInBounds m (.map (es.modify j fun e' => { e' with key := .int .i64 i, val := blk bs }) clock) }, by simp [Instr.mapUpdate, run_underlying ht, MapKept.run_getObj_map hb, run_checkKey hk hki, run_findKey hk h1, hj, h3, run_keyThatStays hki, run_setObj_map _ hb, Result.andThen], ⟨_, _, (heap_set hb).1, stamped_modify hs _ _ (fun _ _ => rfl) (fun e' _ he' => hkey e' he'), ?_, ?_⟩, hgrow _⟩
    · intro x hx
      obtain ⟨q, hq⟩ := List.mem_iff_getElem?.1 hx
      rw [Array.getElem?_toList, Array.getElem?_modify] at hq
      by_cases hqj : j = q
      · subst hqj
        rw [if_pos rfl, hj] at hq
        simp only [Option.map_some, Option.some.injEq] at hq
        subst hq
        exact ⟨i, rfl, by simp [upd]⟩
      · rw [if_neg hqj] at hq
        have hxm : x ∈ es.toList := List.mem_of_getElem? (by rw [Array.getElem?_toList]; exact hq)
        obtain ⟨k, hk1, hv⟩ := he x hxm
        have hne : k ≠ i := by
          intro e1
          subst e1
          have hnd : (es.toList.map (·.key)).Nodup := hs.2.2
          have a1 : (es.toList.map (·.key))[q]? = some (.int .i64 k) := by rw [List.getElem?_map, Array.getElem?_toList, hq]; simp [hk1]
          have a2 : (es.toList.map (·.key))[j]? = some (.int .i64 k) := by rw [List.getElem?_map, Array.getElem?_toList, hj]; simp [h3]
          have hl : q < (es.toList.map (·.key)).length := by
            rcases Nat.lt_or_ge q (es.toList.map (·.key)).length with h | h
            · exact h
            · rw [List.getElem?_eq_none h] at a1; cases a1
          exact hqj (((List.getElem?_inj hl hnd).1 (a1.trans a2.symm)).symm)
        exact ⟨k, hk1, by rw [hv]; simp [upd, hne]⟩
    · intro k hk1
      have hall : ∀ x ∈ es.toList, x.key ≠ .int .i64 k := by
        intro x hx e1
        have hm : x.key ∈ (es.modify j fun e' => { e' with key := .int .i64 i, val := blk bs }).toList.map (·.key) := by
          rw [modify_keys j _ hkey]; exact List.mem_map_of_mem hx
        obtain ⟨y, hy, e2⟩ := List.mem_map.1 hm
        exact hk1 y hy (e2.trans e1)
      have hne : k ≠ i := fun e1 => hall e (List.mem_of_getElem? h2) (by rw [h3, e1])
      simp only [upd, if_neg hne]
      exact h0 k hall

/-- All blocks but those of S stand; there may be more. -/
structure Fr (S : Nat → Prop) (w w' : World) : Prop where
  os : w'.os = w.os
  tape : w'.tape = w.tape
  output : w'.output = w.output
  size : w.heap.size ≤ w'.heap.size
  block : ∀ k, k < w.heap.size → ¬ S k → w'.heap[k]? = w.heap[k]?
theorem Fr.refl (S : Nat → Prop) (w : World) : Fr S w w := ⟨rfl, rfl, rfl, Nat.le_refl _, fun _ _ _ => rfl⟩
theorem Fr.trans {S : Nat → Prop} {a b c : World} (h : Fr S a b) (k : Fr S b c) : Fr S a c :=
  ⟨k.os.trans h.os, k.tape.trans h.tape, k.output.trans h.output, Nat.le_trans h.size k.size, fun i hi hn => (k.block i (Nat.lt_of_lt_of_le hi h.size) hn).trans (h.block i hi hn)⟩
theorem Fr.mono {S S' : Nat → Prop} {a b : World} (h : Fr S a b) (hs : ∀ k, S k → S' k) : Fr S' a b := ⟨h.os, h.tape, h.output, h.size, fun k hk hn => h.block k hk (fun hS => hn (hs k hS))⟩
/-- What was made on the way may be written. -/
theorem Fr.then {S S2 : Nat → Prop} {a b c : World} (h : Fr S a b) (k : Fr S2 b c) (hs : ∀ k, S2 k → S k ∨ a.heap.size ≤ k) : Fr S a c :=
  ⟨k.os.trans h.os, k.tape.trans h.tape, k.output.trans h.output, Nat.le_trans h.size k.size, fun i hi hn => (k.block i (Nat.lt_of_lt_of_le hi h.size) (fun h2 => (hs i h2).elim hn (fun h3 => by omega))).trans (h.block i hi hn)⟩
theorem Fr.of_below {S : Nat → Prop} {a b : World} (h : Below a.heap.size a b) : Fr S a b := ⟨h.os, h.tape, h.output, h.size, fun k hk _ => h.block k hk⟩
theorem Fr.of_grown {a b : World} {row : Option Nat} (h : a.grownBy b row) : Fr (fun k => row = some k) a b := ⟨h.os, h.tape, h.output, h.size, fun k hk hn => h.block k hk (fun e => hn e.symm)⟩
theorem Fr.below {S : Nat → Prop} {B : Nat} {a b : World} (h : Fr S a b) (hB : B ≤ a.heap.size) (hs : ∀ k, S k → B ≤ k) : Below B a b :=
  ⟨h.os, h.tape, h.output, h.size, fun k hk => h.block k (by omega) (fun hS => by have := hs k hS; omega)⟩
theorem Fr.drewN {S : Nat → Prop} {a b : World} (h : Fr S a b) (n : Nat) : Fr S a (b.drewN n) := ⟨h.os, h.tape, h.output, h.size, h.block⟩
theorem Fr.drew {S : Nat → Prop} {a b : World} (h : Fr S a b) : Fr S a b.drew := ⟨h.os, h.tape, h.output, h.size, h.block⟩
theorem Fr.alloc {S : Nat → Prop} {a b : World} (h : Fr S a b) (o : Obj) : Fr S a (b.alloc o) := h.trans (Fr.of_below ((Below.refl _ _).alloc (Nat.le_refl _) o))
theorem Fr.setCell {S : Nat → Prop} {a b : World} (h : Fr S a b) {p : Addr} (hp : S p.block ∨ a.heap.size ≤ p.block) (u : Value) : Fr S a (b.setCell p u) :=
  h.then (S2 := fun k => k = p.block) ⟨rfl, rfl, rfl, by simp [World.setCell], fun k hk hn => Below.heap_setCell _ _ _ _ hn⟩ (fun k e => by rw [e]; exact hp)
end Go.Proofs.Ytmfndobdkihbnaa.Dk
