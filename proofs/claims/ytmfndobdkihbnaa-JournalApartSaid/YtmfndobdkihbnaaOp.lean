/-
  From a reading of an argument as data to its cells, kind by kind.
-/
import Derived.Deep.Slices
import Derived.SizedLaws
import Derived.OpenShut
import Derived.Test.YtmfndobdkihbnaaWWords
import Derived.Test.YtmfndobdkihbnaaWArr
namespace Go.Proofs.Ytmfndobdkihbnaa.Op
open Go.RowKit Go.ChangeShapes Go.WideShapes Go.Deep Go.Proofs.YtmfndobdkihbnaaW.PrintWords
set_option linter.unusedVariables false

/-- Whatever reads as data of type t has cells of kind d; G: what is known of the value. -/
def Opens {α : Type} (P : Program) (d : Kd α) (t : TypeId) (G : α → Prop) : Prop :=
  P.cellsOf t = d.sz ∧ ∀ (H : Type) (enc : TypeId × Value → H) (W : World) (spare : Nat → Bool) (held : Bool) (fuel : Nat) (cs : List Value) (x : DataW H × List MemPlace),
    DataW.trod enc P W 0 spare held fuel t cs = some x → ∃ y, d.K W y cs ∧ G y

theorem Opens.int {P : Program} {t : TypeId} {k : IntKind} (ht : P.underlying t = some (.int k)) (hc : P.cellsOf t = 1) : Opens P (Kd.int k) t (fun x => (Lit.int k x).wf = true) :=
  ⟨hc, fun H enc W spare held fuel cs x h => by
    obtain ⟨n, rfl, _, hw⟩ := DataW.trod_int ht h
    exact ⟨n, rfl, hw⟩⟩
theorem Opens.bool {P : Program} {t : TypeId} (ht : P.underlying t = some .bool) (hc : P.cellsOf t = 1) : Opens P Kd.bool t (fun _ => True) :=
  ⟨hc, fun H enc W spare held fuel cs x h => by
    obtain ⟨b, rfl, _⟩ := DataW.trod_bool ht h
    exact ⟨b, rfl, trivial⟩⟩
theorem Opens.string {P : Program} {t : TypeId} (ht : P.underlying t = some .string) (hc : P.cellsOf t = 1) : Opens P Kd.string t (fun s => s.size ≤ maxLen) :=
  ⟨hc, fun H enc W spare held fuel cs x h => by
    obtain ⟨s, rfl, _, hs⟩ := DataW.trod_string ht h
    exact ⟨s, rfl, hs⟩⟩

theorem cells_at {W : World} {a : Addr} {n : Nat} {cs : List Value} (h : W.cells? 0 a n = some cs) : cs.length = n ∧ ∀ i u, cs[i]? = some u → W.cell? (a.add i) = some u := by
  obtain ⟨h1, h2, h3⟩ := World.cells?_some h
  refine ⟨h2, fun i u hu => ?_⟩
  have hi : i < n := by
    rcases Nat.lt_or_ge i cs.length with h | h
    · omega
    · simp [h] at hu
  exact (h3 i hi).trans hu

theorem rowOf {α : Type} {P : Program} {d : Kd α} {e : TypeId} {G : α → Prop} (hd : Opens P d e G) {H : Type} {enc : TypeId × Value → H} {W : World} {spare : Nat → Bool} {held : Bool} {n len : Nat} {a : Addr} {D : Nat → DataW H} {Pl : Nat → List MemPlace}
    (hl : len ≤ maxLen) (h : ∀ i, i < len → ∃ cs', W.cells? 0 (a.add (i * P.cellsOf e)) (P.cellsOf e) = some cs' ∧ DataW.trod enc P W 0 spare held n e cs' = some (D i, Pl i)) :
    ∃ xs : List α, xs.length = len ∧ d.C W (some a) len xs ∧ ∀ x ∈ xs, G x := by
  have h2 : ∀ i, i < len → ∃ y : α, ∃ cs', W.cells? 0 (a.add (i * P.cellsOf e)) (P.cellsOf e) = some cs' ∧ d.K W y cs' ∧ G y := by
    intro i hi
    obtain ⟨cs', h1, h3⟩ := h i hi
    obtain ⟨y, hK, hG⟩ := hd.2 _ _ _ _ _ _ _ _ h3
    exact ⟨y, cs', h1, hK, hG⟩
  rcases Nat.eq_zero_or_pos len with h0 | h0
  · subst h0
    exact ⟨[], rfl, ⟨rfl, Nat.zero_le _, fun h => absurd h (Nat.lt_irrefl 0)⟩, by simp⟩
  · obtain ⟨y0, _⟩ := h2 0 h0
    haveI : Inhabited α := ⟨y0⟩
    obtain ⟨f, hf⟩ := choose_lt h2
    refine ⟨(List.range len).map f, by simp, ⟨by simp, by unfold maxLen at hl; exact hl, fun _ => ⟨a, rfl, fun j p hp => ?_⟩⟩, ?_⟩
    · rw [List.getElem?_map] at hp
      have hj : j < len := by
        rcases Nat.lt_or_ge j len with h | h
        · exact h
        · simp [h] at hp
      rw [List.getElem?_range hj] at hp
      simp only [Option.map_some, Option.some.injEq] at hp
      subst hp
      obtain ⟨cs', h1, hK, _⟩ := hf j hj
      rw [hd.1] at h1
      obtain ⟨hlen, hcell⟩ := cells_at h1
      refine ⟨cs', hlen, hK, fun i u hu => ?_⟩
      have := hcell i u hu
      rwa [Go.Deep.add_add] at this
    · intro x hx
      rw [List.mem_map] at hx
      obtain ⟨i, hi, rfl⟩ := hx
      exact (hf i (List.mem_range.1 hi)).choose_spec.2.2

theorem Opens.slice {α : Type} {P : Program} {d : Kd α} {t e : TypeId} {G : α → Prop} (ht : P.underlying t = some (.slice e)) (hc : P.cellsOf t = 1) (hd : Opens P d e G) : Opens P (Kd.slice e d) t (fun xs => ∀ x ∈ xs, G x) :=
  ⟨hc, fun H enc W spare held fuel cs x h => by
    rcases open_slice ht h with ⟨rfl, _⟩ | ⟨a, len, cap, m, n, D, Pl, rfl, _, hl, hm, hmm, _, hx⟩
    · exact ⟨[], ⟨none, 0, rfl, Nat.le_refl _, Kd.C_nil d W⟩, by simp⟩
    · obtain ⟨xs, hlen, hC, hG⟩ := rowOf hd (len := len) (Nat.le_trans hl hm) (fun i hi => hx i (by rw [hmm]; split <;> omega))
      subst hlen
      exact ⟨xs, ⟨some a, cap, rfl, hl, hC⟩, hG⟩⟩

/-- The fields from number i on, at offset off. -/
def OpensFs {α : Type} (P : Program) (d : Kd α) (fs : List Field) (off : Nat) (G : α → Prop) : Prop :=
  ∀ (H : Type) (enc : TypeId × Value → H) (W : World) (spare : Nat → Bool) (held : Bool) (fuel : Nat) (cs : List Value), cs.length = off + d.sz →
    (∀ f ∈ fs, ∃ x, DataW.trod enc P W 0 spare held fuel f.type ((cs.drop f.offset).take (P.cellsOf f.type)) = some x) → ∃ y, d.K W y (cs.drop off) ∧ G y
theorem OpensFs.one {α : Type} {P : Program} {d : Kd α} {f : Field} {off : Nat} {G : α → Prop} (ho : f.offset = off) (hd : Opens P d f.type G) : OpensFs P d [f] off G := by
  intro H enc W spare held fuel cs hl h
  obtain ⟨x, hx⟩ := h f (by simp)
  obtain ⟨y, hy⟩ := hd.2 _ _ _ _ _ _ _ _ hx
  rw [ho, hd.1, List.take_of_length_le (by rw [List.length_drop]; omega)] at hy
  exact ⟨y, hy⟩
theorem OpensFs.cons {α β : Type} {P : Program} {a : Kd α} {b : Kd β} {f : Field} {fs : List Field} {off : Nat} {G : α → Prop} {G' : β → Prop} (ho : f.offset = off) (hd : Opens P a f.type G) (hr : OpensFs P b fs (off + a.sz) G') :
    OpensFs P (Kd.pair a b) (f :: fs) off (fun x => G x.1 ∧ G' x.2) := by
  intro H enc W spare held fuel cs hl h
  have hl' : cs.length = off + (a.sz + b.sz) := hl
  obtain ⟨x, hx⟩ := h f (by simp)
  obtain ⟨y, hy, hg⟩ := hd.2 _ _ _ _ _ _ _ _ hx
  obtain ⟨z, hz, hg'⟩ := hr H enc W spare held fuel cs (by omega) (fun f' hf' => h f' (List.mem_cons_of_mem _ hf'))
  rw [ho, hd.1] at hy
  refine ⟨(y, z), ⟨(cs.drop off).take a.sz, cs.drop (off + a.sz), ?_, hy, hz⟩, hg, hg'⟩
  rw [← List.drop_drop, List.take_append_drop]
theorem Opens.struct {α : Type} {P : Program} {d : Kd α} {t : TypeId} {fs : Array Field} {G : α → Prop} (ht : P.underlying t = some (.struct fs)) (hc : P.cellsOf t = d.sz) (hf : OpensFs P d fs.toList 0 G) : Opens P d t G :=
  ⟨hc, fun H enc W spare held fuel cs x h => by
    obtain ⟨xs, n, _, _, hl, hlen, hfs⟩ := DataW.trod_struct ht h
    have := hf H enc W spare held n cs (by omega) (fun f hf => by
      obtain ⟨i, hi, rfl⟩ := List.mem_iff_getElem.1 hf
      have h2 := hfs i fs.toList[i] (by rw [← Array.getElem?_toList, List.getElem?_eq_getElem hi])
      rw [h2]
      have : i < xs.length := by rw [hlen, ← Array.length_toList]; exact hi
      exact ⟨_, List.getElem?_eq_getElem this⟩)
    simpa using this⟩

/-- An argument that is a slice. -/
theorem open_arg {α : Type} {P : Program} {d : Kd α} {t e : TypeId} {G : α → Prop} (ht : P.underlying t = some (.slice e)) (hd : Opens P d e G) {H : Type} {enc : TypeId × Value → H} {W : World} {spare : Nat → Bool} {held : Bool} {A : Option Addr} {len cap : Nat} {y : DataW H} {p : List MemPlace}
    (h : DataW.Trod enc P W 0 spare held t (.slice A len cap) y p) : ∃ xs : List α, xs.length = len ∧ len ≤ cap ∧ d.C W A len xs ∧ (∀ x ∈ xs, G x) := by
  obtain ⟨fuel, hf⟩ := h
  rcases open_slice ht hf with ⟨hcs, _⟩ | ⟨a, len', cap', m, n, D, Pl, hcs, _, hl, hm, hmm, _, hx⟩
  · simp [Value.cells] at hcs
    obtain ⟨rfl, rfl, rfl⟩ := hcs
    exact ⟨[], rfl, Nat.le_refl _, Kd.C_nil d W, by simp⟩
  · simp [Value.cells] at hcs
    obtain ⟨rfl, rfl, rfl⟩ := hcs
    obtain ⟨xs, hlen, hC, hG⟩ := rowOf hd (len := len) (Nat.le_trans hl hm) (fun i hi => hx i (by rw [hmm]; split <;> omega))
    exact ⟨xs, hlen, hl, hC, hG⟩

/-- What a slice weighs bounds its length. -/
theorem sized_any {H : Type} {enc : TypeId × Value → H} {P : Program} {W : World} {base : Nat} {spare : Nat → Bool} {held : Bool} {t e : TypeId} {a : Option Addr} {len cap : Nat} {d : DataW H} {ps : List MemPlace} {ts : List TypeId} {ds : List (DataW H)} {j : Nat}
    (hsz : (DataW.weightsEach P ts ds).all (· ≤ reachBytes) = true) (ht : ts[j]? = some t) (hd : ds[j]? = some d) (hu : P.underlying t = some (.slice e)) {B : Nat} (hB : P.bytesOf e = B)
    (h : DataW.Trod enc P W base spare held t (.slice a len cap) d ps) : len * B ≤ 140737488351232 := by
  obtain ⟨fuel, hf⟩ := h
  rcases open_slice hu hf with ⟨hcs, _⟩ | ⟨x, l, c, m, n, D, Pl, hcs, _, hl, _, hmm, hx, _⟩
  · simp [Value.cells] at hcs
    obtain ⟨rfl, rfl, rfl⟩ := hcs
    simp
  · simp [Value.cells] at hcs
    obtain ⟨rfl, rfl, rfl⟩ := hcs
    obtain ⟨hx, _⟩ := Prod.mk.inj hx
    subst hx
    have z := sized_slice hsz ht hd hu
    rw [hB] at z
    simp only [List.length_map, List.length_range] at z
    exact Nat.le_trans (Nat.mul_le_mul_right _ (by omega)) z
end Go.Proofs.Ytmfndobdkihbnaa.Op
