/-
  Contracts of package graph, first part: what bad and its callees compute.
-/
import Derived.Test.YtcgcojdkkkfkdaaPGraphOrdersx
import Derived.Test.YtcgcojdkkkfkdaaGr
namespace Go.Proofs.Ytcgcojdkkkfkdaa
open Go.RowKit Go.Proofs.YtcgcojdkkkfkdaaW.PrintWords Go.Proofs.YtcgcojdkkkfkdaaW.PrintLast Go.Proofs.YtcgcojdkkkfkdaaW.PrintMore
attribute [local go_sem] max2_int min2_int max_two min_two
set_option linter.unusedVariables false
set_option linter.unusedSimpArgs false

/-- Edges as they are read. -/
def kE : Kd Gr.E := Kd.pair (Kd.int .i64) (Kd.pair (Kd.int .i64) Kd.bool)
theorem kE_open {w : World} {x : Gr.E} {cs : List Value} (h : kE.K w x cs) : cs = [.int .i64 x.1, .int .i64 x.2.1, .bool x.2.2] := by
  obtain ⟨_, _, rfl, rfl, ⟨_, _, rfl, rfl, rfl⟩⟩ := h
  exact rfl
theorem kE_mk (w : World) (x : Gr.E) : kE.K w x [.int .i64 x.1, .int .i64 x.2.1, .bool x.2.2] := ⟨[.int .i64 x.1], [.int .i64 x.2.1, .bool x.2.2], rfl, rfl, ⟨[.int .i64 x.2.1], [.bool x.2.2], rfl, rfl, rfl⟩⟩
def rdE (xs : List Gr.E) (i : Int) : Gr.E := xs.getD i.toNat (0, 0, false)
theorem at_E {w : World} {A : Option Addr} {n : Nat} {xs : List Gr.E} (h : Kd.C kE w A n xs) (i : Int) (h0 : 0 ≤ i) (h1 : i < n) : ∃ ad, A = some ad ∧ w.cell? (ad.add (i.toNat * 3)) = some (.int .i64 (rdE xs i).1) ∧ w.cell? ⟨(ad.add (i.toNat * 3)).block, (ad.add (i.toNat * 3)).off + 1, none⟩ = some (.int .i64 (rdE xs i).2.1) ∧ w.cell? ⟨(ad.add (i.toNat * 3)).block, (ad.add (i.toNat * 3)).off + 2, none⟩ = some (.bool (rdE xs i).2.2) := by
  obtain ⟨ad, c, e, _, hK, hc0⟩ := Kd.C_get h (0, 0, false) i h0 h1
  have hc : ∀ j u, c[j]? = some u → w.cell? (ad.add (i.toNat * 3 + j)) = some u := hc0
  obtain rfl := kE_open hK
  exact ⟨ad, e, hc 0 _ rfl, by rw [← add_field _ _ 1 (by omega)]; exact hc 1 _ rfl, by rw [← add_field _ _ 2 (by omega)]; exact hc 2 _ rfl⟩
theorem at_En {w : World} {A : Option Addr} {n : Nat} {xs : List Gr.E} (h : Kd.C kE w A n xs) (i : Nat) (h1 : i < n) : ∃ ad, A = some ad ∧ w.cell? (ad.add (i * 3)) = some (.int .i64 (rdE xs i).1) ∧ w.cell? ⟨(ad.add (i * 3)).block, (ad.add (i * 3)).off + 1, none⟩ = some (.int .i64 (rdE xs i).2.1) ∧ w.cell? ⟨(ad.add (i * 3)).block, (ad.add (i * 3)).off + 2, none⟩ = some (.bool (rdE xs i).2.2) := by
  have := at_E h (i : Int) (by omega) (by omega)
  simpa using this


theorem max_eq (a b : Int) : (if a < b then b else a) = max a b := by rw [Int.max_def]; split <;> split <;> omega
theorem ite_max1 {a b : Int} (h : b < a) : min a b = b := by omega
set_option maxHeartbeats 400000 in
theorem badx (a b : Int) (c : Bool) (n : Int) (pn : Addr) (w : World) (hc : w.cell? pn = some (.int .i64 n)) :
    Calls Try.prog 43 #[.agg #[.int .i64 a, .int .i64 b, .bool c], .pointer (some pn)] w fun e w' => e = .returned (.bool (Gr.badE n (a, b, c))) ∧ Below w.heap.size w w' := by
  have hc' : ∀ o, (w.alloc o).cell? pn = some (.int .i64 n) := fun o => pw_cell_below ((Below.refl _ _).alloc (Nat.le_refl _) o) hc
  go_enter Try.func43, Try.ntmps43
  go_wp2
  all_goals go_ret
  all_goals refine ⟨?_, (Below.refl _ _).alloc (Nat.le_refl _) _⟩
  all_goals
    simp only [Gr.badE, Array.getD_eq_getD_getElem?, List.getElem?_toArray, List.getElem?_cons_succ, List.getElem?_cons_zero, Option.getD_some]
    congr 2
    rw [Bool.eq_iff_iff]
    simp
    omega

def badIdx (n : Int) : List Gr.E → Int → Int
  | [], _ => -1
  | x :: r, i => if Gr.badE n x then i else badIdx n r (i + 1)
theorem badIdx_at (n : Int) (l : List Gr.E) (k : Nat) (h : ∀ j : Nat, j < k → Gr.badE n (rdE l j) = false) (hk : k < l.length) : ∀ i : Int, Gr.badE n (rdE l k) = true → badIdx n l i = i + k := by
  induction l generalizing k with
  | nil => simp at hk
  | cons x r ih =>
    intro i hb
    unfold badIdx
    cases k with
    | zero => have : Gr.badE n x = true := by simpa [rdE] using hb
              rw [if_pos this]; simp
    | succ k =>
      have h0 : Gr.badE n x = false := by simpa [rdE] using h 0 (by omega)
      rw [if_neg (by simp [h0])]
      have := ih k (fun j hj => by have := h (j + 1) (by omega); simpa [rdE] using this) (by simpa using hk) (i + 1) (by simpa [rdE] using hb)
      rw [this]; omega
theorem badIdx_none (n : Int) (l : List Gr.E) (h : ∀ j : Nat, j < l.length → Gr.badE n (rdE l j) = false) : ∀ i : Int, badIdx n l i = -1 := by
  induction l with
  | nil => intro i; rfl
  | cons x r ih =>
    intro i
    unfold badIdx
    have h0 : Gr.badE n x = false := by simpa [rdE] using h 0 (by simp)
    rw [if_neg (by simp [h0])]
    exact ih (fun j hj => by have := h (j + 1) (by simp; omega); simpa [rdE] using this) (i + 1)

set_option maxHeartbeats 800000 in
theorem idxf (n : Int) (pn : Addr) (A : Option Addr) (c : Nat) (l : List Gr.E) (w : World) (hl : Kd.C kE w A l.length l) (hc : w.cell? pn = some (.int .i64 n)) :
    Calls Try.prog 47 #[.slice A l.length c, .func (.func 43) #[] #[.pointer (some pn)]] w fun e w' => e = .returned (.int .i64 (badIdx n l 0)) ∧ Below w.heap.size w w' := by
  have hm := hl.2.1
  have HL := Aside0.mk hl
  clear hl
  go_enter Try.func47, Try.ntmps47
  go_wp2
  go_loopw [8] (fun v wr => ∃ k : Nat, k ≤ l.length ∧ v = .int .i64 k ∧ Aside0 (∀ j : Nat, j < k → Gr.badE n (rdE l j) = false) ∧ Below w.heap.size w wr) (fun v _ => l.length - (intOf v).toNat)
  case atStart => exact ⟨0, Nat.zero_le _, rfl, ⟨by simp⟩, Below.refl _ _⟩
  case round =>
    obtain ⟨k, hk, rfl, hno, hbw⟩ := hrel
    by_cases hlt : k < l.length
    · obtain ⟨ad, rfl, h0, h1, h2⟩ := at_En (HL.out.imp_ hbw (fun _ _ h => kE.K_below hbw h)) k (by omega)
      have hcr := pw_cell_below hbw hc
      go_wp2_with (go_at_call 43; refine (badx _ _ _ n pn _ ?_).mono ?_; assumption; rintro e w' ⟨rfl, hb2⟩)
      · have hb : Gr.badE n (rdE l k) = true := by assumption
        go_ret
        refine ⟨?_, below_then hbw hbw.size hb2⟩
        rw [badIdx_at n l k hno.out hlt 0 hb]; simp
      · have hb : Gr.badE n (rdE l k) = false := by assumption
        go_roundw
        case rel =>
          refine ⟨k + 1, by omega, by go_num, ⟨fun j hj => ?_⟩, below_then hbw hbw.size hb2⟩
          by_cases e : j = k
          · subst e; exact hb
          · exact hno.out j (by omega)
        case measure => simp [intOf]; omega
    · go_wp2
      go_ret
      refine ⟨?_, hbw⟩
      rw [badIdx_none n l (fun j hj => hno.out j (by omega)) 0]; rfl

theorem badIdx_any (n : Int) (l : List Gr.E) (i : Int) (hi : 0 ≤ i) : decide (badIdx n l i ≥ 0) = l.any (Gr.badE n) := by
  induction l generalizing i with
  | nil => rfl
  | cons x r ih =>
    unfold badIdx
    rw [List.any_cons]
    cases hb : Gr.badE n x
    · simp only [Bool.false_eq_true, if_false, Bool.false_or]; exact ih (i + 1) (by omega)
    · simp only [if_true, Bool.true_or, decide_eq_true_eq]; exact hi

set_option maxHeartbeats 400000 in
theorem contf (n : Int) (pn : Addr) (A : Option Addr) (c : Nat) (l : List Gr.E) (w : World) (hl : Kd.C kE w A l.length l) (hc : w.cell? pn = some (.int .i64 n)) :
    Calls Try.prog 42 #[.slice A l.length c, .func (.func 43) #[] #[.pointer (some pn)]] w fun e w' => e = .returned (.bool (l.any (Gr.badE n))) ∧ Below w.heap.size w w' := by
  have HL := Aside0.mk hl
  clear hl
  go_enter Try.func42, Try.ntmps42
  go_wp2_with (go_at_call 47; refine (idxf n pn A c l _ HL.out ?_).mono ?_; assumption; rintro e w' ⟨rfl, hb2⟩)
  go_ret
  exact ⟨by rw [← badIdx_any n l 0 (by omega)]; rfl, hb2⟩

set_option maxHeartbeats 400000 in
theorem bad_any (n : Int) (A : Option Addr) (c : Nat) (l : List Gr.E) (w : World) (hl : Kd.C kE w A l.length l) :
    Calls Try.prog 37 #[.int .i64 n, .slice A l.length c] w fun e w' => e = .returned (.bool (Gr.bad n l)) ∧ Below w.heap.size w w' := by
  have HL := Aside0.mk hl
  clear hl
  have hmf : ∀ (fn : Fn) (first cap : Array Value) (w : World), (Instr.makeFunc fn first cap).run Try.prog w = .ok (.func fn first cap) w := fun _ _ _ _ => rfl
  have hb0 := (Below.refl w.heap.size w).alloc (Nat.le_refl _) (.cells #[.int .i64 n] 3)
  have hc : (w.alloc (.cells #[.int .i64 n] 3)).cell? ⟨w.heap.size, 0, none⟩ = some (.int .i64 n) := by simp [World.cell?_alloc_new]
  have HC := Aside0.mk (Kd.C_below HL.out hb0)
  by_cases h1 : n < 0
  · go_enter Try.func37, Try.ntmps37
    go_wp2
    go_ret
    exact ⟨by simp [Gr.bad, h1], hb0⟩
  · by_cases h2 : 32 < n
    · go_enter Try.func37, Try.ntmps37
      go_wp2
      go_ret
      exact ⟨by simp [Gr.bad, h2], hb0⟩
    · go_enter Try.func37, Try.ntmps37
      go_wp2_with (go_at_call 42; refine (contf n _ A c l _ HC.out ?_).mono ?_; assumption; rintro e w' ⟨rfl, hb2⟩)
      go_ret
      exact ⟨by simp [Gr.bad]; omega, below_then hb0 (by simp) hb2⟩
end Go.Proofs.Ytcgcojdkkkfkdaa
