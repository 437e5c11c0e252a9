/-
  A group's writes, plain: its bytes, the lists that tell where they go, the head.
-/
import Derived.Test.YtmfndobdkihbnaaJf
namespace Go.Proofs.Ytmfndobdkihbnaa.Dk
open Go.RowKit
set_option linter.unusedVariables false
set_option linter.unusedSimpArgs false

def toB (l : List PutT) : List Int := l.flatMap fun x => [x.1 / 256 % 256, x.1 % 256]
theorem toB_len (l : List PutT) : (toB l).length = 2 * l.length := by
  induction l with
  | nil => rfl
  | cons x r ih =>
    have : toB (x :: r) = x.1 / 256 % 256 :: x.1 % 256 :: toB r := rfl
    rw [this, List.length_cons, List.length_cons, ih, List.length_cons]
    omega
theorem toB_snoc (l : List PutT) (i : Nat) (hi : i < l.length) : toB (l.take (i + 1)) = toB (l.take i) ++ [(rdP l i).1 / 256 % 256, (rdP l i).1 % 256] := by
  rw [List.take_add_one, rdP_get hi]
  simp [toB]
theorem toB_get (l : List PutT) (i : Nat) (hi : i < l.length) : (toB l).getD (2 * i) 0 = (rdP l i).1 / 256 % 256 ∧ (toB l).getD (2 * i + 1) 0 = (rdP l i).1 % 256 := by
  induction l generalizing i with
  | nil => simp at hi
  | cons x r ih =>
    have e : toB (x :: r) = x.1 / 256 % 256 :: x.1 % 256 :: toB r := rfl
    cases i with
    | zero => rw [e]; exact ⟨rfl, rfl⟩
    | succ i =>
      obtain ⟨h1, h2⟩ := ih i (by simpa using hi)
      rw [e, show 2 * (i + 1) = 2 * i + 1 + 1 from by omega, List.getD_cons_succ, List.getD_cons_succ, List.getD_cons_succ, List.getD_cons_succ]
      exact ⟨h1, h2⟩
def padB (ys : List Int) : List Int := ys.take (min ys.length 64) ++ (List.replicate 64 0).drop (min ys.length 64)
theorem padB_len (ys : List Int) : (padB ys).length = 64 := by simp [padB]; omega
theorem padB_get (ys : List Int) (j : Nat) (h : j < ys.length) (h64 : j < 64) : (padB ys).getD j 0 = ys.getD j 0 := by
  unfold padB
  rw [List.getD_eq_getElem?_getD, List.getElem?_append_left (by simp; omega), List.getElem?_take, if_pos (by omega), List.getD_eq_getElem?_getD]
theorem drop_getD (ys : List Int) (k j : Nat) : (ys.drop k).getD j 0 = ys.getD (k + j) 0 := by
  rw [List.getD_eq_getElem?_getD, List.getElem?_drop, List.getD_eq_getElem?_getD]
/-- How many blocks tell where. -/
def lisN (n : Nat) : Nat := (2 * n + 63) / 64
def dataW (at_ : Int) (l : List PutT) : List PutT := (List.range l.length).map fun i : Nat => (at_ + 7 + (i : Int), (rdP l i).2)
def listW (at_ : Int) (l : List PutT) : List PutT := (List.range (lisN l.length)).map fun t : Nat => (at_ + 1 + (t : Int), padB ((toB l).drop (64 * t)))
def preW (at_ g : Int) (l : List PutT) : List PutT := dataW at_ l ++ (listW at_ l ++ [(at_, headB (g + 1) (l.length : Int))])
theorem dataW_len (at_ : Int) (l : List PutT) : (dataW at_ l).length = l.length := by simp [dataW]
theorem listW_len (at_ : Int) (l : List PutT) : (listW at_ l).length = lisN l.length := by simp [listW]
theorem preW_len (at_ g : Int) (l : List PutT) : (preW at_ g l).length = l.length + lisN l.length + 1 := by simp [preW, dataW_len, listW_len]; omega
theorem preW_data (at_ g : Int) (l : List PutT) (i : Nat) (hi : i < l.length) : (preW at_ g l)[i]? = some (at_ + 7 + (i : Int), (rdP l i).2) := by
  unfold preW
  rw [List.getElem?_append_left (by rw [dataW_len]; exact hi)]
  simp [dataW, hi]
theorem preW_list (at_ g : Int) (l : List PutT) (t : Nat) (ht : t < lisN l.length) : (preW at_ g l)[l.length + t]? = some (at_ + 1 + (t : Int), padB ((toB l).drop (64 * t))) := by
  unfold preW
  rw [List.getElem?_append_right (by rw [dataW_len]; omega), dataW_len, Nat.add_sub_cancel_left, List.getElem?_append_left (by rw [listW_len]; exact ht)]
  simp [listW, ht]
theorem preW_head (at_ g : Int) (l : List PutT) : (preW at_ g l)[l.length + lisN l.length]? = some (at_, headB (g + 1) (l.length : Int)) := by
  unfold preW
  rw [List.getElem?_append_right (by rw [dataW_len]; omega), dataW_len, Nat.add_sub_cancel_left, List.getElem?_append_right (by rw [listW_len]; omega), listW_len, Nat.sub_self]
  rfl
theorem preW_mem {at_ g : Int} {l : List PutT} {x : PutT} (h : x ∈ preW at_ g l) : (∃ i, i < l.length ∧ x = (at_ + 7 + ((i : Nat) : Int), (rdP l i).2)) ∨ (∃ t, t < lisN l.length ∧ x = (at_ + 1 + ((t : Nat) : Int), padB ((toB l).drop (64 * t)))) ∨ x = (at_, headB (g + 1) (l.length : Int)) := by
  unfold preW at h
  rcases List.mem_append.1 h with h | h
  · unfold dataW at h
    obtain ⟨i, hi, rfl⟩ := List.mem_map.1 h
    exact .inl ⟨i, List.mem_range.1 hi, rfl⟩
  · rcases List.mem_append.1 h with h | h
    · unfold listW at h
      obtain ⟨i, hi, rfl⟩ := List.mem_map.1 h
      exact .inr (.inl ⟨i, List.mem_range.1 hi, rfl⟩)
    · simp at h
      exact .inr (.inr h)

theorem puts_get {f : Int → List Int} {l : List PutT} {i : Nat} {k : Int} {bs : List Int} (hn : (l.map (·.1)).Nodup) (h : l[i]? = some (k, bs)) : puts f l k = bs := by
  induction l generalizing f i with
  | nil => simp at h
  | cons x r ih =>
    obtain ⟨k0, b0⟩ := x
    rw [List.map_cons, List.nodup_cons] at hn
    cases i with
    | zero =>
      simp at h
      obtain ⟨rfl, rfl⟩ := h
      rw [puts, puts_far _ _ _ (fun y hy e => hn.1 (List.mem_map.2 ⟨y, hy, e⟩))]
      simp [upd]
    | succ i => exact ih hn.2 h

structure May (len at_ : Int) (l : List PutT) : Prop where
  n : l.length ≤ 192
  nd : (l.map (·.1)).Nodup
  all : ∀ x ∈ l, ¬ (at_ ≤ x.1 ∧ x.1 < at_ + 199) ∧ 0 ≤ x.1 ∧ x.1 < len ∧ x.2.length = 64
theorem mayB_spec {len at_ : Int} {l : List PutT} (h : mayB len at_ l = true) : May len at_ l := by
  unfold mayB at h
  simp only [Bool.and_eq_true, decide_eq_true_eq, List.all_eq_true] at h
  exact ⟨h.1.1, h.1.2, h.2⟩
theorem May.at {len at_ : Int} {l : List PutT} (h : May len at_ l) {i : Nat} (hi : i < l.length) : ¬ (at_ ≤ (rdP l i).1 ∧ (rdP l i).1 < at_ + 199) ∧ 0 ≤ (rdP l i).1 ∧ (rdP l i).1 < len ∧ (rdP l i).2.length = 64 := h.all _ (List.mem_of_getElem? (rdP_get hi))
theorem May.lis {len at_ : Int} {l : List PutT} (h : May len at_ l) : lisN l.length ≤ 6 := by have := h.n; unfold lisN; omega
theorem preW_valid {len at_ g : Int} {l : List PutT} (h : May len at_ l) (h0 : 0 ≤ at_) (h1 : at_ + 199 ≤ len) : Valid len (preW at_ g l) := fun x hx => by
  have hn := h.n
  have hs := h.lis
  rcases preW_mem hx with ⟨i, hi, rfl⟩ | ⟨t, ht, rfl⟩ | rfl
  · exact ⟨by simp only; omega, by simp only; omega, (h.at hi).2.2.2⟩
  · exact ⟨by simp only; omega, by simp only; omega, padB_len _⟩
  · exact ⟨h0, by simp only; omega, headB_len _ _⟩
theorem range_map_nodup (n : Nat) (f : Nat → Int) (hf : ∀ i j, i < n → j < n → f i = f j → i = j) : ((List.range n).map f).Nodup := by
  unfold List.Nodup
  rw [List.pairwise_map]
  exact List.Pairwise.imp_of_mem (fun ha hb hab e => absurd (hf _ _ (List.mem_range.1 ha) (List.mem_range.1 hb) e) (by omega)) (List.pairwise_lt_range (n := n))
theorem preW_nodup {at_ g : Int} {l : List PutT} (hs : lisN l.length ≤ 6) : ((preW at_ g l).map (·.1)).Nodup := by
  have e1 : (dataW at_ l).map (·.1) = (List.range l.length).map fun i : Nat => at_ + 7 + (i : Int) := by simp [dataW]
  have e2 : (listW at_ l).map (·.1) = (List.range (lisN l.length)).map fun t : Nat => at_ + 1 + (t : Int) := by simp [listW]
  unfold preW
  rw [List.map_append, List.map_append, e1, e2, List.nodup_append, List.nodup_append]
  refine ⟨range_map_nodup _ _ (fun i j _ _ e => by omega), ⟨range_map_nodup _ _ (fun i j _ _ e => by omega), by simp, ?_⟩, ?_⟩
  · intro a ha b hb e
    simp at ha hb
    obtain ⟨t, ht, rfl⟩ := ha
    omega
  · intro a ha b hb e
    simp at ha hb
    obtain ⟨t, ht, rfl⟩ := ha
    rcases hb with ⟨q, hq, hb⟩ | hb <;> omega
/-- Behind them the journal's blocks tell the group. -/
theorem preW_tells {len at_ g : Int} {l : List PutT} (f : Int → List Int) (h : May len at_ l) (h2 : len ≤ 4096) : Tells (puts f (preW at_ g l)) at_ len l := by
  intro i x bs hi
  have hlt : i < l.length := by
    rcases Nat.lt_or_ge i l.length with h' | h'
    · exact h'
    · rw [List.getElem?_eq_none h'] at hi; cases hi
  have hr := rdP_get hlt
  rw [hi] at hr
  have hr := Option.some.inj hr
  obtain ⟨a1, a2, a3, a4⟩ := h.at hlt
  rw [← hr] at a1 a2 a3 a4
  simp only at a1 a2 a3 a4
  have hn := h.n
  have ht : i / 32 < lisN l.length := by unfold lisN; omega
  have k1 := puts_get (f := f) (preW_nodup (at_ := at_) (g := g) (l := l) h.lis) (preW_data at_ g l i hlt)
  have k2 := puts_get (f := f) (preW_nodup (at_ := at_) (g := g) (l := l) h.lis) (preW_list at_ g l (i / 32) ht)
  rw [k1, k2]
  have hl := toB_len l
  obtain ⟨t1, t2⟩ := toB_get l i hlt
  refine ⟨by rw [← hr], a2, a3, by omega, ?_, ?_⟩
  · rw [padB_get _ _ (by rw [List.length_drop, hl]; omega) (by omega), drop_getD, show 64 * (i / 32) + i % 32 * 2 = 2 * i from by omega, t1, ← hr]
    simp only
    omega
  · rw [padB_get _ _ (by rw [List.length_drop, hl]; omega) (by omega), drop_getD, show 64 * (i / 32) + (i % 32 * 2 + 1) = 2 * i + 1 from by omega, t2, ← hr]

/-- What Commit makes of a disk and of how many groups were done, and what it answers. -/
def commitR (s : FS) (at_ g : Int) (l : List PutT) : FS × Int × Int :=
  if mayB s.len at_ l then
    if (wrs s (preW at_ g l)).2 = 0 then
      if l.length = 0 then ((wrs s (preW at_ g l)).1, 0, g + 1)
      else ((wrs (wrs s (preW at_ g l)).1 (l ++ [(at_, headB (g + 1) 0)])).1, (wrs (wrs s (preW at_ g l)).1 (l ++ [(at_, headB (g + 1) 0)])).2, g + 1)
    else ((wrs s (preW at_ g l)).1, (wrs s (preW at_ g l)).2, g)
  else (s, 20, g)
end Go.Proofs.Ytmfndobdkihbnaa.Dk
