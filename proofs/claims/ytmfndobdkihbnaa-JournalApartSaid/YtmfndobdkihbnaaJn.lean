/-
  What a journal's Commit and Open make of a disk: plain.
-/
import Derived.Test.YtmfndobdkihbnaaJm
namespace Go.Proofs.Ytmfndobdkihbnaa.Dk
open Go.RowKit
set_option linter.unusedVariables false
set_option linter.unusedSimpArgs false

abbrev Own (at_ k : Int) : Prop := at_ ≤ k ∧ k < at_ + 199
theorem puts_key {f : Int → List Int} {l : List PutT} (hn : (l.map (·.1)).Nodup) {x : PutT} (hx : x ∈ l) : puts f l x.1 = x.2 := by
  obtain ⟨i, hi⟩ := List.mem_iff_getElem?.1 hx
  exact puts_get hn (i := i) (k := x.1) (bs := x.2) hi
theorem take_nodup {l : List PutT} (hn : (l.map (·.1)).Nodup) (j : Nat) : ((l.take j).map (·.1)).Nodup := by
  rw [List.map_take]
  exact hn.sublist (List.take_sublist j _)
/-- Some of a group's writes: each block is as it was, or as the group says. -/
theorem puts_some (f F : Int → List Int) {l : List PutT} (hn : (l.map (·.1)).Nodup) (j : Nat) (k : Int) : puts f (l.take j) k = f k ∨ puts f (l.take j) k = puts F l k := by
  by_cases h : ∃ x ∈ l.take j, x.1 = k
  · obtain ⟨x, hx, rfl⟩ := h
    right
    rw [puts_key (take_nodup hn j) hx, puts_key hn (List.mem_of_mem_take hx)]
  · left
    exact puts_far _ _ _ (fun x hx e => h ⟨x, hx, e⟩)
theorem puts_whole (f F : Int → List Int) {l : List PutT} (hn : (l.map (·.1)).Nodup) (k : Int) (h : f k = F k ∨ f k = puts F l k) : puts f l k = puts F l k := by
  by_cases hk : ∃ x ∈ l, x.1 = k
  · obtain ⟨x, hx, rfl⟩ := hk
    rw [puts_key hn hx, puts_key hn hx]
  · have e1 : puts f l k = f k := puts_far _ _ _ (fun x hx e => hk ⟨x, hx, e⟩)
    have e2 : puts F l k = F k := puts_far _ _ _ (fun x hx e => hk ⟨x, hx, e⟩)
    rw [e1]
    rcases h with h | h
    · rw [h, e2]
    · exact h
/-- A group is at hand: its head is written, and some of its writes. -/
structure Hand (s : FS) (at_ g : Int) (l : List PutT) (F : Int → List Int) : Prop where
  pos : 0 < l.length
  may : May s.len at_ l
  head : s.has at_ = headB (g + 1) (l.length : Int)
  tells : Tells s.has at_ s.len l
  vis : ∀ k, ¬ Own at_ k → s.has k = F k ∨ s.has k = puts F l k
/-- None is at hand. -/
structure Idle (s : FS) (at_ g : Int) (F : Int → List Int) : Prop where
  head : s.has at_ = headB g 0
  vis : ∀ k, ¬ Own at_ k → s.has k = F k
theorem Tells.of_own {h h' : Int → List Int} {at_ len : Int} {l : List PutT} (ht : Tells h at_ len l) (hn : l.length ≤ 192) (he : ∀ k, at_ < k → k < at_ + 199 → h' k = h k) : Tells h' at_ len l := by
  intro i x bs hi
  obtain ⟨a, b, c, d, e, f⟩ := ht i x bs hi
  have hlt : i < l.length := by
    rcases Nat.lt_or_ge i l.length with h' | h'
    · exact h'
    · rw [List.getElem?_eq_none h'] at hi; cases hi
  rw [he _ (by omega) (by omega), he _ (by omega) (by omega)]
  exact ⟨a, b, c, d, e, f⟩
theorem valid_fin {s : FS} {at_ g : Int} {l : List PutT} (hm : May s.len at_ l) (h0 : 0 ≤ at_) (h1 : at_ + 199 ≤ s.len) : Valid s.len (l ++ [(at_, headB g 0)]) := fun x hx => by
  rcases List.mem_append.1 hx with hx | hx
  · obtain ⟨_, a, b, c⟩ := hm.all x hx
    exact ⟨a, b, c⟩
  · rw [List.mem_singleton.1 hx]
    exact ⟨h0, by simp only; omega, headB_len _ _⟩
theorem May.far {len at_ : Int} {l : List PutT} (h : May len at_ l) {x : PutT} (hx : x ∈ l) : ¬ Own at_ x.1 := (h.all x hx).1
theorem May.own {len at_ : Int} {l : List PutT} (h : May len at_ l) (f : Int → List Int) (j : Nat) {k : Int} (hk : Own at_ k) : puts f (l.take j) k = f k :=
  puts_far _ _ _ (fun x hx e => h.far (List.mem_of_mem_take hx) (e ▸ hk))

/-- The group at hand is finished, or the power goes off, and it is at hand still. -/
theorem fin_plain {s : FS} {at_ g : Int} {l : List PutT} {F : Int → List Int} (h : Hand s at_ g l F) (hon : s.off = false) (h0 : 0 ≤ at_) (h1 : at_ + 199 ≤ s.len) :
    (wrs s (l ++ [(at_, headB (g + 1) 0)])).1.len = s.len ∧
    (((wrs s (l ++ [(at_, headB (g + 1) 0)])).2 = 0 ∧ (wrs s (l ++ [(at_, headB (g + 1) 0)])).1.off = false ∧ Idle (wrs s (l ++ [(at_, headB (g + 1) 0)])).1 at_ (g + 1) (puts F l)) ∨
     ((wrs s (l ++ [(at_, headB (g + 1) 0)])).2 = 2 ∧ (wrs s (l ++ [(at_, headB (g + 1) 0)])).1.off = true ∧ Hand (wrs s (l ++ [(at_, headB (g + 1) 0)])).1 at_ g l F)) := by
  have hm := h.may
  obtain ⟨g1, j, g2, g3, g4⟩ := wrs_spec s (l ++ [(at_, headB (g + 1) 0)]) hon (valid_fin hm h0 h1)
  refine ⟨g1, ?_⟩
  have hown : Own at_ at_ := ⟨by omega, by omega⟩
  rcases g4 with ⟨a, b, c⟩ | ⟨a, b, c⟩
  · left
    refine ⟨b, c, ?_, fun k hk => ?_⟩
    · rw [g3, a, List.take_length, puts_append]
      simp [puts, upd]
    · rw [g3, a, List.take_length, puts_append]
      have : puts (puts s.has l) [(at_, headB (g + 1) 0)] k = puts s.has l k := by
        simp only [puts, upd]
        rw [if_neg (fun e => hk (by rw [e]; exact hown))]
      rw [this]
      exact puts_whole s.has F hm.nd k (h.vis k hk)
  · right
    have hj : j ≤ l.length := by simp at a; omega
    have ht : (l ++ [(at_, headB (g + 1) 0)]).take j = l.take j := by rw [List.take_append_of_le_length hj]
    rw [ht] at g3
    refine ⟨b, c, h.pos, by rw [g1]; exact hm, ?_, ?_, fun k hk => ?_⟩
    · rw [g3, hm.own s.has j hown]; exact h.head
    · rw [g1, g3]
      exact h.tells.of_own hm.n (fun k a b => hm.own s.has j ⟨by omega, b⟩)
    · rw [g3]
      rcases puts_some s.has F hm.nd j k with e | e
      · rw [e]; exact h.vis k hk
      · exact .inr e

theorem preW_far {at_ g : Int} {l : List PutT} (hn : l.length ≤ 192) (hs : lisN l.length ≤ 6) {x : PutT} (hx : x ∈ preW at_ g l) : Own at_ x.1 := by
  rcases preW_mem hx with ⟨i, hi, rfl⟩ | ⟨t, ht, rfl⟩ | rfl
  · exact ⟨by simp only; omega, by simp only; omega⟩
  · exact ⟨by simp only; omega, by simp only; omega⟩
  · exact ⟨by simp only; omega, by simp only; omega⟩
/-- Ahead of the head nothing but the journal's other blocks is written. -/
theorem preW_ahead {at_ g : Int} {l : List PutT} (f : Int → List Int) (j : Nat) (hj : j < (preW at_ g l).length) : puts f ((preW at_ g l).take j) at_ = f at_ := by
  refine puts_far _ _ _ (fun x hx e => ?_)
  rw [preW_len] at hj
  obtain ⟨i, hi⟩ := List.mem_iff_getElem?.1 hx
  rw [List.getElem?_take] at hi
  by_cases hij : i < j
  · rw [if_pos hij] at hi
    rcases Nat.lt_or_ge i l.length with h | h
    · rw [preW_data at_ g l i h] at hi
      have := Option.some.inj hi
      rw [← this] at e
      simp only at e
      omega
    · obtain ⟨t, rfl⟩ : ∃ t, i = l.length + t := ⟨i - l.length, by omega⟩
      rw [preW_list at_ g l t (by omega)] at hi
      have := Option.some.inj hi
      rw [← this] at e
      simp only at e
      omega
  · rw [if_neg hij] at hi; cases hi

/-- Commit of a group: it is done; or the power goes off, ahead of the head or behind it. -/
theorem commit_plain {s : FS} {at_ g : Int} {l : List PutT} {F : Int → List Int} (h : Idle s at_ g F) (hon : s.off = false) (h0 : 0 ≤ at_) (h1 : at_ + 199 ≤ s.len) (h2 : s.len ≤ 4096) (hm : mayB s.len at_ l = true) :
    (commitR s at_ g l).1.len = s.len ∧
    (((commitR s at_ g l).2.1 = 0 ∧ (commitR s at_ g l).1.off = false ∧ (commitR s at_ g l).2.2 = g + 1 ∧ Idle (commitR s at_ g l).1 at_ (g + 1) (puts F l)) ∨
     ((commitR s at_ g l).2.1 = 2 ∧ (commitR s at_ g l).1.off = true ∧ (Idle (commitR s at_ g l).1 at_ g F ∨ Hand (commitR s at_ g l).1 at_ g l F))) := by
  have hM := mayB_spec hm
  have hv := preW_valid (g := g) hM h0 h1
  obtain ⟨g1, j, g2, g3, g4⟩ := wrs_spec s (preW at_ g l) hon hv
  rcases g4 with ⟨a, b, c⟩ | ⟨a, b, c⟩
  · -- the head is written
    rw [a, List.take_length] at g3
    have hhead : (wrs s (preW at_ g l)).1.has at_ = headB (g + 1) (l.length : Int) := by
      rw [g3]; exact puts_get (preW_nodup hM.lis) (preW_head at_ g l)
    have hvis : ∀ k, ¬ Own at_ k → (wrs s (preW at_ g l)).1.has k = F k := fun k hk => by
      rw [g3, puts_far _ _ k (fun x hx e => hk (e ▸ preW_far hM.n hM.lis hx))]
      exact h.vis k hk
    by_cases hz : l.length = 0
    · have hl : l = [] := List.length_eq_zero_iff.1 hz
      have hc : commitR s at_ g l = ((wrs s (preW at_ g l)).1, 0, g + 1) := by unfold commitR; rw [if_pos hm, if_pos b, if_pos hz]
      rw [hc]
      refine ⟨g1, .inl ⟨rfl, c, rfl, ?_, ?_⟩⟩
      · rw [hhead, hz]; rfl
      · intro k hk
        rw [hvis k hk, hl]; rfl
    · have hc : commitR s at_ g l = ((wrs (wrs s (preW at_ g l)).1 (l ++ [(at_, headB (g + 1) 0)])).1, (wrs (wrs s (preW at_ g l)).1 (l ++ [(at_, headB (g + 1) 0)])).2, g + 1) := by unfold commitR; rw [if_pos hm, if_pos b, if_neg hz]
      have hH : Hand (wrs s (preW at_ g l)).1 at_ g l F := ⟨by omega, by rw [g1]; exact hM, hhead, by rw [g1, g3]; exact preW_tells s.has hM h2, fun k hk => .inl (hvis k hk)⟩
      obtain ⟨f1, f2⟩ := fin_plain hH c h0 (by rw [g1]; exact h1)
      rw [hc]
      refine ⟨f1.trans g1, ?_⟩
      rcases f2 with ⟨x, y, z⟩ | ⟨x, y, z⟩
      · exact .inl ⟨x, y, rfl, z⟩
      · exact .inr ⟨x, y, .inr z⟩
  · have hc : commitR s at_ g l = ((wrs s (preW at_ g l)).1, (wrs s (preW at_ g l)).2, g) := by unfold commitR; rw [if_pos hm, if_neg (by rw [b]; decide)]
    rw [hc]
    refine ⟨g1, .inr ⟨b, c, .inl ⟨?_, fun k hk => ?_⟩⟩⟩
    · show (wrs s (preW at_ g l)).1.has at_ = _
      rw [g3, preW_ahead _ _ a]; exact h.head
    · show (wrs s (preW at_ g l)).1.has k = _
      rw [g3, puts_far _ _ k (fun x hx e => hk (e ▸ preW_far hM.n hM.lis (List.mem_of_mem_take hx)))]
      exact h.vis k hk
theorem commit_no {s : FS} {at_ g : Int} {l : List PutT} (hm : mayB s.len at_ l = false) : commitR s at_ g l = (s, 20, g) := by
  unfold commitR; rw [if_neg (by rw [hm]; decide)]

/-! without a fuse -/
theorem write_free {s : FS} {i : Int} {bs : List Int} (hf : s.fuse = -1) (hon : s.off = false) (h0 : 0 ≤ i) (h1 : i < s.len) (h2 : bs.length = 64) : (s.write i bs).2 = 0 ∧ (s.write i bs).1.fuse = -1 ∧ (s.write i bs).1.off = false ∧ (s.write i bs).1.len = s.len := by
  unfold FS.write
  rw [if_pos (check_on hon h0 h1), if_pos h2, if_neg (by rw [hf]; decide), hf]
  exact ⟨rfl, rfl, hon, rfl⟩
theorem wrs_free {s : FS} {l : List PutT} (hf : s.fuse = -1) (hon : s.off = false) (hv : Valid s.len l) : (wrs s l).2 = 0 ∧ (wrs s l).1.fuse = -1 := by
  induction l generalizing s with
  | nil => exact ⟨rfl, hf⟩
  | cons x r ih =>
    obtain ⟨i, bs⟩ := x
    obtain ⟨h0, h1, h2⟩ := hv (i, bs) (List.mem_cons_self ..)
    obtain ⟨a, b, c, d⟩ := write_free (bs := bs) hf hon h0 h1 h2
    rw [wrs_ok a]
    exact ih b c (by rw [d]; exact fun y hy => hv y (List.mem_cons_of_mem _ hy))
theorem commit_free {s : FS} {at_ g : Int} {l : List PutT} (hf : s.fuse = -1) (hon : s.off = false) (h0 : 0 ≤ at_) (h1 : at_ + 199 ≤ s.len) (hm : mayB s.len at_ l = true) : (commitR s at_ g l).2.1 = 0 ∧ (commitR s at_ g l).1.fuse = -1 := by
  have hM := mayB_spec hm
  have hv := preW_valid (g := g) hM h0 h1
  obtain ⟨a, b⟩ := wrs_free hf hon hv
  obtain ⟨c1, c2, _⟩ := wrs_state hon hv a
  unfold commitR
  rw [if_pos hm, if_pos a]
  split
  · exact ⟨rfl, b⟩
  · exact wrs_free b c1 (by rw [c2]; exact valid_fin hM h0 h1)
theorem open_idle {s : FS} {at_ g : Int} : openR s at_ g [] = (s, 0) := rfl
theorem open_hand {s : FS} {at_ g : Int} {l : List PutT} {F : Int → List Int} (h : Hand s at_ g l F) : openR s at_ (g + 1) l = wrs s (l ++ [(at_, headB (g + 1) 0)]) := by
  unfold openR; rw [if_neg (by have := h.pos; omega)]
end Go.Proofs.Ytmfndobdkihbnaa.Dk
