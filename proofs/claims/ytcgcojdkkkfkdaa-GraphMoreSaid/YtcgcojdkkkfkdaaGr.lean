/-
  The plain mathematics of layer 8 (graph): the functions that the Go code of package graph and of its reference compute, on lists and numbers, and the laws that the statements need. No program in sight.
-/
namespace Go.Proofs.Ytcgcojdkkkfkdaa.Gr

/-- An edge: From, To, Notify. -/
abbrev E := Int × Int × Bool

def badE (n : Int) (x : E) : Bool := decide (min x.1 x.2.1 < 0) || decide (max x.1 x.2.1 ≥ n)
def bad (n : Int) (l : List E) : Bool := decide (n < 0) || decide (n > 32) || l.any (badE n)

def dn (d : List Bool) (i : Int) : Bool := d.getD i.toNat false

def waits (l : List E) (d : List Bool) (i : Int) : Int :=
  match l with
  | [] => -1
  | x :: r => if x.2.1 = i ∧ dn d x.1 = false then x.1 else waits r d i

def scan (l : List E) (d : List Bool) : Nat → Int → Int → Int × Int
  | 0, _, last => (-1, last)
  | k + 1, i, last => if dn d i then scan l d k (i + 1) last else if waits l d i < 0 then (i, i) else scan l d k (i + 1) i

def roundGo (l : List E) (d : List Bool) : Nat → List Int → Int → List Int × Int
  | 0, acc, i => (acc, i)
  | f + 1, acc, i => if acc.contains i then (acc, i) else roundGo l d f (acc ++ [i]) (waits l d i)

def round (l : List E) (d : List Bool) (last : Int) : List Int :=
  let p := roundGo l d 33 [] last
  (p.1.drop (p.1.idxOf p.2)).reverse

def ord (l : List E) (n : Nat) : Nat → List Bool → List Int → List Int × List Int × Int
  | 0, _, out => (out, [], 0)
  | f + 1, d, out =>
    let p := scan l d n 0 (-1)
    if p.1 < 0 then ([], round l d p.2, 80) else ord l n f (d.set p.1.toNat true) (out ++ [p.1])

def d0 : List Bool := List.replicate 32 false

def order (n : Int) (l : List E) : List Int × List Int × Int :=
  if bad n l then ([], [], 1) else ord l n.toNat n.toNat d0 []

/-! ## Facts on these -/

theorem dn_set (d : List Bool) (i : Int) (hi : 0 ≤ i) (hl : i.toNat < d.length) (j : Int) (hj : 0 ≤ j) :
    dn (d.set i.toNat true) j = if j = i then true else dn d j := by
  unfold dn
  rw [List.getD_eq_getElem?_getD, List.getD_eq_getElem?_getD, List.getElem?_set]
  by_cases h : j = i
  · subst h; simp [hl]
  · have : i.toNat ≠ j.toNat := by omega
    simp [h, this]

theorem waits_cases (l : List E) (d : List Bool) (i : Int) :
    (waits l d i = -1 ∧ ∀ x ∈ l, x.2.1 = i → dn d x.1 = true) ∨ (∃ x ∈ l, x.2.1 = i ∧ dn d x.1 = false ∧ waits l d i = x.1) := by
  induction l with
  | nil => left; simp [waits]
  | cons x r ih =>
    unfold waits
    by_cases h : x.2.1 = i ∧ dn d x.1 = false
    · right; rw [if_pos h]; exact ⟨x, by simp, h.1, h.2, rfl⟩
    · rw [if_neg h]
      rcases ih with ⟨h1, h2⟩ | ⟨y, hy, h1⟩
      · left
        refine ⟨h1, fun y hy e => ?_⟩
        rcases List.mem_cons.1 hy with rfl | hy
        · cases hd : dn d y.1
          · exact absurd ⟨e, hd⟩ h
          · rfl
        · exact h2 y hy e
      · right; exact ⟨y, List.mem_cons_of_mem _ hy, h1⟩

/-- What `scan` tells. -/
theorem scan_spec (l : List E) (d : List Bool) (hl : ∀ x ∈ l, 0 ≤ x.1) (k : Nat) : ∀ (i last : Int), 0 ≤ i →
    ((scan l d k i last).1 = -1 ∧ (∀ j : Int, i ≤ j → j < i + k → dn d j = false → ∃ x ∈ l, x.2.1 = j ∧ dn d x.1 = false ∧ waits l d j = x.1)
      ∧ (((scan l d k i last).2 = last ∧ ∀ j : Int, i ≤ j → j < i + k → dn d j = true) ∨ (i ≤ (scan l d k i last).2 ∧ (scan l d k i last).2 < i + k ∧ dn d (scan l d k i last).2 = false)))
    ∨ (i ≤ (scan l d k i last).1 ∧ (scan l d k i last).1 < i + k ∧ dn d (scan l d k i last).1 = false ∧ (∀ x ∈ l, x.2.1 = (scan l d k i last).1 → dn d x.1 = true)) := by
  induction k with
  | zero => intro i last hi; left; simp [scan]; exact ⟨fun j h1 h2 => by omega, .inl fun j h1 h2 => by omega⟩
  | succ k ih =>
    intro i last hi
    unfold scan
    by_cases hd : dn d i = true
    · rw [if_pos hd]
      rcases ih (i + 1) last (by omega) with ⟨h1, h2, h3⟩ | ⟨h1, h2, h3, h4⟩
      · left
        refine ⟨h1, fun j hj1 hj2 hj3 => ?_, ?_⟩
        · by_cases e : j = i
          · subst e; rw [hd] at hj3; cases hj3
          · exact h2 j (by omega) (by omega) hj3
        · rcases h3 with ⟨h3, h4⟩ | ⟨h3, h4, h5⟩
          · left; refine ⟨h3, fun j hj1 hj2 => ?_⟩
            by_cases e : j = i
            · subst e; exact hd
            · exact h4 j (by omega) (by omega)
          · right; exact ⟨by omega, by omega, h5⟩
      · right; exact ⟨by omega, by omega, h3, h4⟩
    · have hd' : dn d i = false := by simpa using hd
      rw [if_neg hd]
      by_cases hw : waits l d i < 0
      · rw [if_pos hw]
        right
        refine ⟨by simp, by simp; omega, hd', ?_⟩
        rcases waits_cases l d i with ⟨_, h⟩ | ⟨x, hx, _, _, h⟩
        · exact h
        · have := hl x hx; omega
      · rw [if_neg hw]
        rcases ih (i + 1) i (by omega) with ⟨h1, h2, h3⟩ | ⟨h1, h2, h3, h4⟩
        · left
          refine ⟨h1, fun j hj1 hj2 hj3 => ?_, ?_⟩
          · by_cases e : j = i
            · subst e
              rcases waits_cases l d j with ⟨h, _⟩ | h
              · omega
              · exact h
            · exact h2 j (by omega) (by omega) hj3
          · right
            rcases h3 with ⟨h3, h4⟩ | ⟨h3, h4, h5⟩
            · rw [h3]; exact ⟨by omega, by omega, hd'⟩
            · exact ⟨by omega, by omega, h5⟩
        · right; exact ⟨by omega, by omega, h3, h4⟩

/-- An edge leads from one to the other. -/
def Ed (l : List E) (a b : Int) : Prop := ∃ x ∈ l, x.1 = a ∧ x.2.1 = b

/-- A cycle: no number twice, each has an edge to the next, the last to the first. -/
structure Cyc (n : Int) (l : List E) (c : List Int) : Prop where
  ne : c ≠ []
  nodup : c.Nodup
  range : ∀ x ∈ c, 0 ≤ x ∧ x < n
  edge : ∀ i, i < c.length → Ed l (c.getD i 0) (c.getD ((i + 1) % c.length) 0)

/-- The pigeonhole: numbers below n, none twice, are n at most. -/
theorem pigeon (n : Nat) : ∀ (c : List Int), c.Nodup → (∀ x ∈ c, 0 ≤ x ∧ x < (n : Int)) → c.length ≤ n := by
  induction n with
  | zero =>
    intro c _ h
    cases c with
    | nil => simp
    | cons x r => have := h x (by simp); omega
  | succ n ih =>
    intro c hc h
    have h1 : (c.filter (fun x => decide (x ≠ (n : Int)))).length ≤ n := by
      refine ih _ (List.Pairwise.filter _ hc) fun x hx => ?_
      rw [List.mem_filter] at hx
      have := h x hx.1
      have h2 : x ≠ (n : Int) := by simpa using hx.2
      omega
    have h2 : c.length ≤ (c.filter (fun x => decide (x ≠ (n : Int)))).length + 1 := by
      clear h1 h ih
      induction c with
      | nil => simp
      | cons x r ihr =>
        have hr := ihr (List.nodup_cons.1 hc).2
        by_cases e : x = (n : Int)
        · have hx := (List.nodup_cons.1 hc).1
          have : r.filter (fun x => decide (x ≠ (n : Int))) = r := by
            rw [List.filter_eq_self]
            intro a ha
            have : a ≠ x := fun h => hx (h ▸ ha)
            simp; intro h; exact this (by omega)
          rw [List.filter_cons_of_neg (by simp [e]), this]; simp
        · rw [List.filter_cons_of_pos (by simp [e])]; simp only [List.length_cons]; omega
    omega

/-- From a state in which each that is not done waits for one that is not done, going back comes round. -/
structure Stuck (n : Nat) (l : List E) (d : List Bool) : Prop where
  wait : ∀ j : Int, 0 ≤ j → j < n → dn d j = false → ∃ x ∈ l, x.2.1 = j ∧ dn d x.1 = false ∧ waits l d j = x.1
  rng : ∀ x ∈ l, 0 ≤ x.1 ∧ x.1 < n ∧ 0 ≤ x.2.1 ∧ x.2.1 < n

/-- Along a walk back each waits for the next. -/
def Chain (l : List E) (d : List Bool) (acc : List Int) (i : Int) : Prop :=
  ∀ k, k < acc.length → waits l d (acc.getD k 0) = if k + 1 = acc.length then i else acc.getD (k + 1) 0

theorem roundGo_spec {n : Nat} {l : List E} {d : List Bool} (hs : Stuck n l d) (f : Nat) : ∀ (acc : List Int) (i : Int),
    acc.Nodup → (∀ x ∈ acc, 0 ≤ x ∧ x < (n : Int) ∧ dn d x = false) → (0 ≤ i ∧ i < (n : Int) ∧ dn d i = false) → Chain l d acc i → n + 1 ≤ f + acc.length →
    ∃ acc' i', roundGo l d f acc i = (acc', i') ∧ i' ∈ acc' ∧ acc'.Nodup ∧ (∀ x ∈ acc', 0 ≤ x ∧ x < (n : Int) ∧ dn d x = false) ∧ Chain l d acc' i' := by
  induction f with
  | zero =>
    intro acc i hn hr hi hc hf
    have := pigeon n acc hn (fun x hx => ⟨(hr x hx).1, (hr x hx).2.1⟩)
    omega
  | succ f ih =>
    intro acc i hn hr hi hc hf
    unfold roundGo
    by_cases h : acc.contains i = true
    · rw [if_pos h]
      exact ⟨acc, i, rfl, by simpa using h, hn, hr, hc⟩
    · rw [if_neg h]
      have hm : i ∉ acc := by simpa using h
      obtain ⟨x, hx, h1, h2, h3⟩ := hs.wait i hi.1 hi.2.1 hi.2.2
      refine ih (acc ++ [i]) (waits l d i) ?_ ?_ ?_ ?_ ?_
      · rw [List.nodup_append]
        refine ⟨hn, by simp, fun a ha b hb => ?_⟩
        simp at hb; subst hb; intro e; subst e; exact hm ha
      · intro y hy
        rcases List.mem_append.1 hy with hy | hy
        · exact hr y hy
        · simp at hy; subst hy; exact hi
      · rw [h3]; exact ⟨(hs.rng x hx).1, (hs.rng x hx).2.1, h2⟩
      · intro k hk
        simp only [List.length_append, List.length_cons, List.length_nil, Nat.zero_add] at hk ⊢
        by_cases e : k = acc.length
        · subst e
          rw [if_pos rfl]
          simp [List.getD_eq_getElem?_getD]
        · have hk' : k < acc.length := by omega
          rw [if_neg (by omega)]
          have h4 : (acc ++ [i]).getD k 0 = acc.getD k 0 := by
            rw [List.getD_eq_getElem?_getD, List.getD_eq_getElem?_getD, List.getElem?_append_left hk']
          rw [h4, hc k hk']
          by_cases e2 : k + 1 = acc.length
          · rw [if_pos e2]
            rw [List.getD_eq_getElem?_getD, e2]; simp
          · rw [if_neg e2, List.getD_eq_getElem?_getD, List.getD_eq_getElem?_getD, List.getElem?_append_left (by omega)]
      · simp; omega

theorem ed_of_wait {n : Nat} {l : List E} {d : List Bool} (hs : Stuck n l d) (j : Int) (h0 : 0 ≤ j) (h1 : j < n) (h2 : dn d j = false) : Ed l (waits l d j) j := by
  obtain ⟨x, hx, e1, e2, e3⟩ := hs.wait j h0 h1 h2
  exact ⟨x, hx, by rw [e3], e1⟩

theorem round_cyc {n : Nat} {l : List E} {d : List Bool} (hs : Stuck n l d) (hn : n ≤ 32) (last : Int) (hi : 0 ≤ last ∧ last < (n : Int) ∧ dn d last = false) :
    Cyc n l (round l d last) := by
  obtain ⟨acc, i, he, hm, hnd, hr, hc⟩ := roundGo_spec hs 33 [] last (by simp) (by simp) hi (by intro k hk; simp at hk) (by simp; omega)
  unfold round
  rw [he]
  simp only
  have hk : acc.idxOf i < acc.length := List.idxOf_lt_length_iff.2 hm
  obtain ⟨m, hmm⟩ : ∃ m, m = acc.idxOf i := ⟨_, rfl⟩
  have hget : acc.getD m 0 = i := by
    rw [hmm, List.getD_eq_getElem?_getD, List.getElem?_eq_getElem hk]
    simp
  rw [← hmm] at hk ⊢
  have hlen : (acc.drop m).reverse.length = acc.length - m := by simp
  have hat : ∀ j, j < acc.length - m → (acc.drop m).reverse.getD j 0 = acc.getD (acc.length - 1 - j) 0 := by
    intro j hj
    rw [List.getD_eq_getElem?_getD, List.getD_eq_getElem?_getD, List.getElem?_reverse (by simp; omega), List.getElem?_drop]
    congr 2
    simp; omega
  refine ⟨?_, ?_, ?_, ?_⟩
  · intro h
    have := congrArg List.length h
    simp at this; omega
  · exact List.pairwise_reverse.2 ((List.Pairwise.drop hnd).imp fun h => Ne.symm h)
  · intro x hx
    have := hr x (List.mem_of_mem_drop (List.mem_reverse.1 hx))
    exact ⟨this.1, this.2.1⟩
  · intro j hj
    rw [hlen] at hj ⊢
    rw [hat j hj]
    have memacc : ∀ k, k < acc.length → acc.getD k 0 ∈ acc := by
      intro k hk
      rw [List.getD_eq_getElem?_getD, List.getElem?_eq_getElem hk]; simp
    by_cases e : j + 1 = acc.length - m
    · rw [e, Nat.mod_self, hat 0 (by omega)]
      have h1 : acc.length - 1 - j = m := by omega
      rw [h1, hget]
      have hq := hc (acc.length - 1) (by omega)
      rw [if_pos (by omega)] at hq
      rw [Nat.sub_zero]
      have h2 := hr _ (memacc (acc.length - 1) (by omega))
      have := ed_of_wait hs _ h2.1 h2.2.1 h2.2.2
      rwa [hq] at this
    · rw [Nat.mod_eq_of_lt (by omega), hat (j + 1) (by omega)]
      have hq := hc (acc.length - 1 - (j + 1)) (by omega)
      rw [if_neg (by omega)] at hq
      have h3 : acc.length - 1 - (j + 1) + 1 = acc.length - 1 - j := by omega
      rw [h3] at hq
      have h2 := hr _ (memacc (acc.length - 1 - (j + 1)) (by omega))
      have := ed_of_wait hs _ h2.1 h2.2.1 h2.2.2
      rwa [hq] at this


/-- An order: each number once, each edge from what comes ahead to what comes behind. -/
structure Topo (n : Nat) (l : List E) (a : List Int) : Prop where
  nodup : a.Nodup
  range : ∀ x ∈ a, 0 ≤ x ∧ x < (n : Int)
  len : a.length = n
  edge : ∀ x ∈ l, a.idxOf x.1 < a.idxOf x.2.1

theorem all_in {n : Nat} {a : List Int} (hn : a.Nodup) (hr : ∀ x ∈ a, 0 ≤ x ∧ x < (n : Int)) (hl : a.length = n) (j : Int) (h0 : 0 ≤ j) (h1 : j < n) : j ∈ a := by
  refine Classical.byContradiction fun h => ?_
  have := pigeon n (j :: a) (List.nodup_cons.2 ⟨h, hn⟩) (fun x hx => by
    rcases List.mem_cons.1 hx with rfl | hx
    · exact ⟨h0, h1⟩
    · exact hr x hx)
  simp at this; omega

theorem idxOf_snoc_mem {a : List Int} {x y : Int} (h : x ∈ a) : (a ++ [y]).idxOf x = a.idxOf x := by
  rw [List.idxOf_append, if_pos h]
theorem idxOf_snoc_new {a : List Int} {y : Int} (h : y ∉ a) : (a ++ [y]).idxOf y = a.length := by
  rw [List.idxOf_append, if_neg h]; simp

theorem ord_spec {n : Nat} {l : List E} (hn : n ≤ 32) (hr : ∀ x ∈ l, 0 ≤ x.1 ∧ x.1 < (n : Int) ∧ 0 ≤ x.2.1 ∧ x.2.1 < (n : Int)) (f : Nat) : ∀ (d : List Bool) (out : List Int),
    d.length = 32 → (∀ j : Int, 0 ≤ j → (dn d j = true ↔ j ∈ out)) → out.Nodup → (∀ x ∈ out, 0 ≤ x ∧ x < (n : Int)) →
    (∀ x ∈ l, x.2.1 ∈ out → x.1 ∈ out ∧ out.idxOf x.1 < out.idxOf x.2.1) → f + out.length = n →
    (∃ a, ord l n f d out = (a, [], 0) ∧ Topo n l a) ∨ (∃ c, ord l n f d out = ([], c, 80) ∧ Cyc n l c) := by
  induction f with
  | zero =>
    intro d out hd hm hnd hrg he hf
    left
    refine ⟨out, rfl, hnd, hrg, by omega, fun x hx => ?_⟩
    have h1 := hr x hx
    exact (he x hx (all_in hnd hrg (by omega) _ h1.2.2.1 h1.2.2.2)).2
  | succ f ih =>
    intro d out hd hm hnd hrg he hf
    unfold ord
    simp only
    rcases scan_spec l d (fun x hx => (hr x hx).1) n 0 (-1) (by omega) with ⟨h1, h2, h3⟩ | ⟨h1, h2, h3, h4⟩
    · right
      rw [if_pos (by omega)]
      refine ⟨_, rfl, ?_⟩
      have hs : Stuck n l d := ⟨fun j h0 h1 h3 => h2 j (by omega) (by omega) h3, hr⟩
      refine round_cyc hs hn _ ?_
      rcases h3 with ⟨_, h3⟩ | ⟨h3, h4, h5⟩
      · exfalso
        -- all are done: out is full
        have hall : ∀ j : Int, 0 ≤ j → j < n → j ∈ out := fun j h0 h1 => (hm j h0).1 (h3 j (by omega) (by omega))
        have : n ≤ out.length := by
          have hr2 : ∀ x ∈ (List.range n).map (fun k : Nat => (k : Int)), x ∈ out := by
            intro x hx
            simp at hx
            obtain ⟨k, hk, rfl⟩ := hx
            exact hall _ (by omega) (by omega)
          have hnd2 : ((List.range n).map (fun k : Nat => (k : Int))).Nodup := by
            refine List.Pairwise.map _ ?_ List.nodup_range
            intro a b h; omega
          have := List.Nodup.length_le_of_subset hnd2 (fun x hx => hr2 x hx)
          simpa using this
        omega
      · exact ⟨h3, by omega, h5⟩
    · rw [if_neg (by omega)]
      obtain ⟨i, hi⟩ : ∃ i, i = (scan l d n 0 (-1)).1 := ⟨_, rfl⟩
      rw [← hi] at h1 h2 h3 h4 ⊢
      have hni : i ∉ out := fun h => by rw [(hm i h1).2 h] at h3; cases h3
      refine ih _ _ (by simp [hd]) ?_ ?_ ?_ ?_ (by simp; omega)
      · intro j hj
        rw [dn_set d i h1 (by omega) j hj]
        by_cases e : j = i
        · simp [e]
        · rw [if_neg e, hm j hj]; simp [e]
      · rw [List.nodup_append]
        refine ⟨hnd, by simp, fun a ha b hb => ?_⟩
        simp at hb; subst hb; intro e; subst e; exact hni ha
      · intro x hx
        rcases List.mem_append.1 hx with hx | hx
        · exact hrg x hx
        · simp at hx; subst hx; exact ⟨h1, by omega⟩
      · intro x hx hto
        rcases List.mem_append.1 hto with hto | hto
        · have h5 := he x hx hto
          exact ⟨List.mem_append_left _ h5.1, by rw [idxOf_snoc_mem h5.1, idxOf_snoc_mem hto]; exact h5.2⟩
        · simp at hto
          have h5 : x.1 ∈ out := (hm _ (hr x hx).1).1 (h4 x hx hto)
          refine ⟨List.mem_append_left _ h5, ?_⟩
          rw [idxOf_snoc_mem h5, hto, idxOf_snoc_new hni]
          exact List.idxOf_lt_length_iff.2 h5

theorem bad_false {n : Int} {l : List E} (h : bad n l = false) : 0 ≤ n ∧ n ≤ 32 ∧ ∀ x ∈ l, 0 ≤ x.1 ∧ x.1 < n ∧ 0 ≤ x.2.1 ∧ x.2.1 < n := by
  unfold bad at h
  simp only [Bool.or_eq_false_iff, decide_eq_false_iff_not, List.any_eq_false] at h
  refine ⟨by omega, by omega, fun x hx => ?_⟩
  have := h.2 x hx
  unfold badE at this
  simp at this
  omega

/-- What Order answers: an argument's error, an order, or a cycle. -/
theorem order_spec (n : Int) (l : List E) :
    (bad n l = true ∧ order n l = ([], [], 1)) ∨ (bad n l = false ∧ ∃ a, order n l = (a, [], 0) ∧ Topo n.toNat l a) ∨ (bad n l = false ∧ ∃ c, order n l = ([], c, 80) ∧ Cyc n.toNat l c) := by
  unfold order
  cases hb : bad n l
  · right
    obtain ⟨h0, h1, h2⟩ := bad_false hb
    rw [if_neg (by simp)]
    have := ord_spec (n := n.toNat) (l := l) (by omega) (fun x hx => by have := h2 x hx; omega) n.toNat d0 [] (by simp [d0])
      (fun j hj => by
        simp only [List.not_mem_nil, iff_false]
        unfold dn d0
        rw [List.getD_eq_getElem?_getD, List.getElem?_replicate]
        split <;> simp) (by simp) (by simp) (by simp) (by simp)
    rcases this with h | h
    · left; exact ⟨rfl, h⟩
    · right; exact ⟨rfl, h⟩
  · left; exact ⟨rfl, by simp⟩

/-- A cycle and a number that rises along each edge can't both be. -/
theorem cyc_rank {n : Int} {l : List E} {c : List Int} (hc : Cyc n l c) (r : Int → Nat) (h : ∀ x ∈ l, r x.1 < r x.2.1) : False := by
  have hpos : 0 < c.length := by
    rcases c with _ | ⟨x, t⟩
    · exact absurd rfl hc.ne
    · simp
  have step : ∀ k, k < c.length → r (c.getD k 0) < r (c.getD ((k + 1) % c.length) 0) := by
    intro k hk
    obtain ⟨x, hx, e1, e2⟩ := hc.edge k hk
    rw [← e1, ← e2]; exact h x hx
  have up : ∀ k, k < c.length → r (c.getD 0 0) ≤ r (c.getD k 0) := by
    intro k
    induction k with
    | zero => intro _; exact Nat.le_refl _
    | succ k ih =>
      intro hk
      have h1 := ih (by omega)
      have h2 := step k (by omega)
      rw [Nat.mod_eq_of_lt hk] at h2
      omega
  have h1 := up (c.length - 1) (by omega)
  have h2 := step (c.length - 1) (by omega)
  have h3 : c.length - 1 + 1 = c.length := by omega
  rw [h3, Nat.mod_self] at h2
  omega

/-- There is an order just if some number rises along each edge. -/
theorem order_ok_of_rank {n : Int} {l : List E} (hb : bad n l = false) (r : Int → Nat) (h : ∀ x ∈ l, r x.1 < r x.2.1) : ∃ a, order n l = (a, [], 0) ∧ Topo n.toNat l a := by
  rcases order_spec n l with ⟨h1, _⟩ | ⟨_, h1⟩ | ⟨_, c, _, h1⟩
  · rw [hb] at h1; cases h1
  · exact h1
  · exact (cyc_rank h1 r h).elim
theorem order_cyc_of {n : Int} {l : List E} (hb : bad n l = false) (h : ¬ ∃ r : Int → Nat, ∀ x ∈ l, r x.1 < r x.2.1) : ∃ c, order n l = ([], c, 80) ∧ Cyc n.toNat l c := by
  rcases order_spec n l with ⟨h1, _⟩ | ⟨_, a, _, h1⟩ | ⟨_, h1⟩
  · rw [hb] at h1; cases h1
  · exact absurd ⟨fun x => a.idxOf x, h1.edge⟩ h
  · exact h1


/-! ## The reference's order -/

def refFree (l : List E) (left : List Bool) (i : Int) (acc : Bool) : Bool := l.foldl (fun free x => free && !(decide (x.2.1 = i) && dn left x.1)) acc
/-- The scan from the greatest number down: `k` numbers are left, `next` is the least that was found free. -/
def refScan (l : List E) (left : List Bool) : Nat → Int → Int
  | 0, next => next
  | k + 1, next => refScan l left k (if refFree l left (k : Int) (dn left (k : Int)) then (k : Int) else next)
def refOrd (l : List E) (n : Nat) : Nat → List Bool → List Int → List Int × Int
  | 0, _, out => (out, 0)
  | f + 1, left, out =>
    let next := refScan l left n (-1)
    if next < 0 then ([], 80) else refOrd l n f (left.set next.toNat false) (out ++ [next])
def refOrder (n : Int) (l : List E) : List Int × Int :=
  if bad n l then ([], 1) else refOrd l n.toNat n.toNat (List.replicate n.toNat true) []

theorem refFree_eq (l : List E) (left : List Bool) (i : Int) : ∀ acc, refFree l left i acc = (acc && l.all fun x => !(decide (x.2.1 = i) && dn left x.1)) := by
  induction l with
  | nil => intro acc; simp [refFree]
  | cons x r ih =>
    intro acc
    have := ih (acc && !(decide (x.2.1 = i) && dn left x.1))
    unfold refFree at this ⊢
    rw [List.foldl_cons, this, List.all_cons, Bool.and_assoc]

/-- `left` is what `done` is not. -/
def Opp (n : Nat) (left d : List Bool) : Prop := ∀ j : Int, 0 ≤ j → j < n → dn left j = !dn d j

theorem waits_nonneg (l : List E) (d : List Bool) (i : Int) (hl : ∀ x ∈ l, 0 ≤ x.1) : (waits l d i < 0 ↔ ∀ x ∈ l, x.2.1 = i → dn d x.1 = true) := by
  rcases waits_cases l d i with ⟨h, h'⟩ | ⟨x, hx, h1, h2, h3⟩
  · exact ⟨fun _ => h', fun _ => by omega⟩
  · constructor
    · intro h; have := hl x hx; omega
    · intro h; have := h x hx h1; rw [h2] at this; cases this

theorem free_iff {n : Nat} {l : List E} {left d : List Bool} (ho : Opp n left d) (hr : ∀ x ∈ l, 0 ≤ x.1 ∧ x.1 < (n : Int) ∧ 0 ≤ x.2.1 ∧ x.2.1 < (n : Int)) (i : Int) (h0 : 0 ≤ i) (h1 : i < n) :
    (refFree l left i (dn left i) = true ↔ (dn d i = false ∧ waits l d i < 0)) := by
  rw [refFree_eq, Bool.and_eq_true, List.all_eq_true, waits_nonneg l d i (fun x hx => (hr x hx).1), ho i h0 h1]
  have : (∀ x ∈ l, (!(decide (x.2.1 = i) && dn left x.1)) = true) ↔ (∀ x ∈ l, x.2.1 = i → dn d x.1 = true) := by
    constructor
    · intro h x hx e
      have h2 := h x hx
      rw [ho _ (hr x hx).1 (hr x hx).2.1] at h2
      simpa [e] using h2
    · intro h x hx
      rw [ho _ (hr x hx).1 (hr x hx).2.1]
      by_cases e : x.2.1 = i
      · simp [h x hx e]
      · simp [e]
  rw [this]
  simp

/-- The least free number from i on, by the scan upward. -/
theorem scan_least {l : List E} {d : List Bool} (k : Nat) : ∀ (i last : Int), 0 ≤ i →
    ((scan l d k i last).1 = -1 ∧ ∀ j : Int, i ≤ j → j < i + k → ¬ (dn d j = false ∧ waits l d j < 0)) ∨
    (i ≤ (scan l d k i last).1 ∧ (scan l d k i last).1 < i + k ∧ (dn d (scan l d k i last).1 = false ∧ waits l d (scan l d k i last).1 < 0) ∧ ∀ j : Int, i ≤ j → j < (scan l d k i last).1 → ¬ (dn d j = false ∧ waits l d j < 0)) := by
  induction k with
  | zero => intro i last hi; left; exact ⟨rfl, fun j h1 h2 => by omega⟩
  | succ k ih =>
    intro i last hi
    unfold scan
    by_cases hd : dn d i = true
    · rw [if_pos hd]
      rcases ih (i + 1) last (by omega) with ⟨h1, h2⟩ | ⟨h1, h2, h3, h4⟩
      · left; refine ⟨h1, fun j hj1 hj2 h => ?_⟩
        by_cases e : j = i
        · subst e; rw [hd] at h; cases h.1
        · exact h2 j (by omega) (by omega) h
      · right; refine ⟨by omega, by omega, h3, fun j hj1 hj2 h => ?_⟩
        by_cases e : j = i
        · subst e; rw [hd] at h; cases h.1
        · exact h4 j (by omega) (by omega) h
    · rw [if_neg hd]
      have hd' : dn d i = false := by simpa using hd
      by_cases hw : waits l d i < 0
      · rw [if_pos hw]; right; exact ⟨by simp, by simp; omega, ⟨hd', hw⟩, fun j h1 h2 => by simp at h2; omega⟩
      · rw [if_neg hw]
        rcases ih (i + 1) i (by omega) with ⟨h1, h2⟩ | ⟨h1, h2, h3, h4⟩
        · left; refine ⟨h1, fun j hj1 hj2 h => ?_⟩
          by_cases e : j = i
          · subst e; exact hw h.2
          · exact h2 j (by omega) (by omega) h
        · right; refine ⟨by omega, by omega, h3, fun j hj1 hj2 h => ?_⟩
          by_cases e : j = i
          · subst e; exact hw h.2
          · exact h4 j (by omega) (by omega) h

theorem refScan_least {l : List E} {left : List Bool} (P : Int → Prop) (hP : ∀ i : Int, refFree l left i (dn left i) = true ↔ P i) (k : Nat) : ∀ (next : Int),
    ((∀ j : Int, 0 ≤ j → j < k → ¬ P j) ∧ refScan l left k next = next) ∨
    (0 ≤ refScan l left k next ∧ refScan l left k next < k ∧ P (refScan l left k next) ∧ ∀ j : Int, 0 ≤ j → j < refScan l left k next → ¬ P j) := by
  induction k with
  | zero => intro next; left; exact ⟨fun j h1 h2 => by omega, rfl⟩
  | succ k ih =>
    intro next
    unfold refScan
    rcases ih (if refFree l left (k : Int) (dn left (k : Int)) then (k : Int) else next) with ⟨h1, h2⟩ | ⟨h1, h2, h3, h4⟩
    · by_cases hk : refFree l left (k : Int) (dn left (k : Int)) = true
      · right
        rw [if_pos hk] at h2 ⊢
        rw [h2]
        exact ⟨by omega, by omega, (hP _).1 hk, fun j h3 h4 => h1 j h3 h4⟩
      · left
        rw [if_neg hk] at h2 ⊢
        refine ⟨fun j h3 h4 h5 => ?_, h2⟩
        by_cases e : j = (k : Int)
        · subst e; exact hk ((hP _).2 h5)
        · exact h1 j h3 (by omega) h5
    · right; exact ⟨h1, by omega, h3, h4⟩

theorem refScan_eq {n : Nat} {l : List E} {left d : List Bool} (ho : Opp n left d) (hr : ∀ x ∈ l, 0 ≤ x.1 ∧ x.1 < (n : Int) ∧ 0 ≤ x.2.1 ∧ x.2.1 < (n : Int)) :
    refScan l left n (-1) = (scan l d n 0 (-1)).1 := by
  have key := free_iff ho hr
  rcases refScan_least (l := l) (left := left) (fun i => refFree l left i (dn left i) = true) (fun i => Iff.rfl) n (-1) with ⟨h1, h2⟩ | ⟨h1, h2, h3, h4⟩
  · rcases scan_least (l := l) (d := d) n 0 (-1) (by omega) with ⟨h5, h6⟩ | ⟨h5, h6, h7, h8⟩
    · rw [h2, h5]
    · exact absurd ((key _ h5 (by omega)).2 h7) (h1 _ h5 (by omega))
  · rcases scan_least (l := l) (d := d) n 0 (-1) (by omega) with ⟨h5, h6⟩ | ⟨h5, h6, h7, h8⟩
    · exact absurd ((key _ h1 h2).1 h3) (h6 _ h1 (by omega))
    · rcases Int.lt_trichotomy (refScan l left n (-1)) (scan l d n 0 (-1)).1 with h | h | h
      · exact absurd ((key _ h1 h2).1 h3) (h8 _ h1 h)
      · exact h
      · exact absurd ((key _ h5 (by omega)).2 h7) (h4 _ h5 h)

theorem refOrd_eq {n : Nat} {l : List E} (hn : n ≤ 32) (hr : ∀ x ∈ l, 0 ≤ x.1 ∧ x.1 < (n : Int) ∧ 0 ≤ x.2.1 ∧ x.2.1 < (n : Int)) (f : Nat) : ∀ (left d : List Bool) (out : List Int),
    left.length = n → d.length = 32 → Opp n left d → (refOrd l n f left out).1 = (ord l n f d out).1 ∧ (refOrd l n f left out).2 = (ord l n f d out).2.2 := by
  induction f with
  | zero => intro left d out _ _ _; exact ⟨rfl, rfl⟩
  | succ f ih =>
    intro left d out hl hd ho
    unfold refOrd ord
    simp only
    rw [refScan_eq ho hr]
    obtain ⟨i, hi⟩ : ∃ i, i = (scan l d n 0 (-1)).1 := ⟨_, rfl⟩
    rw [← hi]
    by_cases h : i < 0
    · rw [if_pos h, if_pos h]; exact ⟨rfl, rfl⟩
    · rw [if_neg h, if_neg h]
      have hin : i < n := by
        rcases scan_least (l := l) (d := d) n 0 (-1) (by omega) with ⟨h5, _⟩ | ⟨h5, h6, _, _⟩ <;> omega
      refine ih _ _ _ (by simpa using hl) (by simpa using hd) ?_
      intro j hj0 hj1
      rw [dn_set d i (by omega) (by omega) j hj0]
      have : dn (left.set i.toNat false) j = if j = i then false else dn left j := by
        unfold dn
        rw [List.getD_eq_getElem?_getD, List.getD_eq_getElem?_getD, List.getElem?_set]
        by_cases e : j = i
        · subst e; simp; split <;> rfl
        · have : i.toNat ≠ j.toNat := by omega
          simp [e, this]
      rw [this]
      split
      · rfl
      · exact ho j hj0 hj1

theorem refOrder_eq (n : Int) (l : List E) : (refOrder n l).1 = (order n l).1 ∧ (refOrder n l).2 = (order n l).2.2 := by
  unfold refOrder order
  cases hb : bad n l
  · obtain ⟨h0, h1, h2⟩ := bad_false hb
    rw [if_neg (by simp), if_neg (by simp)]
    refine refOrd_eq (by omega) (fun x hx => by have := h2 x hx; omega) _ _ _ _ (by simp) (by simp [d0]) ?_
    intro j hj0 hj1
    unfold dn d0
    rw [List.getD_eq_getElem?_getD, List.getD_eq_getElem?_getD, List.getElem?_replicate, List.getElem?_replicate, if_pos (by omega), if_pos (by omega)]
    rfl
  · rw [if_pos rfl, if_pos rfl]; exact ⟨rfl, rfl⟩

/-! ## What is behind a number -/

/-- By one edge or more. -/
inductive Rch (l : List E) (a : Int) : Int → Prop
  | one {b : Int} : Ed l a b → Rch l a b
  | step {b c : Int} : Rch l a b → Ed l b c → Rch l a c

def edgesOf (l : List E) (i : Int) (s : List Bool) (todo : List Int) : List Bool × List Int :=
  l.foldl (fun p x => if x.1 = i ∧ dn p.1 x.2.1 = false then (p.1.set x.2.1.toNat true, p.2 ++ [x.2.1]) else p) (s, todo)
def bfs (l : List E) : Nat → List Bool → List Int → List Bool
  | 0, s, _ => s
  | _ + 1, s, [] => s
  | f + 1, s, i :: t => let p := edgesOf l i s t; bfs l f p.1 p.2
def collect (s : List Bool) (n : Nat) : List Int := ((List.range n).map (fun k : Nat => (k : Int))).filter (fun i => dn s i)
def behind (n : Int) (l : List E) (from_ : Int) : List Int :=
  if bad n l ∨ from_ < 0 ∨ n ≤ from_ then [] else collect (bfs l 33 d0 [from_]) 32

def cntF (s : List Bool) : Nat := s.count false

theorem cntF_set (s : List Bool) (i : Nat) (h : s.getD i false = false) (hi : i < s.length) : cntF (s.set i true) + 1 = cntF s := by
  unfold cntF
  induction s generalizing i with
  | nil => simp at hi
  | cons b r ih =>
    cases i with
    | zero => simp at h; subst h; simp
    | succ i =>
      simp at h hi
      have := ih i (by simpa using h) (by omega)
      simp only [List.set_cons_succ, List.count_cons]
      omega

/-- One number's edges: what is seen behind it. -/
structure Step (l : List E) (i : Int) (s : List Bool) (t : List Int) (s' : List Bool) (t' : List Int) : Prop where
  len : s'.length = s.length
  meas : cntF s' + t'.length = cntF s + t.length
  keeps : ∀ j : Int, 0 ≤ j → dn s j = true → dn s' j = true
  todo : ∀ j ∈ t, j ∈ t'
  new : ∀ j : Int, 0 ≤ j → dn s' j = true → dn s j = true ∨ (Ed l i j ∧ j ∈ t')
  newt : ∀ j ∈ t', j ∈ t ∨ Ed l i j
  full : ∀ x ∈ l, x.1 = i → dn s' x.2.1 = true

theorem edgesOf_step (i : Int) (l : List E) : ∀ (s : List Bool) (t : List Int), s.length = 32 → (∀ x ∈ l, 0 ≤ x.2.1 ∧ x.2.1 < 32) →
    Step l i s t (edgesOf l i s t).1 (edgesOf l i s t).2 := by
  induction l with
  | nil => intro s t _ _; exact ⟨rfl, rfl, fun _ _ h => h, fun _ h => h, fun _ _ h => .inl h, fun _ h => .inl h, fun x hx => by simp at hx⟩
  | cons x r ih =>
    intro s t hs hr
    have hx := hr x (by simp)
    unfold edgesOf
    rw [List.foldl_cons]
    have lift : ∀ {a b : Int}, Ed r a b → Ed (x :: r) a b := fun ⟨y, hy, h⟩ => ⟨y, List.mem_cons_of_mem _ hy, h⟩
    by_cases h : x.1 = i ∧ dn s x.2.1 = false
    · simp only [h, and_self, if_true]
      have hst : s.getD x.2.1.toNat false = false := h.2
      obtain ⟨a, b, c, d, e, g, k⟩ := ih (s.set x.2.1.toNat true) (t ++ [x.2.1]) (by simpa using hs) (fun y hy => hr y (List.mem_cons_of_mem _ hy))
      unfold edgesOf at a b c d e g k
      have hset : ∀ j : Int, 0 ≤ j → dn (s.set x.2.1.toNat true) j = if j = x.2.1 then true else dn s j := fun j hj => dn_set s x.2.1 hx.1 (by omega) j hj
      refine ⟨by rw [a]; simp, ?_, ?_, ?_, ?_, ?_, ?_⟩
      · rw [b]; have := cntF_set s x.2.1.toNat hst (by omega); simp; omega
      · intro j hj hd; refine c j hj ?_; rw [hset j hj]; split
        · rfl
        · exact hd
      · intro j hj; exact d j (List.mem_append_left _ hj)
      · intro j hj hd
        rcases e j hj hd with h1 | ⟨h1, h2⟩
        · rw [hset j hj] at h1
          by_cases e2 : j = x.2.1
          · right; subst e2; exact ⟨⟨x, by simp, h.1, rfl⟩, d _ (by simp)⟩
          · rw [if_neg e2] at h1; exact .inl h1
        · exact .inr ⟨lift h1, h2⟩
      · intro j hj
        rcases g j hj with h1 | h1
        · rcases List.mem_append.1 h1 with h1 | h1
          · exact .inl h1
          · simp at h1; subst h1; exact .inr ⟨x, by simp, h.1, rfl⟩
        · exact .inr (lift h1)
      · intro y hy e2
        rcases List.mem_cons.1 hy with rfl | hy
        · refine c _ hx.1 ?_; rw [hset _ hx.1]; simp
        · exact k y hy e2
    · rw [if_neg h]
      obtain ⟨a, b, c, d, e, g, k⟩ := ih s t hs (fun y hy => hr y (List.mem_cons_of_mem _ hy))
      unfold edgesOf at a b c d e g k
      refine ⟨a, b, c, d, ?_, ?_, ?_⟩
      · intro j hj hd
        rcases e j hj hd with h1 | ⟨h1, h2⟩
        · exact .inl h1
        · exact .inr ⟨lift h1, h2⟩
      · intro j hj
        rcases g j hj with h1 | h1
        · exact .inl h1
        · exact .inr (lift h1)
      · intro y hy e2
        rcases List.mem_cons.1 hy with rfl | hy
        · have : dn s y.2.1 = true := by
            cases hd : dn s y.2.1
            · exact absurd ⟨e2, hd⟩ h
            · rfl
          exact c _ hx.1 this
        · exact k y hy e2

theorem bfs_spec {l : List E} (hr : ∀ x ∈ l, 0 ≤ x.1 ∧ x.1 < 32 ∧ 0 ≤ x.2.1 ∧ x.2.1 < 32) (a : Int) (f : Nat) : ∀ (s : List Bool) (t : List Int),
    s.length = 32 → (∀ j : Int, 0 ≤ j → dn s j = true → Rch l a j) → (∀ j ∈ t, j = a ∨ Rch l a j) →
    (∀ j : Int, 0 ≤ j → (j = a ∨ dn s j = true) → j ∈ t ∨ ∀ x ∈ l, x.1 = j → dn s x.2.1 = true) → cntF s + t.length ≤ f →
    (∀ j : Int, 0 ≤ j → dn (bfs l f s t) j = true → Rch l a j) ∧ (∀ j : Int, 0 ≤ j → (j = a ∨ dn (bfs l f s t) j = true) → ∀ x ∈ l, x.1 = j → dn (bfs l f s t) x.2.1 = true) := by
  induction f with
  | zero =>
    intro s t hs h1 h2 h3 hf
    have : t = [] := List.eq_nil_of_length_eq_zero (by omega)
    subst this
    refine ⟨h1, fun j hj h => ?_⟩
    rcases h3 j hj h with h | h
    · simp at h
    · exact h
  | succ f ih =>
    intro s t hs h1 h2 h3 hf
    cases t with
    | nil =>
      refine ⟨h1, fun j hj h => ?_⟩
      rcases h3 j hj h with h | h
      · simp at h
      · exact h
    | cons i t =>
      unfold bfs
      simp only
      obtain ⟨b1, b2, b3, b4, b5, b6, b7⟩ := edgesOf_step i l s t hs (fun x hx => (hr x hx).2.2)
      have ria : ∀ j, Ed l i j → Rch l a j := fun j he => by
        rcases h2 i (by simp) with rfl | h
        · exact .one he
        · exact .step h he
      refine ih _ _ (by rw [b1, hs]) ?_ ?_ ?_ ?_
      · intro j hj hd
        rcases b5 j hj hd with h | ⟨h, _⟩
        · exact h1 j hj h
        · exact ria j h
      · intro j hj
        rcases b6 j hj with h | h
        · exact h2 j (List.mem_cons_of_mem _ h)
        · exact .inr (ria j h)
      · intro j hj h
        by_cases e : j = i
        · right; subst e; exact b7
        · by_cases hold : j = a ∨ dn s j = true
          · rcases h3 j hj hold with h4 | h4
            · rcases List.mem_cons.1 h4 with h5 | h5
              · exact absurd h5 e
              · exact .inl (b4 j h5)
            · right; intro x hx ex; exact b3 _ (hr x hx).2.2.1 (h4 x hx ex)
          · rcases h with h | h
            · exact absurd (.inl h) hold
            · rcases b5 j hj h with h4 | ⟨_, h4⟩
              · exact absurd (.inr h4) hold
              · exact .inl h4
      · simp only [List.length_cons] at hf; omega

theorem dn_d0 (j : Int) : dn d0 j = false := by
  unfold dn d0
  rw [List.getD_eq_getElem?_getD, List.getElem?_replicate]
  split <;> simp

theorem rch_range {l : List E} {n : Int} (hr : ∀ x ∈ l, 0 ≤ x.1 ∧ x.1 < n ∧ 0 ≤ x.2.1 ∧ x.2.1 < n) {a b : Int} (h : Rch l a b) : 0 ≤ b ∧ b < n := by
  cases h with
  | one h => obtain ⟨x, hx, _, rfl⟩ := h; exact ⟨(hr x hx).2.2.1, (hr x hx).2.2.2⟩
  | step _ h => obtain ⟨x, hx, _, rfl⟩ := h; exact ⟨(hr x hx).2.2.1, (hr x hx).2.2.2⟩

theorem bfs_iff {n : Int} {l : List E} (hn : n ≤ 32) (hr : ∀ x ∈ l, 0 ≤ x.1 ∧ x.1 < n ∧ 0 ≤ x.2.1 ∧ x.2.1 < n) (a : Int) (ha : 0 ≤ a) (j : Int) (hj : 0 ≤ j) :
    dn (bfs l 33 d0 [a]) j = true ↔ Rch l a j := by
  obtain ⟨h1, h2⟩ := bfs_spec (l := l) (fun x hx => by have := hr x hx; omega) a 33 d0 [a] (by simp [d0]) (fun j _ h => by rw [dn_d0] at h; cases h) (fun j hj => by simp at hj; exact .inl hj)
    (fun j _ h => by
      rcases h with h | h
      · left; simp [h]
      · rw [dn_d0] at h; cases h) (by simp [cntF, d0])
  refine ⟨h1 j hj, fun h => ?_⟩
  induction h with
  | one he => obtain ⟨x, hx, e1, rfl⟩ := he; exact h2 a ha (.inl rfl) x hx e1
  | step hb he ih =>
    obtain ⟨x, hx, e1, rfl⟩ := he
    have hb0 := (rch_range hr hb).1
    exact h2 _ hb0 (.inr (ih hb0)) x hx e1

theorem mem_collect (s : List Bool) (n : Nat) (j : Int) : j ∈ collect s n ↔ 0 ≤ j ∧ j < n ∧ dn s j = true := by
  unfold collect
  rw [List.mem_filter, List.mem_map]
  constructor
  · rintro ⟨⟨k, hk, rfl⟩, h⟩
    rw [List.mem_range] at hk
    exact ⟨by omega, by omega, h⟩
  · rintro ⟨h0, h1, h⟩
    exact ⟨⟨j.toNat, by rw [List.mem_range]; omega, by omega⟩, h⟩

theorem mem_behind {n : Int} {l : List E} (hb : bad n l = false) (a : Int) (ha : 0 ≤ a) (han : a < n) (j : Int) : j ∈ behind n l a ↔ Rch l a j := by
  obtain ⟨h0, h1, h2⟩ := bad_false hb
  unfold behind
  rw [if_neg (by rw [hb]; simp; omega), mem_collect]
  constructor
  · rintro ⟨hj, _, h⟩; exact (bfs_iff h1 h2 a ha j hj).1 h
  · intro h
    have := rch_range h2 h
    exact ⟨this.1, by omega, (bfs_iff h1 h2 a ha j this.1).2 h⟩

/-! ## The reference's -/

def refEdge (a : Int) (s : List Bool) (x : E) : List Bool := if x.1 = a ∨ dn s x.1 = true then s.set x.2.1.toNat true else s
def refTurn (l : List E) (a : Int) (s : List Bool) : List Bool := l.foldl (refEdge a) s
def refTurns (l : List E) (a : Int) : Nat → List Bool → List Bool
  | 0, s => s
  | k + 1, s => refTurns l a k (refTurn l a s)
def refBehind (n : Int) (l : List E) (from_ : Int) : List Int :=
  if bad n l ∨ from_ < 0 ∨ n ≤ from_ then [] else collect (refTurns l from_ (n.toNat + 1) (List.replicate n.toNat false)) n.toNat

theorem set_true_self (s : List Bool) (i : Nat) (h : s.getD i false = true) : s.set i true = s := by
  induction s generalizing i with
  | nil => simp
  | cons b r ih =>
    cases i with
    | zero => simp at h; subst h; simp
    | succ i => simp at h; simp [ih i (by simpa using h)]

theorem refTurn_cases {n : Nat} (a : Int) (l : List E) : ∀ (s : List Bool), s.length = n → (∀ x ∈ l, 0 ≤ x.1 ∧ x.1 < (n : Int) ∧ 0 ≤ x.2.1 ∧ x.2.1 < (n : Int)) →
    (refTurn l a s).length = n ∧ cntF (refTurn l a s) ≤ cntF s ∧
    (cntF (refTurn l a s) < cntF s ∨ (refTurn l a s = s ∧ ∀ x ∈ l, (x.1 = a ∨ dn s x.1 = true) → dn s x.2.1 = true)) := by
  induction l with
  | nil => intro s hs _; exact ⟨hs, Nat.le_refl _, .inr ⟨rfl, fun x hx => by simp at hx⟩⟩
  | cons x r ih =>
    intro s hs hr
    unfold refTurn
    rw [List.foldl_cons]
    have hx := hr x (by simp)
    by_cases h : x.1 = a ∨ dn s x.1 = true
    · have e1 : refEdge a s x = s.set x.2.1.toNat true := by unfold refEdge; rw [if_pos h]
      rw [e1]
      cases hd : dn s x.2.1
      · have hc := cntF_set s x.2.1.toNat hd (by omega)
        obtain ⟨h1, h2, _⟩ := ih (s.set x.2.1.toNat true) (by simpa using hs) (fun y hy => hr y (List.mem_cons_of_mem _ hy))
        unfold refTurn at h1 h2
        exact ⟨h1, by omega, .inl (by omega)⟩
      · rw [set_true_self s _ hd]
        obtain ⟨h1, h2, h3⟩ := ih s hs (fun y hy => hr y (List.mem_cons_of_mem _ hy))
        unfold refTurn at h1 h2 h3
        refine ⟨h1, h2, ?_⟩
        rcases h3 with h3 | ⟨h3, h4⟩
        · exact .inl h3
        · refine .inr ⟨h3, fun y hy hy2 => ?_⟩
          rcases List.mem_cons.1 hy with rfl | hy
          · exact hd
          · exact h4 y hy hy2
    · have e1 : refEdge a s x = s := by unfold refEdge; rw [if_neg h]
      rw [e1]
      obtain ⟨h1, h2, h3⟩ := ih s hs (fun y hy => hr y (List.mem_cons_of_mem _ hy))
      unfold refTurn at h1 h2 h3
      refine ⟨h1, h2, ?_⟩
      rcases h3 with h3 | ⟨h3, h4⟩
      · exact .inl h3
      · refine .inr ⟨h3, fun y hy hy2 => ?_⟩
        rcases List.mem_cons.1 hy with rfl | hy
        · exact absurd hy2 h
        · exact h4 y hy hy2

theorem refTurn_sound (a : Int) (l0 : List E) (l : List E) : ∀ (s : List Bool), (∀ x ∈ l, x ∈ l0) → (∀ x ∈ l, 0 ≤ x.1 ∧ 0 ≤ x.2.1) → (∀ j : Int, 0 ≤ j → dn s j = true → Rch l0 a j) →
    ∀ j : Int, 0 ≤ j → dn (refTurn l a s) j = true → Rch l0 a j := by
  induction l with
  | nil => intro s _ _ h; exact h
  | cons x r ih =>
    intro s hm hr h
    unfold refTurn
    rw [List.foldl_cons]
    refine ih _ (fun y hy => hm y (List.mem_cons_of_mem _ hy)) (fun y hy => hr y (List.mem_cons_of_mem _ hy)) ?_
    intro j hj hd
    unfold refEdge at hd
    split at hd
    · rename_i hc
      by_cases e : j = x.2.1
      · subst e
        have he : ∀ b, x.1 = b → Ed l0 b x.2.1 := fun b e => ⟨x, hm x (by simp), e, rfl⟩
        rcases hc with hc | hc
        · exact .one (he _ hc)
        · exact .step (h _ (hr x (by simp)).1 hc) (he _ rfl)
      · refine h j hj ?_
        unfold dn at hd ⊢
        have h0 := (hr x (by simp)).2
        rwa [List.getD_eq_getElem?_getD, List.getElem?_set, if_neg (by omega), ← List.getD_eq_getElem?_getD] at hd
    · exact h j hj hd

theorem refTurns_spec {n : Nat} {l : List E} (hr : ∀ x ∈ l, 0 ≤ x.1 ∧ x.1 < (n : Int) ∧ 0 ≤ x.2.1 ∧ x.2.1 < (n : Int)) (a : Int) (k : Nat) : ∀ (s : List Bool), s.length = n →
    (∀ j : Int, 0 ≤ j → dn s j = true → Rch l a j) → (cntF s < k ∨ ∀ x ∈ l, (x.1 = a ∨ dn s x.1 = true) → dn s x.2.1 = true) →
    (∀ j : Int, 0 ≤ j → dn (refTurns l a k s) j = true → Rch l a j) ∧ ∀ x ∈ l, (x.1 = a ∨ dn (refTurns l a k s) x.1 = true) → dn (refTurns l a k s) x.2.1 = true := by
  induction k with
  | zero =>
    intro s hs h1 h2
    rcases h2 with h2 | h2
    · omega
    · exact ⟨h1, h2⟩
  | succ k ih =>
    intro s hs h1 h2
    unfold refTurns
    obtain ⟨b1, b2, b3⟩ := refTurn_cases a l s hs hr
    refine ih _ b1 (refTurn_sound a l l s (fun _ h => h) (fun x hx => ⟨(hr x hx).1, (hr x hx).2.2.1⟩) h1) ?_
    rcases b3 with b3 | ⟨b3, b4⟩
    · rcases h2 with h2 | h2
      · left; omega
      · -- closed already: nothing is new
        have : refTurn l a s = s := by
          have key : ∀ (m : List E), (∀ x ∈ m, x ∈ l) → m.foldl (refEdge a) s = s := by
            intro m
            induction m with
            | nil => intro _; rfl
            | cons x r ihm =>
              intro hm
              rw [List.foldl_cons]
              have : refEdge a s x = s := by
                unfold refEdge
                split
                · rename_i hc; exact set_true_self s _ (h2 x (hm x (by simp)) hc)
                · rfl
              rw [this]
              exact ihm (fun y hy => hm y (List.mem_cons_of_mem _ hy))
          exact key l (fun _ h => h)
        rw [this] at b3; omega
    · right; rw [b3]; exact b4

theorem refBehind_eq (n : Int) (l : List E) (a : Int) : behind n l a = refBehind n l a := by
  unfold behind refBehind
  by_cases h : bad n l ∨ a < 0 ∨ n ≤ a
  · rw [if_pos h, if_pos h]
  · rw [if_neg h, if_neg h]
    simp only [not_or, Int.not_lt, Int.not_le] at h
    obtain ⟨hb, h1, h2⟩ := h
    have hb : bad n l = false := by simpa using hb
    obtain ⟨h0, h32, hr⟩ := bad_false hb
    have hr' : ∀ x ∈ l, 0 ≤ x.1 ∧ x.1 < (n.toNat : Int) ∧ 0 ≤ x.2.1 ∧ x.2.1 < (n.toNat : Int) := fun x hx => by have := hr x hx; omega
    have hrep : ∀ j : Int, dn (List.replicate n.toNat false) j = false := by
      intro j; unfold dn
      rw [List.getD_eq_getElem?_getD, List.getElem?_replicate]
      split <;> simp
    obtain ⟨c1, c2⟩ := refTurns_spec hr' a (n.toNat + 1) (List.replicate n.toNat false) (by simp) (fun j _ h => by rw [hrep] at h; cases h) (.inl (by simp [cntF]))
    have hiff : ∀ j : Int, 0 ≤ j → (dn (refTurns l a (n.toNat + 1) (List.replicate n.toNat false)) j = true ↔ Rch l a j) := by
      intro j hj
      refine ⟨c1 j hj, fun h => ?_⟩
      induction h with
      | one he => obtain ⟨x, hx, e1, rfl⟩ := he; exact c2 x hx (.inl e1)
      | step hb he ih =>
        obtain ⟨x, hx, rfl, rfl⟩ := he
        exact c2 x hx (.inr (ih (hr x hx).1))
    have heq : ∀ j : Int, 0 ≤ j → dn (bfs l 33 d0 [a]) j = dn (refTurns l a (n.toNat + 1) (List.replicate n.toNat false)) j := by
      intro j hj
      rw [Bool.eq_iff_iff, bfs_iff h32 hr a h1 j hj, hiff j hj]
    unfold collect
    obtain ⟨m, hm⟩ : ∃ m, 32 = n.toNat + m := ⟨32 - n.toNat, by omega⟩
    rw [hm, List.range_add, List.map_append, List.filter_append]
    have e2 : List.filter (fun i => dn (bfs l 33 d0 [a]) i) (List.map (fun k : Nat => (k : Int)) (List.map (fun x => n.toNat + x) (List.range m))) = [] := by
      rw [List.filter_eq_nil_iff]
      intro x hx hd
      simp only [List.map_map, List.mem_map, Function.comp] at hx
      obtain ⟨k, hk, rfl⟩ := hx
      have := rch_range hr ((bfs_iff h32 hr a h1 _ (by omega)).1 hd)
      omega
    rw [e2, List.append_nil]
    refine List.filter_congr fun x hx => ?_
    rw [List.mem_map] at hx
    obtain ⟨k, _, rfl⟩ := hx
    exact heq _ (by omega)


/-! ## The laws -/

theorem rank_rch {l : List E} (r : Int → Nat) (h : ∀ x ∈ l, r x.1 < r x.2.1) {a b : Int} (hab : Rch l a b) : r a < r b := by
  induction hab with
  | one he => obtain ⟨x, hx, rfl, rfl⟩ := he; exact h x hx
  | step _ he ih => obtain ⟨x, hx, rfl, rfl⟩ := he; have := h x hx; omega

theorem cyc_rch {n : Int} {l : List E} {c : List Int} (hc : Cyc n l c) : Rch l (c.getD 0 0) (c.getD 0 0) := by
  have hpos : 0 < c.length := by
    rcases c with _ | ⟨x, t⟩
    · exact absurd rfl hc.ne
    · simp
  have up : ∀ k, k + 1 < c.length → Rch l (c.getD 0 0) (c.getD (k + 1) 0) := by
    intro k
    induction k with
    | zero =>
      intro hk
      have := hc.edge 0 (by omega)
      rw [Nat.mod_eq_of_lt (by omega)] at this
      exact .one this
    | succ k ih =>
      intro hk
      have := hc.edge (k + 1) (by omega)
      rw [Nat.mod_eq_of_lt (by omega)] at this
      exact .step (ih (by omega)) this
  have last := hc.edge (c.length - 1) (by omega)
  have h3 : c.length - 1 + 1 = c.length := by omega
  rw [h3, Nat.mod_self] at last
  by_cases h1 : c.length = 1
  · rw [h1] at last; exact .one last
  · have := up (c.length - 2) (by omega)
    have e : c.length - 2 + 1 = c.length - 1 := by omega
    rw [e] at this
    exact .step this last

theorem ok_iff {n : Int} {l : List E} (hb : bad n l = false) : (order n l).2.2 = 0 ↔ ∃ r : Int → Nat, ∀ x ∈ l, r x.1 < r x.2.1 := by
  constructor
  · intro h
    rcases order_spec n l with ⟨h1, _⟩ | ⟨_, a, he, h1⟩ | ⟨_, c, he, h1⟩
    · rw [hb] at h1; cases h1
    · exact ⟨fun x => a.idxOf x, h1.edge⟩
    · rw [he] at h; simp at h
  · rintro ⟨r, h⟩
    obtain ⟨a, he, _⟩ := order_ok_of_rank hb r h
    rw [he]
theorem err_cases {n : Int} {l : List E} (hb : bad n l = false) : (order n l).2.2 = 0 ∨ (order n l).2.2 = 80 := by
  rcases order_spec n l with ⟨h1, _⟩ | ⟨_, a, he, h1⟩ | ⟨_, c, he, h1⟩
  · rw [hb] at h1; cases h1
  · left; rw [he]
  · right; rw [he]
theorem cyc_iff {n : Int} {l : List E} (hb : bad n l = false) : (order n l).2.2 = 80 ↔ ¬ ∃ r : Int → Nat, ∀ x ∈ l, r x.1 < r x.2.1 := by
  rw [← ok_iff hb]
  rcases err_cases hb with h | h <;> rw [h] <;> simp

/-- There is a cycle just if one is behind itself. -/
theorem behind_cyc {n : Int} {l : List E} (hb : bad n l = false) : (∃ i : Int, 0 ≤ i ∧ i < n ∧ i ∈ behind n l i) ↔ (order n l).2.2 = 80 := by
  constructor
  · rintro ⟨i, h0, h1, h⟩
    rw [cyc_iff hb]
    rintro ⟨r, hr⟩
    have := rank_rch r hr ((mem_behind hb i h0 h1 i).1 h)
    omega
  · intro h
    rcases order_spec n l with ⟨h1, _⟩ | ⟨_, a, he, h1⟩ | ⟨_, c, he, h1⟩
    · rw [hb] at h1; cases h1
    · rw [he] at h; simp at h
    · have hn := bad_false hb
      have hpos : 0 < c.length := by
        rcases c with _ | ⟨x, t⟩
        · exact absurd rfl h1.ne
        · simp
      have hm : c.getD 0 0 ∈ c := by rw [List.getD_eq_getElem?_getD, List.getElem?_eq_getElem hpos]; simp
      have := h1.range _ hm
      exact ⟨c.getD 0 0, by omega, by omega, (mem_behind hb _ (by omega) (by omega) _).2 (cyc_rch h1)⟩

theorem bad_of {n : Int} {l : List E} (h0 : 0 ≤ n) (h1 : n ≤ 32) (h : ∀ x ∈ l, 0 ≤ x.1 ∧ x.1 < n ∧ 0 ≤ x.2.1 ∧ x.2.1 < n) : bad n l = false := by
  unfold bad
  simp only [Bool.or_eq_false_iff, decide_eq_false_iff_not, List.any_eq_false]
  refine ⟨by omega, fun x hx => ?_⟩
  have := h x hx
  unfold badE
  simp
  omega

theorem idxOf_getD {a : List Int} (hn : a.Nodup) (i : Nat) (hi : i < a.length) : a.idxOf (a.getD i 0) = i := by
  rw [List.getD_eq_getElem?_getD, List.getElem?_eq_getElem hi]
  exact List.Nodup.idxOf_getElem hn i hi

theorem getD_mem {a : List Int} (i : Nat) (hi : i < a.length) : a.getD i 0 ∈ a := by
  rw [List.getD_eq_getElem?_getD, List.getElem?_eq_getElem hi]; simp

/-- An edge from what comes ahead to what comes behind: there is an order still. -/
theorem more_ok {n : Int} {l : List E} {a : List Int} (hb : bad n l = false) (ht : Topo n.toNat l a) (i k : Nat) (hik : i < k) (hk : k < a.length) :
    bad n (l ++ [(a.getD i 0, a.getD k 0, false)]) = false ∧ (order n (l ++ [(a.getD i 0, a.getD k 0, false)])).2.2 = 0 := by
  obtain ⟨h0, h1, h2⟩ := bad_false hb
  have hri := ht.range _ (getD_mem i (by omega))
  have hrk := ht.range _ (getD_mem k hk)
  have hb' : bad n (l ++ [(a.getD i 0, a.getD k 0, false)]) = false := bad_of h0 h1 fun x hx => by
    rcases List.mem_append.1 hx with hx | hx
    · exact h2 x hx
    · simp only [List.mem_singleton] at hx; subst hx; simp only; omega
  refine ⟨hb', (ok_iff hb').2 ⟨fun x => a.idxOf x, fun x hx => ?_⟩⟩
  rcases List.mem_append.1 hx with hx | hx
  · exact ht.edge x hx
  · simp only [List.mem_singleton] at hx; subst hx
    simp only [idxOf_getD ht.nodup i (by omega), idxOf_getD ht.nodup k hk]
    exact hik

open Classical in
/-- The other way round: a cycle just if the second was behind the first. -/
theorem more_cyc {n : Int} {l : List E} {a : List Int} (hb : bad n l = false) (ht : Topo n.toNat l a) (i k : Nat) (hik : i < k) (hk : k < a.length) :
    bad n (l ++ [(a.getD k 0, a.getD i 0, false)]) = false ∧ ((order n (l ++ [(a.getD k 0, a.getD i 0, false)])).2.2 = 80 ↔ a.getD k 0 ∈ behind n l (a.getD i 0)) := by
  obtain ⟨h0, h1, h2⟩ := bad_false hb
  have hri := ht.range _ (getD_mem i (by omega))
  have hrk := ht.range _ (getD_mem k hk)
  have hb' : bad n (l ++ [(a.getD k 0, a.getD i 0, false)]) = false := bad_of h0 h1 fun x hx => by
    rcases List.mem_append.1 hx with hx | hx
    · exact h2 x hx
    · simp only [List.mem_singleton] at hx; subst hx; simp only; omega
  refine ⟨hb', ?_⟩
  rw [mem_behind hb _ (by omega) (by omega), cyc_iff hb']
  constructor
  · intro h
    refine byContradiction fun hn => h ?_
    refine ⟨fun x => a.idxOf x + if x = a.getD i 0 ∨ Rch l (a.getD i 0) x then a.length + 1 else 0, fun x hx => ?_⟩
    rcases List.mem_append.1 hx with hx | hx
    · have hlt := ht.edge x hx
      have hed : Ed l x.1 x.2.1 := ⟨x, hx, rfl, rfl⟩
      have imp : (x.1 = a.getD i 0 ∨ Rch l (a.getD i 0) x.1) → (x.2.1 = a.getD i 0 ∨ Rch l (a.getD i 0) x.2.1) := by
        rintro (h | h)
        · right; rw [← h]; exact .one hed
        · right; exact .step h hed
      dsimp only
      by_cases c1 : x.1 = a.getD i 0 ∨ Rch l (a.getD i 0) x.1
      · rw [if_pos c1, if_pos (imp c1)]; omega
      · rw [if_neg c1]
        split <;> omega
    · simp only [List.mem_singleton] at hx; subst hx
      simp only [idxOf_getD ht.nodup i (by omega), idxOf_getD ht.nodup k hk]
      have hne : a.getD k 0 ≠ a.getD i 0 := by
        intro e
        have e1 := idxOf_getD ht.nodup k hk
        rw [e, idxOf_getD ht.nodup i (by omega)] at e1
        omega
      rw [if_neg (by simp only [not_or]; exact ⟨hne, hn⟩), if_pos (by simp)]
      omega
  · rintro h ⟨r, hr⟩
    have e1 := rank_rch r (fun x hx => hr x (List.mem_append_left _ hx)) h
    have e2 := hr (a.getD k 0, a.getD i 0, false) (by simp)
    simp only at e2
    omega

theorem bad_sub {n : Int} {l m : List E} (hb : bad n l = false) (h : ∀ x ∈ m, x ∈ l) : bad n m = false := by
  obtain ⟨h0, h1, h2⟩ := bad_false hb
  exact bad_of h0 h1 fun x hx => h2 x (h x hx)

/-- Fewer edges: an order still. -/
theorem fewer_ok {n : Int} {l m : List E} (hb : bad n l = false) (hm : ∀ x ∈ m, x ∈ l) (h : (order n l).2.2 = 0) : (order n m).2.2 = 0 := by
  obtain ⟨r, hr⟩ := (ok_iff hb).1 h
  exact (ok_iff (bad_sub hb hm)).2 ⟨r, fun x hx => hr x (hm x hx)⟩

def cycEdges (c : List Int) : List E := (List.range c.length).map fun k => (c.getD k 0, c.getD ((k + 1) % c.length) 0, false)

/-- A cycle's own edges: no order. -/
theorem few_cyc {n : Int} {l : List E} {c : List Int} (hb : bad n l = false) (hc : Cyc n.toNat l c) : bad n (cycEdges c) = false ∧ (order n (cycEdges c)).2.2 = 80 := by
  obtain ⟨h0, h1, h2⟩ := bad_false hb
  have hpos : 0 < c.length := by
    rcases c with _ | ⟨x, t⟩
    · exact absurd rfl hc.ne
    · simp
  have hb' : bad n (cycEdges c) = false := bad_of h0 h1 fun x hx => by
    unfold cycEdges at hx
    rw [List.mem_map] at hx
    obtain ⟨k, hk, rfl⟩ := hx
    rw [List.mem_range] at hk
    have e1 := hc.range _ (getD_mem k hk)
    have e2 := hc.range _ (getD_mem ((k + 1) % c.length) (Nat.mod_lt _ hpos))
    simp only; omega
  refine ⟨hb', (cyc_iff hb').2 ?_⟩
  rintro ⟨r, hr⟩
  have hc' : Cyc n.toNat (cycEdges c) c := ⟨hc.ne, hc.nodup, hc.range, fun k hk => ⟨(c.getD k 0, c.getD ((k + 1) % c.length) 0, false), by
    unfold cycEdges; rw [List.mem_map]; exact ⟨k, by rw [List.mem_range]; exact hk, rfl⟩, rfl, rfl⟩⟩
  exact cyc_rank hc' r hr

end Go.Proofs.Ytcgcojdkkkfkdaa.Gr
