/-
  JournalCrashes: the states between two calls, and what Open does in them.
-/
import Derived.Test.YtmfndobdkihbnaaJo2
namespace Go.Proofs.Ytmfndobdkihbnaa.Dk
open Go.RowKit Go.MapKept Go.Proofs.YtmfndobdkihbnaaW.PrintWords Go.Proofs.YtmfndobdkihbnaaW.PrintLast Go.Proofs.YtmfndobdkihbnaaW.PrintMore
set_option linter.unusedVariables false
set_option linter.unusedSimpArgs false

/-- Behind a commit that the power ended (sm), or none: none is at hand; or that group is; or it is done. -/
def OSt (s : FS) (at_ n : Int) (F : Int → List Int) (l : List PutT) (sm : Bool) : Prop :=
  Idle s at_ n F ∨ (sm = true ∧ May s.len at_ l ∧ (Hand s at_ n l F ∨ Idle s at_ (n + 1) (puts F l)))
theorem OSt.like {s s' : FS} {at_ n : Int} {F : Int → List Int} {l : List PutT} {sm : Bool} (h : OSt s at_ n F l sm) (hh : s'.has = s.has) (hl : s'.len = s.len) : OSt s' at_ n F l sm := by
  rcases h with h | ⟨h1, h2, h3⟩
  · exact .inl ⟨by rw [hh]; exact h.head, by rw [hh]; exact h.vis⟩
  · refine .inr ⟨h1, by rw [hl]; exact h2, ?_⟩
    rcases h3 with h | h
    · exact .inl ⟨h.pos, by rw [hl]; exact h.may, by rw [hh]; exact h.head, by rw [hh, hl]; exact h.tells, by rw [hh]; exact h.vis⟩
    · exact .inr ⟨by rw [hh]; exact h.head, by rw [hh]; exact h.vis⟩
/-- What Open leaves. -/
def OpenO (b m : Nat) (s : FS) (at_ n : Int) (F : Int → List Int) (l : List PutT) (sm : Bool) (w : World) (e : Ending) (w' : World) : Prop :=
  ∃ s', DiskIs w' b m s' ∧ s'.len = s.len ∧ OSt s' at_ n F l sm ∧ Fr (DB b m) w w' ∧
    ((∃ jb, e = .returned (.tuple #[.pointer (some ⟨jb, 0, none⟩), .int .i64 0]) ∧ w.heap.size ≤ jb ∧ s'.off = false ∧
        ((Idle s' at_ n F ∧ JIs w' jb b at_ n) ∨ (sm = true ∧ May s'.len at_ l ∧ Idle s' at_ (n + 1) (puts F l) ∧ JIs w' jb b at_ (n + 1)))) ∨
     (s.fuse ≠ -1 ∧ e = .returned (.tuple #[.pointer none, .int .i64 2])))
theorem open_o (b m : Nat) (s : FS) (at_ n : Int) (F : Int → List Int) (l : List PutT) (sm : Bool) (w : World) (hd : DiskIs w b m s) (hon : s.off = false) (h : OSt s at_ n F l sm) (h0 : 0 ≤ at_) (h1 : at_ + 199 ≤ s.len) (h2 : s.len ≤ 4096) (hg0 : 0 ≤ n) (hg1 : n ≤ 900000) :
    Calls Try.prog 9 #[.pointer (some ⟨b, 0, none⟩), .int .i64 at_] w fun e w' => OpenO b m s at_ n F l sm w e w' := by
  have idle : ∀ (g : Int) (G : Int → List Int), 0 ≤ g → g ≤ 1000000 → Idle s at_ g G → Calls Try.prog 9 #[.pointer (some ⟨b, 0, none⟩), .int .i64 at_] w fun e w' =>
      ∃ jb, e = .returned (.tuple #[.pointer (some ⟨jb, 0, none⟩), .int .i64 0]) ∧ w.heap.size ≤ jb ∧ JIs w' jb b at_ g ∧ DiskIs w' b m s ∧ Fr (DB b m) w w' := fun g G a1 a2 hi => by
    refine (open_any b m s at_ g [] w hd hon h0 h1 h2 a1 a2 (by decide) hi.head (fun i x bs h => by simp at h)).mono ?_
    rintro e w' ⟨hd', hf, ho⟩
    rcases ho with ⟨_, jb, rfl, hj, hJ⟩ | ⟨hne, _⟩
    case inr => exact absurd rfl hne
    exact ⟨jb, rfl, hj, hJ, hd', hf⟩
  have h' := h
  rcases h with h | ⟨h3, h4, h | h⟩
  · refine (idle n F hg0 (by omega) h).mono ?_
    rintro e w' ⟨jb, rfl, hj, hJ, hd', hf⟩
    exact ⟨s, hd', rfl, h', hf, .inl ⟨jb, rfl, hj, hon, .inl ⟨h, hJ⟩⟩⟩
  · refine (open_any b m s at_ (n + 1) l w hd hon h0 h1 h2 (by omega) (by omega) h4.n h.head h.tells).mono ?_
    rintro e w' ⟨hd', hf, ho⟩
    rw [open_hand h] at hd' ho
    obtain ⟨p1, p2⟩ := fin_plain h hon h0 h1
    rcases ho with ⟨hz, jb, rfl, hj, hJ⟩ | ⟨hne, rfl⟩
    · rcases p2 with ⟨_, q2, q3⟩ | ⟨q1, _⟩
      · have hm' : May (wrs s (l ++ [(at_, headB (n + 1) 0)])).1.len at_ l := by rw [p1]; exact h4
        exact ⟨_, hd', p1, .inr ⟨h3, hm', .inr q3⟩, hf, .inl ⟨jb, rfl, hj, q2, .inr ⟨h3, hm', q3, hJ⟩⟩⟩
      · rw [hz] at q1; cases q1
    · rcases p2 with ⟨q1, _⟩ | ⟨q1, q2, q3⟩
      · exact absurd q1 hne
      · refine ⟨_, hd', p1, .inr ⟨h3, by rw [p1]; exact h4, .inl q3⟩, hf, .inr ⟨fun hfu => ?_, by rw [q1]⟩⟩
        have := (wrs_free hfu hon (valid_fin (g := n + 1) h.may h0 h1)).1
        rw [this] at q1; cases q1
  · refine (idle (n + 1) (puts F l) (by omega) (by omega) h).mono ?_
    rintro e w' ⟨jb, rfl, hj, hJ, hd', hf⟩
    exact ⟨s, hd', rfl, h', hf, .inl ⟨jb, rfl, hj, hon, .inr ⟨h3, h4, h, hJ⟩⟩⟩

theorem rowsL_congr {f g : Int → List Int} {n : Nat} {at_ : Int} (h : ∀ k : Int, ¬ Own at_ k → f k = g k) : rowsL f n at_ = rowsL g n at_ := by
  unfold rowsL
  refine List.map_congr_left fun i hi => ?_
  unfold rowsI at hi
  exact h _ (of_decide_eq_true (List.mem_filter.1 hi).2)
theorem rowsL_60 (F : Int → List Int) (a : Nat) (ha : a ≤ 60) : (rowsL F 259 (a : Int)).length = 60 := by
  have := rowsL_len F a (60 - a)
  rw [show a + 199 + (60 - a) = 259 from by omega] at this
  omega

def amongF (c n : Int) : Int := if c < 0 then (-(c + 1)) % n else c % n
theorem amongF_bd (c n : Int) (hn : 0 < n) : 0 ≤ amongF c n ∧ amongF c n < n := by
  unfold amongF
  split
  · exact ⟨Int.emod_nonneg _ (by omega), Int.emod_lt_of_pos _ hn⟩
  · exact ⟨Int.emod_nonneg _ (by omega), Int.emod_lt_of_pos _ hn⟩
set_option maxRecDepth 100000 in
theorem among_det (c n : Int) (w : World) (hn : 0 < n) (hn1 : n ≤ 1000) (hc0 : -9223372036854775808 ≤ c) (hc1 : c ≤ 9223372036854775807) :
    Calls Try.prog 14 #[.int .i64 c, .int .i64 n] w fun e w' => e = .returned (.int .i64 (amongF c n)) ∧ w' = w := by
  have hn0 : (n == 0) = false := by simp; omega
  by_cases h : c < 0
  · have HA := Aside0.mk (show amongF c n = -((c + 1).tmod n) by unfold amongF; rw [if_pos h, ← Int.neg_tmod, Int.tmod_eq_emod_of_nonneg (by omega)])
    have h1 : IntKind.i64.wrap (c + 1) = c + 1 := IntWalk.i64_in _ (by omega)
    have h2 : IntKind.i64.wrap (-(c + 1)) = -(c + 1) := IntWalk.i64_in _ (by omega)
    go_enter Try.func14, Try.ntmps14
    go_wp2
    go_ret
    rw [HA.out]
    exact ⟨rfl, rfl⟩
  · have HA := Aside0.mk (show amongF c n = c % n by unfold amongF; rw [if_neg h])
    go_enter Try.func14, Try.ntmps14
    go_wp2
    go_ret
    rw [HA.out]
    exact ⟨rfl, rfl⟩

/-- One of the calls. -/
abbrev OpT := Int × Int × List PutT
abbrev kO : Kd OpT := Kd.pair (Kd.int .i64) (Kd.pair (Kd.int .i64) (Kd.slice 40 kP))
def rdO (xs : List OpT) (i : Nat) : OpT := xs.getD i (0, 0, [])
theorem rdO_get {l : List OpT} {i : Nat} (h : i < l.length) : l[i]? = some (rdO l i) := by
  unfold rdO; rw [List.getD_eq_getElem?_getD, List.getElem?_eq_getElem h]; rfl
theorem heap_kO : Kd.Heap kO := Kd.heap_pair (Kd.heap_int _) (Kd.heap_pair (Kd.heap_int _) (Kd.heap_slice _ heap_kP))
theorem kO_open {w : World} {x : OpT} {cs : List Value} (h : kO.K w x cs) : ∃ A c, cs = [.int .i64 x.1, .int .i64 x.2.1, .slice A x.2.2.length c] ∧ x.2.2.length ≤ c ∧ Kd.C kP w A x.2.2.length x.2.2 := by
  obtain ⟨c1, c2, rfl, h1, h2⟩ := h
  have h1' : c1 = [.int .i64 x.1] := h1
  subst h1'
  obtain ⟨c3, c4, rfl, h3, A, c, rfl, hl, hC⟩ := h2
  have h3' : c3 = [.int .i64 x.2.1] := h3
  subst h3'
  exact ⟨A, c, rfl, hl, hC⟩
theorem at_O {w : World} {A : Option Addr} {n : Nat} {xs : List OpT} (h : Kd.C kO w A n xs) (i : Nat) (h1 : i < n) : ∃ ad B c, A = some ad ∧ w.cell? (ad.add (i * 3)) = some (.int .i64 (rdO xs i).1) ∧ w.cell? ⟨(ad.add (i * 3)).block, (ad.add (i * 3)).off + 1, none⟩ = some (.int .i64 (rdO xs i).2.1) ∧ w.cell? ⟨(ad.add (i * 3)).block, (ad.add (i * 3)).off + 2, none⟩ = some (.slice B (rdO xs i).2.2.length c) ∧ (rdO xs i).2.2.length ≤ c ∧ Kd.C kP w B (rdO xs i).2.2.length (rdO xs i).2.2 := by
  obtain ⟨ad, c, e, _, hK, hc0⟩ := Kd.C_get h (0, 0, []) (i : Int) (by omega) (by omega)
  rw [Int.toNat_natCast] at hK hc0
  have hsz : kO.sz = 3 := rfl
  rw [hsz] at hc0
  obtain ⟨B, k, rfl, hl, hb⟩ := kO_open hK
  refine ⟨ad, B, k, e, ?_, ?_, ?_, hl, hb⟩
  · exact hc0 0 _ rfl
  · rw [← add_field _ _ 1 (by omega)]; exact hc0 1 _ rfl
  · rw [← add_field _ _ 2 (by omega)]; exact hc0 2 _ rfl

/-- What stands between two calls: the disk, the journal, the rows as they are to be, the group at hand. -/
def CSt (s : FS) (at_ n gj : Int) (F : Int → List Int) (l : List PutT) (sm fr : Bool) : Prop :=
  (s.off = false ∧ sm = false ∧ fr = false ∧ gj = n ∧ Idle s at_ n F) ∨ (s.off = true ∧ sm = true ∧ fr = false ∧ May s.len at_ l ∧ (Idle s at_ n F ∨ Hand s at_ n l F)) ∨ (s.off = true ∧ sm = false ∧ fr = true ∧ Idle s at_ n F)
theorem CSt.ost {s : FS} {at_ n gj : Int} {F : Int → List Int} {l : List PutT} {sm fr : Bool} (h : CSt s at_ n gj F l sm fr) : OSt s at_ n F l sm := by
  rcases h with ⟨_, _, _, _, h⟩ | ⟨_, h1, _, h2, h | h⟩ | ⟨_, _, _, h⟩
  · exact .inl h
  · exact .inl h
  · exact .inr ⟨h1, h2, .inl h⟩
  · exact .inl h
structure CInv (w : World) (b m : Nat) (a : Nat) (jb : Nat) (A9 : Option Addr) (c9 : Nat) (n : Int) (A12 : Option Addr) (l : List PutT) (c12 : Nat) (sm fr : Bool) (s : FS) (F : Int → List Int) (gj : Int) (W : World) : Prop where
  d : DiskIs W b m s
  len : s.len = 259
  j : JIs W jb b (a : Int) gj
  jlow : w.heap.size ≤ jb
  rows : Kd.V kR 37 W 0 (fun k => ¬ DJ b m jb k) (.slice A9 60 c9) (rowsL F 259 (a : Int))
  hand : Kd.F kP W (fun k => ¬ DJ b m jb k) A12 l.length l
  st : CSt s (a : Int) n gj F l sm fr
  below : Below w.heap.size w W
/-- The rows and the group at hand stay, where nothing of theirs is written; a journal that was made since is none of theirs. -/
theorem rows_on {W W' : World} {b m jb jb' : Nat} {A : Option Addr} {c n : Nat} {xs : List (List Int)} (h : Kd.V kR 37 W 0 (fun k => ¬ DJ b m jb k) (.slice A n c) xs) (hf : Fr (DJ b m jb) W W') (hj : jb' = jb ∨ W.heap.size ≤ jb') : Kd.V kR 37 W' 0 (fun k => ¬ DJ b m jb' k) (.slice A n c) xs := by
  refine Kd.V_mono (Kd.V_step (Kd.V_bound h) (fun k hk hlt => hf.block k hlt hk.1)) (fun k hk e => hk.1 ?_)
  rcases e with e | e | e
  · exact .inl e
  · exact .inr (.inl e)
  · rcases hj with rfl | hj
    · exact .inr (.inr e)
    · have := hk.2; omega
theorem hand_on {W W' : World} {b m jb jb' : Nat} {A : Option Addr} {n : Nat} {xs : List PutT} (h : Kd.F kP W (fun k => ¬ DJ b m jb k) A n xs) (hf : Fr (DJ b m jb) W W') (hj : jb' = jb ∨ W.heap.size ≤ jb') : Kd.F kP W' (fun k => ¬ DJ b m jb' k) A n xs := by
  refine Kd.F_mono (Kd.F_step (Kd.F_bound h) (fun k hk hlt => hf.block k hlt hk.1)) (fun k hk e => hk.1 ?_)
  rcases e with e | e | e
  · exact .inl e
  · exact .inr (.inl e)
  · rcases hj with rfl | hj
    · exact .inr (.inr e)
    · have := hk.2; omega
theorem CInv.below' {w : World} {b m a jb : Nat} {A9 : Option Addr} {c9 : Nat} {n : Int} {A12 : Option Addr} {l : List PutT} {c12 : Nat} {sm fr : Bool} {s : FS} {F : Int → List Int} {gj : Int} {W W' : World} (I : CInv w b m a jb A9 c9 n A12 l c12 sm fr s F gj W) (hbm : w.heap.size ≤ b ∧ w.heap.size ≤ m) (hf : Fr (DJ b m jb) W W') : Below w.heap.size w W' :=
  I.below.trans (hf.below I.below.size (fun k hk => by have := I.jlow; rcases hk with e | e | e <;> omega))
theorem CInv.next {w : World} {b m a jb : Nat} {A9 : Option Addr} {c9 : Nat} {n : Int} {A12 : Option Addr} {l : List PutT} {c12 : Nat} {sm fr : Bool} {s : FS} {F : Int → List Int} {gj : Int} {W W' : World} (I : CInv w b m a jb A9 c9 n A12 l c12 sm fr s F gj W) (hbm : w.heap.size ≤ b ∧ w.heap.size ≤ m) (hf : Fr (DJ b m jb) W W')
    {jb' : Nat} {n' gj' : Int} {sm' fr' : Bool} {s' : FS} (hd : DiskIs W' b m s') (hlen : s'.len = 259) (hj : JIs W' jb' b (a : Int) gj') (hjb : jb' = jb ∨ W.heap.size ≤ jb') (hst : CSt s' (a : Int) n' gj' F l sm' fr') : CInv w b m a jb' A9 c9 n' A12 l c12 sm' fr' s' F gj' W' :=
  ⟨hd, hlen, hj, by
    rcases hjb with rfl | h
    · exact I.jlow
    · exact Nat.le_trans I.below.size h, rows_on I.rows hf hjb, hand_on I.hand hf hjb, hst, I.below' hbm hf⟩
theorem CInv.far {w : World} {b m a jb : Nat} {A9 : Option Addr} {c9 : Nat} {n : Int} {A12 : Option Addr} {l : List PutT} {c12 : Nat} {sm fr : Bool} {s : FS} {F : Int → List Int} {gj : Int} {W : World} (I : CInv w b m a jb A9 c9 n A12 l c12 sm fr s F gj W) (hbm : w.heap.size ≤ b ∧ w.heap.size ≤ m) : ∀ k, k < w.heap.size → ¬ DJ b m jb k := fun k hk e => by
  have := I.jlow
  rcases e with e | e | e <;> omega
theorem CInv.lt {w : World} {b m a jb : Nat} {A9 : Option Addr} {c9 : Nat} {n : Int} {A12 : Option Addr} {l : List PutT} {c12 : Nat} {sm fr : Bool} {s : FS} {F : Int → List Int} {gj : Int} {W : World} (I : CInv w b m a jb A9 c9 n A12 l c12 sm fr s F gj W) : ∀ k, W.heap.size ≤ k → ¬ DJ b m jb k := fun k hk e => by
  have a1 := I.d.lt
  have a2 := I.d.2.1.lt
  have a3 := blk_lt I.j
  rcases e with e | e | e <;> omega
/-- Open, where no group is at hand. -/
theorem open_i (b m : Nat) (s : FS) (at_ g : Int) (G : Int → List Int) (w : World) (hd : DiskIs w b m s) (hon : s.off = false) (hi : Idle s at_ g G) (h0 : 0 ≤ at_) (h1 : at_ + 199 ≤ s.len) (h2 : s.len ≤ 4096) (a1 : 0 ≤ g) (a2 : g ≤ 1000000) :
    Calls Try.prog 9 #[.pointer (some ⟨b, 0, none⟩), .int .i64 at_] w fun e w' =>
      ∃ jb, e = .returned (.tuple #[.pointer (some ⟨jb, 0, none⟩), .int .i64 0]) ∧ w.heap.size ≤ jb ∧ JIs w' jb b at_ g ∧ DiskIs w' b m s ∧ Fr (DB b m) w w' := by
  refine (open_any b m s at_ g [] w hd hon h0 h1 h2 a1 a2 (by decide) hi.head (fun i x bs h => by simp at h)).mono ?_
  rintro e w' ⟨hd', hf, ho⟩
  rcases ho with ⟨_, jb, rfl, hj, hJ⟩ | ⟨hne, _⟩
  case inr => exact absurd rfl hne
  exact ⟨jb, rfl, hj, hJ, hd', hf⟩
theorem with_60 (a : Nat) (ha : a ≤ 60) (f : Int → List Int) (ok : Nat → Prop) (A0 : Option Addr) (c0 : Nat) (A : Option Addr) (c : Nat) (l : List PutT) (w : World) (hv : Kd.V kR 37 w 0 ok (.slice A0 60 c0) (rowsL f 259 (a : Int)))
    (hl : Kd.C kP w A l.length l) (hm : May 259 (a : Int) l) :
    Calls Try.prog 20 #[.slice A0 60 c0, .int .i64 (a : Int), .slice A l.length c] w fun e w' => ∃ A' c', e = .returned (.slice A' 60 c') ∧ Kd.V kR 37 w' 0 (fun k => ok k ∨ w.heap.size ≤ k) (.slice A' 60 c') (rowsL (puts f l) 259 (a : Int)) ∧ Below w.heap.size w w' := by
  have e : a + 199 + (60 - a) = 259 := by omega
  have h := with_any a (60 - a) (by omega) (by omega) f ok A0 c0 60 (by omega) A c l w (by rw [e]; exact hv) hl (by rw [e]; exact hm)
  refine h.mono ?_
  rintro e' w' ⟨v, rfl, hn, hb⟩
  rw [e] at hn
  obtain ⟨A', c', rfl⟩ := Kd.N_slice hn
  rw [rowsL_60 _ a ha] at hn ⊢
  exact ⟨A', c', rfl, Kd.N_V hn, hb⟩
theorem write_two {s : FS} {i : Int} {bs : List Int} (hon : s.off = false) (h0 : 0 ≤ i) (h1 : i < s.len) (h2 : bs.length = 64) :
    ((s.write i bs).2 = 0 ∧ (s.write i bs).1.off = false ∧ (s.write i bs).1.len = s.len ∧ (s.write i bs).1.has = upd s.has i bs) ∨ ((s.write i bs).2 = 2 ∧ (s.write i bs).1.off = true ∧ (s.write i bs).1.len = s.len ∧ (s.write i bs).1.has = s.has) := by
  unfold FS.write
  rw [if_pos (check_on hon h0 h1), if_pos h2]
  split
  · exact .inr ⟨rfl, rfl, rfl, rfl⟩
  · exact .inl ⟨rfl, hon, rfl, rfl⟩
theorem Idle.like {s s' : FS} {at_ g : Int} {F : Int → List Int} (h : Idle s at_ g F) (hh : s'.has = s.has) : Idle s' at_ g F := ⟨by rw [hh]; exact h.head, by rw [hh]; exact h.vis⟩
theorem Idle.fresh {s s' : FS} {at_ g : Int} {F : Int → List Int} (h : Idle s at_ g F) (h0 : 0 ≤ at_) (hh : s'.has = upd s.has at_ (headB 0 0)) : Idle s' at_ 0 F := ⟨by rw [hh]; simp [upd], fun k hk => by
  rw [hh]
  unfold upd
  rw [if_neg (fun e => hk (by rw [e]; exact ⟨by omega, by omega⟩))]
  exact h.vis k hk⟩
theorem fuseTo_on {s : FS} {n : Int} (h : s.off = false) : (s.fuseTo n).off = false ∧ (s.fuseTo n).len = s.len ∧ (s.fuseTo n).has = s.has := by
  unfold FS.fuseTo
  rw [h, if_neg (by decide)]
  exact ⟨rfl, rfl, rfl⟩
end Go.Proofs.Ytmfndobdkihbnaa.Dk
