/- The ring's plain law: the steps of one who pushes or pops, on the words. -/
import Derived.Test.YtoecoijmkjhkgaaRing5
import Derived.Test.YtoecoijmkjhkgaaPlain02
namespace Go.Proofs.Ytoecoijmkjhkgaa
open Go.RowKit

/-- A slot's place, in plain numbers. -/
def sl (a n p : Nat) : Nat := a + 2 + 2 * (p % n)
theorem sl_lt (a n p : Nat) (hn : 0 < n) : a + 2 ≤ sl a n p ∧ sl a n p + 1 < a + 2 + 2 * n := by
  have := Nat.mod_lt p hn
  unfold sl
  omega
theorem slotOf_nat (a n p : Nat) : slotOf (a : Int) (n : Int) (p : Int) = (sl a n p : Nat) := by
  unfold slotOf sl
  have : ((p % n : Nat) : Int) = (p : Int) % (n : Int) := Int.natCast_emod p n
  omega
theorem mod_inj {n i j : Nat} (h : i % n = j % n) (h1 : i < j + n) (h2 : j < i + n) : i = j := by
  rcases Nat.le_total i j with h3 | h3
  · have := Nat.sub_mod_eq_zero_of_mod_eq h.symm
    rw [Nat.mod_eq_of_lt (by omega)] at this
    omega
  · have := Nat.sub_mod_eq_zero_of_mod_eq h
    rw [Nat.mod_eq_of_lt (by omega)] at this
    omega
theorem sl_inj {a n i j : Nat} (h : sl a n i = sl a n j) (h1 : i < j + n) (h2 : j < i + n) : i = j := by
  unfold sl at h
  exact mod_inj (show i % n = j % n by omega) h1 h2

theorem looked_eq (t : Int) : lookedTo t t = 2 := by
  unfold lookedTo
  rw [IntKind.wrap_u64]
  simp [wrap64]
theorem looked_less (t a : Int) (h0 : 0 ≤ t) (h1 : t < a) (h2 : a < 9223372036854775808) : lookedTo t a = 5 := by
  unfold lookedTo
  rw [IntKind.wrap_u64]
  have e : (t - a) % 18446744073709551616 = t - a + 18446744073709551616 := by omega
  rw [e]
  unfold wrap64
  rw [if_neg (by omega), if_pos (by omega)]
theorem looked_more (t a : Int) (h0 : 0 ≤ a) (h1 : a < t) (h2 : t < 9223372036854775808) : lookedTo t a = 0 := by
  unfold lookedTo
  rw [IntKind.wrap_u64]
  have e : (t - a) % 18446744073709551616 = t - a := by omega
  rw [e]
  unfold wrap64
  rw [if_neg (by omega), if_neg (by omega)]

theorem qload (m : MS) (k : Nat) (h : k < m.L.length) : m.act ⟨1, k, 0, 0⟩ = (⟨m.L, wrap64 (m.c + 1), m.l⟩, ⟨nth m.L k, false, 0⟩) := by
  rw [act1, MS.load, if_pos (show m.has k = true from decide_eq_true ⟨by omega, by omega⟩)]
  rfl
theorem qcas_yes (m : MS) (k : Nat) (x y : Int) (h : k < m.L.length) (he : nth m.L k = x) : m.act ⟨3, k, x, y⟩ = (⟨m.L.set k y, wrap64 (m.c + 1), wrap64 (m.l + 1)⟩, ⟨0, true, 0⟩) := by
  rw [act3, MS.cas, if_pos (show m.has k = true from decide_eq_true ⟨by omega, by omega⟩), if_pos (show nth m.L (k : Int).toNat = x from he)]
  rfl
theorem qcas_no (m : MS) (k : Nat) (x y : Int) (h : k < m.L.length) (he : ¬ nth m.L k = x) : m.act ⟨3, k, x, y⟩ = (⟨m.L, wrap64 (m.c + 1), m.l⟩, ⟨0, false, 0⟩) := by
  rw [act3, MS.cas, if_pos (show m.has k = true from decide_eq_true ⟨by omega, by omega⟩), if_neg (show ¬ nth m.L (k : Int).toNat = x from he)]
theorem qstore (m : MS) (k : Nat) (x : Int) (h : k < m.L.length) : m.act ⟨2, k, x, 0⟩ = (⟨m.L.set k x, wrap64 (m.c + 1), wrap64 (m.l + 1)⟩, ⟨0, false, 0⟩) := by
  rw [act2, MS.store, if_pos (show m.has k = true from decide_eq_true ⟨by omega, by omega⟩)]
  rfl

/-- The count's place. -/
def ct (p : Bool) (a : Nat) : Nat := if p then a + 1 else a
theorem count_nat (p : Bool) (a n : Nat) (st pos v : Int) (has : Bool) : RQ.count p ⟨a, n, st, pos, has, v⟩ = (ct p a : Nat) := by
  cases p <;> simp [RQ.count, ct]

section
variable (p : Bool) (a n pos : Nat) (v : Int) (has : Bool) (m : MS)

theorem go_look (x : Int) (hl : a + 1 < m.L.length) (hx : nth m.L (ct p a) = x) : ∃ m', RQ.go p ⟨a, n, 0, (pos : Int), has, v⟩ m = (⟨a, n, 1, x, has, v⟩, m') ∧ m'.L = m.L := by
  have hn : RQ.next p ⟨a, n, 0, (pos : Int), has, v⟩ = ⟨1, (ct p a : Nat), 0, 0⟩ := by
    unfold RQ.next; rw [if_pos rfl, count_nat]
  have hc : ct p a < m.L.length := by cases p <;> simp [ct] <;> omega
  unfold RQ.go
  rw [hn, qload m _ hc, hx]
  unfold RQ.after
  exact ⟨⟨m.L, wrap64 (m.c + 1), m.l⟩, by simp, rfl⟩

theorem go_turn (t : Int) (hn : 0 < n) (hl : a + 2 + 2 * n ≤ m.L.length) (ht : nth m.L (sl a n pos) = t) : ∃ m', RQ.go p ⟨a, n, 1, (pos : Int), has, v⟩ m = (⟨a, n, lookedTo t (RQ.awaited p ⟨a, n, 1, (pos : Int), has, v⟩), (pos : Int), has, v⟩, m') ∧ m'.L = m.L := by
  have hs := sl_lt a n pos hn
  have hx : RQ.next p ⟨a, n, 1, (pos : Int), has, v⟩ = ⟨1, (sl a n pos : Nat), 0, 0⟩ := by
    unfold RQ.next; rw [if_neg (by dsimp only; omega), if_pos rfl]; unfold RQ.slot; rw [slotOf_nat]
  unfold RQ.go
  rw [hx, qload m _ (by omega), ht]
  unfold RQ.after
  exact ⟨⟨m.L, wrap64 (m.c + 1), m.l⟩, by simp, rfl⟩

theorem go_won (hl : a + 1 < m.L.length) (hp : (pos : Int) + 1 < 18446744073709551616) (hx : nth m.L (ct p a) = (pos : Int)) : ∃ m', RQ.go p ⟨a, n, 2, (pos : Int), has, v⟩ m = (⟨a, n, 3, (pos : Int), has, v⟩, m') ∧ m'.L = m.L.set (ct p a) ((pos : Int) + 1) := by
  have hc : ct p a < m.L.length := by cases p <;> simp [ct] <;> omega
  have hw : IntKind.u64.wrap ((pos : Int) + 1) = (pos : Int) + 1 := by rw [IntKind.wrap_u64]; omega
  have hn : RQ.next p ⟨a, n, 2, (pos : Int), has, v⟩ = ⟨3, (ct p a : Nat), pos, (pos : Int) + 1⟩ := by
    unfold RQ.next; rw [if_neg (by dsimp only; omega), if_neg (by dsimp only; omega), if_pos rfl, count_nat, hw]
  unfold RQ.go
  rw [hn, qcas_yes m _ _ _ hc hx]
  unfold RQ.after
  exact ⟨⟨m.L.set (ct p a) ((pos : Int) + 1), wrap64 (m.c + 1), wrap64 (m.l + 1)⟩, by simp, rfl⟩

theorem go_lost (hl : a + 1 < m.L.length) (hp : (pos : Int) + 1 < 18446744073709551616) (hx : ¬ nth m.L (ct p a) = (pos : Int)) : ∃ m', RQ.go p ⟨a, n, 2, (pos : Int), has, v⟩ m = (⟨a, n, 0, (pos : Int), has, v⟩, m') ∧ m'.L = m.L := by
  have hc : ct p a < m.L.length := by cases p <;> simp [ct] <;> omega
  have hw : IntKind.u64.wrap ((pos : Int) + 1) = (pos : Int) + 1 := by rw [IntKind.wrap_u64]; omega
  have hn : RQ.next p ⟨a, n, 2, (pos : Int), has, v⟩ = ⟨3, (ct p a : Nat), pos, (pos : Int) + 1⟩ := by
    unfold RQ.next; rw [if_neg (by dsimp only; omega), if_neg (by dsimp only; omega), if_pos rfl, count_nat, hw]
  unfold RQ.go
  rw [hn, qcas_no m _ _ _ hc hx]
  unfold RQ.after
  exact ⟨⟨m.L, wrap64 (m.c + 1), m.l⟩, by simp, rfl⟩

theorem go_put (hn : 0 < n) (hl : a + 2 + 2 * n ≤ m.L.length) : ∃ m', RQ.go false ⟨a, n, 3, (pos : Int), has, v⟩ m = (⟨a, n, 4, (pos : Int), has, v⟩, m') ∧ m'.L = m.L.set (sl a n pos + 1) v := by
  have hs := sl_lt a n pos hn
  have hx : RQ.next false ⟨a, n, 3, (pos : Int), has, v⟩ = ⟨2, (sl a n pos + 1 : Nat), v, 0⟩ := by
    unfold RQ.next; rw [if_neg (by dsimp only; omega), if_neg (by dsimp only; omega), if_neg (by dsimp only; omega), if_pos rfl]; unfold RQ.slot; rw [slotOf_nat]; simp
  unfold RQ.go
  rw [hx, qstore m _ _ (by omega)]
  unfold RQ.after
  exact ⟨⟨m.L.set (sl a n pos + 1) v, wrap64 (m.c + 1), wrap64 (m.l + 1)⟩, by simp, rfl⟩

theorem go_get (x : Int) (hn : 0 < n) (hl : a + 2 + 2 * n ≤ m.L.length) (hx : nth m.L (sl a n pos + 1) = x) : ∃ m', RQ.go true ⟨a, n, 3, (pos : Int), has, v⟩ m = (⟨a, n, 4, (pos : Int), has, x⟩, m') ∧ m'.L = m.L := by
  have hs := sl_lt a n pos hn
  have hxx : RQ.next true ⟨a, n, 3, (pos : Int), has, v⟩ = ⟨1, (sl a n pos + 1 : Nat), 0, 0⟩ := by
    unfold RQ.next; rw [if_neg (by dsimp only; omega), if_neg (by dsimp only; omega), if_neg (by dsimp only; omega), if_pos rfl]; unfold RQ.slot; rw [slotOf_nat]; simp
  unfold RQ.go
  rw [hxx, qload m _ (by omega), hx]
  unfold RQ.after
  exact ⟨⟨m.L, wrap64 (m.c + 1), m.l⟩, by simp, rfl⟩

/-- The turn that is laid. -/
def ld (p : Bool) (n pos : Nat) : Int := if p then (pos : Int) + n else (pos : Int) + 1
theorem go_free (hn : 0 < n) (hl : a + 2 + 2 * n ≤ m.L.length) (hp : (pos : Int) + n + 1 < 18446744073709551616) : ∃ m', RQ.go p ⟨a, n, 4, (pos : Int), has, v⟩ m = (⟨a, n, 5, (pos : Int), true, v⟩, m') ∧ m'.L = m.L.set (sl a n pos) (ld p n pos) := by
  have hs := sl_lt a n pos hn
  have hld : RQ.laid p ⟨a, n, 4, (pos : Int), has, v⟩ = ld p n pos := by
    unfold RQ.laid ld
    cases p <;> simp only [if_true, if_false, Bool.false_eq_true] <;> rw [IntKind.wrap_u64] <;> omega
  have hx : RQ.next p ⟨a, n, 4, (pos : Int), has, v⟩ = ⟨2, (sl a n pos : Nat), ld p n pos, 0⟩ := by
    unfold RQ.next; rw [if_neg (by dsimp only; omega), if_neg (by dsimp only; omega), if_neg (by dsimp only; omega), if_neg (by dsimp only; omega), if_pos rfl, hld]; unfold RQ.slot; rw [slotOf_nat]
  unfold RQ.go
  rw [hx, qstore m _ _ (by omega)]
  unfold RQ.after
  exact ⟨⟨m.L.set (sl a n pos) (ld p n pos), wrap64 (m.c + 1), wrap64 (m.l + 1)⟩, by simp, rfl⟩
end

/-- Steps, till it is over. -/
def RQ.run (p : Bool) : Nat → RQ → MS → RQ × MS
  | 0, s, m => (s, m)
  | f + 1, s, m => if (s.go p m).1.st = 5 then s.go p m else RQ.run p f (s.go p m).1 (s.go p m).2

theorem run_go {p : Bool} {f : Nat} {s s' : RQ} {m m' : MS} (h : s.go p m = (s', m')) (h5 : ¬ s'.st = 5) : RQ.run p (f + 1) s m = RQ.run p f s' m' := by
  show (if (s.go p m).1.st = 5 then s.go p m else RQ.run p f (s.go p m).1 (s.go p m).2) = _
  rw [h, if_neg h5]
theorem run_end {p : Bool} {f : Nat} {s s' : RQ} {m m' : MS} (h : s.go p m = (s', m')) (h5 : s'.st = 5) : RQ.run p (f + 1) s m = (s', m') := by
  show (if (s.go p m).1.st = 5 then s.go p m else RQ.run p f (s.go p m).1 (s.go p m).2) = _
  rw [h, if_pos h5]

/-- A ring at rest: h is the position that is popped next; vs is what is in it. -/
structure RingAt (L : List Int) (a n h : Nat) (vs : List Int) : Prop where
  len : a + 2 + 2 * n ≤ L.length
  n2 : 2 ≤ n
  le : vs.length ≤ n
  small : h + n + n < 4611686018427387904
  inn : nth L a = (h + vs.length : Nat)
  out : nth L (a + 1) = (h : Nat)
  full : ∀ i, i < vs.length → nth L (sl a n (h + i)) = (h + i + 1 : Nat) ∧ nth L (sl a n (h + i) + 1) = nth vs i
  free : ∀ i, vs.length ≤ i → i < n → nth L (sl a n (h + i)) = (h + i : Nat)

theorem sl_wrap (a n h : Nat) : sl a n (h + n) = sl a n h := by unfold sl; rw [Nat.add_mod_right]

theorem ring_push {m : MS} {a n h : Nat} {vs : List Int} (v : Int) (r : RingAt m.L a n h vs) (hv : vs.length < n) :
    ∃ m', RQ.run false 10 ⟨a, n, 0, 0, false, v⟩ m = (⟨a, n, 5, (h + vs.length : Nat), true, v⟩, m') ∧ RingAt m'.L a n h (vs ++ [v]) ∧ m'.L.length = m.L.length := by
  obtain ⟨len, n2, le, small, inn, out, full, free⟩ := r
  obtain ⟨q, hq⟩ : ∃ q, h + vs.length = q := ⟨_, rfl⟩
  rw [hq] at inn ⊢
  have hs := sl_lt a n q (by omega)
  obtain ⟨m1, g1, e1⟩ := go_look false a n 0 v false m _ (by omega) inn
  obtain ⟨m2, g2, e2⟩ := go_turn false a n q v false m1 (q : Nat) (by omega) (by rw [e1]; exact len) (by rw [e1, ← hq]; exact free vs.length (Nat.le_refl _) hv)
  rw [show RQ.awaited false ⟨(a : Int), n, 1, (q : Int), false, v⟩ = (q : Int) from rfl, looked_eq] at g2
  obtain ⟨m3, g3, e3⟩ := go_won false a n q v false m2 (by rw [e2, e1]; omega) (by omega) (by rw [e2, e1]; exact inn)
  obtain ⟨m4, g4, e4⟩ := go_put a n q v false m3 (by omega) (by rw [e3, e2, e1, List.length_set]; exact len)
  obtain ⟨m5, g5, e5⟩ := go_free false a n q v false m4 (by omega) (by rw [e4, e3, e2, e1, List.length_set, List.length_set]; exact len) (by omega)
  have hL : m5.L = ((m.L.set a ((q : Int) + 1)).set (sl a n q + 1) v).set (sl a n q) ((q : Int) + 1) := by rw [e5, e4, e3, e2, e1]; rfl
  have hlen : m5.L.length = m.L.length := by rw [hL]; simp
  have key : ∀ k, nth m5.L k = if sl a n q = k then (q : Int) + 1 else if sl a n q + 1 = k then v else if a = k then (q : Int) + 1 else nth m.L k := fun k => by
    rw [hL, nth_set _ _ _ _ (by simp; omega), nth_set _ _ _ _ (by simp; omega), nth_set _ _ _ _ (by omega)]
  refine ⟨m5, ?_, ⟨by rw [hlen]; exact len, n2, by simp; omega, small, ?_, ?_, fun i hi => ?_, fun i h1 h2 => ?_⟩, hlen⟩
  · have g1' : RQ.go false ⟨(a : Int), n, 0, 0, false, v⟩ m = _ := g1
    rw [run_go g1' (by simp), run_go g2 (by simp), run_go g3 (by simp), run_go g4 (by simp), run_end g5 rfl]
  · rw [key, if_neg (by omega), if_neg (by omega), if_pos rfl]; simp; omega
  · rw [key, if_neg (by omega), if_neg (by omega), if_neg (by omega)]; exact out
  · simp at hi
    by_cases e : i = vs.length
    · subst e
      rw [hq, key, if_pos rfl, key, if_neg (by omega), if_pos rfl]
      exact ⟨by simp, by simp [nth]⟩
    · have hne : sl a n q ≠ sl a n (h + i) := fun hh => by have := sl_inj hh (by omega) (by omega); omega
      have h3 := sl_lt a n (h + i) (by omega)
      obtain ⟨f1, f2⟩ := full i (by omega)
      have hpar : ∀ x y : Nat, sl a n x ≠ sl a n y + 1 := fun x y => by unfold sl; omega
      have p1 := hpar q (h + i)
      have p2 := hpar (h + i) q
      rw [key, if_neg hne, if_neg (by omega), if_neg (by omega), key, if_neg p1, if_neg (by omega), if_neg (by omega)]
      refine ⟨f1, ?_⟩
      rw [f2]
      simp [nth, List.getElem?_append_left (show i < vs.length by omega)]
  · simp at h1
    have hne : sl a n q ≠ sl a n (h + i) := fun hh => by have := sl_inj hh (by omega) (by omega); omega
    have h3 := sl_lt a n (h + i) (by omega)
    have hpar : ∀ x y : Nat, sl a n x ≠ sl a n y + 1 := fun x y => by unfold sl; omega
    have p2 := hpar (h + i) q
    rw [key, if_neg hne, if_neg (by omega), if_neg (by omega)]
    exact free i (by omega) h2

theorem ring_full {m : MS} {a n h : Nat} {vs : List Int} (v : Int) (r : RingAt m.L a n h vs) (hv : vs.length = n) :
    ∃ m', RQ.run false 10 ⟨a, n, 0, 0, false, v⟩ m = (⟨a, n, 5, (h + vs.length : Nat), false, v⟩, m') ∧ m'.L = m.L := by
  obtain ⟨len, n2, le, small, inn, out, full, free⟩ := r
  rw [hv] at inn ⊢
  obtain ⟨m1, g1, e1⟩ := go_look false a n 0 v false m _ (by omega) inn
  obtain ⟨m2, g2, e2⟩ := go_turn false a n (h + n) v false m1 (h + 1 : Nat) (by omega) (by rw [e1]; exact len) (by rw [e1, sl_wrap]; exact (full 0 (by omega)).1)
  rw [show RQ.awaited false ⟨(a : Int), n, 1, ((h + n : Nat) : Int), false, v⟩ = ((h + n : Nat) : Int) from rfl, looked_less _ _ (by omega) (by omega) (by omega)] at g2
  have g1' : RQ.go false ⟨(a : Int), n, 0, 0, false, v⟩ m = _ := g1
  exact ⟨m2, by rw [run_go g1' (by simp), run_end g2 rfl], by rw [e2, e1]⟩

theorem ring_pop {m : MS} {a n h : Nat} {v : Int} {vs : List Int} (r : RingAt m.L a n h (v :: vs)) :
    ∃ m', RQ.run true 10 ⟨a, n, 0, 0, false, 0⟩ m = (⟨a, n, 5, (h : Nat), true, v⟩, m') ∧ (h + 1 + n + n < 4611686018427387904 → RingAt m'.L a n (h + 1) vs) ∧ m'.L.length = m.L.length := by
  obtain ⟨len, n2, le, small, inn, out, full, free⟩ := r
  simp only [List.length_cons] at le inn full free
  have hs := sl_lt a n h (by omega)
  obtain ⟨f1, f2⟩ := full 0 (by omega)
  simp only [Nat.add_zero] at f1 f2
  obtain ⟨m1, g1, e1⟩ := go_look true a n 0 0 false m _ (by omega) out
  obtain ⟨m2, g2, e2⟩ := go_turn true a n h 0 false m1 (h + 1 : Nat) (by omega) (by rw [e1]; exact len) (by rw [e1]; exact f1)
  have ha : RQ.awaited true ⟨(a : Int), n, 1, (h : Int), false, 0⟩ = ((h + 1 : Nat) : Int) := by
    unfold RQ.awaited; rw [if_pos rfl, IntKind.wrap_u64]; dsimp only; omega
  rw [ha, looked_eq] at g2
  obtain ⟨m3, g3, e3⟩ := go_won true a n h 0 false m2 (by rw [e2, e1]; omega) (by omega) (by rw [e2, e1]; exact out)
  have e3' : m3.L = m.L.set (a + 1) ((h : Int) + 1) := by rw [e3, e2, e1]; rfl
  obtain ⟨m4, g4, e4⟩ := go_get a n h 0 false m3 v (by omega) (by rw [e3', List.length_set]; exact len) (by rw [e3', nth_set _ _ _ _ (by omega), if_neg (by omega), f2]; rfl)
  obtain ⟨m5, g5, e5⟩ := go_free true a n h v false m4 (by omega) (by rw [e4, e3', List.length_set]; exact len) (by omega)
  have hL : m5.L = (m.L.set (a + 1) ((h : Int) + 1)).set (sl a n h) ((h : Int) + n) := by rw [e5, e4, e3']; rfl
  have hlen : m5.L.length = m.L.length := by rw [hL]; simp
  have key : ∀ k, nth m5.L k = if sl a n h = k then (h : Int) + n else if a + 1 = k then (h : Int) + 1 else nth m.L k := fun k => by
    rw [hL, nth_set _ _ _ _ (by simp; omega), nth_set _ _ _ _ (by omega)]
  have hpar : ∀ x y : Nat, sl a n x ≠ sl a n y + 1 := fun x y => by unfold sl; omega
  refine ⟨m5, ?_, fun hsm => ⟨by rw [hlen]; exact len, n2, by omega, hsm, ?_, ?_, fun i hi => ?_, fun i h1 h2 => ?_⟩, hlen⟩
  · have g1' : RQ.go true ⟨(a : Int), n, 0, 0, false, 0⟩ m = _ := g1
    rw [run_go g1' (by simp), run_go g2 (by simp), run_go g3 (by simp), run_go g4 (by simp), run_end g5 rfl]
  · rw [key, if_neg (by omega), if_neg (by omega), inn]; omega
  · rw [key, if_neg (by omega), if_pos rfl]; omega
  · have hne : sl a n h ≠ sl a n (h + 1 + i) := fun hh => by have := sl_inj hh (by omega) (by omega); omega
    have h3 := sl_lt a n (h + 1 + i) (by omega)
    have p1 := hpar h (h + 1 + i)
    obtain ⟨f3, f4⟩ := full (i + 1) (by omega)
    rw [show h + (i + 1) = h + 1 + i by omega] at f3 f4
    rw [key, if_neg hne, if_neg (by omega), key, if_neg p1, if_neg (by omega)]
    refine ⟨f3, ?_⟩
    rw [f4]
    simp [nth]
  · have h3 := sl_lt a n (h + 1 + i) (by omega)
    by_cases e : i + 1 = n
    · have : h + 1 + i = h + n := by omega
      rw [this, sl_wrap, key, if_pos rfl]
      omega
    · have hne : sl a n h ≠ sl a n (h + 1 + i) := fun hh => by have := sl_inj hh (by omega) (by omega); omega
      have := free (i + 1) (by omega) (by omega)
      rw [show h + (i + 1) = h + 1 + i by omega] at this
      rw [key, if_neg hne, if_neg (by omega)]
      exact this

theorem ring_empty {m : MS} {a n h : Nat} (r : RingAt m.L a n h []) :
    ∃ m', RQ.run true 10 ⟨a, n, 0, 0, false, 0⟩ m = (⟨a, n, 5, (h : Nat), false, 0⟩, m') ∧ m'.L = m.L := by
  obtain ⟨len, n2, le, small, inn, out, full, free⟩ := r
  obtain ⟨m1, g1, e1⟩ := go_look true a n 0 0 false m _ (by omega) out
  obtain ⟨m2, g2, e2⟩ := go_turn true a n h 0 false m1 (h : Nat) (by omega) (by rw [e1]; exact len) (by rw [e1]; exact free 0 (by simp) (by omega))
  have ha : RQ.awaited true ⟨(a : Int), n, 1, (h : Int), false, 0⟩ = ((h + 1 : Nat) : Int) := by
    unfold RQ.awaited; rw [if_pos rfl, IntKind.wrap_u64]; dsimp only; omega
  rw [ha, looked_less _ _ (by omega) (by omega) (by omega)] at g2
  have g1' : RQ.go true ⟨(a : Int), n, 0, 0, false, 0⟩ m = _ := g1
  exact ⟨m2, by rw [run_go g1' (by simp), run_end g2 rfl], by rw [e2, e1]⟩

end Go.Proofs.Ytoecoijmkjhkgaa
