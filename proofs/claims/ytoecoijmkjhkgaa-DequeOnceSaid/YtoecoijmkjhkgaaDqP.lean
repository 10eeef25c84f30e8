/- The deque's plain law: tasks that run alone, on a deque at rest. -/
import Derived.Test.YtoecoijmkjhkgaaKnown7W
namespace Go.Proofs.Ytoecoijmkjhkgaa
open Go.RowKit

/-- A deque at rest: h is the position that is stolen next; vs is what is in it. -/
structure DqAt (L : List Int) (a n h : Nat) (vs : List Int) : Prop where
  len : a + 2 + n ≤ L.length
  n1 : 1 ≤ n
  le : vs.length ≤ n
  small : h + n < 1000000000
  top : nth L a = (h : Nat)
  bot : nth L (a + 1) = (h + vs.length : Nat)
  vals : ∀ i, i < vs.length → nth L (a + 2 + (h + i) % n) = nth vs i

theorem dif_eq (x y : Nat) (hx : x < 2000000000) (hy : y < 2000000000) : dif (x : Int) (y : Int) = (x : Int) - y := by
  unfold dif
  rw [IntKind.wrap_u64]
  unfold wrap64
  by_cases h : y ≤ x
  · have e : ((x : Int) - y) % 18446744073709551616 = (x : Int) - y := by omega
    rw [e]
    omega
  · have e : ((x : Int) - y) % 18446744073709551616 = (x : Int) - y + 18446744073709551616 := by omega
    rw [e]
    omega

theorem dmod_inj {n i j : Nat} (h : i % n = j % n) (h1 : i < j + n) (h2 : j < i + n) : i = j := by
  rcases Nat.le_total i j with h3 | h3
  · have := Nat.sub_mod_eq_zero_of_mod_eq h.symm
    rw [Nat.mod_eq_of_lt (by omega)] at this
    omega
  · have := Nat.sub_mod_eq_zero_of_mod_eq h
    rw [Nat.mod_eq_of_lt (by omega)] at this
    omega

theorem dslot_nat (a n p : Nat) : (a : Int) + dslot (n : Int) (p : Int) = ((a + 2 + p % n : Nat) : Int) := by
  unfold dslot
  have : ((p % n : Nat) : Int) = (p : Int) % (n : Int) := Int.natCast_emod p n
  omega

theorem dgo_load {s : DQ} {m : MS} (k : Nat) (hd : s.done = false) (hn : s.next = ⟨1, k, 0, 0⟩) (hk : k < m.L.length) : ∃ m', s.go m = (s.took (nth m.L k) false, m') ∧ m'.L = m.L := by
  have ha : m.act ⟨1, k, 0, 0⟩ = (⟨m.L, wrap64 (m.c + 1), m.l⟩, ⟨nth m.L k, false, 0⟩) := by
    rw [act1, MS.load, if_pos (show m.has k = true from decide_eq_true ⟨by omega, by omega⟩)]
    rfl
  unfold DQ.go
  rw [hd, if_neg (by simp), hn, ha]
  exact ⟨⟨m.L, wrap64 (m.c + 1), m.l⟩, by simp, rfl⟩
theorem dgo_store {s : DQ} {m : MS} (k : Nat) (x : Int) (hd : s.done = false) (hn : s.next = ⟨2, k, x, 0⟩) (hk : k < m.L.length) : ∃ m', s.go m = (s.took 0 false, m') ∧ m'.L = m.L.set k x := by
  have ha : m.act ⟨2, k, x, 0⟩ = (⟨m.L.set k x, wrap64 (m.c + 1), wrap64 (m.l + 1)⟩, ⟨0, false, 0⟩) := by
    rw [act2, MS.store, if_pos (show m.has k = true from decide_eq_true ⟨by omega, by omega⟩)]
    rfl
  unfold DQ.go
  rw [hd, if_neg (by simp), hn, ha]
  exact ⟨⟨m.L.set k x, wrap64 (m.c + 1), wrap64 (m.l + 1)⟩, by simp, rfl⟩
theorem dgo_cas {s : DQ} {m : MS} (k : Nat) (x y : Int) (hd : s.done = false) (hn : s.next = ⟨3, k, x, y⟩) (hk : k < m.L.length) (he : nth m.L k = x) : ∃ m', s.go m = (s.took 0 true, m') ∧ m'.L = m.L.set k y := by
  have ha : m.act ⟨3, k, x, y⟩ = (⟨m.L.set k y, wrap64 (m.c + 1), wrap64 (m.l + 1)⟩, ⟨0, true, 0⟩) := by
    rw [act3, MS.cas, if_pos (show m.has k = true from decide_eq_true ⟨by omega, by omega⟩), if_pos (show nth m.L (k : Int).toNat = x from he)]
    rfl
  unfold DQ.go
  rw [hd, if_neg (by simp), hn, ha]
  exact ⟨⟨m.L.set k y, wrap64 (m.c + 1), wrap64 (m.l + 1)⟩, by simp, rfl⟩

theorem drun_go' {f : Nat} {s s' : DQ} {m m' : MS} (h : s.go m = (s', m')) (h5 : s'.done = false) : DQ.run (f + 1) s m = DQ.run f s' m' := by
  rw [drun_go (by rw [h]; exact h5), h]
theorem drun_end' {f : Nat} {s s' : DQ} {m m' : MS} (h : s.go m = (s', m')) (h5 : s'.done = true) : DQ.run (f + 1) s m = (s', m') := by
  rw [drun_end (by rw [h]; exact h5), h]

theorem wrap_small (x : Nat) (h : x < 2000000000) : IntKind.u64.wrap ((x : Int) + 1) = ((x + 1 : Nat) : Int) := by rw [IntKind.wrap_u64]; omega

/-- What a run ends in: what it tells, and the deque then. -/
def DEnd7 (s : DQ) (m : MS) (t : Value) (a n h : Nat) (vs : List Int) : Prop := ∃ s' m', DQ.run 10 s m = (s', m') ∧ dRun s' = t ∧ DqAt m'.L a n h vs

theorem dq_push {m : MS} {a n h : Nat} {vs : List Int} (v : Int) (r : DqAt m.L a n h vs) (hv : vs.length < n) :
    DEnd7 ⟨a, n, 0, 0, false, false, v, 0, 0, false⟩ m (.tuple #[.int .u64 v, .bool true]) a n h (vs ++ [v]) := by
  obtain ⟨len, n1, le, small, top, bot, vals⟩ := r
  obtain ⟨q, hq⟩ : ∃ q, h + vs.length = q := ⟨_, rfl⟩
  rw [hq] at bot
  have hm := Nat.mod_lt q (show n > 0 by omega)
  obtain ⟨m1, g1, e1⟩ := dgo_load (s := ⟨a, n, 0, 0, false, false, v, 0, 0, false⟩) (m := m) (a + 1) rfl (by simp [DQ.next]) (by omega)
  rw [bot, show DQ.took ⟨a, n, 0, 0, false, false, v, 0, 0, false⟩ (q : Nat) false = ⟨a, n, 0, 1, false, false, v, 0, (q : Nat), false⟩ from rfl] at g1
  obtain ⟨m2, g2, e2⟩ := dgo_load (s := ⟨a, n, 0, 1, false, false, v, 0, (q : Nat), false⟩) (m := m1) a rfl (by simp [DQ.next]) (by rw [e1]; omega)
  have hd := dif_eq q h (by omega) (by omega)
  rw [e1, top, show DQ.took ⟨a, n, 0, 1, false, false, v, 0, (q : Nat), false⟩ (h : Nat) false = ⟨a, n, 0, 2, false, false, v, 0, (q : Nat), false⟩ by simp only [DQ.took]; rw [if_pos (by trivial), if_neg (by omega), if_pos (by trivial), if_neg (by omega)]] at g2
  obtain ⟨m3, g3, e3⟩ := dgo_store (s := ⟨a, n, 0, 2, false, false, v, 0, (q : Nat), false⟩) (m := m2) (a + 2 + q % n) v rfl (by rw [← dslot_nat]; simp [DQ.next]) (by rw [e2, e1]; omega)
  rw [show DQ.took ⟨a, n, 0, 2, false, false, v, 0, (q : Nat), false⟩ 0 false = ⟨a, n, 0, 3, false, false, v, 0, (q : Nat), false⟩ from rfl] at g3
  obtain ⟨m4, g4, e4⟩ := dgo_store (s := ⟨a, n, 0, 3, false, false, v, 0, (q : Nat), false⟩) (m := m3) (a + 1) ((q + 1 : Nat) : Int) rfl (by rw [← wrap_small q (by omega)]; simp [DQ.next]) (by rw [e3, e2, e1, List.length_set]; omega)
  rw [show DQ.took ⟨a, n, 0, 3, false, false, v, 0, (q : Nat), false⟩ 0 false = ⟨a, n, 0, 4, true, true, v, 0, (q : Nat), false⟩ from rfl] at g4
  have hL : m4.L = (m.L.set (a + 2 + q % n) v).set (a + 1) ((q + 1 : Nat) : Int) := by rw [e4, e3, e2, e1]
  have key : ∀ k, nth m4.L k = if a + 1 = k then ((q + 1 : Nat) : Int) else if a + 2 + q % n = k then v else nth m.L k := fun k => by
    rw [hL, nth_set _ _ _ _ (by simp; omega), nth_set _ _ _ _ (by omega)]
  refine ⟨_, m4, by rw [drun_go' g1 rfl, drun_go' g2 rfl, drun_go' g3 rfl, drun_end' g4 rfl], rfl, by rw [hL]; simp; omega, n1, by simp; omega, small, ?_, ?_, fun i hi => ?_⟩
  · rw [key, if_neg (by omega), if_neg (by omega), top]
  · rw [key, if_pos rfl]; simp; omega
  · simp at hi
    have hmi := Nat.mod_lt (h + i) (show n > 0 by omega)
    by_cases e : i = vs.length
    · subst e
      rw [hq, key, if_neg (by omega), if_pos rfl]
      simp [nth]
    · have hne : ¬ q % n = (h + i) % n := fun hh => by have := dmod_inj hh (by omega) (by omega); omega
      rw [key, if_neg (by omega), if_neg (by omega), vals i (by omega)]
      simp [nth, List.getElem?_append_left (show i < vs.length by omega)]

theorem dq_full {m : MS} {a n h : Nat} {vs : List Int} (v : Int) (r : DqAt m.L a n h vs) (hv : vs.length = n) :
    DEnd7 ⟨a, n, 0, 0, false, false, v, 0, 0, false⟩ m (.tuple #[.int .u64 0, .bool false]) a n h vs := by
  have r0 := r
  obtain ⟨len, n1, le, small, top, bot, vals⟩ := r
  rw [hv] at bot
  obtain ⟨m1, g1, e1⟩ := dgo_load (s := ⟨a, n, 0, 0, false, false, v, 0, 0, false⟩) (m := m) (a + 1) rfl (by simp [DQ.next]) (by omega)
  rw [bot, show DQ.took ⟨a, n, 0, 0, false, false, v, 0, 0, false⟩ ((h + n : Nat) : Int) false = ⟨a, n, 0, 1, false, false, v, 0, ((h + n : Nat) : Int), false⟩ from rfl] at g1
  obtain ⟨m2, g2, e2⟩ := dgo_load (s := ⟨a, n, 0, 1, false, false, v, 0, ((h + n : Nat) : Int), false⟩) (m := m1) a rfl (by simp [DQ.next]) (by rw [e1]; omega)
  have hd := dif_eq (h + n) h (by omega) (by omega)
  rw [e1, top, show DQ.took ⟨a, n, 0, 1, false, false, v, 0, ((h + n : Nat) : Int), false⟩ (h : Nat) false = ⟨a, n, 0, 2, false, true, v, 0, ((h + n : Nat) : Int), false⟩ by simp only [DQ.took]; rw [if_pos (by trivial), if_neg (by omega), if_pos (by trivial), if_pos (by omega)]] at g2
  exact ⟨_, m2, by rw [drun_go' g1 rfl, drun_end' g2 rfl], rfl, by rw [e2, e1]; exact r0⟩

theorem dq_steal0 {m : MS} {a n h : Nat} (r : DqAt m.L a n h []) :
    DEnd7 ⟨a, n, 2, 0, false, false, 0, 0, 0, false⟩ m (.tuple #[.int .u64 0, .bool false]) a n h [] := by
  have r0 := r
  obtain ⟨len, n1, le, small, top, bot, vals⟩ := r
  obtain ⟨m1, g1, e1⟩ := dgo_load (s := ⟨a, n, 2, 0, false, false, 0, 0, 0, false⟩) (m := m) a rfl (by simp [DQ.next]) (by omega)
  rw [top, show DQ.took ⟨a, n, 2, 0, false, false, 0, 0, 0, false⟩ (h : Nat) false = ⟨a, n, 2, 1, false, false, 0, (h : Nat), 0, false⟩ from rfl] at g1
  obtain ⟨m2, g2, e2⟩ := dgo_load (s := ⟨a, n, 2, 1, false, false, 0, (h : Nat), 0, false⟩) (m := m1) (a + 1) rfl (by simp [DQ.next]) (by rw [e1]; omega)
  have hd := dif_eq h (h + [].length (α := Int)) (by omega) (by simp; omega)
  simp only [List.length_nil, Nat.add_zero] at hd bot
  rw [e1, bot, show DQ.took ⟨a, n, 2, 1, false, false, 0, (h : Nat), 0, false⟩ (h : Nat) false = ⟨a, n, 2, 2, false, true, 0, (h : Nat), 0, false⟩ by simp only [DQ.took]; rw [if_neg (by omega), if_neg (by omega), if_neg (by omega), if_pos (by trivial), if_pos (by omega)]] at g2
  exact ⟨_, m2, by rw [drun_go' g1 rfl, drun_end' g2 rfl], rfl, by rw [e2, e1]; exact r0⟩

theorem dq_steal {m : MS} {a n h : Nat} {x : Int} {vs : List Int} (r : DqAt m.L a n h (x :: vs)) (hs : h + 1 + n < 1000000000) :
    DEnd7 ⟨a, n, 2, 0, false, false, 0, 0, 0, false⟩ m (.tuple #[.int .u64 x, .bool true]) a n (h + 1) vs := by
  obtain ⟨len, n1, le, small, top, bot, vals⟩ := r
  simp only [List.length_cons] at le bot vals
  have hm := Nat.mod_lt h (show n > 0 by omega)
  obtain ⟨m1, g1, e1⟩ := dgo_load (s := ⟨a, n, 2, 0, false, false, 0, 0, 0, false⟩) (m := m) a rfl (by simp [DQ.next]) (by omega)
  rw [top, show DQ.took ⟨a, n, 2, 0, false, false, 0, 0, 0, false⟩ (h : Nat) false = ⟨a, n, 2, 1, false, false, 0, (h : Nat), 0, false⟩ from rfl] at g1
  obtain ⟨m2, g2, e2⟩ := dgo_load (s := ⟨a, n, 2, 1, false, false, 0, (h : Nat), 0, false⟩) (m := m1) (a + 1) rfl (by simp [DQ.next]) (by rw [e1]; omega)
  have hd := dif_eq h (h + (vs.length + 1)) (by omega) (by omega)
  rw [e1, bot, show DQ.took ⟨a, n, 2, 1, false, false, 0, (h : Nat), 0, false⟩ ((h + (vs.length + 1) : Nat) : Int) false = ⟨a, n, 2, 2, false, false, 0, (h : Nat), 0, false⟩ by simp only [DQ.took]; rw [if_neg (by omega), if_neg (by omega), if_neg (by omega), if_pos (by trivial), if_neg (by omega)]] at g2
  obtain ⟨m3, g3, e3⟩ := dgo_load (s := ⟨a, n, 2, 2, false, false, 0, (h : Nat), 0, false⟩) (m := m2) (a + 2 + h % n) rfl (by rw [← dslot_nat]; simp [DQ.next]) (by rw [e2, e1]; omega)
  have hx := vals 0 (by omega)
  simp only [Nat.add_zero] at hx
  rw [e2, e1, hx, show nth (x :: vs) 0 = x from rfl, show DQ.took ⟨a, n, 2, 2, false, false, 0, (h : Nat), 0, false⟩ x false = ⟨a, n, 2, 3, false, false, x, (h : Nat), 0, false⟩ from rfl] at g3
  obtain ⟨m4, g4, e4⟩ := dgo_cas (s := ⟨a, n, 2, 3, false, false, x, (h : Nat), 0, false⟩) (m := m3) a (h : Nat) ((h + 1 : Nat) : Int) rfl (by rw [← wrap_small h (by omega)]; simp [DQ.next]) (by rw [e3, e2, e1]; omega) (by rw [e3, e2, e1]; exact top)
  rw [show DQ.took ⟨a, n, 2, 3, false, false, x, (h : Nat), 0, false⟩ 0 true = ⟨a, n, 2, 4, true, true, x, (h : Nat), 0, false⟩ from rfl] at g4
  have hL : m4.L = m.L.set a ((h + 1 : Nat) : Int) := by rw [e4, e3, e2, e1]
  have key : ∀ k, nth m4.L k = if a = k then ((h + 1 : Nat) : Int) else nth m.L k := fun k => by rw [hL, nth_set _ _ _ _ (by omega)]
  refine ⟨_, m4, by rw [drun_go' g1 rfl, drun_go' g2 rfl, drun_go' g3 rfl, drun_end' g4 rfl], rfl, by rw [hL]; simp; omega, n1, by omega, hs, ?_, ?_, fun i hi => ?_⟩
  · rw [key, if_pos rfl]
  · rw [key, if_neg (by omega), bot]; omega
  · rw [key, if_neg (by omega), show h + 1 + i = h + (i + 1) by omega, vals (i + 1) (by omega)]
    simp [nth]

theorem dq_pop0 {m : MS} {a n h : Nat} (r : DqAt m.L a n h []) :
    DEnd7 ⟨a, n, 1, 0, false, false, 0, 0, 0, false⟩ m (.tuple #[.int .u64 0, .bool false]) a n h [] := by
  obtain ⟨len, n1, le, small, top, bot, vals⟩ := r
  simp only [List.length_nil, Nat.add_zero] at bot
  obtain ⟨q, hq⟩ : ∃ q : Int, IntKind.u64.wrap ((h : Int) - 1) = q := ⟨_, rfl⟩
  have hdq : 0 < dif (h : Int) q := by
    subst hq
    rw [IntKind.wrap_u64]
    rcases Nat.eq_zero_or_pos h with e | e
    · subst e
      rw [show (((0 : Nat) : Int) - 1) % 18446744073709551616 = 18446744073709551615 by omega, show dif ((0 : Nat) : Int) 18446744073709551615 = 1 by kernel_rfl]
      omega
    · have e2 : ((h : Int) - 1) % 18446744073709551616 = ((h - 1 : Nat) : Int) := by omega
      rw [e2, dif_eq h (h - 1) (by omega) (by omega)]
      omega
  have hqw : IntKind.u64.wrap (q + 1) = (h : Nat) := by
    subst hq
    rw [IntKind.wrap_u64, IntKind.wrap_u64]
    omega
  obtain ⟨m1, g1, e1⟩ := dgo_load (s := ⟨a, n, 1, 0, false, false, 0, 0, 0, false⟩) (m := m) (a + 1) rfl (by simp [DQ.next]) (by omega)
  rw [bot, show DQ.took ⟨a, n, 1, 0, false, false, 0, 0, 0, false⟩ (h : Nat) false = ⟨a, n, 1, 1, false, false, 0, 0, q, false⟩ by rw [← hq]; rfl] at g1
  obtain ⟨m2, g2, e2⟩ := dgo_store (s := ⟨a, n, 1, 1, false, false, 0, 0, q, false⟩) (m := m1) (a + 1) q rfl (by simp [DQ.next]) (by rw [e1]; omega)
  rw [show DQ.took ⟨a, n, 1, 1, false, false, 0, 0, q, false⟩ 0 false = ⟨a, n, 1, 2, false, false, 0, 0, q, false⟩ from rfl] at g2
  obtain ⟨m3, g3, e3⟩ := dgo_load (s := ⟨a, n, 1, 2, false, false, 0, 0, q, false⟩) (m := m2) a rfl (by simp [DQ.next]) (by rw [e2, e1, List.length_set]; omega)
  rw [e2, e1, nth_set _ _ _ _ (by omega), if_neg (by omega), top, show DQ.took ⟨a, n, 1, 2, false, false, 0, 0, q, false⟩ (h : Nat) false = ⟨a, n, 1, 5, false, false, 0, (h : Nat), q, false⟩ by simp only [DQ.took]; rw [if_neg (by omega), if_pos (by trivial), if_neg (by omega), if_neg (by omega), if_pos (by trivial), if_pos hdq]] at g3
  obtain ⟨m4, g4, e4⟩ := dgo_store (s := ⟨a, n, 1, 5, false, false, 0, (h : Nat), q, false⟩) (m := m3) (a + 1) (h : Nat) rfl (by rw [← hqw]; simp [DQ.next]) (by rw [e3, e2, e1, List.length_set]; omega)
  rw [show DQ.took ⟨a, n, 1, 5, false, false, 0, (h : Nat), q, false⟩ 0 false = ⟨a, n, 1, 6, false, true, 0, (h : Nat), q, false⟩ from rfl] at g4
  have hL : m4.L = (m.L.set (a + 1) q).set (a + 1) (h : Nat) := by rw [e4, e3, e2, e1]
  have key : ∀ k, nth m4.L k = if a + 1 = k then (h : Int) else if a + 1 = k then q else nth m.L k := fun k => by rw [hL, nth_set _ _ _ _ (by simp; omega), nth_set _ _ _ _ (by omega)]
  refine ⟨_, m4, by rw [drun_go' g1 rfl, drun_go' g2 rfl, drun_go' g3 rfl, drun_end' g4 rfl], rfl, by rw [hL]; simp; omega, n1, by simp, small, ?_, ?_, fun i hi => by simp at hi⟩
  · rw [key, if_neg (by omega), if_neg (by omega), top]
  · rw [key, if_pos rfl]; simp

theorem dq_pop1 {m : MS} {a n h : Nat} {x : Int} (r : DqAt m.L a n h [x]) (hs : h + 1 + n < 1000000000) :
    DEnd7 ⟨a, n, 1, 0, false, false, 0, 0, 0, false⟩ m (.tuple #[.int .u64 x, .bool true]) a n (h + 1) [] := by
  obtain ⟨len, n1, le, small, top, bot, vals⟩ := r
  simp only [List.length_cons, List.length_nil, Nat.zero_add] at bot
  have hm := Nat.mod_lt h (show n > 0 by omega)
  have hq : IntKind.u64.wrap (((h + 1 : Nat) : Int) - 1) = (h : Nat) := by rw [IntKind.wrap_u64]; omega
  have hd := dif_eq h h (by omega) (by omega)
  obtain ⟨m1, g1, e1⟩ := dgo_load (s := ⟨a, n, 1, 0, false, false, 0, 0, 0, false⟩) (m := m) (a + 1) rfl (by simp [DQ.next]) (by omega)
  rw [bot, show DQ.took ⟨a, n, 1, 0, false, false, 0, 0, 0, false⟩ ((h + 1 : Nat) : Int) false = ⟨a, n, 1, 1, false, false, 0, 0, (h : Nat), false⟩ by rw [← hq]; rfl] at g1
  obtain ⟨m2, g2, e2⟩ := dgo_store (s := ⟨a, n, 1, 1, false, false, 0, 0, (h : Nat), false⟩) (m := m1) (a + 1) (h : Nat) rfl (by simp [DQ.next]) (by rw [e1]; omega)
  rw [show DQ.took ⟨a, n, 1, 1, false, false, 0, 0, (h : Nat), false⟩ 0 false = ⟨a, n, 1, 2, false, false, 0, 0, (h : Nat), false⟩ from rfl] at g2
  obtain ⟨m3, g3, e3⟩ := dgo_load (s := ⟨a, n, 1, 2, false, false, 0, 0, (h : Nat), false⟩) (m := m2) a rfl (by simp [DQ.next]) (by rw [e2, e1, List.length_set]; omega)
  rw [e2, e1, nth_set _ _ _ _ (by omega), if_neg (by omega), top, show DQ.took ⟨a, n, 1, 2, false, false, 0, 0, (h : Nat), false⟩ (h : Nat) false = ⟨a, n, 1, 3, false, false, 0, (h : Nat), (h : Nat), false⟩ by simp only [DQ.took]; rw [if_neg (by omega), if_pos (by trivial), if_neg (by omega), if_neg (by omega), if_pos (by trivial), if_neg (by omega)]] at g3
  obtain ⟨m4, g4, e4⟩ := dgo_load (s := ⟨a, n, 1, 3, false, false, 0, (h : Nat), (h : Nat), false⟩) (m := m3) (a + 2 + h % n) rfl (by rw [← dslot_nat]; simp [DQ.next]) (by rw [e3, e2, e1, List.length_set]; omega)
  have hx := vals 0 (by simp)
  simp only [Nat.add_zero] at hx
  rw [e3, e2, e1, nth_set _ _ _ _ (by omega), if_neg (by omega), hx, show nth [x] 0 = x from rfl, show DQ.took ⟨a, n, 1, 3, false, false, 0, (h : Nat), (h : Nat), false⟩ x false = ⟨a, n, 1, 4, false, false, x, (h : Nat), (h : Nat), false⟩ by simp only [DQ.took]; rw [if_neg (by omega), if_pos (by trivial), if_neg (by omega), if_neg (by omega), if_neg (by omega), if_pos (by trivial), if_neg (by omega)]] at g4
  obtain ⟨m5, g5, e5⟩ := dgo_cas (s := ⟨a, n, 1, 4, false, false, x, (h : Nat), (h : Nat), false⟩) (m := m4) a (h : Nat) ((h + 1 : Nat) : Int) rfl (by rw [← wrap_small h (by omega)]; simp [DQ.next]) (by rw [e4, e3, e2, e1, List.length_set]; omega) (by rw [e4, e3, e2, e1, nth_set _ _ _ _ (by omega), if_neg (by omega)]; exact top)
  rw [show DQ.took ⟨a, n, 1, 4, false, false, x, (h : Nat), (h : Nat), false⟩ 0 true = ⟨a, n, 1, 5, false, false, x, (h : Nat), (h : Nat), true⟩ from rfl] at g5
  obtain ⟨m6, g6, e6⟩ := dgo_store (s := ⟨a, n, 1, 5, false, false, x, (h : Nat), (h : Nat), true⟩) (m := m5) (a + 1) ((h + 1 : Nat) : Int) rfl (by rw [← wrap_small h (by omega)]; simp [DQ.next]) (by rw [e5, e4, e3, e2, e1, List.length_set, List.length_set]; omega)
  rw [show DQ.took ⟨a, n, 1, 5, false, false, x, (h : Nat), (h : Nat), true⟩ 0 false = ⟨a, n, 1, 6, true, true, x, (h : Nat), (h : Nat), true⟩ from rfl] at g6
  have hL : m6.L = ((m.L.set (a + 1) (h : Nat)).set a ((h + 1 : Nat) : Int)).set (a + 1) ((h + 1 : Nat) : Int) := by rw [e6, e5, e4, e3, e2, e1]
  have key : ∀ k, nth m6.L k = if a + 1 = k then ((h + 1 : Nat) : Int) else if a = k then ((h + 1 : Nat) : Int) else if a + 1 = k then (h : Int) else nth m.L k := fun k => by
    rw [hL, nth_set _ _ _ _ (by simp; omega), nth_set _ _ _ _ (by simp; omega), nth_set _ _ _ _ (by omega)]
  refine ⟨_, m6, by rw [drun_go' g1 rfl, drun_go' g2 rfl, drun_go' g3 rfl, drun_go' g4 rfl, drun_go' g5 rfl, drun_end' g6 rfl], rfl, by rw [hL]; simp; omega, n1, by simp, hs, ?_, ?_, fun i hi => by simp at hi⟩
  · rw [key, if_neg (by omega), if_pos rfl]
  · rw [key, if_pos rfl]; simp

theorem dq_pop2 {m : MS} {a n h : Nat} {x : Int} {vs : List Int} (r : DqAt m.L a n h (vs ++ [x])) (hv : 0 < vs.length) :
    DEnd7 ⟨a, n, 1, 0, false, false, 0, 0, 0, false⟩ m (.tuple #[.int .u64 x, .bool true]) a n h vs := by
  obtain ⟨len, n1, le, small, top, bot, vals⟩ := r
  simp only [List.length_append, List.length_cons, List.length_nil, Nat.zero_add] at bot le vals
  obtain ⟨q, hqq⟩ : ∃ q, h + vs.length = q := ⟨_, rfl⟩
  have hm := Nat.mod_lt q (show n > 0 by omega)
  have hq : IntKind.u64.wrap (((h + (vs.length + 1) : Nat) : Int) - 1) = (q : Nat) := by rw [IntKind.wrap_u64]; omega
  have hd := dif_eq h q (by omega) (by omega)
  obtain ⟨m1, g1, e1⟩ := dgo_load (s := ⟨a, n, 1, 0, false, false, 0, 0, 0, false⟩) (m := m) (a + 1) rfl (by simp [DQ.next]) (by omega)
  rw [bot, show DQ.took ⟨a, n, 1, 0, false, false, 0, 0, 0, false⟩ ((h + (vs.length + 1) : Nat) : Int) false = ⟨a, n, 1, 1, false, false, 0, 0, (q : Nat), false⟩ by rw [← hq]; rfl] at g1
  obtain ⟨m2, g2, e2⟩ := dgo_store (s := ⟨a, n, 1, 1, false, false, 0, 0, (q : Nat), false⟩) (m := m1) (a + 1) (q : Nat) rfl (by simp [DQ.next]) (by rw [e1]; omega)
  rw [show DQ.took ⟨a, n, 1, 1, false, false, 0, 0, (q : Nat), false⟩ 0 false = ⟨a, n, 1, 2, false, false, 0, 0, (q : Nat), false⟩ from rfl] at g2
  obtain ⟨m3, g3, e3⟩ := dgo_load (s := ⟨a, n, 1, 2, false, false, 0, 0, (q : Nat), false⟩) (m := m2) a rfl (by simp [DQ.next]) (by rw [e2, e1, List.length_set]; omega)
  rw [e2, e1, nth_set _ _ _ _ (by omega), if_neg (by omega), top, show DQ.took ⟨a, n, 1, 2, false, false, 0, 0, (q : Nat), false⟩ (h : Nat) false = ⟨a, n, 1, 3, false, false, 0, (h : Nat), (q : Nat), false⟩ by simp only [DQ.took]; rw [if_neg (by omega), if_pos (by trivial), if_neg (by omega), if_neg (by omega), if_pos (by trivial), if_neg (by omega)]] at g3
  obtain ⟨m4, g4, e4⟩ := dgo_load (s := ⟨a, n, 1, 3, false, false, 0, (h : Nat), (q : Nat), false⟩) (m := m3) (a + 2 + q % n) rfl (by rw [← dslot_nat]; simp [DQ.next]) (by rw [e3, e2, e1, List.length_set]; omega)
  have hx := vals vs.length (by omega)
  rw [hqq, show nth (vs ++ [x]) vs.length = x by simp [nth]] at hx
  rw [e3, e2, e1, nth_set _ _ _ _ (by omega), if_neg (by omega), hx, show DQ.took ⟨a, n, 1, 3, false, false, 0, (h : Nat), (q : Nat), false⟩ x false = ⟨a, n, 1, 4, true, true, x, (h : Nat), (q : Nat), false⟩ by simp only [DQ.took]; rw [if_neg (by omega), if_pos (by trivial), if_neg (by omega), if_neg (by omega), if_neg (by omega), if_pos (by trivial), if_pos (by omega)]] at g4
  have hL : m4.L = m.L.set (a + 1) (q : Nat) := by rw [e4, e3, e2, e1]
  have key : ∀ k, nth m4.L k = if a + 1 = k then (q : Int) else nth m.L k := fun k => by rw [hL, nth_set _ _ _ _ (by omega)]
  refine ⟨_, m4, by rw [drun_go' g1 rfl, drun_go' g2 rfl, drun_go' g3 rfl, drun_end' g4 rfl], rfl, by rw [hL]; simp; omega, n1, by omega, small, ?_, ?_, fun i hi => ?_⟩
  · rw [key, if_neg (by omega), top]
  · rw [key, if_pos rfl]; omega
  · rw [key, if_neg (by omega), vals i (by omega)]
    simp [nth, List.getElem?_append_left hi]

end Go.Proofs.Ytoecoijmkjhkgaa
