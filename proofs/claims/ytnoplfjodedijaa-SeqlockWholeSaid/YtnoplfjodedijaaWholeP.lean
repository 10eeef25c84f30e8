/- Writers and readers on one lock, in any order of steps: the plain law of SeqlockWhole. -/
import Derived.Test.YtnoplfjodedijaaLight
namespace Go.Proofs.Ytnoplfjodedijaa
open Go.RowKit

/-- What holds of writers on the lock at 5, of n values each, the j-th's all j + 1; own is who is between its cas and its last store; x is the value before it. -/
structure WInv (N n : Nat) (S : Nat → WS) (L : List Int) (t : Nat) (own : Option Nat) (x : Int) : Prop where
  len : L.length = 40
  c0 : 0 ≤ nth L 5
  c1 : nth L 5 ≤ t
  x0 : 0 ≤ x
  x1 : x ≤ N
  rng : ∀ i, 0 ≤ nth L i ∧ nth L i < 18446744073709551616
  ws : ∀ j, j < N → (S j).at_ = 5 ∧ (S j).n = n ∧ (S j).vals = List.replicate n ((j : Int) + 1) ∧ 0 ≤ (S j).turn ∧ (S j).turn ≤ n + 3 ∧
    ((S j).turn = 1 → (S j).was % 2 = 0 ∧ 0 ≤ (S j).was ∧ (S j).was ≤ nth L 5) ∧ (own ≠ some j → ¬ (2 ≤ (S j).turn ∧ (S j).turn ≤ n + 2))
  free : own = none → nth L 5 % 2 = 0 ∧ ∀ i, i < n → nth L (6 + i) = x
  held : ∀ j, own = some j → j < N ∧ nth L 5 % 2 = 1 ∧ 2 ≤ (S j).turn ∧ (S j).turn ≤ n + 2 ∧ (S j).was + 1 = nth L 5 ∧ ∀ i : Nat, i < n → nth L (6 + i) = if (i : Int) < (S j).turn - 2 then (j : Int) + 1 else x

theorem rng_set {L : List Int} {k : Nat} {v : Int} (h : ∀ i, 0 ≤ nth L i ∧ nth L i < 18446744073709551616) (hk : k < L.length) (h0 : 0 ≤ v) (h1 : v < 18446744073709551616) : ∀ i, 0 ≤ nth (L.set k v) i ∧ nth (L.set k v) i < 18446744073709551616 := fun i => by
  rw [nth_set _ _ _ _ hk]
  split
  · exact ⟨h0, h1⟩
  · exact h i

/-- What holds of a reader. -/
structure RInv (N n : Nat) (L : List Int) (s : RS) : Prop where
  a : s.at_ = 5
  sz : s.n = n
  ok : s.bad = false
  t0 : 0 ≤ s.turn
  t1 : s.turn ≤ n + 2
  mid : 1 ≤ s.turn → s.turn ≤ n + 1 → (s.vals.length : Int) = s.turn - 1 ∧ s.was % 2 = 0 ∧ s.was ≤ nth L 5 ∧ (s.was = nth L 5 → ∀ i, i < s.vals.length → nth s.vals i = nth L (6 + i))
  done : s.turn = n + 2 → s.vals.length = n ∧ ∃ y : Int, 0 ≤ y ∧ y ≤ N ∧ ∀ i, i < n → nth s.vals i = y

theorem updW_same (S : Nat → WS) (k : Nat) (s : WS) : updW S k s k = s := by unfold updW; rw [if_pos rfl]
theorem updW_far (S : Nat → WS) (k j : Nat) (s : WS) (h : j ≠ k) : updW S k s j = S j := by unfold updW; rw [if_neg h]

theorem nth_rep (n : Nat) (v : Int) (i : Nat) (h : i < n) : nth (List.replicate n v) i = v := by simp [nth, h]

/-- The number grew: a reader stays what it was. -/
theorem RInv.grew {N n : Nat} {L L' : List Int} {s : RS} (h : RInv N n L s) (hc : nth L 5 < nth L' 5) : RInv N n L' s :=
  ⟨h.a, h.sz, h.ok, h.t0, h.t1, fun h1 h2 => by
    obtain ⟨a, b, c, _⟩ := h.mid h1 h2
    exact ⟨a, b, by omega, fun e => by omega⟩, h.done⟩
/-- The number is odd: a reader knows nothing of the words. -/
theorem RInv.odd {N n : Nat} {L L' : List Int} {s : RS} (h : RInv N n L s) (hc : nth L' 5 = nth L 5) (ho : nth L 5 % 2 = 1) : RInv N n L' s :=
  ⟨h.a, h.sz, h.ok, h.t0, h.t1, fun h1 h2 => by
    obtain ⟨a, b, c, _⟩ := h.mid h1 h2
    exact ⟨a, b, by omega, fun e => by omega⟩, h.done⟩

/-- A writer's step. -/
theorem whole_w (N n : Nat) (S : Nat → WS) (m : MS) (t k : Nat) (own : Option Nat) (x : Int) (n1 : 1 ≤ n) (n16 : n ≤ 16) (hN : N ≤ 6) (hk : k < N) (ht : t ≤ 300) (h : WInv N n S m.L t own x) :
    0 ≤ (m.act (S k).next).2.v ∧ (m.act (S k).next).2.v < 18446744073709551616 ∧ ∃ own' x', WInv N n (updW S k ((S k).go m).1) ((S k).go m).2.L (t + 1) own' x' ∧
      nth m.L 5 ≤ nth ((S k).go m).2.L 5 ∧ nth ((S k).go m).2.L 5 ≤ nth m.L 5 + 1 ∧ ∀ s, RInv N n m.L s → RInv N n ((S k).go m).2.L s := by
  obtain ⟨len, c0, c1, x0, x1, rng, ws, free, held⟩ := h
  obtain ⟨w1, w2, w3, w4, w5, w6, w7⟩ := ws k hk
  have e5 : (5 : Int).toNat = 5 := rfl
  -- a step that leaves the words as they were, of one who is within neither before nor after
  have quiet : ∀ (s' : WS), own ≠ some k → s'.at_ = 5 → s'.n = n → s'.vals = List.replicate n ((k : Int) + 1) → 0 ≤ s'.turn → s'.turn ≤ n + 3 → (s'.turn = 1 → s'.was % 2 = 0 ∧ 0 ≤ s'.was ∧ s'.was ≤ nth m.L 5) → ¬ (2 ≤ s'.turn ∧ s'.turn ≤ n + 2) →
      WInv N n (updW S k s') m.L (t + 1) own x := by
    intro s' ho a1 a2 a3 a4 a5 a6 a7
    refine ⟨len, c0, by omega, x0, x1, rng, fun j hj => ?_, free, fun j hj => ?_⟩
    · by_cases e : j = k
      · subst e
        rw [updW_same]
        exact ⟨a1, a2, a3, a4, a5, a6, fun _ => a7⟩
      · rw [updW_far S k j s' e]
        exact ws j hj
    · have e : j ≠ k := fun e => ho (e ▸ hj)
      rw [updW_far S k j s' e]
      exact held j hj
  generalize hS : S k = s at *
  obtain ⟨at_, n', T, was, vals⟩ := s
  dsimp only at w1 w2 w3 w4 w5 w6 w7
  subst w1 w2 w3
  unfold WS.go
  dsimp only
  by_cases h5 : T = (n' : Int) + 3
  · subst h5
    rw [if_pos rfl]
    have hx : WS.next ⟨5, n', (n' : Int) + 3, was, List.replicate n' ((k : Int) + 1)⟩ = ⟨0, 0, 0, 0⟩ := by unfold WS.next; dsimp only; rw [if_pos rfl]
    rw [hx, act0 m 0 0 0 0 (by omega) (by omega) (by omega) (by omega)]
    have ho : own ≠ some k := fun e => by
      obtain ⟨_, _, b3, b4, _⟩ := held k e
      rw [hS] at b3 b4
      dsimp only at b3 b4
      omega
    exact ⟨by simp, by simp, own, x, quiet _ ho rfl rfl rfl (by dsimp only; omega) (by dsimp only; omega) (fun h => by dsimp only at h; omega) (fun h => by dsimp only at h; omega), Int.le_refl _, Int.le_add_one (Int.le_refl _), fun _ h => h⟩
  rw [if_neg h5]
  by_cases h0 : T = 0
  · subst h0
    have ho : own ≠ some k := fun e => by
      obtain ⟨_, _, b3, b4, _⟩ := held k e
      rw [hS] at b3 b4
      dsimp only at b3 b4
      omega
    have hx : WS.next ⟨5, n', 0, was, List.replicate n' ((k : Int) + 1)⟩ = ⟨1, 5, 0, 0⟩ := by unfold WS.next; dsimp only; rw [if_neg h5, if_pos rfl]
    rw [hx, qload m 5 (by omega) (by omega)]
    dsimp only
    rw [e5]
    unfold WS.after
    dsimp only
    rw [if_neg (by simp), if_pos rfl]
    by_cases hev : nth m.L 5 % 2 = 0
    · rw [if_pos hev]
      exact ⟨c0, by omega, own, x, quiet _ ho rfl rfl rfl (by dsimp only; omega) (by dsimp only; omega) (fun _ => ⟨hev, c0, Int.le_refl _⟩) (fun h => by dsimp only at h; omega), Int.le_refl _, Int.le_add_one (Int.le_refl _), fun _ h => h⟩
    · rw [if_neg hev]
      exact ⟨c0, by omega, own, x, quiet _ ho rfl rfl rfl (by dsimp only; omega) (by dsimp only; omega) (fun h => by dsimp only at h; omega) (fun h => by dsimp only at h; omega), Int.le_refl _, Int.le_add_one (Int.le_refl _), fun _ h => h⟩
  by_cases h1 : T = 1
  · subst h1
    have ho : own ≠ some k := fun e => by
      obtain ⟨_, _, b3, b4, _⟩ := held k e
      rw [hS] at b3 b4
      dsimp only at b3 b4
      omega
    obtain ⟨v1, v2, v3⟩ := w6 rfl
    have hwr : IntKind.u64.wrap (was + 1) = was + 1 := by rw [IntKind.wrap_u64]; omega
    have hx : WS.next ⟨5, n', 1, was, List.replicate n' ((k : Int) + 1)⟩ = ⟨3, 5, was, was + 1⟩ := by unfold WS.next; dsimp only; rw [if_neg h5, if_neg h0, if_pos rfl, hwr]
    rw [hx]
    by_cases hc : nth m.L (5 : Int).toNat = was
    · rw [qcas_yes m 5 was (was + 1) (by omega) (by omega) hc]
      rw [e5] at hc
      dsimp only
      rw [e5]
      have hn : nth (m.L.set 5 (was + 1)) 5 = was + 1 := by rw [nth_set _ _ _ _ (by omega), if_pos rfl]
      have hfar : ∀ i, i < n' → nth (m.L.set 5 (was + 1)) (6 + i) = nth m.L (6 + i) := fun i hi => by rw [nth_set _ _ _ _ (by omega), if_neg (by omega)]
      have hown : own = none := by
        rcases own with _ | j
        · rfl
        · obtain ⟨_, b2, _⟩ := held j rfl
          omega
      subst hown
      obtain ⟨f1, f2⟩ := free rfl
      unfold WS.after
      dsimp only
      rw [if_neg (by simp), if_neg (by omega), if_neg (by simp)]
      refine ⟨by omega, by omega, some k, x, ⟨by rw [List.length_set]; exact len, by rw [hn]; omega, by rw [hn]; omega, x0, x1, rng_set rng (by omega) (by omega) (by omega), fun j hj => ?_, by simp, fun j hj => ?_⟩, by rw [hn]; omega, by rw [hn]; omega, fun s hs => hs.grew (by rw [hn]; omega)⟩
      · by_cases e : j = k
        · subst e
          rw [updW_same]
          exact ⟨rfl, rfl, rfl, by dsimp only; omega, by dsimp only; omega, fun h => by dsimp only at h; omega, fun h => absurd rfl h⟩
        · rw [updW_far S k j _ e, hn]
          obtain ⟨a1, a2, a3, a4, a5, a6, a7⟩ := ws j hj
          exact ⟨a1, a2, a3, a4, a5, fun h => by have := a6 h; omega, fun _ => a7 (by simp)⟩
      · have e : k = j := by simpa using hj
        subst e
        rw [updW_same, hn]
        refine ⟨hk, by omega, by dsimp only; omega, by dsimp only; omega, rfl, fun i hi => ?_⟩
        dsimp only
        rw [hfar i hi, f2 i hi, if_neg (by omega)]
    · rw [qcas_no m 5 was (was + 1) (by omega) (by omega) hc]
      dsimp only
      unfold WS.after
      dsimp only
      rw [if_neg (by simp), if_neg (by omega), if_pos ⟨rfl, rfl⟩]
      exact ⟨by omega, by omega, own, x, quiet _ ho rfl rfl rfl (by dsimp only; omega) (by dsimp only; omega) (fun h => by dsimp only at h; omega) (fun h => by dsimp only at h; omega), Int.le_refl _, Int.le_add_one (Int.le_refl _), fun _ h => h⟩
  have hT : 2 ≤ T ∧ T ≤ n' + 2 := by omega
  have hown : own = some k := Classical.byContradiction fun e => w7 e hT
  subst hown
  obtain ⟨_, b2, _, _, b5, b6⟩ := held k rfl
  rw [hS] at b5 b6
  dsimp only at b5 b6
  by_cases h4 : T = (n' : Int) + 2
  · subst h4
    have hwr : IntKind.u64.wrap (was + 2) = was + 2 := by rw [IntKind.wrap_u64]; omega
    have hx : WS.next ⟨5, n', (n' : Int) + 2, was, List.replicate n' ((k : Int) + 1)⟩ = ⟨2, 5, was + 2, 0⟩ := by unfold WS.next; dsimp only; rw [if_neg h5, if_neg h0, if_neg h1, if_pos rfl, hwr]
    rw [hx, qstore m 5 _ _ (by omega) (by omega)]
    dsimp only
    rw [e5]
    have hn : nth (m.L.set 5 (was + 2)) 5 = was + 2 := by rw [nth_set _ _ _ _ (by omega), if_pos rfl]
    have hfar : ∀ i, i < n' → nth (m.L.set 5 (was + 2)) (6 + i) = nth m.L (6 + i) := fun i hi => by rw [nth_set _ _ _ _ (by omega), if_neg (by omega)]
    unfold WS.after
    dsimp only
    rw [if_neg (by simp), if_neg (by omega), if_neg (fun hh => h1 hh.1)]
    refine ⟨by omega, by omega, none, (k : Int) + 1, ⟨by rw [List.length_set]; exact len, by rw [hn]; omega, by rw [hn]; omega, by omega, by omega, rng_set rng (by omega) (by omega) (by omega), fun j hj => ?_, fun _ => ⟨by rw [hn]; omega, fun i hi => ?_⟩, by simp⟩, by rw [hn]; omega, by rw [hn]; omega, fun s hs => hs.grew (by rw [hn]; omega)⟩
    · by_cases e : j = k
      · subst e
        rw [updW_same]
        exact ⟨rfl, rfl, rfl, by dsimp only; omega, by dsimp only; omega, fun h => by dsimp only at h; omega, fun _ h => by dsimp only at h; omega⟩
      · rw [updW_far S k j _ e, hn]
        obtain ⟨a1, a2, a3, a4, a5, a6, a7⟩ := ws j hj
        exact ⟨a1, a2, a3, a4, a5, fun h => by have := a6 h; omega, fun _ => a7 (by simp; omega)⟩
    · rw [hfar i hi, b6 i hi, if_pos (by omega)]
  · have hv : nth (List.replicate n' ((k : Int) + 1)) (T - 2).toNat = (k : Int) + 1 := nth_rep _ _ _ (by omega)
    have hx : WS.next ⟨5, n', T, was, List.replicate n' ((k : Int) + 1)⟩ = ⟨2, 5 + T - 1, (k : Int) + 1, 0⟩ := by unfold WS.next; dsimp only; rw [if_neg h5, if_neg h0, if_neg h1, if_neg h4, hv]
    rw [hx, qstore m _ _ _ (by omega) (by omega)]
    dsimp only
    have hn : nth (m.L.set (5 + T - 1).toNat ((k : Int) + 1)) 5 = nth m.L 5 := by rw [nth_set _ _ _ _ (by omega), if_neg (by omega)]
    unfold WS.after
    dsimp only
    rw [if_neg (by simp), if_neg h0, if_neg (fun hh => h1 hh.1)]
    refine ⟨by omega, by omega, some k, x, ⟨by rw [List.length_set]; exact len, by rw [hn]; omega, by rw [hn]; omega, x0, x1, rng_set rng (by omega) (by omega) (by omega), fun j hj => ?_, by simp, fun j hj => ?_⟩, by rw [hn]; omega, by rw [hn]; omega, fun s hs => hs.odd hn b2⟩
    · by_cases e : j = k
      · subst e
        rw [updW_same]
        exact ⟨rfl, rfl, rfl, by dsimp only; omega, by dsimp only; omega, fun h => by dsimp only at h; omega, fun h => absurd rfl h⟩
      · rw [updW_far S k j _ e, hn]
        exact ws j hj
    · have e : k = j := by simpa using hj
      subst e
      rw [updW_same, hn]
      refine ⟨hk, b2, by dsimp only; omega, by dsimp only; omega, b5, fun i hi => ?_⟩
      dsimp only
      rw [nth_set _ _ _ _ (by omega), b6 i hi]
      by_cases e : (5 + T - 1).toNat = 6 + i
      · rw [if_pos e, if_pos (by omega)]
      · rw [if_neg e]
        by_cases e2 : (i : Int) < T - 2
        · rw [if_pos e2, if_pos (by omega)]
        · rw [if_neg e2, if_neg (by omega)]

/-- A reader's step. -/
theorem whole_r (N n : Nat) (S : Nat → WS) (m : MS) (t : Nat) (own : Option Nat) (x : Int) (s : RS) (n1 : 1 ≤ n) (n16 : n ≤ 16) (ht : t ≤ 300) (h : WInv N n S m.L t own x) (hr : RInv N n m.L s) :
    0 ≤ (m.act s.next).2.v ∧ (m.act s.next).2.v < 18446744073709551616 ∧ (1 ≤ s.turn → s.turn < s.n + 1 → s.vals.length < 16) ∧ (s.go m).2.L = m.L ∧ RInv N n m.L (s.go m).1 := by
  obtain ⟨len, c0, c1, x0, x1, rng, ws, free, held⟩ := h
  obtain ⟨at_, n', T, was, vals, tries, bad⟩ := s
  obtain ⟨r1, r2, r3, r4, r5, r6, r7⟩ := hr
  dsimp only at r1 r2 r3 r4 r5 r6 r7
  subst r1 r2 r3
  have e5 : (5 : Int).toNat = 5 := rfl
  have hl16 : 1 ≤ T → T < (n' : Int) + 1 → vals.length < 16 := fun h1 h2 => by
    have := (r6 h1 (by omega)).1
    omega
  unfold RS.go
  dsimp only
  by_cases h5 : T = (n' : Int) + 2
  · subst h5
    rw [if_pos rfl]
    have hx : RS.next ⟨5, n', (n' : Int) + 2, was, vals, tries, false⟩ = ⟨0, 0, 0, 0⟩ := by unfold RS.next; dsimp only; rw [if_pos rfl]
    rw [hx, act0 m 0 0 0 0 (by omega) (by omega) (by omega) (by omega)]
    exact ⟨by simp, by simp, hl16, rfl, rfl, rfl, rfl, r4, r5, r6, r7⟩
  rw [if_neg h5]
  by_cases h0 : T = 0
  · subst h0
    have hx : RS.next ⟨5, n', 0, was, vals, tries, false⟩ = ⟨1, 5, 0, 0⟩ := by unfold RS.next; dsimp only; rw [if_neg h5, if_neg (by omega), Int.add_zero]
    have hf : RS.fresh ⟨5, n', 0, was, vals, tries, false⟩ = ⟨5, n', 0, was, [], wrap64 (tries + 1), false⟩ := by unfold RS.fresh; rw [if_pos rfl]
    rw [hx, hf, qload m 5 (by omega) (by omega)]
    dsimp only
    rw [e5]
    unfold RS.after
    dsimp only
    rw [if_neg (by simp), if_pos rfl]
    refine ⟨c0, by omega, hl16, rfl, rfl, rfl, rfl, ?_, ?_, fun h1 h2 => ?_, fun h1 => ?_⟩
    · dsimp only; split <;> omega
    · dsimp only; split <;> omega
    · dsimp only at h1 h2 ⊢
      by_cases hev : nth m.L 5 % 2 = 0
      · rw [if_pos hev]
        exact ⟨by simp, hev, Int.le_refl _, fun _ i hi => by simp at hi⟩
      · rw [if_neg hev] at h1
        omega
    · dsimp only at h1
      split at h1 <;> omega
  have hf : RS.fresh ⟨5, n', T, was, vals, tries, false⟩ = ⟨5, n', T, was, vals, tries, false⟩ := by unfold RS.fresh; rw [if_neg h0]
  rw [hf]
  obtain ⟨q1, q2, q3, q4⟩ := r6 (by omega) (by omega)
  by_cases h1 : T = (n' : Int) + 1
  · subst h1
    have hx : RS.next ⟨5, n', (n' : Int) + 1, was, vals, tries, false⟩ = ⟨1, 5, 0, 0⟩ := by unfold RS.next; dsimp only; rw [if_neg h5, if_pos rfl]
    rw [hx, qload m 5 (by omega) (by omega)]
    dsimp only
    rw [e5]
    unfold RS.after
    dsimp only
    rw [if_neg (by simp), if_neg h0, if_neg (by omega)]
    refine ⟨c0, by omega, hl16, rfl, ?_⟩
    by_cases hw : nth m.L 5 = was
    · rw [if_pos hw]
      refine ⟨rfl, rfl, rfl, by dsimp only; omega, by dsimp only; omega, fun _ h => by dsimp only at h; omega, fun _ => ?_⟩
      dsimp only
      have hlen : vals.length = n' := by omega
      refine ⟨hlen, x, x0, x1, fun i hi => ?_⟩
      have hown : own = none := by
        rcases own with _ | j
        · rfl
        · obtain ⟨_, b2, _⟩ := held j rfl
          omega
      rw [q4 hw.symm i (by omega)]
      exact (free hown).2 i hi
    · rw [if_neg hw]
      exact ⟨rfl, rfl, rfl, by dsimp only; omega, by dsimp only; omega, fun h _ => by dsimp only at h; omega, fun h => by dsimp only at h; omega⟩
  · have hx : RS.next ⟨5, n', T, was, vals, tries, false⟩ = ⟨1, 5 + T, 0, 0⟩ := by unfold RS.next; dsimp only; rw [if_neg h5, if_neg h1]
    rw [hx, qload m _ (by omega) (by omega)]
    dsimp only
    unfold RS.after
    dsimp only
    rw [if_neg (by simp), if_neg h0, if_pos (by omega)]
    obtain ⟨b0, b1⟩ := rng (5 + T).toNat
    refine ⟨b0, b1, hl16, rfl, rfl, rfl, rfl, by dsimp only; omega, by dsimp only; omega, fun _ _ => ?_, fun h => by dsimp only at h; omega⟩
    dsimp only
    refine ⟨by simp; omega, q2, q3, fun hw i hi => ?_⟩
    rw [List.length_append] at hi
    simp at hi
    by_cases e : i < vals.length
    · have := q4 hw i e
      rw [← this]
      simp [nth, List.getElem?_append_left e]
    · have e2 : i = vals.length := by omega
      subst e2
      have : (5 + T).toNat = 6 + vals.length := by omega
      rw [this]
      simp [nth]

end Go.Proofs.Ytnoplfjodedijaa
