/- Writers on one lock, in any order of steps: the plain law of SeqlockOdd. -/
import Derived.Test.YtnoplfjodedijaaLight
namespace Go.Proofs.Ytnoplfjodedijaa
open Go.RowKit

/-- Whether a writer is between its cas and its last store. -/
def inn (s : WS) : Int := if 2 ≤ s.turn ∧ s.turn ≤ 4 then 1 else 0
def cnt (S : Nat → WS) : Nat → Int
  | 0 => 0
  | k + 1 => cnt S k + inn (S k)

theorem inn_range (s : WS) : 0 ≤ inn s ∧ inn s ≤ 1 := by unfold inn; split <;> omega
theorem cnt_nonneg (S : Nat → WS) (n : Nat) : 0 ≤ cnt S n := by
  induction n with
  | zero => exact Int.le_refl _
  | succ n ih => have := inn_range (S n); unfold cnt; omega
theorem cnt_le (S : Nat → WS) (n : Nat) : cnt S n ≤ n := by
  induction n with
  | zero => exact Int.le_refl _
  | succ n ih => have := inn_range (S n); unfold cnt; omega
theorem cnt_upd_out (S : Nat → WS) (k n : Nat) (s : WS) (h : n ≤ k) : cnt (updW S k s) n = cnt S n := by
  induction n with
  | zero => rfl
  | succ n ih =>
    unfold cnt
    rw [ih (by omega)]
    unfold updW
    rw [if_neg (by omega)]
theorem cnt_upd (S : Nat → WS) (k n : Nat) (s : WS) (h : k < n) : cnt (updW S k s) n = cnt S n - inn (S k) + inn s := by
  induction n with
  | zero => omega
  | succ n ih =>
    unfold cnt
    by_cases hk : k = n
    · subst hk
      rw [cnt_upd_out S k k s (Nat.le_refl _)]
      have : updW S k s k = s := by unfold updW; rw [if_pos rfl]
      rw [this]
      omega
    · rw [ih (by omega)]
      have : updW S k s n = S n := by unfold updW; rw [if_neg (by omega)]
      rw [this]
      omega
theorem cnt_one (S : Nat → WS) (k n : Nat) (h : k < n) : inn (S k) ≤ cnt S n := by
  induction n with
  | zero => omega
  | succ n ih =>
    unfold cnt
    have h1 := inn_range (S n)
    have h2 := cnt_nonneg S n
    by_cases hk : k = n
    · subst hk; omega
    · have := ih (by omega); omega
theorem cnt_two (S : Nat → WS) (j k n : Nat) (hj : j < n) (hk : k < n) (hn : j ≠ k) : inn (S j) + inn (S k) ≤ cnt S n := by
  induction n with
  | zero => omega
  | succ n ih =>
    unfold cnt
    have h1 := inn_range (S n)
    by_cases e1 : j = n
    · subst e1
      have := cnt_one S k j (by omega)
      omega
    · by_cases e2 : k = n
      · subst e2
        have := cnt_one S j k (by omega)
        omega
      · have := ih (by omega) (by omega)
        omega

/-- What holds of writers on the lock at 3, of two values each, after t steps. -/
structure OddInv (N : Nat) (S : Nat → WS) (L : List Int) (t : Nat) : Prop where
  len : L.length = 30
  c0 : 0 ≤ nth L 3
  c1 : nth L 3 ≤ 2 * t
  par : nth L 3 % 2 = cnt S N
  ws : ∀ j, j < N → (S j).at_ = 3 ∧ (S j).n = 2 ∧ 0 ≤ (S j).turn ∧ (S j).turn ≤ 5 ∧ ((S j).turn = 1 → (S j).was % 2 = 0 ∧ 0 ≤ (S j).was ∧ (S j).was ≤ nth L 3) ∧ (2 ≤ (S j).turn ∧ (S j).turn ≤ 4 → (S j).was + 1 = nth L 3)

/-- A step of one of them. -/
theorem odd_step (N : Nat) (S : Nat → WS) (m : MS) (t k : Nat) (hk : k < N) (ht : t ≤ 300) (h : OddInv N S m.L t) :
    0 ≤ (m.act (S k).next).2.v ∧ (m.act (S k).next).2.v < 18446744073709551616 ∧ OddInv N (updW S k ((S k).go m).1) ((S k).go m).2.L (t + 1) := by
  obtain ⟨len, c0, c1, par, ws⟩ := h
  obtain ⟨w1, w2, w3, w4, w5, w6⟩ := ws k hk
  have hk1 := cnt_one S k N hk
  -- the others, where the number stays or grows and nobody else is within
  have others : ∀ (s' : WS) (L' : List Int), nth m.L 3 ≤ nth L' 3 → (nth L' 3 = nth m.L 3 ∨ ∀ j, j < N → j ≠ k → inn (S j) = 0) →
      (s'.at_ = 3 ∧ s'.n = 2 ∧ 0 ≤ s'.turn ∧ s'.turn ≤ 5 ∧ (s'.turn = 1 → s'.was % 2 = 0 ∧ 0 ≤ s'.was ∧ s'.was ≤ nth L' 3) ∧ (2 ≤ s'.turn ∧ s'.turn ≤ 4 → s'.was + 1 = nth L' 3)) →
      ∀ j, j < N → (updW S k s' j).at_ = 3 ∧ (updW S k s' j).n = 2 ∧ 0 ≤ (updW S k s' j).turn ∧ (updW S k s' j).turn ≤ 5 ∧ ((updW S k s' j).turn = 1 → (updW S k s' j).was % 2 = 0 ∧ 0 ≤ (updW S k s' j).was ∧ (updW S k s' j).was ≤ nth L' 3) ∧ (2 ≤ (updW S k s' j).turn ∧ (updW S k s' j).turn ≤ 4 → (updW S k s' j).was + 1 = nth L' 3) := by
    intro s' L' hle hsame hs' j hj
    by_cases e : j = k
    · subst e
      have : updW S j s' j = s' := by unfold updW; rw [if_pos rfl]
      rw [this]
      exact hs'
    · have : updW S k s' j = S j := by unfold updW; rw [if_neg e]
      rw [this]
      obtain ⟨a1, a2, a3, a4, a5, a6⟩ := ws j hj
      refine ⟨a1, a2, a3, a4, fun h => ?_, fun h => ?_⟩
      · have := a5 h; omega
      · rcases hsame with hs | hs
        · rw [hs]; exact a6 h
        · have h0 := hs j hj e
          unfold inn at h0
          rw [if_pos h] at h0
          omega
  generalize hS : S k = s at *
  obtain ⟨at_, n, T, was, vals⟩ := s
  dsimp only at w1 w2 w3 w4 w5 w6
  subst w1 w2
  have up : ∀ s', cnt (updW S k s') N = cnt S N - inn ⟨3, 2, T, was, vals⟩ + inn s' := fun s' => by rw [cnt_upd S k N s' hk, hS]
  unfold WS.go
  dsimp only
  by_cases h5 : T = ((2 : Nat) : Int) + 3
  · -- done
    subst h5
    rw [if_pos rfl]
    have hx : WS.next ⟨3, 2, ((2 : Nat) : Int) + 3, was, vals⟩ = ⟨0, 0, 0, 0⟩ := by unfold WS.next; dsimp only; rw [if_pos rfl]
    rw [hx, act0 m 0 0 0 0 (by omega) (by omega) (by omega) (by omega)]
    dsimp only
    refine ⟨by omega, by omega, len, c0, by omega, ?_, others _ _ (Int.le_refl _) (.inl rfl) ⟨rfl, rfl, by (try dsimp only); omega, by (try dsimp only); omega, fun h => by (try dsimp only at h ⊢); omega, fun h => by (try dsimp only at h ⊢); omega⟩⟩
    rw [up]
    omega
  rw [if_neg h5]
  by_cases h0 : T = 0
  · subst h0
    have hx : WS.next ⟨3, 2, 0, was, vals⟩ = ⟨1, 3, 0, 0⟩ := by unfold WS.next; dsimp only; rw [if_neg h5, if_pos rfl]
    rw [hx, qload m 3 (by omega) (by omega)]
    have e3 : (3 : Int).toNat = 3 := rfl
    dsimp only
    rw [e3]
    have hi : inn ⟨3, 2, 0, was, vals⟩ = 0 := by unfold inn; rw [if_neg (by dsimp only; omega)]
    unfold WS.after
    dsimp only
    rw [if_neg (by simp), if_pos rfl]
    by_cases hev : nth m.L 3 % 2 = 0
    · rw [if_pos hev]
      refine ⟨c0, by omega, len, c0, by omega, ?_, others _ _ (Int.le_refl _) (.inl rfl) ⟨rfl, rfl, by (try dsimp only); omega, by (try dsimp only); omega, fun _ => ⟨hev, c0, Int.le_refl _⟩, fun h => by (try dsimp only at h ⊢); omega⟩⟩
      rw [up, hi]
      have : inn ⟨3, 2, 1, nth m.L 3, vals⟩ = 0 := by unfold inn; rw [if_neg (by dsimp only; omega)]
      rw [this]
      omega
    · rw [if_neg hev]
      refine ⟨c0, by omega, len, c0, by omega, ?_, others _ _ (Int.le_refl _) (.inl rfl) ⟨rfl, rfl, by (try dsimp only); omega, by (try dsimp only); omega, fun h => by (try dsimp only at h ⊢); omega, fun h => by (try dsimp only at h ⊢); omega⟩⟩
      rw [up, hi]
      have : inn ⟨3, 2, 0, nth m.L 3, vals⟩ = 0 := by unfold inn; rw [if_neg (by dsimp only; omega)]
      rw [this]
      omega
  by_cases h1 : T = 1
  · subst h1
    obtain ⟨v1, v2, v3⟩ := w5 rfl
    have hwr : IntKind.u64.wrap (was + 1) = was + 1 := by rw [IntKind.wrap_u64]; omega
    have hx : WS.next ⟨3, 2, 1, was, vals⟩ = ⟨3, 3, was, was + 1⟩ := by unfold WS.next; dsimp only; rw [if_neg h5, if_neg h0, if_pos rfl, hwr]
    have hi : inn ⟨3, 2, 1, was, vals⟩ = 0 := by unfold inn; rw [if_neg (by dsimp only; omega)]
    have e3 : (3 : Int).toNat = 3 := rfl
    rw [hx]
    by_cases hc : nth m.L (3 : Int).toNat = was
    · rw [qcas_yes m 3 was (was + 1) (by omega) (by omega) hc]
      rw [e3] at hc
      dsimp only
      rw [e3]
      have hn : nth (m.L.set 3 (was + 1)) 3 = was + 1 := by rw [nth_set _ _ _ _ (by omega), if_pos rfl]
      have hall : ∀ j, j < N → j ≠ k → inn (S j) = 0 := fun j hj _ => by
        have a := cnt_one S j N hj
        have b := inn_range (S j)
        omega
      unfold WS.after
      dsimp only
      rw [if_neg (by simp), if_neg (by omega), if_neg (by simp)]
      refine ⟨by omega, by omega, by rw [List.length_set]; exact len, by rw [hn]; omega, by rw [hn]; omega, ?_, others _ _ (by rw [hn]; omega) (.inr hall) ⟨rfl, rfl, by (try dsimp only); omega, by (try dsimp only); omega, fun h => by (try dsimp only at h ⊢); omega, fun _ => hn.symm⟩⟩
      rw [hn, up, hi]
      have : inn ⟨3, 2, 1 + 1, was, vals⟩ = 1 := by unfold inn; rw [if_pos (by dsimp only; omega)]
      rw [this]
      omega
    · rw [qcas_no m 3 was (was + 1) (by omega) (by omega) hc]
      dsimp only
      unfold WS.after
      dsimp only
      rw [if_neg (by simp), if_neg (by omega), if_pos ⟨rfl, rfl⟩]
      refine ⟨by omega, by omega, len, c0, by omega, ?_, others _ _ (Int.le_refl _) (.inl rfl) ⟨rfl, rfl, by (try dsimp only); omega, by (try dsimp only); omega, fun h => by (try dsimp only at h ⊢); omega, fun h => by (try dsimp only at h ⊢); omega⟩⟩
      rw [up, hi]
      have : inn ⟨3, 2, 0, was, vals⟩ = 0 := by unfold inn; rw [if_neg (by dsimp only; omega)]
      rw [this]
      omega
  have hT : 2 ≤ T ∧ T ≤ 4 := by omega
  have hw := w6 hT
  have hi : inn ⟨3, 2, T, was, vals⟩ = 1 := by unfold inn; rw [if_pos hT]
  have hall : ∀ j, j < N → j ≠ k → inn (S j) = 0 := fun j hj hjk => by
    have a := cnt_two S j k N hj hk hjk
    have b := inn_range (S j)
    rw [hS, hi] at a
    omega
  by_cases h4 : T = 4
  · subst h4
    have hwr : IntKind.u64.wrap (was + 2) = was + 2 := by rw [IntKind.wrap_u64]; omega
    have hx : WS.next ⟨3, 2, 4, was, vals⟩ = ⟨2, 3, was + 2, 0⟩ := by unfold WS.next; dsimp only; rw [if_neg h5, if_neg h0, if_neg h1, if_pos (by omega), hwr]
    have e3 : (3 : Int).toNat = 3 := rfl
    rw [hx, qstore m 3 _ _ (by omega) (by omega)]
    dsimp only
    rw [e3]
    have hn : nth (m.L.set 3 (was + 2)) 3 = was + 2 := by rw [nth_set _ _ _ _ (by omega), if_pos rfl]
    unfold WS.after
    dsimp only
    rw [if_neg (by simp), if_neg (by omega), if_neg (by simp)]
    refine ⟨by omega, by omega, by rw [List.length_set]; exact len, by rw [hn]; omega, by rw [hn]; omega, ?_, others _ _ (by rw [hn]; omega) (.inr hall) ⟨rfl, rfl, by (try dsimp only); omega, by (try dsimp only); omega, fun h => by (try dsimp only at h ⊢); omega, fun h => by (try dsimp only at h ⊢); omega⟩⟩
    rw [hn, up, hi]
    have : inn ⟨3, 2, 4 + 1, was, vals⟩ = 0 := by unfold inn; rw [if_neg (by dsimp only; omega)]
    rw [this]
    omega
  · obtain ⟨x, hx⟩ : ∃ x, WS.next ⟨3, 2, T, was, vals⟩ = ⟨2, 3 + T - 1, x, 0⟩ := ⟨_, by unfold WS.next; dsimp only; rw [if_neg h5, if_neg h0, if_neg h1, if_neg (by omega)]⟩
    rw [hx, qstore m _ _ _ (by omega) (by omega)]
    dsimp only
    have hn : nth (m.L.set (3 + T - 1).toNat x) 3 = nth m.L 3 := by rw [nth_set _ _ _ _ (by omega), if_neg (by omega)]
    unfold WS.after
    dsimp only
    rw [if_neg (by simp), if_neg h0, if_neg (fun hh => h1 hh.1)]
    refine ⟨by omega, by omega, by rw [List.length_set]; exact len, by rw [hn]; omega, by rw [hn]; omega, ?_, others _ _ (by rw [hn]; omega) (.inl hn) ⟨rfl, rfl, by (try dsimp only); omega, by (try dsimp only); omega, fun h => by (try dsimp only at h ⊢); omega, fun _ => by rw [hn]; exact hw⟩⟩
    rw [hn, up, hi]
    have : inn ⟨3, 2, T + 1, was, vals⟩ = 1 := by unfold inn; rw [if_pos (by dsimp only; omega)]
    rw [this]
    omega

end Go.Proofs.Ytnoplfjodedijaa
