/- The document's Show in one contract. -/
import Derived.Test.YtnoplfjodedijaaRShowK1
import Derived.Test.YtnoplfjodedijaaRShowK2
import Derived.Test.YtnoplfjodedijaaRShowK3
import Derived.Test.YtnoplfjodedijaaRShowK4
namespace Go.Proofs.Ytnoplfjodedijaa
open Go.RowKit

set_option maxRecDepth 100000 in
theorem rshow_bad (w : World) (k i : Int) (a b : Nat) (h : i < 0 ∨ (¬ i < 0 ∧ k < 1) ∨ (¬ i < 0 ∧ ¬ k < 1 ∧ 4 < k)) :
    Calls Try.prog 21 #[.agg #[.int .i64 k, .int .i64 i, .int .u64 a, .int .u64 b]] w fun e w' => e = .returned (.string (bs [])) ∧ Only [] w w' := by
  rcases h with h | ⟨h1, h2⟩ | ⟨h1, h2, h3⟩
  all_goals
    go_enter Try.func21, Try.ntmps21
    go_wp2_with fail
    go_ret
    exact ⟨rfl, (Only.refl _ _).alloc _⟩

set_option maxRecDepth 100000 in
theorem rshow_a (w : World) (j a b : Nat) (ha : ¬ a = 0) :
    Calls Try.prog 21 #[.agg #[.int .i64 1, .int .i64 j, .int .u64 a, .int .u64 b]] w fun e w' => e = .returned (.string (bs [])) ∧ Only [] w w' := by
  have h0 : ¬ (j : Int) < 0 := by omega
  have h1 : ((a : Int) != 0) = true := by simp; omega
  have h2 : ¬ (a : Int) = 0 := by omega
  go_enter Try.func21, Try.ntmps21
  go_wp2_with fail
  go_ret
  exact ⟨rfl, (Only.refl _ _).alloc _⟩

set_option maxRecDepth 100000 in
theorem rshow_b (w : World) (k : Int) (j a b : Nat) (hk : (k = 1 ∧ a = 0) ∨ k = 2 ∨ k = 4) (hb : ¬ b = 0) :
    Calls Try.prog 21 #[.agg #[.int .i64 k, .int .i64 j, .int .u64 a, .int .u64 b]] w fun e w' => e = .returned (.string (bs [])) ∧ Only [] w w' := by
  have h0 : ¬ (j : Int) < 0 := by omega
  have h1 : ((b : Int) != 0) = true := by simp; omega
  have h2 : ¬ (b : Int) = 0 := by omega
  rcases hk with ⟨rfl, rfl⟩ | rfl | rfl
  all_goals
    go_enter Try.func21, Try.ntmps21
    go_wp2_with fail
    go_ret
    exact ⟨rfl, (Only.refl _ _).alloc _⟩

theorem rshow_any (w : World) (k i : Int) (a b : Nat) (hi : i < 9223372036854775808) (ha : a < 18446744073709551616) (hb : b < 18446744073709551616) :
    Calls Try.prog 21 #[.agg #[.int .i64 k, .int .i64 i, .int .u64 a, .int .u64 b]] w fun e w' => e = .returned (.string (bs (Four.shown ⟨k, i, a, b⟩))) ∧ Only [] w w' := by
  by_cases hn : i < 0
  · have hg : ¬ Four.good ⟨k, i, a, b⟩ := by simp [Four.good]; omega
    rw [Four.shown, if_neg hg]
    exact rshow_bad w k i a b (.inl hn)
  by_cases h1 : k < 1
  · have hg : ¬ Four.good ⟨k, i, a, b⟩ := by simp [Four.good]; omega
    rw [Four.shown, if_neg hg]
    exact rshow_bad w k i a b (.inr (.inl ⟨hn, h1⟩))
  by_cases h4 : 4 < k
  · have hg : ¬ Four.good ⟨k, i, a, b⟩ := by simp [Four.good]; omega
    rw [Four.shown, if_neg hg]
    exact rshow_bad w k i a b (.inr (.inr ⟨hn, h1, h4⟩))
  obtain ⟨j, rfl⟩ := Int.eq_ofNat_of_zero_le (show 0 ≤ i by omega)
  have hj : j < 9223372036854775808 := by omega
  have : k = 1 ∨ k = 2 ∨ k = 3 ∨ k = 4 := by omega
  rcases this with rfl | rfl | rfl | rfl
  · by_cases e1 : a = 0
    · subst e1
      by_cases e2 : b = 0
      · subst e2; exact rshow_one w j hj
      · have hg : ¬ Four.good ⟨1, j, 0, b⟩ := by simp [Four.good]; omega
        rw [Four.shown, if_neg hg]
        exact rshow_b w 1 j 0 b (.inl ⟨rfl, rfl⟩) e2
    · have hg : ¬ Four.good ⟨1, j, a, b⟩ := by simp [Four.good]; omega
      rw [Four.shown, if_neg hg]
      exact rshow_a w j a b e1
  · by_cases e2 : b = 0
    · subst e2; exact rshow_two w j a hj ha
    · have hg : ¬ Four.good ⟨2, j, a, b⟩ := by simp [Four.good]; omega
      rw [Four.shown, if_neg hg]
      exact rshow_b w 2 j a b (.inr (.inl rfl)) e2
  · exact rshow_three w j a b hj ha hb
  · by_cases e2 : b = 0
    · subst e2; exact rshow_four w j a hj ha
    · have hg : ¬ Four.good ⟨4, j, a, b⟩ := by simp [Four.good]; omega
      rw [Four.shown, if_neg hg]
      exact rshow_b w 4 j a b (.inr (.inr rfl)) e2

end Go.Proofs.Ytnoplfjodedijaa
