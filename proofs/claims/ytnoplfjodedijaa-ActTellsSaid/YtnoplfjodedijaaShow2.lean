/- act.Show in one contract. -/
import Derived.Test.YtnoplfjodedijaaShowK
namespace Go.Proofs.Ytnoplfjodedijaa
open Go.RowKit

theorem show_kind_out (w : World) (k i : Int) (a b : Nat) (h : ¬ (1 ≤ k ∧ k ≤ 4)) :
    Calls Try.prog 20 #[.agg #[.int .i64 k, .int .i64 i, .int .u64 a, .int .u64 b]] w fun e w' => e = .returned (.string (bs [])) ∧ Only [] w w' := by
  have HB := Lib.hid (Blk.new w 24 #[.int .i64 k, .int .i64 i, .int .u64 a, .int .u64 b])
  go_enter Try.func20, Try.ntmps20
  go_wp2_with fail
  refine (does_any _ k i a b).mono ?_
  rintro e w1 ⟨rfl, ho⟩
  rw [decide_eq_false h]
  have HO1 := Lib.hid (((Only.refl [] w).alloc _).trans ho)
  have HB1 := Lib.hid (HB.out.only ho (by simp))
  have q1 := HB1.out.at 1 rfl
  clear ho h
  go_wp2_with fail
  go_ret
  exact ⟨rfl, HO1.out⟩

theorem show_place_out (w : World) (k i : Int) (a b : Nat) (h : 1 ≤ k ∧ k ≤ 4) (hi : i < 0) :
    Calls Try.prog 20 #[.agg #[.int .i64 k, .int .i64 i, .int .u64 a, .int .u64 b]] w fun e w' => e = .returned (.string (bs [])) ∧ Only [] w w' := by
  have HB := Lib.hid (Blk.new w 24 #[.int .i64 k, .int .i64 i, .int .u64 a, .int .u64 b])
  go_enter Try.func20, Try.ntmps20
  go_wp2_with fail
  refine (does_any _ k i a b).mono ?_
  rintro e w1 ⟨rfl, ho⟩
  rw [decide_eq_true h]
  have HO1 := Lib.hid (((Only.refl [] w).alloc _).trans ho)
  have HB1 := Lib.hid (HB.out.only ho (by simp))
  have q1 := HB1.out.at 1 rfl
  clear ho h
  go_wp2_with fail
  go_ret
  exact ⟨rfl, HO1.out⟩

theorem show_any (w : World) (k i : Int) (a b : Nat) (hi : i < 9223372036854775808) (ha : a < 18446744073709551616) (hb : b < 18446744073709551616) :
    Calls Try.prog 20 #[.agg #[.int .i64 k, .int .i64 i, .int .u64 a, .int .u64 b]] w fun e w' => e = .returned (.string (bs (Four.shown ⟨k, i, a, b⟩))) ∧ Only [] w w' := by
  by_cases h : 1 ≤ k ∧ k ≤ 4
  · by_cases hn : i < 0
    · have hg : ¬ Four.good ⟨k, i, a, b⟩ := by simp [Four.good]; omega
      rw [Four.shown, if_neg hg]
      exact show_place_out w k i a b h hn
    obtain ⟨j, rfl⟩ := Int.eq_ofNat_of_zero_le (show 0 ≤ i by omega)
    have hj : j < 9223372036854775808 := by omega
    have : k = 1 ∨ k = 2 ∨ k = 3 ∨ k = 4 := by omega
    clear h
    rcases this with rfl | rfl | rfl | rfl
    · by_cases h1 : a = 0
      · subst h1
        by_cases h2 : b = 0
        · subst h2; exact show_one w j hj
        · exact show_one_badb w j b hj h2
      · exact show_one_bada w j a b hj h1
    · by_cases h2 : b = 0
      · subst h2; exact show_two w j a hj ha
      · exact show_two_bad w j a b hj ha h2
    · exact show_three w j a b hj ha hb
    · by_cases h2 : b = 0
      · subst h2; exact show_four w j a hj ha
      · exact show_four_bad w j a b hj ha h2
  · have hg : ¬ Four.good ⟨k, i, a, b⟩ := by simp [Four.good]; omega
    rw [Four.shown, if_neg hg]
    exact show_kind_out w k i a b h

end Go.Proofs.Ytnoplfjodedijaa
