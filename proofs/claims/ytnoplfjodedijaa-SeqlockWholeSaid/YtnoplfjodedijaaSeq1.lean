/- The seqlock: its small functions. -/
import Derived.Test.YtnoplfjodedijaaAct2
import Derived.Test.YtnoplfjodedijaaOwn
import Derived.Deep.RegionHeld3
import Derived.Laws.BitsAllLaws
namespace Go.Proofs.Ytnoplfjodedijaa
open Go.RowKit

theorem cell_alloc {w : World} {p : Addr} {v : Value} (h : w.cell? p = some v) (o : Obj) : (w.alloc o).cell? p = some v := by
  rw [((Only.refl [] w).alloc o).cell (cell_lt h).1 (by simp)]
  exact h
theorem bits_one (v : Int) (h0 : 0 ≤ v) (h1 : v < 18446744073709551616) : bits .and .u64 v 1 = v % 2 := by
  rw [u64_and v 1 h0 h1 (by omega) (by omega)]
  have : v.toNat &&& (1 : Int).toNat = v.toNat % 2 := Nat.and_one_is_mod _
  rw [this]
  omega

theorem right_any (w : World) (a n : Int) : Calls Try.prog 61 #[.agg #[.int .i64 a, .int .i64 n]] w fun e w' => e = .returned (.bool (decide ((0 ≤ a ∧ a ≤ 65000) ∧ 1 ≤ n ∧ n ≤ 16))) ∧ Only [] w w' := by
  by_cases h1 : 0 ≤ a
  · by_cases h2 : a ≤ 65000
    · by_cases h3 : 1 ≤ n
      · by_cases h4 : n ≤ 16
        · rw [decide_eq_true ⟨⟨h1, h2⟩, h3, h4⟩]
          go_enter Try.func61, Try.ntmps61
          go_wp2
          go_ret
          exact ⟨rfl, (Only.refl _ _).alloc _⟩
        · rw [decide_eq_false fun h => h4 h.2.2]
          go_enter Try.func61, Try.ntmps61
          go_wp2
          go_ret
          exact ⟨rfl, (Only.refl _ _).alloc _⟩
      · rw [decide_eq_false fun h => h3 h.2.1]
        go_enter Try.func61, Try.ntmps61
        go_wp2
        go_ret
        exact ⟨rfl, (Only.refl _ _).alloc _⟩
    · rw [decide_eq_false fun h => h2 h.1.2]
      go_enter Try.func61, Try.ntmps61
      go_wp2
      go_ret
      exact ⟨rfl, (Only.refl _ _).alloc _⟩
  · rw [decide_eq_false fun h => h1 h.1.1]
    go_enter Try.func61, Try.ntmps61
    go_wp2
    go_ret
    exact ⟨rfl, (Only.refl _ _).alloc _⟩

theorem over_at (w : World) (b : Nat) (t e : Int) (c2 : w.cell? ⟨b, 2, none⟩ = some (.int .i64 t)) (c4 : w.cell? ⟨b, 4, none⟩ = some (.int .i64 e)) :
    Calls Try.prog 63 #[.pointer (some ⟨b, 0, none⟩)] w fun r w' => r = .returned (.bool (decide (t = e))) ∧ Only [] w w' := by
  have hb : (t == e) = decide (t = e) := Bool.eq_iff_iff.2 (by simp)
  go_enter Try.func63, Try.ntmps63
  go_wp2
  go_region
  all_goals
    go_wp2
    go_ret
    exact ⟨rfl, (Only.refl _ _).drew⟩

theorem load_of (w : World) (b : Nat) (a k : Int) (c0 : w.cell? ⟨b, 0, none⟩ = some (.int .i64 a)) (h : -9223372036854775808 ≤ a + k ∧ a + k ≤ 9223372036854775807) :
    Calls Try.prog 65 #[.pointer (some ⟨b, 0, none⟩), .int .i64 k] w fun r w' => r = .returned (.agg #[.int .i64 1, .int .i64 (a + k), .int .u64 0, .int .u64 0]) ∧ Only [] w w' := by
  have c0' := cell_alloc c0 (.cells #[.int .i64 0, .int .i64 0, .int .u64 0, .int .u64 0] 24)
  have hw : (a + k + 9223372036854775808) % 18446744073709551616 - 9223372036854775808 = a + k := by omega
  go_enter Try.func65, Try.ntmps65
  go_wp2
  refine bodyPost_ret (v := .agg #[.int .i64 1, .int .i64 (a + k), .int .u64 0, .int .u64 0]) (by simp [results, Try.results65, go_sem]) rfl ⟨rfl, ?_⟩
  exact (Only.refl _ _).alloc _

theorem begin_at (w : World) (b : Nat) (v : Int) (h0 : 0 ≤ v) (h1 : v < 18446744073709551616) (x2 x3 : Value) (c2 : w.cell? ⟨b, 2, none⟩ = some x2) (c3 : w.cell? ⟨b, 3, none⟩ = some x3) (f2 : w.frozen? ⟨b, 2, none⟩ = false) (f3 : w.frozen? ⟨b, 3, none⟩ = false) :
    Calls Try.prog 64 #[.pointer (some ⟨b, 0, none⟩), .int .u64 v] w fun r w' => r = .returned (.tuple #[]) ∧ w' = if v % 2 = 0 then (w.setCell ⟨b, 3, none⟩ (.int .u64 v)).setCell ⟨b, 2, none⟩ (.int .i64 1) else w.setCell ⟨b, 3, none⟩ (.int .u64 v) := by
  have hb := bits_one v h0 h1
  by_cases h : v % 2 = 0
  · rw [if_pos h]
    rw [h] at hb
    go_enter Try.func64, Try.ntmps64
    go_wp2
    refine bodyPost_end (v := .tuple #[]) (by simp [results, Try.results64, go_sem]) rfl ⟨rfl, rfl⟩
  · rw [if_neg h]
    rw [show v % 2 = 1 from by omega] at hb
    go_enter Try.func64, Try.ntmps64
    go_wp2
    refine bodyPost_end (v := .tuple #[]) (by simp [results, Try.results64, go_sem]) rfl ⟨rfl, rfl⟩

end Go.Proofs.Ytnoplfjodedijaa
