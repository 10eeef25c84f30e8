/- The deque: a task, and the deque's small functions. -/
import Derived.Test.YtoecoijmkjhkgaaAct2
import Derived.Test.YtoecoijmkjhkgaaOwn
import Derived.Laws.BitsAllLaws
namespace Go.Proofs.Ytoecoijmkjhkgaa
open Go.RowKit

/-- A task: its kind is 0 (a push), 1 (a pop), 2 (a steal). -/
structure DQ where
  at_ : Int
  n : Nat
  k : Nat
  turn : Int
  has : Bool
  done : Bool
  v : Int
  top : Int
  bot : Int
  got : Bool

theorem dwrap (x : Int) (h0 : -9223372036854775808 ≤ x) (h1 : x ≤ 9223372036854775807) : IntKind.i64.wrap x = x := by
  rw [IntKind.wrap_i64]
  omega

def dequeRight (a n : Int) : Prop := (0 ≤ a ∧ a ≤ 65000) ∧ 1 ≤ n ∧ n ≤ 64
instance (a n : Int) : Decidable (dequeRight a n) := by unfold dequeRight; infer_instance

theorem dqright_any (w : World) (a n : Int) : Calls Try.prog 76 #[.agg #[.int .i64 a, .int .i64 n]] w fun e w' => e = .returned (.bool (decide (dequeRight a n))) ∧ Only [] w w' := by
  by_cases h1 : 0 ≤ a
  · by_cases h2 : a ≤ 65000
    · by_cases h3 : 1 ≤ n
      · by_cases h4 : n ≤ 64
        · rw [decide_eq_true (show dequeRight a n from ⟨⟨h1, h2⟩, h3, h4⟩)]
          go_enter Try.func76, Try.ntmps76
          go_wp2
          go_ret
          exact ⟨rfl, (Only.refl _ _).alloc _⟩
        · rw [decide_eq_false (show ¬ dequeRight a n from fun h => h4 h.2.2)]
          go_enter Try.func76, Try.ntmps76
          go_wp2
          go_ret
          exact ⟨rfl, (Only.refl _ _).alloc _⟩
      · rw [decide_eq_false (show ¬ dequeRight a n from fun h => h3 h.2.1)]
        go_enter Try.func76, Try.ntmps76
        go_wp2
        go_ret
        exact ⟨rfl, (Only.refl _ _).alloc _⟩
    · rw [decide_eq_false (show ¬ dequeRight a n from fun h => h2 h.1.2)]
      go_enter Try.func76, Try.ntmps76
      go_wp2
      go_ret
      exact ⟨rfl, (Only.refl _ _).alloc _⟩
  · rw [decide_eq_false (show ¬ dequeRight a n from fun h => h1 h.1.1)]
    go_enter Try.func76, Try.ntmps76
    go_wp2
    go_ret
    exact ⟨rfl, (Only.refl _ _).alloc _⟩

theorem dqload_at (w : World) (a n k : Int) (h : -9223372036854775808 ≤ a + k ∧ a + k ≤ 9223372036854775807) : Calls Try.prog 57 #[.agg #[.int .i64 a, .int .i64 n], .int .i64 k] w fun e w' => e = .returned (.agg #[.int .i64 1, .int .i64 (a + k), .int .u64 0, .int .u64 0]) ∧ Only [] w w' := by
  have hw := dwrap (a + k) h.1 h.2
  go_enter Try.func57, Try.ntmps57
  go_wp2
  refine bodyPost_ret (v := .agg #[.int .i64 1, .int .i64 (a + k), .int .u64 0, .int .u64 0]) (by simp [results, Try.results57, go_sem]) rfl ⟨rfl, ?_⟩
  exact ((Only.refl _ _).alloc _).alloc _

theorem dqbottom_at (w : World) (a n v : Int) (h : 0 ≤ a ∧ a ≤ 65000) : Calls Try.prog 59 #[.agg #[.int .i64 a, .int .i64 n], .int .u64 v] w fun e w' => e = .returned (.agg #[.int .i64 2, .int .i64 (a + 1), .int .u64 v, .int .u64 0]) ∧ Only [] w w' := by
  have hw := dwrap (a + 1) (by omega) (by omega)
  go_enter Try.func59, Try.ntmps59
  go_wp2
  refine bodyPost_ret (v := .agg #[.int .i64 2, .int .i64 (a + 1), .int .u64 v, .int .u64 0]) (by simp [results, Try.results59, go_sem]) rfl ⟨rfl, ?_⟩
  exact ((Only.refl _ _).alloc _).alloc _

theorem dqtake_at (w : World) (a n t : Int) : Calls Try.prog 60 #[.agg #[.int .i64 a, .int .i64 n], .int .u64 t] w fun e w' => e = .returned (.agg #[.int .i64 3, .int .i64 a, .int .u64 t, .int .u64 (IntKind.u64.wrap (t + 1))]) ∧ Only [] w w' := by
  go_enter Try.func60, Try.ntmps60
  go_wp2
  refine bodyPost_ret (v := .agg #[.int .i64 3, .int .i64 a, .int .u64 t, .int .u64 (IntKind.u64.wrap (t + 1))]) (by simp [results, Try.results60, go_sem]) rfl ⟨rfl, ?_⟩
  exact ((Only.refl _ _).alloc _).alloc _

/-- A position's slot. -/
def dslot (n pos : Int) : Int := 2 + pos % n
theorem dqslot_at (w : World) (a pos : Int) (n : Nat) (n1 : 1 ≤ n) (n64 : n ≤ 64) (p0 : 0 ≤ pos) : Calls Try.prog 58 #[.agg #[.int .i64 a, .int .i64 n], .int .u64 pos] w fun e w' => e = .returned (.int .i64 (dslot n pos)) ∧ Only [] w w' := by
  have h5 := Int.emod_nonneg pos (show (n : Int) ≠ 0 by omega)
  have h6 := Int.emod_lt_of_pos pos (show (0 : Int) < n by omega)
  unfold dslot
  obtain ⟨r, hr⟩ : ∃ r, pos % (n : Int) = r := ⟨_, rfl⟩
  rw [hr] at h5 h6 ⊢
  have h1 : IntKind.u64.wrap (n : Int) = n := by rw [IntKind.wrap_u64]; omega
  have h3 : IntKind.i64.wrap r = r := dwrap _ (by omega) (by omega)
  have h4 : IntKind.i64.wrap (2 + r) = 2 + r := dwrap _ (by omega) (by omega)
  have h7 : ¬ (n : Int) = 0 := by omega
  have h2 : pos.tmod (n : Int) = r := by rw [Int.tmod_eq_emod_of_nonneg p0]; exact hr
  go_enter Try.func58, Try.ntmps58
  go_wp2
  go_ret
  exact ⟨rfl, (Only.refl _ _).alloc _⟩

theorem dqend_at (w : World) (b : Nat) (x : Bool) (u v : Value) (c3 : w.cell? ⟨b, 4, none⟩ = some u) (c4 : w.cell? ⟨b, 5, none⟩ = some v) (f3 : w.frozen? ⟨b, 4, none⟩ = false) (f4 : w.frozen? ⟨b, 5, none⟩ = false) :
    Calls Try.prog 56 #[.pointer (some ⟨b, 0, none⟩), .bool x] w fun e w' => e = .returned (.tuple #[]) ∧ w' = (w.setCell ⟨b, 5, none⟩ (.bool true)).setCell ⟨b, 4, none⟩ (.bool x) := by
  go_enter Try.func56, Try.ntmps56
  go_wp2
  refine bodyPost_end (v := .tuple #[]) (by simp [results, Try.results56, go_sem]) rfl ⟨rfl, rfl⟩

end Go.Proofs.Ytoecoijmkjhkgaa
