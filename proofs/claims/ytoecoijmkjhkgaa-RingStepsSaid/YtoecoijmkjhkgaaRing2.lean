/- The ring: the way of one who pushes and of one who pops. -/
import Derived.Test.YtoecoijmkjhkgaaRing1
namespace Go.Proofs.Ytoecoijmkjhkgaa
open Go.RowKit

theorem meth_pu_count (a : Addr) (w : World) : (method 272 36 (.pointer (some a)) "matryoshka/ring.count").run Try.prog w = .ok (105, .pointer (some a)) w := by kernel_rfl
theorem meth_po_count (a : Addr) (w : World) : (method 272 39 (.pointer (some a)) "matryoshka/ring.count").run Try.prog w = .ok (110, .pointer (some a)) w := by kernel_rfl
theorem meth_pu_awaited (a : Addr) (w : World) : (method 272 36 (.pointer (some a)) "matryoshka/ring.awaited").run Try.prog w = .ok (104, .pointer (some a)) w := by kernel_rfl
theorem meth_po_awaited (a : Addr) (w : World) : (method 272 39 (.pointer (some a)) "matryoshka/ring.awaited").run Try.prog w = .ok (109, .pointer (some a)) w := by kernel_rfl
theorem meth_pu_laid (a : Addr) (w : World) : (method 272 36 (.pointer (some a)) "matryoshka/ring.laid").run Try.prog w = .ok (106, .pointer (some a)) w := by kernel_rfl
theorem meth_po_laid (a : Addr) (w : World) : (method 272 39 (.pointer (some a)) "matryoshka/ring.laid").run Try.prog w = .ok (111, .pointer (some a)) w := by kernel_rfl
theorem meth_pu_value (a : Addr) (w : World) : (method 272 36 (.pointer (some a)) "matryoshka/ring.value").run Try.prog w = .ok (108, .pointer (some a)) w := by kernel_rfl
theorem meth_po_value (a : Addr) (w : World) : (method 272 39 (.pointer (some a)) "matryoshka/ring.value").run Try.prog w = .ok (113, .pointer (some a)) w := by kernel_rfl
theorem meth_pu_took (a : Addr) (w : World) : (method 272 36 (.pointer (some a)) "matryoshka/ring.took").run Try.prog w = .ok (107, .pointer (some a)) w := by kernel_rfl
theorem meth_po_took (a : Addr) (w : World) : (method 272 39 (.pointer (some a)) "matryoshka/ring.took").run Try.prog w = .ok (112, .pointer (some a)) w := by kernel_rfl
theorem nil_pu_awaited (a : Addr) (w : World) : (nilAhead 272 36 (.pointer (some a)) "matryoshka/ring.awaited").run Try.prog w = .ok (some false) w := by kernel_rfl
theorem nil_po_awaited (a : Addr) (w : World) : (nilAhead 272 39 (.pointer (some a)) "matryoshka/ring.awaited").run Try.prog w = .ok (some false) w := by kernel_rfl
theorem nil_pu_laid (a : Addr) (w : World) : (nilAhead 272 36 (.pointer (some a)) "matryoshka/ring.laid").run Try.prog w = .ok (some false) w := by kernel_rfl
theorem nil_po_laid (a : Addr) (w : World) : (nilAhead 272 39 (.pointer (some a)) "matryoshka/ring.laid").run Try.prog w = .ok (some false) w := by kernel_rfl
theorem nil_pu_value (a : Addr) (w : World) : (nilAhead 272 36 (.pointer (some a)) "matryoshka/ring.value").run Try.prog w = .ok (some false) w := by kernel_rfl
theorem nil_po_value (a : Addr) (w : World) : (nilAhead 272 39 (.pointer (some a)) "matryoshka/ring.value").run Try.prog w = .ok (some false) w := by kernel_rfl

theorem sets4 {w w' : World} {c : Nat} (h : Only [] w w') (hc : w.heap.size ≤ c) (a b d e : Value) : Only [] w ((((w'.setCell ⟨c, 0, none⟩ a).setCell ⟨c, 1, none⟩ b).setCell ⟨c, 2, none⟩ d).setCell ⟨c, 3, none⟩ e) :=
  (((h.setCell (.inr hc) _).setCell (.inr hc) _).setCell (.inr hc) _).setCell (.inr hc) _

section
variable (w : World) (b : Nat) (at_ n pos v x : Int)

theorem pucount_at (c0 : w.cell? ⟨b, 0, none⟩ = some (.int .i64 at_)) : Calls Try.prog 105 #[.pointer (some ⟨b, 0, none⟩)] w fun e w' => e = .returned (.int .i64 at_) ∧ w = w' := by
  go_enter Try.func105, Try.ntmps105
  go_wp2
  go_ret
  exact ⟨rfl, rfl⟩
theorem pocount_at (c0 : w.cell? ⟨b, 0, none⟩ = some (.int .i64 at_)) (a0 : 0 ≤ at_) (a1 : at_ ≤ 65000) : Calls Try.prog 110 #[.pointer (some ⟨b, 0, none⟩)] w fun e w' => e = .returned (.int .i64 (at_ + 1)) ∧ w = w' := by
  have h1 := wrap_i64 (at_ + 1) (by omega) (by omega)
  go_enter Try.func110, Try.ntmps110
  go_wp2
  go_ret
  refine ⟨?_, rfl⟩
  go_num
theorem puawaited_at (q : Value) : Calls Try.prog 104 #[q, .int .u64 pos] w fun e w' => e = .returned (.int .u64 pos) ∧ w = w' := by
  go_enter Try.func104, Try.ntmps104
  go_wp2
  go_ret
  exact ⟨rfl, rfl⟩
theorem poawaited_at (q : Value) : Calls Try.prog 109 #[q, .int .u64 pos] w fun e w' => e = .returned (.int .u64 (IntKind.u64.wrap (pos + 1))) ∧ w = w' := by
  go_enter Try.func109, Try.ntmps109
  go_wp2
  go_ret
  refine ⟨?_, rfl⟩
  rw [IntKind.wrap_u64]
  rfl
theorem pulaid_at (q : Value) : Calls Try.prog 106 #[q, .int .u64 pos] w fun e w' => e = .returned (.int .u64 (IntKind.u64.wrap (pos + 1))) ∧ w = w' := by
  go_enter Try.func106, Try.ntmps106
  go_wp2
  go_ret
  refine ⟨?_, rfl⟩
  rw [IntKind.wrap_u64]
  rfl
theorem polaid_at (c1 : w.cell? ⟨b, 1, none⟩ = some (.int .i64 n)) (n0 : 0 ≤ n) (n1 : n ≤ 64) : Calls Try.prog 111 #[.pointer (some ⟨b, 0, none⟩), .int .u64 pos] w fun e w' => e = .returned (.int .u64 (IntKind.u64.wrap (pos + n))) ∧ w = w' := by
  have h1 : IntKind.u64.wrap n = n := by rw [IntKind.wrap_u64]; omega
  go_enter Try.func111, Try.ntmps111
  go_wp2
  go_ret
  refine ⟨?_, rfl⟩
  rw [IntKind.wrap_u64]
  rfl
theorem puvalue_at (c5 : w.cell? ⟨b, 5, none⟩ = some (.int .u64 v)) : Calls Try.prog 108 #[.pointer (some ⟨b, 0, none⟩), .int .i64 x] w fun e w' => e = .returned (.agg #[.int .i64 2, .int .i64 x, .int .u64 v, .int .u64 0]) ∧ Only [] w w' := by
  have HO := Lib.hid ((Only.refl [] w).alloc (.cells #[.int .i64 0, .int .i64 0, .int .u64 0, .int .u64 0] 74))
  have q5 := (HO.out.cell (p := ⟨b, 5, none⟩) (cell_lt c5).1 (by simp)).trans c5
  clear c5
  go_enter Try.func108, Try.ntmps108
  go_wp2
  refine bodyPost_ret (v := .agg #[.int .i64 2, .int .i64 x, .int .u64 v, .int .u64 0]) (by simp [results, Try.results108, go_sem]) rfl ⟨rfl, ?_⟩
  exact (Only.refl _ _).alloc _
theorem povalue_at (q : Value) : Calls Try.prog 113 #[q, .int .i64 x] w fun e w' => e = .returned (.agg #[.int .i64 1, .int .i64 x, .int .u64 0, .int .u64 0]) ∧ Only [] w w' := by
  go_enter Try.func113, Try.ntmps113
  go_wp2
  refine bodyPost_ret (v := .agg #[.int .i64 1, .int .i64 x, .int .u64 0, .int .u64 0]) (by simp [results, Try.results113, go_sem]) rfl ⟨rfl, ?_⟩
  exact (Only.refl _ _).alloc _
theorem putook_at (q : Value) : Calls Try.prog 107 #[q, .int .u64 x] w fun e w' => e = .returned (.tuple #[]) ∧ w = w' := by
  go_enter Try.func107, Try.ntmps107
  go_wp2
  refine bodyPost_end (v := .tuple #[]) (by simp [results, Try.results107, go_sem]) rfl ⟨rfl, rfl⟩
theorem potook_at (y : Value) (c5 : w.cell? ⟨b, 5, none⟩ = some y) (f5 : w.frozen? ⟨b, 5, none⟩ = false) : Calls Try.prog 112 #[.pointer (some ⟨b, 0, none⟩), .int .u64 x] w fun e w' => e = .returned (.tuple #[]) ∧ w' = w.setCell ⟨b, 5, none⟩ (.int .u64 x) := by
  go_enter Try.func112, Try.ntmps112
  go_wp2
  refine bodyPost_end (v := .tuple #[]) (by simp [results, Try.results112, go_sem]) rfl ⟨rfl, rfl⟩

/-- Where one stands who has seen a slot's turn. -/
def lookedTo (t a : Int) : Int := if wrap64 (IntKind.u64.wrap (t - a)) = 0 then 2 else if wrap64 (IntKind.u64.wrap (t - a)) < 0 then 5 else 0

theorem looked_at (t a : Int) (y : Value) (c2 : w.cell? ⟨b, 2, none⟩ = some y) (f2 : w.frozen? ⟨b, 2, none⟩ = false) : Calls Try.prog 73 #[.pointer (some ⟨b, 0, none⟩), .int .u64 t, .int .u64 a] w fun e w' => e = .returned (.tuple #[]) ∧ w' = w.setCell ⟨b, 2, none⟩ (.int .i64 (lookedTo t a)) := by
  unfold lookedTo
  by_cases h1 : wrap64 (IntKind.u64.wrap (t - a)) = 0
  · rw [if_pos h1]
    have hb : (wrap64 (IntKind.u64.wrap (t - a)) == 0) = true := by simpa using h1
    clear h1
    go_enter Try.func73, Try.ntmps73
    go_wp2
    refine bodyPost_end (v := .tuple #[]) (by simp [results, Try.results73, go_sem]) rfl ⟨rfl, rfl⟩
  · rw [if_neg h1]
    have hb : (wrap64 (IntKind.u64.wrap (t - a)) == 0) = false := by simpa using h1
    clear h1
    by_cases h2 : wrap64 (IntKind.u64.wrap (t - a)) < 0
    · rw [if_pos h2]
      go_enter Try.func73, Try.ntmps73
      go_wp2
      refine bodyPost_end (v := .tuple #[]) (by simp [results, Try.results73, go_sem]) rfl ⟨rfl, rfl⟩
    · rw [if_neg h2]
      go_enter Try.func73, Try.ntmps73
      go_wp2
      refine bodyPost_end (v := .tuple #[]) (by simp [results, Try.results73, go_sem]) rfl ⟨rfl, rfl⟩
end

end Go.Proofs.Ytoecoijmkjhkgaa
