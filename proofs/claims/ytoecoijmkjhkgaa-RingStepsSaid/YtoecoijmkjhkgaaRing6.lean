/- The ring: how one begins, what it tells, and what is not there. -/
import Derived.Test.YtoecoijmkjhkgaaRing2
namespace Go.Proofs.Ytoecoijmkjhkgaa
open Go.RowKit

def ringRight (a n : Int) : Prop := (0 ≤ a ∧ a ≤ 65000) ∧ 2 ≤ n ∧ n ≤ 64
instance (a n : Int) : Decidable (ringRight a n) := by unfold ringRight; infer_instance

theorem ringright_any (w : World) (a n : Int) : Calls Try.prog 50 #[.agg #[.int .i64 a, .int .i64 n]] w fun e w' => e = .returned (.bool (decide (ringRight a n))) ∧ Only [] w w' := by
  by_cases h1 : 0 ≤ a
  · by_cases h2 : a ≤ 65000
    · by_cases h3 : 2 ≤ n
      · by_cases h4 : n ≤ 64
        · rw [decide_eq_true (show ringRight a n from ⟨⟨h1, h2⟩, h3, h4⟩)]
          go_enter Try.func50, Try.ntmps50
          go_wp2
          go_ret
          exact ⟨rfl, (Only.refl _ _).alloc _⟩
        · rw [decide_eq_false (show ¬ ringRight a n from fun h => h4 h.2.2)]
          go_enter Try.func50, Try.ntmps50
          go_wp2
          go_ret
          exact ⟨rfl, (Only.refl _ _).alloc _⟩
      · rw [decide_eq_false (show ¬ ringRight a n from fun h => h3 h.2.1)]
        go_enter Try.func50, Try.ntmps50
        go_wp2
        go_ret
        exact ⟨rfl, (Only.refl _ _).alloc _⟩
    · rw [decide_eq_false (show ¬ ringRight a n from fun h => h2 h.1.2)]
      go_enter Try.func50, Try.ntmps50
      go_wp2
      go_ret
      exact ⟨rfl, (Only.refl _ _).alloc _⟩
  · rw [decide_eq_false (show ¬ ringRight a n from fun h => h1 h.1.1)]
    go_enter Try.func50, Try.ntmps50
    go_wp2
    go_ret
    exact ⟨rfl, (Only.refl _ _).alloc _⟩

/-- One who begins. -/
def NewQ (w : World) (p : Bool) (a : Int) (n : Nat) (v : Int) (e : Ending) (w' : World) : Prop :=
  ∃ b, e = .returned (.pointer (some ⟨b, 0, none⟩)) ∧ w.heap.size ≤ b ∧ Only [] w w' ∧ IsQ w' b p ⟨a, n, 0, 0, false, v⟩

theorem push_some (w : World) (a v : Int) (n : Nat) (h : ringRight a n) (v0 : 0 ≤ v) (v1 : v < 18446744073709551616) : Calls Try.prog 17 #[.agg #[.int .i64 a, .int .i64 n], .int .u64 v] w (NewQ w false a n v) := by
  have HB := Lib.hid (Blk.new w 32 #[.int .i64 a, .int .i64 n])
  have HO := Lib.hid ((Only.refl [] w).alloc (.cells #[.int .i64 a, .int .i64 n] 32))
  have HR := Lib.hid h
  clear h
  go_enter Try.func17, Try.ntmps17
  go_wp2_with fail
  refine (ringright_any _ a n).mono ?_
  rintro e w1 ⟨rfl, ho⟩
  rw [decide_eq_true HR.out]
  have HO := Lib.hid (HO.out.trans ho)
  have HB := Lib.hid (HB.out.only ho (by simp))
  have q0 := HB.out.at 0 (v := .int .i64 a) rfl
  have q1 := HB.out.at 1 (v := .int .i64 n) rfl
  clear ho
  go_wp2_with fail
  go_ret
  obtain ⟨⟨a0, a1⟩, n2, n64⟩ := HR.out
  exact ⟨_, rfl, HO.out.size, HO.out.alloc _, Blk.new _ _ _, a0, a1, by dsimp only; omega, by dsimp only; omega, by dsimp only; omega, by dsimp only; omega, by dsimp only; omega, by dsimp only; omega, v0, v1⟩

theorem pop_some (w : World) (a : Int) (n : Nat) (h : ringRight a n) : Calls Try.prog 18 #[.agg #[.int .i64 a, .int .i64 n]] w (NewQ w true a n 0) := by
  have HB := Lib.hid (Blk.new w 32 #[.int .i64 a, .int .i64 n])
  have HO := Lib.hid ((Only.refl [] w).alloc (.cells #[.int .i64 a, .int .i64 n] 32))
  have HR := Lib.hid h
  clear h
  go_enter Try.func18, Try.ntmps18
  go_wp2_with fail
  refine (ringright_any _ a n).mono ?_
  rintro e w1 ⟨rfl, ho⟩
  rw [decide_eq_true HR.out]
  have HO := Lib.hid (HO.out.trans ho)
  have HB := Lib.hid (HB.out.only ho (by simp))
  have q0 := HB.out.at 0 (v := .int .i64 a) rfl
  have q1 := HB.out.at 1 (v := .int .i64 n) rfl
  clear ho
  go_wp2_with fail
  go_ret
  obtain ⟨⟨a0, a1⟩, n2, n64⟩ := HR.out
  exact ⟨_, rfl, HO.out.size, HO.out.alloc _, Blk.new _ _ _, a0, a1, by dsimp only; omega, by dsimp only; omega, by dsimp only; omega, by dsimp only; omega, by dsimp only; omega, by dsimp only; omega, by dsimp only; omega, by dsimp only; omega⟩

theorem push_none (w : World) (a n v : Int) (h : ¬ ringRight a n) : Calls Try.prog 17 #[.agg #[.int .i64 a, .int .i64 n], .int .u64 v] w fun e w' => e = .returned (.pointer none) ∧ Only [] w w' := by
  have HO := Lib.hid ((Only.refl [] w).alloc (.cells #[.int .i64 a, .int .i64 n] 32))
  have HR := Lib.hid h
  clear h
  go_enter Try.func17, Try.ntmps17
  go_wp2_with fail
  refine (ringright_any _ a n).mono ?_
  rintro e w1 ⟨rfl, ho⟩
  rw [decide_eq_false HR.out]
  have HO := Lib.hid (HO.out.trans ho)
  clear ho
  go_wp2_with fail
  go_ret
  exact ⟨rfl, HO.out⟩

theorem pop_none (w : World) (a n : Int) (h : ¬ ringRight a n) : Calls Try.prog 18 #[.agg #[.int .i64 a, .int .i64 n]] w fun e w' => e = .returned (.pointer none) ∧ Only [] w w' := by
  have HO := Lib.hid ((Only.refl [] w).alloc (.cells #[.int .i64 a, .int .i64 n] 32))
  have HR := Lib.hid h
  clear h
  go_enter Try.func18, Try.ntmps18
  go_wp2_with fail
  refine (ringright_any _ a n).mono ?_
  rintro e w1 ⟨rfl, ho⟩
  rw [decide_eq_false HR.out]
  have HO := Lib.hid (HO.out.trans ho)
  clear ho
  go_wp2_with fail
  go_ret
  exact ⟨rfl, HO.out⟩

theorem puresult_at (w : World) (b : Nat) (s : RQ) (h : IsQ w b false s) : Calls Try.prog 23 #[.pointer (some ⟨b, 0, none⟩)] w fun e w' => e = .returned (.tuple #[.bool s.has, .bool (decide (s.st = 5))]) ∧ Only [] w w' := by
  have c2 := h.obj.at 2 (v := .int .i64 s.st) rfl
  have c4 := h.obj.at 4 (v := .bool s.has) rfl
  have hb : (s.st == 5) = decide (s.st = 5) := Bool.eq_iff_iff.2 (by simp)
  clear h
  go_enter Try.func23, Try.ntmps23
  go_wp2_with fail
  go_region
  all_goals
    go_wp2_with fail
    go_ret2
    exact ⟨rfl, (Only.refl _ _).drew⟩

theorem poresult_at (w : World) (b : Nat) (s : RQ) (h : IsQ w b true s) : Calls Try.prog 22 #[.pointer (some ⟨b, 0, none⟩)] w fun e w' => e = .returned (if s.st = 5 then (if s.has then .tuple #[.int .u64 s.v, .bool true, .bool true] else .tuple #[.int .u64 0, .bool false, .bool true]) else .tuple #[.int .u64 0, .bool false, .bool false]) ∧ Only [] w w' := by
  have c2 := h.obj.at 2 (v := .int .i64 s.st) rfl
  have c4 := h.obj.at 4 (v := .bool s.has) rfl
  have c5 := h.obj.at 5 (v := .int .u64 s.v) rfl
  clear h
  by_cases hs : s.st = 5
  · rw [if_pos hs]
    have hb : (s.st != 5) = false := by simp [hs]
    clear hs
    cases hh : s.has
    · rw [hh] at c4
      rw [if_neg (by simp)]
      clear hh
      go_enter Try.func22, Try.ntmps22
      go_wp2_with fail
      refine bodyPost_ret (v := .tuple #[.int .u64 0, .bool false, .bool true]) (by simp [results, Try.results22, go_sem]) rfl ⟨rfl, Only.refl _ _⟩
    · rw [hh] at c4
      rw [if_pos rfl]
      clear hh
      go_enter Try.func22, Try.ntmps22
      go_wp2_with fail
      refine bodyPost_ret (v := .tuple #[.int .u64 s.v, .bool true, .bool true]) (by simp [results, Try.results22, go_sem]) rfl ⟨rfl, Only.refl _ _⟩
  · rw [if_neg hs]
    have hb : (s.st != 5) = true := by simp [hs]
    clear hs
    go_enter Try.func22, Try.ntmps22
    go_wp2_with fail
    refine bodyPost_ret (v := .tuple #[.int .u64 0, .bool false, .bool false]) (by simp [results, Try.results22, go_sem]) rfl ⟨rfl, Only.refl _ _⟩

theorem pustep_nil (w : World) (m : Value) : Calls Try.prog 19 #[.pointer none, m] w fun e w' => e = .returned (.bool false) ∧ w = w' := by
  go_enter Try.func19, Try.ntmps19
  go_wp2
  go_ret
  exact ⟨rfl, rfl⟩
theorem postep_nil (w : World) (m : Value) : Calls Try.prog 20 #[.pointer none, m] w fun e w' => e = .returned (.bool false) ∧ w = w' := by
  go_enter Try.func20, Try.ntmps20
  go_wp2
  go_ret
  exact ⟨rfl, rfl⟩
theorem punext_nil (w : World) : Calls Try.prog 37 #[.pointer none] w fun e w' => e = .returned (.agg #[.int .i64 0, .int .i64 0, .int .u64 0, .int .u64 0]) ∧ Only [] w w' := by
  go_enter Try.func37, Try.ntmps37
  go_wp2
  refine bodyPost_ret (v := .agg #[.int .i64 0, .int .i64 0, .int .u64 0, .int .u64 0]) (by simp [results, Try.results37, go_sem]) rfl ⟨rfl, ?_⟩
  exact (Only.refl _ _).alloc _
theorem ponext_nil (w : World) : Calls Try.prog 38 #[.pointer none] w fun e w' => e = .returned (.agg #[.int .i64 0, .int .i64 0, .int .u64 0, .int .u64 0]) ∧ Only [] w w' := by
  go_enter Try.func38, Try.ntmps38
  go_wp2
  refine bodyPost_ret (v := .agg #[.int .i64 0, .int .i64 0, .int .u64 0, .int .u64 0]) (by simp [results, Try.results38, go_sem]) rfl ⟨rfl, ?_⟩
  exact (Only.refl _ _).alloc _
theorem puresult_nil (w : World) : Calls Try.prog 23 #[.pointer none] w fun e w' => e = .returned (.tuple #[.bool false, .bool false]) ∧ w = w' := by
  go_enter Try.func23, Try.ntmps23
  go_wp2
  go_ret2
  exact ⟨rfl, rfl⟩
theorem poresult_nil (w : World) : Calls Try.prog 22 #[.pointer none] w fun e w' => e = .returned (.tuple #[.int .u64 0, .bool false, .bool false]) ∧ w = w' := by
  go_enter Try.func22, Try.ntmps22
  go_wp2
  refine bodyPost_ret (v := .tuple #[.int .u64 0, .bool false, .bool false]) (by simp [results, Try.results22, go_sem]) rfl ⟨rfl, rfl⟩

end Go.Proofs.Ytoecoijmkjhkgaa
