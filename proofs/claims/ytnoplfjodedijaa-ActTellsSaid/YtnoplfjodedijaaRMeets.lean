/- The walks of the document's Lays and Meets; written by rmeetsgen.py. -/
import Derived.Test.YtnoplfjodedijaaMeets
namespace Go.Proofs.Ytnoplfjodedijaa
open Go.RowKit

theorem rlays_any (w : World) (k i a b : Int) : Calls Try.prog 17 #[.agg #[.int .i64 k, .int .i64 i, .int .u64 a, .int .u64 b]] w fun e w' =>
    e = .returned (.bool (decide (2 ≤ k ∧ k ≤ 4))) ∧ Only [] w w' := by
  by_cases h1 : 2 ≤ k
  · by_cases h2 : k ≤ 4
    · rw [decide_eq_true ⟨h1, h2⟩]
      go_enter Try.func17, Try.ntmps17
      go_wp2
      go_ret
      exact ⟨rfl, (Only.refl _ _).alloc _⟩
    · rw [decide_eq_false fun h => h2 h.2]
      go_enter Try.func17, Try.ntmps17
      go_wp2
      go_ret
      exact ⟨rfl, (Only.refl _ _).alloc _⟩
  · rw [decide_eq_false fun h => h1 h.1]
    go_enter Try.func17, Try.ntmps17
    go_wp2
    go_ret
    exact ⟨rfl, (Only.refl _ _).alloc _⟩

set_option maxRecDepth 100000 in
theorem rmeets_apart (w : World) (k i a b k2 i2 a2 b2 : Int) (hi : ¬ i = i2) :
    Calls Try.prog 19 #[.agg #[.int .i64 k, .int .i64 i, .int .u64 a, .int .u64 b], .agg #[.int .i64 k2, .int .i64 i2, .int .u64 a2, .int .u64 b2]] w fun e w' => e = .returned (.bool false) ∧ Only [] w w' := by
  have HX := Lib.hid ((Blk.new w 24 #[.int .i64 k, .int .i64 i, .int .u64 a, .int .u64 b]).alloc (.cells #[.int .i64 k2, .int .i64 i2, .int .u64 a2, .int .u64 b2] 24))
  have HY := Lib.hid (Blk.new' (w.alloc (.cells #[.int .i64 k, .int .i64 i, .int .u64 a, .int .u64 b] 24)) 24 #[.int .i64 k2, .int .i64 i2, .int .u64 a2, .int .u64 b2] (g := w.heap.size + 1) (by simp))
  have HO := Lib.hid (((Only.refl [] w).alloc (.cells #[.int .i64 k, .int .i64 i, .int .u64 a, .int .u64 b] 24)).alloc (.cells #[.int .i64 k2, .int .i64 i2, .int .u64 a2, .int .u64 b2] 24))
  have hb : (i == i2) = false := by simpa using hi
  go_enter Try.func19, Try.ntmps19
  go_wp2_with fail
  go_ret
  exact ⟨rfl, HO.out⟩

set_option maxRecDepth 100000 in
theorem rmeets_a (w : World) (k i a b k2 a2 b2 : Int) (hlx : (2 ≤ k ∧ k ≤ 4)) (h1 : 1 ≤ k2) (h2 : k2 ≤ 4) :
    Calls Try.prog 19 #[.agg #[.int .i64 k, .int .i64 i, .int .u64 a, .int .u64 b], .agg #[.int .i64 k2, .int .i64 i, .int .u64 a2, .int .u64 b2]] w fun e w' => e = .returned (.bool true) ∧ Only [] w w' := by
  have HX := Lib.hid ((Blk.new w 24 #[.int .i64 k, .int .i64 i, .int .u64 a, .int .u64 b]).alloc (.cells #[.int .i64 k2, .int .i64 i, .int .u64 a2, .int .u64 b2] 24))
  have HY := Lib.hid (Blk.new' (w.alloc (.cells #[.int .i64 k, .int .i64 i, .int .u64 a, .int .u64 b] 24)) 24 #[.int .i64 k2, .int .i64 i, .int .u64 a2, .int .u64 b2] (g := w.heap.size + 1) (by simp))
  have HO := Lib.hid (((Only.refl [] w).alloc (.cells #[.int .i64 k, .int .i64 i, .int .u64 a, .int .u64 b] 24)).alloc (.cells #[.int .i64 k2, .int .i64 i, .int .u64 a2, .int .u64 b2] 24))
  go_enter Try.func19, Try.ntmps19
  go_wp2_with fail
  refine (rlays_any _ k i a b).mono ?_
  rintro e w' ⟨rfl, ho⟩
  rw [decide_eq_true hlx]
  have HO := Lib.hid (HO.out.trans ho)
  have HX := Lib.hid (HX.out.only ho (by simp))
  have HY := Lib.hid (HY.out.only ho (by simp))
  have x0 := HX.out.at 0 rfl
  have x1 := HX.out.at 1 rfl
  have x2 := HX.out.at 2 rfl
  have x3 := HX.out.at 3 rfl
  have y0 := HY.out.at 0 rfl
  have y1 := HY.out.at 1 rfl
  have y2 := HY.out.at 2 rfl
  have y3 := HY.out.at 3 rfl
  clear ho
  go_wp2_with fail
  go_ret
  exact ⟨rfl, HO.out⟩

set_option maxRecDepth 100000 in
theorem rmeets_b (w : World) (k i a b k2 a2 b2 : Int) (hlx : (2 ≤ k ∧ k ≤ 4)) (hly : ¬ (2 ≤ k2 ∧ k2 ≤ 4)) (h1 : ¬ 1 ≤ k2) :
    Calls Try.prog 19 #[.agg #[.int .i64 k, .int .i64 i, .int .u64 a, .int .u64 b], .agg #[.int .i64 k2, .int .i64 i, .int .u64 a2, .int .u64 b2]] w fun e w' => e = .returned (.bool false) ∧ Only [] w w' := by
  have HX := Lib.hid ((Blk.new w 24 #[.int .i64 k, .int .i64 i, .int .u64 a, .int .u64 b]).alloc (.cells #[.int .i64 k2, .int .i64 i, .int .u64 a2, .int .u64 b2] 24))
  have HY := Lib.hid (Blk.new' (w.alloc (.cells #[.int .i64 k, .int .i64 i, .int .u64 a, .int .u64 b] 24)) 24 #[.int .i64 k2, .int .i64 i, .int .u64 a2, .int .u64 b2] (g := w.heap.size + 1) (by simp))
  have HO := Lib.hid (((Only.refl [] w).alloc (.cells #[.int .i64 k, .int .i64 i, .int .u64 a, .int .u64 b] 24)).alloc (.cells #[.int .i64 k2, .int .i64 i, .int .u64 a2, .int .u64 b2] 24))
  go_enter Try.func19, Try.ntmps19
  go_wp2_with fail
  refine (rlays_any _ k i a b).mono ?_
  rintro e w' ⟨rfl, ho⟩
  rw [decide_eq_true hlx]
  have HO := Lib.hid (HO.out.trans ho)
  have HX := Lib.hid (HX.out.only ho (by simp))
  have HY := Lib.hid (HY.out.only ho (by simp))
  have x0 := HX.out.at 0 rfl
  have x1 := HX.out.at 1 rfl
  have x2 := HX.out.at 2 rfl
  have x3 := HX.out.at 3 rfl
  have y0 := HY.out.at 0 rfl
  have y1 := HY.out.at 1 rfl
  have y2 := HY.out.at 2 rfl
  have y3 := HY.out.at 3 rfl
  clear ho
  go_wp2_with fail
  refine (rlays_any _ k2 i a2 b2).mono ?_
  rintro e w' ⟨rfl, ho⟩
  rw [decide_eq_false hly]
  have HO := Lib.hid (HO.out.trans ho)
  have HX := Lib.hid (HX.out.only ho (by simp))
  have HY := Lib.hid (HY.out.only ho (by simp))
  have x0 := HX.out.at 0 rfl
  have x1 := HX.out.at 1 rfl
  have x2 := HX.out.at 2 rfl
  have x3 := HX.out.at 3 rfl
  have y0 := HY.out.at 0 rfl
  have y1 := HY.out.at 1 rfl
  have y2 := HY.out.at 2 rfl
  have y3 := HY.out.at 3 rfl
  clear ho
  go_wp2_with fail
  go_ret
  exact ⟨rfl, HO.out⟩

set_option maxRecDepth 100000 in
theorem rmeets_c (w : World) (k i a b k2 a2 b2 : Int) (hlx : (2 ≤ k ∧ k ≤ 4)) (hly : ¬ (2 ≤ k2 ∧ k2 ≤ 4)) (h1 : 1 ≤ k2) (h2 : ¬ k2 ≤ 4) :
    Calls Try.prog 19 #[.agg #[.int .i64 k, .int .i64 i, .int .u64 a, .int .u64 b], .agg #[.int .i64 k2, .int .i64 i, .int .u64 a2, .int .u64 b2]] w fun e w' => e = .returned (.bool false) ∧ Only [] w w' := by
  have HX := Lib.hid ((Blk.new w 24 #[.int .i64 k, .int .i64 i, .int .u64 a, .int .u64 b]).alloc (.cells #[.int .i64 k2, .int .i64 i, .int .u64 a2, .int .u64 b2] 24))
  have HY := Lib.hid (Blk.new' (w.alloc (.cells #[.int .i64 k, .int .i64 i, .int .u64 a, .int .u64 b] 24)) 24 #[.int .i64 k2, .int .i64 i, .int .u64 a2, .int .u64 b2] (g := w.heap.size + 1) (by simp))
  have HO := Lib.hid (((Only.refl [] w).alloc (.cells #[.int .i64 k, .int .i64 i, .int .u64 a, .int .u64 b] 24)).alloc (.cells #[.int .i64 k2, .int .i64 i, .int .u64 a2, .int .u64 b2] 24))
  go_enter Try.func19, Try.ntmps19
  go_wp2_with fail
  refine (rlays_any _ k i a b).mono ?_
  rintro e w' ⟨rfl, ho⟩
  rw [decide_eq_true hlx]
  have HO := Lib.hid (HO.out.trans ho)
  have HX := Lib.hid (HX.out.only ho (by simp))
  have HY := Lib.hid (HY.out.only ho (by simp))
  have x0 := HX.out.at 0 rfl
  have x1 := HX.out.at 1 rfl
  have x2 := HX.out.at 2 rfl
  have x3 := HX.out.at 3 rfl
  have y0 := HY.out.at 0 rfl
  have y1 := HY.out.at 1 rfl
  have y2 := HY.out.at 2 rfl
  have y3 := HY.out.at 3 rfl
  clear ho
  go_wp2_with fail
  refine (rlays_any _ k2 i a2 b2).mono ?_
  rintro e w' ⟨rfl, ho⟩
  rw [decide_eq_false hly]
  have HO := Lib.hid (HO.out.trans ho)
  have HX := Lib.hid (HX.out.only ho (by simp))
  have HY := Lib.hid (HY.out.only ho (by simp))
  have x0 := HX.out.at 0 rfl
  have x1 := HX.out.at 1 rfl
  have x2 := HX.out.at 2 rfl
  have x3 := HX.out.at 3 rfl
  have y0 := HY.out.at 0 rfl
  have y1 := HY.out.at 1 rfl
  have y2 := HY.out.at 2 rfl
  have y3 := HY.out.at 3 rfl
  clear ho
  go_wp2_with fail
  go_ret
  have h2d : decide (k2 ≤ 4) = false := decide_eq_false (by omega)
  exact ⟨by simp [h2d], HO.out⟩

set_option maxRecDepth 100000 in
theorem rmeets_d (w : World) (k i a b k2 a2 b2 : Int) (hlx : ¬ (2 ≤ k ∧ k ≤ 4)) (hly : (2 ≤ k2 ∧ k2 ≤ 4)) (h1 : k = 1) :
    Calls Try.prog 19 #[.agg #[.int .i64 k, .int .i64 i, .int .u64 a, .int .u64 b], .agg #[.int .i64 k2, .int .i64 i, .int .u64 a2, .int .u64 b2]] w fun e w' => e = .returned (.bool true) ∧ Only [] w w' := by
  have HX := Lib.hid ((Blk.new w 24 #[.int .i64 k, .int .i64 i, .int .u64 a, .int .u64 b]).alloc (.cells #[.int .i64 k2, .int .i64 i, .int .u64 a2, .int .u64 b2] 24))
  have HY := Lib.hid (Blk.new' (w.alloc (.cells #[.int .i64 k, .int .i64 i, .int .u64 a, .int .u64 b] 24)) 24 #[.int .i64 k2, .int .i64 i, .int .u64 a2, .int .u64 b2] (g := w.heap.size + 1) (by simp))
  have HO := Lib.hid (((Only.refl [] w).alloc (.cells #[.int .i64 k, .int .i64 i, .int .u64 a, .int .u64 b] 24)).alloc (.cells #[.int .i64 k2, .int .i64 i, .int .u64 a2, .int .u64 b2] 24))
  have hk : (k == 1) = true := by simpa using h1
  clear h1
  go_enter Try.func19, Try.ntmps19
  go_wp2_with fail
  refine (rlays_any _ k i a b).mono ?_
  rintro e w' ⟨rfl, ho⟩
  rw [decide_eq_false hlx]
  have HO := Lib.hid (HO.out.trans ho)
  have HX := Lib.hid (HX.out.only ho (by simp))
  have HY := Lib.hid (HY.out.only ho (by simp))
  have x0 := HX.out.at 0 rfl
  have x1 := HX.out.at 1 rfl
  have x2 := HX.out.at 2 rfl
  have x3 := HX.out.at 3 rfl
  have y0 := HY.out.at 0 rfl
  have y1 := HY.out.at 1 rfl
  have y2 := HY.out.at 2 rfl
  have y3 := HY.out.at 3 rfl
  clear ho
  go_wp2_with fail
  refine (rlays_any _ k2 i a2 b2).mono ?_
  rintro e w' ⟨rfl, ho⟩
  rw [decide_eq_true hly]
  have HO := Lib.hid (HO.out.trans ho)
  have HX := Lib.hid (HX.out.only ho (by simp))
  have HY := Lib.hid (HY.out.only ho (by simp))
  have x0 := HX.out.at 0 rfl
  have x1 := HX.out.at 1 rfl
  have x2 := HX.out.at 2 rfl
  have x3 := HX.out.at 3 rfl
  have y0 := HY.out.at 0 rfl
  have y1 := HY.out.at 1 rfl
  have y2 := HY.out.at 2 rfl
  have y3 := HY.out.at 3 rfl
  clear ho
  go_wp2_with fail
  go_ret
  exact ⟨rfl, HO.out⟩

set_option maxRecDepth 100000 in
theorem rmeets_e (w : World) (k i a b k2 a2 b2 : Int) (hlx : ¬ (2 ≤ k ∧ k ≤ 4)) (hly : (2 ≤ k2 ∧ k2 ≤ 4)) (h1 : ¬ k = 1) :
    Calls Try.prog 19 #[.agg #[.int .i64 k, .int .i64 i, .int .u64 a, .int .u64 b], .agg #[.int .i64 k2, .int .i64 i, .int .u64 a2, .int .u64 b2]] w fun e w' => e = .returned (.bool false) ∧ Only [] w w' := by
  have HX := Lib.hid ((Blk.new w 24 #[.int .i64 k, .int .i64 i, .int .u64 a, .int .u64 b]).alloc (.cells #[.int .i64 k2, .int .i64 i, .int .u64 a2, .int .u64 b2] 24))
  have HY := Lib.hid (Blk.new' (w.alloc (.cells #[.int .i64 k, .int .i64 i, .int .u64 a, .int .u64 b] 24)) 24 #[.int .i64 k2, .int .i64 i, .int .u64 a2, .int .u64 b2] (g := w.heap.size + 1) (by simp))
  have HO := Lib.hid (((Only.refl [] w).alloc (.cells #[.int .i64 k, .int .i64 i, .int .u64 a, .int .u64 b] 24)).alloc (.cells #[.int .i64 k2, .int .i64 i, .int .u64 a2, .int .u64 b2] 24))
  have hk : (k == 1) = false := by simpa using h1
  go_enter Try.func19, Try.ntmps19
  go_wp2_with fail
  refine (rlays_any _ k i a b).mono ?_
  rintro e w' ⟨rfl, ho⟩
  rw [decide_eq_false hlx]
  have HO := Lib.hid (HO.out.trans ho)
  have HX := Lib.hid (HX.out.only ho (by simp))
  have HY := Lib.hid (HY.out.only ho (by simp))
  have x0 := HX.out.at 0 rfl
  have x1 := HX.out.at 1 rfl
  have x2 := HX.out.at 2 rfl
  have x3 := HX.out.at 3 rfl
  have y0 := HY.out.at 0 rfl
  have y1 := HY.out.at 1 rfl
  have y2 := HY.out.at 2 rfl
  have y3 := HY.out.at 3 rfl
  clear ho
  go_wp2_with fail
  refine (rlays_any _ k2 i a2 b2).mono ?_
  rintro e w' ⟨rfl, ho⟩
  rw [decide_eq_true hly]
  have HO := Lib.hid (HO.out.trans ho)
  have HX := Lib.hid (HX.out.only ho (by simp))
  have HY := Lib.hid (HY.out.only ho (by simp))
  have x0 := HX.out.at 0 rfl
  have x1 := HX.out.at 1 rfl
  have x2 := HX.out.at 2 rfl
  have x3 := HX.out.at 3 rfl
  have y0 := HY.out.at 0 rfl
  have y1 := HY.out.at 1 rfl
  have y2 := HY.out.at 2 rfl
  have y3 := HY.out.at 3 rfl
  clear ho
  go_wp2_with fail
  go_ret
  exact ⟨rfl, HO.out⟩

set_option maxRecDepth 100000 in
theorem rmeets_f (w : World) (k i a b k2 a2 b2 : Int) (hlx : ¬ (2 ≤ k ∧ k ≤ 4)) (hly : ¬ (2 ≤ k2 ∧ k2 ≤ 4)) :
    Calls Try.prog 19 #[.agg #[.int .i64 k, .int .i64 i, .int .u64 a, .int .u64 b], .agg #[.int .i64 k2, .int .i64 i, .int .u64 a2, .int .u64 b2]] w fun e w' => e = .returned (.bool false) ∧ Only [] w w' := by
  have HX := Lib.hid ((Blk.new w 24 #[.int .i64 k, .int .i64 i, .int .u64 a, .int .u64 b]).alloc (.cells #[.int .i64 k2, .int .i64 i, .int .u64 a2, .int .u64 b2] 24))
  have HY := Lib.hid (Blk.new' (w.alloc (.cells #[.int .i64 k, .int .i64 i, .int .u64 a, .int .u64 b] 24)) 24 #[.int .i64 k2, .int .i64 i, .int .u64 a2, .int .u64 b2] (g := w.heap.size + 1) (by simp))
  have HO := Lib.hid (((Only.refl [] w).alloc (.cells #[.int .i64 k, .int .i64 i, .int .u64 a, .int .u64 b] 24)).alloc (.cells #[.int .i64 k2, .int .i64 i, .int .u64 a2, .int .u64 b2] 24))
  go_enter Try.func19, Try.ntmps19
  go_wp2_with fail
  refine (rlays_any _ k i a b).mono ?_
  rintro e w' ⟨rfl, ho⟩
  rw [decide_eq_false hlx]
  have HO := Lib.hid (HO.out.trans ho)
  have HX := Lib.hid (HX.out.only ho (by simp))
  have HY := Lib.hid (HY.out.only ho (by simp))
  have x0 := HX.out.at 0 rfl
  have x1 := HX.out.at 1 rfl
  have x2 := HX.out.at 2 rfl
  have x3 := HX.out.at 3 rfl
  have y0 := HY.out.at 0 rfl
  have y1 := HY.out.at 1 rfl
  have y2 := HY.out.at 2 rfl
  have y3 := HY.out.at 3 rfl
  clear ho
  go_wp2_with fail
  refine (rlays_any _ k2 i a2 b2).mono ?_
  rintro e w' ⟨rfl, ho⟩
  rw [decide_eq_false hly]
  have HO := Lib.hid (HO.out.trans ho)
  have HX := Lib.hid (HX.out.only ho (by simp))
  have HY := Lib.hid (HY.out.only ho (by simp))
  have x0 := HX.out.at 0 rfl
  have x1 := HX.out.at 1 rfl
  have x2 := HX.out.at 2 rfl
  have x3 := HX.out.at 3 rfl
  have y0 := HY.out.at 0 rfl
  have y1 := HY.out.at 1 rfl
  have y2 := HY.out.at 2 rfl
  have y3 := HY.out.at 3 rfl
  clear ho
  go_wp2_with fail
  go_ret
  exact ⟨rfl, HO.out⟩

theorem rmeets_any (w : World) (k i a b k2 i2 a2 b2 : Int) :
    Calls Try.prog 19 #[.agg #[.int .i64 k, .int .i64 i, .int .u64 a, .int .u64 b], .agg #[.int .i64 k2, .int .i64 i2, .int .u64 a2, .int .u64 b2]] w fun e w' => e = .returned (.bool (meets k i k2 i2)) ∧ Only [] w w' := by
  unfold meets
  by_cases hi : i = i2
  · subst hi
    by_cases lx : 2 ≤ k ∧ k ≤ 4
    · by_cases h1 : 1 ≤ k2
      · by_cases h2 : k2 ≤ 4
        · rw [decide_eq_true ⟨rfl, ⟨by omega, lx.2⟩, ⟨h1, h2⟩, .inl lx⟩]
          exact rmeets_a w k i a b k2 a2 b2 lx h1 h2
        · rw [decide_eq_false fun h => h2 h.2.2.1.2]
          exact rmeets_c w k i a b k2 a2 b2 lx (fun h => h2 h.2) h1 h2
      · rw [decide_eq_false fun h => h1 h.2.2.1.1]
        exact rmeets_b w k i a b k2 a2 b2 lx (fun h => h1 (by omega)) h1
    · by_cases ly : 2 ≤ k2 ∧ k2 ≤ 4
      · by_cases h1 : k = 1
        · rw [decide_eq_true ⟨rfl, ⟨by omega, by omega⟩, ⟨by omega, ly.2⟩, .inr ly⟩]
          exact rmeets_d w k i a b k2 a2 b2 lx ly h1
        · rw [decide_eq_false fun h => by omega]
          exact rmeets_e w k i a b k2 a2 b2 lx ly h1
      · rw [decide_eq_false fun h => h.2.2.2.elim lx ly]
        exact rmeets_f w k i a b k2 a2 b2 lx ly
  · rw [decide_eq_false fun h => hi h.1]
    exact rmeets_apart w k i a b k2 i2 a2 b2 hi

end Go.Proofs.Ytnoplfjodedijaa
