/- The walk of act.Meets, once a way; written by meetsgen.py. -/
import Derived.Test.YtnoplfjodedijaaShow
namespace Go.Proofs.Ytnoplfjodedijaa
open Go.RowKit

set_option maxRecDepth 100000 in
theorem meets_apart (w : World) (k i a b k2 i2 a2 b2 : Int) (hi : ¬ i = i2) :
    Calls Try.prog 18 #[.agg #[.int .i64 k, .int .i64 i, .int .u64 a, .int .u64 b], .agg #[.int .i64 k2, .int .i64 i2, .int .u64 a2, .int .u64 b2]] w fun e w' => e = .returned (.bool false) ∧ Only [] w w' := by
  have HX := Lib.hid ((Blk.new w 24 #[.int .i64 k, .int .i64 i, .int .u64 a, .int .u64 b]).alloc (.cells #[.int .i64 k2, .int .i64 i2, .int .u64 a2, .int .u64 b2] 24))
  have HY := Lib.hid (Blk.new' (w.alloc (.cells #[.int .i64 k, .int .i64 i, .int .u64 a, .int .u64 b] 24)) 24 #[.int .i64 k2, .int .i64 i2, .int .u64 a2, .int .u64 b2] (g := w.heap.size + 1) (by simp))
  have HO := Lib.hid (((Only.refl [] w).alloc (.cells #[.int .i64 k, .int .i64 i, .int .u64 a, .int .u64 b] 24)).alloc (.cells #[.int .i64 k2, .int .i64 i2, .int .u64 a2, .int .u64 b2] 24))
  have hb : (i == i2) = false := by simpa using hi
  go_enter Try.func18, Try.ntmps18
  go_wp2_with fail
  go_ret
  exact ⟨rfl, HO.out⟩

set_option maxRecDepth 100000 in
theorem meets_x (w : World) (k i a b k2 a2 b2 : Int) (hdx : ¬ (1 ≤ k ∧ k ≤ 4)) :
    Calls Try.prog 18 #[.agg #[.int .i64 k, .int .i64 i, .int .u64 a, .int .u64 b], .agg #[.int .i64 k2, .int .i64 i, .int .u64 a2, .int .u64 b2]] w fun e w' => e = .returned (.bool false) ∧ Only [] w w' := by
  have HX := Lib.hid ((Blk.new w 24 #[.int .i64 k, .int .i64 i, .int .u64 a, .int .u64 b]).alloc (.cells #[.int .i64 k2, .int .i64 i, .int .u64 a2, .int .u64 b2] 24))
  have HY := Lib.hid (Blk.new' (w.alloc (.cells #[.int .i64 k, .int .i64 i, .int .u64 a, .int .u64 b] 24)) 24 #[.int .i64 k2, .int .i64 i, .int .u64 a2, .int .u64 b2] (g := w.heap.size + 1) (by simp))
  have HO := Lib.hid (((Only.refl [] w).alloc (.cells #[.int .i64 k, .int .i64 i, .int .u64 a, .int .u64 b] 24)).alloc (.cells #[.int .i64 k2, .int .i64 i, .int .u64 a2, .int .u64 b2] 24))
  go_enter Try.func18, Try.ntmps18
  go_wp2_with fail
  refine (does_any _ k i a b).mono ?_
  rintro e w' ⟨rfl, ho⟩
  rw [decide_eq_false hdx]
  have HO := Lib.hid (HO.out.trans ho)
  have HX := Lib.hid (HX.out.only ho (by simp))
  have HY := Lib.hid (HY.out.only ho (by simp))
  have x0 := HX.out.at 0 rfl
  have x1 := HX.out.at 1 rfl
  have x2 := HX.out.at 2 rfl
  have x3 := HX.out.at 3 rfl
  have y0 := HY.out.at 0 rfl
  have y1 := HY.out.at 1 rfl
  have y2 := HY.out.at 2 rfl
  have y3 := HY.out.at 3 rfl
  clear ho
  go_wp2_with fail
  go_ret
  exact ⟨rfl, HO.out⟩

set_option maxRecDepth 100000 in
theorem meets_y (w : World) (k i a b k2 a2 b2 : Int) (hdx : (1 ≤ k ∧ k ≤ 4)) (hdy : ¬ (1 ≤ k2 ∧ k2 ≤ 4)) :
    Calls Try.prog 18 #[.agg #[.int .i64 k, .int .i64 i, .int .u64 a, .int .u64 b], .agg #[.int .i64 k2, .int .i64 i, .int .u64 a2, .int .u64 b2]] w fun e w' => e = .returned (.bool false) ∧ Only [] w w' := by
  have HX := Lib.hid ((Blk.new w 24 #[.int .i64 k, .int .i64 i, .int .u64 a, .int .u64 b]).alloc (.cells #[.int .i64 k2, .int .i64 i, .int .u64 a2, .int .u64 b2] 24))
  have HY := Lib.hid (Blk.new' (w.alloc (.cells #[.int .i64 k, .int .i64 i, .int .u64 a, .int .u64 b] 24)) 24 #[.int .i64 k2, .int .i64 i, .int .u64 a2, .int .u64 b2] (g := w.heap.size + 1) (by simp))
  have HO := Lib.hid (((Only.refl [] w).alloc (.cells #[.int .i64 k, .int .i64 i, .int .u64 a, .int .u64 b] 24)).alloc (.cells #[.int .i64 k2, .int .i64 i, .int .u64 a2, .int .u64 b2] 24))
  go_enter Try.func18, Try.ntmps18
  go_wp2_with fail
  refine (does_any _ k i a b).mono ?_
  rintro e w' ⟨rfl, ho⟩
  rw [decide_eq_true hdx]
  have HO := Lib.hid (HO.out.trans ho)
  have HX := Lib.hid (HX.out.only ho (by simp))
  have HY := Lib.hid (HY.out.only ho (by simp))
  have x0 := HX.out.at 0 rfl
  have x1 := HX.out.at 1 rfl
  have x2 := HX.out.at 2 rfl
  have x3 := HX.out.at 3 rfl
  have y0 := HY.out.at 0 rfl
  have y1 := HY.out.at 1 rfl
  have y2 := HY.out.at 2 rfl
  have y3 := HY.out.at 3 rfl
  clear ho
  go_wp2_with fail
  refine (does_any _ k2 i a2 b2).mono ?_
  rintro e w' ⟨rfl, ho⟩
  rw [decide_eq_false hdy]
  have HO := Lib.hid (HO.out.trans ho)
  have HX := Lib.hid (HX.out.only ho (by simp))
  have HY := Lib.hid (HY.out.only ho (by simp))
  have x0 := HX.out.at 0 rfl
  have x1 := HX.out.at 1 rfl
  have x2 := HX.out.at 2 rfl
  have x3 := HX.out.at 3 rfl
  have y0 := HY.out.at 0 rfl
  have y1 := HY.out.at 1 rfl
  have y2 := HY.out.at 2 rfl
  have y3 := HY.out.at 3 rfl
  clear ho
  go_wp2_with fail
  go_ret
  exact ⟨rfl, HO.out⟩

set_option maxRecDepth 100000 in
theorem meets_lx (w : World) (k i a b k2 a2 b2 : Int) (hdx : (1 ≤ k ∧ k ≤ 4)) (hdy : (1 ≤ k2 ∧ k2 ≤ 4)) (hlx : (2 ≤ k ∧ k ≤ 4)) :
    Calls Try.prog 18 #[.agg #[.int .i64 k, .int .i64 i, .int .u64 a, .int .u64 b], .agg #[.int .i64 k2, .int .i64 i, .int .u64 a2, .int .u64 b2]] w fun e w' => e = .returned (.bool true) ∧ Only [] w w' := by
  have HX := Lib.hid ((Blk.new w 24 #[.int .i64 k, .int .i64 i, .int .u64 a, .int .u64 b]).alloc (.cells #[.int .i64 k2, .int .i64 i, .int .u64 a2, .int .u64 b2] 24))
  have HY := Lib.hid (Blk.new' (w.alloc (.cells #[.int .i64 k, .int .i64 i, .int .u64 a, .int .u64 b] 24)) 24 #[.int .i64 k2, .int .i64 i, .int .u64 a2, .int .u64 b2] (g := w.heap.size + 1) (by simp))
  have HO := Lib.hid (((Only.refl [] w).alloc (.cells #[.int .i64 k, .int .i64 i, .int .u64 a, .int .u64 b] 24)).alloc (.cells #[.int .i64 k2, .int .i64 i, .int .u64 a2, .int .u64 b2] 24))
  go_enter Try.func18, Try.ntmps18
  go_wp2_with fail
  refine (does_any _ k i a b).mono ?_
  rintro e w' ⟨rfl, ho⟩
  rw [decide_eq_true hdx]
  have HO := Lib.hid (HO.out.trans ho)
  have HX := Lib.hid (HX.out.only ho (by simp))
  have HY := Lib.hid (HY.out.only ho (by simp))
  have x0 := HX.out.at 0 rfl
  have x1 := HX.out.at 1 rfl
  have x2 := HX.out.at 2 rfl
  have x3 := HX.out.at 3 rfl
  have y0 := HY.out.at 0 rfl
  have y1 := HY.out.at 1 rfl
  have y2 := HY.out.at 2 rfl
  have y3 := HY.out.at 3 rfl
  clear ho
  go_wp2_with fail
  refine (does_any _ k2 i a2 b2).mono ?_
  rintro e w' ⟨rfl, ho⟩
  rw [decide_eq_true hdy]
  have HO := Lib.hid (HO.out.trans ho)
  have HX := Lib.hid (HX.out.only ho (by simp))
  have HY := Lib.hid (HY.out.only ho (by simp))
  have x0 := HX.out.at 0 rfl
  have x1 := HX.out.at 1 rfl
  have x2 := HX.out.at 2 rfl
  have x3 := HX.out.at 3 rfl
  have y0 := HY.out.at 0 rfl
  have y1 := HY.out.at 1 rfl
  have y2 := HY.out.at 2 rfl
  have y3 := HY.out.at 3 rfl
  clear ho
  go_wp2_with fail
  refine (lays_any _ k i a b).mono ?_
  rintro e w' ⟨rfl, ho⟩
  rw [decide_eq_true hlx]
  have HO := Lib.hid (HO.out.trans ho)
  have HX := Lib.hid (HX.out.only ho (by simp))
  have HY := Lib.hid (HY.out.only ho (by simp))
  have x0 := HX.out.at 0 rfl
  have x1 := HX.out.at 1 rfl
  have x2 := HX.out.at 2 rfl
  have x3 := HX.out.at 3 rfl
  have y0 := HY.out.at 0 rfl
  have y1 := HY.out.at 1 rfl
  have y2 := HY.out.at 2 rfl
  have y3 := HY.out.at 3 rfl
  clear ho
  go_wp2_with fail
  go_ret
  exact ⟨rfl, HO.out⟩

set_option maxRecDepth 100000 in
theorem meets_ly (w : World) (k i a b k2 a2 b2 : Int) (hdx : (1 ≤ k ∧ k ≤ 4)) (hdy : (1 ≤ k2 ∧ k2 ≤ 4)) (hlx : ¬ (2 ≤ k ∧ k ≤ 4)) (hly : (2 ≤ k2 ∧ k2 ≤ 4)) :
    Calls Try.prog 18 #[.agg #[.int .i64 k, .int .i64 i, .int .u64 a, .int .u64 b], .agg #[.int .i64 k2, .int .i64 i, .int .u64 a2, .int .u64 b2]] w fun e w' => e = .returned (.bool true) ∧ Only [] w w' := by
  have HX := Lib.hid ((Blk.new w 24 #[.int .i64 k, .int .i64 i, .int .u64 a, .int .u64 b]).alloc (.cells #[.int .i64 k2, .int .i64 i, .int .u64 a2, .int .u64 b2] 24))
  have HY := Lib.hid (Blk.new' (w.alloc (.cells #[.int .i64 k, .int .i64 i, .int .u64 a, .int .u64 b] 24)) 24 #[.int .i64 k2, .int .i64 i, .int .u64 a2, .int .u64 b2] (g := w.heap.size + 1) (by simp))
  have HO := Lib.hid (((Only.refl [] w).alloc (.cells #[.int .i64 k, .int .i64 i, .int .u64 a, .int .u64 b] 24)).alloc (.cells #[.int .i64 k2, .int .i64 i, .int .u64 a2, .int .u64 b2] 24))
  go_enter Try.func18, Try.ntmps18
  go_wp2_with fail
  refine (does_any _ k i a b).mono ?_
  rintro e w' ⟨rfl, ho⟩
  rw [decide_eq_true hdx]
  have HO := Lib.hid (HO.out.trans ho)
  have HX := Lib.hid (HX.out.only ho (by simp))
  have HY := Lib.hid (HY.out.only ho (by simp))
  have x0 := HX.out.at 0 rfl
  have x1 := HX.out.at 1 rfl
  have x2 := HX.out.at 2 rfl
  have x3 := HX.out.at 3 rfl
  have y0 := HY.out.at 0 rfl
  have y1 := HY.out.at 1 rfl
  have y2 := HY.out.at 2 rfl
  have y3 := HY.out.at 3 rfl
  clear ho
  go_wp2_with fail
  refine (does_any _ k2 i a2 b2).mono ?_
  rintro e w' ⟨rfl, ho⟩
  rw [decide_eq_true hdy]
  have HO := Lib.hid (HO.out.trans ho)
  have HX := Lib.hid (HX.out.only ho (by simp))
  have HY := Lib.hid (HY.out.only ho (by simp))
  have x0 := HX.out.at 0 rfl
  have x1 := HX.out.at 1 rfl
  have x2 := HX.out.at 2 rfl
  have x3 := HX.out.at 3 rfl
  have y0 := HY.out.at 0 rfl
  have y1 := HY.out.at 1 rfl
  have y2 := HY.out.at 2 rfl
  have y3 := HY.out.at 3 rfl
  clear ho
  go_wp2_with fail
  refine (lays_any _ k i a b).mono ?_
  rintro e w' ⟨rfl, ho⟩
  rw [decide_eq_false hlx]
  have HO := Lib.hid (HO.out.trans ho)
  have HX := Lib.hid (HX.out.only ho (by simp))
  have HY := Lib.hid (HY.out.only ho (by simp))
  have x0 := HX.out.at 0 rfl
  have x1 := HX.out.at 1 rfl
  have x2 := HX.out.at 2 rfl
  have x3 := HX.out.at 3 rfl
  have y0 := HY.out.at 0 rfl
  have y1 := HY.out.at 1 rfl
  have y2 := HY.out.at 2 rfl
  have y3 := HY.out.at 3 rfl
  clear ho
  go_wp2_with fail
  refine (lays_any _ k2 i a2 b2).mono ?_
  rintro e w' ⟨rfl, ho⟩
  rw [decide_eq_true hly]
  have HO := Lib.hid (HO.out.trans ho)
  have HX := Lib.hid (HX.out.only ho (by simp))
  have HY := Lib.hid (HY.out.only ho (by simp))
  have x0 := HX.out.at 0 rfl
  have x1 := HX.out.at 1 rfl
  have x2 := HX.out.at 2 rfl
  have x3 := HX.out.at 3 rfl
  have y0 := HY.out.at 0 rfl
  have y1 := HY.out.at 1 rfl
  have y2 := HY.out.at 2 rfl
  have y3 := HY.out.at 3 rfl
  clear ho
  go_wp2_with fail
  go_ret
  exact ⟨rfl, HO.out⟩

set_option maxRecDepth 100000 in
theorem meets_no (w : World) (k i a b k2 a2 b2 : Int) (hdx : (1 ≤ k ∧ k ≤ 4)) (hdy : (1 ≤ k2 ∧ k2 ≤ 4)) (hlx : ¬ (2 ≤ k ∧ k ≤ 4)) (hly : ¬ (2 ≤ k2 ∧ k2 ≤ 4)) :
    Calls Try.prog 18 #[.agg #[.int .i64 k, .int .i64 i, .int .u64 a, .int .u64 b], .agg #[.int .i64 k2, .int .i64 i, .int .u64 a2, .int .u64 b2]] w fun e w' => e = .returned (.bool false) ∧ Only [] w w' := by
  have HX := Lib.hid ((Blk.new w 24 #[.int .i64 k, .int .i64 i, .int .u64 a, .int .u64 b]).alloc (.cells #[.int .i64 k2, .int .i64 i, .int .u64 a2, .int .u64 b2] 24))
  have HY := Lib.hid (Blk.new' (w.alloc (.cells #[.int .i64 k, .int .i64 i, .int .u64 a, .int .u64 b] 24)) 24 #[.int .i64 k2, .int .i64 i, .int .u64 a2, .int .u64 b2] (g := w.heap.size + 1) (by simp))
  have HO := Lib.hid (((Only.refl [] w).alloc (.cells #[.int .i64 k, .int .i64 i, .int .u64 a, .int .u64 b] 24)).alloc (.cells #[.int .i64 k2, .int .i64 i, .int .u64 a2, .int .u64 b2] 24))
  go_enter Try.func18, Try.ntmps18
  go_wp2_with fail
  refine (does_any _ k i a b).mono ?_
  rintro e w' ⟨rfl, ho⟩
  rw [decide_eq_true hdx]
  have HO := Lib.hid (HO.out.trans ho)
  have HX := Lib.hid (HX.out.only ho (by simp))
  have HY := Lib.hid (HY.out.only ho (by simp))
  have x0 := HX.out.at 0 rfl
  have x1 := HX.out.at 1 rfl
  have x2 := HX.out.at 2 rfl
  have x3 := HX.out.at 3 rfl
  have y0 := HY.out.at 0 rfl
  have y1 := HY.out.at 1 rfl
  have y2 := HY.out.at 2 rfl
  have y3 := HY.out.at 3 rfl
  clear ho
  go_wp2_with fail
  refine (does_any _ k2 i a2 b2).mono ?_
  rintro e w' ⟨rfl, ho⟩
  rw [decide_eq_true hdy]
  have HO := Lib.hid (HO.out.trans ho)
  have HX := Lib.hid (HX.out.only ho (by simp))
  have HY := Lib.hid (HY.out.only ho (by simp))
  have x0 := HX.out.at 0 rfl
  have x1 := HX.out.at 1 rfl
  have x2 := HX.out.at 2 rfl
  have x3 := HX.out.at 3 rfl
  have y0 := HY.out.at 0 rfl
  have y1 := HY.out.at 1 rfl
  have y2 := HY.out.at 2 rfl
  have y3 := HY.out.at 3 rfl
  clear ho
  go_wp2_with fail
  refine (lays_any _ k i a b).mono ?_
  rintro e w' ⟨rfl, ho⟩
  rw [decide_eq_false hlx]
  have HO := Lib.hid (HO.out.trans ho)
  have HX := Lib.hid (HX.out.only ho (by simp))
  have HY := Lib.hid (HY.out.only ho (by simp))
  have x0 := HX.out.at 0 rfl
  have x1 := HX.out.at 1 rfl
  have x2 := HX.out.at 2 rfl
  have x3 := HX.out.at 3 rfl
  have y0 := HY.out.at 0 rfl
  have y1 := HY.out.at 1 rfl
  have y2 := HY.out.at 2 rfl
  have y3 := HY.out.at 3 rfl
  clear ho
  go_wp2_with fail
  refine (lays_any _ k2 i a2 b2).mono ?_
  rintro e w' ⟨rfl, ho⟩
  rw [decide_eq_false hly]
  have HO := Lib.hid (HO.out.trans ho)
  have HX := Lib.hid (HX.out.only ho (by simp))
  have HY := Lib.hid (HY.out.only ho (by simp))
  have x0 := HX.out.at 0 rfl
  have x1 := HX.out.at 1 rfl
  have x2 := HX.out.at 2 rfl
  have x3 := HX.out.at 3 rfl
  have y0 := HY.out.at 0 rfl
  have y1 := HY.out.at 1 rfl
  have y2 := HY.out.at 2 rfl
  have y3 := HY.out.at 3 rfl
  clear ho
  go_wp2_with fail
  go_ret
  exact ⟨rfl, HO.out⟩

/-- Whether two acts meet. -/
def meets (k i k2 i2 : Int) : Bool := decide (i = i2 ∧ (1 ≤ k ∧ k ≤ 4) ∧ (1 ≤ k2 ∧ k2 ≤ 4) ∧ ((2 ≤ k ∧ k ≤ 4) ∨ (2 ≤ k2 ∧ k2 ≤ 4)))

theorem meets_any (w : World) (k i a b k2 i2 a2 b2 : Int) :
    Calls Try.prog 18 #[.agg #[.int .i64 k, .int .i64 i, .int .u64 a, .int .u64 b], .agg #[.int .i64 k2, .int .i64 i2, .int .u64 a2, .int .u64 b2]] w fun e w' => e = .returned (.bool (meets k i k2 i2)) ∧ Only [] w w' := by
  unfold meets
  by_cases hi : i = i2
  · subst hi
    by_cases hx : 1 ≤ k ∧ k ≤ 4
    · by_cases hy : 1 ≤ k2 ∧ k2 ≤ 4
      · by_cases lx : 2 ≤ k ∧ k ≤ 4
        · rw [decide_eq_true ⟨rfl, hx, hy, .inl lx⟩]
          exact meets_lx w k i a b k2 a2 b2 hx hy lx
        · by_cases ly : 2 ≤ k2 ∧ k2 ≤ 4
          · rw [decide_eq_true ⟨rfl, hx, hy, .inr ly⟩]
            exact meets_ly w k i a b k2 a2 b2 hx hy lx ly
          · rw [decide_eq_false fun h => h.2.2.2.elim lx ly]
            exact meets_no w k i a b k2 a2 b2 hx hy lx ly
      · rw [decide_eq_false fun h => hy h.2.2.1]
        exact meets_y w k i a b k2 a2 b2 hx hy
    · rw [decide_eq_false fun h => hx h.2.1]
      exact meets_x w k i a b k2 a2 b2 hx
  · rw [decide_eq_false fun h => hi h.1]
    exact meets_apart w k i a b k2 i2 a2 b2 hi

end Go.Proofs.Ytnoplfjodedijaa
