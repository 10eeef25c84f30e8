/- The walk of law ActTells; written by tellsgen.py. -/
import Derived.Test.YtnoplfjodedijaaActBackW
import Derived.Test.YtnoplfjodedijaaRParse
import Derived.Test.YtnoplfjodedijaaRMeets
import Derived.Deep.RegionHeld3
namespace Go.Proofs.Ytnoplfjodedijaa
open Go.RowKit

set_option maxHeartbeats 8000000 in
set_option maxRecDepth 100000 in
theorem tells_with (w : World) (k i k2 i2 xk xi : Int) (a b a2 b2 xa xb : Nat) (q : Bool) (l : List UInt8) (hl : l.length ≤ 200) (hi : i < 9223372036854775808) (ha : a < 18446744073709551616) (hb : b < 18446744073709551616)
    (H1 : ∀ W, Calls Try.prog 14 #[.string (bs l)] W fun e w' => e = .returned (.tuple #[.agg #[.int .i64 xk, .int .i64 xi, .int .u64 xa, .int .u64 xb], .bool q]) ∧ Only [] W w')
    (H2 : ∀ W, Calls Try.prog 15 #[.string (bs l)] W fun e w' => e = .returned (.tuple #[.agg #[.int .i64 xk, .int .i64 xi, .int .u64 xa, .int .u64 xb], .bool q]) ∧ Only [] W w') :
    Calls Try.prog 3 #[.agg #[.int .i64 k, .int .i64 i, .int .u64 a, .int .u64 b], .agg #[.int .i64 k2, .int .i64 i2, .int .u64 a2, .int .u64 b2], .string (bs l)] w fun e w' => e = .returned (.bool true) ∧ Only [] w w' := by
  have hsz := bs_size l
  have hl1 : (l.length : Int) ≤ 200 := by omega
  have HA := Lib.hid ((Blk.new w 24 #[.int .i64 k, .int .i64 i, .int .u64 a, .int .u64 b]).alloc (.cells #[.int .i64 k2, .int .i64 i2, .int .u64 a2, .int .u64 b2] 24))
  have HB := Lib.hid (Blk.new' (w.alloc (.cells #[.int .i64 k, .int .i64 i, .int .u64 a, .int .u64 b] 24)) 24 #[.int .i64 k2, .int .i64 i2, .int .u64 a2, .int .u64 b2] (g := w.heap.size + 1) (by simp))
  have HO := Lib.hid (((Only.refl [] w).alloc (.cells #[.int .i64 k, .int .i64 i, .int .u64 a, .int .u64 b] 24)).alloc (.cells #[.int .i64 k2, .int .i64 i2, .int .u64 a2, .int .u64 b2] 24))
  have K1 := Lib.hid H1
  have K2 := Lib.hid H2
  clear H1 H2
  go_enter Try.func3, Try.ntmps3
  go_wp2_with fail
  refine (K1.out _).mono ?_
  rintro e w1 ⟨rfl, ho⟩
  have HA := Lib.hid ((HA.out.only ho (by simp)).alloc (.cells #[.int .i64 xk, .int .i64 xi, .int .u64 xa, .int .u64 xb] 24))
  have HB := Lib.hid ((HB.out.only ho (by simp)).alloc (.cells #[.int .i64 xk, .int .i64 xi, .int .u64 xa, .int .u64 xb] 24))
  have HX := Lib.hid (Blk.new w1 24 #[.int .i64 xk, .int .i64 xi, .int .u64 xa, .int .u64 xb])
  have HO := Lib.hid ((HO.out.trans ho).alloc (.cells #[.int .i64 xk, .int .i64 xi, .int .u64 xa, .int .u64 xb] 24))
  clear ho
  go_wp2_with fail
  refine (K2.out _).mono ?_
  rintro e w2 ⟨rfl, ho⟩
  have HA := Lib.hid ((HA.out.only ho (by simp)).alloc (.cells #[.int .i64 xk, .int .i64 xi, .int .u64 xa, .int .u64 xb] 24))
  have HB := Lib.hid ((HB.out.only ho (by simp)).alloc (.cells #[.int .i64 xk, .int .i64 xi, .int .u64 xa, .int .u64 xb] 24))
  have HX := Lib.hid ((HX.out.only ho (by simp)).alloc (.cells #[.int .i64 xk, .int .i64 xi, .int .u64 xa, .int .u64 xb] 24))
  have HY := Lib.hid (Blk.new w2 24 #[.int .i64 xk, .int .i64 xi, .int .u64 xa, .int .u64 xb])
  have HO := Lib.hid ((HO.out.trans ho).alloc (.cells #[.int .i64 xk, .int .i64 xi, .int .u64 xa, .int .u64 xb] 24))
  clear ho
  go_upto_region 5 with fail
  have HA : Hid (Blk (w2.alloc (.cells #[.int .i64 xk, .int .i64 xi, .int .u64 xa, .int .u64 xb] 24)).drew w.heap.size 24 #[.int .i64 k, .int .i64 i, .int .u64 a, .int .u64 b]) := Lib.hid HA.out.drew
  have HB : Hid (Blk (w2.alloc (.cells #[.int .i64 xk, .int .i64 xi, .int .u64 xa, .int .u64 xb] 24)).drew (w.heap.size + 1) 24 #[.int .i64 k2, .int .i64 i2, .int .u64 a2, .int .u64 b2]) := Lib.hid HB.out.drew
  have HX : Hid (Blk (w2.alloc (.cells #[.int .i64 xk, .int .i64 xi, .int .u64 xa, .int .u64 xb] 24)).drew w1.heap.size 24 #[.int .i64 xk, .int .i64 xi, .int .u64 xa, .int .u64 xb]) := Lib.hid HX.out.drew
  have HY : Hid (Blk (w2.alloc (.cells #[.int .i64 xk, .int .i64 xi, .int .u64 xa, .int .u64 xb] 24)).drew w2.heap.size 24 #[.int .i64 xk, .int .i64 xi, .int .u64 xa, .int .u64 xb]) := Lib.hid HY.out.drew
  have HO : Hid (Only [] w (w2.alloc (.cells #[.int .i64 xk, .int .i64 xi, .int .u64 xa, .int .u64 xb] 24)).drew) := Lib.hid HO.out.drew
  go_region_held3 (fun w' => w'.cell? ⟨w.heap.size, 0, none⟩ = some (.int .i64 k) ∧ w'.cell? ⟨w.heap.size, 1, none⟩ = some (.int .i64 i) ∧ w'.cell? ⟨w.heap.size, 2, none⟩ = some (.int .u64 a) ∧ w'.cell? ⟨w.heap.size, 3, none⟩ = some (.int .u64 b) ∧ w'.cell? ⟨(w.heap.size + 1), 0, none⟩ = some (.int .i64 k2) ∧ w'.cell? ⟨(w.heap.size + 1), 1, none⟩ = some (.int .i64 i2) ∧ w'.cell? ⟨(w.heap.size + 1), 2, none⟩ = some (.int .u64 a2) ∧ w'.cell? ⟨(w.heap.size + 1), 3, none⟩ = some (.int .u64 b2) ∧ w'.cell? ⟨w1.heap.size, 0, none⟩ = some (.int .i64 xk) ∧ w'.cell? ⟨w1.heap.size, 1, none⟩ = some (.int .i64 xi) ∧ w'.cell? ⟨w1.heap.size, 2, none⟩ = some (.int .u64 xa) ∧ w'.cell? ⟨w1.heap.size, 3, none⟩ = some (.int .u64 xb) ∧ w'.cell? ⟨w2.heap.size, 0, none⟩ = some (.int .i64 xk) ∧ w'.cell? ⟨w2.heap.size, 1, none⟩ = some (.int .i64 xi) ∧ w'.cell? ⟨w2.heap.size, 2, none⟩ = some (.int .u64 xa) ∧ w'.cell? ⟨w2.heap.size, 3, none⟩ = some (.int .u64 xb))
          (exact ⟨HA.out.at 0 rfl, HA.out.at 1 rfl, HA.out.at 2 rfl, HA.out.at 3 rfl, HB.out.at 0 rfl, HB.out.at 1 rfl, HB.out.at 2 rfl, HB.out.at 3 rfl, HX.out.at 0 rfl, HX.out.at 1 rfl, HX.out.at 2 rfl, HX.out.at 3 rfl, HY.out.at 0 rfl, HY.out.at 1 rfl, HY.out.at 2 rfl, HY.out.at 3 rfl⟩)
          (first
            | (go_at_call 16; refine (lays_any _ k i a b).mono ?_; rintro e w7 ⟨rfl, ho⟩; have HA : Hid (Blk w7 w.heap.size 24 #[.int .i64 k, .int .i64 i, .int .u64 a, .int .u64 b]) := Lib.hid (Blk.only HA.out ho (by simp)); have HB : Hid (Blk w7 (w.heap.size + 1) 24 #[.int .i64 k2, .int .i64 i2, .int .u64 a2, .int .u64 b2]) := Lib.hid (Blk.only HB.out ho (by simp)); have HX : Hid (Blk w7 w1.heap.size 24 #[.int .i64 xk, .int .i64 xi, .int .u64 xa, .int .u64 xb]) := Lib.hid (Blk.only HX.out ho (by simp)); have HY : Hid (Blk w7 w2.heap.size 24 #[.int .i64 xk, .int .i64 xi, .int .u64 xa, .int .u64 xb]) := Lib.hid (Blk.only HY.out ho (by simp)); have HO : Hid (Only [] w w7) := Lib.hid (HO.out.trans ho); clear ho)
            | (go_at_call 17; refine (rlays_any _ k i a b).mono ?_; rintro e w7 ⟨rfl, ho⟩; have HA : Hid (Blk w7 w.heap.size 24 #[.int .i64 k, .int .i64 i, .int .u64 a, .int .u64 b]) := Lib.hid (Blk.only HA.out ho (by simp)); have HB : Hid (Blk w7 (w.heap.size + 1) 24 #[.int .i64 k2, .int .i64 i2, .int .u64 a2, .int .u64 b2]) := Lib.hid (Blk.only HB.out ho (by simp)); have HX : Hid (Blk w7 w1.heap.size 24 #[.int .i64 xk, .int .i64 xi, .int .u64 xa, .int .u64 xb]) := Lib.hid (Blk.only HX.out ho (by simp)); have HY : Hid (Blk w7 w2.heap.size 24 #[.int .i64 xk, .int .i64 xi, .int .u64 xa, .int .u64 xb]) := Lib.hid (Blk.only HY.out ho (by simp)); have HO : Hid (Only [] w w7) := Lib.hid (HO.out.trans ho); clear ho)
            | (go_at_call 18; refine (meets_any _ _ _ _ _ _ _ _ _).mono ?_; rintro e w7 ⟨rfl, ho⟩; have HA : Hid (Blk w7 w.heap.size 24 #[.int .i64 k, .int .i64 i, .int .u64 a, .int .u64 b]) := Lib.hid (Blk.only HA.out ho (by simp)); have HB : Hid (Blk w7 (w.heap.size + 1) 24 #[.int .i64 k2, .int .i64 i2, .int .u64 a2, .int .u64 b2]) := Lib.hid (Blk.only HB.out ho (by simp)); have HX : Hid (Blk w7 w1.heap.size 24 #[.int .i64 xk, .int .i64 xi, .int .u64 xa, .int .u64 xb]) := Lib.hid (Blk.only HX.out ho (by simp)); have HY : Hid (Blk w7 w2.heap.size 24 #[.int .i64 xk, .int .i64 xi, .int .u64 xa, .int .u64 xb]) := Lib.hid (Blk.only HY.out ho (by simp)); have HO : Hid (Only [] w w7) := Lib.hid (HO.out.trans ho); clear ho)
            | (go_at_call 19; refine (rmeets_any _ _ _ _ _ _ _ _ _).mono ?_; rintro e w7 ⟨rfl, ho⟩; have HA : Hid (Blk w7 w.heap.size 24 #[.int .i64 k, .int .i64 i, .int .u64 a, .int .u64 b]) := Lib.hid (Blk.only HA.out ho (by simp)); have HB : Hid (Blk w7 (w.heap.size + 1) 24 #[.int .i64 k2, .int .i64 i2, .int .u64 a2, .int .u64 b2]) := Lib.hid (Blk.only HB.out ho (by simp)); have HX : Hid (Blk w7 w1.heap.size 24 #[.int .i64 xk, .int .i64 xi, .int .u64 xa, .int .u64 xb]) := Lib.hid (Blk.only HX.out ho (by simp)); have HY : Hid (Blk w7 w2.heap.size 24 #[.int .i64 xk, .int .i64 xi, .int .u64 xa, .int .u64 xb]) := Lib.hid (Blk.only HY.out ho (by simp)); have HO : Hid (Only [] w w7) := Lib.hid (HO.out.trans ho); clear ho)
            | (go_at_call 20; refine (show_any _ k i a b hi ha hb).mono ?_; rintro e w7 ⟨rfl, ho⟩; have HA : Hid (Blk w7 w.heap.size 24 #[.int .i64 k, .int .i64 i, .int .u64 a, .int .u64 b]) := Lib.hid (Blk.only HA.out ho (by simp)); have HB : Hid (Blk w7 (w.heap.size + 1) 24 #[.int .i64 k2, .int .i64 i2, .int .u64 a2, .int .u64 b2]) := Lib.hid (Blk.only HB.out ho (by simp)); have HX : Hid (Blk w7 w1.heap.size 24 #[.int .i64 xk, .int .i64 xi, .int .u64 xa, .int .u64 xb]) := Lib.hid (Blk.only HX.out ho (by simp)); have HY : Hid (Blk w7 w2.heap.size 24 #[.int .i64 xk, .int .i64 xi, .int .u64 xa, .int .u64 xb]) := Lib.hid (Blk.only HY.out ho (by simp)); have HO : Hid (Only [] w w7) := Lib.hid (HO.out.trans ho); clear ho)
            | (go_at_call 21; refine (rshow_any _ k i a b hi ha hb).mono ?_; rintro e w7 ⟨rfl, ho⟩; have HA : Hid (Blk w7 w.heap.size 24 #[.int .i64 k, .int .i64 i, .int .u64 a, .int .u64 b]) := Lib.hid (Blk.only HA.out ho (by simp)); have HB : Hid (Blk w7 (w.heap.size + 1) 24 #[.int .i64 k2, .int .i64 i2, .int .u64 a2, .int .u64 b2]) := Lib.hid (Blk.only HB.out ho (by simp)); have HX : Hid (Blk w7 w1.heap.size 24 #[.int .i64 xk, .int .i64 xi, .int .u64 xa, .int .u64 xb]) := Lib.hid (Blk.only HX.out ho (by simp)); have HY : Hid (Blk w7 w2.heap.size 24 #[.int .i64 xk, .int .i64 xi, .int .u64 xa, .int .u64 xb]) := Lib.hid (Blk.only HY.out ho (by simp)); have HO : Hid (Only [] w w7) := Lib.hid (HO.out.trans ho); clear ho)
            | (go_at_call 13; refine (known03 _).mono ?_; rintro e w7 ⟨rfl, ho⟩; have HA : Hid (Blk w7 w.heap.size 24 #[.int .i64 k, .int .i64 i, .int .u64 a, .int .u64 b]) := Lib.hid (Blk.only HA.out ho (by simp)); have HB : Hid (Blk w7 (w.heap.size + 1) 24 #[.int .i64 k2, .int .i64 i2, .int .u64 a2, .int .u64 b2]) := Lib.hid (Blk.only HB.out ho (by simp)); have HX : Hid (Blk w7 w1.heap.size 24 #[.int .i64 xk, .int .i64 xi, .int .u64 xa, .int .u64 xb]) := Lib.hid (Blk.only HX.out ho (by simp)); have HY : Hid (Blk w7 w2.heap.size 24 #[.int .i64 xk, .int .i64 xi, .int .u64 xa, .int .u64 xb]) := Lib.hid (Blk.only HY.out ho (by simp)); have HO : Hid (Only [] w w7) := Lib.hid (HO.out.trans ho); clear ho))
  all_goals
    go_wp2_with fail
    go_ret
    exact ⟨rfl, HO.out⟩

set_option maxRecDepth 100000 in
theorem tells_long (w : World) (k i k2 i2 : Int) (a b a2 b2 : Nat) (l : List UInt8) (hl : 200 < l.length) :
    Calls Try.prog 3 #[.agg #[.int .i64 k, .int .i64 i, .int .u64 a, .int .u64 b], .agg #[.int .i64 k2, .int .i64 i2, .int .u64 a2, .int .u64 b2], .string (bs l)] w fun e w' => e = .returned (.bool true) ∧ Only [] w w' := by
  have hsz := bs_size l
  have hl1 : (200 : Int) < l.length := by omega
  have HO := Lib.hid (((Only.refl [] w).alloc (.cells #[.int .i64 k, .int .i64 i, .int .u64 a, .int .u64 b] 24)).alloc (.cells #[.int .i64 k2, .int .i64 i2, .int .u64 a2, .int .u64 b2] 24))
  go_enter Try.func3, Try.ntmps3
  go_wp2_with fail
  refine (known03 _).mono ?_
  rintro e w5 ⟨rfl, ho⟩
  have HO := Lib.hid (HO.out.trans ho)
  clear ho
  go_wp2_with fail
  go_ret
  exact ⟨rfl, HO.out⟩

theorem acttells_walk (w : World) (k i a b k2 i2 a2 b2 : Int) (s : ByteArray) (hi : i < 9223372036854775808) (ha0 : 0 ≤ a) (ha : a < 18446744073709551616) (hb0 : 0 ≤ b) (hb : b < 18446744073709551616) (ha20 : 0 ≤ a2) (hb20 : 0 ≤ b2) :
    Calls Try.prog 3 #[.agg #[.int .i64 k, .int .i64 i, .int .u64 a, .int .u64 b], .agg #[.int .i64 k2, .int .i64 i2, .int .u64 a2, .int .u64 b2], .string s] w fun e w' => e = .returned (.bool true) ∧ Only [] w w' := by
  obtain ⟨a, rfl⟩ := Int.eq_ofNat_of_zero_le ha0
  obtain ⟨b, rfl⟩ := Int.eq_ofNat_of_zero_le hb0
  obtain ⟨a2, rfl⟩ := Int.eq_ofNat_of_zero_le ha20
  obtain ⟨b2, rfl⟩ := Int.eq_ofNat_of_zero_le hb20
  obtain ⟨l, rfl⟩ : ∃ l, s = bs l := ⟨s.data.toList, rfl⟩
  by_cases hl : l.length ≤ 200
  · cases hs : says l with
    | none =>
      refine tells_with w k i k2 i2 0 0 a b a2 b2 0 0 false l hl hi (by omega) (by omega) (fun W => parse_none W l (by omega) hs) (fun W => (rparse_any W l (by omega)).mono fun e w' p => ?_)
      unfold RParsed at p
      rw [← says_same, hs] at p
      exact p
    | some y =>
      refine tells_with w k i k2 i2 y.k y.i a b a2 b2 y.a y.b true l hl hi (by omega) (by omega) (fun W => parse_some W l y (by omega) hs) (fun W => (rparse_any W l (by omega)).mono fun e w' p => ?_)
      unfold RParsed at p
      rw [← says_same, hs] at p
      exact p
  · exact tells_long w k i k2 i2 a b a2 b2 l (by omega)

end Go.Proofs.Ytnoplfjodedijaa
