/- The walk of law ActCas. -/
import Derived.Test.YtnoplfjodedijaaKnown3W
import Derived.Test.YtnoplfjodedijaaPlain02
namespace Go.Proofs.Ytnoplfjodedijaa
open Go.RowKit

theorem MS.act_keeps (m : MS) (x : Act') : (m.act x).1.L.length = m.L.length := by
  unfold MS.act MS.load MS.store MS.cas MS.add
  repeat' split
  all_goals simp
theorem MS.run_keeps (m : MS) (l : List Act') : (m.run l).1.L.length = m.L.length := by
  have h : ∀ (l : List Act') (s : MS × List Res), (l.foldl (fun s x => ((s.1.act x).1, s.2 ++ [(s.1.act x).2])) s).1.L.length = s.1.L.length := fun l => by
    induction l with
    | nil => intro s; rfl
    | cons x l ih => intro s; rw [List.foldl_cons, ih]; exact MS.act_keeps _ _
  exact h l (m, [])

theorem kload (m : MS) (k : Nat) (h : k < m.L.length) : ∃ m', m.act ⟨1, k, 0, 0⟩ = (m', ⟨nth m.L k, false, 0⟩) ∧ m'.L = m.L := by
  have hh : m.has (k : Int) = true := decide_eq_true ⟨by omega, by omega⟩
  exact ⟨⟨m.L, wrap64 (m.c + 1), m.l⟩, by rw [act1, MS.load, if_pos hh]; rfl, rfl⟩
theorem kcas_yes (m : MS) (k : Nat) (x y : Int) (h : k < m.L.length) (he : nth m.L k = x) : ∃ m', m.act ⟨3, k, x, y⟩ = (m', ⟨0, true, 0⟩) ∧ m'.L = m.L.set k y := by
  have hh : m.has (k : Int) = true := decide_eq_true ⟨by omega, by omega⟩
  exact ⟨⟨m.L.set k y, wrap64 (m.c + 1), wrap64 (m.l + 1)⟩, by rw [act3, MS.cas, if_pos hh, Int.toNat_natCast, if_pos he], rfl⟩
theorem kcas_no (m : MS) (k : Nat) (x y : Int) (h : k < m.L.length) (he : ¬ nth m.L k = x) : ∃ m', m.act ⟨3, k, x, y⟩ = (m', ⟨0, false, 0⟩) ∧ m'.L = m.L := by
  have hh : m.has (k : Int) = true := decide_eq_true ⟨by omega, by omega⟩
  exact ⟨⟨m.L, wrap64 (m.c + 1), m.l⟩, by rw [act3, MS.cas, if_pos hh, Int.toNat_natCast, if_neg he], rfl⟩
/-- Acts that came in lie in none of the blocks that were made since. -/
theorem off_of {w : World} {A : Option Addr} {l : List Act'} {S : List Nat} (h : ReadsActs w A l) (hS : ∀ x ∈ S, w.heap.size ≤ x) : l ≠ [] → Off A S := fun hl g o e hm => by
  rcases h with rfl | ⟨g', o', hg, rfl, _⟩
  · exact hl rfl
  · injection e with e
    injection e with e1
    have := hS g hm
    omega

set_option maxHeartbeats 4000000 in
set_option maxRecDepth 100000 in
theorem actcas_walk (w : World) (A : Option Addr) (cap : Nat) (l : List Act') (a x y : Int) (h0 : 0 ≤ a) (h1 : a ≤ 255) (hr : ReadsActs w A l) (_hl : l.length ≤ 9223372036854775807) :
    Calls Try.prog 5 #[.slice A l.length cap, .int .u8 a, .agg #[.int .u64 x, .int .u64 y]] w fun e w' => e = .returned (.bool true) ∧ Only [] w w' := by
  have HR := Lib.hid hr
  clear hr
  obtain ⟨k, hk⟩ : ∃ k : Nat, a % 8 = k := ⟨(a % 8).toNat, by omega⟩
  have hk8 : k < 8 := by omega
  go_enter Try.func5, Try.ntmps5
  go_wp2_with fail
  refine (new_any _ 8 (by omega) (by omega)).mono ?_
  rintro e w1 ⟨b, s, rfl, hb, hs, ho, hm⟩
  have HB := Lib.hid (And.intro hb hs)
  have HX := Lib.hid ((Blk.new w 34 #[.int .u64 x, .int .u64 y]).only ho (by simp))
  have HO := Lib.hid (((Only.refl [] w).alloc _).trans ho)
  have HM := Lib.hid hm
  have hlen8 : (MS.new 8).L.length = 8 := by decide
  clear hb hs ho hm
  by_cases hlen : l.length ≤ 60
  · have hl1 : (l.length : Int) ≤ 60 := by omega
    go_wp2_with fail
    refine (run_any _ b s (MS.new 8) A cap l HM.out (HR.out.only HO.out (fun _ _ _ => by simp)) (off_of HR.out (by have := HB.out; simp at this; simp; omega)) (by omega)).mono ?_
    rintro e w2 ⟨v, rfl, ho, hm, hown⟩
    have hL : ((MS.new 8).run l).1.L.length = 8 := by rw [MS.run_keeps]; rfl
    obtain ⟨m1, hm1⟩ : ∃ m1, ((MS.new 8).run l).1 = m1 := ⟨_, rfl⟩
    rw [hm1] at hm hL
    obtain ⟨m2, ha2, hL2⟩ := kload m1 k (by omega)
    have HX := Lib.hid (HX.out.only ho (by have := HX.out.lt; have := HB.out; simp at this; simp; omega))
    have HO := Lib.hid (HO.out.then ho (by have := HB.out; simp at this; simp; omega))
    have HM := Lib.hid hm
    have HA2 := Lib.hid ha2
    clear ho hm hown ha2 hm1
    go_wp2_with fail
    refine (do_to HM.out HA2.out).mono ?_
    rintro e w3 ⟨rfl, ho, hm⟩
    have HX := Lib.hid (HX.out.only ho (by have := HX.out.lt; have := HB.out; simp at this; simp; omega))
    have HO := Lib.hid (HO.out.then ho (by have := HB.out; simp at this; simp; omega))
    have HM := Lib.hid hm
    have HY := Lib.hid (Blk.new w3 42 #[.int .u64 (nth m1.L k), .bool false, .int .i64 0])
    have HYB := Lib.hid (show b < w3.heap.size ∧ s < w3.heap.size from hm.lt)
    have x0 := (HX.out.alloc (.cells #[.int .u64 (nth m1.L k), .bool false, .int .i64 0] 42)).at 0 (v := .int .u64 x) rfl
    have x1 := (HX.out.alloc (.cells #[.int .u64 (nth m1.L k), .bool false, .int .i64 0] 42)).at 1 (v := .int .u64 y) rfl
    clear ho hm
    by_cases heq : nth m1.L k = x
    · obtain ⟨m3, ha3, hL3⟩ := kcas_yes m2 k x y (by rw [hL2]; omega) (by rw [hL2]; exact heq)
      obtain ⟨m4, ha4, _⟩ := kload m3 k (by rw [hL3, List.length_set, hL2]; omega)
      rw [hL3, nth_set _ _ _ _ (by rw [hL2]; omega), if_pos rfl] at ha4
      have HA3 := Lib.hid ha3
      have HA4 := Lib.hid ha4
      have heqb : (nth m1.L k == x) = true := by simpa using heq
      clear ha3 ha4 heq hL2 hL3 hL
      go_wp2_with fail
      refine (do_to (HM.out.only ((Only.refl [] w3).alloc (.cells #[.int .u64 (nth m1.L k), .bool false, .int .i64 0] 42)) (by simp) (by simp)) HA3.out).mono ?_
      rintro e w4 ⟨rfl, ho, hm⟩
      have HX := Lib.hid ((HX.out.alloc (.cells #[.int .u64 (nth m1.L k), .bool false, .int .i64 0] 42)).only ho (by have := HX.out.lt; have := HB.out; simp at this; simp; omega))
      have HY := Lib.hid (HY.out.only ho (by have := HM.out.lt; simp; omega))
      have HO := Lib.hid ((HO.out.alloc _).then ho (by have := HB.out; simp at this; simp; omega))
      have HM := Lib.hid hm
      have HZ := Lib.hid (Blk.new w4 42 #[.int .u64 0, .bool true, .int .i64 0])
      clear ho hm x0 x1
      go_wp2_with fail
      refine (do_to (HM.out.only ((Only.refl [] w4).alloc (.cells #[.int .u64 0, .bool true, .int .i64 0] 42)) (by simp) (by simp)) HA4.out).mono ?_
      rintro e w5 ⟨rfl, ho, hm⟩
      have HX := Lib.hid (((HX.out.alloc (.cells #[.int .u64 0, .bool true, .int .i64 0] 42)).only ho (by have := HX.out.lt; have := HB.out; simp at this; simp; omega)).alloc (.cells #[.int .u64 (y), .bool false, .int .i64 0] 42))
      have HY := Lib.hid (((HY.out.alloc (.cells #[.int .u64 0, .bool true, .int .i64 0] 42)).only ho (by have := HM.out.lt; have := HY.out.lt; have := HYB.out; simp; omega)).alloc (.cells #[.int .u64 (y), .bool false, .int .i64 0] 42))
      have HZ := Lib.hid ((HZ.out.only ho (by have := HM.out.lt; simp; omega)).alloc (.cells #[.int .u64 (y), .bool false, .int .i64 0] 42))
      have HO := Lib.hid (((HO.out.alloc _).then ho (by have := HB.out; simp at this; simp; omega)).alloc (.cells #[.int .u64 (y), .bool false, .int .i64 0] 42))
      have x0 := HX.out.at 0 (v := .int .u64 x) rfl
      have x1 := HX.out.at 1 (v := .int .u64 y) rfl
      have y0 := HY.out.at 0 rfl
      have z1 := HZ.out.at 1 rfl
      have z2 := HZ.out.at 2 rfl
      clear ho hm
      go_wp2_with fail
      refine (known03 _).mono ?_
      rintro e w6 ⟨rfl, ho⟩
      have HO := Lib.hid (HO.out.trans ho)
      clear ho
      go_wp2_with fail
      go_ret
      exact ⟨rfl, HO.out⟩
    · obtain ⟨m3, ha3, hL3⟩ := kcas_no m2 k x y (by rw [hL2]; omega) (by rw [hL2]; exact heq)
      obtain ⟨m4, ha4, _⟩ := kload m3 k (by rw [hL3, hL2]; omega)
      rw [hL3, hL2] at ha4
      have HA3 := Lib.hid ha3
      have HA4 := Lib.hid ha4
      have heqb : (nth m1.L k == x) = false := by simpa using heq
      clear ha3 ha4 heq hL2 hL3 hL
      go_wp2_with fail
      refine (do_to (HM.out.only ((Only.refl [] w3).alloc (.cells #[.int .u64 (nth m1.L k), .bool false, .int .i64 0] 42)) (by simp) (by simp)) HA3.out).mono ?_
      rintro e w4 ⟨rfl, ho, hm⟩
      have HX := Lib.hid ((HX.out.alloc (.cells #[.int .u64 (nth m1.L k), .bool false, .int .i64 0] 42)).only ho (by have := HX.out.lt; have := HB.out; simp at this; simp; omega))
      have HY := Lib.hid (HY.out.only ho (by have := HM.out.lt; simp; omega))
      have HO := Lib.hid ((HO.out.alloc _).then ho (by have := HB.out; simp at this; simp; omega))
      have HM := Lib.hid hm
      have HZ := Lib.hid (Blk.new w4 42 #[.int .u64 0, .bool false, .int .i64 0])
      clear ho hm x0 x1
      go_wp2_with fail
      refine (do_to (HM.out.only ((Only.refl [] w4).alloc (.cells #[.int .u64 0, .bool false, .int .i64 0] 42)) (by simp) (by simp)) HA4.out).mono ?_
      rintro e w5 ⟨rfl, ho, hm⟩
      have HX := Lib.hid (((HX.out.alloc (.cells #[.int .u64 0, .bool false, .int .i64 0] 42)).only ho (by have := HX.out.lt; have := HB.out; simp at this; simp; omega)).alloc (.cells #[.int .u64 (nth m1.L k), .bool false, .int .i64 0] 42))
      have HY := Lib.hid (((HY.out.alloc (.cells #[.int .u64 0, .bool false, .int .i64 0] 42)).only ho (by have := HM.out.lt; have := HY.out.lt; have := HYB.out; simp; omega)).alloc (.cells #[.int .u64 (nth m1.L k), .bool false, .int .i64 0] 42))
      have HZ := Lib.hid ((HZ.out.only ho (by have := HM.out.lt; simp; omega)).alloc (.cells #[.int .u64 (nth m1.L k), .bool false, .int .i64 0] 42))
      have HO := Lib.hid (((HO.out.alloc _).then ho (by have := HB.out; simp at this; simp; omega)).alloc (.cells #[.int .u64 (nth m1.L k), .bool false, .int .i64 0] 42))
      have x0 := HX.out.at 0 (v := .int .u64 x) rfl
      have x1 := HX.out.at 1 (v := .int .u64 y) rfl
      have y0 := HY.out.at 0 rfl
      have z1 := HZ.out.at 1 rfl
      have z2 := HZ.out.at 2 rfl
      clear ho hm
      go_wp2_with fail
      refine (known03 _).mono ?_
      rintro e w6 ⟨rfl, ho⟩
      have HO := Lib.hid (HO.out.trans ho)
      clear ho
      go_wp2_with fail
      go_ret
      exact ⟨rfl, HO.out⟩
  · have hl1 : (60 : Int) < l.length := by omega
    go_wp2_with fail
    refine (known03 _).mono ?_
    rintro e w2 ⟨rfl, ho⟩
    have HO := Lib.hid (HO.out.trans ho)
    clear ho
    go_wp2_with fail
    go_ret
    exact ⟨rfl, HO.out⟩

end Go.Proofs.Ytnoplfjodedijaa
