/- The walk of known of law 07. Written by known7gen. -/
import Derived.Test.YtoecoijmkjhkgaaDeq8
namespace Go.Proofs.Ytoecoijmkjhkgaa
open Go.RowKit

/-- A deque's place and the words in a world. -/
structure Dk (w wr : World) (mb ms lb : Nat) (a : Int) (n : Nat) (m : MS) : Prop where
  out : Only [] w wr
  lo : w.heap.size ≤ mb ∧ w.heap.size ≤ ms
  lock : Blk wr lb 59 #[.int .i64 a, .int .i64 n]
  mem : IsMem wr mb ms m
  rng : m.drng

section
variable {w wr w1 w2 : World} {mb ms lb n b kb : Nat} {a : Int} {m : MS}
theorem Dk.quiet (h : Dk w wr mb ms lb a n m) (o : Only [] wr w1) : Dk w w1 mb ms lb a n m := ⟨h.out.trans o, h.lo, h.lock.only o (by simp), h.mem.dsame o, h.rng⟩
theorem Dk.ran {r : DQ × MS} {e : Ending} (h : Dk w wr mb ms lb a n m) (hb : wr.heap.size ≤ b) (hk : wr.heap.size ≤ kb) (o : Only [] wr w1) (hr : DRan w1 b kb mb ms r e w2) : Dk w w2 mb ms lb a n r.2 := by
  obtain ⟨_, o2, hm, hg, _⟩ := hr
  have h1 := h.lock.lt
  have h2 := h.lock.ne h.mem.obj (by decide)
  have h3 := h.lock.ne h.mem.row (by decide)
  have h4 := h.lo
  have h5 := h.out.size
  exact ⟨(h.out.trans o).then o2 (by simp; omega), h.lo, (h.lock.only o (by simp)).only o2 (by simp; omega), hm, hg⟩
end

theorem kd0 : DQ.run 10 ⟨1, 2, 1, 0, false, false, 0, 0, 0, false⟩ (MS.new 10) = (⟨1, 2, 1, 6, false, true, 0, 0, 18446744073709551615, false⟩, ⟨[0, 0, 0, 0, 0, 0, 0, 0, 0, 0], 4, 2⟩) := by kernel_rfl
theorem kd1 : DQ.run 10 ⟨1, 2, 0, 0, false, false, 5, 0, 0, false⟩ ⟨[0, 0, 0, 0, 0, 0, 0, 0, 0, 0], 4, 2⟩ = (⟨1, 2, 0, 4, true, true, 5, 0, 0, false⟩, ⟨[0, 0, 1, 5, 0, 0, 0, 0, 0, 0], 8, 4⟩) := by kernel_rfl
theorem kd2 : DQ.run 10 ⟨1, 2, 0, 0, false, false, 6, 0, 0, false⟩ ⟨[0, 0, 1, 5, 0, 0, 0, 0, 0, 0], 8, 4⟩ = (⟨1, 2, 0, 4, true, true, 6, 0, 1, false⟩, ⟨[0, 0, 2, 5, 6, 0, 0, 0, 0, 0], 12, 6⟩) := by kernel_rfl
theorem kd3 : DQ.run 10 ⟨1, 2, 0, 0, false, false, 7, 0, 0, false⟩ ⟨[0, 0, 2, 5, 6, 0, 0, 0, 0, 0], 12, 6⟩ = (⟨1, 2, 0, 2, false, true, 7, 0, 2, false⟩, ⟨[0, 0, 2, 5, 6, 0, 0, 0, 0, 0], 14, 6⟩) := by kernel_rfl
theorem kd4 : DQ.run 10 ⟨1, 2, 2, 0, false, false, 0, 0, 0, false⟩ ⟨[0, 0, 2, 5, 6, 0, 0, 0, 0, 0], 14, 6⟩ = (⟨1, 2, 2, 4, true, true, 5, 0, 0, false⟩, ⟨[0, 1, 2, 5, 6, 0, 0, 0, 0, 0], 18, 7⟩) := by kernel_rfl
theorem kd5 : DQ.run 10 ⟨1, 2, 1, 0, false, false, 0, 0, 0, false⟩ ⟨[0, 1, 2, 5, 6, 0, 0, 0, 0, 0], 18, 7⟩ = (⟨1, 2, 1, 6, true, true, 6, 1, 1, true⟩, ⟨[0, 2, 2, 5, 6, 0, 0, 0, 0, 0], 24, 10⟩) := by kernel_rfl
theorem kd6 : DQ.run 10 ⟨1, 2, 2, 0, false, false, 0, 0, 0, false⟩ ⟨[0, 2, 2, 5, 6, 0, 0, 0, 0, 0], 24, 10⟩ = (⟨1, 2, 2, 2, false, true, 0, 2, 0, false⟩, ⟨[0, 2, 2, 5, 6, 0, 0, 0, 0, 0], 26, 10⟩) := by kernel_rfl

set_option maxHeartbeats 4000000 in
set_option maxRecDepth 100000 in
theorem known07 (w : World) : Calls Try.prog 26 #[] w fun e w' => e = .returned (.bool true) ∧ Only [] w w' := by
  have HR := Lib.hid (show dequeRight 1 2 from ⟨⟨by decide, by decide⟩, by decide, by decide⟩)
  have HNR := Lib.hid (show ¬ dequeRight 0 0 from fun h => absurd h.2.1 (by decide))
  go_enter Try.func26, Try.ntmps26
  go_wp2_with fail
  refine (new_any _ 10 (by omega) (by omega)).mono ?_
  rintro e w1 ⟨mb, ms, rfl, hb, hs, ho, hm⟩
  have HD : Hid (Dk w (w1.alloc (.cells #[.int .i64 1, .int .i64 2] 59)) mb ms w1.heap.size 1 2 (MS.new 10)) := Lib.hid ⟨ho.alloc _, ⟨hb, hs⟩, Blk.new _ _ _, hm.dsame ((Only.refl [] w1).alloc _), dnew_rng 10⟩
  clear hb hs ho hm
  go_wp2_with fail
  refine (dpop_some _ 1 2 HR.out).mono ?_
  rintro e w2 ⟨b, kb, rfl, hb, hk, ho, hd⟩
  have HN := Lib.hid (And.intro hb (And.intro hk (And.intro ho hd)))
  clear hb hk ho hd
  go_wp2_with fail
  refine (drun_any _ b kb mb ms _ _ HN.out.2.2.2 (HD.out.mem.dsame HN.out.2.2.1) HD.out.rng).mono ?_
  rintro e w3 hr
  rw [kd0] at hr
  have HD := Lib.hid (HD.out.ran HN.out.1 HN.out.2.1 HN.out.2.2.1 hr)
  obtain ⟨rfl, _⟩ := hr
  rw [show dRun ⟨1, 2, 1, 6, false, true, 0, 0, 18446744073709551615, false⟩ = .tuple #[.int .u64 0, .bool false] from rfl]
  have l0 := HD.out.lock.at 0 (v := .int .i64 1) rfl
  have l1 := HD.out.lock.at 1 (v := .int .i64 2) rfl
  clear HN
  go_wp2_with fail
  refine (dpush_some _ 1 5 2 HR.out (by omega) (by omega)).mono ?_
  rintro e w2 ⟨b, kb, rfl, hb, hk, ho, hd⟩
  have HN := Lib.hid (And.intro hb (And.intro hk (And.intro ho hd)))
  clear hb hk ho hd l0 l1
  go_wp2_with fail
  refine (drun_any _ b kb mb ms _ _ HN.out.2.2.2 (HD.out.mem.dsame HN.out.2.2.1) HD.out.rng).mono ?_
  rintro e w3 hr
  rw [kd1] at hr
  have HD := Lib.hid (HD.out.ran HN.out.1 HN.out.2.1 HN.out.2.2.1 hr)
  obtain ⟨rfl, _⟩ := hr
  rw [show dRun ⟨1, 2, 0, 4, true, true, 5, 0, 0, false⟩ = .tuple #[.int .u64 5, .bool true] from rfl]
  have l0 := HD.out.lock.at 0 (v := .int .i64 1) rfl
  have l1 := HD.out.lock.at 1 (v := .int .i64 2) rfl
  clear HN
  go_wp2_with fail
  refine (dpush_some _ 1 6 2 HR.out (by omega) (by omega)).mono ?_
  rintro e w2 ⟨b, kb, rfl, hb, hk, ho, hd⟩
  have HN := Lib.hid (And.intro hb (And.intro hk (And.intro ho hd)))
  clear hb hk ho hd l0 l1
  go_wp2_with fail
  refine (drun_any _ b kb mb ms _ _ HN.out.2.2.2 (HD.out.mem.dsame HN.out.2.2.1) HD.out.rng).mono ?_
  rintro e w3 hr
  rw [kd2] at hr
  have HD := Lib.hid (HD.out.ran HN.out.1 HN.out.2.1 HN.out.2.2.1 hr)
  obtain ⟨rfl, _⟩ := hr
  rw [show dRun ⟨1, 2, 0, 4, true, true, 6, 0, 1, false⟩ = .tuple #[.int .u64 6, .bool true] from rfl]
  have l0 := HD.out.lock.at 0 (v := .int .i64 1) rfl
  have l1 := HD.out.lock.at 1 (v := .int .i64 2) rfl
  clear HN
  go_wp2_with fail
  refine (dpush_some _ 1 7 2 HR.out (by omega) (by omega)).mono ?_
  rintro e w2 ⟨b, kb, rfl, hb, hk, ho, hd⟩
  have HN := Lib.hid (And.intro hb (And.intro hk (And.intro ho hd)))
  clear hb hk ho hd l0 l1
  go_wp2_with fail
  refine (drun_any _ b kb mb ms _ _ HN.out.2.2.2 (HD.out.mem.dsame HN.out.2.2.1) HD.out.rng).mono ?_
  rintro e w3 hr
  rw [kd3] at hr
  have HD := Lib.hid (HD.out.ran HN.out.1 HN.out.2.1 HN.out.2.2.1 hr)
  obtain ⟨rfl, _⟩ := hr
  rw [show dRun ⟨1, 2, 0, 2, false, true, 7, 0, 2, false⟩ = .tuple #[.int .u64 0, .bool false] from rfl]
  have l0 := HD.out.lock.at 0 (v := .int .i64 1) rfl
  have l1 := HD.out.lock.at 1 (v := .int .i64 2) rfl
  clear HN
  go_wp2_with fail
  refine (dsteal_some _ 1 2 HR.out).mono ?_
  rintro e w2 ⟨b, kb, rfl, hb, hk, ho, hd⟩
  have HN := Lib.hid (And.intro hb (And.intro hk (And.intro ho hd)))
  clear hb hk ho hd l0 l1
  go_wp2_with fail
  refine (drun_any _ b kb mb ms _ _ HN.out.2.2.2 (HD.out.mem.dsame HN.out.2.2.1) HD.out.rng).mono ?_
  rintro e w3 hr
  rw [kd4] at hr
  have HD := Lib.hid (HD.out.ran HN.out.1 HN.out.2.1 HN.out.2.2.1 hr)
  obtain ⟨rfl, _⟩ := hr
  rw [show dRun ⟨1, 2, 2, 4, true, true, 5, 0, 0, false⟩ = .tuple #[.int .u64 5, .bool true] from rfl]
  have l0 := HD.out.lock.at 0 (v := .int .i64 1) rfl
  have l1 := HD.out.lock.at 1 (v := .int .i64 2) rfl
  clear HN
  go_wp2_with fail
  refine (dpop_some _ 1 2 HR.out).mono ?_
  rintro e w2 ⟨b, kb, rfl, hb, hk, ho, hd⟩
  have HN := Lib.hid (And.intro hb (And.intro hk (And.intro ho hd)))
  clear hb hk ho hd l0 l1
  go_wp2_with fail
  refine (drun_any _ b kb mb ms _ _ HN.out.2.2.2 (HD.out.mem.dsame HN.out.2.2.1) HD.out.rng).mono ?_
  rintro e w3 hr
  rw [kd5] at hr
  have HD := Lib.hid (HD.out.ran HN.out.1 HN.out.2.1 HN.out.2.2.1 hr)
  obtain ⟨rfl, _⟩ := hr
  rw [show dRun ⟨1, 2, 1, 6, true, true, 6, 1, 1, true⟩ = .tuple #[.int .u64 6, .bool true] from rfl]
  have l0 := HD.out.lock.at 0 (v := .int .i64 1) rfl
  have l1 := HD.out.lock.at 1 (v := .int .i64 2) rfl
  clear HN
  go_wp2_with fail
  refine (dsteal_some _ 1 2 HR.out).mono ?_
  rintro e w2 ⟨b, kb, rfl, hb, hk, ho, hd⟩
  have HN := Lib.hid (And.intro hb (And.intro hk (And.intro ho hd)))
  clear hb hk ho hd l0 l1
  go_wp2_with fail
  refine (drun_any _ b kb mb ms _ _ HN.out.2.2.2 (HD.out.mem.dsame HN.out.2.2.1) HD.out.rng).mono ?_
  rintro e w3 hr
  rw [kd6] at hr
  have HD := Lib.hid (HD.out.ran HN.out.1 HN.out.2.1 HN.out.2.2.1 hr)
  obtain ⟨rfl, _⟩ := hr
  rw [show dRun ⟨1, 2, 2, 2, false, true, 0, 2, 0, false⟩ = .tuple #[.int .u64 0, .bool false] from rfl]
  have l0 := HD.out.lock.at 0 (v := .int .i64 1) rfl
  have l1 := HD.out.lock.at 1 (v := .int .i64 2) rfl
  clear HN
  have HO := Lib.hid (HD.out.out.alloc (.cells #[.int .i64 0, .int .i64 0] 59))
  have HB := Lib.hid (Blk.new w3 59 #[.int .i64 0, .int .i64 0])
  clear HD l0 l1
  go_wp2_with fail
  refine (dpush_none _ 0 0 1 HNR.out).mono ?_
  rintro e w4 ⟨rfl, ho⟩
  have HO := Lib.hid (HO.out.trans ho)
  have HB := Lib.hid (HB.out.only ho (by simp))
  have b0 := HB.out.at 0 (v := .int .i64 0) rfl
  have b1 := HB.out.at 1 (v := .int .i64 0) rfl
  clear ho
  go_wp2_with fail
  refine (dpop_none _ 0 0 HNR.out).mono ?_
  rintro e w5 ⟨rfl, ho⟩
  have HO := Lib.hid (HO.out.trans ho)
  have HB := Lib.hid (HB.out.only ho (by simp))
  have b0 := HB.out.at 0 (v := .int .i64 0) rfl
  have b1 := HB.out.at 1 (v := .int .i64 0) rfl
  clear ho
  go_wp2_with fail
  refine (dsteal_none _ 0 0 HNR.out).mono ?_
  rintro e w6 ⟨rfl, ho⟩
  have HO := Lib.hid (HO.out.trans ho)
  clear ho
  go_wp2_with fail
  go_ret
  exact ⟨rfl, HO.out⟩

end Go.Proofs.Ytoecoijmkjhkgaa
