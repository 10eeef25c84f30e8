/- The walk of known of law 06. -/
import Derived.Test.YtoecoijmkjhkgaaRing9
namespace Go.Proofs.Ytoecoijmkjhkgaa
open Go.RowKit

theorem ring_ne {w : World} {mb ms len a n h : Nat} {vs : List Int} (r : RgAt w mb ms len a n h vs) {b : Nat} {cs : Array Value} (hb : Blk w b 32 cs) : b ≠ mb ∧ b ≠ ms := by
  obtain ⟨m, hm, _⟩ := r
  exact ⟨hb.ne hm.obj (by decide), hb.ne hm.row (by decide)⟩

/-- A ring and its place in a world. -/
structure Rg (w wr : World) (mb ms lb : Nat) (len a n h : Nat) (vs : List Int) : Prop where
  out : Only [] w wr
  lo : w.heap.size ≤ mb ∧ w.heap.size ≤ ms
  lock : Blk wr lb 32 #[.int .i64 a, .int .i64 n]
  ring : RgAt wr mb ms len a n h vs

theorem Rg.quiet {w wr w' : World} {mb ms lb len a n h : Nat} {vs : List Int} (r : Rg w wr mb ms lb len a n h vs) (o : Only [] wr w') : Rg w w' mb ms lb len a n h vs :=
  ⟨r.out.trans o, r.lo, r.lock.only o (by simp), r.ring.quiet o⟩
theorem Rg.go {w wr w' : World} {mb ms lb len a n h h' : Nat} {vs vs' : List Int} (r : Rg w wr mb ms lb len a n h vs) (o : Only [mb, ms] wr w') (r' : RgAt w' mb ms len a n h' vs') : Rg w w' mb ms lb len a n h' vs' :=
  ⟨r.out.then o (fun x hx => by have := r.lo; simp at hx; omega), r.lo, r.lock.only o (by have := ring_ne r.ring r.lock; simp; omega), r'⟩

set_option maxHeartbeats 4000000 in
set_option maxRecDepth 100000 in
theorem known06 (w : World) : Calls Try.prog 14 #[] w fun e w' => e = .returned (.bool true) ∧ Only [] w w' := by
  go_enter Try.func14, Try.ntmps14
  go_wp2_with fail
  refine (new_any _ 20 (by omega) (by omega)).mono ?_
  rintro e w1 ⟨mb, ms, rfl, hb, hs, ho, hm⟩
  have HB := Lib.hid (And.intro hb hs)
  have HL := Lib.hid (Blk.new w1 32 #[.int .i64 3, .int .i64 2])
  have HM := Lib.hid (hm.same' ((Only.refl [] w1).alloc (.cells #[.int .i64 3, .int .i64 2] 32)))
  have HO := Lib.hid (ho.alloc (.cells #[.int .i64 3, .int .i64 2] 32))
  clear hb hs ho hm
  go_wp2_with fail
  refine (rg_init (a := 3) (n := 2) HM.out (new_rng 20) (by simp [MS.new]) (by omega) (by omega) (by omega)).mono ?_
  rintro e w2 ⟨rfl, ho, hr⟩
  have HR : Hid (Rg w w2 mb ms w1.heap.size 20 3 2 0 []) := Lib.hid ⟨HO.out.then ho (fun x hx => by have := HB.out; simp at hx; omega), HB.out, HL.out.only ho (by have := HL.out.ne HM.out.obj (by decide); have := HL.out.ne HM.out.row (by decide); simp; omega), hr⟩
  have l0 := HR.out.lock.at 0 (v := .int .i64 3) rfl
  have l1 := HR.out.lock.at 1 (v := .int .i64 2) rfl
  clear ho hr HM HO HL
  go_wp2_with fail
  refine (rg_empty HR.out.ring (by omega) (by omega)).mono ?_
  rintro e w3 ⟨rfl, ho, hr⟩
  have HR := Lib.hid (HR.out.go ho hr)
  have l0 := HR.out.lock.at 0 (v := .int .i64 3) rfl
  have l1 := HR.out.lock.at 1 (v := .int .i64 2) rfl
  clear ho hr
  go_wp2_with fail
  refine (rg_push 5 HR.out.ring (by omega) (by omega) (by omega) (by omega) (by simp)).mono ?_
  rintro e w4 ⟨rfl, ho, hr⟩
  have HR : Hid (Rg w w4 mb ms w1.heap.size 20 3 2 0 [5]) := Lib.hid (HR.out.go ho hr)
  have l0 := HR.out.lock.at 0 (v := .int .i64 3) rfl
  have l1 := HR.out.lock.at 1 (v := .int .i64 2) rfl
  clear ho hr
  go_wp2_with fail
  refine (rg_push 6 HR.out.ring (by omega) (by omega) (by omega) (by omega) (by simp)).mono ?_
  rintro e w5 ⟨rfl, ho, hr⟩
  have HR : Hid (Rg w w5 mb ms w1.heap.size 20 3 2 0 [5, 6]) := Lib.hid (HR.out.go ho hr)
  have l0 := HR.out.lock.at 0 (v := .int .i64 3) rfl
  have l1 := HR.out.lock.at 1 (v := .int .i64 2) rfl
  clear ho hr
  go_wp2_with fail
  refine (rg_full 7 HR.out.ring (by omega) (by omega) (by omega) (by omega) (by simp)).mono ?_
  rintro e w6 ⟨rfl, ho, hr⟩
  have HR : Hid (Rg w w6 mb ms w1.heap.size 20 3 2 0 [5, 6]) := Lib.hid (HR.out.go ho hr)
  have l0 := HR.out.lock.at 0 (v := .int .i64 3) rfl
  have l1 := HR.out.lock.at 1 (v := .int .i64 2) rfl
  clear ho hr
  go_wp2_with fail
  refine (rg_pop HR.out.ring (by omega) (by omega) (by omega)).mono ?_
  rintro e w7 ⟨rfl, ho, hr⟩
  have HR : Hid (Rg w w7 mb ms w1.heap.size 20 3 2 1 [6]) := Lib.hid (HR.out.go ho hr)
  have l0 := HR.out.lock.at 0 (v := .int .i64 3) rfl
  have l1 := HR.out.lock.at 1 (v := .int .i64 2) rfl
  clear ho hr
  go_wp2_with fail
  refine (rg_push 8 HR.out.ring (by omega) (by omega) (by omega) (by omega) (by simp)).mono ?_
  rintro e w8 ⟨rfl, ho, hr⟩
  have HR : Hid (Rg w w8 mb ms w1.heap.size 20 3 2 1 [6, 8]) := Lib.hid (HR.out.go ho hr)
  have l0 := HR.out.lock.at 0 (v := .int .i64 3) rfl
  have l1 := HR.out.lock.at 1 (v := .int .i64 2) rfl
  clear ho hr
  go_wp2_with fail
  refine (rg_pop HR.out.ring (by omega) (by omega) (by omega)).mono ?_
  rintro e w9 ⟨rfl, ho, hr⟩
  have HR : Hid (Rg w w9 mb ms w1.heap.size 20 3 2 2 [8]) := Lib.hid (HR.out.go ho hr)
  have l0 := HR.out.lock.at 0 (v := .int .i64 3) rfl
  have l1 := HR.out.lock.at 1 (v := .int .i64 2) rfl
  clear ho hr
  go_wp2_with fail
  refine (rg_pop HR.out.ring (by omega) (by omega) (by omega)).mono ?_
  rintro e w10 ⟨rfl, ho, hr⟩
  have HR : Hid (Rg w w10 mb ms w1.heap.size 20 3 2 3 []) := Lib.hid (HR.out.go ho hr)
  have HBD := Lib.hid (Blk.new w10 32 #[.int .i64 3, .int .i64 1])
  have HO := Lib.hid (HR.out.out.alloc (.cells #[.int .i64 3, .int .i64 1] 32))
  have HBAD := Lib.hid (show ¬ ringRight 3 1 from fun h => absurd h.2.1 (by decide))
  clear ho hr
  go_wp2_with fail
  refine (init_none _ _ 3 1 HBAD.out).mono ?_
  rintro e w11 ⟨rfl, ho⟩
  have HO := Lib.hid (HO.out.trans ho)
  have HBD := Lib.hid (HBD.out.only ho (by simp))
  have b0 := HBD.out.at 0 (v := .int .i64 3) rfl
  have b1 := HBD.out.at 1 (v := .int .i64 1) rfl
  clear ho l0 l1
  go_wp2_with fail
  refine (push_none _ 3 1 1 HBAD.out).mono ?_
  rintro e w12 ⟨rfl, ho⟩
  have HO := Lib.hid (HO.out.trans ho)
  have HBD := Lib.hid (HBD.out.only ho (by simp))
  have b0 := HBD.out.at 0 (v := .int .i64 3) rfl
  have b1 := HBD.out.at 1 (v := .int .i64 1) rfl
  clear ho
  go_wp2_with fail
  refine (pop_none _ 3 1 HBAD.out).mono ?_
  rintro e w13 ⟨rfl, ho⟩
  have HO := Lib.hid (HO.out.trans ho)
  clear ho
  go_wp2_with fail
  go_ret
  exact ⟨rfl, HO.out⟩

end Go.Proofs.Ytoecoijmkjhkgaa
