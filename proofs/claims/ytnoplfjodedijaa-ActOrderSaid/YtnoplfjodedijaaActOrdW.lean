/- The walk of law ActOrder. -/
import Derived.Test.YtnoplfjodedijaaKnown3W
import Derived.Test.YtnoplfjodedijaaOrder
namespace Go.Proofs.Ytnoplfjodedijaa
open Go.RowKit

set_option maxHeartbeats 4000000 in
set_option maxRecDepth 100000 in
theorem actorder_walk (w : World) (A : Option Addr) (cap : Nat) (l : List Act') (xk xi xa xb yk yi ya yb : Int) (hr : ReadsActs w A l) (_hl : l.length ≤ 9223372036854775807) :
    Calls Try.prog 8 #[.slice A l.length cap, .agg #[.int .i64 xk, .int .i64 xi, .int .u64 xa, .int .u64 xb], .agg #[.int .i64 yk, .int .i64 yi, .int .u64 ya, .int .u64 yb]] w fun e w' => e = .returned (.bool true) ∧ Only [] w w' := by
  have HR := Lib.hid hr
  have HX := Lib.hid ((Blk.new w 24 #[.int .i64 xk, .int .i64 xi, .int .u64 xa, .int .u64 xb]).alloc (.cells #[.int .i64 yk, .int .i64 yi, .int .u64 ya, .int .u64 yb] 24))
  have HY := Lib.hid (Blk.new' (w.alloc (.cells #[.int .i64 xk, .int .i64 xi, .int .u64 xa, .int .u64 xb] 24)) 24 #[.int .i64 yk, .int .i64 yi, .int .u64 ya, .int .u64 yb] (g := w.heap.size + 1) (by simp))
  have HO := Lib.hid (((Only.refl [] w).alloc (.cells #[.int .i64 xk, .int .i64 xi, .int .u64 xa, .int .u64 xb] 24)).alloc (.cells #[.int .i64 yk, .int .i64 yi, .int .u64 ya, .int .u64 yb] 24))
  clear hr
  go_enter Try.func8, Try.ntmps8
  by_cases hlen : l.length ≤ 40
  · have hl1 : (l.length : Int) ≤ 40 := by omega
    go_wp2_with fail
    refine (meets_any _ xk xi xa xb yk yi ya yb).mono ?_
    rintro e w0 ⟨rfl, ho⟩
    have HX := Lib.hid (HX.out.only ho (by simp))
    have HY := Lib.hid (HY.out.only ho (by simp))
    have HO := Lib.hid (HO.out.trans ho)
    have HS0 := Lib.hid (show w.heap.size + 1 < w0.heap.size from HY.out.lt)
    clear ho
    cases hmt : meets xk xi yk yi with
    | true =>
      go_wp2_with fail
      refine (known03 _).mono ?_
      rintro e w1 ⟨rfl, ho⟩
      have HO := Lib.hid (HO.out.trans ho)
      clear ho
      go_wp2_with fail
      go_ret
      exact ⟨rfl, HO.out⟩
    | false =>
      go_wp2_with fail
      refine (new_any _ 8 (by omega) (by omega)).mono ?_
      rintro e w1 ⟨b, s, rfl, hb, hs, ho, hm⟩
      have HB := Lib.hid (And.intro (Nat.lt_of_lt_of_le HS0.out hb) (Nat.lt_of_lt_of_le HS0.out hs))
      have HX := Lib.hid (HX.out.only ho (by simp))
      have HY := Lib.hid (HY.out.only ho (by simp))
      have HO := Lib.hid (HO.out.trans ho)
      have HM := Lib.hid hm
      clear hb hs ho hm
      go_wp2_with fail
      refine (run_any _ b s (MS.new 8) A cap l HM.out (HR.out.only HO.out (fun _ _ _ => by simp)) (off_of HR.out (by have := HB.out; simp; omega)) (by omega)).mono ?_
      rintro e w2 ⟨v, rfl, ho, hm, hown⟩
      have hL : ((MS.new 8).run l).1.L.length = 8 := by rw [MS.run_keeps]; rfl
      obtain ⟨m1, hm1⟩ : ∃ m1, ((MS.new 8).run l).1 = m1 := ⟨_, rfl⟩
      rw [hm1] at hm hL
      have HX := Lib.hid (HX.out.only ho (by have := HB.out; simp; omega))
      have HY := Lib.hid (HY.out.only ho (by have := HB.out; simp; omega))
      have HO := Lib.hid (HO.out.then ho (by have := HB.out; simp; omega))
      have HM := Lib.hid hm
      clear ho hm hown hm1
      go_wp2_with fail
      refine (copy_at _ b s m1.L m1.c m1.l HM.out).mono ?_
      rintro e w3 ⟨b', s', rfl, hb', hs', ho, hm'⟩
      have HB2 := Lib.hid (And.intro (Nat.lt_of_lt_of_le HM.out.lt.1 hb') (And.intro (Nat.lt_of_lt_of_le HM.out.lt.2 hb') (And.intro (Nat.lt_of_lt_of_le HM.out.lt.1 hs') (Nat.lt_of_lt_of_le HM.out.lt.2 hs'))))
      have HB3 := Lib.hid (And.intro (Nat.lt_of_lt_of_le HY.out.lt hb') (Nat.lt_of_lt_of_le HY.out.lt hs'))
      have HX := Lib.hid (HX.out.only ho (by simp))
      have HY := Lib.hid (HY.out.only ho (by simp))
      have HO := Lib.hid (HO.out.trans ho)
      have HM := Lib.hid (HM.out.only ho (by simp) (by simp))
      have HN : Hid (IsMem w3 b' s' m1) := Lib.hid hm'
      clear hb' hs' ho hm'
      have hord := order m1 ⟨xk, xi, xa, xb⟩ ⟨yk, yi, ya, yb⟩ hmt
      have k1 := MS.act_keeps m1 ⟨xk, xi, xa, xb⟩
      obtain ⟨m2, r1v, r1ok, r1e, h1⟩ := MS.act_ex m1 ⟨xk, xi, xa, xb⟩
      obtain ⟨m3, r2v, r2ok, r2e, h2⟩ := MS.act_ex m2 ⟨yk, yi, ya, yb⟩
      obtain ⟨n2, r3v, r3ok, r3e, h3⟩ := MS.act_ex m1 ⟨yk, yi, ya, yb⟩
      obtain ⟨n3, r4v, r4ok, r4e, h4⟩ := MS.act_ex n2 ⟨xk, xi, xa, xb⟩
      have k2 := MS.act_keeps m2 ⟨yk, yi, ya, yb⟩
      rw [h1] at hord k1
      rw [h3] at hord
      rw [h2] at k2
      dsimp only at hord k1 k2
      rw [h2, h4] at hord
      dsimp only at hord
      obtain ⟨e1, e2, e3⟩ := hord
      injection e1 with e11 e12 e13
      injection e2 with e21 e22 e23
      subst e11 e12 e13 e21 e22 e23
      have H1 := Lib.hid h1
      have H2 := Lib.hid h2
      have H3 := Lib.hid h3
      have H4 := Lib.hid h4
      have HE3 := Lib.hid e3
      have HL8 := Lib.hid (show m3.L.length = 8 by rw [k2, k1, hL])
      clear h1 h2 h3 h4 e3 k1 k2 hL hmt
      have x0 := HX.out.at 0 (v := .int .i64 xk) rfl
      have x1 := HX.out.at 1 (v := .int .i64 xi) rfl
      have x2 := HX.out.at 2 (v := .int .u64 xa) rfl
      have x3 := HX.out.at 3 (v := .int .u64 xb) rfl
      go_wp2_with fail
      refine (do_to HM.out H1.out).mono ?_
      rintro e w4 ⟨rfl, ho, hm⟩
      have HX := Lib.hid ((HX.out.only ho (by have := HB.out; have := HB3.out; simp; omega)).alloc (.cells #[.int .u64 r1v, .bool r1ok, .int .i64 r1e] 42))
      have HY := Lib.hid ((HY.out.only ho (by have := HB.out; have := HB3.out; simp; omega)).alloc (.cells #[.int .u64 r1v, .bool r1ok, .int .i64 r1e] 42))
      have HO := Lib.hid ((HO.out.then ho (by have := HB.out; have := HB3.out; simp; omega)).alloc (.cells #[.int .u64 r1v, .bool r1ok, .int .i64 r1e] 42))
      have HQB0 := Lib.hid (show b < w4.heap.size ∧ s < w4.heap.size ∧ b' < w4.heap.size ∧ s' < w4.heap.size by
        have h1 := HN.out.lt
        have h4 := hm.lt
        have h6 := ho.size
        omega)
      have HN := Lib.hid (IsMem.only (HN.out.only ho (by have := HB2.out; simp; omega) (by have := HB2.out; simp; omega)) ((Only.refl [] w4).alloc (.cells #[.int .u64 r1v, .bool r1ok, .int .i64 r1e] 42)) (by simp) (by simp))
      have HM := Lib.hid (IsMem.only hm ((Only.refl [] w4).alloc (.cells #[.int .u64 r1v, .bool r1ok, .int .i64 r1e] 42)) (by simp) (by simp))
      have HQ0 := Lib.hid (Blk.new w4 42 #[.int .u64 r1v, .bool r1ok, .int .i64 r1e])
      clear ho hm
      clear x0 x1 x2 x3
      have z0 := HY.out.at 0 (v := .int .i64 yk) rfl
      have z1 := HY.out.at 1 (v := .int .i64 yi) rfl
      have z2 := HY.out.at 2 (v := .int .u64 ya) rfl
      have z3 := HY.out.at 3 (v := .int .u64 yb) rfl
      go_wp2_with fail
      refine (do_to HM.out H2.out).mono ?_
      rintro e w5 ⟨rfl, ho, hm⟩
      have HX := Lib.hid ((HX.out.only ho (by have := HB.out; have := HB3.out; simp; omega)).alloc (.cells #[.int .u64 r2v, .bool r2ok, .int .i64 r2e] 42))
      have HY := Lib.hid ((HY.out.only ho (by have := HB.out; have := HB3.out; simp; omega)).alloc (.cells #[.int .u64 r2v, .bool r2ok, .int .i64 r2e] 42))
      have HO := Lib.hid ((HO.out.then ho (by have := HB.out; have := HB3.out; simp; omega)).alloc (.cells #[.int .u64 r2v, .bool r2ok, .int .i64 r2e] 42))
      have HQ0 := Lib.hid ((HQ0.out.only ho (by have := HQB0.out; simp; omega)).alloc (.cells #[.int .u64 r2v, .bool r2ok, .int .i64 r2e] 42))
      have HQB1 := Lib.hid (show b < w5.heap.size ∧ s < w5.heap.size ∧ b' < w5.heap.size ∧ s' < w5.heap.size by
        have h1 := HN.out.lt
        have h4 := hm.lt
        have h6 := ho.size
        omega)
      have HN := Lib.hid (IsMem.only (HN.out.only ho (by have := HB2.out; simp; omega) (by have := HB2.out; simp; omega)) ((Only.refl [] w5).alloc (.cells #[.int .u64 r2v, .bool r2ok, .int .i64 r2e] 42)) (by simp) (by simp))
      have HM := Lib.hid (IsMem.only hm ((Only.refl [] w5).alloc (.cells #[.int .u64 r2v, .bool r2ok, .int .i64 r2e] 42)) (by simp) (by simp))
      have HQ1 := Lib.hid (Blk.new w5 42 #[.int .u64 r2v, .bool r2ok, .int .i64 r2e])
      clear ho hm
      have z0 := HY.out.at 0 (v := .int .i64 yk) rfl
      have z1 := HY.out.at 1 (v := .int .i64 yi) rfl
      have z2 := HY.out.at 2 (v := .int .u64 ya) rfl
      have z3 := HY.out.at 3 (v := .int .u64 yb) rfl
      go_wp2_with fail
      refine (do_to HN.out H3.out).mono ?_
      rintro e w6 ⟨rfl, ho, hm⟩
      have HX := Lib.hid ((HX.out.only ho (by have := HB.out; have := HB3.out; simp; omega)).alloc (.cells #[.int .u64 r2v, .bool r2ok, .int .i64 r2e] 42))
      have HY := Lib.hid ((HY.out.only ho (by have := HB.out; have := HB3.out; simp; omega)).alloc (.cells #[.int .u64 r2v, .bool r2ok, .int .i64 r2e] 42))
      have HO := Lib.hid ((HO.out.then ho (by have := HB.out; have := HB3.out; simp; omega)).alloc (.cells #[.int .u64 r2v, .bool r2ok, .int .i64 r2e] 42))
      have HQ0 := Lib.hid ((HQ0.out.only ho (by have := HQB0.out; simp; omega)).alloc (.cells #[.int .u64 r2v, .bool r2ok, .int .i64 r2e] 42))
      have HQ1 := Lib.hid ((HQ1.out.only ho (by have := HQB1.out; simp; omega)).alloc (.cells #[.int .u64 r2v, .bool r2ok, .int .i64 r2e] 42))
      have HQB2 := Lib.hid (show b < w6.heap.size ∧ s < w6.heap.size ∧ b' < w6.heap.size ∧ s' < w6.heap.size by
        have h1 := HM.out.lt
        have h4 := hm.lt
        have h6 := ho.size
        omega)
      have HM := Lib.hid (IsMem.only (HM.out.only ho (by have := HB2.out; simp; omega) (by have := HB2.out; simp; omega)) ((Only.refl [] w6).alloc (.cells #[.int .u64 r2v, .bool r2ok, .int .i64 r2e] 42)) (by simp) (by simp))
      have HN := Lib.hid (IsMem.only hm ((Only.refl [] w6).alloc (.cells #[.int .u64 r2v, .bool r2ok, .int .i64 r2e] 42)) (by simp) (by simp))
      have HQ2 := Lib.hid (Blk.new w6 42 #[.int .u64 r2v, .bool r2ok, .int .i64 r2e])
      clear ho hm
      have z0 := HX.out.at 0 (v := .int .i64 xk) rfl
      have z1 := HX.out.at 1 (v := .int .i64 xi) rfl
      have z2 := HX.out.at 2 (v := .int .u64 xa) rfl
      have z3 := HX.out.at 3 (v := .int .u64 xb) rfl
      go_wp2_with fail
      refine (do_to HN.out H4.out).mono ?_
      rintro e w7 ⟨rfl, ho, hm⟩
      have HX := Lib.hid ((HX.out.only ho (by have := HB.out; have := HB3.out; simp; omega)).alloc (.cells #[.int .u64 r1v, .bool r1ok, .int .i64 r1e] 42))
      have HY := Lib.hid ((HY.out.only ho (by have := HB.out; have := HB3.out; simp; omega)).alloc (.cells #[.int .u64 r1v, .bool r1ok, .int .i64 r1e] 42))
      have HO := Lib.hid ((HO.out.then ho (by have := HB.out; have := HB3.out; simp; omega)).alloc (.cells #[.int .u64 r1v, .bool r1ok, .int .i64 r1e] 42))
      have HQ0 := Lib.hid ((HQ0.out.only ho (by have := HQB0.out; simp; omega)).alloc (.cells #[.int .u64 r1v, .bool r1ok, .int .i64 r1e] 42))
      have HQ1 := Lib.hid ((HQ1.out.only ho (by have := HQB1.out; simp; omega)).alloc (.cells #[.int .u64 r1v, .bool r1ok, .int .i64 r1e] 42))
      have HQ2 := Lib.hid ((HQ2.out.only ho (by have := HQB2.out; simp; omega)).alloc (.cells #[.int .u64 r1v, .bool r1ok, .int .i64 r1e] 42))
      have HQB3 := Lib.hid (show b < w7.heap.size ∧ s < w7.heap.size ∧ b' < w7.heap.size ∧ s' < w7.heap.size by
        have h1 := HM.out.lt
        have h4 := hm.lt
        have h6 := ho.size
        omega)
      have HM := Lib.hid (IsMem.only (HM.out.only ho (by have := HB2.out; simp; omega) (by have := HB2.out; simp; omega)) ((Only.refl [] w7).alloc (.cells #[.int .u64 r1v, .bool r1ok, .int .i64 r1e] 42)) (by simp) (by simp))
      have HN := Lib.hid (IsMem.only hm ((Only.refl [] w7).alloc (.cells #[.int .u64 r1v, .bool r1ok, .int .i64 r1e] 42)) (by simp) (by simp))
      have HQ3 := Lib.hid (Blk.new w7 42 #[.int .u64 r1v, .bool r1ok, .int .i64 r1e])
      clear ho hm
      have p00 := HQ0.out.at 0 (v := .int .u64 r1v) rfl
      have p01 := HQ0.out.at 1 (v := .bool r1ok) rfl
      have p02 := HQ0.out.at 2 (v := .int .i64 r1e) rfl
      have p10 := HQ1.out.at 0 (v := .int .u64 r2v) rfl
      have p11 := HQ1.out.at 1 (v := .bool r2ok) rfl
      have p12 := HQ1.out.at 2 (v := .int .i64 r2e) rfl
      have p20 := HQ2.out.at 0 (v := .int .u64 r2v) rfl
      have p21 := HQ2.out.at 1 (v := .bool r2ok) rfl
      have p22 := HQ2.out.at 2 (v := .int .i64 r2e) rfl
      have p30 := HQ3.out.at 0 (v := .int .u64 r1v) rfl
      have p31 := HQ3.out.at 1 (v := .bool r1ok) rfl
      have p32 := HQ3.out.at 2 (v := .int .i64 r1e) rfl
      go_wp2_with fail
      refine (words_any _ b s m3.L m3.c m3.l 0 8 HM.out).mono ?_
      rintro e w8 ⟨v1, rfl, ho, hv⟩
      have HV1 := Lib.hid (NewWords.isRow hv (Nat.le_trans (cutL_le _ _ _) (by have := HL8.out; omega)))
      have HO := Lib.hid (HO.out.trans ho)
      have HN := Lib.hid (HN.out.only ho (by simp) (by simp))
      clear ho hv
      go_wp2_with fail
      refine (words_any _ b' s' n3.L n3.c n3.l 0 8 HN.out).mono ?_
      rintro e w9 ⟨v2, rfl, ho, hv⟩
      rw [← HE3.out] at hv
      have HV2 := Lib.hid (NewWords.isRow hv (Nat.le_trans (cutL_le _ _ _) (by have := HL8.out; omega)))
      have HV1 := Lib.hid (IsRow.only HV1.out ho (by simp))
      have HO := Lib.hid (HO.out.trans ho)
      clear ho hv
      go_wp2_with fail
      refine (eqw_eq _ _ _ _ HV1.out HV2.out).mono ?_
      rintro e w10 ⟨rfl, ho⟩
      have HO := Lib.hid (HO.out.trans ho)
      clear ho
      go_wp2_with fail
      refine (known03 _).mono ?_
      rintro e w11 ⟨rfl, ho⟩
      have HO := Lib.hid (HO.out.trans ho)
      clear ho
      go_wp2_with fail
      go_ret
      exact ⟨rfl, HO.out⟩
  · have hl1 : (40 : Int) < l.length := by omega
    go_wp2_with fail
    refine (known03 _).mono ?_
    rintro e w2 ⟨rfl, ho⟩
    have HO := Lib.hid (HO.out.trans ho)
    clear ho
    go_wp2_with fail
    go_ret
    exact ⟨rfl, HO.out⟩

end Go.Proofs.Ytnoplfjodedijaa
