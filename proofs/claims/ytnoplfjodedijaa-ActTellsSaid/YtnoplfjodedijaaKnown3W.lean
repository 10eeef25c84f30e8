/- The walk of the fixed calls of matryoshkalaw03. -/
import Derived.Test.YtnoplfjodedijaaKnown03
namespace Go.Proofs.Ytnoplfjodedijaa
open Go.RowKit

set_option maxHeartbeats 4000000 in
set_option maxRecDepth 100000 in
theorem known03 (w : World) : Calls Try.prog 13 #[] w fun e w' => e = .returned (.bool true) ∧ Only [] w w' := by
  go_enter Try.func13, Try.ntmps13
  go_wp2_with fail
  refine (new_any _ 4 (by omega) (by omega)).mono ?_
  rintro e w1 ⟨b, s, rfl, hb, hs, ho, hm⟩
  have HB := Lib.hid (And.intro hb hs)
  have HO := Lib.hid ((((ho.alloc (.cells stCells 24)).alloc (.cells ldCells 24)).alloc (.cells kCells 24)))
  have HM := Lib.hid hm
  have HS := Lib.hid (((Blk.new w1 24 stCells).alloc (.cells ldCells 24)).alloc (.cells kCells 24))
  have HL := Lib.hid ((Blk.new' (w1.alloc (.cells stCells 24)) 24 ldCells (g := w1.heap.size + 1) (by simp)).alloc (.cells kCells 24))
  have HK := Lib.hid (Blk.new' ((w1.alloc (.cells stCells 24)).alloc (.cells ldCells 24)) 24 kCells (g := w1.heap.size + 2) (by simp))
  have HM := Lib.hid (HM.out.only ((((Only.refl [] w1).alloc (.cells stCells 24)).alloc (.cells ldCells 24)).alloc (.cells kCells 24)) (by simp) (by simp))
  have hlt := hm.lt
  clear hb hs ho hm
  go_wp2_with fail
  refine (run_any _ b s (MS.new 4) (some ⟨w1.heap.size + 2, 0, none⟩) 4 kActs HM.out (reads_k HK.out) (fun _ g o e => by injection e with e; injection e with e1; subst e1; simp; omega) (by simp [kActs])).mono ?_
  rintro e w2 ⟨v, rfl, ho, hm, hown⟩
  have HO := Lib.hid (HO.out.then ho (by simp; exact HB.out))
  have hS := HS.out.only ho (by simp; omega)
  have hL := HL.out.only ho (by simp; omega)
  rw [k_run] at hown
  obtain ⟨g, cap, cur, rfl, hg, hrow, hcur⟩ := row_cells hown (by decide)
  have hr0 := hcur 0 (by decide)
  have hr1 := hcur 1 (by decide)
  have hr2 := hcur 2 (by decide)
  have hr3 := hcur 3 (by decide)
  have hr7 := hcur 7 (by decide)
  have hr11 := hcur 11 (by decide)
  have HC := Lib.hid (And.intro hr0 (And.intro hr1 (And.intro hr2 (And.intro hr3 (And.intro hr7 hr11)))))
  have HS := Lib.hid hS
  have HL := Lib.hid hL
  have HRW := Lib.hid hrow
  clear hr0 hr1 hr2 hr3 hr7 hr11 hS hL hrow hcur hown ho hm hg hlt
  go_wp2_with fail
  refine (parse_cas _).mono ?_
  rintro e w3 ⟨rfl, ho⟩
  have HS := Lib.hid (HS.out.only ho (by simp))
  have HL := Lib.hid (HL.out.only ho (by simp))
  have HRW := Lib.hid (HRW.out.only ho (by simp))
  have HP := Lib.hid (Blk.new w3 24 casCells)
  have HO := Lib.hid ((HO.out.trans ho).alloc (.cells casCells 24))
  clear ho
  go_wp2_with fail
  refine (parse_not _).mono ?_
  rintro e w4 ⟨rfl, ho⟩
  have HS := Lib.hid (((HS.out.alloc _).only ho (by simp)).alloc (.cells #[.int .i64 0, .int .i64 0, .int .u64 0, .int .u64 0] 24))
  have HL := Lib.hid (((HL.out.alloc _).only ho (by simp)).alloc (.cells #[.int .i64 0, .int .i64 0, .int .u64 0, .int .u64 0] 24))
  have HRW := Lib.hid (((HRW.out.alloc _).only ho (by simp)).alloc (.cells #[.int .i64 0, .int .i64 0, .int .u64 0, .int .u64 0] 24))
  have HP := Lib.hid ((HP.out.only ho (by simp)).alloc (.cells #[.int .i64 0, .int .i64 0, .int .u64 0, .int .u64 0] 24))
  have HO := Lib.hid ((HO.out.trans ho).alloc (.cells #[.int .i64 0, .int .i64 0, .int .u64 0, .int .u64 0] 24))
  have c0 := HRW.out.at 0 HC.out.1
  have c1 := HRW.out.at 1 HC.out.2.1
  have c2 := HRW.out.at 2 HC.out.2.2.1
  have c3 := HRW.out.at 3 HC.out.2.2.2.1
  have c7 := HRW.out.at 7 HC.out.2.2.2.2.1
  have c11 := HRW.out.at 11 HC.out.2.2.2.2.2
  have p0 := HP.out.at 0 (v := .int .i64 3) rfl
  have p1 := HP.out.at 1 (v := .int .i64 3) rfl
  have p2 := HP.out.at 2 (v := .int .u64 1) rfl
  have p3 := HP.out.at 3 (v := .int .u64 2) rfl
  clear ho
  go_wp2_with fail
  refine (show_cas _).mono ?_
  rintro e w5 ⟨rfl, ho⟩
  have HO := Lib.hid (HO.out.trans ho)
  have HS := Lib.hid (HS.out.only ho (by simp))
  have HL := Lib.hid (HL.out.only ho (by simp))
  have s0 := HS.out.at 0 (v := .int .i64 2) rfl
  have s1 := HS.out.at 1 (v := .int .i64 1) rfl
  have s2 := HS.out.at 2 (v := .int .u64 5) rfl
  have s3 := HS.out.at 3 (v := .int .u64 0) rfl
  have l0 := HL.out.at 0 (v := .int .i64 1) rfl
  have l1 := HL.out.at 1 (v := .int .i64 1) rfl
  have l2 := HL.out.at 2 (v := .int .u64 0) rfl
  have l3 := HL.out.at 3 (v := .int .u64 0) rfl
  clear ho
  clear c0 c1 c2 c3 c7 c11 p0 p1 p2 p3
  go_wp2_with fail
  refine (lays_any _ 2 1 5 0).mono ?_
  rintro e w6 ⟨rfl, ho⟩
  rw [show (decide (2 ≤ (2 : Int) ∧ (2 : Int) ≤ 4)) = true from rfl]
  have HO := Lib.hid (HO.out.trans ho)
  have HS := Lib.hid (HS.out.only ho (by simp))
  have HL := Lib.hid (HL.out.only ho (by simp))
  have s0 := HS.out.at 0 (v := .int .i64 2) rfl
  have s1 := HS.out.at 1 (v := .int .i64 1) rfl
  have s2 := HS.out.at 2 (v := .int .u64 5) rfl
  have s3 := HS.out.at 3 (v := .int .u64 0) rfl
  have l0 := HL.out.at 0 (v := .int .i64 1) rfl
  have l1 := HL.out.at 1 (v := .int .i64 1) rfl
  have l2 := HL.out.at 2 (v := .int .u64 0) rfl
  have l3 := HL.out.at 3 (v := .int .u64 0) rfl
  clear ho
  go_wp2_with fail
  refine (lays_any _ 1 1 0 0).mono ?_
  rintro e w7 ⟨rfl, ho⟩
  rw [show (decide (2 ≤ (1 : Int) ∧ (1 : Int) ≤ 4)) = false from rfl]
  have HO := Lib.hid (HO.out.trans ho)
  have HS := Lib.hid (HS.out.only ho (by simp))
  have HL := Lib.hid (HL.out.only ho (by simp))
  have s0 := HS.out.at 0 (v := .int .i64 2) rfl
  have s1 := HS.out.at 1 (v := .int .i64 1) rfl
  have s2 := HS.out.at 2 (v := .int .u64 5) rfl
  have s3 := HS.out.at 3 (v := .int .u64 0) rfl
  have l0 := HL.out.at 0 (v := .int .i64 1) rfl
  have l1 := HL.out.at 1 (v := .int .i64 1) rfl
  have l2 := HL.out.at 2 (v := .int .u64 0) rfl
  have l3 := HL.out.at 3 (v := .int .u64 0) rfl
  clear ho
  go_wp2_with fail
  refine (meets_any _ 1 1 0 0 2 1 5 0).mono ?_
  rintro e w8 ⟨rfl, ho⟩
  rw [show meets 1 1 2 1 = true from rfl]
  have HO := Lib.hid (HO.out.trans ho)
  have HS := Lib.hid (HS.out.only ho (by simp))
  have HL := Lib.hid (HL.out.only ho (by simp))
  have s0 := HS.out.at 0 (v := .int .i64 2) rfl
  have s1 := HS.out.at 1 (v := .int .i64 1) rfl
  have s2 := HS.out.at 2 (v := .int .u64 5) rfl
  have s3 := HS.out.at 3 (v := .int .u64 0) rfl
  have l0 := HL.out.at 0 (v := .int .i64 1) rfl
  have l1 := HL.out.at 1 (v := .int .i64 1) rfl
  have l2 := HL.out.at 2 (v := .int .u64 0) rfl
  have l3 := HL.out.at 3 (v := .int .u64 0) rfl
  clear ho
  go_wp2_with fail
  refine (meets_any _ 1 1 0 0 1 1 0 0).mono ?_
  rintro e w9 ⟨rfl, ho⟩
  rw [show meets 1 1 1 1 = false from rfl]
  have HO := Lib.hid (HO.out.trans ho)
  have HS := Lib.hid (HS.out.only ho (by simp))
  have HL := Lib.hid (HL.out.only ho (by simp))
  have s0 := HS.out.at 0 (v := .int .i64 2) rfl
  have s1 := HS.out.at 1 (v := .int .i64 1) rfl
  have s2 := HS.out.at 2 (v := .int .u64 5) rfl
  have s3 := HS.out.at 3 (v := .int .u64 0) rfl
  have l0 := HL.out.at 0 (v := .int .i64 1) rfl
  have l1 := HL.out.at 1 (v := .int .i64 1) rfl
  have l2 := HL.out.at 2 (v := .int .u64 0) rfl
  have l3 := HL.out.at 3 (v := .int .u64 0) rfl
  clear ho
  go_wp2_with fail
  refine (show_zero _).mono ?_
  rintro e w10 ⟨rfl, ho⟩
  have HO := Lib.hid (HO.out.trans ho)
  have HS := Lib.hid (HS.out.only ho (by simp))
  have HL := Lib.hid (HL.out.only ho (by simp))
  have s0 := HS.out.at 0 (v := .int .i64 2) rfl
  have s1 := HS.out.at 1 (v := .int .i64 1) rfl
  have s2 := HS.out.at 2 (v := .int .u64 5) rfl
  have s3 := HS.out.at 3 (v := .int .u64 0) rfl
  have l0 := HL.out.at 0 (v := .int .i64 1) rfl
  have l1 := HL.out.at 1 (v := .int .i64 1) rfl
  have l2 := HL.out.at 2 (v := .int .u64 0) rfl
  have l3 := HL.out.at 3 (v := .int .u64 0) rfl
  clear ho
  go_wp2_with fail
  go_ret
  exact ⟨rfl, HO.out⟩

end Go.Proofs.Ytnoplfjodedijaa
