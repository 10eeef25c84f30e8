/- The walk of the fixed calls of matryoshkalaw04. -/
import Derived.Test.YtnoplfjodedijaaKnown04
namespace Go.Proofs.Ytnoplfjodedijaa
open Go.RowKit

set_option maxHeartbeats 4000000 in
set_option maxRecDepth 100000 in
theorem known04 (w : World) : Calls Try.prog 32 #[] w fun e w' => e = .returned (.bool true) ∧ Only [] w w' := by
  go_enter Try.func32, Try.ntmps32
  go_wp2_with fail
  refine (new_any _ 8 (by omega) (by omega)).mono ?_
  rintro e w1 ⟨mb, ms, rfl, hb, hs, ho, hm⟩
  have HB := Lib.hid (And.intro hb hs)
  have HO := Lib.hid ((ho.alloc (.cells #[.int .i64 2, .int .i64 2] 66)).alloc (.cells #[.int .u64 7, .int .u64 8] 22))
  have HL := Lib.hid ((Blk.new w1 66 #[.int .i64 2, .int .i64 2]).alloc (.cells #[.int .u64 7, .int .u64 8] 22))
  have HV := Lib.hid (Blk.new' (w1.alloc (.cells #[.int .i64 2, .int .i64 2] 66)) 22 #[.int .u64 7, .int .u64 8] (g := w1.heap.size + 1) (by simp))
  have HM := Lib.hid (IsMem.same hm (((Only.refl [] w1).alloc (.cells #[.int .i64 2, .int .i64 2] 66)).alloc (.cells #[.int .u64 7, .int .u64 8] 22)))
  have HLT := Lib.hid hm.lt
  have HO1 := Lib.hid (show w.heap.size ≤ w1.heap.size from ho.size)
  clear hb hs ho hm
  go_wp2_with fail
  refine (write_some _ 2 (some ⟨w1.heap.size + 1, 0, none⟩) 2 [7, 8] (.inr ⟨w1.heap.size + 1, 0, HV.out.lt, rfl, fun i hi => ?_⟩) (by omega) (by omega) (by simp) (by simp)).mono ?_
  · match i, hi with
    | 0, _ => exact HV.out.at 0 rfl
    | 1, _ => exact HV.out.at 1 rfl
  rintro e w2 ⟨b, vv, cap, rfl, hb, hvv, hne, ho, hw⟩
  have HWB := Lib.hid (show vv ≠ ms ∧ w1.heap.size ≤ b ∧ w1.heap.size ≤ vv from by
    have h1 := HLT.out
    simp at hb hvv
    omega)
  have HO := Lib.hid (HO.out.trans ho)
  have HO2 := Lib.hid (show w.heap.size ≤ w2.heap.size from HO.out.size)
  have HL := Lib.hid (HL.out.only ho (by simp))
  have HM := Lib.hid (HM.out.same ho)
  have HW := Lib.hid hw
  have l0 := HL.out.at 0 (v := .int .i64 2) rfl
  have l1 := HL.out.at 1 (v := .int .i64 2) rfl
  clear hb hvv hne ho hw
  go_wp2_with fail
  refine (read_some _ 2 2 (by omega) (by omega) (by omega) (by omega)).mono ?_
  rintro e w3 ⟨rb, rfl, hrb, ho, hr⟩
  have HO := Lib.hid (HO.out.trans ho)
  have HL := Lib.hid (HL.out.only ho (by simp))
  have HM := Lib.hid (HM.out.same ho)
  have HW := Lib.hid (HW.out.only ho (by simp) (by simp))
  have HR := Lib.hid hr
  have HRB3 := Lib.hid (Nat.le_trans HO2.out hrb)
  clear hrb ho hr l0 l1
  go_wp2_with fail
  go_loopw [6] (fun i wr => ∃ k : Nat, k ≤ 4 ∧ i = .int .i64 k ∧ IsW wr b vv cap (kW k).1 ∧ IsMem wr mb ms (kW k).2 ∧ IsR wr rb (.slice none 0 0) ⟨2, 2, 0, 0, [], 0, false⟩ ∧ Blk wr w1.heap.size 66 #[.int .i64 2, .int .i64 2] ∧ Only [] w wr) (fun i _ => 5 - (intOf i).toNat)
  case atStart => exact ⟨0, by omega, rfl, HW.out, HM.out, HR.out, HL.out, HO.out⟩
  case round =>
    obtain ⟨k, hk, rfl, hw, hm, hr, hl, ho⟩ := hrel
    have HW := Lib.hid hw
    have HM := Lib.hid hm
    have HR := Lib.hid hr
    have HL := Lib.hid hl
    have HO := Lib.hid ho
    clear hw hm hr hl ho
    have hk10 : (k : Int) < 10 := by omega
    go_wp2_with fail
    refine (kw_step _ b vv cap mb ms k (by omega) HW.out HM.out HWB.out.1).mono ?_
    rintro e w4 ⟨rfl, ho, hm, hw⟩
    have HLB := Lib.hid (show w1.heap.size ∉ [b, mb, ms] from fun hx => by
      have h1 := HLT.out
      have h3 : w1.heap.size ≠ b := HL.out.ne HW.out.obj (by decide)
      simp at hx
      omega)
    have HRB := Lib.hid (show rb ∉ [b, mb, ms] from fun hx => by
      have h1 : rb ≠ b := HR.out.obj.ne HW.out.obj (by decide)
      have h2 := rne HR.out HM.out
      simp at hx
      omega)
    have HR := Lib.hid (HR.out.only ho HRB.out (by simp [Value.ownBlock]))
    have HL := Lib.hid (HL.out.only ho HLB.out)
    have HO := Lib.hid (HO.out.then ho (by have h1 := HB.out; have h2 := HWB.out.2.1; have h3 := HO1.out; simp; omega))
    have HM := Lib.hid hm
    have HW := Lib.hid hw
    clear ho hm hw
    by_cases hk4 : k = 4
    · subst hk4
      have HB4 := Lib.hid (show b < w4.heap.size ∧ vv < w4.heap.size ∧ w1.heap.size < w4.heap.size ∧ mb < w4.heap.size ∧ ms < w4.heap.size ∧ w.heap.size ≤ w4.heap.size from by
        obtain ⟨cur, hr, _⟩ := HW.out.row
        have h1 := hr.lt
        have h2 := HW.out.obj.lt
        have h3 := HL.out.lt
        have h4 := HM.out.lt
        have h5 := HO.out.size
        omega)
      go_wp2_with fail
      go_loopw [7] (fun i wr => ∃ (k : Nat) (sl : Value), k ≤ 3 ∧ i = .int .i64 k ∧ IsW wr b vv cap (kW 5).1 ∧ IsMem wr mb ms (kR k).2 ∧ IsR wr rb sl (kR k).1 ∧ Blk wr w1.heap.size 66 #[.int .i64 2, .int .i64 2] ∧ Only [] w wr ∧ w4.heap.size ≤ wr.heap.size ∧ ∀ x, sl.ownBlock = some x → w4.heap.size ≤ x) (fun i _ => 4 - (intOf i).toNat)
      case atStart => exact ⟨0, _, by omega, rfl, HW.out, HM.out, HR.out, HL.out, HO.out, Nat.le_refl _, fun x hx => by cases hx⟩
      case round =>
        obtain ⟨k, sl, hk, rfl, hw, hm, hr, hl, ho, hsz, hx⟩ := hrel
        have HW := Lib.hid hw
        have HM := Lib.hid hm
        have HR := Lib.hid hr
        have HL := Lib.hid hl
        have HO := Lib.hid ho
        have HSZ := Lib.hid hsz
        have HX := Lib.hid hx
        clear hw hm hr hl ho hsz hx
        have hk10 : (k : Int) < 10 := by omega
        go_wp2_with fail
        refine (kr_step _ rb mb ms k sl (by omega) HR.out HM.out (fun x hx e => by have h1 := HX.out x e; have h2 := HB4.out; simp at hx; omega)).mono ?_
        rintro e w6 ⟨sl', rfl, ho, hm, hr, hx⟩
        have hout : ∀ y, y < w4.heap.size → y ≠ rb → y ≠ mb → y ≠ ms → y ∉ rb :: mb :: ms :: sl.ownBlock.toList := fun y h1 h2 h3 h4 hy => by
          simp at hy
          rcases hy with hy | hy | hy | hy
          · exact h2 hy
          · exact h3 hy
          · exact h4 hy
          · have := HX.out y hy
            omega
        have HW := Lib.hid (HW.out.only ho (hout b HB4.out.1 (HW.out.obj.ne HR.out.obj (by decide)) (wne HW.out HM.out HWB.out.1).1 (wne HW.out HM.out HWB.out.1).2.1) (hout vv HB4.out.2.1 (by
          obtain ⟨cur, hrr, _⟩ := HW.out.row
          exact hrr.ne HR.out.obj (by decide)) (wne HW.out HM.out HWB.out.1).2.2.1 HWB.out.1))
        have HL := Lib.hid (HL.out.only ho (hout w1.heap.size HB4.out.2.2.1 (HL.out.ne HR.out.obj (by decide)) (by have := HLT.out; omega) (by have := HLT.out; omega)))
        have HO := Lib.hid (HO.out.then ho (fun y hy => .inr (by
          simp at hy
          rcases hy with hy | hy | hy | hy
          · rw [hy]; exact HRB3.out
          · rw [hy]; exact HB.out.1
          · rw [hy]; exact HB.out.2
          · have h1 := HX.out y hy
            have h2 := HB4.out
            omega)))
        have HX := Lib.hid (show ∀ x, sl'.ownBlock = some x → w4.heap.size ≤ x from fun x hxx => by
          rcases hx x hxx with h | h
          · exact HX.out x h
          · exact Nat.le_trans HSZ.out h)
        have HSZ := Lib.hid (Nat.le_trans HSZ.out ho.size)
        have HM := Lib.hid hm
        have HR := Lib.hid hr
        clear ho hm hr hx hout
        by_cases hk3 : k = 3
        · subst hk3
          go_wp2_with fail
          refine (values_told _ rb sl' (kR 4).1 HR.out (by rw [kR_end.1, kR_end.2.1]; rfl) kR_end.2.2.2.2.1).mono ?_
          rintro e w7 ⟨v, rfl, ho, hv⟩
          rw [kR_end.2.2.1] at hv
          have HV7 := Lib.hid hv
          have HO := Lib.hid (HO.out.trans ho)
          have HL := Lib.hid (HL.out.only ho (by simp))
          have HW := Lib.hid (HW.out.only ho (by simp) (by simp))
          have HR := Lib.hid (HR.out.quiet ho)
          have HM := Lib.hid (HM.out.same ho)
          have HVM := Lib.hid (show mb < w6.heap.size ∧ ms < w6.heap.size from by have h1 := HB4.out; have h2 := HSZ.out; omega)
          clear ho hv
          go_wp2_with fail
          refine (load_any _ mb ms _ 2 HM.out).mono ?_
          rintro e w8 ⟨rfl, ho, hm⟩
          rw [kR_load.1, kR_load.2]
          have HV7 := Lib.hid (row_only HV7.out ho (by have := HVM.out; simp; omega))
          have HL := Lib.hid (HL.out.only ho (by have := HLT.out; simp; omega))
          have HW := Lib.hid (HW.out.only ho (by have := wne HW.out HM.out HWB.out.1; simp; omega) (by have := wne HW.out HM.out HWB.out.1; simp; omega))
          have HR := Lib.hid (HR.out.only ho (by have := rne HR.out HM.out; simp; omega) (fun x hx e => by have h1 := HX.out x e; have h2 := HB4.out; simp at hx; omega))
          have HO := Lib.hid (HO.out.then ho (by have h1 := HB.out; simp; omega))
          have HV := Lib.hid (IsRow.ofOwn HV7.out (by simp))
          clear ho hm
          have HQ := Lib.hid (Blk.new' (w8.alloc (.cells #[.int .i64 2, .int .i64 0] 66)) 22 #[.int .u64 7, .int .u64 8] (g := w8.heap.size + 1) (by simp))
          have HBD := Lib.hid ((Blk.new w8 66 #[.int .i64 2, .int .i64 0]).alloc (.cells #[.int .u64 7, .int .u64 8] 22))
          have oq := ((Only.refl [] w8).alloc (.cells #[.int .i64 2, .int .i64 0] 66)).alloc (.cells #[.int .u64 7, .int .u64 8] 22)
          have HV := Lib.hid (IsRow.only HV.out oq (by simp))
          have HL := Lib.hid (HL.out.only oq (by simp))
          have HW := Lib.hid (HW.out.only oq (by simp) (by simp))
          have HR := Lib.hid (HR.out.quiet oq)
          have HO := Lib.hid (HO.out.trans oq)
          clear oq
          go_wp2_with fail
          refine (eqw_any _ v _ [7, 8] [7, 8] HV.out (IsRow.of_blk HQ.out rfl 2 rfl (by simp))).mono ?_
          rintro e w9 ⟨rfl, ho⟩
          rw [show (decide (([7, 8] : List Int) = [7, 8])) = true from rfl]
          have HL := Lib.hid (HL.out.only ho (by simp))
          have HW := Lib.hid (HW.out.only ho (by simp) (by simp))
          have HR := Lib.hid (HR.out.quiet ho)
          have HO := Lib.hid (HO.out.trans ho)
          have HBD := Lib.hid (HBD.out.only ho (by simp))
          clear ho
          have ct := HW.out.obj.at 2 (v := .int .i64 5) (by rw [← kW_end.1]; rfl)
          have cr := HR.out.obj.at 6 (v := .int .i64 1) (by rw [← kR_end.2.2.2.1]; rfl)
          go_wp2_with fail
          refine (turn_at _ b 5 ct).mono ?_
          rintro e w10 ⟨rfl, rfl⟩
          go_wp2_with fail
          refine (tries_at _ rb 1 cr).mono ?_
          rintro e w10 ⟨rfl, rfl⟩
          go_wp2_with fail
          refine (wnext_any _ b vv cap _ HW.out).mono ?_
          rintro e w10 ⟨rfl, ho⟩
          rw [kW_next]
          have HL := Lib.hid (HL.out.only ho (by simp))
          have HO := Lib.hid (HO.out.trans ho)
          have HBD := Lib.hid (HBD.out.only ho (by simp))
          have b0 := HBD.out.at 0 (v := .int .i64 2) rfl
          have b1 := HBD.out.at 1 (v := .int .i64 0) rfl
          clear ho ct cr
          unfold Act'.val
          go_wp2_with fail
          refine (read_none _ 2 0 (by omega)).mono ?_
          rintro e w11 ⟨rfl, ho⟩
          have HL := Lib.hid (HL.out.only ho (by simp))
          have HO := Lib.hid (HO.out.trans ho)
          have l0 := HL.out.at 0 (v := .int .i64 2) rfl
          have l1 := HL.out.at 1 (v := .int .i64 2) rfl
          clear ho b0 b1
          go_wp2_with fail
          refine (write_len _ 2 2 none 0 0 (by omega) (by omega) (by omega) (by omega) (by omega)).mono ?_
          rintro e w12 ⟨rfl, ho⟩
          have HO := Lib.hid (HO.out.trans ho)
          clear ho l0 l1
          go_wp2_with fail
          go_ret
          exact ⟨rfl, HO.out⟩
        · rw [decide_eq_false hk3]
          go_wp2_with fail
          exact ⟨⟨k + 1, sl', by omega, rfl, HW.out, HM.out, HR.out, HL.out, HO.out, HSZ.out, HX.out⟩, by simp [intOf]; omega⟩
    · rw [decide_eq_false hk4]
      go_wp2_with fail
      exact ⟨⟨k + 1, by omega, rfl, HW.out, HM.out, HR.out, HL.out, HO.out⟩, by simp [intOf]; omega⟩

end Go.Proofs.Ytnoplfjodedijaa
