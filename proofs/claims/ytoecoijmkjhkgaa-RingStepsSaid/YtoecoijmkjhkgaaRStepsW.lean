/- The walk of law RingSteps. Written by rstepsg.py. -/
import Derived.Test.YtoecoijmkjhkgaaRStepsD
namespace Go.Proofs.Ytoecoijmkjhkgaa
open Go.RowKit

set_option maxHeartbeats 8000000 in
set_option maxRecDepth 100000 in
theorem ringsteps_walk (w : World) (a s pp wd : Int) (A2 : Option Addr) (l2 : List Int) (cap2 : Nat) (A4 : Option Addr) (l : List Int) (cap4 : Nat) (a0 : 0 ≤ a) (a1 : a ≤ 255) (s0 : 0 ≤ s) (s1 : s ≤ 255) (p0' : 0 ≤ pp) (p1' : pp ≤ 255) (d0 : 0 ≤ wd) (d1' : wd ≤ 255) (hr2 : Reads w A2 l2) (hwf : ∀ x ∈ l2, 0 ≤ x ∧ x < 18446744073709551616) (hr4 : ReadsB w A4 l) (hby : ∀ i, i < l.length → 0 ≤ nth l i ∧ nth l i ≤ 255) :
    Calls Try.prog 13 #[.agg #[.int .u8 a, .int .u8 s, .slice A2 l2.length cap2, .int .u8 pp, .slice A4 l.length cap4, .int .u8 wd]] w fun e w' => e = .returned (.bool true) ∧ Only [] w w' := by
  obtain ⟨n, rfl⟩ : ∃ n : Nat, s = n := ⟨s.toNat, by omega⟩
  obtain ⟨i0, hi, hz0, hz1, hz2⟩ := info_parts Try.infoPu
  have HI0 := Lib.hid (And.intro hi (And.intro hz0 (And.intro hz1 hz2)))
  clear hi hz0 hz1 hz2
  obtain ⟨i1, hi, hz0, hz1, hz2⟩ := info_parts Try.infoPo
  have HI1 := Lib.hid (And.intro hi (And.intro hz0 (And.intro hz1 hz2)))
  clear hi hz0 hz1 hz2
  obtain ⟨i2, hi, hz0, hz1, hz2⟩ := info_parts Try.infoUser
  have HI2 := Lib.hid (And.intro hi (And.intro hz0 (And.intro hz1 hz2)))
  clear hi hz0 hz1 hz2
  have HB := Lib.hid (Blk.new w 25 #[.int .u8 a, .int .u8 n, .slice A2 l2.length cap2, .int .u8 pp, .slice A4 l.length cap4, .int .u8 wd])
  have HO := Lib.hid ((Only.refl [] w).alloc (.cells #[.int .u8 a, .int .u8 n, .slice A2 l2.length cap2, .int .u8 pp, .slice A4 l.length cap4, .int .u8 wd] 25))
  have HR2 := Lib.hid hr2
  have HWF := Lib.hid hwf
  have HR4 := Lib.hid hr4
  have HBY := Lib.hid hby
  clear hr4 hby hr2 hwf
  obtain ⟨W, hW⟩ : ∃ W : Nat, 1 + wd = (W : Int) := ⟨(1 + wd).toNat, by omega⟩
  have W1 : 1 ≤ W := by omega
  have W2 : W ≤ 256 := by omega
  obtain ⟨M0, hM0⟩ : ∃ M0 : Nat, pp % 12 = (M0 : Int) := ⟨(pp % 12).toNat, by omega⟩
  have hM12 : M0 ≤ 12 := by omega
  go_enter Try.func13, Try.ntmps13
  have c2 := HB.out.at 2 (v := .slice A2 l2.length cap2) rfl
  have c4 := HB.out.at 4 (v := .slice A4 l.length cap4) rfl
  by_cases hn2 : 12 < l2.length
  · have hn2i : (12 : Int) < l2.length := by omega
    go_wp2_with fail
    refine (known06 _).mono ?_
    rintro e w2 ⟨rfl, ho⟩
    have HO := Lib.hid (HO.out.trans ho)
    clear ho
    go_wp2_with fail
    go_ret
    exact ⟨rfl, HO.out⟩
  have hn2i : ¬ (12 : Int) < l2.length := by omega
  by_cases hl4 : 400 < l.length
  · have hl4i : (400 : Int) < l.length := by omega
    go_wp2_with fail
    refine (known06 _).mono ?_
    rintro e w2 ⟨rfl, ho⟩
    have HO := Lib.hid (HO.out.trans ho)
    clear ho
    go_wp2_with fail
    go_ret
    exact ⟨rfl, HO.out⟩
  have hl4i : ¬ (400 : Int) < l.length := by omega
  have hn2 : l2.length ≤ 12 := by omega
  have hl4 : l.length ≤ 400 := by omega
  have c5 := HB.out.at 5 (v := .int .u8 wd) rfl
  go_wp2_with fail
  refine (new_any _ W (by omega) (by omega)).mono ?_
  rintro e w1 ⟨mb, ms, rfl, hmb, hms, ho, hm⟩
  rw [Int.toNat_natCast] at hm
  have HN := Lib.hid (And.intro hmb (And.intro hms hm.lt))
  have HO := Lib.hid (HO.out.trans ho)
  have HB := Lib.hid (HB.out.only ho (by simp))
  have HM := Lib.hid hm
  clear hmb hms ho hm c2 c4 c5
  go_wp2_with fail
  refine (ref_new_in _ W (by omega) (by omega)).mono ?_
  rintro e w2 ⟨rb, rs, rfl, hrb, hrs, ho, hm⟩
  rw [Int.toNat_natCast] at hm
  have HN := Lib.hid (show (w.heap.size ≤ mb ∧ w.heap.size ≤ ms) ∧ w.heap.size ≤ rb ∧ w.heap.size ≤ rs ∧ ms ≠ rs from by
    have h1 := HO.out.size
    have h2 := HN.out
    simp at h2
    omega)
  have HB := Lib.hid (HB.out.only ho (by simp))
  have c0 := HB.out.at 0 (v := .int .u8 a) rfl
  have c1 := HB.out.at 1 (v := .int .u8 n) rfl
  have HX := Lib.hid ((Only.refl [] w2).alloc (.cells #[.int .i64 a, .int .i64 n] 32))
  have HO := Lib.hid ((HO.out.trans ho).trans HX.out)
  have HB := Lib.hid (HB.out.only HX.out (by simp))
  have HM := Lib.hid ((HM.out.only ho (by simp) (by simp)).same' HX.out)
  have HRF : Hid (IsRef (w2.alloc (.cells #[.int .i64 a, .int .i64 n] 32)) rb rs (MS.new W)) := Lib.hid (IsRef.only hm HX.out (by simp) (by simp))
  have HL := Lib.hid (Blk.new w2 32 #[.int .i64 a, .int .i64 n])
  obtain ⟨lb, hlb⟩ : ∃ lb, w2.heap.size = lb := ⟨_, rfl⟩
  rw [hlb] at HL
  obtain ⟨w3, hw3⟩ : ∃ w3, w2.alloc (.cells #[.int .i64 a, .int .i64 n] 32) = w3 := ⟨_, rfl⟩
  rw [hw3] at HO HB HM HRF HL
  have HW3 := Lib.hid (And.intro hlb hw3)
  have HRC : Hid (RtSt w w3 mb ms lb rb rs a n #[.int .u8 a, .int .u8 n, .slice A2 l2.length cap2, .int .u8 pp, .slice A4 l.length cap4, .int .u8 wd] (MS.new W) (MS.new W) (.slice none 0 0) 0 (fun _ => 0) (fun _ => ⟨0, 0, 0, 0, false, 0⟩) (.slice none 0 0) 0 (fun _ => 0) (fun _ => ⟨0, 0, 0, 0, false, 0⟩) (.slice none 0 0) 0 (fun _ => 0) (fun _ => (false, ⟨0, 0, 0, 0, false, 0⟩))) := by
    have h1 := HN.out
    exact Lib.hid ⟨⟨HO.out, h1.1, HM.out, new_rng W, HL.out, HB.out, .nil _ _ _ _ _ _, .nil _ _ _ _ _ _⟩, HRF.out, h1.2, .nil _ _ _ _ _ _⟩
  clear ho hm hrb hrs HX HO HB HM HRF HL HN hlb hw3
  have HF0 : Hid (∀ wx, Base6 w wx lb a n #[.int .u8 a, .int .u8 n, .slice A2 l2.length cap2, .int .u8 pp, .slice A4 l.length cap4, .int .u8 wd] → wx.cell? ⟨w.heap.size, 0, none⟩ = some (.int .u8 a) ∧ wx.cell? ⟨w.heap.size, 1, none⟩ = some (.int .u8 n) ∧ wx.cell? ⟨lb, 0, none⟩ = some (.int .i64 a) ∧ wx.cell? ⟨lb, 1, none⟩ = some (.int .i64 n)) := Lib.hid fun wx h => ⟨h.case_.at 0 rfl, h.case_.at 1 rfl, h.lock.at 0 rfl, h.lock.at 1 rfl⟩
  have wa : IntKind.i64.wrap a = a := wrap_i64 _ (by omega) (by omega)
  have wn : IntKind.i64.wrap (n : Int) = n := wrap_i64 _ (by omega) (by omega)
  go_upto_region 9 with fail
  obtain ⟨hlb, hw3⟩ := HW3.out
  rw [hw3, hlb]
  clear hlb hw3 HW3 c0 c1
  have HRC := Lib.hid (HRC.out.quiet (Only.refl [] w3).drew)
  have HE := Lib.hid HRC.out.base
  by_cases hrt : ringRight a n
  · have HRI := Lib.hid hrt
    have ha2 := hrt.2.1
    have ha3 := hrt.2.2
    obtain ⟨m0, er, hlay⟩ : ∃ m0 er, (MS.new W).lay a (initL n) = (m0, er) := ⟨_, _, rfl⟩
    have HLAY := Lib.hid hlay
    clear hlay hrt
    go_region_held3 (fun w' => w'.cell? ⟨w.heap.size, 0, none⟩ = some (.int .u8 a) ∧ w'.cell? ⟨w.heap.size, 1, none⟩ = some (.int .u8 n) ∧ w'.cell? ⟨lb, 0, none⟩ = some (.int .i64 a) ∧ w'.cell? ⟨lb, 1, none⟩ = some (.int .i64 n))
      (first | exact HF0.out _ HE.out)
      (first
        | (go_at_call 16; refine (HRC.out.init HRI.out HLAY.out).mono ?_; rintro e w5 ⟨rfl, hx⟩; have HRC := Lib.hid hx; have HE := Lib.hid hx.base; clear hx)
        | (go_at_call 46; refine (HRC.out.uinit HRI.out HLAY.out).mono ?_; rintro e w6 ⟨rfl, hx⟩; have HRC := Lib.hid hx; have HE := Lib.hid hx.base; clear hx))
    obtain ⟨c0, c1, b0, b1⟩ := HF0.out _ HE.out
    go_wp2_with fail
    refine (u_right _ a n).mono ?_
    rintro e w7 ⟨rfl, rfl⟩
    rw [decide_eq_true HRI.out]
    have HLEN : Hid (m0.L.length = W) := Lib.hid (by
      have h := (lay_keeps (initL n) (MS.new W) a (new_rng W) (initL_mem n (by omega))).1
      rw [HLAY.out] at h
      simpa [MS.new] using h)
    clear c0 c1 b0 b1 HE HF0
    go_wp2_with fail
    go_loopw [9, 11, 12] (fun v u i wr => ∃ (k : Nat) (B : Nat → Nat) (P : Nat → RQ) (BU : Nat → Nat) (U : Nat → Bool × RQ), k ≤ l2.length ∧ i = .int .i64 k ∧ RtSt w wr mb ms lb rb rs a n #[.int .u8 a, .int .u8 n, .slice A2 l2.length cap2, .int .u8 pp, .slice A4 l.length cap4, .int .u8 wd] m0 m0 v k B P (.slice none 0 0) 0 (fun _ => 0) (fun _ => ⟨0, 0, 0, 0, false, 0⟩) u k BU U ∧ Same k 0 P (fun _ => ⟨0, 0, 0, 0, false, 0⟩) U) (fun _ _ i _ => l2.length - (intOf i).toNat)
    case atStart => exact ⟨0, _, _, _, _, by omega, rfl, HRC.out, fun j hj => absurd hj (by omega), fun j hj => absurd hj (by omega)⟩
    case round =>
      clear HRC
      obtain ⟨wo, hwo⟩ : ∃ wo, wo = wr := ⟨_, rfl⟩
      subst hwo
      obtain ⟨k, B, P, BU, U, hk, rfl, hst, hsm⟩ := hrel
      have HS := Lib.hid hst
      have HSM := Lib.hid hsm
      have c2 := hst.ro.case_.at 2 (v := .slice A2 l2.length cap2) rfl
      clear hst hsm
      by_cases hlt : k < l2.length
      · have hlti : (k : Int) < l2.length := by omega
        obtain ⟨g2, o2, hg2, rfl, hc2⟩ := HR2.out.at hlt
        have HG2 := Lib.hid (And.intro hg2 (hc2 k hlt))
        have hvr := HWF.out (nth l2 k) (by simp [nth, hlt])
        obtain ⟨x, hx⟩ : ∃ x, nth l2 k = x := ⟨_, rfl⟩
        rw [hx] at hvr HG2
        have HVR := Lib.hid hvr
        have HF : Hid (∀ wx, Base6 w wx lb a n #[.int .u8 a, .int .u8 n, .slice (some ⟨g2, o2, none⟩) l2.length cap2, .int .u8 pp, .slice A4 l.length cap4, .int .u8 wd] → wx.cell? ⟨w.heap.size, 0, none⟩ = some (.int .u8 a) ∧ wx.cell? ⟨w.heap.size, 1, none⟩ = some (.int .u8 n) ∧ wx.cell? ⟨w.heap.size, 2, none⟩ = some (.slice (some ⟨g2, o2, none⟩) l2.length cap2) ∧ wx.cell? ⟨lb, 0, none⟩ = some (.int .i64 a) ∧ wx.cell? ⟨lb, 1, none⟩ = some (.int .i64 n) ∧ wx.cell? ⟨g2, o2 + k, none⟩ = some (.int .u64 x)) := Lib.hid fun wx h => ⟨h.case_.at 0 rfl, h.case_.at 1 rfl, h.case_.at 2 rfl, h.lock.at 0 rfl, h.lock.at 1 rfl, (h.out.cell (p := ⟨g2, o2 + k, none⟩) HG2.out.1 (by simp)).trans HG2.out.2⟩
        have HE := Lib.hid (HS.out.base.quiet (Only.refl [] _).drew)
        clear hg2 hc2 hvr hx
        go_upto_region 19 with fail
        have HSD := Lib.hid (HS.out.quiet (Only.refl [] _).drew)
        go_region_held3 (fun w' => w'.cell? ⟨w.heap.size, 0, none⟩ = some (.int .u8 a) ∧ w'.cell? ⟨w.heap.size, 1, none⟩ = some (.int .u8 n) ∧ w'.cell? ⟨w.heap.size, 2, none⟩ = some (.slice (some ⟨g2, o2, none⟩) l2.length cap2) ∧ w'.cell? ⟨lb, 0, none⟩ = some (.int .i64 a) ∧ w'.cell? ⟨lb, 1, none⟩ = some (.int .i64 n) ∧ w'.cell? ⟨g2, o2 + k, none⟩ = some (.int .u64 x))
          (first | exact HF.out _ HE.out | exact HF.out _ (HE.out.quiet ((Only.refl [] _).alloc _)))
          (first
            | (go_at_call 17; refine (push_some _ a x n HRI.out HVR.out.1 HVR.out.2).mono ?_; rintro e w3' ⟨b, rfl, hb, ho, hw⟩; have HNB := Lib.hid hb; have HO3 := Lib.hid ho; have HW := Lib.hid hw; have HE := Lib.hid (HE.out.quiet ho); clear hb ho hw)
            | (refine step_append_own rfl (.tmp 100) (.tmp 108) 34 rfl w.heap.size 36 i0 (.pointer none) 1 8 Try.underlying34 HI0.out.1 HI0.out.2.1 HI0.out.2.2.1 HI0.out.2.2.2 rfl (by decide) _ k _ rfl (row_based (row_rest HSD.out.ro.mp.row (HO3.out.alloc (.cells #[.pointer (some ⟨b, 0, none⟩)] 36)) (by simp)) HSD.out.ro.mp.los) ⟨w3'.heap.size, 0, none⟩ 1 1 [.pointer (some ⟨b, 0, none⟩)] rfl rfl (one_new _ _ _) (by intro u hu; simp at hu; subst hu; rfl) (by unfold maxLen; omega) (by omega) (by have := HSD.out.ro.out.size; have := HO3.out.size; simp; omega) ?_
               intro v' w4 hown hg
               have HSE := Lib.hid (HSD.out.addp (HO3.out.alloc (.cells #[.pointer (some ⟨b, 0, none⟩)] 36)) (IsQ.quiet HW.out ((Only.refl [] w3').alloc _)) HNB.out hown hg)
               have HE := Lib.hid HSE.out.base
               clear hown hg))
        go_upto_region 20 with fail
        have HSX := Lib.hid (HSE.out.quiet (Only.refl [] _).drew)
        have HE := Lib.hid HSX.out.base
        clear HSD HSE HO3 HW HNB
        go_region_held3 (fun w' => w'.cell? ⟨w.heap.size, 0, none⟩ = some (.int .u8 a) ∧ w'.cell? ⟨w.heap.size, 1, none⟩ = some (.int .u8 n) ∧ w'.cell? ⟨w.heap.size, 2, none⟩ = some (.slice (some ⟨g2, o2, none⟩) l2.length cap2) ∧ w'.cell? ⟨lb, 0, none⟩ = some (.int .i64 a) ∧ w'.cell? ⟨lb, 1, none⟩ = some (.int .i64 n) ∧ w'.cell? ⟨g2, o2 + k, none⟩ = some (.int .u64 x))
          (first | exact HF.out _ HE.out | exact HF.out _ (HE.out.quiet ((Only.refl [] _).alloc _)) | exact HF.out _ (HE.out.quiet (((Only.refl [] _).alloc _).alloc _)))
          (first
            | (refine step_append_own rfl (.tmp 110) (.tmp 124) 95 rfl w.heap.size 96 i2 (.pointer none) 1 8 Try.underlying95 HI2.out.1 HI2.out.2.1 HI2.out.2.2.1 HI2.out.2.2.2 rfl (by decide) _ k _ rfl (row_based (row_rest HSX.out.mu.row (((Only.refl [] _).alloc (.cells (uCells a n false x 0 0 false false) 98)).alloc (.cells #[.pointer (some ⟨w4.heap.size, 0, none⟩)] 96)) (by simp)) HSX.out.mu.los) ⟨w4.heap.size + 1, 0, none⟩ 1 1 [.pointer (some ⟨w4.heap.size, 0, none⟩)] rfl rfl (by intro j u hj; match j, hj with | 0, hj => simp at hj; subst hj; simp [Addr.add]) (by intro u hu; simp at hu; subst hu; rfl) (by unfold maxLen; omega) (by omega) (by have := HSX.out.ro.out.size; simp at this ⊢; omega) ?_
               intro v'' w5 hown hg
               have HSF := Lib.hid (HSX.out.addu (((Only.refl [] _).alloc (.cells (uCells a n false x 0 0 false false) 98)).alloc (.cells #[.pointer (some ⟨w4.heap.size, 0, none⟩)] 96)) (b := w4.heap.size) (new_user (p := false) (v := x) ((Blk.new w4.drew 98 (uCells a n false x 0 0 false false)).alloc _) HRI.out HVR.out.1 HVR.out.2) (by simp) hown hg)
               have HE := Lib.hid HSF.out.base
               clear hown hg))
        have HSM := Lib.hid (HSM.out.addP ⟨a, n, 0, 0, false, x⟩)
        clear HSX HE HF HG2 HVR
        go_wp2_with fail
        exact ⟨⟨k + 1, _, _, _, _, by omega, by go_num, HSF.out, HSM.out⟩, by simp [intOf]; omega⟩
      · have hlti : ¬ (k : Int) < l2.length := by omega
        obtain rfl : k = l2.length := by omega
        clear c2
        obtain ⟨A, cap, rfl⟩ := HS.out.ro.mp.form
        have c2 := HS.out.ro.case_.at 2 (v := .slice A2 l2.length cap2) rfl
        go_wp2_with fail
        go_loopw [10, 11, 13] (fun v u i wr => ∃ (k : Nat) (BG : Nat → Nat) (G : Nat → RQ) (BU : Nat → Nat) (U : Nat → Bool × RQ), k ≤ M0 ∧ i = .int .i64 k ∧ RtSt w wr mb ms lb rb rs a n #[.int .u8 a, .int .u8 n, .slice A2 l2.length cap2, .int .u8 pp, .slice A4 l.length cap4, .int .u8 wd] m0 m0 (.slice A l2.length cap) l2.length B P v k BG G u (l2.length + k) BU U ∧ Same l2.length k P G U) (fun _ _ i _ => M0 - (intOf i).toNat)
        case atStart => exact ⟨0, _, _, _, _, by omega, rfl, HS.out, HSM.out⟩
        case round =>
          clear HS HSM c2
          obtain ⟨wp, hwp⟩ : ∃ wp, wp = wr := ⟨_, rfl⟩
          subst hwp
          obtain ⟨k, BG, G, BU, U, hk, rfl, hst, hsm⟩ := hrel
          have HS := Lib.hid hst
          have HSM := Lib.hid hsm
          have c3 := hst.ro.case_.at 3 (v := .int .u8 pp) rfl
          have q0 := hst.ro.lock.at 0 (v := .int .i64 a) rfl
          have q1 := hst.ro.lock.at 1 (v := .int .i64 n) rfl
          clear hst hsm
          by_cases hlt : k < M0
          · have hlti : (k : Int) < M0 := by omega
            go_wp2_with fail
            refine (pop_some _ a n HRI.out).mono ?_
            rintro e w3' ⟨b, rfl, hb, ho, hw⟩
            have HNB := Lib.hid hb
            have HO3 := Lib.hid ho
            have HW := Lib.hid hw
            clear hb ho hw c3 q0 q1
            have HRW := Lib.hid (row_based (row_rest HS.out.ro.mg.row (HO3.out.alloc (.cells #[.pointer (some ⟨b, 0, none⟩)] 39)) (by simp)) HS.out.ro.mg.los)
            obtain ⟨hi, hz0, hz1, hz2⟩ := HI1.out
            go_wp2_with (at_builtin; refine wpList_append_own _ rfl (.tmp 134) (.tmp 137) 35 rfl w.heap.size 39 i1 (.pointer none) 1 8 Try.underlying35 hi hz0 hz1 hz2 rfl (by decide) _ k _ rfl HRW.out ⟨w3'.heap.size, 0, none⟩ 1 1 [.pointer (some ⟨b, 0, none⟩)] rfl rfl ?hn ?h1 ?h63 ?hb ?hbase ?_)
            case hn => exact one_new _ _ _
            case h1 => intro u hu; simp at hu; subst hu; rfl
            case h63 => unfold maxLen; omega
            case hb => omega
            case hbase => have := HS.out.ro.out.size; have := HO3.out.size; simp; omega
            intro v' w4 hown hg _
            have HS := Lib.hid (HS.out.addg (HO3.out.alloc (.cells #[.pointer (some ⟨b, 0, none⟩)] 39)) (IsQ.quiet HW.out ((Only.refl [] w3').alloc _)) HNB.out hown hg)
            have c0 := HS.out.ro.case_.at 0 (v := .int .u8 a) rfl
            have c1 := HS.out.ro.case_.at 1 (v := .int .u8 n) rfl
            clear hown hg hi hz0 hz1 hz2 HRW HO3 HW HNB
            have HRW := Lib.hid (row_based (row_rest HS.out.mu.row (((Only.refl [] _).alloc (.cells (uCells a n true 0 0 0 false false) 98)).alloc (.cells #[.pointer (some ⟨w4.heap.size, 0, none⟩)] 96)) (by simp)) HS.out.mu.los)
            obtain ⟨hi, hz0, hz1, hz2⟩ := HI2.out
            go_wp2_with (at_builtin; refine wpList_append_own _ rfl (.tmp 139) (.tmp 148) 95 rfl w.heap.size 96 i2 (.pointer none) 1 8 Try.underlying95 hi hz0 hz1 hz2 rfl (by decide) _ (l2.length + k) _ rfl HRW.out ⟨w4.heap.size + 1, 0, none⟩ 1 1 [.pointer (some ⟨w4.heap.size, 0, none⟩)] rfl rfl ?hn ?h1 ?h63 ?hb ?hbase ?_)
            case hn => intro j u hj; match j, hj with | 0, hj => simp at hj; subst hj; simp [Addr.add]
            case h1 => intro u hu; simp at hu; subst hu; rfl
            case h63 => unfold maxLen; omega
            case hb => omega
            case hbase => have := HS.out.ro.out.size; simp; omega
            intro v'' w5 hown hg _
            have HS := Lib.hid (HS.out.addu (((Only.refl [] _).alloc (.cells (uCells a n true 0 0 0 false false) 98)).alloc (.cells #[.pointer (some ⟨w4.heap.size, 0, none⟩)] 96)) (b := w4.heap.size) (new_user (p := true) (v := 0) ((Blk.new w4 98 (uCells a n true 0 0 0 false false)).alloc _) HRI.out (by omega) (by omega)) (by simp) hown hg)
            have HSM := Lib.hid (HSM.out.addG ⟨a, n, 0, 0, false, 0⟩)
            clear hown hg hi hz0 hz1 hz2 HRW c0 c1
            go_wp2_with fail
            exact ⟨⟨k + 1, _, _, _, _, by omega, by go_num, HS.out, HSM.out⟩, by simp [intOf]; omega⟩
          · have hlti : ¬ (k : Int) < M0 := by omega
            obtain rfl : k = M0 := by omega
            obtain ⟨K, hK⟩ : ∃ K, l2.length + k = K := ⟨_, rfl⟩
            rw [hK] at HS
            obtain ⟨A', cap', rfl⟩ := HS.out.ro.mg.form
            obtain ⟨A'', cap'', rfl⟩ := HS.out.mu.form
            clear q0 q1
            go_wp2_with fail
            go_loopw [14] (fun i wr => ∃ (t : Nat) (P G : Nat → RQ) (U : Nat → Bool × RQ) (m : MS), t ≤ l.length ∧ i = .int .i64 t ∧ RtSt w wr mb ms lb rb rs a n #[.int .u8 a, .int .u8 n, .slice A2 l2.length cap2, .int .u8 pp, .slice A4 l.length cap4, .int .u8 wd] m m (.slice A l2.length cap) l2.length B P (.slice A' k cap') k BG G (.slice A'' K cap'') K BU U ∧ Same l2.length k P G U ∧ m.L.length = W) (fun i _ => l.length - (intOf i).toNat)
            case atStart => exact ⟨0, _, _, _, _, by omega, rfl, HS.out, HSM.out, HLEN.out⟩
            case round =>
              clear HS HSM HLEN c3
              obtain ⟨t, P, G, U, m, ht, rfl, hst, hsm, hlen⟩ := hrel
              have HS := Lib.hid hst
              have HSM := Lib.hid hsm
              have HLEN := Lib.hid hlen
              have c4 := hst.ro.case_.at 4 (v := .slice A4 l.length cap4) rfl
              clear hst hsm hlen
              by_cases hlt : t < l.length
              · have hlti : (t : Int) < l.length := by omega
                by_cases hall : 0 < K
                · have halli : (0 : Int) < K := by omega
                  obtain ⟨go, o, hgo, rfl, hc⟩ := HR4.out.at hlt
                  have d1 := (HS.out.ro.out.cell (p := ⟨go, o + t, none⟩) hgo (by simp)).trans (hc t hlt)
                  have hb := HBY.out t hlt
                  have p0 : 0 ≤ nth l t := hb.1
                  have p1 : nth l t ≤ 255 := hb.2
                  clear hb hc hgo
                  obtain ⟨j, hj⟩ : ∃ j : Nat, nth l t % (K : Int) = (j : Int) := ⟨(nth l t % (K : Int)).toNat, by rw [Int.toNat_of_nonneg (Int.emod_nonneg _ (by omega))]⟩
                  have hjk : j < K := by have := Int.emod_lt_of_pos (nth l t) halli; omega
                  have hjki : (j : Int) < K := by omega
                  obtain ⟨gu, hgu, cu⟩ := HS.out.mu.cell hjk
                  obtain rfl := hgu
                  have HRNG := Lib.hid HS.out.ro.rng
                  by_cases h0 : j < l2.length
                  · have h0i : (j : Int) < l2.length := by omega
                    obtain ⟨gp, hgp, cp⟩ := HS.out.ro.mp.cell h0
                    obtain rfl := hgp
                    obtain ⟨x0, x1, x2, x3, hnx⟩ := next_ex false (P j)
                    obtain ⟨P1, m1, dd, hgo, hdd⟩ := go_ex false (P j) m
                    have HU := Lib.hid (HSM.out.1 j h0)
                    have HNX := Lib.hid hnx
                    have HGO := Lib.hid hgo
                    have HDD := Lib.hid hdd
                    clear hnx hgo hdd
                    go_wp2_with fail
                    refine (punext_to (HS.out.ro.mp.is j h0) HNX.out).mono ?_
                    rintro e w4 ⟨rfl, ho⟩
                    have HS := Lib.hid (HS.out.quiet ho)
                    clear ho c4 d1 hj cu cp
                    go_wp2_with fail
                    refine (unext_to (p := false) (s := P j) (by have h := HS.out.mu.is j hjk; rw [HU.out] at h; exact h) HNX.out).mono ?_
                    rintro e w5 ⟨rfl, ho⟩
                    have HS := Lib.hid (HS.out.quiet ho)
                    clear ho
                    go_wp2_with fail
                    refine (HS.out.pcall h0).mono ?_
                    rintro e w6 ⟨he, hs⟩
                    rw [HGO.out] at he hs
                    dsimp only at he hs
                    rw [HDD.out] at he
                    subst he
                    have HS := Lib.hid hs
                    clear hs
                    go_wp2_with fail
                    refine (HS.out.ucall hjk HU.out HRNG.out).mono ?_
                    rintro e w7 ⟨he, hs⟩
                    rw [HGO.out] at he hs
                    dsimp only at he hs
                    rw [HDD.out] at he
                    subst he
                    have HS := Lib.hid hs
                    have HSM := Lib.hid (HSM.out.stepP h0 P1)
                    have HLEN := Lib.hid (show m1.L.length = W from by have h := go_len false (P j) m; rw [HGO.out] at h; exact h.trans HLEN.out)
                    obtain ⟨hh, d2, hpr, hcl⟩ := pures_ex (c := BU j) (by have h := HS.out.ro.mp.is j h0; rw [ext_same] at h; exact h) (by have h := HS.out.mu.is j hjk; rw [ext_same] at h; exact h)
                    have HPR := Lib.hid hpr
                    have HCL := Lib.hid hcl
                    clear hs hpr hcl HGO HDD HNX HU HRNG
                    go_wp2_with fail
                    refine HPR.out.mono ?_
                    rintro e w8 ⟨rfl, ho⟩
                    have HS := Lib.hid (HS.out.quiet ho)
                    obtain ⟨e6, e7⟩ := HCL.out w8 ho
                    clear ho HPR HCL
                    go_upto_region 44 with fail
                    have HD := Lib.hid (HS.out.quiet (Only.refl [] _).drew)
                    have HLQ : Hid (∀ wx, IsRef wx rb rs m1 → wx.cell? ⟨rb, 0, none⟩ = some (.slice (some ⟨rs, 0, none⟩) W W)) := Lib.hid (fun wx h => by have h2 := h.c0; rw [HLEN.out] at h2; exact h2)
                    go_region_held3 (fun w' => w'.cell? ⟨rb, 0, none⟩ = some (.slice (some ⟨rs, 0, none⟩) W W))
                      (first | exact HLQ.out _ HD.out.ref)
                      (first
                        | (go_at_call 45; refine (words_any _ mb ms m1.L m1.c m1.l 0 W HD.out.ro.mem).mono ?_; rintro e w9 ⟨v1, rfl, ho, hv⟩; have HR1 := Lib.hid (hv.isRow (by rw [cut_whole m1.L W W1 HLEN.out, HLEN.out]; omega)); have HD := Lib.hid (HD.out.quiet ho); clear ho hv)
                        | (go_at_call 44; refine (eqw_alike _ _ _ m1.L (by have h := HR1.out; rw [cut_whole m1.L W W1 HLEN.out] at h; exact h) (IsRow.of_blk HD.out.ref.row rfl W HLEN.out.symm (by rw [HLEN.out]; omega))).mono ?_; rintro e w9 ⟨rfl, ho⟩; have HD := Lib.hid (HD.out.quiet ho); clear ho))
                    all_goals
                      go_wp2_with fail
                      exact ⟨⟨t + 1, _, _, _, _, by omega, by go_num, HD.out, HSM.out, HLEN.out⟩, by simp [intOf]; omega⟩
                  · have h0i : ¬ (j : Int) < l2.length := by omega
                    obtain ⟨j', hj'⟩ : ∃ j', j = l2.length + j' := ⟨j - l2.length, by omega⟩
                    have h1 : j' < k := by omega
                    have hj2 : (j : Int) - l2.length = (j' : Int) := by omega
                    have h1i : (j' : Int) < k := by omega
                    have HJ := Lib.hid hj'
                    clear hj'
                    obtain ⟨gp, hgp, cp⟩ := HS.out.ro.mg.cell h1
                    obtain rfl := hgp
                    obtain ⟨x0, x1, x2, x3, hnx⟩ := next_ex true (G j')
                    obtain ⟨G1, m1, dd, hgo, hdd⟩ := go_ex true (G j') m
                    have HU : Hid (U j = (true, G j')) := Lib.hid (by rw [HJ.out]; exact HSM.out.2 j' h1)
                    have HNX := Lib.hid hnx
                    have HGO := Lib.hid hgo
                    have HDD := Lib.hid hdd
                    clear hnx hgo hdd
                    go_wp2_with fail
                    refine (ponext_to (HS.out.ro.mg.is j' h1) HNX.out).mono ?_
                    rintro e w4 ⟨rfl, ho⟩
                    have HS := Lib.hid (HS.out.quiet ho)
                    clear ho c4 d1 hj cu cp hj2
                    go_wp2_with fail
                    refine (unext_to (p := true) (s := G j') (by have h := HS.out.mu.is j hjk; rw [HU.out] at h; exact h) HNX.out).mono ?_
                    rintro e w5 ⟨rfl, ho⟩
                    have HS := Lib.hid (HS.out.quiet ho)
                    clear ho
                    go_wp2_with fail
                    refine (HS.out.gcall h1).mono ?_
                    rintro e w6 ⟨he, hs⟩
                    rw [HGO.out] at he hs
                    dsimp only at he hs
                    rw [HDD.out] at he
                    subst he
                    have HS := Lib.hid hs
                    clear hs
                    go_wp2_with fail
                    refine (HS.out.ucall hjk HU.out HRNG.out).mono ?_
                    rintro e w7 ⟨he, hs⟩
                    rw [HGO.out] at he hs
                    dsimp only at he hs
                    rw [HDD.out] at he
                    subst he
                    have HS := Lib.hid hs
                    have HSM := Lib.hid (show Same l2.length k P (ext G j' G1) (ext U j (true, G1)) from by rw [HJ.out]; exact HSM.out.stepG h1 G1)
                    have HLEN := Lib.hid (show m1.L.length = W from by have h := go_len true (G j') m; rw [HGO.out] at h; exact h.trans HLEN.out)
                    obtain ⟨v, hh, d2, v', hpr, hcl, hor⟩ := pores_ex (c := BU j) (by have h := HS.out.ro.mg.is j' h1; rw [ext_same] at h; exact h) (by have h := HS.out.mu.is j hjk; rw [ext_same] at h; exact h)
                    have HPR := Lib.hid hpr
                    have HCL := Lib.hid hcl
                    clear hs hpr hcl HGO HDD HNX HU HRNG HJ
                    rcases hor with ⟨rfl, rfl⟩ | ⟨rfl, rfl⟩
                    · go_wp2_with fail
                      refine HPR.out.mono ?_
                      rintro e w8 ⟨rfl, ho⟩
                      have HS := Lib.hid (HS.out.quiet ho)
                      obtain ⟨e3, e6, e7⟩ := HCL.out w8 ho
                      clear ho HPR HCL
                      go_upto_region 44 with fail
                      have HD := Lib.hid (HS.out.quiet (Only.refl [] _).drew)
                      have HLQ : Hid (∀ wx, IsRef wx rb rs m1 → wx.cell? ⟨rb, 0, none⟩ = some (.slice (some ⟨rs, 0, none⟩) W W)) := Lib.hid (fun wx h => by have h2 := h.c0; rw [HLEN.out] at h2; exact h2)
                      go_region_held3 (fun w' => w'.cell? ⟨rb, 0, none⟩ = some (.slice (some ⟨rs, 0, none⟩) W W))
                        (first | exact HLQ.out _ HD.out.ref)
                        (first
                          | (go_at_call 45; refine (words_any _ mb ms m1.L m1.c m1.l 0 W HD.out.ro.mem).mono ?_; rintro e w9 ⟨v1, rfl, ho, hv⟩; have HR1 := Lib.hid (hv.isRow (by rw [cut_whole m1.L W W1 HLEN.out, HLEN.out]; omega)); have HD := Lib.hid (HD.out.quiet ho); clear ho hv)
                          | (go_at_call 44; refine (eqw_alike _ _ _ m1.L (by have h := HR1.out; rw [cut_whole m1.L W W1 HLEN.out] at h; exact h) (IsRow.of_blk HD.out.ref.row rfl W HLEN.out.symm (by rw [HLEN.out]; omega))).mono ?_; rintro e w9 ⟨rfl, ho⟩; have HD := Lib.hid (HD.out.quiet ho); clear ho))
                      all_goals
                        go_wp2_with fail
                        exact ⟨⟨t + 1, _, _, _, _, by omega, by go_num, HD.out, HSM.out, HLEN.out⟩, by simp [intOf]; omega⟩
                    · go_wp2_with fail
                      refine HPR.out.mono ?_
                      rintro e w8 ⟨rfl, ho⟩
                      have HS := Lib.hid (HS.out.quiet ho)
                      obtain ⟨e3, e6, e7⟩ := HCL.out w8 ho
                      clear ho HPR HCL
                      go_upto_region 44 with fail
                      have HD := Lib.hid (HS.out.quiet (Only.refl [] _).drew)
                      have HLQ : Hid (∀ wx, IsRef wx rb rs m1 → wx.cell? ⟨rb, 0, none⟩ = some (.slice (some ⟨rs, 0, none⟩) W W)) := Lib.hid (fun wx h => by have h2 := h.c0; rw [HLEN.out] at h2; exact h2)
                      go_region_held3 (fun w' => w'.cell? ⟨rb, 0, none⟩ = some (.slice (some ⟨rs, 0, none⟩) W W))
                        (first | exact HLQ.out _ HD.out.ref)
                        (first
                          | (go_at_call 45; refine (words_any _ mb ms m1.L m1.c m1.l 0 W HD.out.ro.mem).mono ?_; rintro e w9 ⟨v1, rfl, ho, hv⟩; have HR1 := Lib.hid (hv.isRow (by rw [cut_whole m1.L W W1 HLEN.out, HLEN.out]; omega)); have HD := Lib.hid (HD.out.quiet ho); clear ho hv)
                          | (go_at_call 44; refine (eqw_alike _ _ _ m1.L (by have h := HR1.out; rw [cut_whole m1.L W W1 HLEN.out] at h; exact h) (IsRow.of_blk HD.out.ref.row rfl W HLEN.out.symm (by rw [HLEN.out]; omega))).mono ?_; rintro e w9 ⟨rfl, ho⟩; have HD := Lib.hid (HD.out.quiet ho); clear ho))
                      all_goals
                        go_wp2_with fail
                        exact ⟨⟨t + 1, _, _, _, _, by omega, by go_num, HD.out, HSM.out, HLEN.out⟩, by simp [intOf]; omega⟩
                · have halli : ¬ (0 : Int) < (K : Int) := by omega
                  clear HSM HLEN
                  go_wp2_with fail
                  refine (known06 _).mono ?_
                  rintro e w2 ⟨rfl, ho⟩
                  have HO := Lib.hid (HS.out.ro.out.trans ho)
                  clear ho
                  go_wp2_with fail
                  go_ret
                  exact ⟨rfl, HO.out⟩
              · have hlti : ¬ (t : Int) < l.length := by omega
                clear HSM HLEN
                go_wp2_with fail
                refine (known06 _).mono ?_
                rintro e w2 ⟨rfl, ho⟩
                have HO := Lib.hid (HS.out.ro.out.trans ho)
                clear ho
                go_wp2_with fail
                go_ret
                exact ⟨rfl, HO.out⟩
  · have HRI := Lib.hid hrt
    clear hrt
    go_region_held3 (fun w' => w'.cell? ⟨w.heap.size, 0, none⟩ = some (.int .u8 a) ∧ w'.cell? ⟨w.heap.size, 1, none⟩ = some (.int .u8 n) ∧ w'.cell? ⟨lb, 0, none⟩ = some (.int .i64 a) ∧ w'.cell? ⟨lb, 1, none⟩ = some (.int .i64 n))
      (first | exact HF0.out _ HE.out)
      (first
        | (go_at_call 16; refine (init_none _ _ a n HRI.out).mono ?_; rintro e w5 ⟨rfl, hx⟩; have HE := Lib.hid (HE.out.quiet hx); clear hx)
        | (go_at_call 46; refine (u_init_none _ _ a n HRI.out).mono ?_; rintro e w6 ⟨rfl, rfl⟩))
    obtain ⟨c0, c1, b0, b1⟩ := HF0.out _ HE.out
    go_wp2_with fail
    refine (u_right _ a n).mono ?_
    rintro e w7 ⟨rfl, rfl⟩
    rw [decide_eq_false HRI.out]
    go_wp2_with fail
    refine (push_none _ a n 1 HRI.out).mono ?_
    rintro e w7 ⟨rfl, ho⟩
    have HE := Lib.hid (HE.out.quiet ho)
    clear ho c0 c1 b0 b1
    obtain ⟨c0, c1, b0, b1⟩ := HF0.out _ HE.out
    go_wp2_with fail
    refine (pop_none _ a n HRI.out).mono ?_
    rintro e w8 ⟨rfl, ho⟩
    have HE := Lib.hid (HE.out.quiet ho)
    clear ho c0 c1 b0 b1
    go_wp2_with fail
    refine (known06 _).mono ?_
    rintro e w9 ⟨rfl, ho⟩
    have HE := Lib.hid (HE.out.quiet ho)
    clear ho
    go_wp2_with fail
    go_ret
    exact ⟨rfl, HE.out.out⟩

end Go.Proofs.Ytoecoijmkjhkgaa
