/- The walk of law DequeSteps. Written by dstepsg.py. -/
import Derived.Test.YtoecoijmkjhkgaaDStepsT
import Derived.Deep.CutRange
namespace Go.Proofs.Ytoecoijmkjhkgaa
open Go.RowKit

set_option maxHeartbeats 8000000 in
set_option maxRecDepth 100000 in
theorem dequesteps_walk (w : World) (a s th wd : Int) (A2 : Option Addr) (l2 : List Int) (cap2 : Nat) (A4 : Option Addr) (l : List Int) (cap4 : Nat) (a0 : 0 ≤ a) (a1 : a ≤ 255) (s0 : 0 ≤ s) (s1 : s ≤ 255) (t0' : 0 ≤ th) (t1' : th ≤ 255) (d0 : 0 ≤ wd) (d1' : wd ≤ 255) (hr2 : ReadsB w A2 l2) (hby2 : ∀ i, i < l2.length → 0 ≤ nth l2 i ∧ nth l2 i ≤ 255) (hr4 : ReadsB w A4 l) (hby : ∀ i, i < l.length → 0 ≤ nth l i ∧ nth l i ≤ 255) :
    Calls Try.prog 12 #[.agg #[.int .u8 a, .int .u8 s, .slice A2 l2.length cap2, .int .u8 th, .slice A4 l.length cap4, .int .u8 wd]] w fun e w' => e = .returned (.bool true) ∧ Only [] w w' := by
  obtain ⟨n, rfl⟩ : ∃ n : Nat, s = n := ⟨s.toNat, by omega⟩
  obtain ⟨i0, hi, hz0, hz1, hz2⟩ := info_parts Try.infoTask
  have HI0 := Lib.hid (And.intro hi (And.intro hz0 (And.intro hz1 hz2)))
  clear hi hz0 hz1 hz2
  obtain ⟨i1, hi, hz0, hz1, hz2⟩ := info_parts Try.infoRT
  have HI1 := Lib.hid (And.intro hi (And.intro hz0 (And.intro hz1 hz2)))
  clear hi hz0 hz1 hz2
  have HB := Lib.hid (Blk.new w 58 #[.int .u8 a, .int .u8 n, .slice A2 l2.length cap2, .int .u8 th, .slice A4 l.length cap4, .int .u8 wd])
  have HO := Lib.hid ((Only.refl [] w).alloc (.cells #[.int .u8 a, .int .u8 n, .slice A2 l2.length cap2, .int .u8 th, .slice A4 l.length cap4, .int .u8 wd] 58))
  have HR2 := Lib.hid hr2
  have HBY2 := Lib.hid hby2
  have HR4 := Lib.hid hr4
  have HBY := Lib.hid hby
  clear hr4 hby hr2 hby2
  obtain ⟨W, hW⟩ : ∃ W : Nat, 1 + wd = (W : Int) := ⟨(1 + wd).toNat, by omega⟩
  have W1 : 1 ≤ W := by omega
  have W2 : W ≤ 256 := by omega
  obtain ⟨M0, hM0⟩ : ∃ M0 : Nat, th % 4 = (M0 : Int) := ⟨(th % 4).toNat, by omega⟩
  have hM12 : M0 ≤ 4 := by omega
  go_enter Try.func12, Try.ntmps12
  have c2 := HB.out.at 2 (v := .slice A2 l2.length cap2) rfl
  have c4 := HB.out.at 4 (v := .slice A4 l.length cap4) rfl
  by_cases hn2 : 20 < l2.length
  · have hn2i : (20 : Int) < l2.length := by omega
    go_wp2_with fail
    refine (known07 _).mono ?_
    rintro e w2 ⟨rfl, ho⟩
    have HO := Lib.hid (HO.out.trans ho)
    clear ho
    go_wp2_with fail
    go_ret
    exact ⟨rfl, HO.out⟩
  have hn2i : ¬ (20 : Int) < l2.length := by omega
  by_cases hl4 : 300 < l.length
  · have hl4i : (300 : Int) < l.length := by omega
    go_wp2_with fail
    refine (known07 _).mono ?_
    rintro e w2 ⟨rfl, ho⟩
    have HO := Lib.hid (HO.out.trans ho)
    clear ho
    go_wp2_with fail
    go_ret
    exact ⟨rfl, HO.out⟩
  have hl4i : ¬ (300 : Int) < l.length := by omega
  have hn2 : l2.length ≤ 20 := by omega
  have hl4 : l.length ≤ 300 := by omega
  have c5 := HB.out.at 5 (v := .int .u8 wd) rfl
  go_wp2_with fail
  refine (new_any _ W (by omega) (by omega)).mono ?_
  rintro e w1 ⟨mb, ms, rfl, hmb, hms, ho, hm⟩
  rw [Int.toNat_natCast] at hm
  have HN := Lib.hid (And.intro hmb (And.intro hms hm.lt))
  have HO := Lib.hid (HO.out.trans ho)
  have HB := Lib.hid (HB.out.only ho (by simp))
  have HM := Lib.hid hm
  clear hmb hms ho hm c2 c4 c5
  go_wp2_with fail
  refine (ref_new_in _ W (by omega) (by omega)).mono ?_
  rintro e w2 ⟨rb, rs, rfl, hrb, hrs, ho, hm⟩
  rw [Int.toNat_natCast] at hm
  have HN := Lib.hid (show w.heap.size ≤ mb ∧ w.heap.size ≤ ms ∧ w.heap.size ≤ rb ∧ w.heap.size ≤ rs ∧ ms ≠ rs from by
    have h1 := HO.out.size
    have h2 := HN.out
    simp at h2
    omega)
  have HB := Lib.hid (HB.out.only ho (by simp))
  have c0 := HB.out.at 0 (v := .int .u8 a) rfl
  have c1 := HB.out.at 1 (v := .int .u8 n) rfl
  have HX := Lib.hid ((Only.refl [] w2).alloc (.cells #[.int .i64 a, .int .i64 n] 59))
  have HO := Lib.hid ((HO.out.trans ho).trans HX.out)
  have HB := Lib.hid (HB.out.only HX.out (by simp))
  have HM := Lib.hid ((HM.out.only ho (by simp) (by simp)).dsame HX.out)
  have HRF : Hid (IsRef (w2.alloc (.cells #[.int .i64 a, .int .i64 n] 59)) rb rs (MS.new W)) := Lib.hid (IsRef.only hm HX.out (by simp) (by simp))
  have HL := Lib.hid (Blk.new w2 59 #[.int .i64 a, .int .i64 n])
  obtain ⟨lb, hlb⟩ : ∃ lb, w2.heap.size = lb := ⟨_, rfl⟩
  rw [hlb] at HL
  have HLB := Lib.hid hlb
  have HRC : Hid (DSt w (w2.alloc (.cells #[.int .i64 a, .int .i64 n] 59)) mb ms lb rb rs a n #[.int .u8 a, .int .u8 n, .slice A2 l2.length cap2, .int .u8 th, .slice A4 l.length cap4, .int .u8 wd] (MS.new W) (MS.new W) (.slice none 0 0) 0 0 (fun _ => 0) (fun _ => 0) (fun _ => ⟨0, 0, 0, 0, false, false, 0, 0, 0, false⟩) (.slice none 0 0) 0 0 (fun _ => 0) (fun _ => ⟨0, 0, 0, 0, false, false, 0, 0, 0, false⟩)) :=
    Lib.hid ⟨HO.out, HL.out, HB.out, HN.out, HM.out, dnew_rng W, HRF.out, World.ownsRow_nil _ _ _ _, World.ownsRow_nil _ _ _ _, fun _ h => absurd h (by omega), fun _ h => absurd h (by omega), fun _ _ h => absurd h (by omega), fun _ _ h => absurd h (by omega), fun _ _ h => absurd h (by omega), fun _ h => absurd h (by omega), fun _ h => absurd h (by omega), fun _ h => absurd h (by omega)⟩
  have HLEN : Hid ((MS.new W).L.length = W) := Lib.hid (by simp [MS.new])
  clear ho hm hrb hrs HX HO HB HM HRF HL HN hlb
  have wa : IntKind.i64.wrap a = a := dwrap _ (by omega) (by omega)
  have wn : IntKind.i64.wrap (n : Int) = n := dwrap _ (by omega) (by omega)
  have b0 := HRC.out.lock.at 0 (v := .int .i64 a) rfl
  have b1 := HRC.out.lock.at 1 (v := .int .i64 n) rfl
  rw [← HLB.out] at b0 b1
  go_wp2_with fail
  refine (rt_right _ a n).mono ?_
  rintro e w3 ⟨rfl, rfl⟩
  obtain ⟨w3, hw3⟩ : ∃ w3, w2.alloc (.cells #[.int .i64 a, .int .i64 n] 59) = w3 := ⟨_, rfl⟩
  rw [hw3] at HRC ⊢
  rw [HLB.out]
  clear hw3
  clear c0 c1 b0 b1
  by_cases hrt : dequeRight a n
  · have HRI := Lib.hid hrt
    have ha2 := hrt.2.1
    have ha3 := hrt.2.2
    rw [decide_eq_true hrt]
    clear hrt
    go_wp2_with fail
    go_loopw [9, 10, 11] (fun v u i wr => ∃ (k : Nat) (B KB : Nat → Nat) (S : Nat → DQ) (C : Nat → Nat) (R : Nat → DQ), k ≤ M0 ∧ i = .int .i64 k ∧ DSt w wr mb ms lb rb rs a n #[.int .u8 a, .int .u8 n, .slice A2 l2.length cap2, .int .u8 th, .slice A4 l.length cap4, .int .u8 wd] (MS.new W) (MS.new W) v k k B KB S u k k C R ∧ ∀ j, j < k → S j = R j) (fun _ _ i _ => M0 - (intOf i).toNat)
    case atStart => exact ⟨0, _, _, _, _, _, by omega, rfl, HRC.out, fun j hj => absurd hj (by omega)⟩
    case round =>
      clear HRC
      obtain ⟨wp, hwp⟩ : ∃ wp, wp = wr := ⟨_, rfl⟩
      subst hwp
      obtain ⟨k, B, KB, S, C, R, hk, rfl, hst, heq⟩ := hrel
      have HS := Lib.hid hst
      have HEQ := Lib.hid heq
      have c3 := hst.case_.at 3 (v := .int .u8 th) rfl
      have q0 := hst.lock.at 0 (v := .int .i64 a) rfl
      have q1 := hst.lock.at 1 (v := .int .i64 n) rfl
      clear hst heq
      by_cases hlt : k < M0
      · have hlti : (k : Int) < M0 := by omega
        go_wp2_with fail
        refine (dsteal_some _ a n HRI.out).mono ?_
        rintro e w3' ⟨b, kb, rfl, hb, hkb, ho, hw⟩
        have HRW := Lib.hid (row_out HS.out.rt (ho.alloc (.cells #[.pointer (some ⟨b, 0, none⟩)] 61)) (by simp))
        have HS := Lib.hid (HS.out.newT ho (k := k) (Nat.le_refl k) (.inl rfl) hw hb hkb)
        clear hb hkb ho hw c3 q0 q1
        obtain ⟨hi, hz0, hz1, hz2⟩ := HI0.out
        go_wp2_with (at_builtin; refine wpList_append_own _ rfl (.tmp 92) (.tmp 95) 82 rfl w.heap.size 61 i0 (.pointer none) 1 8 Try.underlying82 hi hz0 hz1 hz2 rfl (by decide) _ k _ rfl HRW.out ⟨w3'.heap.size, 0, none⟩ 1 1 [.pointer (some ⟨b, 0, none⟩)] rfl rfl ?hn ?h1 ?h63 ?hb ?hbase ?_)
        case hn => exact one_new _ _ _
        case h1 => intro u hu; simp at hu; subst hu; rfl
        case h63 => unfold maxLen; omega
        case hb => omega
        case hbase => have := HS.out.out.size; simp; omega
        intro v' w4 hown hg _
        have HS := Lib.hid (HS.out.rowT hown ((Only.refl [] w3').alloc (.cells #[.pointer (some ⟨b, 0, none⟩)] 61)) hg)
        have q0 := HS.out.lock.at 0 (v := .int .i64 a) rfl
        have q1 := HS.out.lock.at 1 (v := .int .i64 n) rfl
        clear hown hg hi hz0 hz1 hz2 HRW
        have HRW := Lib.hid (row_out HS.out.rx (((Only.refl [] _).alloc (.cells (rtCells a n 2 0 0 0 0 false false false) 86)).alloc (.cells #[.pointer (some ⟨w4.heap.size, 0, none⟩)] 84)) (by simp))
        obtain ⟨hi, hz0, hz1, hz2⟩ := HI1.out
        go_wp2_with (at_builtin; refine wpList_append_own _ rfl (.tmp 97) (.tmp 104) 83 rfl w.heap.size 84 i1 (.pointer none) 1 8 Try.underlying83 hi hz0 hz1 hz2 rfl (by decide) _ k _ rfl HRW.out ⟨w4.heap.size + 1, 0, none⟩ 1 1 [.pointer (some ⟨w4.heap.size, 0, none⟩)] rfl rfl ?hn ?h1 ?h63 ?hb ?hbase ?_)
        case hn => intro j u hj; match j, hj with | 0, hj => simp at hj; subst hj; simp [Addr.add]
        case h1 => intro u hu; simp at hu; subst hu; rfl
        case h63 => unfold maxLen; omega
        case hb => omega
        case hbase => have := HS.out.out.size; simp; omega
        intro v'' w5 hown hg _
        have HS := Lib.hid ((HS.out.newX (((Only.refl [] _).alloc (.cells (rtCells a n 2 0 0 0 0 false false false) 86)).alloc (.cells #[.pointer (some ⟨w4.heap.size, 0, none⟩)] 84)) (c := w4.heap.size) (k := k) (Nat.le_refl k) (.inl rfl) (new_rt (k := 2) (v := 0) ((Blk.new w4 86 (rtCells a n 2 0 0 0 0 false false false)).alloc _) HRI.out (by decide) (by decide) (by decide)) (Nat.le_refl _) (fun _ => rfl)).rowX hown (Only.refl [] _) hg)
        have HEQ := Lib.hid (eq_ext' HEQ.out ⟨a, n, 2, 0, false, false, 0, 0, 0, false⟩)
        clear hown hg hi hz0 hz1 hz2 HRW q0 q1
        go_wp2_with fail
        exact ⟨⟨k + 1, _, _, _, _, _, by omega, by go_num, HS.out, HEQ.out⟩, by simp [intOf]; omega⟩
      · have hlti : ¬ (k : Int) < M0 := by omega
        obtain ⟨N, hN⟩ : ∃ N, k = N := ⟨_, rfl⟩
        rw [hN] at HS HEQ
        have hN4 : N ≤ 4 := by omega
        obtain ⟨A, cap, rfl⟩ := row_form HS.out.rt
        obtain ⟨A', cap', rfl⟩ := row_form HS.out.rx
        clear q0 q1
        go_wp2_with fail
        go_loopw [12, 13, 14, 15] (fun ow tv xv i wr => ∃ (t o K : Nat) (B KB : Nat → Nat) (S : Nat → DQ) (C : Nat → Nat) (R : Nat → DQ) (m : MS), t ≤ l.length ∧ i = .int .i64 t ∧ o ≤ l2.length ∧ ow = .int .i64 o ∧ DSt w wr mb ms lb rb rs a n #[.int .u8 a, .int .u8 n, .slice A2 l2.length cap2, .int .u8 th, .slice A4 l.length cap4, .int .u8 wd] m m (.slice A N cap) N K B KB S (.slice A' N cap') N K C R ∧ (∀ j, j < K → S j = R j) ∧ m.L.length = W ∧ (o = 0 ∧ K = N ∧ tv = .pointer none ∧ xv = .pointer none ∨ 0 < o ∧ K = N + 1 ∧ ∃ bb cc, B N = bb ∧ C N = cc ∧ tv = .pointer (some ⟨bb, 0, none⟩) ∧ xv = .pointer (some ⟨cc, 0, none⟩))) (fun _ _ _ i _ => l.length - (intOf i).toNat)
        case atStart => exact ⟨0, 0, N, _, _, _, _, _, _, by omega, rfl, by omega, rfl, HS.out, HEQ.out, HLEN.out, .inl ⟨rfl, rfl, rfl, rfl⟩⟩
        case round =>
          clear HS HEQ HLEN c3
          obtain ⟨wo, hwo⟩ : ∃ wo, wo = wr := ⟨_, rfl⟩
          subst hwo
          obtain ⟨t, o, K, B, KB, S, C, R, m, ht, rfl, hol, rfl, hst, heq, hlen, hdj⟩ := hrel
          have HS := Lib.hid hst
          have HEQ := Lib.hid heq
          have HLEN := Lib.hid hlen
          have HDJ := Lib.hid hdj
          have c4 := hst.case_.at 4 (v := .slice A4 l.length cap4) rfl
          clear hst heq hlen hdj
          by_cases hlt : t < l.length
          · have hlti : (t : Int) < l.length := by omega
            obtain ⟨go, o4, hgo, rfl, hc⟩ := HR4.out.at hlt
            have d1 := (HS.out.out.cell (p := ⟨go, o4 + t, none⟩) hgo (by simp)).trans (hc t hlt)
            have hb := HBY.out t hlt
            have p0 : 0 ≤ nth l t := hb.1
            have p1 : nth l t ≤ 255 := hb.2
            clear hb hc hgo
            obtain ⟨j, hj⟩ : ∃ j : Nat, nth l t % ((N : Int) + 1) = (j : Int) := ⟨(nth l t % ((N : Int) + 1)).toNat, by rw [Int.toNat_of_nonneg (Int.emod_nonneg _ (by omega))]⟩
            have hjk : j < N + 1 := by have := Int.emod_lt_of_pos (nth l t) (show (0 : Int) < (N : Int) + 1 by omega); omega
            go_upto_region 25 with fail
            rw [hj]
            clear d1 c4 hj p0 p1
            go_cut [136] from 106 to 238 (fun cv wx => ∃ cnd : Bool, cv = .bool cnd ∧ wx = wo ∧ (cnd = true → j = N) ∧ (cnd = false → j < K))
            case first =>
              by_cases h0 : j < N
              · as_aux_lemma =>
                  have hjn : ((j : Int) == (N : Int)) = false := by simp; omega
                  have HK : Hid (j < K) := Lib.hid (by rcases HDJ.out with ⟨_, e, _⟩ | ⟨_, e, _⟩ <;> omega)
                  go_wp2_with fail
                  go_meet
                  exact ⟨false, rfl, rfl, fun h => by simp at h, fun _ => HK.out⟩
              · have hjN : j = N := by omega
                subst hjN
                rcases HDJ.out with ⟨h1, h2, rfl, rfl⟩ | ⟨h1, h2, bb, cc, hbb, hcc, rfl, rfl⟩
                · as_aux_lemma =>
                    subst h1
                    clear h2
                    go_wp2_with fail
                    go_meet
                    exact ⟨true, rfl, rfl, fun _ => trivial, fun h => by simp at h⟩
                · as_aux_lemma =>
                    have HK : Hid (j < K) := Lib.hid (by omega)
                    obtain ⟨turn, hbr, hokr, _⟩ := HS.out.isr j (by omega)
                    have c8 := hbr.at 8 (v := .bool (R j).done) rfl
                    rw [hcc] at c8
                    obtain ⟨dn, hdn⟩ : ∃ dn, (R j).done = dn := ⟨_, rfl⟩
                    rw [hdn] at c8
                    clear hbb hcc hdn hbr hokr h2
                    cases dn
                    · go_wp2_with fail
                      go_meet
                      exact ⟨false, rfl, rfl, fun h => by simp at h, fun _ => HK.out⟩
                    · go_wp2_with fail
                      go_meet
                      exact ⟨true, rfl, rfl, fun _ => trivial, fun h => by simp at h⟩
            case rest =>
              obtain ⟨cnd, rfl, rfl, hc1, hc2⟩ := hcut
              have HC1 := Lib.hid (And.intro hc1 hc2)
              clear hc1 hc2
              go_upto_if 136 with fail
              go_cut [12, 13, 14] from 106 to 238 (fun ow tv xv wx => ∃ (o K : Nat) (B KB : Nat → Nat) (S : Nat → DQ) (C : Nat → Nat) (R : Nat → DQ), o ≤ l2.length ∧ ow = .int .i64 o ∧ DSt w wx mb ms lb rb rs a n #[.int .u8 a, .int .u8 n, .slice A2 l2.length cap2, .int .u8 th, .slice (some ⟨go, o4, none⟩) l.length cap4, .int .u8 wd] m m (.slice A N cap) N K B KB S (.slice A' N cap') N K C R ∧ (∀ j, j < K → S j = R j) ∧ (o = 0 ∧ K = N ∧ tv = .pointer none ∧ xv = .pointer none ∨ 0 < o ∧ K = N + 1 ∧ ∃ bb cc, B N = bb ∧ C N = cc ∧ tv = .pointer (some ⟨bb, 0, none⟩) ∧ xv = .pointer (some ⟨cc, 0, none⟩)) ∧ j < K)
              case first =>
                cases cnd
                · have HK := Lib.hid (HC1.out.2 rfl)
                  clear HC1
                  as_aux_lemma =>
                    go_wp2_with fail
                    go_meet
                    exact ⟨o, K, B, KB, S, C, R, hol, rfl, HS.out, HEQ.out, HDJ.out, HK.out⟩
                · have hjN := HC1.out.1 rfl
                  clear HC1
                  have c2 := HS.out.case_.at 2 (v := .slice A2 l2.length cap2) rfl
                  by_cases he : o = l2.length
                  · as_aux_lemma =>
                      have hei : ((o : Int) == (l2.length : Int)) = true := by simp; omega
                      clear he hjN
                      go_wp2_with fail
                      exact ⟨⟨t + 1, o, K, _, _, _, _, _, _, by omega, by go_num, by omega, rfl, HS.out, HEQ.out, HLEN.out, HDJ.out⟩, by simp [intOf]; omega⟩
                  · as_aux_lemma =>
                      have hei : ((o : Int) == (l2.length : Int)) = false := by simp; omega
                      have hol : o < l2.length := by omega
                      have HKJ : Hid (j = K ∨ K = j + 1) := Lib.hid (by rcases HDJ.out with ⟨_, e, _⟩ | ⟨_, e, _⟩; exact .inl (by omega); exact .inr (by omega))
                      have HNJ := Lib.hid (show N ≤ j by omega)
                      have HJN := Lib.hid hjN
                      clear he hjN
                      obtain ⟨g2, o2, hg2, rfl, hc2⟩ := HR2.out.at hol
                      have HG2 := Lib.hid (And.intro hg2 (hc2 o hol))
                      have HVR := Lib.hid (HBY2.out o hol)
                      obtain ⟨x, hx⟩ : ∃ x, nth l2 o = x := ⟨_, rfl⟩
                      rw [hx] at HG2 HVR
                      have HF : Hid (∀ wx, Base7 w wx lb a n #[.int .u8 a, .int .u8 n, .slice (some ⟨g2, o2, none⟩) l2.length cap2, .int .u8 th, .slice (some ⟨go, o4, none⟩) l.length cap4, .int .u8 wd] → wx.cell? ⟨lb, 0, none⟩ = some (.int .i64 a) ∧ wx.cell? ⟨lb, 1, none⟩ = some (.int .i64 n) ∧ wx.cell? ⟨w.heap.size, 2, none⟩ = some (.slice (some ⟨g2, o2, none⟩) l2.length cap2) ∧ wx.cell? ⟨g2, o2 + o, none⟩ = some (.int .u8 x)) := Lib.hid fun wx h => ⟨h.lock.at 0 rfl, h.lock.at 1 rfl, h.case_.at 2 rfl, (h.out.cell (p := ⟨g2, o2 + o, none⟩) HG2.out.1 (by simp)).trans HG2.out.2⟩
                      have hoi : (o : Int) < l2.length := by omega
                      clear hg2 hc2 hx
                      go_upto_region 27 with fail
                      have HE := Lib.hid (HS.out.base.quiet (Only.refl [] _).drew)
                      have HSD := Lib.hid (HS.out.quiet (Only.refl [] _).drew)
                      clear c2
                      go_region_held3 (fun w' => w'.cell? ⟨lb, 0, none⟩ = some (.int .i64 a) ∧ w'.cell? ⟨lb, 1, none⟩ = some (.int .i64 n) ∧ w'.cell? ⟨w.heap.size, 2, none⟩ = some (.slice (some ⟨g2, o2, none⟩) l2.length cap2) ∧ w'.cell? ⟨g2, o2 + o, none⟩ = some (.int .u8 x))
                        (first | exact HF.out _ HE.out)
                        (first
                          | (go_at_call 41; refine (task_any _ a x n o HRI.out HVR.out.1 HVR.out.2 (by omega)).mono ?_; rintro e w5' ⟨b, kb, c, s, rfl, hb, hkb, hc, ho, hd, hx, hs1, hs2⟩; have HE := Lib.hid (HE.out.quiet ho); have HSN := Lib.hid (HSD.out.newTX ho (k := j) HNJ.out HKJ.out HNJ.out HKJ.out hd hx hb hkb hc (fun _ => hs2)); clear hb hkb hc ho hd hx hs1 hs2))
                      have HEQN := Lib.hid (eq_ext' (K := j) (fun i hi => HEQ.out i (by rcases HKJ.out with e | e <;> omega)) s)
                      clear HSD HE HF HG2 HVR
                      go_wp2_with fail
                      go_meet
                      exact ⟨o + 1, j + 1, _, _, _, _, _, by omega, by go_num, HSN.out, HEQN.out, .inr ⟨by omega, by rw [HJN.out], b, c, by rw [← HJN.out]; exact ext_same B j b, by rw [← HJN.out]; exact ext_same C j c, rfl, rfl⟩, by omega⟩
              case rest =>
                clear HS HEQ HDJ HC1 hol
                obtain ⟨o, K, B, KB, S, C, R, hol, rfl, hst, heq, hdj, hk⟩ := hcut
                have HS := Lib.hid hst
                have HEQ := Lib.hid heq
                have HDJ := Lib.hid hdj
                clear hst heq hdj
                go_upto_if 162 with fail
                go_cut [19, 20] from 106 to 238 (fun tv xv wx => ∃ bb cc, tv = .pointer (some ⟨bb, 0, none⟩) ∧ xv = .pointer (some ⟨cc, 0, none⟩) ∧ B j = bb ∧ C j = cc ∧ wx = wc)
                case first =>
                  by_cases h0 : j < N
                  · as_aux_lemma =>
                      have h0i : (j : Int) < N := by omega
                      obtain ⟨bb, hbb⟩ : ∃ bb, B j = bb := ⟨_, rfl⟩
                      obtain ⟨cc, hcc⟩ : ∃ cc, C j = cc := ⟨_, rfl⟩
                      obtain ⟨gt, hgt, ct⟩ := row_at HS.out.rt rfl h0
                      obtain ⟨gx, hgx, cx⟩ := row_at HS.out.rx rfl h0
                      obtain rfl := hgt
                      obtain rfl := hgx
                      rw [hbb] at ct
                      rw [hcc] at cx
                      have HBB := Lib.hid hbb
                      have HCC := Lib.hid hcc
                      clear hbb hcc
                      go_wp2_with fail
                      go_meet
                      exact ⟨bb, cc, rfl, rfl, HBB.out, HCC.out, rfl⟩
                  · have hjN : j = N := by omega
                    have h0i : ¬ (j : Int) < N := by omega
                    rcases HDJ.out with ⟨h1, h2, _⟩ | ⟨h1, h2, bb, cc, hbb, hcc, rfl, rfl⟩
                    · omega
                    · as_aux_lemma =>
                        have HBB := Lib.hid (show B j = bb by rw [hjN]; exact hbb)
                        have HCC := Lib.hid (show C j = cc by rw [hjN]; exact hcc)
                        clear hbb hcc hjN
                        go_wp2_with fail
                        go_meet
                        exact ⟨bb, cc, rfl, rfl, HBB.out, HCC.out, rfl⟩
                case rest =>
                  obtain ⟨bb, cc, rfl, rfl, hbb, hcc, hwc⟩ := hcut
                  subst hwc
                  have HBB := Lib.hid hbb
                  have HCC := Lib.hid hcc
                  clear hbb hcc
                  have HSR := Lib.hid (HEQ.out j hk)
                  obtain ⟨x0, x1, x2, x3, hnx⟩ := dnext_ex (S j)
                  obtain ⟨s1, m1, dd, hgo, hdd⟩ := dgo_ex (S j) m
                  have HNX := Lib.hid hnx
                  have HGO := Lib.hid hgo
                  have HDD := Lib.hid hdd
                  have HRNG := Lib.hid HS.out.rng
                  clear hnx hgo hdd
                  go_wp2_with fail
                  refine (dnext_to (b := bb) (by have h := HS.out.is j hk; rw [HBB.out] at h; exact h) HNX.out).mono ?_
                  rintro e w4 ⟨rfl, ho⟩
                  have HS := Lib.hid (HS.out.quiet ho)
                  clear ho
                  go_wp2_with fail
                  refine (rtnext_to (b := cc) (s := S j) (by have h := HS.out.isr j hk; rw [HCC.out, ← HSR.out] at h; exact h) HNX.out).mono ?_
                  rintro e w5 ⟨rfl, ho⟩
                  have HS := Lib.hid (HS.out.quiet ho)
                  clear ho
                  go_wp2_with fail
                  have hc := HS.out.tcall hk
                  rw [HBB.out, HGO.out] at hc
                  refine hc.mono ?_
                  rintro e w6 ⟨he, hok, hs⟩
                  dsimp only at he hok hs
                  rw [HDD.out] at he
                  subst he
                  have HS := Lib.hid hs
                  have HOK := Lib.hid hok
                  clear hs hc hok
                  go_wp2_with fail
                  have hc := HS.out.xcall hk HRNG.out (by rw [← HSR.out, HGO.out]; exact HOK.out)
                  rw [HCC.out, ← HSR.out, HGO.out] at hc
                  refine hc.mono ?_
                  rintro e w7 ⟨he, hs⟩
                  dsimp only at he hs
                  rw [HDD.out] at he
                  subst he
                  have HS := Lib.hid hs
                  have HEQ := Lib.hid (eq_ext HEQ.out j s1)
                  have HLEN := Lib.hid (show m1.L.length = W from by have h := dgo_len (S j) m; rw [HGO.out] at h; exact h.trans HLEN.out)
                  obtain ⟨v, hh, d2, v', hpr, hcl, hor⟩ := dres_ex cc (by have h := HS.out.is j hk; rw [ext_same, HBB.out] at h; exact h) (by have h := HS.out.hz j hk; rw [ext_same] at h; exact h)
                  have HPR := Lib.hid hpr
                  have HCL := Lib.hid hcl
                  clear hs hc hpr hcl HGO HDD HNX HRNG HOK HSR
                  rcases hor with ⟨rfl, rfl⟩ | ⟨rfl, rfl⟩
                  · as_aux_lemma =>
                      go_wp2_with fail
                      refine HPR.out.mono ?_
                      rintro e w8 ⟨rfl, ho⟩
                      have HS := Lib.hid (HS.out.quiet ho)
                      clear ho HPR
                      have HLQ : Hid (∀ wx, DSt w wx mb ms lb rb rs a n #[.int .u8 a, .int .u8 n, .slice A2 l2.length cap2, .int .u8 th, .slice (some ⟨go, o4, none⟩) l.length cap4, .int .u8 wd] m1 m1 (.slice A N cap) N K B KB (ext S j s1) (.slice A' N cap') N K C (ext R j s1) → wx.cell? ⟨cc, 3, none⟩ = some (.int .u64 v') ∧ wx.cell? ⟨cc, 8, none⟩ = some (.bool d2) ∧ wx.cell? ⟨cc, 9, none⟩ = some (.bool true) ∧ wx.cell? ⟨rb, 0, none⟩ = some (.slice (some ⟨rs, 0, none⟩) W W)) := Lib.hid (fun wx h => by
                        have h2 := h.ref.c0
                        rw [HLEN.out] at h2
                        have h3 := h.isr j hk
                        rw [ext_same, HCC.out] at h3
                        obtain ⟨k1, k2, k3⟩ := HCL.out wx h3
                        exact ⟨k1, k2, k3, h2⟩)
                      go_upto_region 39 with fail
                      have HD := Lib.hid (HS.out.quiet (Only.refl [] _).drew)
                      refine wp_region_noPanic ?_
                      refine wp_region_held_drew (S := fun w' => w'.cell? ⟨cc, 3, none⟩ = some (.int .u64 v') ∧ w'.cell? ⟨cc, 8, none⟩ = some (.bool d2) ∧ w'.cell? ⟨cc, 9, none⟩ = some (.bool true) ∧ w'.cell? ⟨rb, 0, none⟩ = some (.slice (some ⟨rs, 0, none⟩) W W)) (by kernel_rfl) (HLQ.out _ HD.out) (fun hHeld => ?_)
                      refine wpAnyH_take (i := 0) (v := ?pv0) rfl (by kernel_rfl) (by kernel_rfl) (by kernel_rfl) (fun _ _ _ h => h) (Or.inl ⟨by rfl, ?py0⟩) hHeld ?_
                      case py0 => (intro w hSw; (try dsimp only at hSw); go_simp; try with_reducible rfl)
                      try simp only [Act.put, List.getElem_toArray, List.getElem_cons_zero, List.setIfInBounds_toArray, List.set_cons_zero, List.set_cons_succ]
                      refine wpAnyH_take (i := 1) (v := ?pv1) rfl (by kernel_rfl) (by kernel_rfl) (by kernel_rfl) (fun _ _ _ h => h) (Or.inl ⟨by rfl, ?py1⟩) hHeld ?_
                      case py1 => (intro w hSw; (try dsimp only at hSw); go_simp; try with_reducible rfl)
                      try simp only [Act.put, List.getElem_toArray, List.getElem_cons_succ, List.getElem_cons_zero, List.setIfInBounds_toArray, List.set_cons_zero, List.set_cons_succ]
                      refine wpAnyH_take (i := 2) (v := ?pv2) rfl (by kernel_rfl) (by kernel_rfl) (by kernel_rfl) (fun _ _ _ h => h) (Or.inl ⟨by rfl, ?py2⟩) hHeld ?_
                      case py2 => (intro w hSw; (try dsimp only at hSw); go_simp; try with_reducible rfl)
                      try simp only [Act.put, List.getElem_toArray, List.getElem_cons_succ, List.getElem_cons_zero, List.setIfInBounds_toArray, List.set_cons_zero, List.set_cons_succ]
                      refine wpAnyH_take (i := 3) (v := ?pv3) rfl (by kernel_rfl) (by kernel_rfl) (by kernel_rfl) (fun _ _ _ h => h) (Or.inl ⟨by rfl, ?py3⟩) hHeld ?_
                      case py3 => (intro w hSw; (try dsimp only at hSw); go_simp; try with_reducible rfl)
                      try simp only [Act.put, List.getElem_toArray, List.getElem_cons_succ, List.getElem_cons_zero, List.setIfInBounds_toArray, List.set_cons_zero, List.set_cons_succ]
                      refine wpAnyH_take (i := 4) (v := ?pv4) rfl (by kernel_rfl) (by kernel_rfl) (by kernel_rfl) (fun _ _ _ h => h) (Or.inl ⟨by rfl, ?py4⟩) hHeld ?_
                      case py4 => (intro w hSw; (try dsimp only at hSw); go_simp; try with_reducible rfl)
                      try simp only [Act.put, List.getElem_toArray, List.getElem_cons_succ, List.getElem_cons_zero, List.setIfInBounds_toArray, List.set_cons_zero, List.set_cons_succ]
                      refine wpAnyH_take (i := 5) (v := ?pv5) rfl (by kernel_rfl) (by kernel_rfl) (by kernel_rfl) (fun _ _ _ h => h) (Or.inl ⟨by rfl, ?py5⟩) hHeld ?_
                      case py5 => (intro w hSw; (try dsimp only at hSw); go_simp; try with_reducible rfl)
                      try simp only [Act.put, List.getElem_toArray, List.getElem_cons_succ, List.getElem_cons_zero, List.setIfInBounds_toArray, List.set_cons_zero, List.set_cons_succ]
                      refine wpAnyH_take (i := 6) (v := ?pv6) rfl (by kernel_rfl) (by kernel_rfl) (by kernel_rfl) (fun _ _ _ h => h) (Or.inl ⟨by rfl, ?py6⟩) hHeld ?_
                      case py6 => (intro w hSw; (try dsimp only at hSw); go_simp; try with_reducible rfl)
                      try simp only [Act.put, List.getElem_toArray, List.getElem_cons_succ, List.getElem_cons_zero, List.setIfInBounds_toArray, List.set_cons_zero, List.set_cons_succ]
                      refine wpAnyH_take (i := 7) (v := ?pv7) rfl (by kernel_rfl) (by kernel_rfl) (by kernel_rfl) (fun _ _ _ h => h) (Or.inl ⟨by rfl, ?py7⟩) hHeld ?_
                      case py7 => (intro w hSw; (try dsimp only at hSw); go_simp; try with_reducible rfl)
                      try simp only [Act.put, List.getElem_toArray, List.getElem_cons_succ, List.getElem_cons_zero, List.setIfInBounds_toArray, List.set_cons_zero, List.set_cons_succ]
                      refine wpAnyH_take (i := 8) (v := ?pv8) rfl (by kernel_rfl) (by kernel_rfl) (by kernel_rfl) (fun _ _ _ h => h) (Or.inl ⟨by rfl, ?py8⟩) hHeld ?_
                      case py8 => (intro w hSw; (try dsimp only at hSw); go_simp; try with_reducible rfl)
                      try simp only [Act.put, List.getElem_toArray, List.getElem_cons_succ, List.getElem_cons_zero, List.setIfInBounds_toArray, List.set_cons_zero, List.set_cons_succ]
                      refine wpAnyH_take (i := 9) (v := ?pv9) rfl (by kernel_rfl) (by kernel_rfl) (by kernel_rfl) (fun _ _ _ h => h) (Or.inl ⟨by rfl, ?py9⟩) hHeld ?_
                      case py9 => (intro w hSw; (try dsimp only at hSw); go_simp; try with_reducible rfl)
                      try simp only [Act.put, List.getElem_toArray, List.getElem_cons_succ, List.getElem_cons_zero, List.setIfInBounds_toArray, List.set_cons_zero, List.set_cons_succ]
                      refine wpAnyH_take (i := 10) (v := ?pv10) rfl (by kernel_rfl) (by kernel_rfl) (by kernel_rfl) (fun _ _ _ h => h) (Or.inl ⟨by rfl, ?py10⟩) hHeld ?_
                      case py10 => (intro w hSw; (try dsimp only at hSw); go_simp; try with_reducible rfl)
                      try simp only [Act.put, List.getElem_toArray, List.getElem_cons_succ, List.getElem_cons_zero, List.setIfInBounds_toArray, List.set_cons_zero, List.set_cons_succ]
                      refine wpAnyH_take (i := 11) (v := ?pv11) rfl (by kernel_rfl) (by kernel_rfl) (by kernel_rfl) (fun _ _ _ h => h) (Or.inl ⟨by rfl, ?py11⟩) hHeld ?_
                      case py11 => (intro w hSw; (try dsimp only at hSw); go_simp; try with_reducible rfl)
                      try simp only [Act.put, List.getElem_toArray, List.getElem_cons_succ, List.getElem_cons_zero, List.setIfInBounds_toArray, List.set_cons_zero, List.set_cons_succ]
                      refine wpAnyH_take (i := 12) (v := ?pv12) rfl (by kernel_rfl) (by kernel_rfl) (by kernel_rfl) (fun _ _ _ h => h) (Or.inl ⟨by rfl, ?py12⟩) hHeld ?_
                      case py12 => (intro w hSw; (try dsimp only at hSw); go_simp; try with_reducible rfl)
                      try simp only [Act.put, List.getElem_toArray, List.getElem_cons_succ, List.getElem_cons_zero, List.setIfInBounds_toArray, List.set_cons_zero, List.set_cons_succ]
                      refine wpAnyH_take (i := 13) (v := ?pv13) rfl (by kernel_rfl) (by kernel_rfl) (by kernel_rfl) (fun _ _ _ h => h) (Or.inl ⟨by rfl, ?py13⟩) hHeld ?_
                      case py13 => (intro w hSw; (try dsimp only at hSw); go_simp; try with_reducible rfl)
                      try simp only [Act.put, List.getElem_toArray, List.getElem_cons_succ, List.getElem_cons_zero, List.setIfInBounds_toArray, List.set_cons_zero, List.set_cons_succ]
                      refine wpAnyH_take (i := 14) (v := ?pv14) rfl (by kernel_rfl) (by kernel_rfl) (by kernel_rfl) (fun _ _ _ h => h) (Or.inl ⟨by rfl, ?py14⟩) hHeld ?_
                      case py14 => (intro w hSw; (try dsimp only at hSw); go_simp; try with_reducible rfl)
                      try simp only [Act.put, List.getElem_toArray, List.getElem_cons_succ, List.getElem_cons_zero, List.setIfInBounds_toArray, List.set_cons_zero, List.set_cons_succ]
                      refine wpAnyH_take (i := 15) (v := ?pv15) rfl (by kernel_rfl) (by kernel_rfl) (by kernel_rfl) (fun _ _ _ h => h) (Or.inl ⟨by rfl, ?py15⟩) hHeld ?_
                      case py15 => (intro w hSw; (try dsimp only at hSw); go_simp; try with_reducible rfl)
                      try simp only [Act.put, List.getElem_toArray, List.getElem_cons_succ, List.getElem_cons_zero, List.setIfInBounds_toArray, List.set_cons_zero, List.set_cons_succ]
                      refine wpAnyH_take (i := 16) (v := ?pv16) rfl (by kernel_rfl) (by kernel_rfl) (by kernel_rfl) (fun _ _ _ h => h) (Or.inl ⟨by rfl, ?py16⟩) hHeld ?_
                      case py16 => (intro w hSw; (try dsimp only at hSw); go_simp; try with_reducible rfl)
                      try simp only [Act.put, List.getElem_toArray, List.getElem_cons_succ, List.getElem_cons_zero, List.setIfInBounds_toArray, List.set_cons_zero, List.set_cons_succ]
                      refine wpAnyH_take (i := 17) (v := ?pv17) rfl (by kernel_rfl) (by kernel_rfl) (by kernel_rfl) (fun _ _ _ h => h) (Or.inl ⟨by rfl, ?py17⟩) hHeld ?_
                      case py17 => (intro w hSw; (try dsimp only at hSw); go_simp; try with_reducible rfl)
                      try simp only [Act.put, List.getElem_toArray, List.getElem_cons_succ, List.getElem_cons_zero, List.setIfInBounds_toArray, List.set_cons_zero, List.set_cons_succ]
                      refine wpAnyH_take (i := 18) (v := ?pv18) rfl (by kernel_rfl) (by kernel_rfl) (by kernel_rfl) (fun _ _ _ h => h) (Or.inl ⟨by rfl, ?py18⟩) hHeld ?_
                      case py18 => (intro w hSw; (try dsimp only at hSw); go_simp; try with_reducible rfl)
                      try simp only [Act.put, List.getElem_toArray, List.getElem_cons_succ, List.getElem_cons_zero, List.setIfInBounds_toArray, List.set_cons_zero, List.set_cons_succ]
                      refine wpAnyH_take (i := 19) (v := ?pv19) rfl (by kernel_rfl) (by kernel_rfl) (by kernel_rfl) (fun _ _ _ h => h) (Or.inl ⟨by rfl, ?py19⟩) hHeld ?_
                      case py19 => (intro w hSw; (try dsimp only at hSw); go_simp; try with_reducible rfl)
                      try simp only [Act.put, List.getElem_toArray, List.getElem_cons_succ, List.getElem_cons_zero, List.setIfInBounds_toArray, List.set_cons_zero, List.set_cons_succ]
                      refine wpAnyH_take (i := 20) (v := ?pv20) rfl (by kernel_rfl) (by kernel_rfl) (by kernel_rfl) (fun _ _ _ h => h) (Or.inl ⟨by rfl, ?py20⟩) hHeld ?_
                      case py20 => (intro w hSw; (try dsimp only at hSw); go_simp; try with_reducible rfl)
                      try simp only [Act.put, List.getElem_toArray, List.getElem_cons_succ, List.getElem_cons_zero, List.setIfInBounds_toArray, List.set_cons_zero, List.set_cons_succ]
                      refine wpAnyH_take (i := 21) (v := ?pv21) rfl (by kernel_rfl) (by kernel_rfl) (by kernel_rfl) (fun _ _ _ h => h) (Or.inl ⟨by rfl, ?py21⟩) hHeld ?_
                      case py21 => (intro w hSw; (try dsimp only at hSw); go_simp; try with_reducible rfl)
                      try simp only [Act.put, List.getElem_toArray, List.getElem_cons_succ, List.getElem_cons_zero, List.setIfInBounds_toArray, List.set_cons_zero, List.set_cons_succ]
                      refine wpAnyH_take (i := 22) (v := ?pv22) rfl (by kernel_rfl) (by kernel_rfl) (by kernel_rfl) (fun _ _ _ h => h) (Or.inl ⟨by rfl, ?py22⟩) hHeld ?_
                      case py22 => (intro w hSw; (try dsimp only at hSw); go_simp; try with_reducible rfl)
                      try simp only [Act.put, List.getElem_toArray, List.getElem_cons_succ, List.getElem_cons_zero, List.setIfInBounds_toArray, List.set_cons_zero, List.set_cons_succ]
                      refine wpAnyH_take (i := 23) (v := ?pv23) rfl (by kernel_rfl) (by kernel_rfl) (by kernel_rfl) (fun _ _ _ h => h) (Or.inl ⟨by rfl, ?py23⟩) hHeld ?_
                      case py23 => (intro w hSw; (try dsimp only at hSw); go_simp; try with_reducible rfl)
                      try simp only [Act.put, List.getElem_toArray, List.getElem_cons_succ, List.getElem_cons_zero, List.setIfInBounds_toArray, List.set_cons_zero, List.set_cons_succ]
                      refine wpAnyH_take (i := 24) (v := ?pv24) rfl (by kernel_rfl) (by kernel_rfl) (by kernel_rfl) (fun _ _ _ h => h) (Or.inl ⟨by rfl, ?py24⟩) hHeld ?_
                      case py24 => (intro w hSw; (try dsimp only at hSw); go_simp; try with_reducible rfl)
                      try simp only [Act.put, List.getElem_toArray, List.getElem_cons_succ, List.getElem_cons_zero, List.setIfInBounds_toArray, List.set_cons_zero, List.set_cons_succ]
                      refine wpAnyH_take (i := 25) (v := ?pv25) rfl (by kernel_rfl) (by kernel_rfl) (by kernel_rfl) (fun _ _ _ h => h) (Or.inl ⟨by rfl, ?py25⟩) hHeld ?_
                      case py25 => (intro w hSw; (try dsimp only at hSw); go_simp; try with_reducible rfl)
                      try simp only [Act.put, List.getElem_toArray, List.getElem_cons_succ, List.getElem_cons_zero, List.setIfInBounds_toArray, List.set_cons_zero, List.set_cons_succ]
                      refine wpAnyH_take (i := 26) (v := ?pv26) rfl (by kernel_rfl) (by kernel_rfl) (by kernel_rfl) (fun _ _ _ h => h) (Or.inl ⟨by rfl, ?py26⟩) hHeld ?_
                      case py26 => (intro w hSw; (try dsimp only at hSw); go_simp; try with_reducible rfl)
                      try simp only [Act.put, List.getElem_toArray, List.getElem_cons_succ, List.getElem_cons_zero, List.setIfInBounds_toArray, List.set_cons_zero, List.set_cons_succ]
                      refine wpAnyH_take (i := 27) (v := ?pv27) rfl (by kernel_rfl) (by kernel_rfl) (by kernel_rfl) (fun _ _ _ h => h) (Or.inl ⟨by rfl, ?py27⟩) hHeld ?_
                      case py27 => (intro w hSw; (try dsimp only at hSw); go_simp; try with_reducible rfl)
                      try simp only [Act.put, List.getElem_toArray, List.getElem_cons_succ, List.getElem_cons_zero, List.setIfInBounds_toArray, List.set_cons_zero, List.set_cons_succ]
                      refine wpAnyH_take (i := 28) (v := ?pv28) rfl (by kernel_rfl) (by kernel_rfl) (by kernel_rfl) (fun _ _ _ h => h) (Or.inl ⟨by rfl, ?py28⟩) hHeld ?_
                      case py28 => (intro w hSw; (try dsimp only at hSw); go_simp; try with_reducible rfl)
                      try simp only [Act.put, List.getElem_toArray, List.getElem_cons_succ, List.getElem_cons_zero, List.setIfInBounds_toArray, List.set_cons_zero, List.set_cons_succ]
                      refine wpAnyH_take (i := 29) (v := undef) rfl (by kernel_rfl) (by kernel_rfl) (by kernel_rfl) (fun _ _ _ h => h) (Or.inr ⟨by rfl, rfl⟩) hHeld ?_
                      try simp only [Act.put, List.getElem_toArray, List.getElem_cons_succ, List.getElem_cons_zero, List.setIfInBounds_toArray, List.set_cons_zero, List.set_cons_succ]
                      refine wpAnyH_take (i := 30) (v := undef) rfl (by kernel_rfl) (by kernel_rfl) (by kernel_rfl) (fun _ _ _ h => h) (Or.inr ⟨by rfl, rfl⟩) hHeld ?_
                      try simp only [Act.put, List.getElem_toArray, List.getElem_cons_succ, List.getElem_cons_zero, List.setIfInBounds_toArray, List.set_cons_zero, List.set_cons_succ]
                      refine wpAnyH_take (i := 31) (v := ?pv31) rfl (by kernel_rfl) (by kernel_rfl) (by kernel_rfl) (fun _ _ _ h => h) (Or.inl ⟨by rfl, ?py31⟩) hHeld ?_
                      case py31 => (intro w hSw; (try dsimp only at hSw); go_simp; try with_reducible rfl)
                      try simp only [Act.put, List.getElem_toArray, List.getElem_cons_succ, List.getElem_cons_zero, List.setIfInBounds_toArray, List.set_cons_zero, List.set_cons_succ]
                      refine wpAnyH_take (i := 32) (v := ?pv32) rfl (by kernel_rfl) (by kernel_rfl) (by kernel_rfl) (fun _ _ _ h => h) (Or.inl ⟨by rfl, ?py32⟩) hHeld ?_
                      case py32 => (intro w hSw; (try dsimp only at hSw); go_simp; try with_reducible rfl)
                      try simp only [Act.put, List.getElem_toArray, List.getElem_cons_succ, List.getElem_cons_zero, List.setIfInBounds_toArray, List.set_cons_zero, List.set_cons_succ]
                      refine wpAnyH_take (i := 33) (v := ?pv33) rfl (by kernel_rfl) (by kernel_rfl) (by kernel_rfl) (fun _ _ _ h => h) (Or.inl ⟨by rfl, ?py33⟩) hHeld ?_
                      case py33 => (intro w hSw; (try dsimp only at hSw); go_simp; try with_reducible rfl)
                      try simp only [Act.put, List.getElem_toArray, List.getElem_cons_succ, List.getElem_cons_zero, List.setIfInBounds_toArray, List.set_cons_zero, List.set_cons_succ]
                      refine wpAnyH_take (i := 34) (v := ?pv34) rfl (by kernel_rfl) (by kernel_rfl) (by kernel_rfl) (fun _ _ _ h => h) (Or.inl ⟨by rfl, ?py34⟩) hHeld ?_
                      case py34 => (intro w hSw; (try dsimp only at hSw); go_simp; try with_reducible rfl)
                      try simp only [Act.put, List.getElem_toArray, List.getElem_cons_succ, List.getElem_cons_zero, List.setIfInBounds_toArray, List.set_cons_zero, List.set_cons_succ]
                      refine wpAnyH_take (i := 35) (v := ?pv35) rfl (by kernel_rfl) (by kernel_rfl) (by kernel_rfl) (fun _ _ _ h => h) (Or.inl ⟨by rfl, ?py35⟩) hHeld ?_
                      case py35 => (intro w hSw; (try dsimp only at hSw); go_simp; try with_reducible rfl)
                      try simp only [Act.put, List.getElem_toArray, List.getElem_cons_succ, List.getElem_cons_zero, List.setIfInBounds_toArray, List.set_cons_zero, List.set_cons_succ]
                      refine wpAnyH_take (i := 37) (v := ?pv37) rfl (by kernel_rfl) (by kernel_rfl) (by kernel_rfl) (fun _ _ _ h => h) (Or.inl ⟨by rfl, ?py37⟩) hHeld ?_
                      case py37 => (intro w hSw; (try dsimp only at hSw); go_simp; try with_reducible rfl)
                      try simp only [Act.put, List.getElem_toArray, List.getElem_cons_succ, List.getElem_cons_zero, List.setIfInBounds_toArray, List.set_cons_zero, List.set_cons_succ]
                      refine wpAnyH_take (i := 38) (v := ?pv38) rfl (by kernel_rfl) (by kernel_rfl) (by kernel_rfl) (fun _ _ _ h => h) (Or.inl ⟨by rfl, ?py38⟩) hHeld ?_
                      case py38 => (intro w hSw; (try dsimp only at hSw); go_simp; try with_reducible rfl)
                      try simp only [Act.put, List.getElem_toArray, List.getElem_cons_succ, List.getElem_cons_zero, List.setIfInBounds_toArray, List.set_cons_zero, List.set_cons_succ]
                      refine wpAnyH_take (i := 39) (v := ?pv39) rfl (by kernel_rfl) (by kernel_rfl) (by kernel_rfl) (fun _ _ _ h => h) (Or.inl ⟨by rfl, ?py39⟩) hHeld ?_
                      case py39 => (intro w hSw; (try dsimp only at hSw); go_simp; try with_reducible rfl)
                      try simp only [Act.put, List.getElem_toArray, List.getElem_cons_succ, List.getElem_cons_zero, List.setIfInBounds_toArray, List.set_cons_zero, List.set_cons_succ]
                      refine wpAnyH_take (i := 40) (v := ?pv40) rfl (by kernel_rfl) (by kernel_rfl) (by kernel_rfl) (fun _ _ _ h => h) (Or.inl ⟨by rfl, ?py40⟩) hHeld ?_
                      case py40 => (intro w hSw; (try dsimp only at hSw); go_simp; try with_reducible rfl)
                      try simp only [Act.put, List.getElem_toArray, List.getElem_cons_succ, List.getElem_cons_zero, List.setIfInBounds_toArray, List.set_cons_zero, List.set_cons_succ]
                      refine wpAnyH_ready (rs := [36]) (by kernel_rfl) (by simp) ?_
                      refine AllReadyH.cons rfl (fun K hK => ?_) AllReadyH.nil
                      go_simp
                      go_at_call 45
                      refine (words_any _ mb ms m1.L m1.c m1.l 0 W HD.out.mem).mono ?_
                      rintro e w9 ⟨v1, rfl, ho, hv⟩
                      have HR1 := Lib.hid (hv.isRow (by rw [cut_whole m1.L W W1 HLEN.out, HLEN.out]; omega))
                      have HD := Lib.hid (HD.out.quiet ho)
                      clear ho hv hHeld
                      go_wp2_with fail
                      refine hK.out _ _ (HLQ.out _ HD.out) (fun hHeld => ?_)
                      clear hK K
                      try simp only [Act.put, List.setIfInBounds_toArray, List.set_cons_zero, List.set_cons_succ]
                      refine wpAnyH_ready (rs := [41]) (by kernel_rfl) (by simp) ?_
                      refine AllReadyH.cons rfl (fun K hK => ?_) AllReadyH.nil
                      go_simp
                      go_at_call 44
                      refine (eqw_alike _ _ _ m1.L (by have h := HR1.out; rw [cut_whole m1.L W W1 HLEN.out] at h; exact h) (IsRow.of_blk HD.out.ref.row rfl W HLEN.out.symm (by rw [HLEN.out]; omega))).mono ?_
                      rintro e w9 ⟨rfl, ho⟩
                      have HD := Lib.hid (HD.out.quiet ho)
                      clear ho hHeld
                      go_wp2_with fail
                      refine hK.out _ _ (HLQ.out _ HD.out) (fun hHeld => ?_)
                      clear hK K
                      try simp only [Act.put, List.setIfInBounds_toArray, List.set_cons_zero, List.set_cons_succ]
                      refine wpAnyH_take (i := 42) (v := ?pv42) rfl (by kernel_rfl) (by kernel_rfl) (by kernel_rfl) (fun _ _ _ h => h) (Or.inl ⟨by rfl, ?py42⟩) hHeld ?_
                      case py42 => (intro w hSw; (try dsimp only at hSw); go_simp; try with_reducible rfl)
                      try simp only [Act.put, List.getElem_toArray, List.getElem_cons_succ, List.getElem_cons_zero, List.setIfInBounds_toArray, List.set_cons_zero, List.set_cons_succ]
                      refine wpAnyH_take (i := 43) (v := ?pv43) rfl (by kernel_rfl) (by kernel_rfl) (by kernel_rfl) (fun _ _ _ h => h) (Or.inl ⟨by rfl, ?py43⟩) hHeld ?_
                      case py43 => (intro w hSw; (try dsimp only at hSw); go_simp; try with_reducible rfl)
                      try simp only [Act.put, List.getElem_toArray, List.getElem_cons_succ, List.getElem_cons_zero, List.setIfInBounds_toArray, List.set_cons_zero, List.set_cons_succ]
                      refine wpAnyH_done (by kernel_rfl) ?_ _
                      refine NoPanic.normal ?_
                      all_goals
                        go_wp2_with fail
                        exact ⟨⟨t + 1, o, K, _, _, _, _, _, _, by omega, by go_num, by omega, rfl, HD.out, HEQ.out, HLEN.out, HDJ.out⟩, by simp [intOf]; omega⟩
                  · as_aux_lemma =>
                      go_wp2_with fail
                      refine HPR.out.mono ?_
                      rintro e w8 ⟨rfl, ho⟩
                      have HS := Lib.hid (HS.out.quiet ho)
                      clear ho HPR
                      have HLQ : Hid (∀ wx, DSt w wx mb ms lb rb rs a n #[.int .u8 a, .int .u8 n, .slice A2 l2.length cap2, .int .u8 th, .slice (some ⟨go, o4, none⟩) l.length cap4, .int .u8 wd] m1 m1 (.slice A N cap) N K B KB (ext S j s1) (.slice A' N cap') N K C (ext R j s1) → wx.cell? ⟨cc, 3, none⟩ = some (.int .u64 v') ∧ wx.cell? ⟨cc, 8, none⟩ = some (.bool d2) ∧ wx.cell? ⟨cc, 9, none⟩ = some (.bool false) ∧ wx.cell? ⟨rb, 0, none⟩ = some (.slice (some ⟨rs, 0, none⟩) W W)) := Lib.hid (fun wx h => by
                        have h2 := h.ref.c0
                        rw [HLEN.out] at h2
                        have h3 := h.isr j hk
                        rw [ext_same, HCC.out] at h3
                        obtain ⟨k1, k2, k3⟩ := HCL.out wx h3
                        exact ⟨k1, k2, k3, h2⟩)
                      go_upto_region 39 with fail
                      have HD := Lib.hid (HS.out.quiet (Only.refl [] _).drew)
                      refine wp_region_noPanic ?_
                      refine wp_region_held_drew (S := fun w' => w'.cell? ⟨cc, 3, none⟩ = some (.int .u64 v') ∧ w'.cell? ⟨cc, 8, none⟩ = some (.bool d2) ∧ w'.cell? ⟨cc, 9, none⟩ = some (.bool false) ∧ w'.cell? ⟨rb, 0, none⟩ = some (.slice (some ⟨rs, 0, none⟩) W W)) (by kernel_rfl) (HLQ.out _ HD.out) (fun hHeld => ?_)
                      refine wpAnyH_take (i := 0) (v := ?qv0) rfl (by kernel_rfl) (by kernel_rfl) (by kernel_rfl) (fun _ _ _ h => h) (Or.inl ⟨by rfl, ?qy0⟩) hHeld ?_
                      case qy0 => (intro w hSw; (try dsimp only at hSw); go_simp; try with_reducible rfl)
                      try simp only [Act.put, List.getElem_toArray, List.getElem_cons_zero, List.setIfInBounds_toArray, List.set_cons_zero, List.set_cons_succ]
                      refine wpAnyH_take (i := 1) (v := ?qv1) rfl (by kernel_rfl) (by kernel_rfl) (by kernel_rfl) (fun _ _ _ h => h) (Or.inl ⟨by rfl, ?qy1⟩) hHeld ?_
                      case qy1 => (intro w hSw; (try dsimp only at hSw); go_simp; try with_reducible rfl)
                      try simp only [Act.put, List.getElem_toArray, List.getElem_cons_succ, List.getElem_cons_zero, List.setIfInBounds_toArray, List.set_cons_zero, List.set_cons_succ]
                      refine wpAnyH_take (i := 2) (v := ?qv2) rfl (by kernel_rfl) (by kernel_rfl) (by kernel_rfl) (fun _ _ _ h => h) (Or.inl ⟨by rfl, ?qy2⟩) hHeld ?_
                      case qy2 => (intro w hSw; (try dsimp only at hSw); go_simp; try with_reducible rfl)
                      try simp only [Act.put, List.getElem_toArray, List.getElem_cons_succ, List.getElem_cons_zero, List.setIfInBounds_toArray, List.set_cons_zero, List.set_cons_succ]
                      refine wpAnyH_take (i := 3) (v := ?qv3) rfl (by kernel_rfl) (by kernel_rfl) (by kernel_rfl) (fun _ _ _ h => h) (Or.inl ⟨by rfl, ?qy3⟩) hHeld ?_
                      case qy3 => (intro w hSw; (try dsimp only at hSw); go_simp; try with_reducible rfl)
                      try simp only [Act.put, List.getElem_toArray, List.getElem_cons_succ, List.getElem_cons_zero, List.setIfInBounds_toArray, List.set_cons_zero, List.set_cons_succ]
                      refine wpAnyH_take (i := 4) (v := ?qv4) rfl (by kernel_rfl) (by kernel_rfl) (by kernel_rfl) (fun _ _ _ h => h) (Or.inl ⟨by rfl, ?qy4⟩) hHeld ?_
                      case qy4 => (intro w hSw; (try dsimp only at hSw); go_simp; try with_reducible rfl)
                      try simp only [Act.put, List.getElem_toArray, List.getElem_cons_succ, List.getElem_cons_zero, List.setIfInBounds_toArray, List.set_cons_zero, List.set_cons_succ]
                      refine wpAnyH_take (i := 5) (v := ?qv5) rfl (by kernel_rfl) (by kernel_rfl) (by kernel_rfl) (fun _ _ _ h => h) (Or.inl ⟨by rfl, ?qy5⟩) hHeld ?_
                      case qy5 => (intro w hSw; (try dsimp only at hSw); go_simp; try with_reducible rfl)
                      try simp only [Act.put, List.getElem_toArray, List.getElem_cons_succ, List.getElem_cons_zero, List.setIfInBounds_toArray, List.set_cons_zero, List.set_cons_succ]
                      refine wpAnyH_take (i := 6) (v := ?qv6) rfl (by kernel_rfl) (by kernel_rfl) (by kernel_rfl) (fun _ _ _ h => h) (Or.inl ⟨by rfl, ?qy6⟩) hHeld ?_
                      case qy6 => (intro w hSw; (try dsimp only at hSw); go_simp; try with_reducible rfl)
                      try simp only [Act.put, List.getElem_toArray, List.getElem_cons_succ, List.getElem_cons_zero, List.setIfInBounds_toArray, List.set_cons_zero, List.set_cons_succ]
                      refine wpAnyH_take (i := 7) (v := ?qv7) rfl (by kernel_rfl) (by kernel_rfl) (by kernel_rfl) (fun _ _ _ h => h) (Or.inl ⟨by rfl, ?qy7⟩) hHeld ?_
                      case qy7 => (intro w hSw; (try dsimp only at hSw); go_simp; try with_reducible rfl)
                      try simp only [Act.put, List.getElem_toArray, List.getElem_cons_succ, List.getElem_cons_zero, List.setIfInBounds_toArray, List.set_cons_zero, List.set_cons_succ]
                      refine wpAnyH_take (i := 8) (v := ?qv8) rfl (by kernel_rfl) (by kernel_rfl) (by kernel_rfl) (fun _ _ _ h => h) (Or.inl ⟨by rfl, ?qy8⟩) hHeld ?_
                      case qy8 => (intro w hSw; (try dsimp only at hSw); go_simp; try with_reducible rfl)
                      try simp only [Act.put, List.getElem_toArray, List.getElem_cons_succ, List.getElem_cons_zero, List.setIfInBounds_toArray, List.set_cons_zero, List.set_cons_succ]
                      refine wpAnyH_take (i := 9) (v := ?qv9) rfl (by kernel_rfl) (by kernel_rfl) (by kernel_rfl) (fun _ _ _ h => h) (Or.inl ⟨by rfl, ?qy9⟩) hHeld ?_
                      case qy9 => (intro w hSw; (try dsimp only at hSw); go_simp; try with_reducible rfl)
                      try simp only [Act.put, List.getElem_toArray, List.getElem_cons_succ, List.getElem_cons_zero, List.setIfInBounds_toArray, List.set_cons_zero, List.set_cons_succ]
                      refine wpAnyH_take (i := 10) (v := ?qv10) rfl (by kernel_rfl) (by kernel_rfl) (by kernel_rfl) (fun _ _ _ h => h) (Or.inl ⟨by rfl, ?qy10⟩) hHeld ?_
                      case qy10 => (intro w hSw; (try dsimp only at hSw); go_simp; try with_reducible rfl)
                      try simp only [Act.put, List.getElem_toArray, List.getElem_cons_succ, List.getElem_cons_zero, List.setIfInBounds_toArray, List.set_cons_zero, List.set_cons_succ]
                      refine wpAnyH_take (i := 11) (v := ?qv11) rfl (by kernel_rfl) (by kernel_rfl) (by kernel_rfl) (fun _ _ _ h => h) (Or.inl ⟨by rfl, ?qy11⟩) hHeld ?_
                      case qy11 => (intro w hSw; (try dsimp only at hSw); go_simp; try with_reducible rfl)
                      try simp only [Act.put, List.getElem_toArray, List.getElem_cons_succ, List.getElem_cons_zero, List.setIfInBounds_toArray, List.set_cons_zero, List.set_cons_succ]
                      refine wpAnyH_take (i := 12) (v := ?qv12) rfl (by kernel_rfl) (by kernel_rfl) (by kernel_rfl) (fun _ _ _ h => h) (Or.inl ⟨by rfl, ?qy12⟩) hHeld ?_
                      case qy12 => (intro w hSw; (try dsimp only at hSw); go_simp; try with_reducible rfl)
                      try simp only [Act.put, List.getElem_toArray, List.getElem_cons_succ, List.getElem_cons_zero, List.setIfInBounds_toArray, List.set_cons_zero, List.set_cons_succ]
                      refine wpAnyH_take (i := 13) (v := ?qv13) rfl (by kernel_rfl) (by kernel_rfl) (by kernel_rfl) (fun _ _ _ h => h) (Or.inl ⟨by rfl, ?qy13⟩) hHeld ?_
                      case qy13 => (intro w hSw; (try dsimp only at hSw); go_simp; try with_reducible rfl)
                      try simp only [Act.put, List.getElem_toArray, List.getElem_cons_succ, List.getElem_cons_zero, List.setIfInBounds_toArray, List.set_cons_zero, List.set_cons_succ]
                      refine wpAnyH_take (i := 14) (v := ?qv14) rfl (by kernel_rfl) (by kernel_rfl) (by kernel_rfl) (fun _ _ _ h => h) (Or.inl ⟨by rfl, ?qy14⟩) hHeld ?_
                      case qy14 => (intro w hSw; (try dsimp only at hSw); go_simp; try with_reducible rfl)
                      try simp only [Act.put, List.getElem_toArray, List.getElem_cons_succ, List.getElem_cons_zero, List.setIfInBounds_toArray, List.set_cons_zero, List.set_cons_succ]
                      refine wpAnyH_take (i := 15) (v := ?qv15) rfl (by kernel_rfl) (by kernel_rfl) (by kernel_rfl) (fun _ _ _ h => h) (Or.inl ⟨by rfl, ?qy15⟩) hHeld ?_
                      case qy15 => (intro w hSw; (try dsimp only at hSw); go_simp; try with_reducible rfl)
                      try simp only [Act.put, List.getElem_toArray, List.getElem_cons_succ, List.getElem_cons_zero, List.setIfInBounds_toArray, List.set_cons_zero, List.set_cons_succ]
                      refine wpAnyH_take (i := 16) (v := ?qv16) rfl (by kernel_rfl) (by kernel_rfl) (by kernel_rfl) (fun _ _ _ h => h) (Or.inl ⟨by rfl, ?qy16⟩) hHeld ?_
                      case qy16 => (intro w hSw; (try dsimp only at hSw); go_simp; try with_reducible rfl)
                      try simp only [Act.put, List.getElem_toArray, List.getElem_cons_succ, List.getElem_cons_zero, List.setIfInBounds_toArray, List.set_cons_zero, List.set_cons_succ]
                      refine wpAnyH_take (i := 17) (v := undef) rfl (by kernel_rfl) (by kernel_rfl) (by kernel_rfl) (fun _ _ _ h => h) (Or.inr ⟨by rfl, rfl⟩) hHeld ?_
                      try simp only [Act.put, List.getElem_toArray, List.getElem_cons_succ, List.getElem_cons_zero, List.setIfInBounds_toArray, List.set_cons_zero, List.set_cons_succ]
                      refine wpAnyH_take (i := 18) (v := undef) rfl (by kernel_rfl) (by kernel_rfl) (by kernel_rfl) (fun _ _ _ h => h) (Or.inr ⟨by rfl, rfl⟩) hHeld ?_
                      try simp only [Act.put, List.getElem_toArray, List.getElem_cons_succ, List.getElem_cons_zero, List.setIfInBounds_toArray, List.set_cons_zero, List.set_cons_succ]
                      refine wpAnyH_take (i := 19) (v := undef) rfl (by kernel_rfl) (by kernel_rfl) (by kernel_rfl) (fun _ _ _ h => h) (Or.inr ⟨by rfl, rfl⟩) hHeld ?_
                      try simp only [Act.put, List.getElem_toArray, List.getElem_cons_succ, List.getElem_cons_zero, List.setIfInBounds_toArray, List.set_cons_zero, List.set_cons_succ]
                      refine wpAnyH_take (i := 20) (v := undef) rfl (by kernel_rfl) (by kernel_rfl) (by kernel_rfl) (fun _ _ _ h => h) (Or.inr ⟨by rfl, rfl⟩) hHeld ?_
                      try simp only [Act.put, List.getElem_toArray, List.getElem_cons_succ, List.getElem_cons_zero, List.setIfInBounds_toArray, List.set_cons_zero, List.set_cons_succ]
                      refine wpAnyH_take (i := 21) (v := undef) rfl (by kernel_rfl) (by kernel_rfl) (by kernel_rfl) (fun _ _ _ h => h) (Or.inr ⟨by rfl, rfl⟩) hHeld ?_
                      try simp only [Act.put, List.getElem_toArray, List.getElem_cons_succ, List.getElem_cons_zero, List.setIfInBounds_toArray, List.set_cons_zero, List.set_cons_succ]
                      refine wpAnyH_take (i := 22) (v := undef) rfl (by kernel_rfl) (by kernel_rfl) (by kernel_rfl) (fun _ _ _ h => h) (Or.inr ⟨by rfl, rfl⟩) hHeld ?_
                      try simp only [Act.put, List.getElem_toArray, List.getElem_cons_succ, List.getElem_cons_zero, List.setIfInBounds_toArray, List.set_cons_zero, List.set_cons_succ]
                      refine wpAnyH_take (i := 23) (v := ?qv23) rfl (by kernel_rfl) (by kernel_rfl) (by kernel_rfl) (fun _ _ _ h => h) (Or.inl ⟨by rfl, ?qy23⟩) hHeld ?_
                      case qy23 => (intro w hSw; (try dsimp only at hSw); go_simp; try with_reducible rfl)
                      try simp only [Act.put, List.getElem_toArray, List.getElem_cons_succ, List.getElem_cons_zero, List.setIfInBounds_toArray, List.set_cons_zero, List.set_cons_succ]
                      refine wpAnyH_take (i := 24) (v := ?qv24) rfl (by kernel_rfl) (by kernel_rfl) (by kernel_rfl) (fun _ _ _ h => h) (Or.inl ⟨by rfl, ?qy24⟩) hHeld ?_
                      case qy24 => (intro w hSw; (try dsimp only at hSw); go_simp; try with_reducible rfl)
                      try simp only [Act.put, List.getElem_toArray, List.getElem_cons_succ, List.getElem_cons_zero, List.setIfInBounds_toArray, List.set_cons_zero, List.set_cons_succ]
                      refine wpAnyH_take (i := 25) (v := ?qv25) rfl (by kernel_rfl) (by kernel_rfl) (by kernel_rfl) (fun _ _ _ h => h) (Or.inl ⟨by rfl, ?qy25⟩) hHeld ?_
                      case qy25 => (intro w hSw; (try dsimp only at hSw); go_simp; try with_reducible rfl)
                      try simp only [Act.put, List.getElem_toArray, List.getElem_cons_succ, List.getElem_cons_zero, List.setIfInBounds_toArray, List.set_cons_zero, List.set_cons_succ]
                      refine wpAnyH_take (i := 26) (v := ?qv26) rfl (by kernel_rfl) (by kernel_rfl) (by kernel_rfl) (fun _ _ _ h => h) (Or.inl ⟨by rfl, ?qy26⟩) hHeld ?_
                      case qy26 => (intro w hSw; (try dsimp only at hSw); go_simp; try with_reducible rfl)
                      try simp only [Act.put, List.getElem_toArray, List.getElem_cons_succ, List.getElem_cons_zero, List.setIfInBounds_toArray, List.set_cons_zero, List.set_cons_succ]
                      refine wpAnyH_take (i := 27) (v := ?qv27) rfl (by kernel_rfl) (by kernel_rfl) (by kernel_rfl) (fun _ _ _ h => h) (Or.inl ⟨by rfl, ?qy27⟩) hHeld ?_
                      case qy27 => (intro w hSw; (try dsimp only at hSw); go_simp; try with_reducible rfl)
                      try simp only [Act.put, List.getElem_toArray, List.getElem_cons_succ, List.getElem_cons_zero, List.setIfInBounds_toArray, List.set_cons_zero, List.set_cons_succ]
                      refine wpAnyH_take (i := 28) (v := ?qv28) rfl (by kernel_rfl) (by kernel_rfl) (by kernel_rfl) (fun _ _ _ h => h) (Or.inl ⟨by rfl, ?qy28⟩) hHeld ?_
                      case qy28 => (intro w hSw; (try dsimp only at hSw); go_simp; try with_reducible rfl)
                      try simp only [Act.put, List.getElem_toArray, List.getElem_cons_succ, List.getElem_cons_zero, List.setIfInBounds_toArray, List.set_cons_zero, List.set_cons_succ]
                      refine wpAnyH_take (i := 29) (v := ?qv29) rfl (by kernel_rfl) (by kernel_rfl) (by kernel_rfl) (fun _ _ _ h => h) (Or.inl ⟨by rfl, ?qy29⟩) hHeld ?_
                      case qy29 => (intro w hSw; (try dsimp only at hSw); go_simp; try with_reducible rfl)
                      try simp only [Act.put, List.getElem_toArray, List.getElem_cons_succ, List.getElem_cons_zero, List.setIfInBounds_toArray, List.set_cons_zero, List.set_cons_succ]
                      refine wpAnyH_take (i := 30) (v := ?qv30) rfl (by kernel_rfl) (by kernel_rfl) (by kernel_rfl) (fun _ _ _ h => h) (Or.inl ⟨by rfl, ?qy30⟩) hHeld ?_
                      case qy30 => (intro w hSw; (try dsimp only at hSw); go_simp; try with_reducible rfl)
                      try simp only [Act.put, List.getElem_toArray, List.getElem_cons_succ, List.getElem_cons_zero, List.setIfInBounds_toArray, List.set_cons_zero, List.set_cons_succ]
                      refine wpAnyH_take (i := 31) (v := ?qv31) rfl (by kernel_rfl) (by kernel_rfl) (by kernel_rfl) (fun _ _ _ h => h) (Or.inl ⟨by rfl, ?qy31⟩) hHeld ?_
                      case qy31 => (intro w hSw; (try dsimp only at hSw); go_simp; try with_reducible rfl)
                      try simp only [Act.put, List.getElem_toArray, List.getElem_cons_succ, List.getElem_cons_zero, List.setIfInBounds_toArray, List.set_cons_zero, List.set_cons_succ]
                      refine wpAnyH_take (i := 32) (v := ?qv32) rfl (by kernel_rfl) (by kernel_rfl) (by kernel_rfl) (fun _ _ _ h => h) (Or.inl ⟨by rfl, ?qy32⟩) hHeld ?_
                      case qy32 => (intro w hSw; (try dsimp only at hSw); go_simp; try with_reducible rfl)
                      try simp only [Act.put, List.getElem_toArray, List.getElem_cons_succ, List.getElem_cons_zero, List.setIfInBounds_toArray, List.set_cons_zero, List.set_cons_succ]
                      refine wpAnyH_take (i := 33) (v := ?qv33) rfl (by kernel_rfl) (by kernel_rfl) (by kernel_rfl) (fun _ _ _ h => h) (Or.inl ⟨by rfl, ?qy33⟩) hHeld ?_
                      case qy33 => (intro w hSw; (try dsimp only at hSw); go_simp; try with_reducible rfl)
                      try simp only [Act.put, List.getElem_toArray, List.getElem_cons_succ, List.getElem_cons_zero, List.setIfInBounds_toArray, List.set_cons_zero, List.set_cons_succ]
                      refine wpAnyH_take (i := 34) (v := ?qv34) rfl (by kernel_rfl) (by kernel_rfl) (by kernel_rfl) (fun _ _ _ h => h) (Or.inl ⟨by rfl, ?qy34⟩) hHeld ?_
                      case qy34 => (intro w hSw; (try dsimp only at hSw); go_simp; try with_reducible rfl)
                      try simp only [Act.put, List.getElem_toArray, List.getElem_cons_succ, List.getElem_cons_zero, List.setIfInBounds_toArray, List.set_cons_zero, List.set_cons_succ]
                      refine wpAnyH_take (i := 35) (v := ?qv35) rfl (by kernel_rfl) (by kernel_rfl) (by kernel_rfl) (fun _ _ _ h => h) (Or.inl ⟨by rfl, ?qy35⟩) hHeld ?_
                      case qy35 => (intro w hSw; (try dsimp only at hSw); go_simp; try with_reducible rfl)
                      try simp only [Act.put, List.getElem_toArray, List.getElem_cons_succ, List.getElem_cons_zero, List.setIfInBounds_toArray, List.set_cons_zero, List.set_cons_succ]
                      refine wpAnyH_take (i := 37) (v := ?qv37) rfl (by kernel_rfl) (by kernel_rfl) (by kernel_rfl) (fun _ _ _ h => h) (Or.inl ⟨by rfl, ?qy37⟩) hHeld ?_
                      case qy37 => (intro w hSw; (try dsimp only at hSw); go_simp; try with_reducible rfl)
                      try simp only [Act.put, List.getElem_toArray, List.getElem_cons_succ, List.getElem_cons_zero, List.setIfInBounds_toArray, List.set_cons_zero, List.set_cons_succ]
                      refine wpAnyH_take (i := 38) (v := ?qv38) rfl (by kernel_rfl) (by kernel_rfl) (by kernel_rfl) (fun _ _ _ h => h) (Or.inl ⟨by rfl, ?qy38⟩) hHeld ?_
                      case qy38 => (intro w hSw; (try dsimp only at hSw); go_simp; try with_reducible rfl)
                      try simp only [Act.put, List.getElem_toArray, List.getElem_cons_succ, List.getElem_cons_zero, List.setIfInBounds_toArray, List.set_cons_zero, List.set_cons_succ]
                      refine wpAnyH_take (i := 39) (v := ?qv39) rfl (by kernel_rfl) (by kernel_rfl) (by kernel_rfl) (fun _ _ _ h => h) (Or.inl ⟨by rfl, ?qy39⟩) hHeld ?_
                      case qy39 => (intro w hSw; (try dsimp only at hSw); go_simp; try with_reducible rfl)
                      try simp only [Act.put, List.getElem_toArray, List.getElem_cons_succ, List.getElem_cons_zero, List.setIfInBounds_toArray, List.set_cons_zero, List.set_cons_succ]
                      refine wpAnyH_take (i := 40) (v := ?qv40) rfl (by kernel_rfl) (by kernel_rfl) (by kernel_rfl) (fun _ _ _ h => h) (Or.inl ⟨by rfl, ?qy40⟩) hHeld ?_
                      case qy40 => (intro w hSw; (try dsimp only at hSw); go_simp; try with_reducible rfl)
                      try simp only [Act.put, List.getElem_toArray, List.getElem_cons_succ, List.getElem_cons_zero, List.setIfInBounds_toArray, List.set_cons_zero, List.set_cons_succ]
                      refine wpAnyH_ready (rs := [36]) (by kernel_rfl) (by simp) ?_
                      refine AllReadyH.cons rfl (fun K hK => ?_) AllReadyH.nil
                      go_simp
                      go_at_call 45
                      refine (words_any _ mb ms m1.L m1.c m1.l 0 W HD.out.mem).mono ?_
                      rintro e w9 ⟨v1, rfl, ho, hv⟩
                      have HR1 := Lib.hid (hv.isRow (by rw [cut_whole m1.L W W1 HLEN.out, HLEN.out]; omega))
                      have HD := Lib.hid (HD.out.quiet ho)
                      clear ho hv hHeld
                      go_wp2_with fail
                      refine hK.out _ _ (HLQ.out _ HD.out) (fun hHeld => ?_)
                      clear hK K
                      try simp only [Act.put, List.setIfInBounds_toArray, List.set_cons_zero, List.set_cons_succ]
                      refine wpAnyH_ready (rs := [41]) (by kernel_rfl) (by simp) ?_
                      refine AllReadyH.cons rfl (fun K hK => ?_) AllReadyH.nil
                      go_simp
                      go_at_call 44
                      refine (eqw_alike _ _ _ m1.L (by have h := HR1.out; rw [cut_whole m1.L W W1 HLEN.out] at h; exact h) (IsRow.of_blk HD.out.ref.row rfl W HLEN.out.symm (by rw [HLEN.out]; omega))).mono ?_
                      rintro e w9 ⟨rfl, ho⟩
                      have HD := Lib.hid (HD.out.quiet ho)
                      clear ho hHeld
                      go_wp2_with fail
                      refine hK.out _ _ (HLQ.out _ HD.out) (fun hHeld => ?_)
                      clear hK K
                      try simp only [Act.put, List.setIfInBounds_toArray, List.set_cons_zero, List.set_cons_succ]
                      refine wpAnyH_take (i := 42) (v := ?qv42) rfl (by kernel_rfl) (by kernel_rfl) (by kernel_rfl) (fun _ _ _ h => h) (Or.inl ⟨by rfl, ?qy42⟩) hHeld ?_
                      case qy42 => (intro w hSw; (try dsimp only at hSw); go_simp; try with_reducible rfl)
                      try simp only [Act.put, List.getElem_toArray, List.getElem_cons_succ, List.getElem_cons_zero, List.setIfInBounds_toArray, List.set_cons_zero, List.set_cons_succ]
                      refine wpAnyH_take (i := 43) (v := ?qv43) rfl (by kernel_rfl) (by kernel_rfl) (by kernel_rfl) (fun _ _ _ h => h) (Or.inl ⟨by rfl, ?qy43⟩) hHeld ?_
                      case qy43 => (intro w hSw; (try dsimp only at hSw); go_simp; try with_reducible rfl)
                      try simp only [Act.put, List.getElem_toArray, List.getElem_cons_succ, List.getElem_cons_zero, List.setIfInBounds_toArray, List.set_cons_zero, List.set_cons_succ]
                      refine wpAnyH_done (by kernel_rfl) ?_ _
                      refine NoPanic.normal ?_
                      all_goals
                        go_wp2_with fail
                        exact ⟨⟨t + 1, o, K, _, _, _, _, _, _, by omega, by go_num, by omega, rfl, HD.out, HEQ.out, HLEN.out, HDJ.out⟩, by simp [intOf]; omega⟩
          · have hlti : ¬ (t : Int) < l.length := by omega
            clear HEQ HLEN HDJ
            go_wp2_with fail
            refine (known07 _).mono ?_
            rintro e w2 ⟨rfl, ho⟩
            have HO := Lib.hid (HS.out.out.trans ho)
            clear ho
            go_wp2_with fail
            go_ret
            exact ⟨rfl, HO.out⟩
  · have HRI := Lib.hid hrt
    rw [decide_eq_false hrt]
    clear hrt
    have b0 := HRC.out.lock.at 0 (v := .int .i64 a) rfl
    have b1 := HRC.out.lock.at 1 (v := .int .i64 n) rfl
    go_wp2_with fail
    refine (dpush_none _ a n 1 HRI.out).mono ?_
    rintro e w7 ⟨rfl, ho⟩
    have HRC := Lib.hid (HRC.out.quiet ho)
    clear ho b0 b1
    have b0 := HRC.out.lock.at 0 (v := .int .i64 a) rfl
    have b1 := HRC.out.lock.at 1 (v := .int .i64 n) rfl
    go_wp2_with fail
    refine (dpop_none _ a n HRI.out).mono ?_
    rintro e w8 ⟨rfl, ho⟩
    have HRC := Lib.hid (HRC.out.quiet ho)
    clear ho b0 b1
    have b0 := HRC.out.lock.at 0 (v := .int .i64 a) rfl
    have b1 := HRC.out.lock.at 1 (v := .int .i64 n) rfl
    go_wp2_with fail
    refine (dsteal_none _ a n HRI.out).mono ?_
    rintro e w9 ⟨rfl, ho⟩
    have HRC := Lib.hid (HRC.out.quiet ho)
    clear ho b0 b1
    go_wp2_with fail
    refine (known07 _).mono ?_
    rintro e w10 ⟨rfl, ho⟩
    have HRC := Lib.hid (HRC.out.quiet ho)
    clear ho
    go_wp2_with fail
    go_ret
    exact ⟨rfl, HRC.out.out⟩

end Go.Proofs.Ytoecoijmkjhkgaa
