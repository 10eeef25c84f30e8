/- The walk of law RingOnce. Written by onceg.py. -/
import Derived.Test.YtoecoijmkjhkgaaROnceC
namespace Go.Proofs.Ytoecoijmkjhkgaa
open Go.RowKit

set_option maxHeartbeats 8000000 in
set_option maxRecDepth 100000 in
theorem ringonce_walk (w : World) (a s pp wd : Int) (A2 : Option Addr) (n2 cap2 : Nat) (A4 : Option Addr) (l : List Int) (cap4 : Nat) (s0 : 0 ≤ s) (s1 : s ≤ 255) (p0' : 0 ≤ pp) (p1' : pp ≤ 255) (hr4 : ReadsB w A4 l) (hby : ∀ i, i < l.length → 0 ≤ nth l i ∧ nth l i ≤ 255) :
    Calls Try.prog 3 #[.agg #[.int .u8 a, .int .u8 s, .slice A2 n2 cap2, .int .u8 pp, .slice A4 l.length cap4, .int .u8 wd]] w fun e w' => e = .returned (.bool true) ∧ Only [] w w' := by
  obtain ⟨i0, hi, hz0, hz1, hz2⟩ := info_parts Try.infoPu
  have HI0 := Lib.hid (And.intro hi (And.intro hz0 (And.intro hz1 hz2)))
  clear hi hz0 hz1 hz2
  obtain ⟨i1, hi, hz0, hz1, hz2⟩ := info_parts Try.infoPo
  have HI1 := Lib.hid (And.intro hi (And.intro hz0 (And.intro hz1 hz2)))
  clear hi hz0 hz1 hz2
  have HB := Lib.hid (Blk.new w 25 #[.int .u8 a, .int .u8 s, .slice A2 n2 cap2, .int .u8 pp, .slice A4 l.length cap4, .int .u8 wd])
  have HO := Lib.hid ((Only.refl [] w).alloc (.cells #[.int .u8 a, .int .u8 s, .slice A2 n2 cap2, .int .u8 pp, .slice A4 l.length cap4, .int .u8 wd] 25))
  have HR4 := Lib.hid hr4
  have HBY := Lib.hid hby
  clear hr4 hby
  obtain ⟨n, hq⟩ : ∃ n : Nat, 2 + s % 4 = (n : Int) := ⟨(2 + s % 4).toNat, by omega⟩
  have n2' : 2 ≤ n := by omega
  have n5 : n ≤ 5 := by omega
  obtain ⟨M0, hM0⟩ : ∃ M0 : Nat, pp % 12 = (M0 : Int) := ⟨(pp % 12).toNat, by omega⟩
  have hM12 : M0 ≤ 12 := by omega
  go_enter Try.func3, Try.ntmps3
  have c2 := HB.out.at 2 (v := .slice A2 n2 cap2) rfl
  have c4 := HB.out.at 4 (v := .slice A4 l.length cap4) rfl
  by_cases hn2 : 12 < n2
  · have hn2i : (12 : Int) < n2 := by omega
    go_wp2_with fail
    refine (known06 _).mono ?_
    rintro e w2 ⟨rfl, ho⟩
    have HO := Lib.hid (HO.out.trans ho)
    clear ho
    go_wp2_with fail
    go_ret
    exact ⟨rfl, HO.out⟩
  have hn2i : ¬ (12 : Int) < n2 := by omega
  by_cases hl4 : 400 < l.length
  · have hl4i : (400 : Int) < l.length := by omega
    go_wp2_with fail
    refine (known06 _).mono ?_
    rintro e w2 ⟨rfl, ho⟩
    have HO := Lib.hid (HO.out.trans ho)
    clear ho
    go_wp2_with fail
    go_ret
    exact ⟨rfl, HO.out⟩
  have hl4i : ¬ (400 : Int) < l.length := by omega
  have hn2 : n2 ≤ 12 := by omega
  have hl4 : l.length ≤ 400 := by omega
  have c1 := HB.out.at 1 (v := .int .u8 s) rfl
  go_wp2_with fail
  refine (new_any _ 40 (by omega) (by omega)).mono ?_
  rintro e w1 ⟨mb, ms, rfl, hmb, hms, ho, hm⟩
  have HN := Lib.hid (And.intro hmb hms)
  have HO := Lib.hid ((HO.out.trans ho).alloc (.cells #[.int .i64 2, .int .i64 n] 32))
  have HL := Lib.hid (Blk.new w1 32 #[.int .i64 2, .int .i64 n])
  have HB := Lib.hid ((HB.out.only ho (by simp)).alloc (.cells #[.int .i64 2, .int .i64 n] 32))
  have HM := Lib.hid (hm.same' ((Only.refl [] w1).alloc (.cells #[.int .i64 2, .int .i64 n] 32)))
  clear hmb hms ho hm c1 c2 c4
  obtain ⟨lb, hlb⟩ : ∃ lb, w1.heap.size = lb := ⟨_, rfl⟩
  rw [hlb] at HL
  have HLB := Lib.hid hlb
  go_wp2_with fail
  refine (rg_init (a := 2) HM.out (new_rng 40) (by simp [MS.new]; omega) (by omega) n2' (by omega)).mono ?_
  rintro e w2 ⟨rfl, ho, m0, hm, hr, hra, _⟩
  have HST : Hid (RoSt w w2 mb ms lb 2 n #[.int .u8 a, .int .u8 s, .slice A2 n2 cap2, .int .u8 pp, .slice A4 l.length cap4, .int .u8 wd] m0 (.slice none 0 0) 0 (fun _ => 0) (fun _ => ⟨0, 0, 0, 0, false, 0⟩) (.slice none 0 0) 0 (fun _ => 0) (fun _ => ⟨0, 0, 0, 0, false, 0⟩)) := by
    have h1 := HN.out
    have h2 := HO.out.size
    have h3 := HL.out.ne HM.out.obj (by decide)
    have h4 := HL.out.ne HM.out.row (by decide)
    have h5 := HB.out.ne HM.out.obj (by decide)
    have h6 := HB.out.ne HM.out.row (by decide)
    have h7 : w.heap.size ≤ mb ∧ w.heap.size ≤ ms := by simp at h1; omega
    exact Lib.hid ⟨HO.out.then ho (by simp; omega), h7, hm, hr, HL.out.only ho (by simp; omega), HB.out.only ho (by simp; omega), .nil _ _ _ _ _ _, .nil _ _ _ _ _ _⟩
  have HRA := Lib.hid hra
  have HRI := Lib.hid (show ringRight 2 n from ⟨⟨by decide, by decide⟩, by omega, by omega⟩)
  clear ho hm hr hra HO HL HB HM HN HLB hlb
  go_wp2_with fail
  go_loopw [7, 9] (fun v i wr => ∃ (k : Nat) (B : Nat → Nat) (P : Nat → RQ), k ≤ n2 ∧ i = .int .i64 k ∧ RoSt w wr mb ms lb 2 n #[.int .u8 a, .int .u8 s, .slice A2 n2 cap2, .int .u8 pp, .slice A4 l.length cap4, .int .u8 wd] m0 v k B P (.slice none 0 0) 0 (fun _ => 0) (fun _ => ⟨0, 0, 0, 0, false, 0⟩) ∧ ∀ j, j < k → P j = ⟨2, n, 0, 0, false, 100 + (j : Int)⟩) (fun _ i _ => n2 - (intOf i).toNat)
  case atStart => exact ⟨0, _, _, by omega, rfl, HST.out, fun j hj => absurd hj (by omega)⟩
  case round =>
    clear HST
    obtain ⟨wo, hwo⟩ : ∃ wo, wo = wr := ⟨_, rfl⟩
    subst hwo
    obtain ⟨k, B, P, hk, rfl, hst, hP⟩ := hrel
    have HS := Lib.hid hst
    have HP := Lib.hid hP
    have c2 := hst.case_.at 2 (v := .slice A2 n2 cap2) rfl
    have l0 := hst.lock.at 0 (v := .int .i64 2) rfl
    have l1 := hst.lock.at 1 (v := .int .i64 n) rfl
    clear hst hP
    by_cases hlt : k < n2
    · have hlti : (k : Int) < n2 := by omega
      have hwr : IntKind.u64.wrap (100 + (k : Int)) = 100 + (k : Int) := by rw [IntKind.wrap_u64]; omega
      go_wp2_with fail
      refine (push_some _ 2 (100 + (k : Int)) n HRI.out (by omega) (by omega)).mono ?_
      rintro e w3 ⟨b, rfl, hb, ho, hw⟩
      have HN := Lib.hid hb
      have HO3 := Lib.hid ho
      have HW := Lib.hid hw
      clear hb ho hw c2 l0 l1
      have HRW := Lib.hid (row_based (row_rest HS.out.mp.row (HO3.out.alloc (.cells #[.pointer (some ⟨b, 0, none⟩)] 36)) (by simp)) HS.out.mp.los)
      obtain ⟨hi, hz0, hz1, hz2⟩ := HI0.out
      go_wp2_with (at_builtin; refine wpList_append_own _ rfl (.tmp 67) (.tmp 73) 34 rfl w.heap.size 36 i0 (.pointer none) 1 8 Try.underlying34 hi hz0 hz1 hz2 rfl (by decide) _ k _ rfl HRW.out ⟨w3.heap.size, 0, none⟩ 1 1 [.pointer (some ⟨b, 0, none⟩)] rfl rfl ?hn ?h1 ?h63 ?hb ?hbase ?_)
      case hn => intro j u hj; match j, hj with | 0, hj => simp at hj; subst hj; simp [Addr.add]
      case h1 => intro u hu; simp at hu; subst hu; rfl
      case h63 => unfold maxLen; omega
      case hb => omega
      case hbase => have := HS.out.out.size; have := HO3.out.size; simp; omega
      intro v' w4 hown hg _
      have HS := Lib.hid (HS.out.addp (HO3.out.alloc (.cells #[.pointer (some ⟨b, 0, none⟩)] 36)) (IsQ.quiet HW.out ((Only.refl [] w3).alloc _)) HN.out hown hg)
      have HP : Hid (∀ j, j < k + 1 → ext P k ⟨2, n, 0, 0, false, 100 + (k : Int)⟩ j = ⟨2, n, 0, 0, false, 100 + (j : Int)⟩) := Lib.hid fun j hj => by
        by_cases e : j = k
        · rw [e, ext_same]
        · rw [ext_far _ _ _ _ e]
          exact HP.out j (by omega)
      clear hown hg hi hz0 hz1 hz2 HRW HO3 HW HN
      go_wp2_with fail
      exact ⟨⟨k + 1, _, _, by omega, by go_num, HS.out, HP.out⟩, by simp [intOf]; omega⟩
    · have hlti : ¬ (k : Int) < n2 := by omega
      have hkn : k = n2 := by omega
      obtain ⟨N, hN⟩ : ∃ N, N = n2 := ⟨_, rfl⟩
      rw [hkn] at HS HP
      clear hkn
      go_wp2_with fail
      go_loopw [8, 10] (fun v i wr => ∃ (k : Nat) (BG : Nat → Nat) (G : Nat → RQ), k ≤ M0 ∧ i = .int .i64 k ∧ RoSt w wr mb ms lb 2 n #[.int .u8 a, .int .u8 s, .slice A2 n2 cap2, .int .u8 pp, .slice A4 l.length cap4, .int .u8 wd] m0 _ n2 B P v k BG G ∧ ∀ j, j < k → G j = ⟨2, n, 0, 0, false, 0⟩) (fun _ i _ => M0 - (intOf i).toNat)
      case atStart => exact ⟨0, _, _, by omega, rfl, HS.out, fun j hj => absurd hj (by omega)⟩
      case round =>
        clear HS c2 l0 l1
        obtain ⟨wp, hwp⟩ : ∃ wp, wp = wr := ⟨_, rfl⟩
        subst hwp
        obtain ⟨k, BG, G, hk, rfl, hst, hG⟩ := hrel
        have HS := Lib.hid hst
        have HG := Lib.hid hG
        have c3 := hst.case_.at 3 (v := .int .u8 pp) rfl
        have l0 := hst.lock.at 0 (v := .int .i64 2) rfl
        have l1 := hst.lock.at 1 (v := .int .i64 n) rfl
        clear hst hG
        by_cases hlt : k < M0
        · have hlti : (k : Int) < M0 := by omega
          go_wp2_with fail
          refine (pop_some _ 2 n HRI.out).mono ?_
          rintro e w3 ⟨b, rfl, hb, ho, hw⟩
          have HN := Lib.hid hb
          have HO3 := Lib.hid ho
          have HW := Lib.hid hw
          clear hb ho hw c3 l0 l1
          have HRW := Lib.hid (row_based (row_rest HS.out.mg.row (HO3.out.alloc (.cells #[.pointer (some ⟨b, 0, none⟩)] 39)) (by simp)) HS.out.mg.los)
          obtain ⟨hi, hz0, hz1, hz2⟩ := HI1.out
          go_wp2_with (at_builtin; refine wpList_append_own _ rfl (.tmp 83) (.tmp 86) 35 rfl w.heap.size 39 i1 (.pointer none) 1 8 Try.underlying35 hi hz0 hz1 hz2 rfl (by decide) _ k _ rfl HRW.out ⟨w3.heap.size, 0, none⟩ 1 1 [.pointer (some ⟨b, 0, none⟩)] rfl rfl ?hn ?h1 ?h63 ?hb ?hbase ?_)
          case hn => intro j u hj; match j, hj with | 0, hj => simp at hj; subst hj; simp [Addr.add]
          case h1 => intro u hu; simp at hu; subst hu; rfl
          case h63 => unfold maxLen; omega
          case hb => omega
          case hbase => have := HS.out.out.size; have := HO3.out.size; simp; omega
          intro v' w4 hown hg _
          have HS := Lib.hid (HS.out.addg (HO3.out.alloc (.cells #[.pointer (some ⟨b, 0, none⟩)] 39)) (IsQ.quiet HW.out ((Only.refl [] w3).alloc _)) HN.out hown hg)
          have HG : Hid (∀ j, j < k + 1 → ext G k ⟨2, n, 0, 0, false, 0⟩ j = ⟨2, n, 0, 0, false, 0⟩) := Lib.hid fun j hj => by
            by_cases e : j = k
            · rw [e, ext_same]
            · rw [ext_far _ _ _ _ e]
              exact HG.out j (by omega)
          clear hown hg hi hz0 hz1 hz2 HRW HO3 HW HN
          go_wp2_with fail
          exact ⟨⟨k + 1, _, _, by omega, by go_num, HS.out, HG.out⟩, by simp [intOf]; omega⟩
        · have hlti : ¬ (k : Int) < M0 := by omega
          obtain rfl : k = M0 := by omega
          have HQ := Lib.hid (once_start (N := n2) (M := k) HRA.out HP.out HG.out)
          obtain ⟨A, cap, rfl⟩ := HS.out.mp.form
          obtain ⟨A', cap', rfl⟩ := HS.out.mg.form
          clear l0 l1
          go_wp2_with fail
          go_loopw [12] (fun i wr => ∃ (t : Nat) (P G : Nat → RQ) (m : MS) (I O : Nat) (pu po : Nat → Nat), t ≤ l.length ∧ i = .int .i64 t ∧ RoSt w wr mb ms lb 2 n #[.int .u8 a, .int .u8 s, .slice A2 n2 cap2, .int .u8 pp, .slice A4 l.length cap4, .int .u8 wd] m (.slice A n2 cap) n2 B P (.slice A' k cap') k BG G ∧ OSt n2 k n P G m.L I O pu po t) (fun i _ => l.length - (intOf i).toNat)
          case atStart => exact ⟨0, _, _, _, _, _, _, _, by omega, rfl, HS.out, HQ.out⟩
          case round =>
            clear HS HQ c3
            obtain ⟨t, P, G, m, I, O, pu, po, ht, rfl, hst, hqq⟩ := hrel
            have HS := Lib.hid hst
            have HQ := Lib.hid hqq
            have c4 := hst.case_.at 4 (v := .slice A4 l.length cap4) rfl
            clear hst hqq
            by_cases hlt : t < l.length
            · have hlti : (t : Int) < l.length := by omega
              by_cases hall : 0 < n2 + k
              · have halli : (0 : Int) < (n2 : Int) + k := by omega
                obtain ⟨go, o, hgo, rfl, hc⟩ := HR4.out.at hlt
                have d1 := (HS.out.out.cell (p := ⟨go, o + t, none⟩) hgo (by simp)).trans (hc t hlt)
                have hb := HBY.out t hlt
                have p0 : 0 ≤ nth l t := hb.1
                have p1 : nth l t ≤ 255 := hb.2
                clear hb hc hgo
                obtain ⟨j, hj⟩ : ∃ j : Nat, nth l t % ((n2 : Int) + k) = (j : Int) := ⟨(nth l t % ((n2 : Int) + k)).toNat, by rw [Int.toNat_of_nonneg (Int.emod_nonneg _ (by omega))]⟩
                have hjk : j < n2 + k := by have := Int.emod_lt_of_pos (nth l t) (show (0 : Int) < (n2 : Int) + k by omega); omega
                by_cases h0 : j < n2
                · have h0i : (j : Int) < n2 := by omega
                  obtain ⟨gp, hgp, cp⟩ := HS.out.mp.cell h0
                  obtain rfl := hgp
                  go_wp2_with fail
                  refine (HS.out.pcall h0).mono ?_
                  rintro e w4 ⟨he, hs⟩
                  obtain ⟨bb, rfl⟩ : ∃ bb : Bool, e = .returned (.bool bb) := ⟨_, he⟩
                  obtain ⟨I1, pu1, hq1⟩ := once_push HQ.out (by omega) (by omega) h0 m rfl HS.out.rng
                  obtain ⟨P1, m1, hs1, hq1⟩ : ∃ P1 m1, RoSt w w4 mb ms lb 2 n #[.int .u8 a, .int .u8 s, .slice A2 n2 cap2, .int .u8 pp, .slice (some ⟨go, o, none⟩) l.length cap4, .int .u8 wd] m1 (.slice (some ⟨gp, 0, none⟩) n2 cap) n2 B P1 (.slice A' k cap') k BG G ∧ OSt n2 k n P1 G m1.L I1 O pu1 po (t + 1) := ⟨_, _, hs, hq1⟩
                  have HS := Lib.hid hs1
                  have HQ := Lib.hid hq1
                  clear he hs hs1 hq1 cp
                  clear d1 c4 hj
                  obtain ⟨x1, hx1⟩ : ∃ x1 : Int, (I1 : Int) = x1 := ⟨_, rfl⟩
                  obtain ⟨y1, hy1⟩ : ∃ y1 : Int, (O : Int) = y1 := ⟨_, rfl⟩
                  obtain ⟨z1, hz1⟩ : ∃ z1 : Int, x1 - y1 = z1 := ⟨_, rfl⟩
                  have hOI : ¬ x1 < y1 := by have := HQ.out.ob.ord; omega
                  have hOI2 : decide (x1 < y1) = false := by simp only [decide_eq_false_iff_not]; exact hOI
                  have hw1 : IntKind.u64.wrap (x1 - y1) = z1 := by have := HQ.out.ob.ord; have := HQ.out.small; rw [IntKind.wrap_u64]; omega
                  have hw2 : IntKind.u64.wrap (n : Int) = n := by rw [IntKind.wrap_u64]; omega
                  have hroom : ¬ (n : Int) < z1 := by have := HQ.out.ob.room; omega
                  have hroom2 : decide ((n : Int) < z1) = false := by simp only [decide_eq_false_iff_not]; exact hroom
                  have HX1 := Lib.hid hx1
                  have HY1 := Lib.hid hy1
                  clear hx1 hy1 hz1
                  go_wp2_with fail
                  refine (HS.out.load 2 (by have := HQ.out.len; omega) (HQ.out.inn.trans HX1.out)).mono ?_
                  rintro e w5 ⟨rfl, hs⟩
                  have HS := Lib.hid hs
                  clear hs
                  go_wp2_with fail
                  refine (HS.out.load 3 (by have := HQ.out.len; dsimp only; omega) (HQ.out.out.trans HY1.out)).mono ?_
                  rintro e w6 ⟨rfl, hs⟩
                  obtain ⟨m2, hs2, hl2⟩ : ∃ m2 : MS, RoSt w w6 mb ms lb 2 n #[.int .u8 a, .int .u8 s, .slice A2 n2 cap2, .int .u8 pp, .slice (some ⟨go, o, none⟩) l.length cap4, .int .u8 wd] m2 (.slice (some ⟨gp, 0, none⟩) n2 cap) n2 B P1 (.slice A' k cap') k BG G ∧ m2.L = m1.L := ⟨_, hs, rfl⟩
                  have HQ : Hid (OSt n2 k n P1 G m2.L I1 O pu1 po (t + 1)) := Lib.hid (by rw [hl2]; exact HQ.out)
                  have HS := Lib.hid hs2
                  clear hs hl2 hs2 HX1 HY1
                  have hmk := mkI n2 (by omega)
                  go_wp2_with fail
                  have HH : Hid (Hd w (w6.alloc (.cells (icells (List.replicate n2 0)) 3)) mb ms lb 2 n #[.int .u8 a, .int .u8 s, .slice A2 n2 cap2, .int .u8 pp, .slice (some ⟨go, o, none⟩) l.length cap4, .int .u8 wd] m2 (.slice (some ⟨gp, 0, none⟩) n2 cap) n2 B P1 (.slice A' k cap') k BG G w6.heap.size (List.replicate n2 0)) := Lib.hid ⟨HS.out.quiet ((Only.refl [] w6).alloc _), Blk.new _ _ _, by have := HS.out.lt; omega⟩
                  clear HS hmk
                  go_loopw [19] (fun i wx => ∃ (q : Nat) (H : List Int), q ≤ k ∧ i = .int .i64 q ∧ Hd w wx mb ms lb 2 n #[.int .u8 a, .int .u8 s, .slice A2 n2 cap2, .int .u8 pp, .slice (some ⟨go, o, none⟩) l.length cap4, .int .u8 wd] m2 (.slice (some ⟨gp, 0, none⟩) n2 cap) n2 B P1 (.slice A' k cap') k BG G w6.heap.size H ∧ Had G n2 q H) (fun i _ => k - (intOf i).toNat)
                  case atStart => exact ⟨0, _, by omega, rfl, HH.out, Had.none G n2⟩
                  case round =>
                    clear HH
                    obtain ⟨q, H, hq, rfl, hh, hhad⟩ := hrel
                    have HH := Lib.hid hh
                    have HD := Lib.hid hhad
                    clear hh hhad
                    by_cases hqlt : q < k
                    · have hqi : (q : Int) < k := by omega
                      obtain ⟨gg, hgg, cq⟩ := HH.out.st.mg.cell hqlt
                      first | subst hgg | (simp only [Option.some.injEq, Addr.mk.injEq] at hgg; obtain ⟨rfl, _⟩ := hgg)
                      have HPR := Lib.hid (poresult_at wr (BG q) (G q) (HH.out.st.mg.is q hqlt))
                      by_cases hgot : (G q).st = 5 ∧ (G q).has = true
                      · obtain ⟨i, hi, hv, _⟩ := HQ.out.popped hqlt hgot.1 hgot.2
                        obtain ⟨hz0, hmore⟩ := HD.out.more HQ.out hqlt ⟨hgot.1, hgot.2, hv⟩ hi
                        have HD := Lib.hid hmore
                        have hpr := HPR.out
                        rw [if_pos hgot.1, if_pos hgot.2, hv] at hpr
                        obtain ⟨x, hx⟩ : ∃ x : Int, 100 + (i : Int) = x := ⟨_, rfl⟩
                        obtain ⟨y, hy⟩ : ∃ y : Int, 100 + (n2 : Int) = y := ⟨_, rfl⟩
                        rw [hx] at hpr
                        have HPR := Lib.hid hpr
                        have HZ := Lib.hid hz0
                        clear hpr hmore hgot hv hz0
                        have k1 : decide (x < 100) = false := by simp only [decide_eq_false_iff_not]; omega
                        have k2 : IntKind.u64.wrap (100 + (n2 : Int)) = y := by rw [IntKind.wrap_u64]; omega
                        have k3 : decide (y ≤ x) = false := by simp only [decide_eq_false_iff_not]; omega
                        have k4 : IntKind.i64.wrap x = x := by rw [IntKind.wrap_i64]; omega
                        have k5 : x - 100 = i := by omega
                        have k6 : 0 ≤ x := by omega
                        have k7 : x ≤ 1000 := by omega
                        have hil : (i : Int) < n2 := by omega
                        clear hx hy
                        go_wp2_with fail
                        refine HPR.out.mono ?_
                        rintro e w7 ⟨rfl, ho⟩
                        have HH := Lib.hid (HH.out.quiet ho)
                        have h0 : w7.cell? ⟨w6.heap.size, i, none⟩ = some (.int .i64 0) := by
                          have := HH.out.had.at i (icells_at H i (by rw [← List.length_set, HD.out.1]; exact hi))
                          rwa [HZ.out] at this
                        have f0 := HH.out.had.frozen i
                        clear ho cq HPR
                        go_wp2_with fail
                        exact ⟨⟨q + 1, _, by omega, by go_num, HH.out.set i 1, HD.out⟩, by simp [intOf]; omega⟩
                      · have HD := Lib.hid (HD.out.skip hgot)
                        have hpr : ∃ dd, Calls Try.prog 22 #[.pointer (some ⟨BG q, 0, none⟩)] wr fun e w' => e = .returned (.tuple #[.int .u64 0, .bool false, .bool dd]) ∧ Only [] wr w' := by
                          have hpr := HPR.out
                          by_cases h5 : (G q).st = 5
                          · rw [if_pos h5, if_neg (fun h => hgot ⟨h5, h⟩)] at hpr
                            exact ⟨_, hpr⟩
                          · rw [if_neg h5] at hpr
                            exact ⟨_, hpr⟩
                        obtain ⟨dd, hpr⟩ := hpr
                        have HPR := Lib.hid hpr
                        clear hpr hgot
                        go_wp2_with fail
                        refine HPR.out.mono ?_
                        rintro e w7 ⟨rfl, ho⟩
                        have HH := Lib.hid (HH.out.quiet ho)
                        clear ho cq HPR
                        go_wp2_with fail
                        exact ⟨⟨q + 1, _, by omega, by go_num, HH.out, HD.out⟩, by simp [intOf]; omega⟩
                    · have hqi : ¬ (q : Int) < k := by omega
                      obtain rfl : q = k := by omega
                      go_wp2_with fail
                      go_loopw [23] (fun i wx => ∃ (p : Nat), p ≤ n2 ∧ i = .int .i64 p ∧ Hd w wx mb ms lb 2 n #[.int .u8 a, .int .u8 s, .slice A2 n2 cap2, .int .u8 pp, .slice (some ⟨go, o, none⟩) l.length cap4, .int .u8 wd] m2 (.slice (some ⟨gp, 0, none⟩) n2 cap) n2 B P1 (.slice A' q cap') q BG G w6.heap.size H) (fun i _ => n2 - (intOf i).toNat)
                      case atStart => exact ⟨0, by omega, rfl, HH.out⟩
                      case round =>
                        clear HH
                        obtain ⟨wq, hwq⟩ : ∃ wq, wq = wr := ⟨_, rfl⟩
                        subst hwq
                        obtain ⟨p, hp, rfl, hh⟩ := hrel
                        have HH := Lib.hid hh
                        clear hh
                        by_cases hplt : p < n2
                        · have hpi : (p : Int) < n2 := by omega
                          obtain ⟨gg, hgg, cq⟩ := HH.out.st.mp.cell hplt
                          first | subst hgg | (simp only [Option.some.injEq, Addr.mk.injEq] at hgg; obtain ⟨rfl, _⟩ := hgg)
                          have hpr := puresult_at wq (B p) (P1 p) (HH.out.st.mp.is p hplt)
                          rcases HD.out.end_ HQ.out hplt with h0 | ⟨h0, h1⟩
                          · have HPR := Lib.hid hpr
                            have HZ := Lib.hid h0
                            clear hpr h0
                            go_wp2_with fail
                            refine HPR.out.mono ?_
                            rintro e w7 ⟨rfl, ho⟩
                            have HH := Lib.hid (HH.out.quiet ho)
                            have h0 : w7.cell? ⟨w6.heap.size, p, none⟩ = some (.int .i64 0) := by
                              have := HH.out.had.at p (icells_at H p (by rw [HD.out.1]; exact hplt))
                              rwa [HZ.out] at this
                            clear ho cq HPR
                            go_wp2_with fail
                            exact ⟨⟨p + 1, by omega, by go_num, HH.out⟩, by simp [intOf]; omega⟩
                          · have hpr : ∃ hh dd, (dd && !hh) = false ∧ Calls Try.prog 23 #[.pointer (some ⟨B p, 0, none⟩)] wq fun e w' => e = .returned (.tuple #[.bool hh, .bool dd]) ∧ Only [] wq w' := by
                              refine ⟨_, _, ?_, hpr⟩
                              by_cases h5 : (P1 p).st = 5
                              · rw [h1 h5]; simp
                              · simp [h5]
                            obtain ⟨hh, dd, hb, hpr⟩ := hpr
                            have HPR := Lib.hid hpr
                            have HZ := Lib.hid h0
                            clear hpr h0 h1
                            go_wp2_with fail
                            refine HPR.out.mono ?_
                            rintro e w7 ⟨rfl, ho⟩
                            have HH := Lib.hid (HH.out.quiet ho)
                            have h0 : w7.cell? ⟨w6.heap.size, p, none⟩ = some (.int .i64 1) := by
                              have := HH.out.had.at p (icells_at H p (by rw [HD.out.1]; exact hplt))
                              rwa [HZ.out] at this
                            clear ho cq HPR
                            rcases (show dd = false ∨ dd = true ∧ hh = true by cases dd <;> cases hh <;> simp_all) with rfl | ⟨rfl, rfl⟩
                            · clear hb
                              go_wp2_with fail
                              exact ⟨⟨p + 1, by omega, by go_num, HH.out⟩, by simp [intOf]; omega⟩
                            · clear hb
                              go_wp2_with fail
                              exact ⟨⟨p + 1, by omega, by go_num, HH.out⟩, by simp [intOf]; omega⟩
                        · have hpi : ¬ (p : Int) < n2 := by omega
                          go_wp2_with fail
                          exact ⟨⟨t + 1, _, _, _, _, _, _, _, by omega, by go_num, HH.out.st, HQ.out⟩, by simp [intOf]; omega⟩
                · have h0i : ¬ (j : Int) < n2 := by omega
                  obtain ⟨j', hj'⟩ : ∃ j', j = n2 + j' := ⟨j - n2, by omega⟩
                  have h1 : j' < k := by omega
                  have hj2 : (j : Int) - n2 = (j' : Int) := by omega
                  have h1i : (j' : Int) < k := by omega
                  clear hj'
                  obtain ⟨gp, hgp, cp⟩ := HS.out.mg.cell h1
                  obtain rfl := hgp
                  go_wp2_with fail
                  refine (HS.out.gcall h1).mono ?_
                  rintro e w4 ⟨he, hs⟩
                  obtain ⟨bb, rfl⟩ : ∃ bb : Bool, e = .returned (.bool bb) := ⟨_, he⟩
                  obtain ⟨O1, po1, hq1⟩ := once_pop HQ.out (by omega) (by omega) h1 m rfl HS.out.rng
                  obtain ⟨G1, m1, hs1, hq1⟩ : ∃ G1 m1, RoSt w w4 mb ms lb 2 n #[.int .u8 a, .int .u8 s, .slice A2 n2 cap2, .int .u8 pp, .slice (some ⟨go, o, none⟩) l.length cap4, .int .u8 wd] m1 (.slice A n2 cap) n2 B P (.slice (some ⟨gp, 0, none⟩) k cap') k BG G1 ∧ OSt n2 k n P G1 m1.L I O1 pu po1 (t + 1) := ⟨_, _, hs, hq1⟩
                  have HS := Lib.hid hs1
                  have HQ := Lib.hid hq1
                  clear he hs hs1 hq1 cp hj2
                  clear d1 c4 hj
                  obtain ⟨x1, hx1⟩ : ∃ x1 : Int, (I : Int) = x1 := ⟨_, rfl⟩
                  obtain ⟨y1, hy1⟩ : ∃ y1 : Int, (O1 : Int) = y1 := ⟨_, rfl⟩
                  obtain ⟨z1, hz1⟩ : ∃ z1 : Int, x1 - y1 = z1 := ⟨_, rfl⟩
                  have hOI : ¬ x1 < y1 := by have := HQ.out.ob.ord; omega
                  have hOI2 : decide (x1 < y1) = false := by simp only [decide_eq_false_iff_not]; exact hOI
                  have hw1 : IntKind.u64.wrap (x1 - y1) = z1 := by have := HQ.out.ob.ord; have := HQ.out.small; rw [IntKind.wrap_u64]; omega
                  have hw2 : IntKind.u64.wrap (n : Int) = n := by rw [IntKind.wrap_u64]; omega
                  have hroom : ¬ (n : Int) < z1 := by have := HQ.out.ob.room; omega
                  have hroom2 : decide ((n : Int) < z1) = false := by simp only [decide_eq_false_iff_not]; exact hroom
                  have HX1 := Lib.hid hx1
                  have HY1 := Lib.hid hy1
                  clear hx1 hy1 hz1
                  go_wp2_with fail
                  refine (HS.out.load 2 (by have := HQ.out.len; omega) (HQ.out.inn.trans HX1.out)).mono ?_
                  rintro e w5 ⟨rfl, hs⟩
                  have HS := Lib.hid hs
                  clear hs
                  go_wp2_with fail
                  refine (HS.out.load 3 (by have := HQ.out.len; dsimp only; omega) (HQ.out.out.trans HY1.out)).mono ?_
                  rintro e w6 ⟨rfl, hs⟩
                  obtain ⟨m2, hs2, hl2⟩ : ∃ m2 : MS, RoSt w w6 mb ms lb 2 n #[.int .u8 a, .int .u8 s, .slice A2 n2 cap2, .int .u8 pp, .slice (some ⟨go, o, none⟩) l.length cap4, .int .u8 wd] m2 (.slice A n2 cap) n2 B P (.slice (some ⟨gp, 0, none⟩) k cap') k BG G1 ∧ m2.L = m1.L := ⟨_, hs, rfl⟩
                  have HQ : Hid (OSt n2 k n P G1 m2.L I O1 pu po1 (t + 1)) := Lib.hid (by rw [hl2]; exact HQ.out)
                  have HS := Lib.hid hs2
                  clear hs hl2 hs2 HX1 HY1
                  have hmk := mkI n2 (by omega)
                  go_wp2_with fail
                  have HH : Hid (Hd w (w6.alloc (.cells (icells (List.replicate n2 0)) 3)) mb ms lb 2 n #[.int .u8 a, .int .u8 s, .slice A2 n2 cap2, .int .u8 pp, .slice (some ⟨go, o, none⟩) l.length cap4, .int .u8 wd] m2 (.slice A n2 cap) n2 B P (.slice (some ⟨gp, 0, none⟩) k cap') k BG G1 w6.heap.size (List.replicate n2 0)) := Lib.hid ⟨HS.out.quiet ((Only.refl [] w6).alloc _), Blk.new _ _ _, by have := HS.out.lt; omega⟩
                  clear HS hmk
                  go_loopw [19] (fun i wx => ∃ (q : Nat) (H : List Int), q ≤ k ∧ i = .int .i64 q ∧ Hd w wx mb ms lb 2 n #[.int .u8 a, .int .u8 s, .slice A2 n2 cap2, .int .u8 pp, .slice (some ⟨go, o, none⟩) l.length cap4, .int .u8 wd] m2 (.slice A n2 cap) n2 B P (.slice (some ⟨gp, 0, none⟩) k cap') k BG G1 w6.heap.size H ∧ Had G1 n2 q H) (fun i _ => k - (intOf i).toNat)
                  case atStart => exact ⟨0, _, by omega, rfl, HH.out, Had.none G1 n2⟩
                  case round =>
                    clear HH
                    obtain ⟨q, H, hq, rfl, hh, hhad⟩ := hrel
                    have HH := Lib.hid hh
                    have HD := Lib.hid hhad
                    clear hh hhad
                    by_cases hqlt : q < k
                    · have hqi : (q : Int) < k := by omega
                      obtain ⟨gg, hgg, cq⟩ := HH.out.st.mg.cell hqlt
                      first | subst hgg | (simp only [Option.some.injEq, Addr.mk.injEq] at hgg; obtain ⟨rfl, _⟩ := hgg)
                      have HPR := Lib.hid (poresult_at wr (BG q) (G1 q) (HH.out.st.mg.is q hqlt))
                      by_cases hgot : (G1 q).st = 5 ∧ (G1 q).has = true
                      · obtain ⟨i, hi, hv, _⟩ := HQ.out.popped hqlt hgot.1 hgot.2
                        obtain ⟨hz0, hmore⟩ := HD.out.more HQ.out hqlt ⟨hgot.1, hgot.2, hv⟩ hi
                        have HD := Lib.hid hmore
                        have hpr := HPR.out
                        rw [if_pos hgot.1, if_pos hgot.2, hv] at hpr
                        obtain ⟨x, hx⟩ : ∃ x : Int, 100 + (i : Int) = x := ⟨_, rfl⟩
                        obtain ⟨y, hy⟩ : ∃ y : Int, 100 + (n2 : Int) = y := ⟨_, rfl⟩
                        rw [hx] at hpr
                        have HPR := Lib.hid hpr
                        have HZ := Lib.hid hz0
                        clear hpr hmore hgot hv hz0
                        have k1 : decide (x < 100) = false := by simp only [decide_eq_false_iff_not]; omega
                        have k2 : IntKind.u64.wrap (100 + (n2 : Int)) = y := by rw [IntKind.wrap_u64]; omega
                        have k3 : decide (y ≤ x) = false := by simp only [decide_eq_false_iff_not]; omega
                        have k4 : IntKind.i64.wrap x = x := by rw [IntKind.wrap_i64]; omega
                        have k5 : x - 100 = i := by omega
                        have k6 : 0 ≤ x := by omega
                        have k7 : x ≤ 1000 := by omega
                        have hil : (i : Int) < n2 := by omega
                        clear hx hy
                        go_wp2_with fail
                        refine HPR.out.mono ?_
                        rintro e w7 ⟨rfl, ho⟩
                        have HH := Lib.hid (HH.out.quiet ho)
                        have h0 : w7.cell? ⟨w6.heap.size, i, none⟩ = some (.int .i64 0) := by
                          have := HH.out.had.at i (icells_at H i (by rw [← List.length_set, HD.out.1]; exact hi))
                          rwa [HZ.out] at this
                        have f0 := HH.out.had.frozen i
                        clear ho cq HPR
                        go_wp2_with fail
                        exact ⟨⟨q + 1, _, by omega, by go_num, HH.out.set i 1, HD.out⟩, by simp [intOf]; omega⟩
                      · have HD := Lib.hid (HD.out.skip hgot)
                        have hpr : ∃ dd, Calls Try.prog 22 #[.pointer (some ⟨BG q, 0, none⟩)] wr fun e w' => e = .returned (.tuple #[.int .u64 0, .bool false, .bool dd]) ∧ Only [] wr w' := by
                          have hpr := HPR.out
                          by_cases h5 : (G1 q).st = 5
                          · rw [if_pos h5, if_neg (fun h => hgot ⟨h5, h⟩)] at hpr
                            exact ⟨_, hpr⟩
                          · rw [if_neg h5] at hpr
                            exact ⟨_, hpr⟩
                        obtain ⟨dd, hpr⟩ := hpr
                        have HPR := Lib.hid hpr
                        clear hpr hgot
                        go_wp2_with fail
                        refine HPR.out.mono ?_
                        rintro e w7 ⟨rfl, ho⟩
                        have HH := Lib.hid (HH.out.quiet ho)
                        clear ho cq HPR
                        go_wp2_with fail
                        exact ⟨⟨q + 1, _, by omega, by go_num, HH.out, HD.out⟩, by simp [intOf]; omega⟩
                    · have hqi : ¬ (q : Int) < k := by omega
                      obtain rfl : q = k := by omega
                      go_wp2_with fail
                      go_loopw [23] (fun i wx => ∃ (p : Nat), p ≤ n2 ∧ i = .int .i64 p ∧ Hd w wx mb ms lb 2 n #[.int .u8 a, .int .u8 s, .slice A2 n2 cap2, .int .u8 pp, .slice (some ⟨go, o, none⟩) l.length cap4, .int .u8 wd] m2 (.slice A n2 cap) n2 B P (.slice (some ⟨gp, 0, none⟩) q cap') q BG G1 w6.heap.size H) (fun i _ => n2 - (intOf i).toNat)
                      case atStart => exact ⟨0, by omega, rfl, HH.out⟩
                      case round =>
                        clear HH
                        obtain ⟨wq, hwq⟩ : ∃ wq, wq = wr := ⟨_, rfl⟩
                        subst hwq
                        obtain ⟨p, hp, rfl, hh⟩ := hrel
                        have HH := Lib.hid hh
                        clear hh
                        by_cases hplt : p < n2
                        · have hpi : (p : Int) < n2 := by omega
                          obtain ⟨gg, hgg, cq⟩ := HH.out.st.mp.cell hplt
                          first | subst hgg | (simp only [Option.some.injEq, Addr.mk.injEq] at hgg; obtain ⟨rfl, _⟩ := hgg)
                          have hpr := puresult_at wq (B p) (P p) (HH.out.st.mp.is p hplt)
                          rcases HD.out.end_ HQ.out hplt with h0 | ⟨h0, h1⟩
                          · have HPR := Lib.hid hpr
                            have HZ := Lib.hid h0
                            clear hpr h0
                            go_wp2_with fail
                            refine HPR.out.mono ?_
                            rintro e w7 ⟨rfl, ho⟩
                            have HH := Lib.hid (HH.out.quiet ho)
                            have h0 : w7.cell? ⟨w6.heap.size, p, none⟩ = some (.int .i64 0) := by
                              have := HH.out.had.at p (icells_at H p (by rw [HD.out.1]; exact hplt))
                              rwa [HZ.out] at this
                            clear ho cq HPR
                            go_wp2_with fail
                            exact ⟨⟨p + 1, by omega, by go_num, HH.out⟩, by simp [intOf]; omega⟩
                          · have hpr : ∃ hh dd, (dd && !hh) = false ∧ Calls Try.prog 23 #[.pointer (some ⟨B p, 0, none⟩)] wq fun e w' => e = .returned (.tuple #[.bool hh, .bool dd]) ∧ Only [] wq w' := by
                              refine ⟨_, _, ?_, hpr⟩
                              by_cases h5 : (P p).st = 5
                              · rw [h1 h5]; simp
                              · simp [h5]
                            obtain ⟨hh, dd, hb, hpr⟩ := hpr
                            have HPR := Lib.hid hpr
                            have HZ := Lib.hid h0
                            clear hpr h0 h1
                            go_wp2_with fail
                            refine HPR.out.mono ?_
                            rintro e w7 ⟨rfl, ho⟩
                            have HH := Lib.hid (HH.out.quiet ho)
                            have h0 : w7.cell? ⟨w6.heap.size, p, none⟩ = some (.int .i64 1) := by
                              have := HH.out.had.at p (icells_at H p (by rw [HD.out.1]; exact hplt))
                              rwa [HZ.out] at this
                            clear ho cq HPR
                            rcases (show dd = false ∨ dd = true ∧ hh = true by cases dd <;> cases hh <;> simp_all) with rfl | ⟨rfl, rfl⟩
                            · clear hb
                              go_wp2_with fail
                              exact ⟨⟨p + 1, by omega, by go_num, HH.out⟩, by simp [intOf]; omega⟩
                            · clear hb
                              go_wp2_with fail
                              exact ⟨⟨p + 1, by omega, by go_num, HH.out⟩, by simp [intOf]; omega⟩
                        · have hpi : ¬ (p : Int) < n2 := by omega
                          go_wp2_with fail
                          exact ⟨⟨t + 1, _, _, _, _, _, _, _, by omega, by go_num, HH.out.st, HQ.out⟩, by simp [intOf]; omega⟩
              · have halli : ¬ (0 : Int) < (n2 : Int) + k := by omega
                clear HQ
                go_wp2_with fail
                refine (known06 _).mono ?_
                rintro e w4 ⟨rfl, ho⟩
                have HO := Lib.hid (HS.out.out.trans ho)
                clear ho
                go_wp2_with fail
                go_ret
                exact ⟨rfl, HO.out⟩
            · have hlti : ¬ (t : Int) < l.length := by omega
              clear HQ
              go_wp2_with fail
              refine (known06 _).mono ?_
              rintro e w4 ⟨rfl, ho⟩
              have HO := Lib.hid (HS.out.out.trans ho)
              clear ho
              go_wp2_with fail
              go_ret
              exact ⟨rfl, HO.out⟩

end Go.Proofs.Ytoecoijmkjhkgaa
