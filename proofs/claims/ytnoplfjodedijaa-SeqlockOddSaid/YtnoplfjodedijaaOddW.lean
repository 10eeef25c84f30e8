/- The walk of law SeqlockOdd. -/
import Derived.Test.YtnoplfjodedijaaSeqSt
namespace Go.Proofs.Ytnoplfjodedijaa
open Go.RowKit

/-- A reader at an odd number. -/
def OddR (wa : World) (mb ms rb : Nat) (L : List Int) (wx : World) : Prop :=
  ∃ (sl : Value) (was : Int) (vals : List Int) (tries : Int) (m : MS), IsR wx rb sl ⟨3, 2, 0, was, vals, tries, false⟩ ∧ IsMem wx mb ms m ∧ m.L = L ∧ wa.heap.size ≤ rb ∧ Only [mb, ms] wa wx ∧ ∀ x, sl.ownBlock = some x → wa.heap.size ≤ x

theorem odd_read (wa : World) (mb ms rb : Nat) (L : List Int) (w : World) (h : OddR wa mb ms rb L w) (hlt : mb < wa.heap.size ∧ ms < wa.heap.size) (hl : L.length = 30) (c0 : 0 ≤ nth L 3) (c1 : nth L 3 < 18446744073709551616) (ho : nth L 3 % 2 = 1) :
    Calls Try.prog 37 #[.pointer (some ⟨rb, 0, none⟩), .pointer (some ⟨mb, 0, none⟩)] w fun e w' => e = .returned (.bool false) ∧ OddR wa mb ms rb L w' := by
  obtain ⟨sl, was, vals, tries, m, hr, hm, rfl, hrb, hon, hsl⟩ := h
  have hx : RS.next ⟨3, 2, 0, was, vals, tries, false⟩ = ⟨1, 3, 0, 0⟩ := by unfold RS.next; dsimp only; rw [if_neg (by omega), if_neg (by omega), Int.add_zero]
  have ha := qload m 3 (by omega) (by omega)
  have e3 : (3 : Int).toNat = 3 := rfl
  rw [e3] at ha
  have hgo : RS.go ⟨3, 2, 0, was, vals, tries, false⟩ m = (⟨3, 2, 0, nth m.L 3, [], wrap64 (tries + 1), false⟩, ⟨m.L, wrap64 (m.c + 1), m.l⟩) := by
    unfold RS.go
    rw [hx, ha]
    unfold RS.fresh RS.after
    dsimp only
    rw [if_neg (by omega), if_pos rfl]
    dsimp only
    rw [if_neg (by simp), if_pos rfl, if_neg (by omega)]
  refine (rgo_any w rb mb ms sl _ m hr hm (fun x hx e => by have := hsl x e; simp at hx; omega) (by rw [hx, ha]; exact c0) (by rw [hx, ha]; exact c1) (fun h1 => by dsimp only at h1; omega)).mono ?_
  rintro e w' ⟨sl', rfl, o, hm', hr', hsl'⟩
  rw [hgo] at hm' hr' ⊢
  refine ⟨by simp, sl', _, _, _, _, hr', hm', rfl, hrb, hon.then o (fun x hx => ?_), fun x hx => ?_⟩
  · simp at hx
    rcases hx with rfl | rfl | rfl | hx
    · exact .inr hrb
    · exact .inl (by simp)
    · exact .inl (by simp)
    · exact .inr (hsl x hx)
  · rcases hsl' x hx with h | h
    · exact hsl x h
    · exact Nat.le_trans hon.size h

theorem odd_start (k : Nat) (S : Nat → WS) (h : ∀ j, j < k → S j = ⟨3, 2, 0, 0, [(j : Int), 9]⟩) : OddInv k S (MS.new 30).L 0 := by
  have hc : ∀ n, n ≤ k → cnt S n = 0 := by
    intro n hn
    induction n with
    | zero => rfl
    | succ n ih =>
      unfold cnt
      rw [ih (by omega), h n (by omega)]
      rfl
  refine ⟨rfl, by decide, by decide, ?_, fun j hj => ?_⟩
  · rw [hc k (Nat.le_refl _)]
    decide
  · rw [h j hj]
    exact ⟨rfl, rfl, by dsimp only; omega, by dsimp only; omega, fun h => by dsimp only at h; omega, fun h => by dsimp only at h; omega⟩

set_option maxHeartbeats 4000000 in
set_option maxRecDepth 100000 in
theorem seqodd_walk (w : World) (a s rd wd : Int) (A2 : Option Addr) (n2 cap2 : Nat) (A4 : Option Addr) (l : List Int) (cap4 : Nat) (hr2 : ReadsRows w A2 n2) (hr4 : ReadsB w A4 l) (hby : ∀ i, i < l.length → 0 ≤ nth l i ∧ nth l i ≤ 255) :
    Calls Try.prog 12 #[.agg #[.int .u8 a, .int .u8 s, .slice A2 n2 cap2, .int .u8 rd, .slice A4 l.length cap4, .int .u8 wd]] w fun e w' => e = .returned (.bool true) ∧ Only [] w w' := by
  obtain ⟨i0, hi, hz0, hz1, hz2⟩ := info_parts Try.infoW4
  have HI0 := Lib.hid (And.intro hi (And.intro hz0 (And.intro hz1 hz2)))
  have HB := Lib.hid (Blk.new w 63 #[.int .u8 a, .int .u8 s, .slice A2 n2 cap2, .int .u8 rd, .slice A4 l.length cap4, .int .u8 wd])
  have HO := Lib.hid ((Only.refl [] w).alloc (.cells #[.int .u8 a, .int .u8 s, .slice A2 n2 cap2, .int .u8 rd, .slice A4 l.length cap4, .int .u8 wd] 63))
  have HR2 := Lib.hid hr2
  have HR4 := Lib.hid hr4
  have HBY := Lib.hid hby
  clear hr2 hr4 hby hi hz0 hz1 hz2
  go_enter Try.func12, Try.ntmps12
  go_wp2_with fail
  refine (light_any _ a s rd wd A2 A4 n2 cap2 l.length cap4 (HR2.out.only HO.out)).mono ?_
  rintro e w1 ⟨q, rfl, ho, hq⟩
  have HO := Lib.hid (HO.out.trans ho)
  have HB := Lib.hid (HB.out.only ho (by simp))
  cases q
  · clear ho hq
    go_wp2_with fail
    refine (known04 _).mono ?_
    rintro e w2 ⟨rfl, ho⟩
    have HO := Lib.hid (HO.out.trans ho)
    clear ho
    go_wp2_with fail
    go_ret
    exact ⟨rfl, HO.out⟩
  obtain ⟨hn2, hn4⟩ := hq rfl
  clear ho hq
  go_wp2_with fail
  refine (new_any _ 30 (by omega) (by omega)).mono ?_
  rintro e w2 ⟨mb, ms, rfl, hmb, hms, ho, hm⟩
  have HST : Hid (SeqSt w (w2.alloc (.cells #[.int .i64 3, .int .i64 2] 66)) mb ms w2.heap.size 3 2 #[.int .u8 a, .int .u8 s, .slice A2 n2 cap2, .int .u8 rd, .slice A4 l.length cap4, .int .u8 wd] (MS.new 30) (.slice none 0 0) 0 (fun _ => 0) (fun _ => 0) (fun _ => 0) (fun _ => ⟨3, 2, 0, 0, []⟩)) := by
    have h1 := HO.out.size
    exact Lib.hid ⟨(HO.out.trans ho).alloc _, hm.same ((Only.refl [] w2).alloc _), Blk.new _ _ _, (HB.out.only ho (by simp)).alloc _, .nil _ _ _ _ _, fun j hj => absurd hj (by omega), ⟨by omega, by omega⟩, fun j hj => absurd hj (by omega), fun x hx => by cases hx⟩
  clear hmb hms ho hm HO HB
  go_wp2_with fail
  go_loopw [6, 7] (fun v i wr => ∃ (k : Nat) (B V C : Nat → Nat) (S : Nat → WS), k ≤ n2 ∧ i = .int .i64 k ∧ SeqSt w wr mb ms w2.heap.size 3 2 #[.int .u8 a, .int .u8 s, .slice A2 n2 cap2, .int .u8 rd, .slice A4 l.length cap4, .int .u8 wd] (MS.new 30) v k B V C S ∧ ∀ j, j < k → S j = ⟨3, 2, 0, 0, [(j : Int), 9]⟩) (fun _ i _ => n2 - (intOf i).toNat)
  case atStart => exact ⟨0, _, _, _, _, by omega, rfl, HST.out, fun j hj => absurd hj (by omega)⟩
  case round =>
    clear HST
    obtain ⟨k, B, V, C, S, hk, rfl, hst, hS⟩ := hrel
    have HST := Lib.hid hst
    have HS := Lib.hid hS
    have c2 := hst.case_.at 2 (v := .slice A2 n2 cap2) rfl
    have c4 := hst.case_.at 4 (v := .slice A4 l.length cap4) rfl
    have l0 := hst.lock.at 0 (v := .int .i64 3) rfl
    have l1 := hst.lock.at 1 (v := .int .i64 2) rfl
    clear hst hS
    by_cases hlt : k < n2
    · have hlti : (k : Int) < n2 := by omega
      go_wp2_with fail
      have HX := Lib.hid (Blk.new wr 22 #[.int .u64 k, .int .u64 9])
      have HOX := Lib.hid ((Only.refl [] wr).alloc (.cells #[.int .u64 k, .int .u64 9] 22))
      refine (write_some _ 3 (some ⟨wr.heap.size, 0, none⟩) _ [(k : Int), 9] (.inr ⟨_, 0, HX.out.lt, rfl, fun i hi => by
        match i, hi with
        | 0, _ => exact HX.out.at 0 rfl
        | 1, _ => exact HX.out.at 1 rfl⟩) (by omega) (by omega) (by simp) (by simp)).mono ?_
      rintro e w3 ⟨b, v, c, rfl, hb, hv, hbv, ho, hw⟩
      have HN := Lib.hid (And.intro (Nat.le_trans HOX.out.size hb) (And.intro (Nat.le_trans HOX.out.size hv) hbv))
      have HO3 := Lib.hid (HOX.out.trans ho)
      have HW := Lib.hid (show IsW w3 b v c ⟨3, 2, 0, 0, [(k : Int), 9]⟩ from hw)
      have HRW := Lib.hid (row_based (row_other HST.out.ws.row (HO3.out.alloc (.cells #[.pointer (some ⟨b, 0, none⟩)] 68)) (by simp)) HST.out.loS)
      clear hb hv hbv ho hw HX HOX c2 c4 l0 l1
      obtain ⟨hi, hz0, hz1, hz2⟩ := HI0.out
      go_wp2_with (at_builtin; refine wpList_append_own _ rfl (.tmp 45) (.tmp 47) 67 rfl w.heap.size 68 i0 (.pointer none) 1 8 Try.underlying67 hi hz0 hz1 hz2 rfl (by decide) _ k _ rfl HRW.out ⟨w3.heap.size, 0, none⟩ 1 1 [.pointer (some ⟨b, 0, none⟩)] rfl rfl ?hn ?h1 ?h63 ?hb ?hbase ?_)
      case hn => intro j u hj; match j, hj with | 0, hj => simp at hj; subst hj; simp [Addr.add]
      case h1 => intro u hu; simp at hu; subst hu; rfl
      case h63 => unfold maxLen; omega
      case hb => omega
      case hbase => have := HST.out.out.size; have := HO3.out.size; simp; omega
      intro v' w4 hown hg _
      have HST := Lib.hid (HST.out.add HO3.out HW.out HN.out.1 HN.out.2.1 HN.out.2.2 hown hg)
      have HS : Hid (∀ j, j < k + 1 → ext S k ⟨3, 2, 0, 0, [(k : Int), 9]⟩ j = ⟨3, 2, 0, 0, [(j : Int), 9]⟩) := Lib.hid fun j hj => by
        by_cases e : j = k
        · rw [e, ext_same]
        · rw [ext_far _ _ _ _ e]
          exact HS.out j (by omega)
      clear hown hg hi hz0 hz1 hz2 HRW HO3 HW HN
      go_wp2_with fail
      exact ⟨⟨k + 1, _, _, _, _, by omega, by go_num, HST.out, HS.out⟩, by simp [intOf]; omega⟩
    · have hlti : ¬ (k : Int) < n2 := by omega
      have HINV := Lib.hid (odd_start k S HS.out)
      clear HS
      rcases Nat.eq_zero_or_pos k with hk0 | hkp
      · obtain ⟨A, cap, rfl⟩ := row_form HST.out.ws.row
        subst hk0
        go_wp2_with fail
        go_loopw [9] (fun i wx => i = .int .i64 0 ∧ wr = wx) (fun _ _ => 0)
        case atStart => exact ⟨rfl, rfl⟩
        case round =>
          obtain ⟨rfl, rfl⟩ := hrel
          by_cases hz : (0 : Int) < l.length
          · go_wp2_with fail
            refine (known04 _).mono ?_
            rintro e w5 ⟨rfl, ho⟩
            have HO := Lib.hid (HST.out.out.trans ho)
            clear ho
            go_wp2_with fail
            go_ret
            exact ⟨rfl, HO.out⟩
          · go_wp2_with fail
            refine (known04 _).mono ?_
            rintro e w5 ⟨rfl, ho⟩
            have HO := Lib.hid (HST.out.out.trans ho)
            clear ho
            go_wp2_with fail
            go_ret
            exact ⟨rfl, HO.out⟩
      · obtain ⟨g, cap, cur, rfl, _, _, _⟩ := row_cells HST.out.ws.row hkp
        have HG := Lib.hid (show g = g from rfl)
        go_wp2_with fail
        go_loopw [9] (fun i wx => ∃ (t : Nat) (m : MS) (S : Nat → WS), t ≤ l.length ∧ i = .int .i64 t ∧ SeqSt w wx mb ms w2.heap.size 3 2 #[.int .u8 a, .int .u8 s, .slice A2 n2 cap2, .int .u8 rd, .slice A4 l.length cap4, .int .u8 wd] m (.slice (some ⟨g, 0, none⟩) k cap) k B V C S ∧ OddInv k S m.L t) (fun i _ => l.length - (intOf i).toNat)
        case atStart => exact ⟨0, _, _, by omega, rfl, HST.out, HINV.out⟩
        case round =>
          clear HST HINV HG
          obtain ⟨t, m, S, ht, rfl, hst, hinv⟩ := hrel
          have HST := Lib.hid hst
          have HINV := Lib.hid hinv
          have c4 := hst.case_.at 4 (v := .slice A4 l.length cap4) rfl
          clear hst hinv
          have kpi : (0 : Int) < k := by omega
          by_cases hlt : t < l.length
          · have hlti : (t : Int) < l.length := by omega
            obtain ⟨go, o, hgo, rfl, hc⟩ := HR4.out.at hlt
            have d1 := (HST.out.out.cell (p := ⟨go, o + t, none⟩) hgo (by simp)).trans (hc t hlt)
            have hb := HBY.out t hlt
            have p0 : 0 ≤ nth l t := hb.1
            have p1 : nth l t ≤ 255 := hb.2
            clear hb hc hgo
            obtain ⟨j, hj⟩ : ∃ j : Nat, nth l t % (k : Int) = (j : Int) := ⟨(nth l t % (k : Int)).toNat, by rw [Int.toNat_of_nonneg (Int.emod_nonneg _ (by omega))]⟩
            have hjk : j < k := by have := Int.emod_lt_of_pos (nth l t) (show (0 : Int) < k by omega); omega
            have ck := HST.out.ws.cell hjk
            obtain ⟨r0, r1, hinv⟩ := odd_step k S m t j hjk (by omega) HINV.out
            have HI1 := Lib.hid hinv
            have HRG := Lib.hid (And.intro r0 r1)
            clear hinv r0 r1
            go_wp2_with fail
            refine (wgo_any _ (B j) (V j) (C j) mb ms (S j) m (HST.out.ws.at_ j hjk) HST.out.mem (HST.out.vms j hjk) HRG.out.1 HRG.out.2).mono ?_
            rintro e w3 ⟨rfl, ho, hm, hw⟩
            have HST1 := Lib.hid (HST.out.step hjk ho hm hw)
            clear ho hm hw d1 ck c4 HST HINV HRG
            obtain ⟨S1, hS1⟩ : ∃ S1, updW S j ((S j).go m).1 = S1 := ⟨_, rfl⟩
            obtain ⟨m1, hm1⟩ : ∃ m1, ((S j).go m).2 = m1 := ⟨_, rfl⟩
            rw [hS1, hm1] at HST1 HI1
            clear hS1 hm1 hj
            go_wp2_with fail
            go_loopw [10, 11] (fun c i wx => ∃ q : Nat, q ≤ k ∧ i = .int .i64 q ∧ c = .int .i64 (cnt S1 q) ∧ w3 = wx) (fun _ i _ => k - (intOf i).toNat)
            case atStart => exact ⟨0, by omega, rfl, rfl, rfl⟩
            case round =>
              obtain ⟨q, hq, rfl, rfl, rfl⟩ := hrel
              have hcr : 0 ≤ cnt S1 q ∧ cnt S1 q ≤ q := ⟨cnt_nonneg S1 q, cnt_le S1 q⟩
              by_cases hqk : q < k
              · have hqki : (q : Int) < k := by omega
                have cq := HST1.out.ws.cell hqk
                have c2 := (HST1.out.ws.at_ q hqk).obj.at 2 (v := .int .i64 (S1 q).turn) rfl
                have HC := Lib.hid (show cnt S1 (q + 1) = cnt S1 q + inn (S1 q) from rfl)
                by_cases h2 : 2 ≤ (S1 q).turn
                · by_cases h4 : (S1 q).turn ≤ 4
                  · have HI := Lib.hid (show inn (S1 q) = 1 by unfold inn; rw [if_pos ⟨h2, h4⟩])
                    go_wp2_with fail
                    refine (turn_at _ (B q) (S1 q).turn c2).mono ?_
                    rintro e w4 ⟨rfl, rfl⟩
                    go_wp2_with fail
                    refine (turn_at _ (B q) (S1 q).turn c2).mono ?_
                    rintro e w4 ⟨rfl, rfl⟩
                    go_wp2_with fail
                    exact ⟨⟨q + 1, by omega, by go_num, by rw [HC.out, HI.out]; exact ⟨rfl, trivial⟩⟩, by simp [intOf]; omega⟩
                  · have HI := Lib.hid (show inn (S1 q) = 0 by unfold inn; rw [if_neg (by omega)])
                    go_wp2_with fail
                    refine (turn_at _ (B q) (S1 q).turn c2).mono ?_
                    rintro e w4 ⟨rfl, rfl⟩
                    go_wp2_with fail
                    refine (turn_at _ (B q) (S1 q).turn c2).mono ?_
                    rintro e w4 ⟨rfl, rfl⟩
                    go_wp2_with fail
                    exact ⟨⟨q + 1, by omega, by go_num, by rw [HC.out, HI.out, Int.add_zero], trivial⟩, by simp [intOf]; omega⟩
                · have HI := Lib.hid (show inn (S1 q) = 0 by unfold inn; rw [if_neg (by omega)])
                  go_wp2_with fail
                  refine (turn_at _ (B q) (S1 q).turn c2).mono ?_
                  rintro e w4 ⟨rfl, rfl⟩
                  go_wp2_with fail
                  exact ⟨⟨q + 1, by omega, by go_num, by rw [HC.out, HI.out, Int.add_zero], trivial⟩, by simp [intOf]; omega⟩
              · have hqki : ¬ (q : Int) < k := by omega
                obtain rfl : q = k := by omega
                clear hcr
                have hpar := HI1.out.par
                have hl0 := HI1.out.len
                have h3 := HI1.out.c0
                have h4 := HI1.out.c1
                have HLD := Lib.hid (show m1.load 3 = (⟨m1.L, wrap64 (m1.c + 1), m1.l⟩, nth m1.L 3, 0) by
                  have := congrArg (fun x => (x.1, x.2.v, x.2.e)) (qload m1 3 (by omega) (by omega))
                  rw [act1] at this
                  exact this)
                have HNR := Lib.hid (show 0 ≤ nth m1.L 3 ∧ nth m1.L 3 < 18446744073709551616 by omega)
                have HLN := Lib.hid hl0
                clear hl0 h3 h4
                rcases (show nth m1.L 3 % 2 = 0 ∨ nth m1.L 3 % 2 = 1 by omega) with hpz | hpz
                · rw [hpz] at hpar
                  rw [← hpar]
                  clear hpar
                  go_wp2_with fail
                  refine (load_to HST1.out.mem HLD.out).mono ?_
                  rintro e w4 ⟨rfl, ho, hm⟩
                  have HST2 := Lib.hid (HST1.out.touch ho hm (by simp))
                  have l0 := HST2.out.lock.at 0 (v := .int .i64 3) rfl
                  have l1 := HST2.out.lock.at 1 (v := .int .i64 2) rfl
                  clear ho hm
                  have hpt : (nth m1.L 3).tmod 2 = 0 := by rw [Int.tmod_eq_emod_of_nonneg HNR.out.1]; exact hpz
                  go_wp2_with fail
                  refine (read_some _ 3 2 (by omega) (by omega) (by omega) (by omega)).mono ?_
                  rintro e w5 ⟨rb, rfl, _, ho, _⟩
                  have HST3 := Lib.hid (HST2.out.quiet ho)
                  clear ho l0 l1
                  go_wp2_with fail
                  go_loopw [15] (fun i wx => i = .int .i64 0 ∧ w5 = wx) (fun _ _ => 0)
                  case atStart => exact ⟨rfl, rfl⟩
                  case round =>
                    obtain ⟨rfl, rfl⟩ := hrel
                    go_wp2_with fail
                    exact ⟨⟨t + 1, _, _, by omega, by go_num, HST3.out, HI1.out⟩, by simp [intOf]; omega⟩
                · rw [hpz] at hpar
                  rw [← hpar]
                  clear hpar
                  go_wp2_with fail
                  refine (load_to HST1.out.mem HLD.out).mono ?_
                  rintro e w4 ⟨rfl, ho, hm⟩
                  have HST2 := Lib.hid (HST1.out.touch ho hm (by simp))
                  have l0 := HST2.out.lock.at 0 (v := .int .i64 3) rfl
                  have l1 := HST2.out.lock.at 1 (v := .int .i64 2) rfl
                  have hpt : (nth m1.L 3).tmod 2 = 1 := by rw [Int.tmod_eq_emod_of_nonneg HNR.out.1]; exact hpz
                  clear ho hm
                  go_wp2_with fail
                  refine (read_some _ 3 2 (by omega) (by omega) (by omega) (by omega)).mono ?_
                  rintro e w5 ⟨rb, rfl, hrb, ho, hr⟩
                  have HOR := Lib.hid (show OddR w4 mb ms rb m1.L w5 from ⟨_, _, _, _, _, hr, HST2.out.mem.same ho, rfl, hrb, ho.sub (by simp), fun x hx => by cases hx⟩)
                  have HPZ := Lib.hid hpz
                  clear ho l0 l1 hrb hr hpt hpz
                  go_wp2_with fail
                  go_loopw [15] (fun i wx => ∃ q : Nat, q ≤ 6 ∧ i = .int .i64 q ∧ OddR w4 mb ms rb m1.L wx) (fun i _ => 6 - (intOf i).toNat)
                  case atStart => exact ⟨0, by omega, rfl, HOR.out⟩
                  case round =>
                    clear HOR
                    obtain ⟨q', hq', rfl, hor⟩ := hrel
                    have HOR := Lib.hid hor
                    clear hor
                    by_cases hq6 : q' < 6
                    · have hq6i : (q' : Int) < 6 := by omega
                      go_wp2_with fail
                      refine (odd_read w4 mb ms rb m1.L _ HOR.out HST2.out.mem.lt HLN.out HNR.out.1 HNR.out.2 HPZ.out).mono ?_
                      rintro e w6 ⟨rfl, hor⟩
                      have HOR := Lib.hid hor
                      clear hor
                      go_wp2_with fail
                      exact ⟨⟨q' + 1, by omega, by go_num, HOR.out⟩, by simp [intOf]; omega⟩
                    · have hq6i : ¬ (q' : Int) < 6 := by omega
                      have HST3 := Lib.hid (show ∃ m', m'.L = m1.L ∧ SeqSt w wr mb ms w2.heap.size 3 2 #[.int .u8 a, .int .u8 s, .slice A2 n2 cap2, .int .u8 rd, .slice (some ⟨go, o, none⟩) l.length cap4, .int .u8 wd] m' (.slice (some ⟨g, 0, none⟩) q cap) q B V C S1 from by
                        obtain ⟨sl, was, vals, tries, m', _, hm, hml, _, hon, _⟩ := HOR.out
                        exact ⟨m', hml, HST2.out.touch hon hm (by simp)⟩)
                      go_wp2_with fail
                      obtain ⟨m', hml, hst⟩ := HST3.out
                      exact ⟨⟨t + 1, m', _, by omega, by go_num, hst, by rw [hml]; exact HI1.out⟩, by simp [intOf]; omega⟩
          · have hlti : ¬ (t : Int) < l.length := by omega
            go_wp2_with fail
            refine (known04 _).mono ?_
            rintro e w5 ⟨rfl, ho⟩
            have HO := Lib.hid (HST.out.out.trans ho)
            clear ho
            go_wp2_with fail
            go_ret
            exact ⟨rfl, HO.out⟩

end Go.Proofs.Ytnoplfjodedijaa
