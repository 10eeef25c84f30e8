/- The walk of law SeqlockEnds. -/
import Derived.Test.YtnoplfjodedijaaKnown4W
import Derived.Test.YtnoplfjodedijaaSeqPure
namespace Go.Proofs.Ytnoplfjodedijaa
open Go.RowKit

theorem alone_go (w : World) (b vv cap mb ms : Nat) (V : List Int) (c was : Int) (j : Nat) (m : MS) (n1 : 1 ≤ V.length) (n16 : V.length ≤ 16) (c0 : 0 ≤ c) (c1 : c ≤ 100) (hc : c % 2 = 0) (hj : j < V.length + 3) (hwas : 1 ≤ j → was = c) (hA : Alone V.length V c j m.L)
    (h : IsW w b vv cap ⟨1, V.length, j, was, V⟩) (hm : IsMem w mb ms m) (hv : vv ≠ ms) :
    Calls Try.prog 36 #[.pointer (some ⟨b, 0, none⟩), .pointer (some ⟨mb, 0, none⟩)] w fun e w' => e = .returned (.bool (decide (j + 1 = V.length + 3))) ∧ Only [b, mb, ms] w w' ∧ ∃ m', IsMem w' mb ms m' ∧ Alone V.length V c (j + 1) m'.L ∧ IsW w' b vv cap ⟨1, V.length, (j + 1 : Nat), c, V⟩ := by
  obtain ⟨r0, r1, m', hgo, hA'⟩ := alone_step V.length V c j m was n1 n16 rfl c0 c1 hc hj hwas hA
  refine (wgo_any w b vv cap mb ms _ m h hm hv r0 r1).mono ?_
  rintro e w' ⟨rfl, ho, hm', hw'⟩
  rw [hgo] at hm' hw' ⊢
  refine ⟨?_, ho, m', hm', hA', hw'⟩
  have : decide ((((j + 1 : Nat) : Int)) = (V.length : Int) + 3) = decide (j + 1 = V.length + 3) := by
    by_cases hh : j + 1 = V.length + 3
    · rw [decide_eq_true hh, decide_eq_true (by omega)]
    · rw [decide_eq_false hh, decide_eq_false (by omega)]
  dsimp only
  rw [this]

theorem read_go (w : World) (b mb ms : Nat) (sl : Value) (V : List Int) (c tr : Int) (j : Nat) (m : MS) (n1 : 1 ≤ V.length) (n16 : V.length ≤ 16) (hVr : ∀ x ∈ V, 0 ≤ x ∧ x < 18446744073709551616) (c0 : 0 ≤ c) (c1 : c ≤ 100) (hc : c % 2 = 0) (hj : j < V.length + 2) (hL : m.L.length = 20) (h1 : nth m.L 1 = c) (h3 : ∀ i, i < V.length → nth m.L (i + 2) = nth V i)
    (h : IsR w b sl (readAlone V.length V c j tr)) (hm : IsMem w mb ms m) (hs : ∀ x ∈ [mb, ms], sl.ownBlock ≠ some x) :
    Calls Try.prog 37 #[.pointer (some ⟨b, 0, none⟩), .pointer (some ⟨mb, 0, none⟩)] w fun e w' => ∃ sl' m' tr', e = .returned (.bool (decide (j + 1 = V.length + 2))) ∧ Only (b :: mb :: ms :: sl.ownBlock.toList) w w' ∧ IsMem w' mb ms m' ∧ m'.L = m.L ∧ IsR w' b sl' (readAlone V.length V c (j + 1) tr') ∧ ∀ x, sl'.ownBlock = some x → sl.ownBlock = some x ∨ w.heap.size ≤ x := by
  obtain ⟨r0, r1, m', tr', hgo, hm'⟩ := read_step V.length V c j m tr n1 n16 rfl hVr c0 c1 hc hj hL h1 h3
  refine (rgo_any w b mb ms sl _ m h hm hs r0 r1 (fun _ hlt => ?_)).mono ?_
  · have h5 : (j : Int) < V.length + 1 := hlt
    show (V.take (j - 1)).length < 16
    rw [List.length_take]
    omega
  rintro e w' ⟨sl', rfl, ho, hmm, hr, hx⟩
  rw [hgo] at hmm hr ⊢
  refine ⟨sl', m', tr', ?_, ho, hmm, hm', hr, hx⟩
  have : decide ((((j + 1 : Nat) : Int)) = (V.length : Int) + 2) = decide (j + 1 = V.length + 2) := by
    by_cases hh : j + 1 = V.length + 2
    · rw [decide_eq_true hh, decide_eq_true (by omega)]
    · rw [decide_eq_false hh, decide_eq_false (by omega)]
  rw [← this]
  rfl

set_option maxHeartbeats 4000000 in
set_option maxRecDepth 100000 in
theorem seqends_walk (w : World) (A : Option Addr) (cap0 : Nat) (V : List Int) (a : Int) (h0 : 0 ≤ a) (h1 : a ≤ 255) (hr : Reads w A V) (hVr : ∀ x ∈ V, 0 ≤ x ∧ x < 18446744073709551616) (hl : V.length ≤ 9223372036854775807) :
    Calls Try.prog 10 #[.slice A V.length cap0, .int .u8 a] w fun e w' => e = .returned (.bool true) ∧ Only [] w w' := by
  have HRD := Lib.hid hr
  have HVR := Lib.hid hVr
  have HLL := Lib.hid hl
  clear hr hVr hl
  go_enter Try.func10, Try.ntmps10
  by_cases hn : 1 ≤ V.length ∧ V.length ≤ 16
  · obtain ⟨n1, n16⟩ := hn
    have n1i : ¬ (V.length : Int) < 1 := by omega
    have n16i : ¬ (16 : Int) < V.length := by omega
    go_wp2_with fail
    refine (new_any _ 20 (by omega) (by omega)).mono ?_
    rintro e w1 ⟨mb, ms, rfl, hb, hs, ho, hm⟩
    have HB := Lib.hid (And.intro hb hs)
    have HO1 := Lib.hid (show w.heap.size ≤ w1.heap.size from ho.size)
    have HO := Lib.hid (ho.alloc (.cells #[.int .i64 1, .int .i64 V.length] 66))
    have HL := Lib.hid (Blk.new w1 66 #[.int .i64 1, .int .i64 V.length])
    have HM := Lib.hid (IsMem.same hm ((Only.refl [] w1).alloc (.cells #[.int .i64 1, .int .i64 V.length] 66)))
    have HLT := Lib.hid hm.lt
    clear hb hs ho hm
    go_wp2_with fail
    go_loopw [8] (fun i wr => ∃ (k : Nat) (m : MS), (k : Int) ≤ 5 ∧ i = .int .i64 k ∧ IsMem wr mb ms m ∧ m.L.length = 20 ∧ nth m.L 1 = 2 * k ∧ Blk wr w1.heap.size 66 #[.int .i64 1, .int .i64 V.length] ∧ Only [] w wr) (fun i _ => 6 - (intOf i).toNat)
    case atStart => exact ⟨0, MS.new 20, by omega, rfl, HM.out, rfl, rfl, HL.out, HO.out⟩
    case round =>
      clear HM HL HO
      obtain ⟨k, m, hk, rfl, hm, hlen, hnum, hl, ho⟩ := hrel
      have HM := Lib.hid hm
      have HLEN := Lib.hid hlen
      have HNUM := Lib.hid hnum
      have HL := Lib.hid hl
      have HO := Lib.hid ho
      have l0 := hl.at 0 (v := .int .i64 1) rfl
      have l1 := hl.at 1 (v := .int .i64 V.length) rfl
      have HOR := Lib.hid (show w.heap.size ≤ wr.heap.size from ho.size)
      clear hm hlen hnum hl ho
      by_cases hlt : (k : Int) < 1 + a % 5
      · go_wp2_with fail
        refine (write_some _ 1 A cap0 V (HRD.out.only HO.out (by simp)) (by omega) (by omega) n1 n16).mono ?_
        rintro e w2 ⟨b, vv, cap, rfl, hb, hvv, _, ho, hw⟩
        have HWB := Lib.hid (show vv ≠ ms ∧ wr.heap.size ≤ b ∧ wr.heap.size ≤ vv from ⟨by have := HM.out.lt; omega, hb, hvv⟩)
        have HO := Lib.hid (HO.out.trans ho)
        have HOW := Lib.hid (show w.heap.size ≤ wr.heap.size ∧ w.heap.size ≤ w2.heap.size from ⟨HOR.out, HO.out.size⟩)
        have HL := Lib.hid (HL.out.only ho (by simp))
        have HM := Lib.hid (HM.out.same ho)
        have HW := Lib.hid hw
        have l0 := HL.out.at 0 (v := .int .i64 1) rfl
        have l1 := HL.out.at 1 (v := .int .i64 V.length) rfl
        clear hb hvv ho hw
        go_wp2_with fail
        refine (read_some _ 1 V.length (by omega) (by omega) n1 n16).mono ?_
        rintro e w3 ⟨rb, rfl, hrb, ho, hr⟩
        have HRB3 := Lib.hid (Nat.le_trans HOW.out.2 hrb)
        have HO := Lib.hid (HO.out.trans ho)
        have HL := Lib.hid (HL.out.only ho (by simp))
        have HM := Lib.hid (HM.out.same ho)
        have HW := Lib.hid (HW.out.only ho (by simp) (by simp))
        have HR := Lib.hid hr
        clear hrb ho hr l0 l1
        go_wp2_with fail
        go_loopw [11] (fun i w4 => ∃ (j : Nat) (was : Int) (m4 : MS), j ≤ V.length + 3 ∧ i = .int .i64 ((j : Int) + 1) ∧ (1 ≤ j → was = 2 * (k : Int)) ∧ IsW w4 b vv cap ⟨1, V.length, j, was, V⟩ ∧ IsMem w4 mb ms m4 ∧ Alone V.length V (2 * (k : Int)) j m4.L ∧ IsR w4 rb (.slice none 0 0) ⟨1, V.length, 0, 0, [], 0, false⟩ ∧ Blk w4 w1.heap.size 66 #[.int .i64 1, .int .i64 V.length] ∧ Only [] w w4) (fun i _ => 30 - (intOf i).toNat)
        case atStart => exact ⟨0, 0, m, by omega, rfl, fun h => by omega, HW.out, HM.out, ⟨HLEN.out, by rw [if_pos (by omega)]; exact HNUM.out, fun i hi h => by omega⟩, HR.out, HL.out, HO.out⟩
        case round =>
          clear HW HM HR HL HO
          obtain ⟨j, was, m4, hj, rfl, hwas, hw, hm, hA, hr, hl, ho⟩ := hrel
          have HW := Lib.hid hw
          have HM := Lib.hid hm
          have HR := Lib.hid hr
          have HL := Lib.hid hl
          have HO := Lib.hid ho
          have HAL := Lib.hid hA
          have HWS := Lib.hid hwas
          clear hw hm hr hl ho hA hwas
          by_cases hjn : j < V.length + 3
          · have hjn1 : (j : Int) + 1 ≤ V.length + 3 := by omega
            go_wp2_with fail
            refine (alone_go _ b vv cap mb ms V (2 * (k : Int)) was j m4 n1 n16 (by omega) (by omega) (by omega) hjn HWS.out HAL.out HW.out HM.out HWB.out.1).mono ?_
            rintro e w5 ⟨rfl, ho, m5, hm, hA, hw⟩
            have hnb := wne HW.out HM.out HWB.out.1
            have HR := Lib.hid (HR.out.only ho (by
              have h1 := HR.out.obj.ne HW.out.obj (by decide)
              have h2 := rne HR.out HM.out
              simp; omega) (by simp [Value.ownBlock]))
            have HL := Lib.hid (HL.out.only ho (by
              have h1 := HL.out.ne HW.out.obj (by decide)
              have h2 := HLT.out
              simp; omega))
            have HO := Lib.hid (HO.out.then ho (by have h1 := HB.out; have h2 := HWB.out.2.1; have h3 := HOW.out.1; simp; omega))
            have HM := Lib.hid hm
            have HW := Lib.hid hw
            have HAL := Lib.hid hA
            clear ho hm hA hw hnb
            by_cases hje : j + 1 = V.length + 3
            · rw [decide_eq_true hje]
              have hjb : ((j : Int) + 1 == (V.length : Int) + 3) = true := by simp; omega
              go_wp2_with fail
              exact ⟨⟨j + 1, _, _, by omega, by simp, fun _ => rfl, HW.out, HM.out, HAL.out, HR.out, HL.out, HO.out⟩, by simp [intOf]; omega⟩
            · rw [decide_eq_false hje]
              have hjb : ((j : Int) + 1 == (V.length : Int) + 3) = false := by simp; omega
              go_wp2_with fail
              exact ⟨⟨j + 1, _, _, by omega, by simp, fun _ => rfl, HW.out, HM.out, HAL.out, HR.out, HL.out, HO.out⟩, by simp [intOf]; omega⟩
          · have hjn1 : ¬ (j : Int) + 1 ≤ V.length + 3 := by omega
            obtain rfl : j = V.length + 3 := by omega
            have hwas2 := HWS.out (by omega)
            subst hwas2
            obtain ⟨a1, a2, a3⟩ := HAL.out
            rw [if_neg (by omega), if_neg (by omega)] at a2
            have HA1 := Lib.hid a1
            have HA2 := Lib.hid a2
            have HA3 := Lib.hid (show ∀ i, i < V.length → nth m4.L (i + 2) = nth V i from fun i hi => a3 i hi (by omega))
            have HW4 : Hid (IsW wr b vv cap ⟨1, V.length, V.length + 3, 2 * (k : Int), V⟩) := HW
            have HB4 := Lib.hid (show b < wr.heap.size ∧ vv < wr.heap.size ∧ w1.heap.size < wr.heap.size ∧ mb < wr.heap.size ∧ ms < wr.heap.size ∧ w.heap.size ≤ wr.heap.size from by
              obtain ⟨cur, hr, _⟩ := HW.out.row
              have h1 := hr.lt
              have h2 := HW.out.obj.lt
              have h3 := HL.out.lt
              have h4 := HM.out.lt
              have h5 := HO.out.size
              omega)
            obtain ⟨B0, hB0⟩ : ∃ B0, wr.heap.size = B0 := ⟨_, rfl⟩
            rw [hB0] at HB4
            clear a1 a2 a3
            go_wp2_with fail
            go_loopw [12] (fun i wx => ∃ (j : Nat) (tr : Int) (m5 : MS) (sl : Value), j ≤ V.length + 2 ∧ i = .int .i64 ((j : Int) + 1) ∧ IsR wx rb sl (readAlone V.length V (2 * (k : Int) + 2) j tr) ∧ IsMem wx mb ms m5 ∧ m5.L = m4.L ∧ IsW wx b vv cap ⟨1, V.length, V.length + 3, 2 * (k : Int), V⟩ ∧ Blk wx w1.heap.size 66 #[.int .i64 1, .int .i64 V.length] ∧ Only [] w wx ∧ B0 ≤ wx.heap.size ∧ ∀ x, sl.ownBlock = some x → B0 ≤ x) (fun i _ => 30 - (intOf i).toNat)
            case atStart => exact ⟨0, 0, m4, _, by omega, rfl, HR.out, HM.out, rfl, HW4.out, HL.out, HO.out, by omega, fun x hx => by cases hx⟩
            case round =>
              clear HW4 HM HR HL HO HW
              obtain ⟨j, tr, m5, sl, hj, rfl, hr, hm, hmL, hw, hl, ho, hsz, hx⟩ := hrel
              have HW := Lib.hid hw
              have HM := Lib.hid hm
              have HML := Lib.hid hmL
              have HR := Lib.hid hr
              have HL := Lib.hid hl
              have HO := Lib.hid ho
              have HSZ := Lib.hid hsz
              have HX := Lib.hid hx
              clear hw hm hmL hr hl ho hsz hx
              by_cases hjn : j < V.length + 2
              · have hjn2 : (j : Int) + 1 ≤ V.length + 2 := by omega
                go_wp2_with fail
                refine (read_go _ rb mb ms sl V (2 * (k : Int) + 2) tr j m5 n1 n16 HVR.out (by omega) (by omega) (by omega) hjn (by rw [HML.out]; exact HA1.out) (by rw [HML.out]; exact HA2.out) (by rw [HML.out]; exact HA3.out) HR.out HM.out (fun x hx e => by have h1 := HX.out x e; have h2 := HB4.out; simp at hx; omega)).mono ?_
                rintro e w6 ⟨sl', m6, tr', rfl, ho, hm, hmL, hr, hx⟩
                have hout : ∀ y, y < B0 → y ≠ rb → y ≠ mb → y ≠ ms → y ∉ rb :: mb :: ms :: sl.ownBlock.toList := fun y h1 h2 h3 h4 hy => by
                  simp at hy
                  rcases hy with hy | hy | hy | hy
                  · exact h2 hy
                  · exact h3 hy
                  · exact h4 hy
                  · have := HX.out y hy
                    omega
                have HW := Lib.hid (HW.out.only ho (hout b HB4.out.1 (HW.out.obj.ne HR.out.obj (by decide)) (wne HW.out HM.out HWB.out.1).1 (wne HW.out HM.out HWB.out.1).2.1) (hout vv HB4.out.2.1 (by
                  obtain ⟨cur, hrr, _⟩ := HW.out.row
                  exact hrr.ne HR.out.obj (by decide)) (wne HW.out HM.out HWB.out.1).2.2.1 HWB.out.1))
                have HL := Lib.hid (HL.out.only ho (hout w1.heap.size HB4.out.2.2.1 (HL.out.ne HR.out.obj (by decide)) (by have := HLT.out; omega) (by have := HLT.out; omega)))
                have HO := Lib.hid (HO.out.then ho (fun y hy => .inr (by
                  simp at hy
                  rcases hy with hy | hy | hy | hy
                  · rw [hy]; exact HRB3.out
                  · rw [hy]; exact HB.out.1
                  · rw [hy]; exact HB.out.2
                  · have h1 := HX.out y hy
                    have h2 := HB4.out
                    omega)))
                have HX := Lib.hid (show ∀ x, sl'.ownBlock = some x → B0 ≤ x from fun x hxx => by
                  rcases hx x hxx with h | h
                  · exact HX.out x h
                  · exact Nat.le_trans HSZ.out h)
                have HSZ := Lib.hid (Nat.le_trans HSZ.out ho.size)
                have HML := Lib.hid (hmL.trans HML.out)
                have HM := Lib.hid hm
                have HR := Lib.hid hr
                clear ho hm hmL hr hx hout
                by_cases hje : j + 1 = V.length + 2
                · rw [decide_eq_true hje]
                  have hjb : ((j : Int) + 1 == (V.length : Int) + 2) = true := by simp; omega
                  go_wp2_with fail
                  exact ⟨⟨j + 1, tr', m6, sl', by omega, by simp, HR.out, HM.out, HML.out, HW.out, HL.out, HO.out, HSZ.out, HX.out⟩, by simp [intOf]; omega⟩
                · rw [decide_eq_false hje]
                  have hjb : ((j : Int) + 1 == (V.length : Int) + 2) = false := by simp; omega
                  go_wp2_with fail
                  exact ⟨⟨j + 1, tr', m6, sl', by omega, by simp, HR.out, HM.out, HML.out, HW.out, HL.out, HO.out, HSZ.out, HX.out⟩, by simp [intOf]; omega⟩
              · have hjn2 : ¬ (j : Int) + 1 ≤ V.length + 2 := by omega
                obtain rfl : j = V.length + 2 := by omega
                go_wp2_with fail
                refine (values_told _ rb sl _ HR.out (by show ((V.length + 2 : Nat) : Int) = V.length + 2; omega) rfl).mono ?_
                rintro e w7 ⟨v, rfl, ho, hv⟩
                have hv2 : w7.ownsRow _ 22 1 v (V.take (V.length + 2 - 1)).length ((V.take (V.length + 2 - 1)).map (Value.int .u64)) := hv
                rw [List.take_of_length_le (by omega)] at hv2
                have HV := Lib.hid (IsRow.ofOwn hv2 HLL.out)
                have HO := Lib.hid (HO.out.trans ho)
                have HL := Lib.hid (HL.out.only ho (by simp))
                have HW := Lib.hid (HW.out.only ho (by simp) (by simp))
                have HR := Lib.hid (HR.out.quiet ho)
                have HM := Lib.hid (HM.out.same ho)
                clear ho hv hv2
                go_wp2_with fail
                refine (eqw_any _ v _ V V HV.out ⟨A, cap0, rfl, HRD.out.only HO.out (by simp), HLL.out⟩).mono ?_
                rintro e w8 ⟨rfl, ho⟩
                rw [decide_eq_true (rfl : V = V)]
                have HO := Lib.hid (HO.out.trans ho)
                have HL := Lib.hid (HL.out.only ho (by simp))
                have HW := Lib.hid (HW.out.only ho (by simp) (by simp))
                have HR := Lib.hid (HR.out.quiet ho)
                have HM := Lib.hid (HM.out.same ho)
                clear ho
                go_wp2_with fail
                refine (wstep_done _ b vv cap V.length 1 _ V _ HW.out).mono ?_
                rintro e w9 ⟨rfl, ho⟩
                have HO := Lib.hid (HO.out.trans ho)
                have HL := Lib.hid (HL.out.only ho (by simp))
                have HR := Lib.hid (HR.out.quiet ho)
                have HM := Lib.hid (HM.out.same ho)
                clear ho
                go_wp2_with fail
                have HR2 : Hid (IsR w9 rb sl ⟨1, V.length, V.length + 2, 2 * (k : Int) + 2, V.take (V.length + 2 - 1), tr, false⟩) := Lib.hid (by
                  have := HR.out
                  unfold readAlone at this
                  rw [if_neg (by omega), show ((V.length + 2 : Nat) : Int) = V.length + 2 from by omega] at this
                  exact this)
                refine (srstep_done _ rb V.length 1 _ _ _ _ sl _ HR2.out).mono ?_
                rintro e w10 ⟨rfl, ho⟩
                have HO := Lib.hid (HO.out.trans ho)
                have HL := Lib.hid (HL.out.only ho (by simp))
                have HM := Lib.hid (HM.out.same ho)
                clear ho
                go_wp2_with fail
                exact ⟨⟨k + 1, m5, by omega, by go_num, HM.out, by rw [HML.out]; exact HA1.out, by rw [HML.out, HA2.out]; omega, HL.out, HO.out⟩, by simp [intOf]; omega⟩
      · have hlt' : ¬ (k : Int) < 1 + a % 5 := hlt
        go_wp2_with fail
        refine (known04 _).mono ?_
        rintro e w2 ⟨rfl, ho⟩
        have HO := Lib.hid (HO.out.trans ho)
        clear ho
        go_wp2_with fail
        go_ret
        exact ⟨rfl, HO.out⟩
  · have hcase : V.length < 1 ∨ 16 < V.length := by omega
    rcases hcase with hc | hc
    · have hci : (V.length : Int) < 1 := by omega
      go_wp2_with fail
      refine (known04 _).mono ?_
      rintro e w2 ⟨rfl, ho⟩
      have HO := Lib.hid ho
      clear ho
      go_wp2_with fail
      go_ret
      exact ⟨rfl, HO.out⟩
    · have hci : ¬ (V.length : Int) < 1 := by omega
      have hcj : (16 : Int) < V.length := by omega
      go_wp2_with fail
      refine (known04 _).mono ?_
      rintro e w2 ⟨rfl, ho⟩
      have HO := Lib.hid ho
      clear ho
      go_wp2_with fail
      go_ret
      exact ⟨rfl, HO.out⟩

end Go.Proofs.Ytnoplfjodedijaa
