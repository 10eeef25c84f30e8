/- The document's ring: Init. Written by rus5gen.py. -/
import Derived.Test.YtoecoijmkjhkgaaRUs4
namespace Go.Proofs.Ytoecoijmkjhkgaa
open Go.RowKit

theorem initL_odd (n : Nat) : ∀ i, i < n → nth (initL n) (2 + 2 * i + 1) = 0 := by
  induction n with
  | zero => intro i hi; omega
  | succ n ih =>
    intro i hi
    have hl := initL_length n
    unfold initL
    by_cases h : i < n
    · have : nth (initL n ++ [(n : Int), 0]) (2 + 2 * i + 1) = nth (initL n) (2 + 2 * i + 1) := by simp [nth, List.getElem?_append_left (show 2 + 2 * i + 1 < (initL n).length by omega)]
      rw [this]
      exact ih i h
    · have : i = n := by omega
      subst this
      have := nth_app2 (initL i) [(i : Int), 0] 1
      rw [hl] at this
      exact this

theorem u_init_none (w : World) (mv : Value) (a n : Int) (h : ¬ ringRight a n) : Calls Try.prog 46 #[mv, .int .i64 a, .int .i64 n] w fun e w' => e = .returned (.int .i64 1) ∧ w = w' := by
  have HR := Lib.hid h
  clear h
  go_enter Try.func46, Try.ntmps46
  go_wp2_with fail
  refine (u_right _ a n).mono ?_
  rintro e w1 ⟨rfl, rfl⟩
  rw [decide_eq_false HR.out]
  go_wp2_with fail
  go_ret
  exact ⟨rfl, rfl⟩

set_option maxHeartbeats 2000000 in
set_option maxRecDepth 100000 in
theorem u_init_some (w : World) (rb rs : Nat) (m : MS) (a : Int) (n : Nat) (hm : IsRef w rb rs m) (h : ringRight a n) : Calls Try.prog 46 #[.pointer (some ⟨rb, 0, none⟩), .int .i64 a, .int .i64 n] w fun e w' => e = .returned (.int .i64 (m.lay a (initL n)).2) ∧ Only [rb, rs] w w' ∧ IsRef w' rb rs (m.lay a (initL n)).1 := by
  obtain ⟨⟨a0, a1⟩, n2, n64⟩ := h
  have HR := Lib.hid (show ringRight a n from ⟨⟨a0, a1⟩, n2, n64⟩)
  have HM := Lib.hid hm
  obtain ⟨r, hrr⟩ : ∃ r, m.lay a (initL n) = r := ⟨_, rfl⟩
  rw [hrr]
  have HRR := Lib.hid hrr
  clear hrr hm
  go_enter Try.func46, Try.ntmps46
  go_wp2_with fail
  refine (u_right _ a n).mono ?_
  rintro e w1 ⟨rfl, rfl⟩
  rw [decide_eq_true HR.out]
  go_wp2_with fail
  go_loopw [7] (fun i wx => ∃ (j : Nat) (m2 : MS), j ≤ 2 + 2 * n ∧ i = .int .i64 j ∧ Only [rb, rs] w wx ∧ IsRef wx rb rs m2 ∧ m2.lay (a + j) ((initL n).drop j) = r) (fun i _ => (2 + 2 * n) - (intOf i).toNat)
  case atStart => exact ⟨0, m, by omega, rfl, Only.refl _ _, HM.out, by simpa using HRR.out⟩
  case round =>
    clear HM HRR HR
    obtain ⟨j, m2, hj, rfl, ho, hm, hlay⟩ := hrel
    have HOX := Lib.hid ho
    have HMX := Lib.hid hm
    clear hm ho
    by_cases hjn : j < 2 + 2 * n
    · have hjni : (j : Int) < 2 + 2 * (n : Int) := by omega
      have hlen := initL_length n
      have hd : (initL n).drop j = nth (initL n) j :: (initL n).drop (j + 1) := by
        rw [List.drop_eq_getElem_cons (by omega)]
        simp [nth, show j < (initL n).length by omega]
      rw [hd] at hlay
      have HL2 := Lib.hid (show (if (m2.store (a + j) (nth (initL n) j)).2 = 0 then MS.lay (m2.store (a + j) (nth (initL n) j)).1 (a + j + 1) ((initL n).drop (j + 1)) else m2.store (a + j) (nth (initL n) j)) = r from hlay)
      have haj : IntKind.i64.wrap (a + j) = a + j := wrap_i64 _ (by omega) (by omega)
      have HV := Lib.hid (And.intro (initL_turn n) (And.intro (initL_odd n) (initL_head n)))
      clear hlay hd hlen
      obtain ⟨v, hv⟩ : ∃ v, nth (initL n) j = v := ⟨_, rfl⟩
      rw [hv] at HL2
      by_cases h2 : j < 2
      · have h2i : ¬ (2 : Int) ≤ j := by omega
        obtain rfl : v = 0 := by
          rw [← hv]
          rcases (show j = 0 ∨ j = 1 by omega) with rfl | rfl
          · exact HV.out.2.2.1
          · exact HV.out.2.2.2
        clear hv
        go_wp2_with fail
        refine (ref_store_any _ rb rs m2 (a + j) 0 HMX.out).mono ?_
        rintro e w5 ⟨rfl, ho, hm⟩
        have HO5 := Lib.hid (HOX.out.trans ho)
        have HM5 := Lib.hid hm
        clear ho hm
        by_cases hz : (m2.store (a + j) 0).2 = 0
        · have hl := HL2.out
          rw [if_pos hz] at hl
          have HL3 := Lib.hid (show (m2.store (a + j) 0).1.lay (a + ((j + 1 : Nat) : Int)) ((initL n).drop (j + 1)) = r by rw [show a + ((j + 1 : Nat) : Int) = a + j + 1 by omega]; exact hl)
          rw [hz]
          clear hl hz haj
          go_wp2_with fail
          exact ⟨⟨j + 1, _, by omega, by go_num, HO5.out, HM5.out, HL3.out⟩, by simp [intOf]; omega⟩
        · have hl := HL2.out
          rw [if_neg hz] at hl
          have hzb : ((m2.store (a + j) 0).2 != 0) = true := by simpa using hz
          have HL3 := Lib.hid hl
          clear hl hz haj
          go_wp2_with fail
          go_ret
          exact ⟨by rw [← HL3.out]; rfl, HO5.out, by rw [← HL3.out]; exact HM5.out⟩
      · have h2i : (2 : Int) ≤ j := by omega
        by_cases h3 : j % 2 = 0
        · obtain ⟨i, hi⟩ : ∃ i, j = 2 + 2 * i := ⟨(j - 2) / 2, by omega⟩
          have hvi : v = (i : Int) := by rw [← hv, hi]; exact HV.out.1 i (by omega)
          have h3i : (j : Int) % 2 = 0 := by omega
          have h4 : ((j : Int) - 2) / 2 = v := by omega
          have h5 : IntKind.u64.wrap v = v := by rw [IntKind.wrap_u64]; omega
          have h6 : 0 ≤ v := by omega
          have h7 : v ≤ 100 := by omega
          clear hv hvi hi h3
          go_wp2_with fail
          refine (ref_store_any _ rb rs m2 (a + j) v HMX.out).mono ?_
          rintro e w5 ⟨rfl, ho, hm⟩
          have HO5 := Lib.hid (HOX.out.trans ho)
          have HM5 := Lib.hid hm
          clear ho hm
          by_cases hz : (m2.store (a + j) v).2 = 0
          · have hl := HL2.out
            rw [if_pos hz] at hl
            have HL3 := Lib.hid (show (m2.store (a + j) v).1.lay (a + ((j + 1 : Nat) : Int)) ((initL n).drop (j + 1)) = r by rw [show a + ((j + 1 : Nat) : Int) = a + j + 1 by omega]; exact hl)
            rw [hz]
            clear hl hz haj
            go_wp2_with fail
            exact ⟨⟨j + 1, _, by omega, by go_num, HO5.out, HM5.out, HL3.out⟩, by simp [intOf]; omega⟩
          · have hl := HL2.out
            rw [if_neg hz] at hl
            have hzb : ((m2.store (a + j) v).2 != 0) = true := by simpa using hz
            have HL3 := Lib.hid hl
            clear hl hz haj
            go_wp2_with fail
            go_ret
            exact ⟨by rw [← HL3.out]; rfl, HO5.out, by rw [← HL3.out]; exact HM5.out⟩
        · obtain ⟨i, hi⟩ : ∃ i, j = 2 + 2 * i + 1 := ⟨(j - 3) / 2, by omega⟩
          obtain rfl : v = 0 := by rw [← hv, hi]; exact HV.out.2.1 i (by omega)
          have h3i : (j : Int) % 2 = 1 := by omega
          clear hv hi h3
          go_wp2_with fail
          refine (ref_store_any _ rb rs m2 (a + j) 0 HMX.out).mono ?_
          rintro e w5 ⟨rfl, ho, hm⟩
          have HO5 := Lib.hid (HOX.out.trans ho)
          have HM5 := Lib.hid hm
          clear ho hm
          by_cases hz : (m2.store (a + j) 0).2 = 0
          · have hl := HL2.out
            rw [if_pos hz] at hl
            have HL3 := Lib.hid (show (m2.store (a + j) 0).1.lay (a + ((j + 1 : Nat) : Int)) ((initL n).drop (j + 1)) = r by rw [show a + ((j + 1 : Nat) : Int) = a + j + 1 by omega]; exact hl)
            rw [hz]
            clear hl hz haj
            go_wp2_with fail
            exact ⟨⟨j + 1, _, by omega, by go_num, HO5.out, HM5.out, HL3.out⟩, by simp [intOf]; omega⟩
          · have hl := HL2.out
            rw [if_neg hz] at hl
            have hzb : ((m2.store (a + j) 0).2 != 0) = true := by simpa using hz
            have HL3 := Lib.hid hl
            clear hl hz haj
            go_wp2_with fail
            go_ret
            exact ⟨by rw [← HL3.out]; rfl, HO5.out, by rw [← HL3.out]; exact HM5.out⟩
    · have hjni : ¬ (j : Int) < 2 + 2 * (n : Int) := by omega
      have hlen := initL_length n
      rw [List.drop_eq_nil_of_le (by omega)] at hlay
      have HL3 := Lib.hid (show (m2, (0 : Int)) = r from hlay)
      clear hlay hlen
      go_wp2_with fail
      go_ret
      exact ⟨by rw [← HL3.out]; rfl, HOX.out, by rw [← HL3.out]; exact HMX.out⟩

end Go.Proofs.Ytoecoijmkjhkgaa
