/- TicketEnds: its plain law, and its walk. -/
import Derived.Test.YtabbnfodolekpaaKnown05
import Derived.Test.YtabbnfodolekpaaTPlain
namespace Go.Proofs.Ytabbnfodolekpaa
open Go.RowKit

/-- Holder j when R rounds have been gone. -/
def endSt (R j : Nat) : HS :=
  if R = 0 then ⟨((0 : Nat) : Int), 0, 0, false⟩ else if j + 2 < R then ⟨((0 : Nat) : Int), 3, j, true⟩ else if j + 2 = R then ⟨((0 : Nat) : Int), 2, j, true⟩ else ⟨((0 : Nat) : Int), 1, j, false⟩

/-- The holders in the middle of a round, the first k having gone on. -/
def endHs (R k : Nat) : Nat → HS := fun j => if j < k then endSt (R + 1) j else endSt R j

def endSrv (N R k : Nat) : Nat := if 2 ≤ R ∧ R - 2 < k then min (R - 1) N else min (R - 2) N

def endL (N R k : Nat) : List Int := if R = 0 then [(k : Int), 0] else [(N : Int), (endSrv N R k : Int)]

theorem endL_len (N R k : Nat) : (endL N R k).length = 2 := by unfold endL; split <;> rfl

theorem ends_step (N R k : Nat) (hk : k < N) (hN : N ≤ 100) (m : MS) (hm : m.L = endL N R k) :
    ((endSt R k).step m).1.leave.1 = endSt (R + 1) k ∧ ((endSt R k).step m).2.L = endL N R (k + 1) := by
  have hl : 0 + 1 < m.L.length := by rw [hm, endL_len]; decide
  by_cases r0 : R = 0
  · subst r0
    have e : endSt 0 k = ⟨((0 : Nat) : Int), 0, 0, false⟩ := rfl
    have e1 : nth m.L 0 = (k : Int) := by rw [hm]; rfl
    rw [e, step_asks 0 0 false m hl, e1, wrapu_small k (by omega)]
    refine ⟨?_, ?_⟩
    · simp [HS.leave, endSt]
    · rw [hm]; simp [endL]
  · have eL : endL N R k = [(N : Int), (endSrv N R k : Int)] := by simp [endL, r0]
    have eL' : endL N R (k + 1) = [(N : Int), (endSrv N R (k + 1) : Int)] := by simp [endL, r0]
    have e1 : nth m.L (0 + 1) = (endSrv N R k : Int) := by rw [hm, eL]; rfl
    by_cases c1 : k + 2 < R
    · have e : endSt R k = ⟨((0 : Nat) : Int), 3, k, true⟩ := by simp [endSt, r0, c1]
      have es : endSrv N R (k + 1) = endSrv N R k := by
        unfold endSrv
        rw [if_neg (by omega), if_neg (by omega)]
      rw [e, step_rests _ m (by simp) (by simp) (by simp)]
      refine ⟨?_, by rw [hm, eL, eL', es]⟩
      have : k + 2 < R + 1 := by omega
      simp [HS.leave, endSt, this]
    · by_cases c2 : k + 2 = R
      · have e : endSt R k = ⟨((0 : Nat) : Int), 2, k, true⟩ := by simp [endSt, r0, c2]
        have es : endSrv N R (k + 1) = k + 1 := by
          unfold endSrv
          rw [if_pos (by omega)]
          omega
        rw [e, step_holds 0 k m hl, wrapu_small k (by omega)]
        refine ⟨?_, ?_⟩
        · have : k + 2 < R + 1 := by omega
          simp [HS.leave, endSt, this]
        · rw [hm, eL, eL', es]; simp
      · have e : endSt R k = ⟨((0 : Nat) : Int), 1, k, false⟩ := by simp [endSt, r0, c1, c2]
        have es : endSrv N R k = R - 1 ∧ endSrv N R (k + 1) = R - 1 := by
          unfold endSrv
          by_cases h2 : 2 ≤ R
          · rw [if_pos (by omega), if_pos (by omega)]
            omega
          · rw [if_neg (by omega), if_neg (by omega)]
            omega
        rw [e, step_waits 0 k false m hl, e1]
        refine ⟨?_, by rw [hm, eL, eL', es.1, es.2]⟩
        by_cases c3 : k + 1 = R
        · have g : ((endSrv N R k : Nat) : Int) = (k : Int) := by rw [es.1]; omega
          rw [if_pos g]
          have h1 : ¬ k + 2 < R + 1 := by omega
          have h2 : k + 2 = R + 1 := by omega
          simp [HS.leave, endSt, h2]
        · have g : ¬ ((endSrv N R k : Nat) : Int) = (k : Int) := by rw [es.1]; omega
          rw [if_neg g]
          have h1 : ¬ k + 2 < R + 1 := by omega
          have h2 : ¬ k + 2 = R + 1 := by omega
          simp [HS.leave, endSt, h1, h2]

theorem endHs_next (R k : Nat) (h1 : HS) (h : h1.leave.1 = endSt (R + 1) k) : upd (upd (endHs R k) k h1) k ((upd (endHs R k) k h1) k).leave.1 = endHs R (k + 1) := by
  funext j
  rw [upd_same, h]
  by_cases e : j = k
  · subst e
    rw [upd_same]
    unfold endHs
    rw [if_pos (by omega)]
  · rw [upd_other _ _ e, upd_other _ _ e]
    unfold endHs
    by_cases hj : j < k
    · rw [if_pos hj, if_pos (by omega)]
    · rw [if_neg hj, if_neg (by omega)]

theorem HsAt.congr {w : World} {g n : Nat} {B : Nat → Nat} {H K : Nat → HS} (h : HsAt w g n B H) (e : ∀ k, k < n → H k = K k) : HsAt w g n B K :=
  ⟨h.row, h.inj, fun k hk => e k hk ▸ h.at_ k hk⟩

theorem ends_round (N R : Nat) : endL N R N = endL N (R + 1) 0 := by
  by_cases r0 : R = 0
  · subst r0
    have : endSrv N 1 0 = 0 := by unfold endSrv; rw [if_neg (by omega)]; omega
    simp [endL, this]
  · have : endSrv N R N = endSrv N (R + 1) 0 := by
      unfold endSrv
      by_cases h : 2 ≤ R ∧ R - 2 < N
      · rw [if_pos h, if_neg (by omega)]; omega
      · rw [if_neg h, if_neg (by omega)]; omega
    simp [endL, r0, this]

theorem ends_last (N : Nat) : endL N (4 * N + 4) 0 = [(N : Int), (N : Int)] := by
  have : endSrv N (4 * N + 4) 0 = N := by unfold endSrv; rw [if_neg (by omega)]; omega
  simp [endL, this]

theorem endSt_last (N k : Nat) (hk : k < N) : endSt (4 * N + 4) k = ⟨((0 : Nat) : Int), 3, k, true⟩ := by
  have h : k + 2 < 4 * N + 4 := by omega
  simp [endSt, h]

theorem endSt_at (R k : Nat) : (endSt R k).at_ = 0 := by
  unfold endSt
  split
  · rfl
  · split
    · rfl
    · split <;> rfl

set_option maxHeartbeats 8000000 in
set_option maxRecDepth 100000 in
theorem ticketends_walk (w : World) (n : Int) (h0 : 0 ≤ n) (h1 : n ≤ 255) : Calls Try.prog 10 #[.int .u8 n] w fun e w' => e = .returned (.bool true) ∧ Only [] w w' := by
  obtain ⟨N, hq⟩ : ∃ N : Nat, 1 + n % 20 = (N : Int) := ⟨(1 + n % 20).toNat, by omega⟩
  have hN1 : 1 ≤ N := by omega
  have hN2 : N ≤ 20 := by omega
  go_enter Try.func10, Try.ntmps10
  go_wp2_with fail
  refine (new_any _ 2 (by omega) (by omega)).mono ?_
  rintro e w1 ⟨mb, ms, rfl, hmb, hms, ho, hm⟩
  have HF := Lib.hid (And.intro hmb hms)
  have HO := Lib.hid ho
  have HM := Lib.hid hm
  clear hmb hms ho hm
  go_wp2_with fail
  refine (start_at _ 0 N (by omega) (by omega) (by omega) (by omega)).mono ?_
  rintro e w2 ⟨g, cp, B, rfl, hg, hB, ho, hH⟩
  rw [Int.toNat_natCast] at *
  have HG := Lib.hid (show w.heap.size ≤ g ∧ (∀ k, k < N → w.heap.size ≤ B k) ∧ g ≠ mb ∧ g ≠ ms ∧ (∀ k, k < N → B k ≠ mb ∧ B k ≠ ms) from by
    have h1 := HO.out.size
    have h2 := HM.out.lt
    exact ⟨by omega, fun k hk => by have := hB k hk; omega, by omega, by omega, fun k hk => by have := hB k hk; omega⟩)
  have HO2 := Lib.hid (HO.out.trans ho)
  have HM2 := Lib.hid (HM.out.only ho (by simp) (by simp))
  have HH2 := Lib.hid hH
  clear hg hB ho hH HO HM
  go_wp2
  go_loopw [8, 9] (fun i _ wr => ∃ (R : Nat) (m : MS), R ≤ 4 * N + 4 ∧ i = .int .i64 R ∧ Only [] w wr ∧ IsMem wr mb ms m ∧ HsAt wr g N B (endHs R 0) ∧ m.L = endL N R 0) (fun i _ _ => 4 * N + 4 - (intOf i).toNat)
  case atStart => exact ⟨0, _, Nat.zero_le _, rfl, HO2.out, HM2.out, HH2.out, rfl⟩
  case round =>
    obtain ⟨R, m, hR, rfl, ho, hm, hH, hL⟩ := hrel
    have HO3 := Lib.hid ho
    have HM3 := Lib.hid hm
    have HH3 := Lib.hid hH
    have HL3 := Lib.hid hL
    clear ho hm hH hL HO2 HM2 HH2
    by_cases hlt : R < 4 * N + 4
    · have hlt4 : (R : Int) < 4 * (N : Int) + 4 := by omega
      go_wp2
      go_loopw [9] (fun j wr => ∃ (k : Nat) (m : MS), k ≤ N ∧ j = .int .i64 k ∧ Only [] w wr ∧ IsMem wr mb ms m ∧ HsAt wr g N B (endHs R k) ∧ m.L = endL N R k) (fun j _ => N - (intOf j).toNat)
      case atStart => exact ⟨0, m, Nat.zero_le _, rfl, HO3.out, HM3.out, HH3.out, HL3.out⟩
      case round =>
        clear HO3 HM3 HH3 HL3
        obtain ⟨k, m, hk, rfl, ho, hm, hH, hL⟩ := hrel
        have HO3 := Lib.hid ho
        have HM3 := Lib.hid hm
        have HH3 := Lib.hid hH
        have HL3 := Lib.hid hL
        clear ho hm hH hL
        by_cases hkN : k < N
        · have ck := HH3.out.cell hkN
          have hst : endHs R k k = endSt R k := by unfold endHs; rw [if_neg (by omega)]
          have HST := Lib.hid hst
          clear hst
          go_wp2_with fail
          refine (tstep_any _ (B k) mb ms (endHs R k k) m (by rw [HST.out, endSt_at]; decide) (by rw [HST.out, endSt_at]; decide) (HG.out.2.2.2.2 k hkN) (HH3.out.at_ k hkN) HM3.out).mono ?_
          rintro e w5 ⟨rfl, ho, hh, hm⟩
          have HO5 := Lib.hid (HO3.out.then ho (by have := HG.out.2.1 k hkN; have := HF.out; simp; omega))
          have hstep := ends_step N R k hkN (by omega) m HL3.out
          rw [← HST.out] at hstep
          have HS := Lib.hid hstep
          have HM5 := Lib.hid hm
          have HH5 := Lib.hid (HH3.out.step hkN (S := [mb, ms]) ho (by have := HG.out; simp; omega) (fun x hx => by have := HG.out.2.2.2.2 x hx; simp; omega) hh)
          clear ho hh hm ck hstep HO3 HM3 HH3
          have ck := HH5.out.cell hkN
          go_wp2_with fail
          refine (tleave_any _ (B k) _ (HH5.out.at_ k hkN)).mono ?_
          rintro e w6 ⟨rfl, ho, hh⟩
          have HO6 := Lib.hid (HO5.out.then ho (by have := HG.out.2.1 k hkN; simp; exact this))
          have HM6 := Lib.hid (HM5.out.only ho (by have := HG.out.2.2.2.2 k hkN; simp; omega) (by have := HG.out.2.2.2.2 k hkN; simp; omega))
          have hh6 := HH5.out.step hkN (S := []) ho (by simp) (fun _ _ => by simp) hh
          rw [endHs_next R k _ HS.out.1] at hh6
          have HH6 := Lib.hid hh6
          clear ho hh ck hh6 HO5 HM5 HH5
          go_wp2
          exact ⟨⟨k + 1, _, by omega, by go_num, HO6.out, HM6.out, HH6.out, HS.out.2⟩, by simp [intOf]; omega⟩
        · have hkn : k = N := by omega
          subst hkn
          go_wp2
          exact ⟨⟨R + 1, m, by omega, by go_num, HO3.out, HM3.out, HH3.out.congr (fun j hj => by unfold endHs; rw [if_pos hj, if_neg (by omega)]), by rw [HL3.out, ends_round]⟩, by simp [intOf]; omega⟩
    · have hRe : R = 4 * N + 4 := by omega
      subst hRe
      have HM4 : Hid (m.L = [(N : Int), (N : Int)]) := Lib.hid (HL3.out.trans (ends_last N))
      have HH4 := Lib.hid (HH3.out.congr (K := fun k => ⟨((0 : Nat) : Int), 3, k, true⟩) (fun j hj => by unfold endHs; rw [if_neg (by omega), endSt_last N j hj]))
      clear HH3 HL3
      go_wp2
      go_loopw [10] (fun j wr => ∃ (k : Nat), k ≤ N ∧ j = .int .i64 k ∧ Only [] w wr ∧ IsMem wr mb ms m ∧ HsAt wr g N B (fun k => ⟨((0 : Nat) : Int), 3, k, true⟩)) (fun j _ => N - (intOf j).toNat)
      case atStart => exact ⟨0, Nat.zero_le _, rfl, HO3.out, HM3.out, HH4.out⟩
      case round =>
        clear HO3 HM3 HH4
        obtain ⟨k, hk, rfl, ho, hm, hH⟩ := hrel
        have HO3 := Lib.hid ho
        have HM3 := Lib.hid hm
        have HH3 := Lib.hid hH
        clear ho hm hH
        by_cases hkN : k < N
        · have ck := HH3.out.cell hkN
          go_wp2_with fail
          refine (tstate_at _ (B k) ⟨((0 : Nat) : Int), 3, k, true⟩ (HH3.out.at_ k hkN)).mono ?_
          rintro e w6 ⟨rfl, ho⟩
          have HO6 := Lib.hid (HO3.out.trans ho)
          have HM6 := Lib.hid (HM3.out.only ho (by simp) (by simp))
          have HH6 := Lib.hid (HH3.out.only ho (by simp) (fun _ _ => by simp))
          clear ho ck HO3 HM3 HH3
          go_wp2
          refine ⟨?_, by simp [intOf]; omega⟩
          repeat apply Exists.intro
          exact ⟨⟨k + 1, by omega, by go_num, HO6.out, HM6.out, HH6.out⟩, rfl⟩
        · have hl2 : m.L.length = 2 := by rw [HM4.out]; rfl
          go_wp2_with fail
          refine (load_to HM3.out (v := (N : Int)) (er := 0) (m' := ⟨m.L, wrap64 (m.c + 1), m.l⟩) (by rw [MS.load_at m 0 (by omega) (by omega), HM4.out]; rfl)).mono ?_
          rintro e w8 ⟨rfl, ho, hm⟩
          have HO8 := Lib.hid (HO3.out.then ho (by have := HF.out; simp; omega))
          have HM8 := Lib.hid hm
          clear ho hm HO3 HM3 HH3
          go_wp2_with fail
          refine (load_to HM8.out (v := (N : Int)) (er := 0) (m' := ⟨m.L, wrap64 (wrap64 (m.c + 1) + 1), m.l⟩) (by rw [MS.load_at _ 1 (by omega) (by dsimp only; omega)]; dsimp only; rw [HM4.out]; rfl)).mono ?_
          rintro e w9 ⟨rfl, ho, hm⟩
          have HO9 := Lib.hid (HO8.out.then ho (by have := HF.out; simp; omega))
          clear ho hm HO8 HM8 hl2
          go_wp2_with fail
          refine (known05 _).mono ?_
          rintro e w10 ⟨rfl, ho⟩
          have HO10 := Lib.hid (HO9.out.trans ho)
          clear ho
          go_wp2
          go_ret
          exact ⟨rfl, HO10.out⟩

end Go.Proofs.Ytabbnfodolekpaa
