/- TicketCounts: its walk. -/
import Derived.Test.YtabbnfodolekpaaKnown05
import Derived.Test.YtabbnfodolekpaaTPlain
import Derived.Test.YtabbnfodolekpaaBytes
namespace Go.Proofs.Ytabbnfodolekpaa
open Go.RowKit

set_option maxHeartbeats 4000000 in
set_option maxRecDepth 100000 in
theorem ticketcounts_walk (w : World) (A : Option Addr) (cap : Nat) (l : List Int) (n : Int) (h0 : 0 ≤ n) (h1 : n ≤ 255) (hr : ReadsB w A l) (hb : ∀ i, i < l.length → 0 ≤ nth l i ∧ nth l i ≤ 255) (_hl : l.length ≤ 9223372036854775807) :
    Calls Try.prog 12 #[.int .u8 n, .slice A l.length cap] w fun e w' => e = .returned (.bool true) ∧ Only [] w w' := by
  have HR := Lib.hid hr
  have HBY := Lib.hid hb
  clear hr hb
  obtain ⟨N, hq⟩ : ∃ N : Nat, 1 + n % 6 = (N : Int) := ⟨(1 + n % 6).toNat, by omega⟩
  have hN1 : 1 ≤ N := by omega
  have hN2 : N ≤ 6 := by omega
  go_enter Try.func12, Try.ntmps12
  go_wp2_with fail
  refine (new_any _ 4 (by omega) (by omega)).mono ?_
  rintro e w1 ⟨mb, ms, rfl, hmb, hms, ho, hm⟩
  have HF := Lib.hid (And.intro hmb hms)
  have HO := Lib.hid ho
  have HM := Lib.hid hm
  clear hmb hms ho hm
  go_wp2_with fail
  refine (start_at _ 1 N (by omega) (by omega) (by omega) (by omega)).mono ?_
  rintro e w2 ⟨g, cp, B, rfl, hg, hB, ho, hH⟩
  rw [Int.toNat_natCast] at *
  have HG := Lib.hid (show w.heap.size ≤ g ∧ (∀ k, k < N → w.heap.size ≤ B k) ∧ g ≠ mb ∧ g ≠ ms ∧ (∀ k, k < N → B k ≠ mb ∧ B k ≠ ms) from by
    have h1 := HO.out.size
    have h2 := HM.out.lt
    exact ⟨by omega, fun k hk => by have := hB k hk; omega, by omega, by omega, fun k hk => by have := hB k hk; omega⟩)
  have HO2 := Lib.hid (HO.out.trans ho)
  have HM2 := Lib.hid (HM.out.only ho (by simp) (by simp))
  have HH2 := Lib.hid hH
  clear hg hB ho hH HO HM
  by_cases hbig : 300 < l.length
  · go_wp2_with fail
    refine (known05 _).mono ?_
    rintro e w3 ⟨rfl, ho⟩
    have HO3 := Lib.hid (HO2.out.trans ho)
    clear ho
    go_wp2
    go_ret
    exact ⟨rfl, HO3.out⟩
  go_wp2
  go_loopw [10] (fun i wr => ∃ (t : Nat) (m : MS) (H : Nat → HS), t ≤ l.length ∧ i = .int .i64 t ∧ Only [] w wr ∧ IsMem wr mb ms m ∧ HsAt wr g N B H ∧ TInv N 1 H m) (fun i _ => l.length - (intOf i).toNat)
  case atStart => exact ⟨0, _, _, Nat.zero_le _, rfl, HO2.out, HM2.out, HH2.out, TInv.start N 1 _ (by decide) (nth_new 4)⟩
  case round =>
    obtain ⟨t, m, H, ht, rfl, ho, hm, hH, hinv⟩ := hrel
    have HO3 := Lib.hid ho
    have HM3 := Lib.hid hm
    have HH3 := Lib.hid hH
    have HI := Lib.hid hinv
    by_cases hlt : t < l.length
    · obtain ⟨go, o, hgo, rfl, hc⟩ := HR.out.at hlt
      have d1 := (ho.cell (p := ⟨go, o + t, none⟩) hgo (by simp)).trans (hc t hlt)
      have hby := HBY.out t hlt
      have p0 : 0 ≤ nth l t := hby.1
      have p1 : nth l t ≤ 255 := hby.2
      clear ho hm hH hinv hc hgo hby
      obtain ⟨k, hk⟩ : ∃ k : Nat, nth l t / 4 % (N : Int) = (k : Int) := ⟨(nth l t / 4 % (N : Int)).toNat, by rw [Int.toNat_of_nonneg (Int.emod_nonneg _ (by omega))]⟩
      have hkN : k < N := by have := Int.emod_lt_of_pos (nth l t / 4) (show (0 : Int) < N by omega); omega
      have ck := HH3.out.cell hkN
      by_cases hpick : nth l t % 4 = 0
      · have hp1 : (nth l t % 4 == 0) = true := by simpa using hpick
        clear hpick
        go_wp2_with fail
        refine (tleave_any _ (B k) (H k) (HH3.out.at_ k hkN)).mono ?_
        rintro e w5 ⟨rfl, ho, hh⟩
        have HO5 := Lib.hid (HO3.out.then ho (by have := HG.out.2.1 k hkN; simp; exact this))
        obtain ⟨m5, hm5⟩ : ∃ m5, m5 = m := ⟨_, rfl⟩
        obtain ⟨H5, hH5⟩ : ∃ H5, H5 = upd H k (H k).leave.1 := ⟨_, rfl⟩
        have HM5 : Hid (IsMem w5 mb ms m5) := Lib.hid (by rw [hm5]; exact HM3.out.only ho (by have := HG.out.2.2.2.2 k hkN; simp; omega) (by have := HG.out.2.2.2.2 k hkN; simp; omega))
        have HH5 : Hid (HsAt w5 g N B H5) := Lib.hid (by rw [hH5]; exact HH3.out.step hkN (S := []) ho (by simp) (fun _ _ => by simp) hh)
        have HI5 : Hid (TInv N 1 H5 m5) := Lib.hid (by rw [hH5, hm5]; exact HI.out.leave hkN)
        clear ho hh ck d1 hm5 hH5 HO3 HM3 HH3 HI
        have q1 : (HI5.out).len = (HI5.out).len := rfl
        clear q1
        go_wp2_with fail
        refine (load_to HM5.out (v := (cnt isGone N H5 : Int)) (er := 0) (m' := ⟨m5.L, wrap64 (m5.c + 1), m5.l⟩) (by rw [MS.load_at m5 2 (by omega) (by have := HI5.out.len; omega)]; rw [show nth m5.L (Int.toNat 2) = _ from HI5.out.srv])).mono ?_
        rintro e w6 ⟨rfl, ho, hm⟩
        have HO6 := Lib.hid (HO5.out.then ho (by have := HF.out; simp; omega))
        have HM6 := Lib.hid hm
        have HH6 := Lib.hid (HH5.out.only ho (by have := HG.out; simp; omega) (fun x hx => by have := HG.out.2.2.2.2 x hx; simp; omega))
        have HI6 := Lib.hid (HI5.out.load (m' := ⟨m5.L, wrap64 (m5.c + 1), m5.l⟩) rfl)
        clear ho hm HO5 HM5 HH5 HI5
        have k1 := cnt_le hasTk N H5
        have k2 := cnt_le isGone N H5
        go_wp2
        go_loopw [12, 13, 16] (fun c d j wr => ∃ (q : Nat), q ≤ N ∧ j = .int .i64 q ∧ c = .int .i64 (cnt hasTk q H5) ∧ d = .int .i64 (cnt isGone q H5) ∧ Only [] w wr ∧ IsMem wr mb ms ⟨m5.L, wrap64 (m5.c + 1), m5.l⟩ ∧ HsAt wr g N B H5) (fun _ _ j _ => N - (intOf j).toNat)
        case atStart => exact ⟨0, Nat.zero_le _, rfl, rfl, rfl, HO6.out, HM6.out, HH6.out⟩
        case round =>
          obtain ⟨q, hqN, rfl, rfl, rfl, ho, hm, hH⟩ := hrel
          have HO7 := Lib.hid ho
          have HM7 := Lib.hid hm
          have HH7 := Lib.hid hH
          clear ho hm hH HO6 HM6 HH6
          have k3 := cnt_le hasTk q H5
          have k4 := cnt_le isGone q H5
          by_cases hqlt : q < N
          · have cq := HH7.out.cell hqlt
            have hst := fun W hW => tstate_at W (B q) (H5 q) hW
            have HST := Lib.hid hst
            clear hst
            rcases HI6.out.sts q hqlt with e | e | e | e
            · have hs := HST.out _ (HH7.out.at_ q hqlt)
              rw [e] at hs
              have E1 := Lib.hid (show cnt hasTk (q + 1) H5 = cnt hasTk q H5 + 0 ∧ cnt isGone (q + 1) H5 = cnt isGone q H5 + 0 by rw [cnt, cnt]; simp [hasTk, isGone, e])
              have HS := Lib.hid hs
              clear hs e
              go_wp2_with fail
              refine HS.out.mono ?_
              rintro e w8 ⟨rfl, ho⟩
              have HO8 := Lib.hid (HO7.out.trans ho)
              have HM8 := Lib.hid (HM7.out.only ho (by simp) (by simp))
              have HH8 := Lib.hid (HH7.out.only ho (by simp) (fun _ _ => by simp))
              clear ho HO7 HM7 HH7
              go_wp2
              exact ⟨⟨q + 1, by omega, by go_num, by rw [E1.out.1]; go_num, by rw [E1.out.2]; go_num, HO8.out, HM8.out, HH8.out⟩, by simp [intOf]; omega⟩
            · have hs := HST.out _ (HH7.out.at_ q hqlt)
              rw [e] at hs
              have hw := (HI6.out.wait q hqlt e).1
              have E1 := Lib.hid (show cnt hasTk (q + 1) H5 = cnt hasTk q H5 + 1 ∧ cnt isGone (q + 1) H5 = cnt isGone q H5 + 0 by rw [cnt, cnt]; simp [hasTk, isGone, e])
              have HS := Lib.hid hs
              clear hs e
              go_wp2_with fail
              refine HS.out.mono ?_
              rintro e w8 ⟨rfl, ho⟩
              have HO8 := Lib.hid (HO7.out.trans ho)
              have HM8 := Lib.hid (HM7.out.only ho (by simp) (by simp))
              have HH8 := Lib.hid (HH7.out.only ho (by simp) (fun _ _ => by simp))
              clear ho HO7 HM7 HH7
              go_wp2
              exact ⟨⟨q + 1, by omega, by go_num, by rw [E1.out.1]; go_num, by rw [E1.out.2]; go_num, HO8.out, HM8.out, HH8.out⟩, by simp [intOf]; omega⟩
            · have hs := HST.out _ (HH7.out.at_ q hqlt)
              rw [e] at hs
              have E1 := Lib.hid (show cnt hasTk (q + 1) H5 = cnt hasTk q H5 + 1 ∧ cnt isGone (q + 1) H5 = cnt isGone q H5 + 0 by rw [cnt, cnt]; simp [hasTk, isGone, e])
              have HS := Lib.hid hs
              clear hs e
              go_wp2_with fail
              refine HS.out.mono ?_
              rintro e w8 ⟨rfl, ho⟩
              have HO8 := Lib.hid (HO7.out.trans ho)
              have HM8 := Lib.hid (HM7.out.only ho (by simp) (by simp))
              have HH8 := Lib.hid (HH7.out.only ho (by simp) (fun _ _ => by simp))
              clear ho HO7 HM7 HH7
              go_wp2
              exact ⟨⟨q + 1, by omega, by go_num, by rw [E1.out.1]; go_num, by rw [E1.out.2]; go_num, HO8.out, HM8.out, HH8.out⟩, by simp [intOf]; omega⟩
            · have hs := HST.out _ (HH7.out.at_ q hqlt)
              rw [e] at hs
              have E1 := Lib.hid (show cnt hasTk (q + 1) H5 = cnt hasTk q H5 + 1 ∧ cnt isGone (q + 1) H5 = cnt isGone q H5 + 1 by rw [cnt, cnt]; simp [hasTk, isGone, e])
              have HS := Lib.hid hs
              clear hs e
              go_wp2_with fail
              refine HS.out.mono ?_
              rintro e w8 ⟨rfl, ho⟩
              have HO8 := Lib.hid (HO7.out.trans ho)
              have HM8 := Lib.hid (HM7.out.only ho (by simp) (by simp))
              have HH8 := Lib.hid (HH7.out.only ho (by simp) (fun _ _ => by simp))
              clear ho HO7 HM7 HH7
              go_wp2
              exact ⟨⟨q + 1, by omega, by go_num, by rw [E1.out.1]; go_num, by rw [E1.out.2]; go_num, HO8.out, HM8.out, HH8.out⟩, by simp [intOf]; omega⟩
          · have hqe : q = N := by omega
            subst hqe
            go_wp2_with fail
            refine (load_to HM7.out (v := (cnt hasTk q H5 : Int)) (er := 0) (m' := ⟨m5.L, wrap64 (wrap64 (m5.c + 1) + 1), m5.l⟩) (by rw [MS.load_at _ 1 (by omega) (by have := HI6.out.len; dsimp only at this ⊢; omega)]; rw [show nth (⟨m5.L, wrap64 (m5.c + 1), m5.l⟩ : MS).L (Int.toNat 1) = _ from HI6.out.nxt])).mono ?_
            rintro e w8 ⟨rfl, ho, hm⟩
            have HO8 := Lib.hid (HO7.out.then ho (by have := HF.out; simp; omega))
            have HM8 := Lib.hid hm
            have HH8 := Lib.hid (HH7.out.only ho (by have := HG.out; simp; omega) (fun x hx => by have := HG.out.2.2.2.2 x hx; simp; omega))
            clear ho hm HO7 HM7 HH7
            go_wp2
            exact ⟨⟨t + 1, _, H5, by omega, by go_num, HO8.out, HM8.out, HH8.out, HI6.out.load rfl⟩, by simp [intOf]; omega⟩
      · have hp1 : (nth l t % 4 == 0) = false := by simpa using hpick
        clear hpick
        go_wp2_with fail
        refine (tstep_any _ (B k) mb ms (H k) m (by rw [HI.out.pl k hkN]; decide) (by rw [HI.out.pl k hkN]; decide) (HG.out.2.2.2.2 k hkN) (HH3.out.at_ k hkN) HM3.out).mono ?_
        rintro e w5 ⟨rfl, ho, hh, hm⟩
        have HO5 := Lib.hid (HO3.out.then ho (by have := HG.out.2.1 k hkN; have := HF.out; simp; omega))
        obtain ⟨m5, hm5⟩ : ∃ m5, m5 = ((H k).step m).2 := ⟨_, rfl⟩
        obtain ⟨H5, hH5⟩ : ∃ H5, H5 = upd H k ((H k).step m).1 := ⟨_, rfl⟩
        have HM5 : Hid (IsMem w5 mb ms m5) := Lib.hid (by rw [hm5]; exact hm)
        have HH5 : Hid (HsAt w5 g N B H5) := Lib.hid (by rw [hH5]; exact HH3.out.step hkN (S := [mb, ms]) ho (by have := HG.out; simp; omega) (fun x hx => by have := HG.out.2.2.2.2 x hx; simp; omega) hh)
        have HI5 : Hid (TInv N 1 H5 m5) := Lib.hid (by rw [hH5, hm5]; exact HI.out.step (by omega) hkN)
        clear ho hh hm ck d1 hm5 hH5 HO3 HM3 HH3 HI
        have q1 : (HI5.out).len = (HI5.out).len := rfl
        clear q1
        go_wp2_with fail
        refine (load_to HM5.out (v := (cnt isGone N H5 : Int)) (er := 0) (m' := ⟨m5.L, wrap64 (m5.c + 1), m5.l⟩) (by rw [MS.load_at m5 2 (by omega) (by have := HI5.out.len; omega)]; rw [show nth m5.L (Int.toNat 2) = _ from HI5.out.srv])).mono ?_
        rintro e w6 ⟨rfl, ho, hm⟩
        have HO6 := Lib.hid (HO5.out.then ho (by have := HF.out; simp; omega))
        have HM6 := Lib.hid hm
        have HH6 := Lib.hid (HH5.out.only ho (by have := HG.out; simp; omega) (fun x hx => by have := HG.out.2.2.2.2 x hx; simp; omega))
        have HI6 := Lib.hid (HI5.out.load (m' := ⟨m5.L, wrap64 (m5.c + 1), m5.l⟩) rfl)
        clear ho hm HO5 HM5 HH5 HI5
        have k1 := cnt_le hasTk N H5
        have k2 := cnt_le isGone N H5
        go_wp2
        go_loopw [12, 13, 16] (fun c d j wr => ∃ (q : Nat), q ≤ N ∧ j = .int .i64 q ∧ c = .int .i64 (cnt hasTk q H5) ∧ d = .int .i64 (cnt isGone q H5) ∧ Only [] w wr ∧ IsMem wr mb ms ⟨m5.L, wrap64 (m5.c + 1), m5.l⟩ ∧ HsAt wr g N B H5) (fun _ _ j _ => N - (intOf j).toNat)
        case atStart => exact ⟨0, Nat.zero_le _, rfl, rfl, rfl, HO6.out, HM6.out, HH6.out⟩
        case round =>
          obtain ⟨q, hqN, rfl, rfl, rfl, ho, hm, hH⟩ := hrel
          have HO7 := Lib.hid ho
          have HM7 := Lib.hid hm
          have HH7 := Lib.hid hH
          clear ho hm hH HO6 HM6 HH6
          have k3 := cnt_le hasTk q H5
          have k4 := cnt_le isGone q H5
          by_cases hqlt : q < N
          · have cq := HH7.out.cell hqlt
            have hst := fun W hW => tstate_at W (B q) (H5 q) hW
            have HST := Lib.hid hst
            clear hst
            rcases HI6.out.sts q hqlt with e | e | e | e
            · have hs := HST.out _ (HH7.out.at_ q hqlt)
              rw [e] at hs
              have E1 := Lib.hid (show cnt hasTk (q + 1) H5 = cnt hasTk q H5 + 0 ∧ cnt isGone (q + 1) H5 = cnt isGone q H5 + 0 by rw [cnt, cnt]; simp [hasTk, isGone, e])
              have HS := Lib.hid hs
              clear hs e
              go_wp2_with fail
              refine HS.out.mono ?_
              rintro e w8 ⟨rfl, ho⟩
              have HO8 := Lib.hid (HO7.out.trans ho)
              have HM8 := Lib.hid (HM7.out.only ho (by simp) (by simp))
              have HH8 := Lib.hid (HH7.out.only ho (by simp) (fun _ _ => by simp))
              clear ho HO7 HM7 HH7
              go_wp2
              exact ⟨⟨q + 1, by omega, by go_num, by rw [E1.out.1]; go_num, by rw [E1.out.2]; go_num, HO8.out, HM8.out, HH8.out⟩, by simp [intOf]; omega⟩
            · have hs := HST.out _ (HH7.out.at_ q hqlt)
              rw [e] at hs
              have hw := (HI6.out.wait q hqlt e).1
              have E1 := Lib.hid (show cnt hasTk (q + 1) H5 = cnt hasTk q H5 + 1 ∧ cnt isGone (q + 1) H5 = cnt isGone q H5 + 0 by rw [cnt, cnt]; simp [hasTk, isGone, e])
              have HS := Lib.hid hs
              clear hs e
              go_wp2_with fail
              refine HS.out.mono ?_
              rintro e w8 ⟨rfl, ho⟩
              have HO8 := Lib.hid (HO7.out.trans ho)
              have HM8 := Lib.hid (HM7.out.only ho (by simp) (by simp))
              have HH8 := Lib.hid (HH7.out.only ho (by simp) (fun _ _ => by simp))
              clear ho HO7 HM7 HH7
              go_wp2
              exact ⟨⟨q + 1, by omega, by go_num, by rw [E1.out.1]; go_num, by rw [E1.out.2]; go_num, HO8.out, HM8.out, HH8.out⟩, by simp [intOf]; omega⟩
            · have hs := HST.out _ (HH7.out.at_ q hqlt)
              rw [e] at hs
              have E1 := Lib.hid (show cnt hasTk (q + 1) H5 = cnt hasTk q H5 + 1 ∧ cnt isGone (q + 1) H5 = cnt isGone q H5 + 0 by rw [cnt, cnt]; simp [hasTk, isGone, e])
              have HS := Lib.hid hs
              clear hs e
              go_wp2_with fail
              refine HS.out.mono ?_
              rintro e w8 ⟨rfl, ho⟩
              have HO8 := Lib.hid (HO7.out.trans ho)
              have HM8 := Lib.hid (HM7.out.only ho (by simp) (by simp))
              have HH8 := Lib.hid (HH7.out.only ho (by simp) (fun _ _ => by simp))
              clear ho HO7 HM7 HH7
              go_wp2
              exact ⟨⟨q + 1, by omega, by go_num, by rw [E1.out.1]; go_num, by rw [E1.out.2]; go_num, HO8.out, HM8.out, HH8.out⟩, by simp [intOf]; omega⟩
            · have hs := HST.out _ (HH7.out.at_ q hqlt)
              rw [e] at hs
              have E1 := Lib.hid (show cnt hasTk (q + 1) H5 = cnt hasTk q H5 + 1 ∧ cnt isGone (q + 1) H5 = cnt isGone q H5 + 1 by rw [cnt, cnt]; simp [hasTk, isGone, e])
              have HS := Lib.hid hs
              clear hs e
              go_wp2_with fail
              refine HS.out.mono ?_
              rintro e w8 ⟨rfl, ho⟩
              have HO8 := Lib.hid (HO7.out.trans ho)
              have HM8 := Lib.hid (HM7.out.only ho (by simp) (by simp))
              have HH8 := Lib.hid (HH7.out.only ho (by simp) (fun _ _ => by simp))
              clear ho HO7 HM7 HH7
              go_wp2
              exact ⟨⟨q + 1, by omega, by go_num, by rw [E1.out.1]; go_num, by rw [E1.out.2]; go_num, HO8.out, HM8.out, HH8.out⟩, by simp [intOf]; omega⟩
          · have hqe : q = N := by omega
            subst hqe
            go_wp2_with fail
            refine (load_to HM7.out (v := (cnt hasTk q H5 : Int)) (er := 0) (m' := ⟨m5.L, wrap64 (wrap64 (m5.c + 1) + 1), m5.l⟩) (by rw [MS.load_at _ 1 (by omega) (by have := HI6.out.len; dsimp only at this ⊢; omega)]; rw [show nth (⟨m5.L, wrap64 (m5.c + 1), m5.l⟩ : MS).L (Int.toNat 1) = _ from HI6.out.nxt])).mono ?_
            rintro e w8 ⟨rfl, ho, hm⟩
            have HO8 := Lib.hid (HO7.out.then ho (by have := HF.out; simp; omega))
            have HM8 := Lib.hid hm
            have HH8 := Lib.hid (HH7.out.only ho (by have := HG.out; simp; omega) (fun x hx => by have := HG.out.2.2.2.2 x hx; simp; omega))
            clear ho hm HO7 HM7 HH7
            go_wp2
            exact ⟨⟨t + 1, _, H5, by omega, by go_num, HO8.out, HM8.out, HH8.out, HI6.out.load rfl⟩, by simp [intOf]; omega⟩
    · clear ho hm hH hinv
      go_wp2_with fail
      refine (known05 _).mono ?_
      rintro e w5 ⟨rfl, ho⟩
      have HO5 := Lib.hid (HO3.out.trans ho)
      clear ho
      go_wp2
      go_ret
      exact ⟨rfl, HO5.out⟩

end Go.Proofs.Ytabbnfodolekpaa
