/- TicketOne: its plain law, and its walk. -/
import Derived.Test.YtabbnfodolekpaaKnown05
import Derived.Test.YtabbnfodolekpaaTPlain
import Derived.Test.YtabbnfodolekpaaBytes
namespace Go.Proofs.Ytabbnfodolekpaa
open Go.RowKit

def isHold (h : HS) : Bool := h.st == 2

/-- How many have held. -/
def held (n : Nat) (H : Nat → HS) : Nat := cnt isGone n H + cnt isHold n H

theorem cnt_zero (p : HS → Bool) (n : Nat) (H : Nat → HS) (h : ∀ k, k < n → p (H k) = false) : cnt p n H = 0 := by
  induction n with
  | zero => rfl
  | succ n ih => rw [cnt, ih fun k hk => h k (by omega), h n (by omega)]; rfl

theorem cnt_one (p : HS → Bool) (n : Nat) (H : Nat → HS) (h : ∀ i j, i < n → j < n → p (H i) = true → p (H j) = true → i = j) : cnt p n H ≤ 1 := by
  induction n with
  | zero => exact Nat.zero_le _
  | succ n ih =>
    rw [cnt]
    by_cases e : p (H n) = true
    · have : cnt p n H = 0 := cnt_zero p n H fun k hk => by
        cases hp : p (H k)
        · rfl
        · exact absurd (h k n (by omega) (by omega) hp e) (by omega)
      rw [this, if_pos e]
      exact Nat.le_refl _
    · rw [if_neg e]
      exact ih fun i j hi hj => h i j (by omega) (by omega)

theorem TInv.holds_le {n a : Nat} {H : Nat → HS} {m : MS} (h : TInv n a H m) : cnt isHold n H ≤ 1 :=
  cnt_one _ _ _ fun i j hi hj ei ej => h.one hi hj (by simpa [isHold] using ei) (by simpa [isHold] using ej)

theorem held_same {n k : Nat} {H : Nat → HS} {h' : HS} (hk : k < n) (h1 : isGone h' = isGone (H k)) (h2 : isHold h' = isHold (H k)) : held n (upd H k h') = held n H := by
  have c1 := cnt_upd isGone n k H h' hk
  have c2 := cnt_upd isHold n k H h' hk
  rw [h1] at c1
  rw [h2] at c2
  unfold held
  omega

theorem leave_st (h : HS) : h.leave.1.st = h.st := by
  unfold HS.leave
  split <;> rfl

theorem TInv.held_leave {n : Nat} {H : Nat → HS} {k : Nat} (hk : k < n) : held n (upd H k (H k).leave.1) = held n H :=
  held_same hk (by unfold isGone; rw [leave_st]) (by unfold isHold; rw [leave_st])

/-- One who begins to hold has the ticket that says how many have held. -/
theorem TInv.held_step {n a : Nat} {H : Nat → HS} {m : MS} (h : TInv n a H m) {k : Nat} (hk : k < n) :
    ((H k).st ≠ 2 ∧ ((H k).step m).1.st = 2 ∧ held n (upd H k ((H k).step m).1) = held n H + 1 ∧ ((H k).step m).1.tk = held n H) ∨
    (((H k).st = 2 ∨ ((H k).step m).1.st ≠ 2) ∧ held n (upd H k ((H k).step m).1) = held n H) := by
  have hl := h.len
  have hp := h.pl k hk
  have he : H k = ⟨(a : Int), (H k).st, (H k).tk, (H k).wish⟩ := by rw [← hp]
  rcases h.sts k hk with e | e | e | e
  · have hs := (congrArg (HS.step · m) (he.trans (by rw [e]))).trans (step_asks a (H k).tk (H k).wish m hl)
    rw [hs]
    exact .inr ⟨.inr (by simp), held_same hk (by simp [isGone, e]) (by simp [isHold, e])⟩
  · have hs := (congrArg (HS.step · m) (he.trans (by rw [e]))).trans (step_waits a (H k).tk (H k).wish m hl)
    rw [hs]
    by_cases hv : nth m.L (a + 1) = (H k).tk
    · rw [if_pos hv]
      have hz : cnt isHold n H = 0 := cnt_zero _ _ _ fun j hj => by
        cases hh : isHold (H j)
        · rfl
        · have ej : (H j).st = 2 := by simpa [isHold] using hh
          have := (h.hold j hj ej).1
          have h2 := h.srv
          have hne : j ≠ k := by rintro rfl; rw [e] at ej; cases ej
          exact absurd (this.trans (h2.symm.trans hv)) (h.dist j k hj hk hne (by rw [ej]; decide) (by rw [e]; decide))
      have c1 := cnt_upd isGone n k H ⟨a, 2, (H k).tk, (H k).wish⟩ hk
      have c2 := cnt_upd isHold n k H ⟨a, 2, (H k).tk, (H k).wish⟩ hk
      have b1 : isGone (H k) = false := by simp [isGone, e]
      have b2 : isHold (H k) = false := by simp [isHold, e]
      rw [b1] at c1
      rw [b2] at c2
      have d1 : cnt isGone n (upd H k ⟨a, 2, (H k).tk, (H k).wish⟩) = cnt isGone n H := by simpa [isGone] using c1
      have d2 : cnt isHold n (upd H k ⟨a, 2, (H k).tk, (H k).wish⟩) = cnt isHold n H + 1 := by simpa [isHold] using c2
      refine .inl ⟨by rw [e]; decide, rfl, ?_, ?_⟩
      · unfold held
        dsimp only
        rw [d1, d2]
        omega
      · unfold held
        dsimp only
        rw [hz, Nat.add_zero, ← hv]
        exact h.srv
    · rw [if_neg hv]
      exact .inr ⟨.inr (by simp), held_same hk (by simp [isGone, e]) (by simp [isHold, e])⟩
  · by_cases hw : (H k).wish = true
    · have hs := (congrArg (HS.step · m) (he.trans (by rw [e, hw]))).trans (step_holds a (H k).tk m hl)
      rw [hs]
      have c1 := cnt_upd isGone n k H ⟨a, 3, (H k).tk, true⟩ hk
      have c2 := cnt_upd isHold n k H ⟨a, 3, (H k).tk, true⟩ hk
      have b1 : isGone (H k) = false := by simp [isGone, e]
      have b2 : isHold (H k) = true := by simp [isHold, e]
      rw [b1] at c1
      rw [b2] at c2
      have d1 : cnt isGone n (upd H k ⟨a, 3, (H k).tk, true⟩) = cnt isGone n H + 1 := by simpa [isGone] using c1
      have d2 : cnt isHold n (upd H k ⟨a, 3, (H k).tk, true⟩) + 1 = cnt isHold n H := by simpa [isHold] using c2
      refine .inr ⟨.inl e, ?_⟩
      unfold held
      dsimp only
      omega
    · rw [step_rests _ _ (by rw [e]; decide) (by rw [e]; decide) (fun hh => hw hh.2)]
      exact .inr ⟨.inl e, held_same hk rfl rfl⟩
  · rw [step_rests _ _ (by rw [e]; decide) (by rw [e]; decide) (fun hh => by rw [e] at hh; exact absurd hh.1 (by decide))]
    exact .inr ⟨.inr (by rw [e]; decide), held_same hk rfl rfl⟩

theorem own_only {w w' : World} {base e : Nat} {v : Value} {n : Nat} {xs : List Value} {S : List Nat} (h : w.ownsRow base e 1 v n xs) (o : Only S w w') (hS : ∀ x ∈ S, x < base) : w'.ownsRow base e 1 v n xs := by
  refine ⟨h.1, ?_⟩
  rcases h.2 with h2 | ⟨g, cap, cur, hv, hg, hh, r⟩
  · exact .inl h2
  · refine .inr ⟨g, cap, cur, hv, hg, ?_, r⟩
    have hb : Blk w g e cur := hh
    exact hb.only o fun hm => by have := hS g hm; omega

theorem Only.of_grown {a b : World} {row : Option Nat} (hg : a.grownBy b row) : Only row.toList a b :=
  ⟨hg.os, hg.tape, hg.output, hg.size, fun k hk hn => hg.block k hk (fun e => hn (by rw [← e]; simp))⟩

theorem own_ge {w : World} {base e : Nat} {v : Value} {n : Nat} {xs : List Value} (h : w.ownsRow base e 1 v n xs) : ∀ x ∈ v.ownBlock.toList, base ≤ x := by
  intro x hx
  rcases h.2 with ⟨rfl, _⟩ | ⟨g, cap, cur, rfl, hg, _⟩
  · simp [Value.ownBlock] at hx
  · simp [Value.ownBlock] at hx
    omega

theorem Try.infoW : (Try.prog.info? 27).map (fun i => (i.zero, i.size, i.bytes)) = some (some (.int .u64 0), 1, 8) := by kernel_rfl

set_option maxHeartbeats 8000000 in
set_option maxRecDepth 100000 in
theorem ticketone_walk (w : World) (A : Option Addr) (cap : Nat) (l : List Int) (n : Int) (h0 : 0 ≤ n) (h1 : n ≤ 255) (hr : ReadsB w A l) (hb : ∀ i, i < l.length → 0 ≤ nth l i ∧ nth l i ≤ 255) (_hl : l.length ≤ 9223372036854775807) :
    Calls Try.prog 9 #[.int .u8 n, .slice A l.length cap] w fun e w' => e = .returned (.bool true) ∧ Only [] w w' := by
  obtain ⟨i0, hi0, hz0, hz1, hz2⟩ := info_parts Try.infoW
  have HI0 := Lib.hid (And.intro hi0 (And.intro hz0 (And.intro hz1 hz2)))
  clear hi0 hz0 hz1 hz2
  have HR := Lib.hid hr
  have HBY := Lib.hid hb
  clear hr hb
  obtain ⟨N, hq⟩ : ∃ N : Nat, 1 + n % 6 = (N : Int) := ⟨(1 + n % 6).toNat, by omega⟩
  have hN1 : 1 ≤ N := by omega
  have hN2 : N ≤ 6 := by omega
  go_enter Try.func9, Try.ntmps9
  go_wp2_with fail
  refine (new_any _ 4 (by omega) (by omega)).mono ?_
  rintro e w1 ⟨mb, ms, rfl, hmb, hms, ho, hm⟩
  have HF := Lib.hid (And.intro hmb hms)
  have HO := Lib.hid ho
  have HM := Lib.hid hm
  clear hmb hms ho hm
  go_wp2_with fail
  refine (start_at _ 1 N (by omega) (by omega) (by omega) (by omega)).mono ?_
  rintro e w2 ⟨g, cp, B, rfl, hg, hB, ho, hH⟩
  rw [Int.toNat_natCast] at *
  have HG := Lib.hid (show w.heap.size ≤ g ∧ (∀ k, k < N → w.heap.size ≤ B k) ∧ g ≠ mb ∧ g ≠ ms ∧ (∀ k, k < N → B k ≠ mb ∧ B k ≠ ms) from by
    have h1 := HO.out.size
    have h2 := HM.out.lt
    exact ⟨by omega, fun k hk => by have := hB k hk; omega, by omega, by omega, fun k hk => by have := hB k hk; omega⟩)
  have HLT := Lib.hid (show g < w2.heap.size ∧ mb < w2.heap.size ∧ ms < w2.heap.size ∧ (∀ k, k < N → B k < w2.heap.size) ∧ w.heap.size ≤ w2.heap.size from by
    have h1 := HM.out.lt
    have h2 := ho.size
    have h3 := HO.out.size
    exact ⟨hH.lt, by omega, by omega, fun k hk => Blk.lt (hH.at_ k hk), by omega⟩)
  have HO2 := Lib.hid (HO.out.trans ho)
  have HM2 := Lib.hid (HM.out.only ho (by simp) (by simp))
  have HH2 := Lib.hid hH
  clear hg hB ho hH HO HM
  obtain ⟨W0, hW0⟩ : ∃ W0 : Nat, W0 = w2.heap.size := ⟨_, rfl⟩
  rw [← hW0] at HLT
  have HW0 := Lib.hid hW0
  clear hW0
  by_cases hbig : 300 < l.length
  · go_wp2_with fail
    refine (known05 _).mono ?_
    rintro e w3 ⟨rfl, ho⟩
    have HO3 := Lib.hid (HO2.out.trans ho)
    clear ho
    go_wp2
    go_ret
    exact ⟨rfl, HO3.out⟩
  go_wp2
  go_loopw [10, 11] (fun v i wr => ∃ (t : Nat) (m : MS) (H : Nat → HS), t ≤ l.length ∧ i = .int .i64 t ∧ Only [] w wr ∧ IsMem wr mb ms m ∧ HsAt wr g N B H ∧ TInv N 1 H m ∧ W0 ≤ wr.heap.size ∧ held N H ≤ 100 ∧ wr.ownsRow W0 27 1 v (held N H) ((List.range (held N H)).map fun j : Nat => .int .u64 (j : Int))) (fun _ i _ => l.length - (intOf i).toNat)
  case atStart =>
    refine ⟨0, _, _, Nat.zero_le _, rfl, HO2.out, HM2.out, HH2.out, TInv.start N 1 _ (by decide) (nth_new 4), by rw [HW0.out]; exact Nat.le_refl _, ?_, ?_⟩
    · have : held N (fun _ => (⟨1, 0, 0, false⟩ : HS)) = 0 := by
        unfold held
        rw [cnt_zero _ _ _ fun _ _ => rfl, cnt_zero _ _ _ fun _ _ => rfl]
      rw [this]; omega
    · have : held N (fun _ => (⟨1, 0, 0, false⟩ : HS)) = 0 := by
        unfold held
        rw [cnt_zero _ _ _ fun _ _ => rfl, cnt_zero _ _ _ fun _ _ => rfl]
      rw [this]
      exact World.ownsRow_nil _ _ _ _
  case round =>
    obtain ⟨t, m, H, ht, rfl, ho, hm, hH, hinv, hsz, hh100, hown⟩ := hrel
    have HO3 := Lib.hid ho
    have HM3 := Lib.hid hm
    have HH3 := Lib.hid hH
    have HI := Lib.hid hinv
    have HW3 := Lib.hid (And.intro hsz (And.intro hh100 hown))
    by_cases hlt : t < l.length
    · obtain ⟨go, o, hgo, rfl, hc⟩ := HR.out.at hlt
      have d1 := (ho.cell (p := ⟨go, o + t, none⟩) hgo (by simp)).trans (hc t hlt)
      have HD := Lib.hid (And.intro hgo (hc t hlt))
      have hby := HBY.out t hlt
      have p0 : 0 ≤ nth l t := hby.1
      have p1 : nth l t ≤ 255 := hby.2
      clear ho hm hH hinv hc hgo hby hsz hh100 hown
      obtain ⟨k, hk⟩ : ∃ k : Nat, nth l t / 4 % (N : Int) = (k : Int) := ⟨(nth l t / 4 % (N : Int)).toNat, by rw [Int.toNat_of_nonneg (Int.emod_nonneg _ (by omega))]⟩
      have hkN : k < N := by have := Int.emod_lt_of_pos (nth l t / 4) (show (0 : Int) < N by omega); omega
      have ck := HH3.out.cell hkN
      go_wp2_with fail
      refine (tstate_at _ (B k) (H k) (HH3.out.at_ k hkN)).mono ?_
      rintro e w3 ⟨rfl, ho⟩
      have HO4 := Lib.hid (HO3.out.trans ho)
      have HM4 := Lib.hid (HM3.out.only ho (by simp) (by simp))
      have HH4 := Lib.hid (HH3.out.only ho (by simp) (fun _ _ => by simp))
      have HW4 := Lib.hid (show W0 ≤ w3.heap.size ∧ held N H ≤ 100 ∧ w3.ownsRow W0 27 1 _ (held N H) ((List.range (held N H)).map fun j : Nat => .int .u64 (j : Int)) from ⟨Nat.le_trans HW3.out.1 ho.size, HW3.out.2.1, own_only HW3.out.2.2 ho (by simp)⟩)
      clear ho ck d1 HO3 HM3 HH3 HW3
      have d1 := (HO4.out.cell (p := ⟨go, o + t, none⟩) HD.out.1 (by simp)).trans HD.out.2
      have ck := HH4.out.cell hkN
      by_cases hpick : nth l t % 4 = 0
      · have hp1 : (nth l t % 4 == 0) = true := by simpa using hpick
        clear hpick
        go_wp2_with fail
        refine (tleave_any _ (B k) (H k) (HH4.out.at_ k hkN)).mono ?_
        rintro e w5 ⟨rfl, ho, hh⟩
        have HO5 := Lib.hid (HO4.out.then ho (by have := HG.out.2.1 k hkN; simp; exact this))
        obtain ⟨m5, hm5⟩ : ∃ m5, m5 = m := ⟨_, rfl⟩
        obtain ⟨H5, hH5⟩ : ∃ H5, H5 = upd H k (H k).leave.1 := ⟨_, rfl⟩
        have HM5 : Hid (IsMem w5 mb ms m5) := Lib.hid (by rw [hm5]; exact HM4.out.only ho (by have := HG.out.2.2.2.2 k hkN; simp; omega) (by have := HG.out.2.2.2.2 k hkN; simp; omega))
        have HH5 : Hid (HsAt w5 g N B H5) := Lib.hid (by rw [hH5]; exact HH4.out.step hkN (S := []) ho (by simp) (fun _ _ => by simp) hh)
        have HI5 : Hid (TInv N 1 H5 m5) := Lib.hid (by rw [hH5, hm5]; exact HI.out.leave hkN)
        have HE : Hid (held N H5 = held N H) := Lib.hid (by rw [hH5]; exact TInv.held_leave hkN)
        have hst5 : (H5 k).st = (H k).st := by rw [hH5, upd_same, leave_st]
        have HST := Lib.hid hst5
        have HW5 := Lib.hid (And.intro (Nat.le_trans HW4.out.1 ho.size) (own_only HW4.out.2.2 ho (by have := HLT.out.2.2.2.1 k hkN; simp; exact this)))
        clear ho hh ck d1 hm5 hH5 hst5 HO4 HM4 HH4 HI
        have ck := HH5.out.cell hkN
        go_wp2_with fail
        refine (tstate_at _ (B k) (H5 k) (HH5.out.at_ k hkN)).mono ?_
        rintro e w6 ⟨rfl, ho⟩
        have HO6 := Lib.hid (HO5.out.trans ho)
        have HM6 := Lib.hid (HM5.out.only ho (by simp) (by simp))
        have HH6 := Lib.hid (HH5.out.only ho (by simp) (fun _ _ => by simp))
        have HW6 := Lib.hid (And.intro (Nat.le_trans HW5.out.1 ho.size) (own_only HW5.out.2 ho (by simp)))
        clear ho ck HO5 HM5 HH5 HW5
        by_cases hst : (H k).st = 2
        · have t1 : ((H k).st != 2) = false := by simp [hst]
          clear hst
          have HW7 := Lib.hid (show W0 ≤ w6.heap.size ∧ held N H5 ≤ 100 ∧ w6.ownsRow W0 27 1 _ (held N H5) ((List.range (held N H5)).map fun j : Nat => .int .u64 (j : Int)) from by rw [HE.out]; exact ⟨HW6.out.1, HW4.out.2.1, HW6.out.2⟩)
          have HO7 := Lib.hid HO6.out
          have HM7 := Lib.hid HM6.out
          have HH7 := Lib.hid HH6.out
          clear HO6 HM6 HH6 HW6 HW4 HE
          go_wp2
          have k2 := HI5.out.holds_le
          go_loopw [17, 18] (fun c j wr => ∃ (q : Nat) (cc : Int), q ≤ N ∧ j = .int .i64 q ∧ c = .int .i64 (cnt isHold q H5) ∧ Only [] w wr ∧ IsMem wr mb ms ⟨m5.L, cc, m5.l⟩ ∧ HsAt wr g N B H5 ∧ W0 ≤ wr.heap.size ∧ wr.ownsRow W0 27 1 u10 (held N H5) ((List.range (held N H5)).map fun j : Nat => .int .u64 (j : Int))) (fun _ j _ => N - (intOf j).toNat)
          case atStart => exact ⟨0, m5.c, Nat.zero_le _, rfl, rfl, HO7.out, HM7.out, HH7.out, HW7.out.1, HW7.out.2.2⟩
          case round =>
            obtain ⟨q, cc, hqN, rfl, rfl, ho, hm, hH, hsz, hown⟩ := hrel
            have HO8 := Lib.hid ho
            have HM8 := Lib.hid hm
            have HH8 := Lib.hid hH
            have HW8 := Lib.hid (And.intro hsz hown)
            clear ho hm hH hsz hown HO7 HM7 HH7
            have k3 := cnt_le isHold q H5
            by_cases hqlt : q < N
            · have cq := HH8.out.cell hqlt
              rcases HI5.out.sts q hqlt with e | e | e | e
              · have hs := tstate_at _ (B q) (H5 q) (HH8.out.at_ q hqlt)
                rw [e] at hs
                have E1 := Lib.hid (show cnt isHold (q + 1) H5 = cnt isHold q H5 + 0 by rw [cnt]; simp [isHold, e])
                have HS := Lib.hid hs
                clear hs e
                go_wp2_with fail
                refine HS.out.mono ?_
                rintro e w8 ⟨rfl, ho⟩
                have HO9 := Lib.hid (HO8.out.trans ho)
                have HM9 := Lib.hid (HM8.out.only ho (by simp) (by simp))
                have HH9 := Lib.hid (HH8.out.only ho (by simp) (fun _ _ => by simp))
                have HW9 := Lib.hid (And.intro (Nat.le_trans HW8.out.1 ho.size) (own_only HW8.out.2 ho (by simp)))
                clear ho HO8 HM8 HH8 HW8
                go_wp2_with fail
                refine (load_to HM9.out (v := (cnt isGone N H5 : Int)) (er := 0) (m' := ⟨m5.L, wrap64 (cc + 1), m5.l⟩) (by rw [MS.load_at _ 2 (by omega) (by have := HI5.out.len; dsimp only at this ⊢; omega)]; rw [show nth (⟨m5.L, cc, m5.l⟩ : MS).L (Int.toNat 2) = _ from HI5.out.srv])).mono ?_
                rintro e w9 ⟨rfl, ho, hm⟩
                have HO10 := Lib.hid (HO9.out.then ho (by have := HF.out; simp; omega))
                have HM10 := Lib.hid hm
                have HH10 := Lib.hid (HH9.out.only ho (by have := HG.out; simp; omega) (fun x hx => by have := HG.out.2.2.2.2 x hx; simp; omega))
                have HW10 := Lib.hid (And.intro (Nat.le_trans HW9.out.1 ho.size) (own_only HW9.out.2 ho (by have := HLT.out; simp; omega)))
                clear ho hm HO9 HM9 HH9 HW9
                go_wp2
                exact ⟨⟨q + 1, _, by omega, by go_num, by rw [E1.out]; go_num, HO10.out, HM10.out, HH10.out, HW10.out.1, HW10.out.2⟩, by simp [intOf]; omega⟩
              · have hs := tstate_at _ (B q) (H5 q) (HH8.out.at_ q hqlt)
                rw [e] at hs
                have E1 := Lib.hid (show cnt isHold (q + 1) H5 = cnt isHold q H5 + 0 by rw [cnt]; simp [isHold, e])
                have HS := Lib.hid hs
                clear hs e
                go_wp2_with fail
                refine HS.out.mono ?_
                rintro e w8 ⟨rfl, ho⟩
                have HO9 := Lib.hid (HO8.out.trans ho)
                have HM9 := Lib.hid (HM8.out.only ho (by simp) (by simp))
                have HH9 := Lib.hid (HH8.out.only ho (by simp) (fun _ _ => by simp))
                have HW9 := Lib.hid (And.intro (Nat.le_trans HW8.out.1 ho.size) (own_only HW8.out.2 ho (by simp)))
                clear ho HO8 HM8 HH8 HW8
                go_wp2_with fail
                refine (load_to HM9.out (v := (cnt isGone N H5 : Int)) (er := 0) (m' := ⟨m5.L, wrap64 (cc + 1), m5.l⟩) (by rw [MS.load_at _ 2 (by omega) (by have := HI5.out.len; dsimp only at this ⊢; omega)]; rw [show nth (⟨m5.L, cc, m5.l⟩ : MS).L (Int.toNat 2) = _ from HI5.out.srv])).mono ?_
                rintro e w9 ⟨rfl, ho, hm⟩
                have HO10 := Lib.hid (HO9.out.then ho (by have := HF.out; simp; omega))
                have HM10 := Lib.hid hm
                have HH10 := Lib.hid (HH9.out.only ho (by have := HG.out; simp; omega) (fun x hx => by have := HG.out.2.2.2.2 x hx; simp; omega))
                have HW10 := Lib.hid (And.intro (Nat.le_trans HW9.out.1 ho.size) (own_only HW9.out.2 ho (by have := HLT.out; simp; omega)))
                clear ho hm HO9 HM9 HH9 HW9
                go_wp2
                exact ⟨⟨q + 1, _, by omega, by go_num, by rw [E1.out]; go_num, HO10.out, HM10.out, HH10.out, HW10.out.1, HW10.out.2⟩, by simp [intOf]; omega⟩
              · have hs := tstate_at _ (B q) (H5 q) (HH8.out.at_ q hqlt)
                rw [e] at hs
                rw [(HI5.out.hold q hqlt e).1] at hs
                have E1 := Lib.hid (show cnt isHold (q + 1) H5 = cnt isHold q H5 + 1 by rw [cnt]; simp [isHold, e])
                have HS := Lib.hid hs
                clear hs e
                go_wp2_with fail
                refine HS.out.mono ?_
                rintro e w8 ⟨rfl, ho⟩
                have HO9 := Lib.hid (HO8.out.trans ho)
                have HM9 := Lib.hid (HM8.out.only ho (by simp) (by simp))
                have HH9 := Lib.hid (HH8.out.only ho (by simp) (fun _ _ => by simp))
                have HW9 := Lib.hid (And.intro (Nat.le_trans HW8.out.1 ho.size) (own_only HW8.out.2 ho (by simp)))
                clear ho HO8 HM8 HH8 HW8
                go_wp2_with fail
                refine (load_to HM9.out (v := (cnt isGone N H5 : Int)) (er := 0) (m' := ⟨m5.L, wrap64 (cc + 1), m5.l⟩) (by rw [MS.load_at _ 2 (by omega) (by have := HI5.out.len; dsimp only at this ⊢; omega)]; rw [show nth (⟨m5.L, cc, m5.l⟩ : MS).L (Int.toNat 2) = _ from HI5.out.srv])).mono ?_
                rintro e w9 ⟨rfl, ho, hm⟩
                have HO10 := Lib.hid (HO9.out.then ho (by have := HF.out; simp; omega))
                have HM10 := Lib.hid hm
                have HH10 := Lib.hid (HH9.out.only ho (by have := HG.out; simp; omega) (fun x hx => by have := HG.out.2.2.2.2 x hx; simp; omega))
                have HW10 := Lib.hid (And.intro (Nat.le_trans HW9.out.1 ho.size) (own_only HW9.out.2 ho (by have := HLT.out; simp; omega)))
                clear ho hm HO9 HM9 HH9 HW9
                go_wp2
                exact ⟨⟨q + 1, _, by omega, by go_num, by rw [E1.out]; go_num, HO10.out, HM10.out, HH10.out, HW10.out.1, HW10.out.2⟩, by simp [intOf]; omega⟩
              · have hs := tstate_at _ (B q) (H5 q) (HH8.out.at_ q hqlt)
                rw [e] at hs
                have E1 := Lib.hid (show cnt isHold (q + 1) H5 = cnt isHold q H5 + 0 by rw [cnt]; simp [isHold, e])
                have HS := Lib.hid hs
                clear hs e
                go_wp2_with fail
                refine HS.out.mono ?_
                rintro e w8 ⟨rfl, ho⟩
                have HO9 := Lib.hid (HO8.out.trans ho)
                have HM9 := Lib.hid (HM8.out.only ho (by simp) (by simp))
                have HH9 := Lib.hid (HH8.out.only ho (by simp) (fun _ _ => by simp))
                have HW9 := Lib.hid (And.intro (Nat.le_trans HW8.out.1 ho.size) (own_only HW8.out.2 ho (by simp)))
                clear ho HO8 HM8 HH8 HW8
                go_wp2_with fail
                refine (load_to HM9.out (v := (cnt isGone N H5 : Int)) (er := 0) (m' := ⟨m5.L, wrap64 (cc + 1), m5.l⟩) (by rw [MS.load_at _ 2 (by omega) (by have := HI5.out.len; dsimp only at this ⊢; omega)]; rw [show nth (⟨m5.L, cc, m5.l⟩ : MS).L (Int.toNat 2) = _ from HI5.out.srv])).mono ?_
                rintro e w9 ⟨rfl, ho, hm⟩
                have HO10 := Lib.hid (HO9.out.then ho (by have := HF.out; simp; omega))
                have HM10 := Lib.hid hm
                have HH10 := Lib.hid (HH9.out.only ho (by have := HG.out; simp; omega) (fun x hx => by have := HG.out.2.2.2.2 x hx; simp; omega))
                have HW10 := Lib.hid (And.intro (Nat.le_trans HW9.out.1 ho.size) (own_only HW9.out.2 ho (by have := HLT.out; simp; omega)))
                clear ho hm HO9 HM9 HH9 HW9
                go_wp2
                exact ⟨⟨q + 1, _, by omega, by go_num, by rw [E1.out]; go_num, HO10.out, HM10.out, HH10.out, HW10.out.1, HW10.out.2⟩, by simp [intOf]; omega⟩
            · have hqe : q = N := by omega
              subst hqe
              have k4 : ¬ (1 : Int) < (cnt isHold q H5 : Int) := by omega
              go_wp2
              exact ⟨⟨t + 1, _, H5, by omega, by go_num, HO8.out, HM8.out, HH8.out, HI5.out.load rfl, HW8.out.1, HW7.out.2.1, HW8.out.2⟩, by simp [intOf]; omega⟩
        · have t1 : ((H k).st != 2) = true := by simpa using hst
          have t2 : ((H5 k).st == 2) = false := by rw [HST.out]; simpa using hst
          clear hst
          have HW7 := Lib.hid (show W0 ≤ w6.heap.size ∧ held N H5 ≤ 100 ∧ w6.ownsRow W0 27 1 _ (held N H5) ((List.range (held N H5)).map fun j : Nat => .int .u64 (j : Int)) from by rw [HE.out]; exact ⟨HW6.out.1, HW4.out.2.1, HW6.out.2⟩)
          have HO7 := Lib.hid HO6.out
          have HM7 := Lib.hid HM6.out
          have HH7 := Lib.hid HH6.out
          clear HO6 HM6 HH6 HW6 HW4 HE
          go_wp2
          have k2 := HI5.out.holds_le
          go_loopw [17, 18] (fun c j wr => ∃ (q : Nat) (cc : Int), q ≤ N ∧ j = .int .i64 q ∧ c = .int .i64 (cnt isHold q H5) ∧ Only [] w wr ∧ IsMem wr mb ms ⟨m5.L, cc, m5.l⟩ ∧ HsAt wr g N B H5 ∧ W0 ≤ wr.heap.size ∧ wr.ownsRow W0 27 1 u10 (held N H5) ((List.range (held N H5)).map fun j : Nat => .int .u64 (j : Int))) (fun _ j _ => N - (intOf j).toNat)
          case atStart => exact ⟨0, m5.c, Nat.zero_le _, rfl, rfl, HO7.out, HM7.out, HH7.out, HW7.out.1, HW7.out.2.2⟩
          case round =>
            obtain ⟨q, cc, hqN, rfl, rfl, ho, hm, hH, hsz, hown⟩ := hrel
            have HO8 := Lib.hid ho
            have HM8 := Lib.hid hm
            have HH8 := Lib.hid hH
            have HW8 := Lib.hid (And.intro hsz hown)
            clear ho hm hH hsz hown HO7 HM7 HH7
            have k3 := cnt_le isHold q H5
            by_cases hqlt : q < N
            · have cq := HH8.out.cell hqlt
              rcases HI5.out.sts q hqlt with e | e | e | e
              · have hs := tstate_at _ (B q) (H5 q) (HH8.out.at_ q hqlt)
                rw [e] at hs
                have E1 := Lib.hid (show cnt isHold (q + 1) H5 = cnt isHold q H5 + 0 by rw [cnt]; simp [isHold, e])
                have HS := Lib.hid hs
                clear hs e
                go_wp2_with fail
                refine HS.out.mono ?_
                rintro e w8 ⟨rfl, ho⟩
                have HO9 := Lib.hid (HO8.out.trans ho)
                have HM9 := Lib.hid (HM8.out.only ho (by simp) (by simp))
                have HH9 := Lib.hid (HH8.out.only ho (by simp) (fun _ _ => by simp))
                have HW9 := Lib.hid (And.intro (Nat.le_trans HW8.out.1 ho.size) (own_only HW8.out.2 ho (by simp)))
                clear ho HO8 HM8 HH8 HW8
                go_wp2_with fail
                refine (load_to HM9.out (v := (cnt isGone N H5 : Int)) (er := 0) (m' := ⟨m5.L, wrap64 (cc + 1), m5.l⟩) (by rw [MS.load_at _ 2 (by omega) (by have := HI5.out.len; dsimp only at this ⊢; omega)]; rw [show nth (⟨m5.L, cc, m5.l⟩ : MS).L (Int.toNat 2) = _ from HI5.out.srv])).mono ?_
                rintro e w9 ⟨rfl, ho, hm⟩
                have HO10 := Lib.hid (HO9.out.then ho (by have := HF.out; simp; omega))
                have HM10 := Lib.hid hm
                have HH10 := Lib.hid (HH9.out.only ho (by have := HG.out; simp; omega) (fun x hx => by have := HG.out.2.2.2.2 x hx; simp; omega))
                have HW10 := Lib.hid (And.intro (Nat.le_trans HW9.out.1 ho.size) (own_only HW9.out.2 ho (by have := HLT.out; simp; omega)))
                clear ho hm HO9 HM9 HH9 HW9
                go_wp2
                exact ⟨⟨q + 1, _, by omega, by go_num, by rw [E1.out]; go_num, HO10.out, HM10.out, HH10.out, HW10.out.1, HW10.out.2⟩, by simp [intOf]; omega⟩
              · have hs := tstate_at _ (B q) (H5 q) (HH8.out.at_ q hqlt)
                rw [e] at hs
                have E1 := Lib.hid (show cnt isHold (q + 1) H5 = cnt isHold q H5 + 0 by rw [cnt]; simp [isHold, e])
                have HS := Lib.hid hs
                clear hs e
                go_wp2_with fail
                refine HS.out.mono ?_
                rintro e w8 ⟨rfl, ho⟩
                have HO9 := Lib.hid (HO8.out.trans ho)
                have HM9 := Lib.hid (HM8.out.only ho (by simp) (by simp))
                have HH9 := Lib.hid (HH8.out.only ho (by simp) (fun _ _ => by simp))
                have HW9 := Lib.hid (And.intro (Nat.le_trans HW8.out.1 ho.size) (own_only HW8.out.2 ho (by simp)))
                clear ho HO8 HM8 HH8 HW8
                go_wp2_with fail
                refine (load_to HM9.out (v := (cnt isGone N H5 : Int)) (er := 0) (m' := ⟨m5.L, wrap64 (cc + 1), m5.l⟩) (by rw [MS.load_at _ 2 (by omega) (by have := HI5.out.len; dsimp only at this ⊢; omega)]; rw [show nth (⟨m5.L, cc, m5.l⟩ : MS).L (Int.toNat 2) = _ from HI5.out.srv])).mono ?_
                rintro e w9 ⟨rfl, ho, hm⟩
                have HO10 := Lib.hid (HO9.out.then ho (by have := HF.out; simp; omega))
                have HM10 := Lib.hid hm
                have HH10 := Lib.hid (HH9.out.only ho (by have := HG.out; simp; omega) (fun x hx => by have := HG.out.2.2.2.2 x hx; simp; omega))
                have HW10 := Lib.hid (And.intro (Nat.le_trans HW9.out.1 ho.size) (own_only HW9.out.2 ho (by have := HLT.out; simp; omega)))
                clear ho hm HO9 HM9 HH9 HW9
                go_wp2
                exact ⟨⟨q + 1, _, by omega, by go_num, by rw [E1.out]; go_num, HO10.out, HM10.out, HH10.out, HW10.out.1, HW10.out.2⟩, by simp [intOf]; omega⟩
              · have hs := tstate_at _ (B q) (H5 q) (HH8.out.at_ q hqlt)
                rw [e] at hs
                rw [(HI5.out.hold q hqlt e).1] at hs
                have E1 := Lib.hid (show cnt isHold (q + 1) H5 = cnt isHold q H5 + 1 by rw [cnt]; simp [isHold, e])
                have HS := Lib.hid hs
                clear hs e
                go_wp2_with fail
                refine HS.out.mono ?_
                rintro e w8 ⟨rfl, ho⟩
                have HO9 := Lib.hid (HO8.out.trans ho)
                have HM9 := Lib.hid (HM8.out.only ho (by simp) (by simp))
                have HH9 := Lib.hid (HH8.out.only ho (by simp) (fun _ _ => by simp))
                have HW9 := Lib.hid (And.intro (Nat.le_trans HW8.out.1 ho.size) (own_only HW8.out.2 ho (by simp)))
                clear ho HO8 HM8 HH8 HW8
                go_wp2_with fail
                refine (load_to HM9.out (v := (cnt isGone N H5 : Int)) (er := 0) (m' := ⟨m5.L, wrap64 (cc + 1), m5.l⟩) (by rw [MS.load_at _ 2 (by omega) (by have := HI5.out.len; dsimp only at this ⊢; omega)]; rw [show nth (⟨m5.L, cc, m5.l⟩ : MS).L (Int.toNat 2) = _ from HI5.out.srv])).mono ?_
                rintro e w9 ⟨rfl, ho, hm⟩
                have HO10 := Lib.hid (HO9.out.then ho (by have := HF.out; simp; omega))
                have HM10 := Lib.hid hm
                have HH10 := Lib.hid (HH9.out.only ho (by have := HG.out; simp; omega) (fun x hx => by have := HG.out.2.2.2.2 x hx; simp; omega))
                have HW10 := Lib.hid (And.intro (Nat.le_trans HW9.out.1 ho.size) (own_only HW9.out.2 ho (by have := HLT.out; simp; omega)))
                clear ho hm HO9 HM9 HH9 HW9
                go_wp2
                exact ⟨⟨q + 1, _, by omega, by go_num, by rw [E1.out]; go_num, HO10.out, HM10.out, HH10.out, HW10.out.1, HW10.out.2⟩, by simp [intOf]; omega⟩
              · have hs := tstate_at _ (B q) (H5 q) (HH8.out.at_ q hqlt)
                rw [e] at hs
                have E1 := Lib.hid (show cnt isHold (q + 1) H5 = cnt isHold q H5 + 0 by rw [cnt]; simp [isHold, e])
                have HS := Lib.hid hs
                clear hs e
                go_wp2_with fail
                refine HS.out.mono ?_
                rintro e w8 ⟨rfl, ho⟩
                have HO9 := Lib.hid (HO8.out.trans ho)
                have HM9 := Lib.hid (HM8.out.only ho (by simp) (by simp))
                have HH9 := Lib.hid (HH8.out.only ho (by simp) (fun _ _ => by simp))
                have HW9 := Lib.hid (And.intro (Nat.le_trans HW8.out.1 ho.size) (own_only HW8.out.2 ho (by simp)))
                clear ho HO8 HM8 HH8 HW8
                go_wp2_with fail
                refine (load_to HM9.out (v := (cnt isGone N H5 : Int)) (er := 0) (m' := ⟨m5.L, wrap64 (cc + 1), m5.l⟩) (by rw [MS.load_at _ 2 (by omega) (by have := HI5.out.len; dsimp only at this ⊢; omega)]; rw [show nth (⟨m5.L, cc, m5.l⟩ : MS).L (Int.toNat 2) = _ from HI5.out.srv])).mono ?_
                rintro e w9 ⟨rfl, ho, hm⟩
                have HO10 := Lib.hid (HO9.out.then ho (by have := HF.out; simp; omega))
                have HM10 := Lib.hid hm
                have HH10 := Lib.hid (HH9.out.only ho (by have := HG.out; simp; omega) (fun x hx => by have := HG.out.2.2.2.2 x hx; simp; omega))
                have HW10 := Lib.hid (And.intro (Nat.le_trans HW9.out.1 ho.size) (own_only HW9.out.2 ho (by have := HLT.out; simp; omega)))
                clear ho hm HO9 HM9 HH9 HW9
                go_wp2
                exact ⟨⟨q + 1, _, by omega, by go_num, by rw [E1.out]; go_num, HO10.out, HM10.out, HH10.out, HW10.out.1, HW10.out.2⟩, by simp [intOf]; omega⟩
            · have hqe : q = N := by omega
              subst hqe
              have k4 : ¬ (1 : Int) < (cnt isHold q H5 : Int) := by omega
              go_wp2
              exact ⟨⟨t + 1, _, H5, by omega, by go_num, HO8.out, HM8.out, HH8.out, HI5.out.load rfl, HW8.out.1, HW7.out.2.1, HW8.out.2⟩, by simp [intOf]; omega⟩
      · have hp1 : (nth l t % 4 == 0) = false := by simpa using hpick
        clear hpick
        go_wp2_with fail
        refine (tstep_any _ (B k) mb ms (H k) m (by rw [HI.out.pl k hkN]; decide) (by rw [HI.out.pl k hkN]; decide) (HG.out.2.2.2.2 k hkN) (HH4.out.at_ k hkN) HM4.out).mono ?_
        rintro e w5 ⟨rfl, ho, hh, hm⟩
        have HO5 := Lib.hid (HO4.out.then ho (by have := HG.out.2.1 k hkN; have := HF.out; simp; omega))
        have hheld := HI.out.held_step hkN
        obtain ⟨m5, hm5⟩ : ∃ m5, m5 = ((H k).step m).2 := ⟨_, rfl⟩
        obtain ⟨H5, hH5⟩ : ∃ H5, H5 = upd H k ((H k).step m).1 := ⟨_, rfl⟩
        have hs5 : ((H k).step m).1 = H5 k := by rw [hH5, upd_same]
        have HM5 : Hid (IsMem w5 mb ms m5) := Lib.hid (by rw [hm5]; exact hm)
        have HH5 : Hid (HsAt w5 g N B H5) := Lib.hid (by rw [hH5]; exact HH4.out.step hkN (S := [mb, ms]) ho (by have := HG.out; simp; omega) (fun x hx => by have := HG.out.2.2.2.2 x hx; simp; omega) hh)
        have HI5 : Hid (TInv N 1 H5 m5) := Lib.hid (by rw [hH5, hm5]; exact HI.out.step (by omega) hkN)
        rw [← hH5, hs5] at hheld
        have HHE := Lib.hid hheld
        have HW5 := Lib.hid (And.intro (Nat.le_trans HW4.out.1 ho.size) (own_only HW4.out.2.2 ho (by have := HLT.out.2.2.2.1 k hkN; have := HLT.out; simp; omega)))
        clear ho hh hm ck d1 hm5 hH5 hheld hs5 HO4 HM4 HH4 HI
        have ck := HH5.out.cell hkN
        go_wp2_with fail
        refine (tstate_at _ (B k) (H5 k) (HH5.out.at_ k hkN)).mono ?_
        rintro e w6 ⟨rfl, ho⟩
        have HO6 := Lib.hid (HO5.out.trans ho)
        have HM6 := Lib.hid (HM5.out.only ho (by simp) (by simp))
        have HH6 := Lib.hid (HH5.out.only ho (by simp) (fun _ _ => by simp))
        have HW6 := Lib.hid (And.intro (Nat.le_trans HW5.out.1 ho.size) (own_only HW5.out.2 ho (by simp)))
        clear ho ck HO5 HM5 HH5 HW5
        rcases HHE.out with ⟨a1, a2, a3, a4⟩ | ⟨a1 | a1, a3⟩
        · have t1 : ((H k).st != 2) = true := by simpa using a1
          have t2 : ((H5 k).st == 2) = true := by simpa using a2
          have HE := Lib.hid (And.intro a3 a4)
          clear a1 a2 a3 a4 HHE
          have hown1 := HW6.out.2.alloc (.cells #[.int .u64 (H5 k).tk] 27)
          have HW7a := Lib.hid hown1
          clear hown1
          have hi0 := HI0.out.1
          go_wp2_with (at_builtin; refine wpList_append_own _ rfl (.tmp 117) (.tmp 119) 40 rfl W0 27 i0 (.int .u64 0) 1 8 Try.underlying40 HI0.out.1 HI0.out.2.1 HI0.out.2.2.1 HI0.out.2.2.2 rfl (by decide) _ (held N H) _ rfl HW7a.out ⟨w6.heap.size, 0, none⟩ 1 1 [.int .u64 (H5 k).tk] rfl rfl ?hn ?h1 ?h63 ?hb ?hbase ?_)
          case hn => intro j u hj; match j, hj with | 0, hj => simp at hj; subst hj; simp [Addr.add]
          case h1 => intro u hu; simp at hu; subst hu; rfl
          case h63 => have := HW4.out.2.1; unfold maxLen; omega
          case hb => have := HW4.out.2.1; omega
          case hbase => have := HW6.out.1; simp; omega
          intro v7 w7 hown2 hg2 _
          have hge := own_ge HW7a.out
          have ho7 : Only [] w6 (w6.alloc (.cells #[.int .u64 (H5 k).tk] 27)) := (Only.refl _ _).alloc _
          have hog := Only.of_grown hg2
          have HO7 := Lib.hid ((HO6.out.trans ho7).then hog (fun x hx => .inr (by have := hge x hx; have := HLT.out; omega)))
          have HM7 := Lib.hid ((HM6.out.only ho7 (by simp) (by simp)).only hog (fun hx => by have := hge _ hx; have := HLT.out; omega) (fun hx => by have := hge _ hx; have := HLT.out; omega))
          have HH7 := Lib.hid ((HH6.out.only ho7 (by simp) (fun _ _ => by simp)).only hog (fun hx => by have := hge _ hx; have := HLT.out; omega) (fun y hy hx => by have := hge _ hx; have := HLT.out.2.2.2.1 y hy; omega))
          have HW7 := Lib.hid (show W0 ≤ w7.heap.size ∧ held N H5 ≤ 100 ∧ w7.ownsRow W0 27 1 v7 (held N H5) ((List.range (held N H5)).map fun j : Nat => .int .u64 (j : Int)) from by
            have hk1 := cnt_le isGone N H5
            have hk2 := cnt_le isHold N H5
            refine ⟨Nat.le_trans HW6.out.1 (Nat.le_trans ho7.size hog.size), by unfold held; omega, ?_⟩
            rw [HE.out.1, List.range_succ, List.map_append]
            have e := HE.out.2
            rw [e] at hown2
            exact hown2)
          clear hown2 hg2 hge ho7 hog HO6 HM6 HH6 HW6 HW4 HE HW7a hi0
          go_wp2
          have k2 := HI5.out.holds_le
          go_loopw [17, 18] (fun c j wr => ∃ (q : Nat) (cc : Int), q ≤ N ∧ j = .int .i64 q ∧ c = .int .i64 (cnt isHold q H5) ∧ Only [] w wr ∧ IsMem wr mb ms ⟨m5.L, cc, m5.l⟩ ∧ HsAt wr g N B H5 ∧ W0 ≤ wr.heap.size ∧ wr.ownsRow W0 27 1 v7 (held N H5) ((List.range (held N H5)).map fun j : Nat => .int .u64 (j : Int))) (fun _ j _ => N - (intOf j).toNat)
          case atStart => exact ⟨0, m5.c, Nat.zero_le _, rfl, rfl, HO7.out, HM7.out, HH7.out, HW7.out.1, HW7.out.2.2⟩
          case round =>
            obtain ⟨q, cc, hqN, rfl, rfl, ho, hm, hH, hsz, hown⟩ := hrel
            have HO8 := Lib.hid ho
            have HM8 := Lib.hid hm
            have HH8 := Lib.hid hH
            have HW8 := Lib.hid (And.intro hsz hown)
            clear ho hm hH hsz hown HO7 HM7 HH7
            have k3 := cnt_le isHold q H5
            by_cases hqlt : q < N
            · have cq := HH8.out.cell hqlt
              rcases HI5.out.sts q hqlt with e | e | e | e
              · have hs := tstate_at _ (B q) (H5 q) (HH8.out.at_ q hqlt)
                rw [e] at hs
                have E1 := Lib.hid (show cnt isHold (q + 1) H5 = cnt isHold q H5 + 0 by rw [cnt]; simp [isHold, e])
                have HS := Lib.hid hs
                clear hs e
                go_wp2_with fail
                refine HS.out.mono ?_
                rintro e w8 ⟨rfl, ho⟩
                have HO9 := Lib.hid (HO8.out.trans ho)
                have HM9 := Lib.hid (HM8.out.only ho (by simp) (by simp))
                have HH9 := Lib.hid (HH8.out.only ho (by simp) (fun _ _ => by simp))
                have HW9 := Lib.hid (And.intro (Nat.le_trans HW8.out.1 ho.size) (own_only HW8.out.2 ho (by simp)))
                clear ho HO8 HM8 HH8 HW8
                go_wp2_with fail
                refine (load_to HM9.out (v := (cnt isGone N H5 : Int)) (er := 0) (m' := ⟨m5.L, wrap64 (cc + 1), m5.l⟩) (by rw [MS.load_at _ 2 (by omega) (by have := HI5.out.len; dsimp only at this ⊢; omega)]; rw [show nth (⟨m5.L, cc, m5.l⟩ : MS).L (Int.toNat 2) = _ from HI5.out.srv])).mono ?_
                rintro e w9 ⟨rfl, ho, hm⟩
                have HO10 := Lib.hid (HO9.out.then ho (by have := HF.out; simp; omega))
                have HM10 := Lib.hid hm
                have HH10 := Lib.hid (HH9.out.only ho (by have := HG.out; simp; omega) (fun x hx => by have := HG.out.2.2.2.2 x hx; simp; omega))
                have HW10 := Lib.hid (And.intro (Nat.le_trans HW9.out.1 ho.size) (own_only HW9.out.2 ho (by have := HLT.out; simp; omega)))
                clear ho hm HO9 HM9 HH9 HW9
                go_wp2
                exact ⟨⟨q + 1, _, by omega, by go_num, by rw [E1.out]; go_num, HO10.out, HM10.out, HH10.out, HW10.out.1, HW10.out.2⟩, by simp [intOf]; omega⟩
              · have hs := tstate_at _ (B q) (H5 q) (HH8.out.at_ q hqlt)
                rw [e] at hs
                have E1 := Lib.hid (show cnt isHold (q + 1) H5 = cnt isHold q H5 + 0 by rw [cnt]; simp [isHold, e])
                have HS := Lib.hid hs
                clear hs e
                go_wp2_with fail
                refine HS.out.mono ?_
                rintro e w8 ⟨rfl, ho⟩
                have HO9 := Lib.hid (HO8.out.trans ho)
                have HM9 := Lib.hid (HM8.out.only ho (by simp) (by simp))
                have HH9 := Lib.hid (HH8.out.only ho (by simp) (fun _ _ => by simp))
                have HW9 := Lib.hid (And.intro (Nat.le_trans HW8.out.1 ho.size) (own_only HW8.out.2 ho (by simp)))
                clear ho HO8 HM8 HH8 HW8
                go_wp2_with fail
                refine (load_to HM9.out (v := (cnt isGone N H5 : Int)) (er := 0) (m' := ⟨m5.L, wrap64 (cc + 1), m5.l⟩) (by rw [MS.load_at _ 2 (by omega) (by have := HI5.out.len; dsimp only at this ⊢; omega)]; rw [show nth (⟨m5.L, cc, m5.l⟩ : MS).L (Int.toNat 2) = _ from HI5.out.srv])).mono ?_
                rintro e w9 ⟨rfl, ho, hm⟩
                have HO10 := Lib.hid (HO9.out.then ho (by have := HF.out; simp; omega))
                have HM10 := Lib.hid hm
                have HH10 := Lib.hid (HH9.out.only ho (by have := HG.out; simp; omega) (fun x hx => by have := HG.out.2.2.2.2 x hx; simp; omega))
                have HW10 := Lib.hid (And.intro (Nat.le_trans HW9.out.1 ho.size) (own_only HW9.out.2 ho (by have := HLT.out; simp; omega)))
                clear ho hm HO9 HM9 HH9 HW9
                go_wp2
                exact ⟨⟨q + 1, _, by omega, by go_num, by rw [E1.out]; go_num, HO10.out, HM10.out, HH10.out, HW10.out.1, HW10.out.2⟩, by simp [intOf]; omega⟩
              · have hs := tstate_at _ (B q) (H5 q) (HH8.out.at_ q hqlt)
                rw [e] at hs
                rw [(HI5.out.hold q hqlt e).1] at hs
                have E1 := Lib.hid (show cnt isHold (q + 1) H5 = cnt isHold q H5 + 1 by rw [cnt]; simp [isHold, e])
                have HS := Lib.hid hs
                clear hs e
                go_wp2_with fail
                refine HS.out.mono ?_
                rintro e w8 ⟨rfl, ho⟩
                have HO9 := Lib.hid (HO8.out.trans ho)
                have HM9 := Lib.hid (HM8.out.only ho (by simp) (by simp))
                have HH9 := Lib.hid (HH8.out.only ho (by simp) (fun _ _ => by simp))
                have HW9 := Lib.hid (And.intro (Nat.le_trans HW8.out.1 ho.size) (own_only HW8.out.2 ho (by simp)))
                clear ho HO8 HM8 HH8 HW8
                go_wp2_with fail
                refine (load_to HM9.out (v := (cnt isGone N H5 : Int)) (er := 0) (m' := ⟨m5.L, wrap64 (cc + 1), m5.l⟩) (by rw [MS.load_at _ 2 (by omega) (by have := HI5.out.len; dsimp only at this ⊢; omega)]; rw [show nth (⟨m5.L, cc, m5.l⟩ : MS).L (Int.toNat 2) = _ from HI5.out.srv])).mono ?_
                rintro e w9 ⟨rfl, ho, hm⟩
                have HO10 := Lib.hid (HO9.out.then ho (by have := HF.out; simp; omega))
                have HM10 := Lib.hid hm
                have HH10 := Lib.hid (HH9.out.only ho (by have := HG.out; simp; omega) (fun x hx => by have := HG.out.2.2.2.2 x hx; simp; omega))
                have HW10 := Lib.hid (And.intro (Nat.le_trans HW9.out.1 ho.size) (own_only HW9.out.2 ho (by have := HLT.out; simp; omega)))
                clear ho hm HO9 HM9 HH9 HW9
                go_wp2
                exact ⟨⟨q + 1, _, by omega, by go_num, by rw [E1.out]; go_num, HO10.out, HM10.out, HH10.out, HW10.out.1, HW10.out.2⟩, by simp [intOf]; omega⟩
              · have hs := tstate_at _ (B q) (H5 q) (HH8.out.at_ q hqlt)
                rw [e] at hs
                have E1 := Lib.hid (show cnt isHold (q + 1) H5 = cnt isHold q H5 + 0 by rw [cnt]; simp [isHold, e])
                have HS := Lib.hid hs
                clear hs e
                go_wp2_with fail
                refine HS.out.mono ?_
                rintro e w8 ⟨rfl, ho⟩
                have HO9 := Lib.hid (HO8.out.trans ho)
                have HM9 := Lib.hid (HM8.out.only ho (by simp) (by simp))
                have HH9 := Lib.hid (HH8.out.only ho (by simp) (fun _ _ => by simp))
                have HW9 := Lib.hid (And.intro (Nat.le_trans HW8.out.1 ho.size) (own_only HW8.out.2 ho (by simp)))
                clear ho HO8 HM8 HH8 HW8
                go_wp2_with fail
                refine (load_to HM9.out (v := (cnt isGone N H5 : Int)) (er := 0) (m' := ⟨m5.L, wrap64 (cc + 1), m5.l⟩) (by rw [MS.load_at _ 2 (by omega) (by have := HI5.out.len; dsimp only at this ⊢; omega)]; rw [show nth (⟨m5.L, cc, m5.l⟩ : MS).L (Int.toNat 2) = _ from HI5.out.srv])).mono ?_
                rintro e w9 ⟨rfl, ho, hm⟩
                have HO10 := Lib.hid (HO9.out.then ho (by have := HF.out; simp; omega))
                have HM10 := Lib.hid hm
                have HH10 := Lib.hid (HH9.out.only ho (by have := HG.out; simp; omega) (fun x hx => by have := HG.out.2.2.2.2 x hx; simp; omega))
                have HW10 := Lib.hid (And.intro (Nat.le_trans HW9.out.1 ho.size) (own_only HW9.out.2 ho (by have := HLT.out; simp; omega)))
                clear ho hm HO9 HM9 HH9 HW9
                go_wp2
                exact ⟨⟨q + 1, _, by omega, by go_num, by rw [E1.out]; go_num, HO10.out, HM10.out, HH10.out, HW10.out.1, HW10.out.2⟩, by simp [intOf]; omega⟩
            · have hqe : q = N := by omega
              subst hqe
              have k4 : ¬ (1 : Int) < (cnt isHold q H5 : Int) := by omega
              go_wp2
              exact ⟨⟨t + 1, _, H5, by omega, by go_num, HO8.out, HM8.out, HH8.out, HI5.out.load rfl, HW8.out.1, HW7.out.2.1, HW8.out.2⟩, by simp [intOf]; omega⟩
        · have t1 : ((H k).st != 2) = false := by simp [a1]
          have HE := Lib.hid a3
          clear a1 a3 HHE
          have HW7 := Lib.hid (show W0 ≤ w6.heap.size ∧ held N H5 ≤ 100 ∧ w6.ownsRow W0 27 1 _ (held N H5) ((List.range (held N H5)).map fun j : Nat => .int .u64 (j : Int)) from by rw [HE.out]; exact ⟨HW6.out.1, HW4.out.2.1, HW6.out.2⟩)
          have HO7 := Lib.hid HO6.out
          have HM7 := Lib.hid HM6.out
          have HH7 := Lib.hid HH6.out
          clear HO6 HM6 HH6 HW6 HW4 HE
          go_wp2
          have k2 := HI5.out.holds_le
          go_loopw [17, 18] (fun c j wr => ∃ (q : Nat) (cc : Int), q ≤ N ∧ j = .int .i64 q ∧ c = .int .i64 (cnt isHold q H5) ∧ Only [] w wr ∧ IsMem wr mb ms ⟨m5.L, cc, m5.l⟩ ∧ HsAt wr g N B H5 ∧ W0 ≤ wr.heap.size ∧ wr.ownsRow W0 27 1 u10 (held N H5) ((List.range (held N H5)).map fun j : Nat => .int .u64 (j : Int))) (fun _ j _ => N - (intOf j).toNat)
          case atStart => exact ⟨0, m5.c, Nat.zero_le _, rfl, rfl, HO7.out, HM7.out, HH7.out, HW7.out.1, HW7.out.2.2⟩
          case round =>
            obtain ⟨q, cc, hqN, rfl, rfl, ho, hm, hH, hsz, hown⟩ := hrel
            have HO8 := Lib.hid ho
            have HM8 := Lib.hid hm
            have HH8 := Lib.hid hH
            have HW8 := Lib.hid (And.intro hsz hown)
            clear ho hm hH hsz hown HO7 HM7 HH7
            have k3 := cnt_le isHold q H5
            by_cases hqlt : q < N
            · have cq := HH8.out.cell hqlt
              rcases HI5.out.sts q hqlt with e | e | e | e
              · have hs := tstate_at _ (B q) (H5 q) (HH8.out.at_ q hqlt)
                rw [e] at hs
                have E1 := Lib.hid (show cnt isHold (q + 1) H5 = cnt isHold q H5 + 0 by rw [cnt]; simp [isHold, e])
                have HS := Lib.hid hs
                clear hs e
                go_wp2_with fail
                refine HS.out.mono ?_
                rintro e w8 ⟨rfl, ho⟩
                have HO9 := Lib.hid (HO8.out.trans ho)
                have HM9 := Lib.hid (HM8.out.only ho (by simp) (by simp))
                have HH9 := Lib.hid (HH8.out.only ho (by simp) (fun _ _ => by simp))
                have HW9 := Lib.hid (And.intro (Nat.le_trans HW8.out.1 ho.size) (own_only HW8.out.2 ho (by simp)))
                clear ho HO8 HM8 HH8 HW8
                go_wp2_with fail
                refine (load_to HM9.out (v := (cnt isGone N H5 : Int)) (er := 0) (m' := ⟨m5.L, wrap64 (cc + 1), m5.l⟩) (by rw [MS.load_at _ 2 (by omega) (by have := HI5.out.len; dsimp only at this ⊢; omega)]; rw [show nth (⟨m5.L, cc, m5.l⟩ : MS).L (Int.toNat 2) = _ from HI5.out.srv])).mono ?_
                rintro e w9 ⟨rfl, ho, hm⟩
                have HO10 := Lib.hid (HO9.out.then ho (by have := HF.out; simp; omega))
                have HM10 := Lib.hid hm
                have HH10 := Lib.hid (HH9.out.only ho (by have := HG.out; simp; omega) (fun x hx => by have := HG.out.2.2.2.2 x hx; simp; omega))
                have HW10 := Lib.hid (And.intro (Nat.le_trans HW9.out.1 ho.size) (own_only HW9.out.2 ho (by have := HLT.out; simp; omega)))
                clear ho hm HO9 HM9 HH9 HW9
                go_wp2
                exact ⟨⟨q + 1, _, by omega, by go_num, by rw [E1.out]; go_num, HO10.out, HM10.out, HH10.out, HW10.out.1, HW10.out.2⟩, by simp [intOf]; omega⟩
              · have hs := tstate_at _ (B q) (H5 q) (HH8.out.at_ q hqlt)
                rw [e] at hs
                have E1 := Lib.hid (show cnt isHold (q + 1) H5 = cnt isHold q H5 + 0 by rw [cnt]; simp [isHold, e])
                have HS := Lib.hid hs
                clear hs e
                go_wp2_with fail
                refine HS.out.mono ?_
                rintro e w8 ⟨rfl, ho⟩
                have HO9 := Lib.hid (HO8.out.trans ho)
                have HM9 := Lib.hid (HM8.out.only ho (by simp) (by simp))
                have HH9 := Lib.hid (HH8.out.only ho (by simp) (fun _ _ => by simp))
                have HW9 := Lib.hid (And.intro (Nat.le_trans HW8.out.1 ho.size) (own_only HW8.out.2 ho (by simp)))
                clear ho HO8 HM8 HH8 HW8
                go_wp2_with fail
                refine (load_to HM9.out (v := (cnt isGone N H5 : Int)) (er := 0) (m' := ⟨m5.L, wrap64 (cc + 1), m5.l⟩) (by rw [MS.load_at _ 2 (by omega) (by have := HI5.out.len; dsimp only at this ⊢; omega)]; rw [show nth (⟨m5.L, cc, m5.l⟩ : MS).L (Int.toNat 2) = _ from HI5.out.srv])).mono ?_
                rintro e w9 ⟨rfl, ho, hm⟩
                have HO10 := Lib.hid (HO9.out.then ho (by have := HF.out; simp; omega))
                have HM10 := Lib.hid hm
                have HH10 := Lib.hid (HH9.out.only ho (by have := HG.out; simp; omega) (fun x hx => by have := HG.out.2.2.2.2 x hx; simp; omega))
                have HW10 := Lib.hid (And.intro (Nat.le_trans HW9.out.1 ho.size) (own_only HW9.out.2 ho (by have := HLT.out; simp; omega)))
                clear ho hm HO9 HM9 HH9 HW9
                go_wp2
                exact ⟨⟨q + 1, _, by omega, by go_num, by rw [E1.out]; go_num, HO10.out, HM10.out, HH10.out, HW10.out.1, HW10.out.2⟩, by simp [intOf]; omega⟩
              · have hs := tstate_at _ (B q) (H5 q) (HH8.out.at_ q hqlt)
                rw [e] at hs
                rw [(HI5.out.hold q hqlt e).1] at hs
                have E1 := Lib.hid (show cnt isHold (q + 1) H5 = cnt isHold q H5 + 1 by rw [cnt]; simp [isHold, e])
                have HS := Lib.hid hs
                clear hs e
                go_wp2_with fail
                refine HS.out.mono ?_
                rintro e w8 ⟨rfl, ho⟩
                have HO9 := Lib.hid (HO8.out.trans ho)
                have HM9 := Lib.hid (HM8.out.only ho (by simp) (by simp))
                have HH9 := Lib.hid (HH8.out.only ho (by simp) (fun _ _ => by simp))
                have HW9 := Lib.hid (And.intro (Nat.le_trans HW8.out.1 ho.size) (own_only HW8.out.2 ho (by simp)))
                clear ho HO8 HM8 HH8 HW8
                go_wp2_with fail
                refine (load_to HM9.out (v := (cnt isGone N H5 : Int)) (er := 0) (m' := ⟨m5.L, wrap64 (cc + 1), m5.l⟩) (by rw [MS.load_at _ 2 (by omega) (by have := HI5.out.len; dsimp only at this ⊢; omega)]; rw [show nth (⟨m5.L, cc, m5.l⟩ : MS).L (Int.toNat 2) = _ from HI5.out.srv])).mono ?_
                rintro e w9 ⟨rfl, ho, hm⟩
                have HO10 := Lib.hid (HO9.out.then ho (by have := HF.out; simp; omega))
                have HM10 := Lib.hid hm
                have HH10 := Lib.hid (HH9.out.only ho (by have := HG.out; simp; omega) (fun x hx => by have := HG.out.2.2.2.2 x hx; simp; omega))
                have HW10 := Lib.hid (And.intro (Nat.le_trans HW9.out.1 ho.size) (own_only HW9.out.2 ho (by have := HLT.out; simp; omega)))
                clear ho hm HO9 HM9 HH9 HW9
                go_wp2
                exact ⟨⟨q + 1, _, by omega, by go_num, by rw [E1.out]; go_num, HO10.out, HM10.out, HH10.out, HW10.out.1, HW10.out.2⟩, by simp [intOf]; omega⟩
              · have hs := tstate_at _ (B q) (H5 q) (HH8.out.at_ q hqlt)
                rw [e] at hs
                have E1 := Lib.hid (show cnt isHold (q + 1) H5 = cnt isHold q H5 + 0 by rw [cnt]; simp [isHold, e])
                have HS := Lib.hid hs
                clear hs e
                go_wp2_with fail
                refine HS.out.mono ?_
                rintro e w8 ⟨rfl, ho⟩
                have HO9 := Lib.hid (HO8.out.trans ho)
                have HM9 := Lib.hid (HM8.out.only ho (by simp) (by simp))
                have HH9 := Lib.hid (HH8.out.only ho (by simp) (fun _ _ => by simp))
                have HW9 := Lib.hid (And.intro (Nat.le_trans HW8.out.1 ho.size) (own_only HW8.out.2 ho (by simp)))
                clear ho HO8 HM8 HH8 HW8
                go_wp2_with fail
                refine (load_to HM9.out (v := (cnt isGone N H5 : Int)) (er := 0) (m' := ⟨m5.L, wrap64 (cc + 1), m5.l⟩) (by rw [MS.load_at _ 2 (by omega) (by have := HI5.out.len; dsimp only at this ⊢; omega)]; rw [show nth (⟨m5.L, cc, m5.l⟩ : MS).L (Int.toNat 2) = _ from HI5.out.srv])).mono ?_
                rintro e w9 ⟨rfl, ho, hm⟩
                have HO10 := Lib.hid (HO9.out.then ho (by have := HF.out; simp; omega))
                have HM10 := Lib.hid hm
                have HH10 := Lib.hid (HH9.out.only ho (by have := HG.out; simp; omega) (fun x hx => by have := HG.out.2.2.2.2 x hx; simp; omega))
                have HW10 := Lib.hid (And.intro (Nat.le_trans HW9.out.1 ho.size) (own_only HW9.out.2 ho (by have := HLT.out; simp; omega)))
                clear ho hm HO9 HM9 HH9 HW9
                go_wp2
                exact ⟨⟨q + 1, _, by omega, by go_num, by rw [E1.out]; go_num, HO10.out, HM10.out, HH10.out, HW10.out.1, HW10.out.2⟩, by simp [intOf]; omega⟩
            · have hqe : q = N := by omega
              subst hqe
              have k4 : ¬ (1 : Int) < (cnt isHold q H5 : Int) := by omega
              go_wp2
              exact ⟨⟨t + 1, _, H5, by omega, by go_num, HO8.out, HM8.out, HH8.out, HI5.out.load rfl, HW8.out.1, HW7.out.2.1, HW8.out.2⟩, by simp [intOf]; omega⟩
        · have t2 : ((H5 k).st == 2) = false := by simpa using a1
          have HE := Lib.hid a3
          clear a1 a3 HHE
          by_cases hst : (H k).st = 2
          · have t1 : ((H k).st != 2) = false := by simp [hst]
            clear hst
            have HW7 := Lib.hid (show W0 ≤ w6.heap.size ∧ held N H5 ≤ 100 ∧ w6.ownsRow W0 27 1 _ (held N H5) ((List.range (held N H5)).map fun j : Nat => .int .u64 (j : Int)) from by rw [HE.out]; exact ⟨HW6.out.1, HW4.out.2.1, HW6.out.2⟩)
            have HO7 := Lib.hid HO6.out
            have HM7 := Lib.hid HM6.out
            have HH7 := Lib.hid HH6.out
            clear HO6 HM6 HH6 HW6 HW4 HE
            go_wp2
            have k2 := HI5.out.holds_le
            go_loopw [17, 18] (fun c j wr => ∃ (q : Nat) (cc : Int), q ≤ N ∧ j = .int .i64 q ∧ c = .int .i64 (cnt isHold q H5) ∧ Only [] w wr ∧ IsMem wr mb ms ⟨m5.L, cc, m5.l⟩ ∧ HsAt wr g N B H5 ∧ W0 ≤ wr.heap.size ∧ wr.ownsRow W0 27 1 u10 (held N H5) ((List.range (held N H5)).map fun j : Nat => .int .u64 (j : Int))) (fun _ j _ => N - (intOf j).toNat)
            case atStart => exact ⟨0, m5.c, Nat.zero_le _, rfl, rfl, HO7.out, HM7.out, HH7.out, HW7.out.1, HW7.out.2.2⟩
            case round =>
              obtain ⟨q, cc, hqN, rfl, rfl, ho, hm, hH, hsz, hown⟩ := hrel
              have HO8 := Lib.hid ho
              have HM8 := Lib.hid hm
              have HH8 := Lib.hid hH
              have HW8 := Lib.hid (And.intro hsz hown)
              clear ho hm hH hsz hown HO7 HM7 HH7
              have k3 := cnt_le isHold q H5
              by_cases hqlt : q < N
              · have cq := HH8.out.cell hqlt
                rcases HI5.out.sts q hqlt with e | e | e | e
                · have hs := tstate_at _ (B q) (H5 q) (HH8.out.at_ q hqlt)
                  rw [e] at hs
                  have E1 := Lib.hid (show cnt isHold (q + 1) H5 = cnt isHold q H5 + 0 by rw [cnt]; simp [isHold, e])
                  have HS := Lib.hid hs
                  clear hs e
                  go_wp2_with fail
                  refine HS.out.mono ?_
                  rintro e w8 ⟨rfl, ho⟩
                  have HO9 := Lib.hid (HO8.out.trans ho)
                  have HM9 := Lib.hid (HM8.out.only ho (by simp) (by simp))
                  have HH9 := Lib.hid (HH8.out.only ho (by simp) (fun _ _ => by simp))
                  have HW9 := Lib.hid (And.intro (Nat.le_trans HW8.out.1 ho.size) (own_only HW8.out.2 ho (by simp)))
                  clear ho HO8 HM8 HH8 HW8
                  go_wp2_with fail
                  refine (load_to HM9.out (v := (cnt isGone N H5 : Int)) (er := 0) (m' := ⟨m5.L, wrap64 (cc + 1), m5.l⟩) (by rw [MS.load_at _ 2 (by omega) (by have := HI5.out.len; dsimp only at this ⊢; omega)]; rw [show nth (⟨m5.L, cc, m5.l⟩ : MS).L (Int.toNat 2) = _ from HI5.out.srv])).mono ?_
                  rintro e w9 ⟨rfl, ho, hm⟩
                  have HO10 := Lib.hid (HO9.out.then ho (by have := HF.out; simp; omega))
                  have HM10 := Lib.hid hm
                  have HH10 := Lib.hid (HH9.out.only ho (by have := HG.out; simp; omega) (fun x hx => by have := HG.out.2.2.2.2 x hx; simp; omega))
                  have HW10 := Lib.hid (And.intro (Nat.le_trans HW9.out.1 ho.size) (own_only HW9.out.2 ho (by have := HLT.out; simp; omega)))
                  clear ho hm HO9 HM9 HH9 HW9
                  go_wp2
                  exact ⟨⟨q + 1, _, by omega, by go_num, by rw [E1.out]; go_num, HO10.out, HM10.out, HH10.out, HW10.out.1, HW10.out.2⟩, by simp [intOf]; omega⟩
                · have hs := tstate_at _ (B q) (H5 q) (HH8.out.at_ q hqlt)
                  rw [e] at hs
                  have E1 := Lib.hid (show cnt isHold (q + 1) H5 = cnt isHold q H5 + 0 by rw [cnt]; simp [isHold, e])
                  have HS := Lib.hid hs
                  clear hs e
                  go_wp2_with fail
                  refine HS.out.mono ?_
                  rintro e w8 ⟨rfl, ho⟩
                  have HO9 := Lib.hid (HO8.out.trans ho)
                  have HM9 := Lib.hid (HM8.out.only ho (by simp) (by simp))
                  have HH9 := Lib.hid (HH8.out.only ho (by simp) (fun _ _ => by simp))
                  have HW9 := Lib.hid (And.intro (Nat.le_trans HW8.out.1 ho.size) (own_only HW8.out.2 ho (by simp)))
                  clear ho HO8 HM8 HH8 HW8
                  go_wp2_with fail
                  refine (load_to HM9.out (v := (cnt isGone N H5 : Int)) (er := 0) (m' := ⟨m5.L, wrap64 (cc + 1), m5.l⟩) (by rw [MS.load_at _ 2 (by omega) (by have := HI5.out.len; dsimp only at this ⊢; omega)]; rw [show nth (⟨m5.L, cc, m5.l⟩ : MS).L (Int.toNat 2) = _ from HI5.out.srv])).mono ?_
                  rintro e w9 ⟨rfl, ho, hm⟩
                  have HO10 := Lib.hid (HO9.out.then ho (by have := HF.out; simp; omega))
                  have HM10 := Lib.hid hm
                  have HH10 := Lib.hid (HH9.out.only ho (by have := HG.out; simp; omega) (fun x hx => by have := HG.out.2.2.2.2 x hx; simp; omega))
                  have HW10 := Lib.hid (And.intro (Nat.le_trans HW9.out.1 ho.size) (own_only HW9.out.2 ho (by have := HLT.out; simp; omega)))
                  clear ho hm HO9 HM9 HH9 HW9
                  go_wp2
                  exact ⟨⟨q + 1, _, by omega, by go_num, by rw [E1.out]; go_num, HO10.out, HM10.out, HH10.out, HW10.out.1, HW10.out.2⟩, by simp [intOf]; omega⟩
                · have hs := tstate_at _ (B q) (H5 q) (HH8.out.at_ q hqlt)
                  rw [e] at hs
                  rw [(HI5.out.hold q hqlt e).1] at hs
                  have E1 := Lib.hid (show cnt isHold (q + 1) H5 = cnt isHold q H5 + 1 by rw [cnt]; simp [isHold, e])
                  have HS := Lib.hid hs
                  clear hs e
                  go_wp2_with fail
                  refine HS.out.mono ?_
                  rintro e w8 ⟨rfl, ho⟩
                  have HO9 := Lib.hid (HO8.out.trans ho)
                  have HM9 := Lib.hid (HM8.out.only ho (by simp) (by simp))
                  have HH9 := Lib.hid (HH8.out.only ho (by simp) (fun _ _ => by simp))
                  have HW9 := Lib.hid (And.intro (Nat.le_trans HW8.out.1 ho.size) (own_only HW8.out.2 ho (by simp)))
                  clear ho HO8 HM8 HH8 HW8
                  go_wp2_with fail
                  refine (load_to HM9.out (v := (cnt isGone N H5 : Int)) (er := 0) (m' := ⟨m5.L, wrap64 (cc + 1), m5.l⟩) (by rw [MS.load_at _ 2 (by omega) (by have := HI5.out.len; dsimp only at this ⊢; omega)]; rw [show nth (⟨m5.L, cc, m5.l⟩ : MS).L (Int.toNat 2) = _ from HI5.out.srv])).mono ?_
                  rintro e w9 ⟨rfl, ho, hm⟩
                  have HO10 := Lib.hid (HO9.out.then ho (by have := HF.out; simp; omega))
                  have HM10 := Lib.hid hm
                  have HH10 := Lib.hid (HH9.out.only ho (by have := HG.out; simp; omega) (fun x hx => by have := HG.out.2.2.2.2 x hx; simp; omega))
                  have HW10 := Lib.hid (And.intro (Nat.le_trans HW9.out.1 ho.size) (own_only HW9.out.2 ho (by have := HLT.out; simp; omega)))
                  clear ho hm HO9 HM9 HH9 HW9
                  go_wp2
                  exact ⟨⟨q + 1, _, by omega, by go_num, by rw [E1.out]; go_num, HO10.out, HM10.out, HH10.out, HW10.out.1, HW10.out.2⟩, by simp [intOf]; omega⟩
                · have hs := tstate_at _ (B q) (H5 q) (HH8.out.at_ q hqlt)
                  rw [e] at hs
                  have E1 := Lib.hid (show cnt isHold (q + 1) H5 = cnt isHold q H5 + 0 by rw [cnt]; simp [isHold, e])
                  have HS := Lib.hid hs
                  clear hs e
                  go_wp2_with fail
                  refine HS.out.mono ?_
                  rintro e w8 ⟨rfl, ho⟩
                  have HO9 := Lib.hid (HO8.out.trans ho)
                  have HM9 := Lib.hid (HM8.out.only ho (by simp) (by simp))
                  have HH9 := Lib.hid (HH8.out.only ho (by simp) (fun _ _ => by simp))
                  have HW9 := Lib.hid (And.intro (Nat.le_trans HW8.out.1 ho.size) (own_only HW8.out.2 ho (by simp)))
                  clear ho HO8 HM8 HH8 HW8
                  go_wp2_with fail
                  refine (load_to HM9.out (v := (cnt isGone N H5 : Int)) (er := 0) (m' := ⟨m5.L, wrap64 (cc + 1), m5.l⟩) (by rw [MS.load_at _ 2 (by omega) (by have := HI5.out.len; dsimp only at this ⊢; omega)]; rw [show nth (⟨m5.L, cc, m5.l⟩ : MS).L (Int.toNat 2) = _ from HI5.out.srv])).mono ?_
                  rintro e w9 ⟨rfl, ho, hm⟩
                  have HO10 := Lib.hid (HO9.out.then ho (by have := HF.out; simp; omega))
                  have HM10 := Lib.hid hm
                  have HH10 := Lib.hid (HH9.out.only ho (by have := HG.out; simp; omega) (fun x hx => by have := HG.out.2.2.2.2 x hx; simp; omega))
                  have HW10 := Lib.hid (And.intro (Nat.le_trans HW9.out.1 ho.size) (own_only HW9.out.2 ho (by have := HLT.out; simp; omega)))
                  clear ho hm HO9 HM9 HH9 HW9
                  go_wp2
                  exact ⟨⟨q + 1, _, by omega, by go_num, by rw [E1.out]; go_num, HO10.out, HM10.out, HH10.out, HW10.out.1, HW10.out.2⟩, by simp [intOf]; omega⟩
              · have hqe : q = N := by omega
                subst hqe
                have k4 : ¬ (1 : Int) < (cnt isHold q H5 : Int) := by omega
                go_wp2
                exact ⟨⟨t + 1, _, H5, by omega, by go_num, HO8.out, HM8.out, HH8.out, HI5.out.load rfl, HW8.out.1, HW7.out.2.1, HW8.out.2⟩, by simp [intOf]; omega⟩
          · have t1 : ((H k).st != 2) = true := by simpa using hst
            clear hst
            have HW7 := Lib.hid (show W0 ≤ w6.heap.size ∧ held N H5 ≤ 100 ∧ w6.ownsRow W0 27 1 _ (held N H5) ((List.range (held N H5)).map fun j : Nat => .int .u64 (j : Int)) from by rw [HE.out]; exact ⟨HW6.out.1, HW4.out.2.1, HW6.out.2⟩)
            have HO7 := Lib.hid HO6.out
            have HM7 := Lib.hid HM6.out
            have HH7 := Lib.hid HH6.out
            clear HO6 HM6 HH6 HW6 HW4 HE
            go_wp2
            have k2 := HI5.out.holds_le
            go_loopw [17, 18] (fun c j wr => ∃ (q : Nat) (cc : Int), q ≤ N ∧ j = .int .i64 q ∧ c = .int .i64 (cnt isHold q H5) ∧ Only [] w wr ∧ IsMem wr mb ms ⟨m5.L, cc, m5.l⟩ ∧ HsAt wr g N B H5 ∧ W0 ≤ wr.heap.size ∧ wr.ownsRow W0 27 1 u10 (held N H5) ((List.range (held N H5)).map fun j : Nat => .int .u64 (j : Int))) (fun _ j _ => N - (intOf j).toNat)
            case atStart => exact ⟨0, m5.c, Nat.zero_le _, rfl, rfl, HO7.out, HM7.out, HH7.out, HW7.out.1, HW7.out.2.2⟩
            case round =>
              obtain ⟨q, cc, hqN, rfl, rfl, ho, hm, hH, hsz, hown⟩ := hrel
              have HO8 := Lib.hid ho
              have HM8 := Lib.hid hm
              have HH8 := Lib.hid hH
              have HW8 := Lib.hid (And.intro hsz hown)
              clear ho hm hH hsz hown HO7 HM7 HH7
              have k3 := cnt_le isHold q H5
              by_cases hqlt : q < N
              · have cq := HH8.out.cell hqlt
                rcases HI5.out.sts q hqlt with e | e | e | e
                · have hs := tstate_at _ (B q) (H5 q) (HH8.out.at_ q hqlt)
                  rw [e] at hs
                  have E1 := Lib.hid (show cnt isHold (q + 1) H5 = cnt isHold q H5 + 0 by rw [cnt]; simp [isHold, e])
                  have HS := Lib.hid hs
                  clear hs e
                  go_wp2_with fail
                  refine HS.out.mono ?_
                  rintro e w8 ⟨rfl, ho⟩
                  have HO9 := Lib.hid (HO8.out.trans ho)
                  have HM9 := Lib.hid (HM8.out.only ho (by simp) (by simp))
                  have HH9 := Lib.hid (HH8.out.only ho (by simp) (fun _ _ => by simp))
                  have HW9 := Lib.hid (And.intro (Nat.le_trans HW8.out.1 ho.size) (own_only HW8.out.2 ho (by simp)))
                  clear ho HO8 HM8 HH8 HW8
                  go_wp2_with fail
                  refine (load_to HM9.out (v := (cnt isGone N H5 : Int)) (er := 0) (m' := ⟨m5.L, wrap64 (cc + 1), m5.l⟩) (by rw [MS.load_at _ 2 (by omega) (by have := HI5.out.len; dsimp only at this ⊢; omega)]; rw [show nth (⟨m5.L, cc, m5.l⟩ : MS).L (Int.toNat 2) = _ from HI5.out.srv])).mono ?_
                  rintro e w9 ⟨rfl, ho, hm⟩
                  have HO10 := Lib.hid (HO9.out.then ho (by have := HF.out; simp; omega))
                  have HM10 := Lib.hid hm
                  have HH10 := Lib.hid (HH9.out.only ho (by have := HG.out; simp; omega) (fun x hx => by have := HG.out.2.2.2.2 x hx; simp; omega))
                  have HW10 := Lib.hid (And.intro (Nat.le_trans HW9.out.1 ho.size) (own_only HW9.out.2 ho (by have := HLT.out; simp; omega)))
                  clear ho hm HO9 HM9 HH9 HW9
                  go_wp2
                  exact ⟨⟨q + 1, _, by omega, by go_num, by rw [E1.out]; go_num, HO10.out, HM10.out, HH10.out, HW10.out.1, HW10.out.2⟩, by simp [intOf]; omega⟩
                · have hs := tstate_at _ (B q) (H5 q) (HH8.out.at_ q hqlt)
                  rw [e] at hs
                  have E1 := Lib.hid (show cnt isHold (q + 1) H5 = cnt isHold q H5 + 0 by rw [cnt]; simp [isHold, e])
                  have HS := Lib.hid hs
                  clear hs e
                  go_wp2_with fail
                  refine HS.out.mono ?_
                  rintro e w8 ⟨rfl, ho⟩
                  have HO9 := Lib.hid (HO8.out.trans ho)
                  have HM9 := Lib.hid (HM8.out.only ho (by simp) (by simp))
                  have HH9 := Lib.hid (HH8.out.only ho (by simp) (fun _ _ => by simp))
                  have HW9 := Lib.hid (And.intro (Nat.le_trans HW8.out.1 ho.size) (own_only HW8.out.2 ho (by simp)))
                  clear ho HO8 HM8 HH8 HW8
                  go_wp2_with fail
                  refine (load_to HM9.out (v := (cnt isGone N H5 : Int)) (er := 0) (m' := ⟨m5.L, wrap64 (cc + 1), m5.l⟩) (by rw [MS.load_at _ 2 (by omega) (by have := HI5.out.len; dsimp only at this ⊢; omega)]; rw [show nth (⟨m5.L, cc, m5.l⟩ : MS).L (Int.toNat 2) = _ from HI5.out.srv])).mono ?_
                  rintro e w9 ⟨rfl, ho, hm⟩
                  have HO10 := Lib.hid (HO9.out.then ho (by have := HF.out; simp; omega))
                  have HM10 := Lib.hid hm
                  have HH10 := Lib.hid (HH9.out.only ho (by have := HG.out; simp; omega) (fun x hx => by have := HG.out.2.2.2.2 x hx; simp; omega))
                  have HW10 := Lib.hid (And.intro (Nat.le_trans HW9.out.1 ho.size) (own_only HW9.out.2 ho (by have := HLT.out; simp; omega)))
                  clear ho hm HO9 HM9 HH9 HW9
                  go_wp2
                  exact ⟨⟨q + 1, _, by omega, by go_num, by rw [E1.out]; go_num, HO10.out, HM10.out, HH10.out, HW10.out.1, HW10.out.2⟩, by simp [intOf]; omega⟩
                · have hs := tstate_at _ (B q) (H5 q) (HH8.out.at_ q hqlt)
                  rw [e] at hs
                  rw [(HI5.out.hold q hqlt e).1] at hs
                  have E1 := Lib.hid (show cnt isHold (q + 1) H5 = cnt isHold q H5 + 1 by rw [cnt]; simp [isHold, e])
                  have HS := Lib.hid hs
                  clear hs e
                  go_wp2_with fail
                  refine HS.out.mono ?_
                  rintro e w8 ⟨rfl, ho⟩
                  have HO9 := Lib.hid (HO8.out.trans ho)
                  have HM9 := Lib.hid (HM8.out.only ho (by simp) (by simp))
                  have HH9 := Lib.hid (HH8.out.only ho (by simp) (fun _ _ => by simp))
                  have HW9 := Lib.hid (And.intro (Nat.le_trans HW8.out.1 ho.size) (own_only HW8.out.2 ho (by simp)))
                  clear ho HO8 HM8 HH8 HW8
                  go_wp2_with fail
                  refine (load_to HM9.out (v := (cnt isGone N H5 : Int)) (er := 0) (m' := ⟨m5.L, wrap64 (cc + 1), m5.l⟩) (by rw [MS.load_at _ 2 (by omega) (by have := HI5.out.len; dsimp only at this ⊢; omega)]; rw [show nth (⟨m5.L, cc, m5.l⟩ : MS).L (Int.toNat 2) = _ from HI5.out.srv])).mono ?_
                  rintro e w9 ⟨rfl, ho, hm⟩
                  have HO10 := Lib.hid (HO9.out.then ho (by have := HF.out; simp; omega))
                  have HM10 := Lib.hid hm
                  have HH10 := Lib.hid (HH9.out.only ho (by have := HG.out; simp; omega) (fun x hx => by have := HG.out.2.2.2.2 x hx; simp; omega))
                  have HW10 := Lib.hid (And.intro (Nat.le_trans HW9.out.1 ho.size) (own_only HW9.out.2 ho (by have := HLT.out; simp; omega)))
                  clear ho hm HO9 HM9 HH9 HW9
                  go_wp2
                  exact ⟨⟨q + 1, _, by omega, by go_num, by rw [E1.out]; go_num, HO10.out, HM10.out, HH10.out, HW10.out.1, HW10.out.2⟩, by simp [intOf]; omega⟩
                · have hs := tstate_at _ (B q) (H5 q) (HH8.out.at_ q hqlt)
                  rw [e] at hs
                  have E1 := Lib.hid (show cnt isHold (q + 1) H5 = cnt isHold q H5 + 0 by rw [cnt]; simp [isHold, e])
                  have HS := Lib.hid hs
                  clear hs e
                  go_wp2_with fail
                  refine HS.out.mono ?_
                  rintro e w8 ⟨rfl, ho⟩
                  have HO9 := Lib.hid (HO8.out.trans ho)
                  have HM9 := Lib.hid (HM8.out.only ho (by simp) (by simp))
                  have HH9 := Lib.hid (HH8.out.only ho (by simp) (fun _ _ => by simp))
                  have HW9 := Lib.hid (And.intro (Nat.le_trans HW8.out.1 ho.size) (own_only HW8.out.2 ho (by simp)))
                  clear ho HO8 HM8 HH8 HW8
                  go_wp2_with fail
                  refine (load_to HM9.out (v := (cnt isGone N H5 : Int)) (er := 0) (m' := ⟨m5.L, wrap64 (cc + 1), m5.l⟩) (by rw [MS.load_at _ 2 (by omega) (by have := HI5.out.len; dsimp only at this ⊢; omega)]; rw [show nth (⟨m5.L, cc, m5.l⟩ : MS).L (Int.toNat 2) = _ from HI5.out.srv])).mono ?_
                  rintro e w9 ⟨rfl, ho, hm⟩
                  have HO10 := Lib.hid (HO9.out.then ho (by have := HF.out; simp; omega))
                  have HM10 := Lib.hid hm
                  have HH10 := Lib.hid (HH9.out.only ho (by have := HG.out; simp; omega) (fun x hx => by have := HG.out.2.2.2.2 x hx; simp; omega))
                  have HW10 := Lib.hid (And.intro (Nat.le_trans HW9.out.1 ho.size) (own_only HW9.out.2 ho (by have := HLT.out; simp; omega)))
                  clear ho hm HO9 HM9 HH9 HW9
                  go_wp2
                  exact ⟨⟨q + 1, _, by omega, by go_num, by rw [E1.out]; go_num, HO10.out, HM10.out, HH10.out, HW10.out.1, HW10.out.2⟩, by simp [intOf]; omega⟩
              · have hqe : q = N := by omega
                subst hqe
                have k4 : ¬ (1 : Int) < (cnt isHold q H5 : Int) := by omega
                go_wp2
                exact ⟨⟨t + 1, _, H5, by omega, by go_num, HO8.out, HM8.out, HH8.out, HI5.out.load rfl, HW8.out.1, HW7.out.2.1, HW8.out.2⟩, by simp [intOf]; omega⟩
    · clear ho hm hH hinv hsz hown
      have h100 := HW3.out.2.1
      rcases HW3.out.2.2.2 with ⟨rfl, hh0⟩ | ⟨g', cap', cur, rfl, hg', hblk, hcap, hmx, hsz', htk⟩
      · have HH0 := Lib.hid hh0
        rw [hh0] at *
        clear hh0
        go_wp2
        go_loopw [23] (fun i wx => ∃ q : Nat, q ≤ 0 ∧ i = .int .i64 q ∧ wr = wx) (fun i _ => 0 - (intOf i).toNat)
        case atStart => exact ⟨0, Nat.zero_le _, rfl, rfl⟩
        case round =>
          obtain ⟨q, hq1, rfl, rfl⟩ := hrel
          by_cases hql : q < 0
          · exact absurd hql (by have := (rfl : (0:Nat) = 0); omega)
          · go_wp2_with fail
            refine (known05 _).mono ?_
            rintro e w9 ⟨rfl, ho⟩
            have HO9 := Lib.hid (HO3.out.trans ho)
            clear ho
            go_wp2
            go_ret
            exact ⟨rfl, HO9.out⟩
      · have hcell : ∀ q, q < held N H → wr.cell? ⟨g', q, none⟩ = some (.int .u64 (q : Int)) := fun q hqq => by
          have hb' : Blk wr g' 27 cur := hblk
          refine hb'.at q ?_
          have : (cur.toList.take (held N H * 1))[q]? = some (.int .u64 (q : Int)) := by rw [htk]; simp [hqq]
          rw [List.getElem?_take_of_lt (by omega)] at this
          simpa using this
        have HC := Lib.hid hcell
        clear hcell hblk hcap hmx hsz' htk hg'
        go_wp2
        go_loopw [23] (fun i wx => ∃ q : Nat, q ≤ held N H ∧ i = .int .i64 q ∧ wr = wx) (fun i _ => held N H - (intOf i).toNat)
        case atStart => exact ⟨0, Nat.zero_le _, rfl, rfl⟩
        case round =>
          obtain ⟨q, hq1, rfl, rfl⟩ := hrel
          by_cases hql : q < held N H
          · have cq := HC.out q hql
            go_wp2
            exact ⟨⟨q + 1, by omega, by go_num, by first | rfl | trivial⟩, by simp [intOf]; omega⟩
          · go_wp2_with fail
            refine (known05 _).mono ?_
            rintro e w9 ⟨rfl, ho⟩
            have HO9 := Lib.hid (HO3.out.trans ho)
            clear ho
            go_wp2
            go_ret
            exact ⟨rfl, HO9.out⟩

end Go.Proofs.Ytabbnfodolekpaa
