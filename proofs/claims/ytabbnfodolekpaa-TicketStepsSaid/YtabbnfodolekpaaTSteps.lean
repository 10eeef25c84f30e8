/- TicketSteps: its walk. -/
import Derived.Test.YtabbnfodolekpaaDuo
import Derived.Deep.DeepCutAuto
import Derived.Deep.CutBlock
import Derived.Deep.RegionHeld3
namespace Go.Proofs.Ytabbnfodolekpaa
open Go.RowKit

theorem next_ex (h : HS) : ∃ k i x y, h.next = ⟨k, i, x, y⟩ := ⟨_, _, _, _, rfl⟩
theorem tnext_to {w : World} {b : Nat} {h : HS} {k i x y : Int} (h0 : 0 ≤ h.at_) (h1 : h.at_ ≤ 65000) (hb : IsH w b h) (hx : h.next = ⟨k, i, x, y⟩) :
    Calls Try.prog 36 #[.pointer (some ⟨b, 0, none⟩)] w fun e w' => e = .returned (.agg #[.int .i64 k, .int .i64 i, .int .u64 x, .int .u64 y]) ∧ Only [] w w' := by
  have := tnext_any w b h h0 h1 hb
  rwa [hx] at this
theorem rtnext_to {w : World} {b : Nat} {h : HS} {k i x y : Int} (h0 : 0 ≤ h.at_) (h1 : h.at_ ≤ 65000) (hb : IsRH w b h) (hx : h.next = ⟨k, i, x, y⟩) :
    Calls Try.prog 38 #[.pointer (some ⟨b, 0, none⟩)] w fun e w' => e = .returned (.agg #[.int .i64 k, .int .i64 i, .int .u64 x, .int .u64 y]) ∧ Only [] w w' := by
  have := rtnext_any w b h h0 h1 hb
  rwa [hx] at this
theorem step_ex (h : HS) (m : MS) : ∃ h' m' st, h.step m = (h', m') ∧ h'.st = st ∧ h'.at_ = h.at_ ∧ m'.L.length = m.L.length := ⟨_, _, _, rfl, rfl, step_at h m, step_len h m⟩
theorem rtstep_to {w : World} {b mb ms : Nat} {h h' : HS} {m m' : MS} {st : Int} (hb : IsRH w b h) (hm : IsRef w mb ms m) (h0 : 0 ≤ h.at_) (h1 : h.at_ ≤ 65000) (hd : b ≠ mb ∧ b ≠ ms) (hs : h.step m = (h', m')) (hst : h'.st = st) :
    Calls Try.prog 39 #[.pointer (some ⟨b, 0, none⟩), .pointer (some ⟨mb, 0, none⟩)] w fun e w' => e = .returned (.int .i64 st) ∧ Only [b, mb, ms] w w' ∧ IsRH w' b h' ∧ IsRef w' mb ms m' := by
  have := rtstep_any w b mb ms h m h0 h1 hd hb hm
  rw [hs] at this
  subst hst
  exact this
theorem leave_ex (h : HS) : ∃ h' ok, h.leave = (h', ok) ∧ h'.at_ = h.at_ := ⟨_, _, rfl, leave_at h⟩
theorem rtleave_to {w : World} {b : Nat} {h h' : HS} {ok : Bool} (hb : IsRH w b h) (hs : h.leave = (h', ok)) : Calls Try.prog 37 #[.pointer (some ⟨b, 0, none⟩)] w fun e w' => e = .returned (.bool ok) ∧ Only [b] w w' ∧ IsRH w' b h' := by
  have := rtleave_any w b h hb
  rwa [hs] at this

theorem cut_12 (L : List Int) (h : L.length = 12) : cutL L 0 12 = L := cut_whole L 12 (by omega) h

/-- What the rounds keep. -/
structure Kept (w0 w : World) (mb ms rb rs g g2 n : Nat) (B C : Nat → Nat) (a : Int) (H : Nat → HS) (m : MS) : Prop where
  duo : Duo w0 w mb ms rb rs g g2 n B C H H m m
  at_ : ∀ k, k < n → (H k).at_ = a
  len : m.L.length = 12

/-- The row of the document's holders while it is made. -/
structure Making (w0 w : World) (mb ms rb rs g n : Nat) (B C : Nat → Nat) (a : Int) (W0 k : Nat) (v : Value) : Prop where
  only : Only [] w0 w
  mem : IsMem w mb ms (MS.new 12)
  ref : IsRef w rb rs (MS.new 12)
  hs : HsAt w g n B (fun _ => ⟨a, 0, 0, false⟩)
  size : W0 ≤ w.heap.size
  own : w.ownsRow W0 73 1 v k ((List.range k).map fun j => .pointer (some ⟨C j, 0, none⟩))
  big : ∀ j, j < k → W0 ≤ C j
  inj : ∀ i j, i < k → j < k → C i = C j → i = j
  at_ : ∀ j, j < k → IsRH w (C j) ⟨a, 0, 0, false⟩

set_option maxHeartbeats 8000000 in
set_option maxRecDepth 100000 in
theorem ticketsteps_walk (w : World) (A : Option Addr) (cap : Nat) (l : List Int) (a n : Int) (a0 : 0 ≤ a) (a1 : a ≤ 255) (h0 : 0 ≤ n) (h1 : n ≤ 255) (hr : ReadsB w A l) (hb : ∀ i, i < l.length → 0 ≤ nth l i ∧ nth l i ≤ 255) (_hl : l.length ≤ 9223372036854775807) :
    Calls Try.prog 13 #[.int .u8 a, .int .u8 n, .slice A l.length cap] w fun e w' => e = .returned (.bool true) ∧ Only [] w w' := by
  obtain ⟨i0, hi0, hz0, hz1, hz2⟩ := info_parts Try.infoRH
  have HI0 := Lib.hid (And.intro hi0 (And.intro hz0 (And.intro hz1 hz2)))
  clear hi0 hz0 hz1 hz2
  have HR := Lib.hid hr
  have HBY := Lib.hid hb
  clear hr hb
  obtain ⟨N, hq⟩ : ∃ N : Nat, 1 + n % 6 = (N : Int) := ⟨(1 + n % 6).toNat, by omega⟩
  have hN1 : 1 ≤ N := by omega
  have hN2 : N ≤ 6 := by omega
  go_enter Try.func13, Try.ntmps13
  go_wp2_with fail
  refine (new_any _ 12 (by omega) (by omega)).mono ?_
  rintro e w1 ⟨mb, ms, rfl, hmb, hms, ho, hm⟩
  have HF := Lib.hid (And.intro hmb hms)
  have HO := Lib.hid ho
  have HM : Hid (IsMem w1 mb ms (MS.new 12)) := Lib.hid hm
  clear hmb hms ho hm
  go_wp2_with fail
  refine (ref_new_in _ 12 (by omega) (by omega)).mono ?_
  rintro e w2 ⟨rb, rs, rfl, hrb, hrs, ho, hm⟩
  have HF2 := Lib.hid (show w.heap.size ≤ rb ∧ w.heap.size ≤ rs ∧ ms ≠ rs from by
    have h1 := HO.out.size
    have h2 := HM.out.lt
    omega)
  have HO := Lib.hid (HO.out.trans ho)
  have HM := Lib.hid (HM.out.only ho (by simp) (by simp))
  have HRf : Hid (IsRef w2 rb rs (MS.new 12)) := Lib.hid hm
  clear hrb hrs ho hm
  go_wp2_with fail
  refine (start_at _ a N (by omega) (by omega) (by omega) (by omega)).mono ?_
  rintro e w3 ⟨g, cp, B, rfl, hg, hB, ho, hH⟩
  rw [Int.toNat_natCast] at *
  obtain ⟨W0, hW0⟩ : ∃ W0 : Nat, W0 = w3.heap.size := ⟨_, rfl⟩
  have HG := Lib.hid (show (∀ k, k < N → w.heap.size ≤ B k) ∧ w.heap.size ≤ W0 from by
    have h1 := HO.out.size
    have h2 := ho.size
    exact ⟨fun k hk => by have := hB k hk; omega, by omega⟩)
  have HK : Hid (Making w w3 mb ms rb rs g N B (fun _ => 0) a W0 0 (.slice none 0 0)) := Lib.hid
    ⟨HO.out.trans ho, HM.out.only ho (by simp) (by simp), HRf.out.only ho (by simp) (by simp), hH, by omega, World.ownsRow_nil _ _ _ _, fun j hj => absurd hj (by omega), fun i j hi => absurd hi (by omega), fun j hj => absurd hj (by omega)⟩
  clear hg hB ho hH HO HM HRf hW0
  by_cases hbig : 300 < l.length
  · go_wp2_with fail
    refine (known05 _).mono ?_
    rintro e w4 ⟨rfl, ho⟩
    have HO3 := Lib.hid (HK.out.only.trans ho)
    clear ho
    go_wp2
    go_ret
    exact ⟨rfl, HO3.out⟩
  go_wp2
  go_loopw [14, 15] (fun v i wr => ∃ (k : Nat) (C : Nat → Nat), k ≤ N ∧ i = .int .i64 k ∧ Making w wr mb ms rb rs g N B C a W0 k v) (fun _ i _ => N - (intOf i).toNat)
  case atStart => exact ⟨0, _, Nat.zero_le _, rfl, HK.out⟩
  case round =>
    clear HK
    obtain ⟨k, C, hk, rfl, hmk⟩ := hrel
    have HK := Lib.hid hmk
    clear hmk
    by_cases hlt : k < N
    · have HW1 := Lib.hid ((HK.out.own.alloc (.cells #[.int .i64 a, .int .i64 0, .int .u64 0, .bool false] 75)).alloc (.cells #[.pointer (some ⟨wr.heap.size, 0, none⟩)] 73))
      go_wp2_with (at_builtin; refine wpList_append_own _ rfl (.tmp 71) (.tmp 76) 72 rfl W0 73 i0 (.pointer none) 1 8 Try.underlying72 HI0.out.1 HI0.out.2.1 HI0.out.2.2.1 HI0.out.2.2.2 rfl (by decide) _ k _ rfl HW1.out ⟨wr.heap.size + 1, 0, none⟩ 1 1 [.pointer (some ⟨wr.heap.size, 0, none⟩)] rfl rfl ?hn ?h1 ?h63 ?hb ?hbase ?_)
      case hn => intro j u hj; match j, hj with | 0, hj => simp at hj; subst hj; simp [Addr.add]
      case h1 => intro u hu; simp at hu; subst hu; rfl
      case h63 => unfold maxLen; omega
      case hb => omega
      case hbase => have := HK.out.size; simp; omega
      intro v' w5 hown2 hg2 _
      have HW2 := Lib.hid hown2
      have HG2 := Lib.hid hg2
      clear hown2 hg2
      go_wp2
      have hG := HG2.out
      have hW1 := HW1.out
      have o1 : Only [] wr ((wr.alloc (.cells #[.int .i64 a, .int .i64 0, .int .u64 0, .bool false] 75)).alloc (.cells #[.pointer (some ⟨wr.heap.size, 0, none⟩)] 73)) := ((Only.refl _ _).alloc _).alloc _
      have hnew := (Blk.new wr 75 #[.int .i64 a, .int .i64 0, .int .u64 0, .bool false]).alloc (.cells #[.pointer (some ⟨wr.heap.size, 0, none⟩)] 73)
      have hmk := HK.out
      have hClt : ∀ j, j < k → C j < wr.heap.size := fun j hj => Blk.lt (hmk.at_ j hj)
      have hW0 : w.heap.size ≤ W0 := HG.out.2
      have hm2 : IsMem w5 mb ms (MS.new 12) := by
        have h := hmk.mem.only o1 (by simp) (by simp)
        exact ⟨grown_keeps hW1 hG h.obj (by decide), grown_keeps hW1 hG h.row (by decide), h.len, h.max⟩
      have hr2 : IsRef w5 rb rs (MS.new 12) := by
        have h := hmk.ref.only o1 (by simp) (by simp)
        exact ⟨grown_keeps hW1 hG h.obj (by decide), grown_keeps hW1 hG h.row (by decide), h.len, h.max⟩
      have hh2 : HsAt w5 g N B (fun _ => ⟨a, 0, 0, false⟩) := by
        have h := hmk.hs.only o1 (by simp) (fun _ _ => by simp)
        obtain ⟨cur, hb, hc⟩ := h.row
        exact ⟨⟨cur, grown_keeps hW1 hG hb (by decide), hc⟩, h.inj, fun j hj => grown_keeps hW1 hG (h.at_ j hj) (by decide)⟩
      refine ⟨⟨k + 1, fun j => if j = k then wr.heap.size else C j, by omega, by go_num, (hmk.only.trans o1).grown hG (fun x hx => .inr (by have := hW1.lt x hx; omega)), hm2, hr2, hh2, ?_, ?_, ?_, ?_, ?_⟩, by simp [intOf]; omega⟩
      · have := hmk.size
        have := o1.size
        have := hG.size
        omega
      · have e : (List.range (k + 1)).map (fun j => Value.pointer (some ⟨if j = k then wr.heap.size else C j, 0, none⟩)) = (List.range k).map (fun j => Value.pointer (some ⟨C j, 0, none⟩)) ++ [.pointer (some ⟨wr.heap.size, 0, none⟩)] := by
          rw [List.range_succ, List.map_append]
          congr 1
          · refine List.map_congr_left fun j hj => ?_
            rw [if_neg (by have := List.mem_range.1 hj; omega)]
          · simp
        rw [e]
        exact HW2.out
      · intro j hj
        by_cases e : j = k
        · simp only [e, if_true]
          exact hmk.size
        · simp only [e, if_false]
          exact hmk.big j (by omega)
      · intro i j hi hj
        by_cases e1 : i = k <;> by_cases e2 : j = k <;> simp only [e1, e2, if_true, if_false]
        · exact fun _ => trivial
        · intro e
          have := hClt j (by omega)
          omega
        · intro e
          have := hClt i (by omega)
          omega
        · exact fun e => hmk.inj i j (by omega) (by omega) e
      · intro j hj
        by_cases e : j = k
        · simp only [e, if_true]
          exact grown_keeps hW1 hG hnew (by decide)
        · simp only [e, if_false]
          exact grown_keeps hW1 hG (Blk.only (hmk.at_ j (by omega)) o1 (by simp)) (by decide)
    · have hkn : k = N := by omega
      subst hkn
      obtain ⟨g2, cap2, cur, rfl, hg2, hblk, hc⟩ := own_cells HK.out.own (by omega)
      have HQ : Hid (Kept w wr mb ms rb rs g g2 k B C a (fun _ => ⟨a, 0, 0, false⟩) (MS.new 12)) := Lib.hid (by
        have h := HK.out
        have h1 := HF.out
        have h2 := HF2.out
        have h3 := HG.out
        exact ⟨⟨h.only, h.mem, h.ref, h.hs, ⟨⟨cur, hblk, hc⟩, h.inj, h.at_⟩, h1.1, h1.2, h2.1, h2.2.1, h3.1, fun j hj => Nat.le_trans h3.2 (h.big j hj), h2.2.2⟩, fun _ _ => rfl, by simp [MS.new]⟩)
      clear HK hg2 hblk hc HI0 HG HF HF2
      go_wp2
      go_loopw [16] (fun i wr => ∃ (t : Nat) (H : Nat → HS) (m : MS), t ≤ l.length ∧ i = .int .i64 t ∧ Kept w wr mb ms rb rs g g2 k B C a H m) (fun i _ => l.length - (intOf i).toNat)
      case atStart => exact ⟨0, _, _, Nat.zero_le _, rfl, HQ.out⟩
      case round =>
        clear HQ
        obtain ⟨t, H, m, ht, rfl, hkp⟩ := hrel
        have HQ := Lib.hid hkp
        clear hkp
        by_cases hlt : t < l.length
        · obtain ⟨go, o, hgo, rfl, hc⟩ := HR.out.at hlt
          have d1 := (HQ.out.duo.only.cell (p := ⟨go, o + t, none⟩) hgo (by simp)).trans (hc t hlt)
          have hby := HBY.out t hlt
          have p0 : 0 ≤ nth l t := hby.1
          have p1 : nth l t ≤ 255 := hby.2
          clear hc hgo hby
          obtain ⟨j, hj⟩ : ∃ j : Nat, nth l t / 4 % (k : Int) = (j : Int) := ⟨(nth l t / 4 % (k : Int)).toNat, by rw [Int.toNat_of_nonneg (Int.emod_nonneg _ (by omega))]⟩
          have hjk : j < k := by have := Int.emod_lt_of_pos (nth l t / 4) (show (0 : Int) < k by omega); omega
          have hji : (j : Int) < (k : Int) := by omega
          have hjz : (0 : Int) ≤ (j : Int) := by omega
          have HAT := Lib.hid (HQ.out.at_ j hjk)
          have HD := Lib.hid HQ.out.duo
          go_upto_if 97 with fail
          go_cut [17] (fun x wx => x = .int .i64 j ∧ ∃ (H : Nat → HS) (m : MS), Kept w wx mb ms rb rs g g2 k B C a H m)
          case first =>
            by_cases hpick : nth l t % 4 = 0
            · as_aux_lemma =>
                have hp1 : (nth l t % 4 == 0) = true := by simpa using hpick
                clear hpick
                obtain ⟨h', ok, hst, hat⟩ := leave_ex (H j)
                have HST := Lib.hid hst
                have HAT2 := Lib.hid hat
                clear hst hat
                go_upto_region 17 with fail
                have HD := Lib.hid (HD.out.quiet (Only.refl [] _).drew)
                go_region_held3 (fun w' => w'.cell? ⟨g, j, none⟩ = some (.pointer (some ⟨B j, 0, none⟩)) ∧ w'.cell? ⟨g2, j, none⟩ = some (.pointer (some ⟨C j, 0, none⟩))) (exact ⟨HD.out.hs.cell hjk, HD.out.ys.cell hjk⟩)
                  (first
                    | (go_at_call 34; refine (tleave_to (HD.out.hs.at_ j hjk) HST.out).mono ?_; rintro e w5 ⟨rfl, ho, hh⟩; have HD := Lib.hid (HD.out.leaveH hjk ho hh); clear ho hh)
                    | (go_at_call 37; refine (rtleave_to (HD.out.ys.at_ j hjk) HST.out).mono ?_; rintro e w5 ⟨rfl, ho, hh⟩; have HD := Lib.hid (HD.out.leaveK hjk ho hh); clear ho hh))
                all_goals
                  go_wp2_with fail
                  go_meet
                  exact ⟨rfl, _, _, HD.out, fun i hi => by unfold upd; split; exact HAT2.out.trans HAT.out; exact HQ.out.at_ i hi, HQ.out.len⟩
            · as_aux_lemma =>
                have hp1 : (nth l t % 4 == 0) = false := by simpa using hpick
                clear hpick
                obtain ⟨xk, xi, xa, xb, hnx⟩ := next_ex (H j)
                obtain ⟨h', m', st, hst, hst2, hat, hln⟩ := step_ex (H j) m
                have HNX := Lib.hid hnx
                have HST := Lib.hid hst
                have HST2 := Lib.hid hst2
                have HAT2 := Lib.hid hat
                have HLN := Lib.hid hln
                have HA0 : Hid (0 ≤ (H j).at_ ∧ (H j).at_ ≤ 65000) := Lib.hid (by rw [HAT.out]; omega)
                clear hnx hst hst2 hat hln
                go_upto_region 19 with fail
                have HD := Lib.hid (HD.out.quiet (Only.refl [] _).drew)
                go_region_held3 (fun w' => w'.cell? ⟨g, j, none⟩ = some (.pointer (some ⟨B j, 0, none⟩)) ∧ w'.cell? ⟨g2, j, none⟩ = some (.pointer (some ⟨C j, 0, none⟩))) (exact ⟨HD.out.hs.cell hjk, HD.out.ys.cell hjk⟩)
                  (first
                    | (go_at_call 36; refine (tnext_to HA0.out.1 HA0.out.2 (HD.out.hs.at_ j hjk) HNX.out).mono ?_; rintro e w5 ⟨rfl, ho⟩; have HD := Lib.hid (HD.out.quiet ho); clear ho)
                    | (go_at_call 38; refine (rtnext_to HA0.out.1 HA0.out.2 (HD.out.ys.at_ j hjk) HNX.out).mono ?_; rintro e w5 ⟨rfl, ho⟩; have HD := Lib.hid (HD.out.quiet ho); clear ho)
                    | (go_at_call 35; refine (tstep_to (HD.out.hs.at_ j hjk) HD.out.mem HA0.out.1 HA0.out.2 (HD.out.farB hjk) HST.out HST2.out).mono ?_; rintro e w5 ⟨rfl, ho, hh, hm⟩; have HD := Lib.hid (HD.out.stepH hjk ho hh hm); clear ho hh hm)
                    | (go_at_call 39; refine (rtstep_to (HD.out.ys.at_ j hjk) HD.out.ref HA0.out.1 HA0.out.2 (HD.out.farC hjk) HST.out HST2.out).mono ?_; rintro e w5 ⟨rfl, ho, hh, hm⟩; have HD := Lib.hid (HD.out.stepK hjk ho hh hm); clear ho hh hm))
                all_goals
                  go_wp2_with fail
                  go_meet
                  exact ⟨rfl, _, _, HD.out, fun i hi => by unfold upd; split; exact HAT2.out.trans HAT.out; exact HQ.out.at_ i hi, HLN.out.trans HQ.out.len⟩
          case rest =>
            as_aux_lemma =>
              clear HQ HD HAT
              obtain ⟨rfl, H, m, hkp⟩ := hcut
              have HQ := Lib.hid hkp
              clear hkp
              have ck := HQ.out.duo.hs.cell hjk
              go_wp2_with fail
              refine (tstate_at _ (B j) (H j) (HQ.out.duo.hs.at_ j hjk)).mono ?_
              rintro e w5 ⟨rfl, ho⟩
              have HD := Lib.hid (HQ.out.duo.quiet ho)
              clear ho ck
              go_upto_region 22 with fail
              have HD := Lib.hid (HD.out.quiet (Only.refl [] _).drew)
              have HL : Hid (∀ wx : World, Duo w wx mb ms rb rs g g2 k B C H H m m → wx.cell? ⟨rb, 0, none⟩ = some (.slice (some ⟨rs, 0, none⟩) 12 12)) := Lib.hid (fun wx h => by have := h.ref.c0; rw [HQ.out.len] at this; exact this)
              go_region_held3 (fun w' => w'.cell? ⟨g2, j, none⟩ = some (.pointer (some ⟨C j, 0, none⟩)) ∧ w'.cell? ⟨C j, 1, none⟩ = some (.int .i64 (H j).st) ∧ w'.cell? ⟨C j, 2, none⟩ = some (.int .u64 (H j).tk) ∧ w'.cell? ⟨rb, 0, none⟩ = some (.slice (some ⟨rs, 0, none⟩) 12 12))
                (exact ⟨HD.out.ys.cell hjk, Blk.at (HD.out.ys.at_ j hjk) 1 rfl, Blk.at (HD.out.ys.at_ j hjk) 2 rfl, HL.out _ HD.out⟩)
                (first
                  | (go_at_call 21; refine (words_any _ mb ms m.L m.c m.l 0 12 HD.out.mem).mono ?_; rintro e w7 ⟨v1, rfl, ho, hv⟩; have HR1 := Lib.hid (hv.isRow (by rw [cut_12 m.L HQ.out.len, HQ.out.len]; omega)); have HD := Lib.hid (HD.out.quiet ho); clear ho hv)
                  | (go_at_call 20; refine (eqw_alike _ _ _ m.L (by have h := HR1.out; rw [cut_12 m.L HQ.out.len] at h; exact h) (IsRow.of_blk HD.out.ref.row rfl 12 HQ.out.len.symm (by have := HQ.out.len; omega))).mono ?_; rintro e w7 ⟨rfl, ho⟩; have HD := Lib.hid (HD.out.quiet ho); clear ho))
              all_goals
                go_wp2_with fail
                exact ⟨⟨t + 1, H, m, by omega, by go_num, HD.out, HQ.out.at_, HQ.out.len⟩, by simp [intOf]; omega⟩
        · go_wp2_with fail
          refine (known05 _).mono ?_
          rintro e w4 ⟨rfl, ho⟩
          have HO3 := Lib.hid (HQ.out.duo.only.trans ho)
          clear ho
          go_wp2
          go_ret
          exact ⟨rfl, HO3.out⟩

end Go.Proofs.Ytabbnfodolekpaa
