/- The walk of law DequeOnce. Written by doncew.py. -/
import Derived.Test.YtoecoijmkjhkgaaDonceV
namespace Go.Proofs.Ytoecoijmkjhkgaa
open Go.RowKit

section
variable {w wr w1 w' : World} {mb ms xb hb lb n N : Nat} {cs : Array Value} {m m' : MS} {t : Nat → Tk} {pops : Bool} {at_ : Nat} {had : List Int} {pushed taken : Nat} {r : Nat}

theorem W7.base (h : W7 w wr mb ms xb hb lb n N cs r) : Only [] w wr ∧ Blk wr w.heap.size 58 cs ∧ wr.cell? ⟨xb, 12, none⟩ = some (.bool false) ∧ r ≤ 7 := by
  obtain ⟨m, t, pops, at_, had, pushed, taken, hw, hd, hp, hrk⟩ := h
  refine ⟨hw.out, hw.case_, hw.obj.at 12 rfl, ?_⟩
  rw [← hrk]
  unfold rank
  split <;> omega

/-- A task apart runs. -/
theorem WSt.other (h : WSt w wr mb ms xb hb lb n N cs m t pops at_ had pushed taken) (o1 : Only [] wr w1) {b kb : Nat} {s : DQ} (hq : IsD w1 b kb s) (hb0 : wr.heap.size ≤ b) (hkb0 : wr.heap.size ≤ kb) (o : Only [b, kb, mb, ms] w1 w') (hm : IsMem w' mb ms m') (hr : m'.drng) :
    WSt w w' mb ms xb hb lb n N cs m' t pops at_ had pushed taken := by
  have h1 := h.quiet o1
  have hl := h.lo
  have hz : w.heap.size ≤ wr.heap.size := h.out.size
  have m1 := h1.mem.obj
  have m2 := h1.mem.row
  have far : ∀ {y ty : Nat} {c : Array Value}, Blk w1 y ty c → ty ≠ 126 → ty ≠ 122 → ty ≠ 116 → ty ≠ 119 → ty ≠ 102 → ty ≠ 38 → y ∉ [b, kb, mb, ms] := fun hb e1 e2 e3 e4 e5 e6 => by
    have h1 := hb.ne hq.obj e1
    have h2 := hb.ne hq.kind (dkT_not' e2 e3 e4)
    have h3 := hb.ne m1 e5
    have h4 := hb.ne m2 e6
    simp; omega
  refine ⟨h1.out.then o (by simp; omega), h.lo, h1.case_.only o (far h1.case_ (by decide) (by decide) (by decide) (by decide) (by decide) (by decide)), h1.lock.only o (far h1.lock (by decide) (by decide) (by decide) (by decide) (by decide) (by decide)), hm, hr, h1.obj.only o (far h1.obj (by decide) (by decide) (by decide) (by decide) (by decide) (by decide)), h1.row.only o (far h1.row (by decide) (by decide) (by decide) (by decide) (by decide) (by decide)), fun j hj b' kb' s'' e' => ?_, h.dis⟩
  obtain ⟨hq', l3, l4⟩ := h1.is j hj b' kb' s'' e'
  have g1 := (h.is j hj b' kb' s'' e').1.obj.lt
  have g2 := (h.is j hj b' kb' s'' e').1.kind.lt
  refine ⟨hq'.only o ?_ ?_, l3, l4⟩
  · have h2 : b' ≠ kb := hq'.obj.ne hq.kind (dkT_not' (by decide) (by decide) (by decide))
    have h3 := hq'.obj.ne m1 (by decide)
    have h4 := hq'.obj.ne m2 (by decide)
    simp; omega
  · have h2 : b ≠ kb' := hq.obj.ne hq'.kind (dkT_not' (by decide) (by decide) (by decide))
    have h3 : mb ≠ kb' := m1.ne hq'.kind (dkT_not' (by decide) (by decide) (by decide))
    have h4 : ms ≠ kb' := m2.ne hq'.kind (dkT_not' (by decide) (by decide) (by decide))
    simp; omega

theorem once7_start (n1 : 1 ≤ n) (n4 : n ≤ 4) (hN : N ≤ 20) : DInv n N (MS.new 20).L none 0 (fun _ => none) (List.replicate N 0) 0 0 := by
  have hz : ∀ i, nth (List.replicate N (0 : Int)) i = 0 := fun i => by
    by_cases hi : i < N
    · simp [nth, hi]
    · simp [nth, hi]
  refine ⟨0, 0, _, fun _ => 0, _, _, _, _, ⟨⟨n1, n4, by simp [MS.new], rfl, rfl, Nat.le_refl _, by omega, fun p h1 h2 => by omega⟩, ⟨by simp, fun i _ => .inl (hz i), by omega, fun i _ _ => hz i, fun p h1 h2 => by omega, fun p r h1 h2 => by omega, fun i hi => (by cases hi), rfl, Nat.le_refl _, Nat.le_refl _⟩, .none, fun k _ => .none, hN⟩⟩
end

set_option maxHeartbeats 8000000 in
set_option maxRecDepth 100000 in
theorem dequeonce_walk (w : World) (a s th wd : Int) (A2 : Option Addr) (l2 : List Int) (cap2 : Nat) (A4 : Option Addr) (l : List Int) (cap4 : Nat) (s0 : 0 ≤ s) (s1 : s ≤ 255) (hr2 : ReadsB w A2 l2) (hby2 : ∀ i, i < l2.length → 0 ≤ nth l2 i ∧ nth l2 i ≤ 255) (hr4 : ReadsB w A4 l) (hby : ∀ i, i < l.length → 0 ≤ nth l i ∧ nth l i ≤ 255) :
    Calls Try.prog 7 #[.agg #[.int .u8 a, .int .u8 s, .slice A2 l2.length cap2, .int .u8 th, .slice A4 l.length cap4, .int .u8 wd]] w fun e w' => e = .returned (.bool true) ∧ Only [] w w' := by
  have HB := Lib.hid (Blk.new w 58 #[.int .u8 a, .int .u8 s, .slice A2 l2.length cap2, .int .u8 th, .slice A4 l.length cap4, .int .u8 wd])
  have HO := Lib.hid ((Only.refl [] w).alloc (.cells #[.int .u8 a, .int .u8 s, .slice A2 l2.length cap2, .int .u8 th, .slice A4 l.length cap4, .int .u8 wd] 58))
  have HR2 := Lib.hid hr2
  have HBY2 := Lib.hid hby2
  have HR4 := Lib.hid hr4
  have HBY := Lib.hid hby
  clear hr4 hby hr2 hby2
  obtain ⟨n, hq⟩ : ∃ n : Nat, 1 + s % 4 = (n : Int) := ⟨(1 + s % 4).toNat, by omega⟩
  have n1 : 1 ≤ n := by omega
  have n4 : n ≤ 4 := by omega
  go_enter Try.func7, Try.ntmps7
  have c2 := HB.out.at 2 (v := .slice A2 l2.length cap2) rfl
  have c4 := HB.out.at 4 (v := .slice A4 l.length cap4) rfl
  by_cases hn2 : 20 < l2.length
  · have hn2i : (20 : Int) < l2.length := by omega
    go_wp2_with fail
    refine (known07 _).mono ?_
    rintro e w2 ⟨rfl, ho⟩
    have HO := Lib.hid (HO.out.trans ho)
    clear ho
    go_wp2_with fail
    go_ret
    exact ⟨rfl, HO.out⟩
  have hn2i : ¬ (20 : Int) < l2.length := by omega
  by_cases hl4 : 300 < l.length
  · have hl4i : (300 : Int) < l.length := by omega
    go_wp2_with fail
    refine (known07 _).mono ?_
    rintro e w2 ⟨rfl, ho⟩
    have HO := Lib.hid (HO.out.trans ho)
    clear ho
    go_wp2_with fail
    go_ret
    exact ⟨rfl, HO.out⟩
  have hl4i : ¬ (300 : Int) < l.length := by omega
  have hn2 : l2.length ≤ 20 := by omega
  have hl4 : l.length ≤ 300 := by omega
  have c1 := HB.out.at 1 (v := .int .u8 s) rfl
  go_wp2_with fail
  refine (new_any _ 20 (by omega) (by omega)).mono ?_
  rintro e w1 ⟨mb, ms, rfl, hmb, hms, ho, hm⟩
  have HN := Lib.hid (show w.heap.size ≤ mb ∧ w.heap.size ≤ ms from by have := HO.out.size; omega)
  have HX := Lib.hid ((Only.refl [] w1).alloc (.cells #[.int .i64 3, .int .i64 n] 59))
  have HO := Lib.hid ((HO.out.trans ho).trans HX.out)
  have HB := Lib.hid ((HB.out.only ho (by simp)).only HX.out (by simp))
  have HM : Hid (IsMem (w1.alloc (.cells #[.int .i64 3, .int .i64 n] 59)) mb ms (MS.new 20)) := Lib.hid (hm.dsame HX.out)
  have HL := Lib.hid (Blk.new w1 59 #[.int .i64 3, .int .i64 n])
  obtain ⟨lb, hlb⟩ : ∃ lb, w1.heap.size = lb := ⟨_, rfl⟩
  rw [hlb] at HL
  obtain ⟨w2, hw2⟩ : ∃ w2, w1.alloc (.cells #[.int .i64 3, .int .i64 n] 59) = w2 := ⟨_, rfl⟩
  rw [hw2] at HO HB HM HL
  have HW2 := Lib.hid (And.intro hlb hw2)
  clear hmb hms ho hm c1 c2 c4 HX hlb hw2
  go_upto_region 8 with fail
  obtain ⟨hlb, hw2⟩ := HW2.out
  rw [hw2, hlb]
  clear hlb hw2 HW2
  have HO := Lib.hid (HO.out.trans (Only.refl [] _).drew)
  have HB := Lib.hid (HB.out.only (Only.refl [] w2).drew (by simp))
  have HM := Lib.hid (HM.out.dsame (Only.refl [] w2).drew)
  have HL := Lib.hid (HL.out.only (Only.refl [] w2).drew (by simp))
  have hmk := mkI l2.length (by omega)
  have HF : Hid (∀ wx, Only [] w2.drew wx → wx.cell? ⟨w.heap.size, 2, none⟩ = some (.slice A2 l2.length cap2) ∧ wx.cell? ⟨lb, 0, none⟩ = some (.int .i64 3) ∧ wx.cell? ⟨lb, 1, none⟩ = some (.int .i64 n)) := Lib.hid fun wx o => ⟨(HB.out.only o (by simp)).at 2 rfl, (HL.out.only o (by simp)).at 0 rfl, (HL.out.only o (by simp)).at 1 rfl⟩
  go_region_held3 (fun w' => w'.cell? ⟨w.heap.size, 2, none⟩ = some (.slice A2 l2.length cap2) ∧ w'.cell? ⟨lb, 0, none⟩ = some (.int .i64 3) ∧ w'.cell? ⟨lb, 1, none⟩ = some (.int .i64 n))
    (first | exact HF.out _ (Only.refl [] _) | exact HF.out _ ((Only.refl [] _).alloc _) | exact HF.out _ (((Only.refl [] _).alloc _).alloc _))
    (fail)
  have HW : Hid (W7 w ((w2.alloc (.cells (icells (List.replicate l2.length 0)) 3)).alloc (.cells (wCells mb n (.pointer none) false 0 (.pointer none) (.pointer none) (.pointer none) w2.heap.size l2.length 0 0) 64)).drew mb ms (w2.heap.size + 1) w2.heap.size lb n l2.length #[.int .u8 a, .int .u8 s, .slice A2 l2.length cap2, .int .u8 th, .slice A4 l.length cap4, .int .u8 wd] 0) := by
    have o2 : Only [] w2.drew ((w2.alloc (.cells (icells (List.replicate l2.length 0)) 3)).alloc (.cells (wCells mb n (.pointer none) false 0 (.pointer none) (.pointer none) (.pointer none) w2.heap.size l2.length 0 0) 64)).drew := ((Only.refl [] w2.drew).alloc (.cells (icells (List.replicate l2.length 0)) 3)).alloc (.cells (wCells mb n (.pointer none) false 0 (.pointer none) (.pointer none) (.pointer none) w2.heap.size l2.length 0 0) 64)
    have hs := HO.out.size
    simp at hs
    exact Lib.hid ⟨MS.new 20, fun _ => none, false, 0, _, 0, 0, ⟨HO.out.trans o2, ⟨HN.out.1, HN.out.2, by omega, by omega⟩, HB.out.only o2 (by simp), HL.out.only o2 (by simp), HM.out.dsame o2, dnew_rng 20, Blk.new' (w2.alloc (.cells (icells (List.replicate l2.length 0)) 3)) _ _ (by simp), (Blk.new w2 _ _).alloc _, fun k _ b kb s e => (by cases e), fun i j _ _ _ b kb s b' kb' s' e => (by cases e)⟩, once7_start n1 n4 hn2, fun b kb s e => (by cases e), rfl⟩
  have hlt := HN.out
  obtain ⟨xb, hxb⟩ : ∃ xb, w2.heap.size + 1 = xb := ⟨_, rfl⟩
  obtain ⟨hb, hhb⟩ : ∃ hb, w2.heap.size = hb := ⟨_, rfl⟩
  rw [hxb] at HW ⊢
  have HHB : Hid (∃ hb, W7 w ((w2.alloc (.cells (icells (List.replicate l2.length 0)) 3)).alloc (.cells (wCells mb n (.pointer none) false 0 (.pointer none) (.pointer none) (.pointer none) w2.heap.size l2.length 0 0) 64)).drew mb ms xb hb lb n l2.length #[.int .u8 a, .int .u8 s, .slice A2 l2.length cap2, .int .u8 th, .slice A4 l.length cap4, .int .u8 wd] 0) := Lib.hid ⟨_, HW.out⟩
  obtain ⟨hb', HW'⟩ := HHB.out
  have HW := Lib.hid HW'
  clear HO HB HM HL HN HF hmk hhb HHB HW' hlt
  go_wp2_with fail
  go_loopw [8] (fun i wr => ∃ (t r : Nat), t ≤ l.length ∧ i = .int .i64 t ∧ W7 w wr mb ms xb hb' lb n l2.length #[.int .u8 a, .int .u8 s, .slice A2 l2.length cap2, .int .u8 th, .slice A4 l.length cap4, .int .u8 wd] r) (fun i _ => l.length - (intOf i).toNat)
  case atStart => exact ⟨0, _, by omega, rfl, HW.out⟩
  case round =>
    clear HW
    obtain ⟨wo, hwo⟩ : ∃ wo, wo = wr := ⟨_, rfl⟩
    subst hwo
    obtain ⟨t, r, ht, rfl, hw7⟩ := hrel
    obtain ⟨ho7, hc7, _, _⟩ := hw7.base
    have HW := Lib.hid hw7
    have HOW := Lib.hid ho7
    have c4 := hc7.at 4 (v := .slice A4 l.length cap4) rfl
    clear hw7 ho7
    by_cases hlt : t < l.length
    · have hlti : (t : Int) < l.length := by omega
      obtain ⟨go, o4, hgo, rfl, hc⟩ := HR4.out.at hlt
      have d1 := (HOW.out.cell (p := ⟨go, o4 + t, none⟩) hgo (by simp)).trans (hc t hlt)
      have hb := HBY.out t hlt
      have p0 : 0 ≤ nth l t := hb.1
      have p1 : nth l t ≤ 255 := hb.2
      clear hb hc hgo
      obtain ⟨j, hj⟩ : ∃ j : Nat, nth l t % 4 = (j : Int) := ⟨(nth l t % 4).toNat, by omega⟩
      have hjk : j < 4 := by omega
      by_cases h3 : j = 3
      · have h3b : ((j : Int) == 3) = true := by simp; omega
        have c2 := hc7.at 2 (v := .slice A2 l2.length cap2) rfl
        clear hc7 h3
        go_wp2_with fail
        refine (owner7 HW.out A2 l2 cap2 HR2.out (Nat.le_refl _) HBY2.out).mono ?_
        rintro e w4 ⟨rfl, r', hw, _⟩
        have HW := Lib.hid hw
        have c12 := hw.base.2.2.1
        clear hw c4 d1 c2 hj
        go_wp2_with fail
        exact ⟨⟨t + 1, r', by omega, by go_num, HW.out⟩, by simp [intOf]; omega⟩
      · have h3b : ((j : Int) == 3) = false := by simp; omega
        have hj3 : j < 3 := by omega
        clear hc7 h3
        go_wp2_with fail
        refine (thief7 HW.out j hj3).mono ?_
        rintro e w4 ⟨rfl, hw⟩
        have HW := Lib.hid hw
        have c12 := hw.base.2.2.1
        clear hw c4 d1 hj
        go_wp2_with fail
        exact ⟨⟨t + 1, r, by omega, by go_num, HW.out⟩, by simp [intOf]; omega⟩
    · have hlti : ¬ (t : Int) < l.length := by omega
      have HR : Hid (r ≤ 7) := Lib.hid HW.out.base.2.2.2
      clear HOW hc7
      go_wp2_with fail
      go_loopw [10] (fun i wr => ∃ (t r : Nat), t ≤ 200 ∧ i = .int .i64 t ∧ W7 w wr mb ms xb hb' lb n l2.length #[.int .u8 a, .int .u8 s, .slice A2 l2.length cap2, .int .u8 th, .slice A4 l.length cap4, .int .u8 wd] r ∧ r ≤ 7 - t) (fun i _ => 200 - (intOf i).toNat)
      case atStart => exact ⟨0, _, by omega, rfl, HW.out, HR.out⟩
      case round =>
        clear HW HR
        obtain ⟨wo, hwo⟩ : ∃ wo, wo = wr := ⟨_, rfl⟩
        subst hwo
        obtain ⟨t, r, ht, rfl, hw7, hrr⟩ := hrel
        have HW := Lib.hid hw7
        have HR := Lib.hid hrr
        clear hw7 hrr
        by_cases hlt : t < 200
        · have hlti : (t : Int) < 200 := by omega
          obtain ⟨j, hj⟩ : ∃ j : Nat, (t : Int) % 3 = (j : Int) := ⟨t % 3, by omega⟩
          have hj3 : j < 3 := by omega
          go_wp2_with fail
          refine (owner7 HW.out none [] 0 (.inl rfl) (by simp) (fun i hi => by simp at hi)).mono ?_
          rintro e w4 ⟨rfl, r', hw, hr'⟩
          have HW := Lib.hid hw
          have HR : Hid (r' ≤ 7 - (t + 1)) := Lib.hid (by have := HR.out; rcases hr' rfl with e | e <;> omega)
          clear hw hr'
          go_wp2_with fail
          refine (thief7 HW.out j hj3).mono ?_
          rintro e w5 ⟨rfl, hw⟩
          have HW := Lib.hid hw
          clear hw hj
          go_wp2_with fail
          exact ⟨⟨t + 1, r', by omega, by go_num, HW.out, HR.out⟩, by simp [intOf]; omega⟩
        · have hlti : ¬ (t : Int) < 200 := by omega
          obtain ⟨m, tk, pops, at_, had, pushed, taken, hw, hd, hp, hrk⟩ := HW.out
          have hnone : stOf (tk 3) = none := rank_none hd (by have := HR.out; omega)
          rw [hnone] at hd
          obtain ⟨h7, is, k1, k2, k3, hdr⟩ := hd.rest
          have HS := Lib.hid hw
          have HD := Lib.hid hdr
          have HK := Lib.hid (And.intro k1 k2)
          have HPU := Lib.hid hd.bounds.2.2.2.2
          have hR : dequeRight 3 n := ⟨⟨by omega, by omega⟩, by omega, by omega⟩
          have HRT := Lib.hid hR
          clear HW HR hw hd hp hrk hnone hdr k1 k2 k3 hR
          go_wp2_with fail
          go_loopw [11] (fun i wr => ∃ (k h7 : Nat) (is : List Nat) (m : MS) (had : List Int) (taken : Nat), k ≤ 10 ∧ i = .int .i64 k ∧ WSt w wr mb ms xb hb' lb n l2.length #[.int .u8 a, .int .u8 s, .slice A2 l2.length cap2, .int .u8 th, .slice A4 l.length cap4, .int .u8 wd] m tk pops at_ had pushed taken ∧ DRest n l2.length m.L had pushed taken h7 is ∧ is.length ≤ 4 - k ∧ h7 ≤ 20 + k ∧ taken + is.length ≤ 100) (fun i _ => 10 - (intOf i).toNat)
          case atStart => exact ⟨0, h7, is, m, had, taken, by omega, rfl, HS.out, HD.out, HK.out.2, HK.out.1, by have := HD.out.cnt; have := HPU.out; omega⟩
          case round =>
            clear HS HD HK HPU
            obtain ⟨wo, hwo⟩ : ∃ wo, wo = wr := ⟨_, rfl⟩
            subst hwo
            obtain ⟨k, h7, is, m, had, taken, hk, rfl, hst, hdr, k1, k2, k3⟩ := hrel
            have HS := Lib.hid hst
            have HD := Lib.hid hdr
            have HK := Lib.hid (And.intro k1 (And.intro k2 k3))
            have q0 := hst.lock.at 0 (v := .int .i64 3) rfl
            have q1 := hst.lock.at 1 (v := .int .i64 n) rfl
            clear hst hdr k1 k2 k3
            by_cases hlt : k < 10
            · have hlti : (k : Int) < 10 := by omega
              go_wp2_with fail
              refine (dpop_some _ 3 n HRT.out).mono ?_
              rintro e w4 ⟨b, kb, rfl, hb, hkb, ho, hd⟩
              have HNB := Lib.hid (And.intro hb hkb)
              have HO := Lib.hid ho
              have HQ := Lib.hid hd
              clear hb hkb ho hd q0 q1
              obtain ⟨s', m', hrun, hor⟩ := HD.out.pop (by have := HK.out; omega) n4
              have HRUN := Lib.hid hrun
              have HOR := Lib.hid hor
              clear hrun hor
              go_wp2_with fail
              refine (drun_any _ b kb mb ms _ m HQ.out (HS.out.quiet HO.out).mem HS.out.rng).mono ?_
              rintro e w5 ⟨he, ho, hm, hr, _⟩
              rw [HRUN.out] at he hm hr
              dsimp only at he hm hr
              have HS := Lib.hid (HS.out.other HO.out HQ.out HNB.out.1 HNB.out.2 ho hm hr)
              clear ho hm hr
              rcases HOR.out with ⟨h1, h2, h3⟩ | ⟨is', i, h1, h2, h3, h4, t', h5, h6⟩
              · rw [h2] at he
                subst he
                have HD := Lib.hid h3
                clear h1 h2 h3 HOR
                go_wp2_with fail
                exact ⟨⟨k + 1, h7, [], m', had, taken, by omega, by go_num, HS.out, HD.out, by simp, by have := HK.out; omega, by have := HK.out; simp; omega⟩, by simp [intOf]; omega⟩
              · rw [h2] at he
                subst he
                have HI := Lib.hid (And.intro h3 (And.intro h4 (And.intro HD.out.hlen h6)))
                have HK2 : Hid (is'.length ≤ 4 - (k + 1) ∧ t' ≤ 20 + (k + 1) ∧ taken + 1 + is'.length ≤ 100) := Lib.hid (by have := HK.out; rw [h1] at this; simp at this; omega)
                have htk : taken ≤ 1000 := by have := HK.out; omega
                clear h1 h2 h3 h4 h5 h6 HOR
                go_wp2_with fail
                refine (take_at HS.out HI.out.1 HI.out.2.1 HI.out.2.2.1 hn2 htk).mono ?_
                rintro e w6 ⟨rfl, hw⟩
                have HS := Lib.hid hw
                clear hw
                go_wp2_with fail
                exact ⟨⟨k + 1, t', is', m', _, taken + 1, by omega, by go_num, HS.out, HI.out.2.2.2, HK2.out.1, HK2.out.2.1, HK2.out.2.2⟩, by simp [intOf]; omega⟩
            · have hlti : ¬ (k : Int) < 10 := by omega
              obtain rfl : is = [] := by
                have := HK.out.1
                exact List.eq_nil_of_length_eq_zero (by omega)
              have HE : Hid (pushed = taken) := Lib.hid (by have := HD.out.cnt; simpa using this)
              clear HK q0 q1
              go_wp2_with fail
              go_loopw [14] (fun i wr => ∃ (j : Nat), j ≤ l2.length ∧ i = .int .i64 j ∧ WSt w wr mb ms xb hb' lb n l2.length #[.int .u8 a, .int .u8 s, .slice A2 l2.length cap2, .int .u8 th, .slice A4 l.length cap4, .int .u8 wd] m tk pops at_ had pushed taken) (fun i _ => l2.length - (intOf i).toNat)
              case atStart => exact ⟨0, by omega, rfl, HS.out⟩
              case round =>
                clear HS
                obtain ⟨wo, hwo⟩ : ∃ wo, wo = wr := ⟨_, rfl⟩
                subst hwo
                obtain ⟨j, hj, rfl, hst⟩ := hrel
                have HS := Lib.hid hst
                have c2 := hst.case_.at 2 (v := .slice A2 l2.length cap2) rfl
                have c9 := hst.obj.at 9 (v := .slice (some ⟨hb', 0, none⟩) l2.length l2.length) rfl
                clear hst
                by_cases hlt : j < l2.length
                · have hlti : (j : Int) < l2.length := by omega
                  have r0 : wo.cell? ⟨hb', j, none⟩ = some (.int .i64 (nth had j)) := HS.out.row.at j (icells_at had j (by rw [HD.out.hlen]; exact hlt))
                  rcases HD.out.h01 j hlt with hv | hv
                  · rw [hv] at r0
                    clear hv
                    go_wp2_with fail
                    exact ⟨⟨j + 1, by omega, by go_num, HS.out⟩, by simp [intOf]; omega⟩
                  · rw [hv] at r0
                    clear hv
                    go_wp2_with fail
                    exact ⟨⟨j + 1, by omega, by go_num, HS.out⟩, by simp [intOf]; omega⟩
                · have hlti : ¬ (j : Int) < l2.length := by omega
                  have hpt := HE.out
                  subst hpt
                  clear HE
                  go_upto_region 34 with fail
                  have HS := Lib.hid (HS.out.quiet (Only.refl [] _).drew)
                  go_region_held3 (fun w' => w'.cell? ⟨xb, 12, none⟩ = some (.bool false) ∧ w'.cell? ⟨xb, 10, none⟩ = some (.int .i64 pushed) ∧ w'.cell? ⟨xb, 11, none⟩ = some (.int .i64 pushed))
                    (first | exact ⟨HS.out.obj.at 12 rfl, HS.out.obj.at 10 rfl, HS.out.obj.at 11 rfl⟩)
                    (first | (go_at_call 26; refine (known07 _).mono ?_; rintro e w9 ⟨rfl, ho⟩; have HS := Lib.hid (HS.out.quiet ho); clear ho))
                  all_goals
                    go_wp2_with fail
                    go_ret
                    exact ⟨rfl, HS.out.out⟩

end Go.Proofs.Ytoecoijmkjhkgaa
