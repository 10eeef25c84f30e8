/- The walk of law DequeLast. -/
import Derived.Test.YtoecoijmkjhkgaaLastP
import Derived.Test.YtoecoijmkjhkgaaShell4
namespace Go.Proofs.Ytoecoijmkjhkgaa
open Go.RowKit

/-- An owner's pop and a thief's steal in a world, in state i. -/
def LastSt (w : World) (mb ms ab ak bb bk : Nat) (v : Int) (i : Nat) (wr : World) : Prop :=
  ∃ c l, Only [] w wr ∧ IsD wr ab ak (lastA v i) ∧ IsD wr bb bk (lastB v i) ∧ IsMem wr mb ms ⟨lastL v i, c, l⟩ ∧ MS.drng ⟨lastL v i, c, l⟩ ∧ i < lastN ∧
    (ab ≠ bb ∧ ab ≠ bk ∧ ak ≠ bb ∧ ak ≠ bk) ∧ (w.heap.size ≤ mb ∧ w.heap.size ≤ ms ∧ w.heap.size ≤ ab ∧ w.heap.size ≤ ak ∧ w.heap.size ≤ bb ∧ w.heap.size ≤ bk)

section
variable {w wr w' : World} {mb ms ab ak bb bk i : Nat} {v : Int}

theorem LastSt.quiet (h : LastSt w mb ms ab ak bb bk v i wr) (o : Only [] wr w') : LastSt w mb ms ab ak bb bk v i w' := by
  obtain ⟨c, l, h1, h2, h3, h4, h5, h6, h7, h8⟩ := h
  exact ⟨c, l, h1.trans o, h2.quiet o, h3.quiet o, h4.dsame o, h5, h6, h7, h8⟩
theorem LastSt.out (h : LastSt w mb ms ab ak bb bk v i wr) : Only [] w wr := by
  obtain ⟨c, l, h1, _⟩ := h
  exact h1
theorem LastSt.lt (h : LastSt w mb ms ab ak bb bk v i wr) : i < lastN := by
  obtain ⟨c, l, _, _, _, _, _, h6, _⟩ := h
  exact h6

theorem LastSt.stepA (h : LastSt w mb ms ab ak bb bk v i wr) : Calls Try.prog 35 #[.pointer (some ⟨ab, 0, none⟩), .pointer (some ⟨mb, 0, none⟩)] wr fun e w' => ∃ q j, e = .returned (.bool q) ∧ LastSt w mb ms ab ak bb bk v j w' := by
  obtain ⟨c, l, h1, h2, h3, h4, h5, h6, h7, h8⟩ := h
  obtain ⟨c', l', g1, g2, g3⟩ := last_goA v i h6 c l
  have n1 := dq_ne h2 h4
  have n2 := dq_ne h3 h4
  refine (dstep_go h2 h4 h5).mono ?_
  rintro e w' ⟨rfl, o, hm, hd⟩
  have hr := (dgo_rng _ _ h2.ok h5).1
  rw [g1] at hm hd hr
  exact ⟨_, nxA i, rfl, c', l', h1.then o (by simp; omega), hd, by rw [g2]; exact h3.only o (by simp; omega) (by simp; omega), hm, hr, g3, h7, h8⟩
theorem LastSt.stepB (h : LastSt w mb ms ab ak bb bk v i wr) : Calls Try.prog 35 #[.pointer (some ⟨bb, 0, none⟩), .pointer (some ⟨mb, 0, none⟩)] wr fun e w' => ∃ q j, e = .returned (.bool q) ∧ LastSt w mb ms ab ak bb bk v j w' := by
  obtain ⟨c, l, h1, h2, h3, h4, h5, h6, h7, h8⟩ := h
  obtain ⟨c', l', g1, g2, g3⟩ := last_goB v i h6 c l
  have n1 := dq_ne h2 h4
  have n2 := dq_ne h3 h4
  refine (dstep_go h3 h4 h5).mono ?_
  rintro e w' ⟨rfl, o, hm, hd⟩
  have hr := (dgo_rng _ _ h3.ok h5).1
  rw [g1] at hm hd hr
  exact ⟨_, nxB i, rfl, c', l', h1.then o (by simp; omega), by rw [g2]; exact h2.only o (by simp; omega) (by simp; omega), hd, hm, hr, g3, h7, h8⟩
theorem LastSt.runA (h : LastSt w mb ms ab ak bb bk v i wr) : Calls Try.prog 29 #[.pointer (some ⟨mb, 0, none⟩), .pointer (some ⟨ab, 0, none⟩)] wr fun e w' => e = .returned (dRun (lastA v (Ytoecoijmkjhkgaa.runA 10 i))) ∧ LastSt w mb ms ab ak bb bk v (Ytoecoijmkjhkgaa.runA 10 i) w' := by
  obtain ⟨c, l, h1, h2, h3, h4, h5, h6, h7, h8⟩ := h
  obtain ⟨c', l', g1, g2, g3⟩ := last_runA v 10 i h6 c l
  have n1 := dq_ne h2 h4
  have n2 := dq_ne h3 h4
  refine (drun_any wr ab ak mb ms _ _ h2 h4 h5).mono ?_
  rintro e w' ⟨rfl, o, hm, hr, hd⟩
  rw [g1] at hm hd hr ⊢
  exact ⟨rfl, c', l', h1.then o (by simp; omega), hd, by rw [g2]; exact h3.only o (by simp; omega) (by simp; omega), hm, hr, g3, h7, h8⟩
theorem LastSt.runB (h : LastSt w mb ms ab ak bb bk v i wr) : Calls Try.prog 29 #[.pointer (some ⟨mb, 0, none⟩), .pointer (some ⟨bb, 0, none⟩)] wr fun e w' => e = .returned (dRun (lastB v (Ytoecoijmkjhkgaa.runB 10 i))) ∧ LastSt w mb ms ab ak bb bk v (Ytoecoijmkjhkgaa.runB 10 i) w' := by
  obtain ⟨c, l, h1, h2, h3, h4, h5, h6, h7, h8⟩ := h
  obtain ⟨c', l', g1, g2, g3⟩ := last_runB v 10 i h6 c l
  have n1 := dq_ne h2 h4
  have n2 := dq_ne h3 h4
  refine (drun_any wr bb bk mb ms _ _ h3 h4 h5).mono ?_
  rintro e w' ⟨rfl, o, hm, hr, hd⟩
  rw [g1] at hm hd hr ⊢
  exact ⟨rfl, c', l', h1.then o (by simp; omega), by rw [g2]; exact h2.only o (by simp; omega) (by simp; omega), hd, hm, hr, g3, h7, h8⟩
theorem LastSt.load (k : Nat) (hk : k < 10) (hl : (lastL v i).length = 10) (h : LastSt w mb ms ab ak bb bk v i wr) : Calls Try.prog 21 #[.pointer (some ⟨mb, 0, none⟩), .int .i64 k] wr fun e w' => e = .returned (.tuple #[.int .u64 (nth (lastL v i) k), .int .i64 0]) ∧ LastSt w mb ms ab ak bb bk v i w' := by
  obtain ⟨c, l, h1, h2, h3, h4, h5, h6, h7, h8⟩ := h
  have n1 := dq_ne h2 h4
  have n2 := dq_ne h3 h4
  have hld : MS.load ⟨lastL v i, c, l⟩ (k : Int) = (⟨lastL v i, wrap64 (c + 1), l⟩, nth (lastL v i) k, 0) := by
    unfold MS.load
    rw [if_pos (show MS.has ⟨lastL v i, c, l⟩ (k : Int) = true from decide_eq_true ⟨by omega, by dsimp only; omega⟩)]
    rfl
  refine (load_to h4 hld).mono ?_
  rintro e w' ⟨rfl, o, hm⟩
  exact ⟨rfl, _, l, h1.then o (by simp; omega), h2.only o (by simp; omega) (by simp; omega), h3.only o (by simp; omega) (by simp; omega), hm, h5, h6, h7, h8⟩
end

set_option maxHeartbeats 4000000 in
set_option maxRecDepth 100000 in
theorem dequelast_walk (w : World) (v : Int) (A : Option Addr) (ts : List Bool) (cap : Nat) (v0 : 0 ≤ v) (v1 : v < 18446744073709551616) (ht : ReadsT w A ts) :
    Calls Try.prog 10 #[.int .u64 v, .slice A ts.length cap] w fun e w' => e = .returned (.bool true) ∧ Only [] w w' := by
  have HRT := Lib.hid ht
  have HR := Lib.hid (show dequeRight 0 4 from ⟨⟨by decide, by decide⟩, by decide, by decide⟩)
  clear ht
  go_enter Try.func10, Try.ntmps10
  go_wp2_with fail
  refine (new_any _ 10 (by omega) (by omega)).mono ?_
  rintro e w1 ⟨mb, ms, rfl, hb, hs, ho, hm⟩
  have HD : Hid (Dk w (w1.alloc (.cells #[.int .i64 0, .int .i64 4] 59)) mb ms w1.heap.size 0 4 (MS.new 10)) := Lib.hid ⟨ho.alloc _, ⟨hb, hs⟩, Blk.new _ _ _, hm.dsame ((Only.refl [] w1).alloc _), dnew_rng 10⟩
  clear hb hs ho hm
  by_cases hbig : 100 < ts.length
  · have hbi : (100 : Int) < ts.length := by omega
    go_wp2_with fail
    refine (known07 _).mono ?_
    rintro e w5 ⟨rfl, ho⟩
    have HO := Lib.hid (HD.out.out.trans ho)
    clear ho
    go_wp2_with fail
    go_ret
    exact ⟨rfl, HO.out⟩
  have hbi : ¬ (100 : Int) < ts.length := by omega
  clear hbig
  go_wp2_with fail
  refine (dpush_some _ 0 v 4 HR.out v0 v1).mono ?_
  rintro e w2 ⟨b, kb, rfl, hb, hk, ho, hd⟩
  have HN := Lib.hid (And.intro hb (And.intro hk (And.intro ho hd)))
  clear hb hk ho hd
  go_wp2_with fail
  refine (drun_any _ b kb mb ms _ _ HN.out.2.2.2 (HD.out.mem.dsame HN.out.2.2.1) HD.out.rng).mono ?_
  rintro e w3 hr
  rw [last_push] at hr
  have HD := Lib.hid (HD.out.ran HN.out.1 HN.out.2.1 HN.out.2.2.1 hr)
  obtain ⟨rfl, _⟩ := hr
  have l0 := HD.out.lock.at 0 (v := .int .i64 0) rfl
  have l1 := HD.out.lock.at 1 (v := .int .i64 4) rfl
  clear HN
  go_wp2_with fail
  refine (dpop_some _ 0 4 HR.out).mono ?_
  rintro e w4 ⟨ab, ak, rfl, hb, hk, ho, hd⟩
  have HNA := Lib.hid (And.intro hb (And.intro hk hd))
  have HDA := Lib.hid (HD.out.quiet ho)
  have HSZ := Lib.hid HD.out.out.size
  have l0 := HDA.out.lock.at 0 (v := .int .i64 0) rfl
  have l1 := HDA.out.lock.at 1 (v := .int .i64 4) rfl
  clear hb hk ho hd
  go_wp2_with fail
  refine (dsteal_some _ 0 4 HR.out).mono ?_
  rintro e w5 ⟨bb, bk, rfl, hb, hk, ho, hd⟩
  have HS : Hid (LastSt w mb ms ab ak bb bk v 0 w5) := Lib.hid (by
    have hda := HNA.out.2.2
    have n1 := hda.obj.lt
    have n2 := hda.kind.lt
    have n3 := HNA.out.1
    have n4 := HNA.out.2.1
    have n5 := HSZ.out
    have n6 := HDA.out.lo
    have n7 := HDA.out.out.size
    exact ⟨_, _, HDA.out.out.trans ho, hda.quiet ho, hd, HDA.out.mem.dsame ho, HDA.out.rng, by decide, ⟨by omega, by omega, by omega, by omega⟩, ⟨by omega, by omega, by omega, by omega, by omega, by omega⟩⟩)
  clear hb hk ho hd l0 l1 HNA HDA HD HSZ
  go_wp2_with fail
  go_loopw [10] (fun k wr => ∃ t i : Nat, t ≤ ts.length ∧ k = .int .i64 t ∧ LastSt w mb ms ab ak bb bk v i wr) (fun k _ => ts.length - (intOf k).toNat)
  case atStart => exact ⟨0, 0, by omega, rfl, HS.out⟩
  case round =>
    clear HS
    obtain ⟨t, i, ht, rfl, hs⟩ := hrel
    have HS := Lib.hid hs
    clear hs
    by_cases hlt : t < ts.length
    · have hlti : (t : Int) < ts.length := by omega
      obtain ⟨gt, ot, hgt, rfl, hct⟩ := HRT.out.at hlt
      have d1 := (HS.out.out.cell (p := ⟨gt, ot + t, none⟩) hgt (by simp)).trans (hct t hlt)
      obtain ⟨q, hq⟩ : ∃ q, nthb ts t = q := ⟨_, rfl⟩
      rw [hq] at d1
      clear hgt hct hq
      cases q
      · go_wp2_with fail
        refine HS.out.stepB.mono ?_
        rintro e w6 ⟨q, j, rfl, hs⟩
        have HS := Lib.hid hs
        clear hs d1
        go_wp2_with fail
        exact ⟨⟨t + 1, j, by omega, by go_num, HS.out⟩, by simp [intOf]; omega⟩
      · go_wp2_with fail
        refine HS.out.stepA.mono ?_
        rintro e w6 ⟨q, j, rfl, hs⟩
        have HS := Lib.hid hs
        clear hs d1
        go_wp2_with fail
        exact ⟨⟨t + 1, j, by omega, by go_num, HS.out⟩, by simp [intOf]; omega⟩
    · have hlti : ¬ (t : Int) < ts.length := by omega
      have HOK := Lib.hid (last_ok v i HS.out.lt)
      go_wp2_with fail
      refine HS.out.runA.mono ?_
      rintro e w6 ⟨rfl, hs⟩
      have HS := Lib.hid hs
      clear hs
      obtain ⟨hcase, heq, hlen⟩ := HOK.out
      have HEQ := Lib.hid heq
      have HLEN := Lib.hid hlen
      clear heq hlen
      rcases hcase with ⟨ea, eb⟩ | ⟨ea, eb⟩
      all_goals
        rw [ea]
        have HEB := Lib.hid eb
        clear ea eb
        go_wp2_with fail
        refine HS.out.runB.mono ?_
        rintro e w7 ⟨rfl, hs⟩
        rw [HEB.out]
        have HS := Lib.hid hs
        clear hs
        go_wp2_with fail
        refine (HS.out.load 0 (by omega) HLEN.out).mono ?_
        rintro e w8 ⟨rfl, hs⟩
        have HS := Lib.hid hs
        rw [HEQ.out]
        clear hs
        go_wp2_with fail
        refine (HS.out.load 1 (by omega) HLEN.out).mono ?_
        rintro e w9 ⟨rfl, hs⟩
        have HS := Lib.hid hs
        clear hs
        go_wp2_with fail
        refine (known07 _).mono ?_
        rintro e w10 ⟨rfl, ho⟩
        have HO := Lib.hid (HS.out.out.trans ho)
        clear ho
        go_wp2_with fail
        go_ret
        exact ⟨rfl, HO.out⟩

end Go.Proofs.Ytoecoijmkjhkgaa
