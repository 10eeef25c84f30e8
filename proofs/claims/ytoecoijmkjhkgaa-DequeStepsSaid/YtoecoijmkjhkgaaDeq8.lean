/- The deque: a task that runs alone. -/
import Derived.Test.YtoecoijmkjhkgaaDeq6
import Derived.Test.YtoecoijmkjhkgaaDeq7
import Derived.Test.YtoecoijmkjhkgaaPlain02
namespace Go.Proofs.Ytoecoijmkjhkgaa
open Go.RowKit

/-- All words are numbers of 64 bits. -/
def MS.drng (m : MS) : Prop := ∀ i, 0 ≤ nth m.L i ∧ nth m.L i < 18446744073709551616

theorem drng_set {m : MS} {k : Nat} {v c l : Int} (h : m.drng) (hk : k < m.L.length) (h0 : 0 ≤ v) (h1 : v < 18446744073709551616) : MS.drng ⟨m.L.set k v, c, l⟩ := fun i => by
  show 0 ≤ nth (m.L.set k v) i ∧ nth (m.L.set k v) i < 18446744073709551616
  rw [nth_set _ _ _ _ hk]
  split
  · exact ⟨h0, h1⟩
  · exact h i

theorem dact_rng (m : MS) (x : Act') (hm : m.drng) (hk : x.k = 0 ∨ x.k = 1 ∨ x.k = 2 ∨ x.k = 3) (a0 : 0 ≤ x.a) (a1 : x.a < 18446744073709551616) (b0 : 0 ≤ x.b) (b1 : x.b < 18446744073709551616) :
    (m.act x).1.drng ∧ 0 ≤ (m.act x).2.v ∧ (m.act x).2.v < 18446744073709551616 := by
  obtain ⟨k, i, a, b⟩ := x
  dsimp only at hk a0 a1 b0 b1
  rcases hk with rfl | rfl | rfl | rfl
  · rw [act0 m 0 i a b (by omega) (by omega) (by omega) (by omega)]
    exact ⟨hm, by simp, by simp⟩
  · rw [act1]
    unfold MS.load
    split
    · exact ⟨hm, (hm _).1, (hm _).2⟩
    · exact ⟨hm, by simp, by simp⟩
  · rw [act2]
    refine ⟨?_, by simp, by simp⟩
    unfold MS.store
    split
    · rename_i hh
      have hb := of_decide_eq_true hh
      exact drng_set hm (by omega) a0 a1
    · exact hm
  · rw [act3]
    refine ⟨?_, by simp, by simp⟩
    unfold MS.cas
    split
    · rename_i hh
      have hb := of_decide_eq_true hh
      split
      · exact drng_set hm (by omega) b0 b1
      · exact hm
    · exact hm

theorem dnext_rng (s : DQ) (h : s.ok) : (s.next.k = 0 ∨ s.next.k = 1 ∨ s.next.k = 2 ∨ s.next.k = 3) ∧ 0 ≤ s.next.a ∧ s.next.a < 18446744073709551616 ∧ 0 ≤ s.next.b ∧ s.next.b < 18446744073709551616 := by
  have w1 := wrap_u64_range (s.bot + 1)
  have w2 := wrap_u64_range (s.top + 1)
  have h1 := h.v0
  have h2 := h.v1
  have h3 := h.t0
  have h4 := h.t1
  have h5 := h.b0
  have h6 := h.b1
  unfold DQ.next
  repeat' split
  all_goals first
    | (refine ⟨by simp, ?_, ?_, ?_, ?_⟩ <;> first | exact w1.1 | exact w1.2 | exact w2.1 | exact w2.2 | assumption | (dsimp only; omega))

theorem dgo_rng (s : DQ) (m : MS) (h : s.ok) (hm : m.drng) : (s.go m).2.drng ∧ 0 ≤ (m.act s.next).2.v ∧ (m.act s.next).2.v < 18446744073709551616 := by
  obtain ⟨h1, h2, h3, h4, h5⟩ := dnext_rng s h
  obtain ⟨r1, r2, r3⟩ := dact_rng m _ hm h1 h2 h3 h4 h5
  refine ⟨?_, r2, r3⟩
  unfold DQ.go
  split
  · exact hm
  · split
    · exact r1
    · exact r1

theorem IsMem.dsame {w w' : World} {mb ms : Nat} {m : MS} (h : IsMem w mb ms m) (o : Only [] w w') : IsMem w' mb ms m := h.only o (by simp) (by simp)
theorem IsD.quiet {w w' : World} {b kb : Nat} {s : DQ} (h : IsD w b kb s) (o : Only [] w w') : IsD w' b kb s := h.only o (by simp) (by simp)

theorem dstep_go {w : World} {b kb mb ms : Nat} {s : DQ} {m : MS} (h : IsD w b kb s) (hm : IsMem w mb ms m) (hr : m.drng) : Calls Try.prog 35 #[.pointer (some ⟨b, 0, none⟩), .pointer (some ⟨mb, 0, none⟩)] w (DStepped w b kb mb ms (s.go m)) :=
  dstep_any w b kb mb ms s m h hm (dgo_rng s m h.ok hr).2.1 (dgo_rng s m h.ok hr).2.2

/-- Steps, till it is done. -/
def DQ.run : Nat → DQ → MS → DQ × MS
  | 0, s, m => (s, m)
  | f + 1, s, m => if (s.go m).1.done then s.go m else DQ.run f (s.go m).1 (s.go m).2

theorem drun_go {f : Nat} {s : DQ} {m : MS} (h5 : (s.go m).1.done = false) : DQ.run (f + 1) s m = DQ.run f (s.go m).1 (s.go m).2 := by
  show (if (s.go m).1.done then s.go m else DQ.run f (s.go m).1 (s.go m).2) = _
  rw [h5, if_neg (by simp)]
theorem drun_end {f : Nat} {s : DQ} {m : MS} (h5 : (s.go m).1.done = true) : DQ.run (f + 1) s m = s.go m := by
  show (if (s.go m).1.done then s.go m else DQ.run f (s.go m).1 (s.go m).2) = _
  rw [h5, if_pos rfl]

/-- What a task that ran alone tells. -/
def dRun (s : DQ) : Value := if s.done then (if s.has then .tuple #[.int .u64 s.v, .bool true] else .tuple #[.int .u64 0, .bool false]) else .tuple #[.int .u64 0, .bool false]

/-- What it leaves. -/
def DRan (w : World) (b kb mb ms : Nat) (r : DQ × MS) (e : Ending) (w' : World) : Prop :=
  e = .returned (dRun r.1) ∧ Only [b, kb, mb, ms] w w' ∧ IsMem w' mb ms r.2 ∧ r.2.drng ∧ IsD w' b kb r.1

set_option maxHeartbeats 2000000 in
set_option maxRecDepth 100000 in
theorem drun_any (w : World) (b kb mb ms : Nat) (s0 : DQ) (m : MS) (h : IsD w b kb s0) (hm : IsMem w mb ms m) (hr : m.drng) :
    Calls Try.prog 29 #[.pointer (some ⟨mb, 0, none⟩), .pointer (some ⟨b, 0, none⟩)] w (DRan w b kb mb ms (DQ.run 10 s0 m)) := by
  obtain ⟨r, hrr⟩ : ∃ r, DQ.run 10 s0 m = r := ⟨_, rfl⟩
  rw [hrr]
  have HRR := Lib.hid hrr
  have HR := Lib.hid hr
  have HM := Lib.hid hm
  have HD := Lib.hid h
  clear hrr hr hm h
  unfold DRan
  go_enter Try.func29, Try.ntmps29
  go_wp2_with fail
  go_loopw [6] (fun i wr => ∃ (s : DQ) (m : MS), Only [b, kb, mb, ms] w wr ∧ IsD wr b kb s ∧ IsMem wr mb ms m ∧ m.drng ∧ ((∃ k : Nat, k ≤ 10 ∧ i = .int .i64 k ∧ DQ.run (10 - k) s m = r) ∨ (i = .int .i64 11 ∧ (s, m) = r))) (fun i _ => 12 - (intOf i).toNat)
  case atStart => exact ⟨s0, m, Only.refl _ _, HD.out, HM.out, HR.out, .inl ⟨0, by omega, rfl, HRR.out⟩⟩
  case round =>
    clear HD HM HR
    obtain ⟨s, m2, ho, hd, hm, hrg, hcase⟩ := hrel
    have HO := Lib.hid ho
    have HD := Lib.hid hd
    have HM := Lib.hid hm
    have HRG := Lib.hid hrg
    clear ho hd hm hrg
    rcases hcase with ⟨k, hk, rfl, hrun⟩ | ⟨rfl, hrun⟩
    · by_cases hk10 : k < 10
      · have hk10i : (k : Int) < 10 := by omega
        have HRUN := Lib.hid hrun
        clear hrun
        go_wp2_with fail
        refine (dstep_go HD.out HM.out HRG.out).mono ?_
        rintro e w3 ⟨rfl, ho, hm, hd⟩
        have HO := Lib.hid (HO.out.trans ho)
        have HM := Lib.hid hm
        have HD2 := Lib.hid hd
        have HRG2 := Lib.hid (dgo_rng s m2 HD.out.ok HRG.out).1
        clear ho hm hd
        obtain ⟨f, hf⟩ : ∃ f, 10 - k = f + 1 := ⟨9 - k, by omega⟩
        have hrun := HRUN.out
        rw [hf] at hrun
        cases h5 : (s.go m2).1.done
        · rw [drun_go h5] at hrun
          have HRN := Lib.hid (show DQ.run (10 - (k + 1)) (s.go m2).1 (s.go m2).2 = r by rw [show 10 - (k + 1) = f by omega]; exact hrun)
          clear hrun h5 hf
          go_wp2_with fail
          exact ⟨⟨_, _, HO.out, HD2.out, HM.out, HRG2.out, .inl ⟨k + 1, by omega, by go_num, HRN.out⟩⟩, by simp [intOf]; omega⟩
        · rw [drun_end h5] at hrun
          have HRN := Lib.hid hrun
          clear hrun h5 hf
          go_wp2_with fail
          exact ⟨⟨_, _, HO.out, HD2.out, HM.out, HRG2.out, .inr ⟨rfl, HRN.out⟩⟩, by simp [intOf]; omega⟩
      · obtain rfl : k = 10 := by omega
        have hrun' : (s, m2) = r := hrun
        subst hrun'
        clear hrun hk10
        have hk10i : ¬ ((10 : Nat) : Int) < 10 := by omega
        go_wp2_with fail
        refine (dresult_any _ b kb s HD.out).mono ?_
        rintro e w4 ⟨rfl, ho⟩
        have HM := Lib.hid (HM.out.dsame ho)
        have HD := Lib.hid (HD.out.quiet ho)
        have HO := Lib.hid (HO.out.trans (ho.sub (by simp)))
        have hv : dVal s = .tuple #[.int .u64 0, .bool false, .bool false] ∧ dRun s = .tuple #[.int .u64 0, .bool false] ∨ dVal s = .tuple #[.int .u64 0, .bool false, .bool true] ∧ dRun s = .tuple #[.int .u64 0, .bool false] ∨ dVal s = .tuple #[.int .u64 s.v, .bool true, .bool true] ∧ dRun s = .tuple #[.int .u64 s.v, .bool true] := by
          unfold dVal dRun
          cases s.done <;> cases s.has <;> simp
        clear ho
        rcases hv with ⟨e1, e2⟩ | ⟨e1, e2⟩ | ⟨e1, e2⟩
        all_goals
          rw [e1]
          have HE := Lib.hid e2
          clear e1 e2
          go_wp2_with fail
          go_ret2
          exact ⟨by rw [HE.out]; rfl, HO.out, HM.out, HRG.out, HD.out⟩
    · subst hrun
      go_wp2_with fail
      refine (dresult_any _ b kb s HD.out).mono ?_
      rintro e w4 ⟨rfl, ho⟩
      have HM := Lib.hid (HM.out.dsame ho)
      have HD := Lib.hid (HD.out.quiet ho)
      have HO := Lib.hid (HO.out.trans (ho.sub (by simp)))
      have hv : dVal s = .tuple #[.int .u64 0, .bool false, .bool false] ∧ dRun s = .tuple #[.int .u64 0, .bool false] ∨ dVal s = .tuple #[.int .u64 0, .bool false, .bool true] ∧ dRun s = .tuple #[.int .u64 0, .bool false] ∨ dVal s = .tuple #[.int .u64 s.v, .bool true, .bool true] ∧ dRun s = .tuple #[.int .u64 s.v, .bool true] := by
        unfold dVal dRun
        cases s.done <;> cases s.has <;> simp
      clear ho
      rcases hv with ⟨e1, e2⟩ | ⟨e1, e2⟩ | ⟨e1, e2⟩
      all_goals
        rw [e1]
        have HE := Lib.hid e2
        clear e1 e2
        go_wp2_with fail
        go_ret2
        exact ⟨by rw [HE.out]; rfl, HO.out, HM.out, HRG.out, HD.out⟩

theorem dnew_rng (k : Nat) : (MS.new k).drng := fun i => by
  show 0 ≤ nth (List.replicate k 0) i ∧ nth (List.replicate k 0) i < 18446744073709551616
  by_cases h : i < k
  · simp [nth, h]
  · simp [nth, h]

end Go.Proofs.Ytoecoijmkjhkgaa
