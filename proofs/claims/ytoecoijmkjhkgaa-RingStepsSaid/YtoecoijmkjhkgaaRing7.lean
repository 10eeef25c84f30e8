/- The ring: a push, and a pop, that runs alone. -/
import Derived.Test.YtoecoijmkjhkgaaRingP
import Derived.Test.YtoecoijmkjhkgaaRing6
namespace Go.Proofs.Ytoecoijmkjhkgaa
open Go.RowKit

/-- All words are numbers of 64 bits. -/
def MS.rng (m : MS) : Prop := ∀ i, 0 ≤ nth m.L i ∧ nth m.L i < 18446744073709551616

theorem rng_set {m : MS} {k : Nat} {v c l : Int} (h : m.rng) (hk : k < m.L.length) (h0 : 0 ≤ v) (h1 : v < 18446744073709551616) : MS.rng ⟨m.L.set k v, c, l⟩ := fun i => by
  show 0 ≤ nth (m.L.set k v) i ∧ nth (m.L.set k v) i < 18446744073709551616
  rw [nth_set _ _ _ _ hk]
  split
  · exact ⟨h0, h1⟩
  · exact h i

theorem store_rng {m : MS} {i v : Int} (h : m.rng) (h0 : 0 ≤ v) (h1 : v < 18446744073709551616) : (m.store i v).1.rng := by
  unfold MS.store
  split
  · rename_i hh
    have hb := of_decide_eq_true hh
    exact rng_set h (by omega) h0 h1
  · exact h

theorem act_rng (m : MS) (x : Act') (hm : m.rng) (hk : x.k = 0 ∨ x.k = 1 ∨ x.k = 2 ∨ x.k = 3) (a0 : 0 ≤ x.a) (a1 : x.a < 18446744073709551616) (b0 : 0 ≤ x.b) (b1 : x.b < 18446744073709551616) :
    (m.act x).1.rng ∧ 0 ≤ (m.act x).2.v ∧ (m.act x).2.v < 18446744073709551616 := by
  obtain ⟨k, i, a, b⟩ := x
  dsimp only at hk a0 a1 b0 b1
  rcases hk with rfl | rfl | rfl | rfl
  · rw [act0 m 0 i a b (by omega) (by omega) (by omega) (by omega)]
    exact ⟨hm, by simp, by simp⟩
  · rw [act1]
    unfold MS.load
    split
    · exact ⟨hm, (hm _).1, (hm _).2⟩
    · exact ⟨hm, by simp, by simp⟩
  · rw [act2]
    exact ⟨store_rng hm a0 a1, by simp, by simp⟩
  · rw [act3]
    refine ⟨?_, by simp, by simp⟩
    unfold MS.cas
    split
    · rename_i hh
      have hb := of_decide_eq_true hh
      split
      · exact rng_set hm (by omega) b0 b1
      · exact hm
    · exact hm

theorem next_rng (p : Bool) (s : RQ) (h : s.ok) : ((s.next p).k = 0 ∨ (s.next p).k = 1 ∨ (s.next p).k = 2 ∨ (s.next p).k = 3) ∧ 0 ≤ (s.next p).a ∧ (s.next p).a < 18446744073709551616 ∧ 0 ≤ (s.next p).b ∧ (s.next p).b < 18446744073709551616 := by
  have w0 : ∀ x : Int, 0 ≤ IntKind.u64.wrap x ∧ IntKind.u64.wrap x < 18446744073709551616 := fun x => by rw [IntKind.wrap_u64]; omega
  have hp0 := h.p0
  have hp1 := h.p1
  have hv0 := h.v0
  have hv1 := h.v1
  have w1 := w0 (s.pos + 1)
  have w2 := w0 (s.pos + s.n)
  unfold RQ.next
  split
  · simp
  · split
    · simp
    · split
      · exact ⟨by simp, hp0, hp1, w1.1, w1.2⟩
      · split
        · cases p
          · exact ⟨by simp, hv0, hv1, by simp, by simp⟩
          · simp
        · split
          · refine ⟨by simp, ?_, ?_, by simp, by simp⟩
            · unfold RQ.laid; dsimp only; split; exact w2.1; exact w1.1
            · unfold RQ.laid; dsimp only; split; exact w2.2; exact w1.2
          · simp

theorem go_rng (p : Bool) (s : RQ) (m : MS) (h : s.ok) (hm : m.rng) : (s.go p m).2.rng ∧ 0 ≤ (m.act (s.next p)).2.v ∧ (m.act (s.next p)).2.v < 18446744073709551616 := by
  obtain ⟨h1, h2, h3, h4, h5⟩ := next_rng p s h
  obtain ⟨r1, r2, r3⟩ := act_rng m _ hm h1 h2 h3 h4 h5
  refine ⟨?_, r2, r3⟩
  unfold RQ.go
  split
  · exact hm
  · exact r1

theorem pustep_go {w : World} {b mb ms : Nat} {s : RQ} {m : MS} (h : IsQ w b false s) (hm : IsMem w mb ms m) (hr : m.rng) : Calls Try.prog 19 #[.pointer (some ⟨b, 0, none⟩), .pointer (some ⟨mb, 0, none⟩)] w (QStepped w b mb ms false s m) :=
  pustep_any w b mb ms s m h hm (go_rng false s m h.ok hr).2.1 (go_rng false s m h.ok hr).2.2
theorem postep_go {w : World} {b mb ms : Nat} {s : RQ} {m : MS} (h : IsQ w b true s) (hm : IsMem w mb ms m) (hr : m.rng) : Calls Try.prog 20 #[.pointer (some ⟨b, 0, none⟩), .pointer (some ⟨mb, 0, none⟩)] w (QStepped w b mb ms true s m) :=
  postep_any w b mb ms s m h hm (go_rng true s m h.ok hr).2.1 (go_rng true s m h.ok hr).2.2

/-- What lies while one runs: f steps are left. -/
def Runs (w : World) (b mb ms : Nat) (p : Bool) (r : RQ × MS) (i : Value) (wr : World) : Prop :=
  ∃ (s : RQ) (m : MS), Only [mb, ms] w wr ∧ w.heap.size ≤ b ∧ IsQ wr b p s ∧ IsMem wr mb ms m ∧ m.rng ∧
    ((∃ k : Nat, k ≤ 10 ∧ i = .int .i64 k ∧ RQ.run p (10 - k) s m = r) ∨ (i = .int .i64 11 ∧ (s, m) = r))

theorem IsMem.same' {w w' : World} {mb ms : Nat} {m : MS} (h : IsMem w mb ms m) (o : Only [] w w') : IsMem w' mb ms m := h.only o (by simp) (by simp)

/-- What such a one leaves. -/
def Pushed (w : World) (mb ms : Nat) (r : RQ × MS) (e : Ending) (w' : World) : Prop :=
  e = .returned (.bool (r.1.has && decide (r.1.st = 5))) ∧ Only [mb, ms] w w' ∧ IsMem w' mb ms r.2 ∧ r.2.rng

set_option maxHeartbeats 2000000 in
set_option maxRecDepth 100000 in
theorem push_run (w : World) (mb ms : Nat) (m : MS) (a : Int) (n : Nat) (v : Int) (hm : IsMem w mb ms m) (hr : m.rng) (hri : ringRight a n) (v0 : 0 ≤ v) (v1 : v < 18446744073709551616) :
    Calls Try.prog 24 #[.pointer (some ⟨mb, 0, none⟩), .agg #[.int .i64 a, .int .i64 n], .int .u64 v] w (Pushed w mb ms (RQ.run false 10 ⟨a, n, 0, 0, false, v⟩ m)) := by
  obtain ⟨r, hrr⟩ : ∃ r, RQ.run false 10 ⟨a, n, 0, 0, false, v⟩ m = r := ⟨_, rfl⟩
  rw [hrr]
  have HRR := Lib.hid hrr
  have HRI := Lib.hid hri
  have HR := Lib.hid hr
  have HO := Lib.hid ((Only.refl [] w).alloc (.cells #[.int .i64 a, .int .i64 n] 32))
  have HM := Lib.hid (hm.same' HO.out)
  clear hrr hri hr hm
  unfold Pushed
  go_enter Try.func24, Try.ntmps24
  go_wp2_with fail
  refine (push_some _ a v n HRI.out v0 v1).mono ?_
  rintro e w1 ⟨b, rfl, hb, ho, hq⟩
  have HRU := Lib.hid (show Runs w b mb ms false r (.int .i64 0) w1 from ⟨_, m, (HO.out.trans ho).sub (by simp), Nat.le_trans HO.out.size hb, hq, HM.out.same' ho, HR.out, .inl ⟨0, by omega, rfl, HRR.out⟩⟩)
  clear hb ho hq HO HM
  go_wp2_with fail
  go_loopw [8] (fun i wr => Runs w b mb ms false r i wr) (fun i _ => 12 - (intOf i).toNat)
  case atStart => exact HRU.out
  case round =>
    clear HRU
    obtain ⟨s, m2, ho, hb, hq, hm, hrg, hcase⟩ := hrel
    have HO := Lib.hid ho
    have HB := Lib.hid hb
    have HQ := Lib.hid hq
    have HM := Lib.hid hm
    have HRG := Lib.hid hrg
    clear ho hb hq hm hrg
    rcases hcase with ⟨k, hk, rfl, hrun⟩ | ⟨rfl, hrun⟩
    · by_cases hk10 : k < 10
      · have hk10i : (k : Int) < 10 := by omega
        have HRUN := Lib.hid hrun
        clear hrun
        go_wp2_with fail
        refine (pustep_go HQ.out HM.out HRG.out).mono ?_
        rintro e w3 ⟨rfl, ho, hm, hq⟩
        have HO := Lib.hid (HO.out.then ho (by have := HB.out; simp; omega))
        have HM := Lib.hid hm
        have HQ2 := Lib.hid hq
        have HRG2 := Lib.hid (go_rng false s m2 HQ.out.ok HRG.out).1
        clear ho hm hq
        obtain ⟨f, hf⟩ : ∃ f, 10 - k = f + 1 := ⟨9 - k, by omega⟩
        have hrun := HRUN.out
        rw [hf] at hrun
        by_cases h5 : (s.go false m2).1.st = 5
        · have he := run_end (p := false) (f := f) (show s.go false m2 = ((s.go false m2).1, (s.go false m2).2) from rfl) h5
          rw [he] at hrun
          have HRN := Lib.hid hrun
          rw [decide_eq_true h5]
          clear hrun he h5 hf
          go_wp2_with fail
          exact ⟨⟨_, _, HO.out, HB.out, HQ2.out, HM.out, HRG2.out, .inr ⟨rfl, HRN.out⟩⟩, by simp [intOf]; omega⟩
        · have he := run_go (p := false) (f := f) (show s.go false m2 = ((s.go false m2).1, (s.go false m2).2) from rfl) h5
          rw [he] at hrun
          have HRN := Lib.hid (show RQ.run false (10 - (k + 1)) (s.go false m2).1 (s.go false m2).2 = r by rw [show 10 - (k + 1) = f by omega]; exact hrun)
          rw [decide_eq_false h5]
          clear hrun he h5 hf
          go_wp2_with fail
          exact ⟨⟨_, _, HO.out, HB.out, HQ2.out, HM.out, HRG2.out, .inl ⟨k + 1, by omega, by go_num, HRN.out⟩⟩, by simp [intOf]; omega⟩
      · obtain rfl : k = 10 := by omega
        have hrun' : (s, m2) = r := hrun
        subst hrun'
        clear hrun hk10
        have hk10i : ¬ ((10 : Nat) : Int) < 10 := by omega
        go_wp2_with fail
        refine (puresult_at _ b s HQ.out).mono ?_
        rintro e w4 ⟨rfl, ho⟩
        have HM := Lib.hid (HM.out.same' ho)
        have HO := Lib.hid (HO.out.trans (ho.sub (by simp)))
        clear ho
        obtain ⟨x, hx⟩ : ∃ x, s.has = x := ⟨_, rfl⟩
        obtain ⟨y, hy⟩ : ∃ y, decide (s.st = 5) = y := ⟨_, rfl⟩
        have HXY := Lib.hid (And.intro hx hy)
        rw [hx, hy]
        clear hx hy
        cases x
        · go_wp2_with fail
          go_ret
          exact ⟨by rw [HXY.out.1, HXY.out.2]; rfl, HO.out, HM.out, HRG.out⟩
        · go_wp2_with fail
          go_ret
          exact ⟨by rw [HXY.out.1, HXY.out.2]; rfl, HO.out, HM.out, HRG.out⟩
    · subst hrun
      go_wp2_with fail
      refine (puresult_at _ b s HQ.out).mono ?_
      rintro e w4 ⟨rfl, ho⟩
      have HM := Lib.hid (HM.out.same' ho)
      have HO := Lib.hid (HO.out.trans (ho.sub (by simp)))
      clear ho
      obtain ⟨x, hx⟩ : ∃ x, s.has = x := ⟨_, rfl⟩
      obtain ⟨y, hy⟩ : ∃ y, decide (s.st = 5) = y := ⟨_, rfl⟩
      have HXY := Lib.hid (And.intro hx hy)
      rw [hx, hy]
      clear hx hy
      cases x
      · go_wp2_with fail
        go_ret
        exact ⟨by rw [HXY.out.1, HXY.out.2]; rfl, HO.out, HM.out, HRG.out⟩
      · go_wp2_with fail
        go_ret
        exact ⟨by rw [HXY.out.1, HXY.out.2]; rfl, HO.out, HM.out, HRG.out⟩

/-- What a pop that ran alone tells. -/
def popVal (s : RQ) : Value := if s.st = 5 then (if s.has then .tuple #[.int .u64 s.v, .bool true] else .tuple #[.int .u64 0, .bool false]) else .tuple #[.int .u64 0, .bool false]

/-- What such a one leaves. -/
def Popped (w : World) (mb ms : Nat) (r : RQ × MS) (e : Ending) (w' : World) : Prop :=
  e = .returned (popVal r.1) ∧ Only [mb, ms] w w' ∧ IsMem w' mb ms r.2 ∧ r.2.rng

set_option maxHeartbeats 2000000 in
set_option maxRecDepth 100000 in
theorem pop_run (w : World) (mb ms : Nat) (m : MS) (a : Int) (n : Nat) (hm : IsMem w mb ms m) (hr : m.rng) (hri : ringRight a n) :
    Calls Try.prog 25 #[.pointer (some ⟨mb, 0, none⟩), .agg #[.int .i64 a, .int .i64 n]] w (Popped w mb ms (RQ.run true 10 ⟨a, n, 0, 0, false, 0⟩ m)) := by
  obtain ⟨r, hrr⟩ : ∃ r, RQ.run true 10 ⟨a, n, 0, 0, false, 0⟩ m = r := ⟨_, rfl⟩
  rw [hrr]
  have HRR := Lib.hid hrr
  have HRI := Lib.hid hri
  have HR := Lib.hid hr
  have HO := Lib.hid ((Only.refl [] w).alloc (.cells #[.int .i64 a, .int .i64 n] 32))
  have HM := Lib.hid (hm.same' HO.out)
  clear hrr hri hr hm
  unfold Popped
  go_enter Try.func25, Try.ntmps25
  go_wp2_with fail
  refine (pop_some _ a n HRI.out).mono ?_
  rintro e w1 ⟨b, rfl, hb, ho, hq⟩
  have HRU := Lib.hid (show Runs w b mb ms true r (.int .i64 0) w1 from ⟨_, m, (HO.out.trans ho).sub (by simp), Nat.le_trans HO.out.size hb, hq, HM.out.same' ho, HR.out, .inl ⟨0, by omega, rfl, HRR.out⟩⟩)
  clear hb ho hq HO HM
  go_wp2_with fail
  go_loopw [7] (fun i wr => Runs w b mb ms true r i wr) (fun i _ => 12 - (intOf i).toNat)
  case atStart => exact HRU.out
  case round =>
    clear HRU
    obtain ⟨s, m2, ho, hb, hq, hm, hrg, hcase⟩ := hrel
    have HO := Lib.hid ho
    have HB := Lib.hid hb
    have HQ := Lib.hid hq
    have HM := Lib.hid hm
    have HRG := Lib.hid hrg
    clear ho hb hq hm hrg
    rcases hcase with ⟨k, hk, rfl, hrun⟩ | ⟨rfl, hrun⟩
    · by_cases hk10 : k < 10
      · have hk10i : (k : Int) < 10 := by omega
        have HRUN := Lib.hid hrun
        clear hrun
        go_wp2_with fail
        refine (postep_go HQ.out HM.out HRG.out).mono ?_
        rintro e w3 ⟨rfl, ho, hm, hq⟩
        have HO := Lib.hid (HO.out.then ho (by have := HB.out; simp; omega))
        have HM := Lib.hid hm
        have HQ2 := Lib.hid hq
        have HRG2 := Lib.hid (go_rng true s m2 HQ.out.ok HRG.out).1
        clear ho hm hq
        obtain ⟨f, hf⟩ : ∃ f, 10 - k = f + 1 := ⟨9 - k, by omega⟩
        have hrun := HRUN.out
        rw [hf] at hrun
        by_cases h5 : (s.go true m2).1.st = 5
        · have he := run_end (p := true) (f := f) (show s.go true m2 = ((s.go true m2).1, (s.go true m2).2) from rfl) h5
          rw [he] at hrun
          have HRN := Lib.hid hrun
          rw [decide_eq_true h5]
          clear hrun he h5 hf
          go_wp2_with fail
          exact ⟨⟨_, _, HO.out, HB.out, HQ2.out, HM.out, HRG2.out, .inr ⟨rfl, HRN.out⟩⟩, by simp [intOf]; omega⟩
        · have he := run_go (p := true) (f := f) (show s.go true m2 = ((s.go true m2).1, (s.go true m2).2) from rfl) h5
          rw [he] at hrun
          have HRN := Lib.hid (show RQ.run true (10 - (k + 1)) (s.go true m2).1 (s.go true m2).2 = r by rw [show 10 - (k + 1) = f by omega]; exact hrun)
          rw [decide_eq_false h5]
          clear hrun he h5 hf
          go_wp2_with fail
          exact ⟨⟨_, _, HO.out, HB.out, HQ2.out, HM.out, HRG2.out, .inl ⟨k + 1, by omega, by go_num, HRN.out⟩⟩, by simp [intOf]; omega⟩
      · obtain rfl : k = 10 := by omega
        have hrun' : (s, m2) = r := hrun
        subst hrun'
        clear hrun hk10
        have hk10i : ¬ ((10 : Nat) : Int) < 10 := by omega
        go_wp2_with fail
        refine (poresult_at _ b s HQ.out).mono ?_
        rintro e w4 ⟨rfl, ho⟩
        have HM := Lib.hid (HM.out.same' ho)
        have HO := Lib.hid (HO.out.trans (ho.sub (by simp)))
        clear ho
        by_cases h5 : s.st = 5
        · simp only [if_pos h5]
          cases hx : s.has
          · simp only [Bool.false_eq_true, if_false]
            have HX := Lib.hid (show popVal s = .tuple #[.int .u64 0, .bool false] by unfold popVal; rw [if_pos h5, hx]; rfl)
            clear hx h5
            go_wp2_with fail
            go_ret2
            exact ⟨by rw [HX.out]; rfl, HO.out, HM.out, HRG.out⟩
          · simp only [if_true]
            have HX := Lib.hid (show popVal s = .tuple #[.int .u64 s.v, .bool true] by unfold popVal; rw [if_pos h5, hx]; rfl)
            clear hx h5
            go_wp2_with fail
            go_ret2
            exact ⟨by rw [HX.out]; rfl, HO.out, HM.out, HRG.out⟩
        · simp only [if_neg h5]
          have HX := Lib.hid (show popVal s = .tuple #[.int .u64 0, .bool false] by unfold popVal; rw [if_neg h5])
          clear h5
          go_wp2_with fail
          go_ret2
          exact ⟨by rw [HX.out]; rfl, HO.out, HM.out, HRG.out⟩
    · subst hrun
      go_wp2_with fail
      refine (poresult_at _ b s HQ.out).mono ?_
      rintro e w4 ⟨rfl, ho⟩
      have HM := Lib.hid (HM.out.same' ho)
      have HO := Lib.hid (HO.out.trans (ho.sub (by simp)))
      clear ho
      by_cases h5 : s.st = 5
      · simp only [if_pos h5]
        cases hx : s.has
        · simp only [Bool.false_eq_true, if_false]
          have HX := Lib.hid (show popVal s = .tuple #[.int .u64 0, .bool false] by unfold popVal; rw [if_pos h5, hx]; rfl)
          clear hx h5
          go_wp2_with fail
          go_ret2
          exact ⟨by rw [HX.out]; rfl, HO.out, HM.out, HRG.out⟩
        · simp only [if_true]
          have HX := Lib.hid (show popVal s = .tuple #[.int .u64 s.v, .bool true] by unfold popVal; rw [if_pos h5, hx]; rfl)
          clear hx h5
          go_wp2_with fail
          go_ret2
          exact ⟨by rw [HX.out]; rfl, HO.out, HM.out, HRG.out⟩
      · simp only [if_neg h5]
        have HX := Lib.hid (show popVal s = .tuple #[.int .u64 0, .bool false] by unfold popVal; rw [if_neg h5])
        clear h5
        go_wp2_with fail
        go_ret2
        exact ⟨by rw [HX.out]; rfl, HO.out, HM.out, HRG.out⟩

end Go.Proofs.Ytoecoijmkjhkgaa
