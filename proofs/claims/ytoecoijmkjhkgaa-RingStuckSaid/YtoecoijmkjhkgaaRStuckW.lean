/- The walk of law RingStuck. -/
import Derived.Test.YtoecoijmkjhkgaaStuckP
namespace Go.Proofs.Ytoecoijmkjhkgaa
open Go.RowKit

/-- What lies while the first one stands still. -/
structure Stk (w wr : World) (mb ms lb b : Nat) (s : RQ) (m : MS) : Prop where
  out : Only [] w wr
  lo : w.heap.size ≤ mb ∧ w.heap.size ≤ ms ∧ w.heap.size ≤ b
  lock : Blk wr lb 32 #[.int .i64 0, .int .i64 4]
  q : IsQ wr b false s
  mem : IsMem wr mb ms m
  rng : m.rng

section
variable {w wr w' : World} {mb ms lb b : Nat} {s : RQ} {m : MS}
theorem Stk.quiet (h : Stk w wr mb ms lb b s m) (o : Only [] wr w') : Stk w w' mb ms lb b s m :=
  ⟨h.out.trans o, h.lo, h.lock.only o (by simp), h.q.quiet o, h.mem.same' o, h.rng⟩
theorem Stk.go {m' : MS} (h : Stk w wr mb ms lb b s m) (o : Only [mb, ms] wr w') (hm : IsMem w' mb ms m') (hr : m'.rng) : Stk w w' mb ms lb b s m' := by
  have h1 := h.q.obj.ne h.mem.obj (by decide)
  have h2 := h.q.obj.ne h.mem.row (by decide)
  have h3 := h.lock.ne h.mem.obj (by decide)
  have h4 := h.lock.ne h.mem.row (by decide)
  have h5 := h.lo
  exact ⟨h.out.then o (by simp; omega), h.lo, h.lock.only o (by simp; omega), h.q.only o (by simp; omega), hm, hr⟩
theorem Stk.step (h : Stk w wr mb ms lb b s m) : Calls Try.prog 19 #[.pointer (some ⟨b, 0, none⟩), .pointer (some ⟨mb, 0, none⟩)] wr fun e w' => ∃ q, e = .returned (.bool q) ∧ Stk w w' mb ms lb b (s.go false m).1 (s.go false m).2 := by
  have h3 := h.lock.ne h.mem.obj (by decide)
  have h4 := h.lock.ne h.mem.row (by decide)
  have h6 := h.lock.ne h.q.obj (by decide)
  have h5 := h.lo
  refine (pustep_go h.q h.mem h.rng).mono ?_
  rintro e w' ⟨rfl, o, hm, hq⟩
  exact ⟨_, rfl, h.out.then o (by simp; omega), h.lo, h.lock.only o (by simp; omega), hq, hm, (go_rng false s m h.q.ok h.rng).1⟩
end

set_option maxHeartbeats 4000000 in
set_option maxRecDepth 100000 in
theorem ringstuck_walk (w : World) (v a : Int) (v0 : 0 ≤ v) (v1 : v < 18446744073709551616) (a0 : 0 ≤ a) (a1 : a ≤ 255) : Calls Try.prog 6 #[.int .u64 v, .int .u8 a] w fun e w' => e = .returned (.bool true) ∧ Only [] w w' := by
  obtain ⟨K, hK⟩ : ∃ K : Nat, 3 + a % 2 = (K : Int) := ⟨(3 + a % 2).toNat, by omega⟩
  have HK := Lib.hid (show K = 3 ∨ K = 4 by omega)
  have HRI := Lib.hid (show ringRight 0 4 from ⟨⟨by decide, by decide⟩, by decide, by decide⟩)
  go_enter Try.func6, Try.ntmps6
  go_wp2_with fail
  refine (new_any _ 40 (by omega) (by omega)).mono ?_
  rintro e w1 ⟨mb, ms, rfl, hb, hs, ho, hm⟩
  have HB := Lib.hid (And.intro hb hs)
  have HL := Lib.hid (Blk.new w1 32 #[.int .i64 0, .int .i64 4])
  have HM := Lib.hid (hm.same' ((Only.refl [] w1).alloc (.cells #[.int .i64 0, .int .i64 4] 32)))
  have HO := Lib.hid (ho.alloc (.cells #[.int .i64 0, .int .i64 4] 32))
  have HR0 := Lib.hid (ring_init (MS.new 40) 0 4 (by simp [MS.new]) (new_rng 40) (by omega) (by omega)).2.1
  clear hb hs ho hm
  go_wp2_with fail
  refine (init_some _ mb ms (MS.new 40) 0 4 HM.out HRI.out).mono ?_
  rintro e w2 ⟨rfl, ho, hm⟩
  have hr0 : (MS.lay (MS.new 40) 0 (initL 4)).1.rng := HR0.out
  rw [stuck_lay] at hm hr0 ⊢
  have HO := Lib.hid (HO.out.then ho (fun x hx => by have := HB.out; simp at hx; omega))
  have HL := Lib.hid (HL.out.only ho (by have := HL.out.ne HM.out.obj (by decide); have := HL.out.ne HM.out.row (by decide); simp; omega))
  have HM := Lib.hid hm
  have HRG := Lib.hid hr0
  have l0 := HL.out.at 0 (v := .int .i64 0) rfl
  have l1 := HL.out.at 1 (v := .int .i64 4) rfl
  clear ho hm hr0
  go_wp2_with fail
  refine (push_some _ 0 v 4 HRI.out v0 v1).mono ?_
  rintro e w3 ⟨b, rfl, hb, ho, hq⟩
  have HS : Hid (Stk w w3 mb ms w1.heap.size b ⟨0, 4, 0, 0, false, v⟩ stuckM) := Lib.hid ⟨HO.out.trans ho, ⟨HB.out.1, HB.out.2, by have := HO.out.size; omega⟩, HL.out.only ho (by simp), hq, HM.out.same' ho, HRG.out⟩
  clear hb ho hq l0 l1 HO HL HM HRG HR0
  go_wp2_with fail
  go_loopw [9] (fun i wr => ∃ k : Nat, k ≤ K ∧ i = .int .i64 k ∧ Stk w wr mb ms w1.heap.size b (RQ.iter false ⟨0, 4, 0, 0, false, v⟩ stuckM k).1 (RQ.iter false ⟨0, 4, 0, 0, false, v⟩ stuckM k).2) (fun i _ => K - (intOf i).toNat)
  case atStart => exact ⟨0, by omega, rfl, HS.out⟩
  case round =>
    clear HS
    obtain ⟨k, hk, rfl, hs⟩ := hrel
    have HS := Lib.hid hs
    clear hs
    by_cases hlt : k < K
    · have hlti : (k : Int) < K := by omega
      go_wp2_with fail
      refine HS.out.step.mono ?_
      rintro e w4 ⟨q, rfl, hs⟩
      have HS : Hid (Stk w w4 mb ms w1.heap.size b (RQ.iter false ⟨0, 4, 0, 0, false, v⟩ stuckM (k + 1)).1 (RQ.iter false ⟨0, 4, 0, 0, false, v⟩ stuckM (k + 1)).2) := Lib.hid hs
      clear hs
      go_wp2_with fail
      exact ⟨⟨k + 1, by omega, by go_num, HS.out⟩, by simp [intOf]; omega⟩
    · have hlti : ¬ (k : Int) < K := by omega
      have HS4 : Hid (∃ (s : RQ) (x c l : Int), Stk w wr mb ms w1.heap.size b s ⟨[1, 0, 0, x, 1, 0, 2, 0, 3, 0, 0, 0, 0, 0, 0, 0, 0, 0, 0, 0, 0, 0, 0, 0, 0, 0, 0, 0, 0, 0, 0, 0, 0, 0, 0, 0, 0, 0, 0, 0], c, l⟩ ∧ (s = ⟨0, 4, 3, 0, false, v⟩ ∧ x = 0 ∧ c = 13 ∧ l = 11 ∨ s = ⟨0, 4, 4, 0, false, v⟩ ∧ x = v ∧ c = 14 ∧ l = 12)) := Lib.hid (by
        have h := HS.out
        rw [show k = K by omega] at h
        rcases HK.out with e | e
        · rw [e, stuck_3] at h
          exact ⟨_, _, _, _, h, .inl ⟨rfl, rfl, rfl, rfl⟩⟩
        · rw [e, stuck_4] at h
          exact ⟨_, _, _, _, h, .inr ⟨rfl, rfl, rfl, rfl⟩⟩)
      obtain ⟨s, x, c, l, hs, hcase⟩ := HS4.out
      have HS := Lib.hid hs
      have HC := Lib.hid hcase
      have l0 := hs.lock.at 0 (v := .int .i64 0) rfl
      have l1 := hs.lock.at 1 (v := .int .i64 4) rfl
      clear hs hcase HS4
      go_wp2_with fail
      refine (push_run _ mb ms _ 0 4 7 HS.out.mem HS.out.rng HRI.out (by omega) (by omega)).mono ?_
      rintro e w5 ⟨rfl, ho, hm, hr⟩
      rw [stuck_push x c l (by rcases HC.out with h | h <;> omega)] at hm hr ⊢
      have HS := Lib.hid (HS.out.go ho hm hr)
      have l0 := HS.out.lock.at 0 (v := .int .i64 0) rfl
      have l1 := HS.out.lock.at 1 (v := .int .i64 4) rfl
      clear ho hm hr
      go_wp2_with fail
      refine (pop_run _ mb ms _ 0 4 HS.out.mem HS.out.rng HRI.out).mono ?_
      rintro e w6 ⟨rfl, ho, hm, hr⟩
      rw [stuck_pop x (c + 5) (l + 3) (by rcases HC.out with h | h <;> omega)] at hm hr ⊢
      rw [show popVal ⟨0, 4, 5, 0, false, 0⟩ = .tuple #[.int .u64 0, .bool false] from rfl]
      have HS := Lib.hid (HS.out.go ho hm hr)
      have l0 := HS.out.lock.at 0 (v := .int .i64 0) rfl
      have l1 := HS.out.lock.at 1 (v := .int .i64 4) rfl
      clear ho hm hr
      go_wp2_with fail
      refine HS.out.step.mono ?_
      rintro e w7 ⟨q, rfl, hs⟩
      have HS := Lib.hid hs
      clear hs l0 l1
      go_wp2_with fail
      refine HS.out.step.mono ?_
      rintro e w8 ⟨q2, rfl, hs⟩
      have HR : Hid (Rg w w8 mb ms w1.heap.size 40 0 4 0 [v, 7]) := Lib.hid (by
        rcases HC.out with ⟨rfl, rfl, rfl, rfl⟩ | ⟨rfl, rfl, rfl, rfl⟩
        · have h3 := stuck_rest3 v
          have hs' := hs
          rw [show (13 : Int) + 5 + 2 = 20 from rfl, show (11 : Int) + 3 = 14 from rfl, h3] at hs'
          exact ⟨hs'.out, ⟨hs'.lo.1, hs'.lo.2.1⟩, hs'.lock, _, hs'.mem, hs'.rng, stuck_ring v, rfl⟩
        · have h3 := stuck_rest4 x
          have hs' := hs
          rw [show (14 : Int) + 5 + 2 = 21 from rfl, show (12 : Int) + 3 = 15 from rfl, h3] at hs'
          exact ⟨hs'.out, ⟨hs'.lo.1, hs'.lo.2.1⟩, hs'.lock, _, hs'.mem, hs'.rng, stuck_ring x, rfl⟩)
      have l0 := HR.out.lock.at 0 (v := .int .i64 0) rfl
      have l1 := HR.out.lock.at 1 (v := .int .i64 4) rfl
      clear hs HS HC
      go_wp2_with fail
      refine (rg_pop HR.out.ring (by omega) (by omega) (by omega)).mono ?_
      rintro e w9 ⟨rfl, ho, hr⟩
      have HR := Lib.hid (HR.out.go ho hr)
      have l0 := HR.out.lock.at 0 (v := .int .i64 0) rfl
      have l1 := HR.out.lock.at 1 (v := .int .i64 4) rfl
      clear ho hr
      go_wp2_with fail
      refine (rg_pop HR.out.ring (by omega) (by omega) (by omega)).mono ?_
      rintro e w10 ⟨rfl, ho, hr⟩
      have HR := Lib.hid (HR.out.go ho hr)
      clear ho hr l0 l1
      go_wp2_with fail
      refine (known06 _).mono ?_
      rintro e w5 ⟨rfl, ho⟩
      have HO := Lib.hid (HR.out.out.trans ho)
      clear ho
      go_wp2_with fail
      go_ret
      exact ⟨rfl, HO.out⟩

end Go.Proofs.Ytoecoijmkjhkgaa
