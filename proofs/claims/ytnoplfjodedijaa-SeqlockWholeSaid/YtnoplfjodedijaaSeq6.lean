/- A writer's step, once a way. Written by seq6gen.py. -/
import Derived.Test.YtnoplfjodedijaaSeq5
import Derived.Deep.RegionWith
namespace Go.Proofs.Ytnoplfjodedijaa
open Go.RowKit

theorem do_act {w : World} {b s : Nat} {m m' : MS} {x : Act'} {v er : Int} {ok : Bool} (hm : IsMem w b s m) (h : m.act x = (m', ⟨v, ok, er⟩)) :
    Calls Try.prog 24 #[.pointer (some ⟨b, 0, none⟩), x.val] w fun e w' => e = .returned (.agg #[.int .u64 v, .bool ok, .int .i64 er]) ∧ Only [b, s] w w' ∧ IsMem w' b s m' := by
  have := do_any w b s m x hm
  rw [h] at this
  exact this

/-- A writer's blocks are not the words'. -/
theorem wne {w : World} {b v cap mb ms : Nat} {s : WS} {m : MS} (h : IsW w b v cap s) (hm : IsMem w mb ms m) (hv : v ≠ ms) : b ≠ mb ∧ b ≠ ms ∧ v ≠ mb ∧ v ≠ ms ∧ b ≠ v := by
  obtain ⟨cur, hr, _⟩ := h.row
  exact ⟨h.obj.ne hm.obj (by decide), h.obj.ne hm.row (by decide), hr.ne hm.obj (by decide), hv, h.obj.ne hr (by decide)⟩

theorem w_end {W W2 w5 : World} {b vv cap mb ms : Nat} {s : WS} {m' : MS} (H : IsW W b vv cap s) (HM : IsMem W mb ms m') (NB : b ≠ mb ∧ b ≠ ms ∧ vv ≠ mb ∧ vv ≠ ms ∧ b ≠ vv) (o : Only [b] W W2) (ho : Only [] W2 w5) (s' : WS)
    (hobj : Blk W2 b 109 #[.int .i64 s'.at_, .int .i64 s'.n, .int .i64 s'.turn, .int .u64 s'.was, .int .i64 (s'.n + 3), .slice (some ⟨vv, 0, none⟩) s'.n cap]) (hn : s'.n = s.n) (hvals : s'.vals = s.vals) (hok : s'.ok) : IsMem w5 mb ms m' ∧ IsW w5 b vv cap s' := by
  obtain ⟨cur, hr, hc⟩ := H.row
  refine ⟨(HM.only o (by simp; omega) (by simp; omega)).only ho (by simp) (by simp), ⟨hobj.only ho (by simp), ⟨cur, (hr.only o (by simp; omega)).only ho (by simp), ?_⟩, hok⟩⟩
  rw [hn, hvals]
  exact hc

set_option maxRecDepth 100000 in
theorem wstep_done (w : World) (b vv cap n : Nat) (at_ was : Int) (vals : List Int) (mv : Value) (h : IsW w b vv cap ⟨at_, n, n + 3, was, vals⟩) :
    Calls Try.prog 36 #[.pointer (some ⟨b, 0, none⟩), mv] w fun e w' => e = .returned (.bool true) ∧ Only [] w w' := by
  have k3 := h.ok.n1
  dsimp only at k3
  have q2 := h.obj.at 2 (v := .int .i64 (n + 3)) rfl
  have q4 := h.obj.at 4 (v := .int .i64 (n + 3)) rfl
  clear h
  go_enter Try.func36, Try.ntmps36
  go_wp2_with fail
  refine (over_at _ b (n + 3) (n + 3) q2 q4).mono ?_
  rintro e w1 ⟨rfl, ho⟩
  rw [decide_eq_true (rfl : (n : Int) + 3 = n + 3)]
  have HO := Lib.hid ho
  clear ho q2 q4
  go_wp2_with fail
  go_ret
  exact ⟨rfl, HO.out⟩

set_option maxHeartbeats 4000000 in
set_option maxRecDepth 100000 in
theorem wstep_err (w : World) (b vv cap mb ms n : Nat) (at_ was : Int) (vals : List Int) (turn : Int) (m m' : MS) (v : Int) (ok : Bool) (er : Int)  (ht : ¬ turn = n + 3) (he : ¬ er = 0)
    (h : IsW w b vv cap ⟨at_, n, turn, was, vals⟩) (hm : IsMem w mb ms m) (hact : m.act (WS.next ⟨at_, n, turn, was, vals⟩) = (m', ⟨v, ok, er⟩)) (hv : vv ≠ ms) :
    Calls Try.prog 36 #[.pointer (some ⟨b, 0, none⟩), .pointer (some ⟨mb, 0, none⟩)] w fun e w' => e = .returned (.bool (decide (((n + 3) : Int) = n + 3))) ∧ Only [b, mb, ms] w w' ∧ IsMem w' mb ms m' ∧ IsW w' b vv cap ⟨at_, n, n + 3, was, vals⟩ := by
  obtain ⟨k1, k2, k3, k4, k5, k6, k7, k8, k9⟩ := h.ok
  dsimp only at k1 k2 k3 k4 k5 k6 k7 k8 k9
  have q2 := h.obj.at 2 (v := .int .i64 (turn)) rfl
  have q4 := h.obj.at 4 (v := .int .i64 (n + 3)) rfl
  have NB := Lib.hid (wne h hm hv)
  have H := Lib.hid h
  have HM := Lib.hid hm
  have HA := Lib.hid hact
  clear h hm hact hv
  go_enter Try.func36, Try.ntmps36
  go_wp2_with fail
  refine (over_at _ b (turn) (n + 3) q2 q4).mono ?_
  rintro e w1 ⟨rfl, ho⟩
  rw [decide_eq_false (show ¬ (turn : Int) = n + 3 by omega)]
  have HO := Lib.hid (ho.sub (T := [b, mb, ms]) (by simp))
  have H := Lib.hid (H.out.only ho (by simp) (by simp))
  have HM := Lib.hid (HM.out.only ho (by simp) (by simp))
  clear ho q2 q4
  go_wp2_with fail
  refine (wnext_any _ b vv cap _ H.out).mono ?_
  rintro e w2 ⟨rfl, ho⟩
  have HO := Lib.hid (HO.out.trans (ho.sub (by simp)))
  have H := Lib.hid (H.out.only ho (by simp) (by simp))
  have HM := Lib.hid (HM.out.only ho (by simp) (by simp))
  clear ho
  go_wp2_with fail
  refine (do_act HM.out HA.out).mono ?_
  rintro e w3 ⟨rfl, ho, hm⟩
  have HO := Lib.hid (HO.out.trans (ho.sub (by simp)))
  have H := Lib.hid ((H.out.only ho (by have := NB.out; simp; omega) (by have := NB.out; simp; omega)).only ((Only.refl [] w3).alloc (.cells #[.int .u64 v, .bool ok, .int .i64 er] 42)) (by simp) (by simp))
  have HM := Lib.hid (IsMem.only hm ((Only.refl [] w3).alloc (.cells #[.int .u64 v, .bool ok, .int .i64 er] 42)) (by simp) (by simp))
  have HO := Lib.hid (HO.out.alloc (.cells #[.int .u64 v, .bool ok, .int .i64 er] 42))
  have HRS := Lib.hid (Blk.new w3 42 #[.int .u64 v, .bool ok, .int .i64 er])
  have c2 := H.out.obj.at 2 (v := .int .i64 (turn)) rfl
  have c3 := H.out.obj.at 3 (v := .int .u64 was) rfl
  have c4 := H.out.obj.at 4 (v := .int .i64 (n + 3)) rfl
  have f2 := H.out.obj.frozen 2
  have f3 := H.out.obj.frozen 3
  clear ho hm
  go_wp2_with fail
  have HF := Lib.hid (H.out.obj.set 2 (.int .i64 (n + 3)))
  have d2 := HF.out.at 2 (v := .int .i64 (n + 3)) rfl
  have d4 := HF.out.at 4 (v := .int .i64 (n + 3)) rfl
  refine (over_at _ b (n + 3) (n + 3) d2 d4).mono ?_
  rintro e w5 ⟨rfl, ho⟩
  have HE := Lib.hid (w_end H.out HM.out NB.out ((Only.refl [b] _).setCell (.inl (by simp)) _) ho ⟨at_, n, n + 3, was, vals⟩ HF.out rfl rfl ⟨k1, k2, k3, k4, by dsimp only; omega, by dsimp only; omega, by dsimp only; omega, by dsimp only; omega, k9⟩)
  have HO5 := Lib.hid ((HO.out.trans (((Only.refl [b] _).setCell (.inl (by simp)) _).sub (T := [b, mb, ms]) (by simp))).trans (ho.sub (by simp)))
  clear ho d2 d4 c2 c3 c4 f2 f3
  go_wp2_with fail
  go_ret
  exact ⟨rfl, HO5.out, HE.out⟩

set_option maxHeartbeats 4000000 in
set_option maxRecDepth 100000 in
theorem wstep_even (w : World) (b vv cap mb ms n : Nat) (at_ was : Int) (vals : List Int) (m m' : MS) (v : Int) (ok : Bool)  (v0 : 0 ≤ v) (v1 : v < 18446744073709551616) (hev : v % 2 = 0)
    (h : IsW w b vv cap ⟨at_, n, 0, was, vals⟩) (hm : IsMem w mb ms m) (hact : m.act (WS.next ⟨at_, n, 0, was, vals⟩) = (m', ⟨v, ok, 0⟩)) (hv : vv ≠ ms) :
    Calls Try.prog 36 #[.pointer (some ⟨b, 0, none⟩), .pointer (some ⟨mb, 0, none⟩)] w fun e w' => e = .returned (.bool (decide (((1) : Int) = n + 3))) ∧ Only [b, mb, ms] w w' ∧ IsMem w' mb ms m' ∧ IsW w' b vv cap ⟨at_, n, 1, v, vals⟩ := by
  obtain ⟨k1, k2, k3, k4, k5, k6, k7, k8, k9⟩ := h.ok
  dsimp only at k1 k2 k3 k4 k5 k6 k7 k8 k9
  have q2 := h.obj.at 2 (v := .int .i64 (0)) rfl
  have q4 := h.obj.at 4 (v := .int .i64 (n + 3)) rfl
  have NB := Lib.hid (wne h hm hv)
  have H := Lib.hid h
  have HM := Lib.hid hm
  have HA := Lib.hid hact
  clear h hm hact hv
  go_enter Try.func36, Try.ntmps36
  go_wp2_with fail
  refine (over_at _ b (0) (n + 3) q2 q4).mono ?_
  rintro e w1 ⟨rfl, ho⟩
  rw [decide_eq_false (show ¬ (0 : Int) = n + 3 by omega)]
  have HO := Lib.hid (ho.sub (T := [b, mb, ms]) (by simp))
  have H := Lib.hid (H.out.only ho (by simp) (by simp))
  have HM := Lib.hid (HM.out.only ho (by simp) (by simp))
  clear ho q2 q4
  go_wp2_with fail
  refine (wnext_any _ b vv cap _ H.out).mono ?_
  rintro e w2 ⟨rfl, ho⟩
  have HO := Lib.hid (HO.out.trans (ho.sub (by simp)))
  have H := Lib.hid (H.out.only ho (by simp) (by simp))
  have HM := Lib.hid (HM.out.only ho (by simp) (by simp))
  clear ho
  go_wp2_with fail
  refine (do_act HM.out HA.out).mono ?_
  rintro e w3 ⟨rfl, ho, hm⟩
  have HO := Lib.hid (HO.out.trans (ho.sub (by simp)))
  have H := Lib.hid ((H.out.only ho (by have := NB.out; simp; omega) (by have := NB.out; simp; omega)).only ((Only.refl [] w3).alloc (.cells #[.int .u64 v, .bool ok, .int .i64 0] 42)) (by simp) (by simp))
  have HM := Lib.hid (IsMem.only hm ((Only.refl [] w3).alloc (.cells #[.int .u64 v, .bool ok, .int .i64 0] 42)) (by simp) (by simp))
  have HO := Lib.hid (HO.out.alloc (.cells #[.int .u64 v, .bool ok, .int .i64 0] 42))
  have HRS := Lib.hid (Blk.new w3 42 #[.int .u64 v, .bool ok, .int .i64 0])
  have c2 := H.out.obj.at 2 (v := .int .i64 (0)) rfl
  have c3 := H.out.obj.at 3 (v := .int .u64 was) rfl
  have c4 := H.out.obj.at 4 (v := .int .i64 (n + 3)) rfl
  have f2 := H.out.obj.frozen 2
  have f3 := H.out.obj.frozen 3
  clear ho hm
  have r0 := HRS.out.at 0 (v := .int .u64 v) rfl
  go_wp2_with fail
  go_region_with (first
    | (go_at_call 64
       refine (begin_at _ b v v0 v1 (.int .i64 0) (.int .u64 was) (by exact c2) (by exact c3) (by exact f2) (by exact f3)).mono ?_
       simp only [if_pos hev]
       rintro e w4 ⟨rfl, rfl⟩))
  all_goals
    go_wp2_with fail
    have HF := Lib.hid ((H.out.obj.drew.set 3 (.int .u64 v)).set 2 (.int .i64 1))
    have d2 := HF.out.at 2 (v := .int .i64 (1)) rfl
    have d4 := HF.out.at 4 (v := .int .i64 (n + 3)) rfl
    refine (over_at _ b (1) (n + 3) d2 d4).mono ?_
    rintro e w5 ⟨rfl, ho⟩
    have HE := Lib.hid (w_end H.out HM.out NB.out (((Only.refl [b] _).drew.setCell (.inl (by simp)) _).setCell (.inl (by simp)) _) ho ⟨at_, n, 1, v, vals⟩ HF.out rfl rfl ⟨k1, k2, k3, k4, by dsimp only; omega, by dsimp only; omega, by dsimp only; omega, by dsimp only; omega, k9⟩)
    have HO5 := Lib.hid ((HO.out.trans ((((Only.refl [b] _).drew.setCell (.inl (by simp)) _).setCell (.inl (by simp)) _).sub (T := [b, mb, ms]) (by simp))).trans (ho.sub (by simp)))
    clear ho d2 d4 c2 c3 c4 f2 f3
    go_wp2_with fail
    go_ret
    exact ⟨rfl, HO5.out, HE.out⟩

set_option maxHeartbeats 4000000 in
set_option maxRecDepth 100000 in
theorem wstep_odd (w : World) (b vv cap mb ms n : Nat) (at_ was : Int) (vals : List Int) (m m' : MS) (v : Int) (ok : Bool)  (v0 : 0 ≤ v) (v1 : v < 18446744073709551616) (hod : ¬ v % 2 = 0)
    (h : IsW w b vv cap ⟨at_, n, 0, was, vals⟩) (hm : IsMem w mb ms m) (hact : m.act (WS.next ⟨at_, n, 0, was, vals⟩) = (m', ⟨v, ok, 0⟩)) (hv : vv ≠ ms) :
    Calls Try.prog 36 #[.pointer (some ⟨b, 0, none⟩), .pointer (some ⟨mb, 0, none⟩)] w fun e w' => e = .returned (.bool (decide (((0) : Int) = n + 3))) ∧ Only [b, mb, ms] w w' ∧ IsMem w' mb ms m' ∧ IsW w' b vv cap ⟨at_, n, 0, v, vals⟩ := by
  obtain ⟨k1, k2, k3, k4, k5, k6, k7, k8, k9⟩ := h.ok
  dsimp only at k1 k2 k3 k4 k5 k6 k7 k8 k9
  have q2 := h.obj.at 2 (v := .int .i64 (0)) rfl
  have q4 := h.obj.at 4 (v := .int .i64 (n + 3)) rfl
  have NB := Lib.hid (wne h hm hv)
  have H := Lib.hid h
  have HM := Lib.hid hm
  have HA := Lib.hid hact
  clear h hm hact hv
  go_enter Try.func36, Try.ntmps36
  go_wp2_with fail
  refine (over_at _ b (0) (n + 3) q2 q4).mono ?_
  rintro e w1 ⟨rfl, ho⟩
  rw [decide_eq_false (show ¬ (0 : Int) = n + 3 by omega)]
  have HO := Lib.hid (ho.sub (T := [b, mb, ms]) (by simp))
  have H := Lib.hid (H.out.only ho (by simp) (by simp))
  have HM := Lib.hid (HM.out.only ho (by simp) (by simp))
  clear ho q2 q4
  go_wp2_with fail
  refine (wnext_any _ b vv cap _ H.out).mono ?_
  rintro e w2 ⟨rfl, ho⟩
  have HO := Lib.hid (HO.out.trans (ho.sub (by simp)))
  have H := Lib.hid (H.out.only ho (by simp) (by simp))
  have HM := Lib.hid (HM.out.only ho (by simp) (by simp))
  clear ho
  go_wp2_with fail
  refine (do_act HM.out HA.out).mono ?_
  rintro e w3 ⟨rfl, ho, hm⟩
  have HO := Lib.hid (HO.out.trans (ho.sub (by simp)))
  have H := Lib.hid ((H.out.only ho (by have := NB.out; simp; omega) (by have := NB.out; simp; omega)).only ((Only.refl [] w3).alloc (.cells #[.int .u64 v, .bool ok, .int .i64 0] 42)) (by simp) (by simp))
  have HM := Lib.hid (IsMem.only hm ((Only.refl [] w3).alloc (.cells #[.int .u64 v, .bool ok, .int .i64 0] 42)) (by simp) (by simp))
  have HO := Lib.hid (HO.out.alloc (.cells #[.int .u64 v, .bool ok, .int .i64 0] 42))
  have HRS := Lib.hid (Blk.new w3 42 #[.int .u64 v, .bool ok, .int .i64 0])
  have c2 := H.out.obj.at 2 (v := .int .i64 (0)) rfl
  have c3 := H.out.obj.at 3 (v := .int .u64 was) rfl
  have c4 := H.out.obj.at 4 (v := .int .i64 (n + 3)) rfl
  have f2 := H.out.obj.frozen 2
  have f3 := H.out.obj.frozen 3
  clear ho hm
  have r0 := HRS.out.at 0 (v := .int .u64 v) rfl
  go_wp2_with fail
  go_region_with (first
    | (go_at_call 64
       refine (begin_at _ b v v0 v1 (.int .i64 0) (.int .u64 was) (by exact c2) (by exact c3) (by exact f2) (by exact f3)).mono ?_
       simp only [if_neg hod]
       rintro e w4 ⟨rfl, rfl⟩))
  all_goals
    go_wp2_with fail
    have HF := Lib.hid (H.out.obj.drew.set 3 (.int .u64 v))
    have d2 := HF.out.at 2 (v := .int .i64 (0)) rfl
    have d4 := HF.out.at 4 (v := .int .i64 (n + 3)) rfl
    refine (over_at _ b (0) (n + 3) d2 d4).mono ?_
    rintro e w5 ⟨rfl, ho⟩
    have HE := Lib.hid (w_end H.out HM.out NB.out ((Only.refl [b] _).drew.setCell (.inl (by simp)) _) ho ⟨at_, n, 0, v, vals⟩ HF.out rfl rfl ⟨k1, k2, k3, k4, by dsimp only; omega, by dsimp only; omega, by dsimp only; omega, by dsimp only; omega, k9⟩)
    have HO5 := Lib.hid ((HO.out.trans (((Only.refl [b] _).drew.setCell (.inl (by simp)) _).sub (T := [b, mb, ms]) (by simp))).trans (ho.sub (by simp)))
    clear ho d2 d4 c2 c3 c4 f2 f3
    go_wp2_with fail
    go_ret
    exact ⟨rfl, HO5.out, HE.out⟩

set_option maxHeartbeats 4000000 in
set_option maxRecDepth 100000 in
theorem wstep_lost (w : World) (b vv cap mb ms n : Nat) (at_ was : Int) (vals : List Int) (m m' : MS) (v : Int) 
    (h : IsW w b vv cap ⟨at_, n, 1, was, vals⟩) (hm : IsMem w mb ms m) (hact : m.act (WS.next ⟨at_, n, 1, was, vals⟩) = (m', ⟨v, false, 0⟩)) (hv : vv ≠ ms) :
    Calls Try.prog 36 #[.pointer (some ⟨b, 0, none⟩), .pointer (some ⟨mb, 0, none⟩)] w fun e w' => e = .returned (.bool (decide (((0) : Int) = n + 3))) ∧ Only [b, mb, ms] w w' ∧ IsMem w' mb ms m' ∧ IsW w' b vv cap ⟨at_, n, 0, was, vals⟩ := by
  obtain ⟨k1, k2, k3, k4, k5, k6, k7, k8, k9⟩ := h.ok
  dsimp only at k1 k2 k3 k4 k5 k6 k7 k8 k9
  have q2 := h.obj.at 2 (v := .int .i64 (1)) rfl
  have q4 := h.obj.at 4 (v := .int .i64 (n + 3)) rfl
  have NB := Lib.hid (wne h hm hv)
  have H := Lib.hid h
  have HM := Lib.hid hm
  have HA := Lib.hid hact
  clear h hm hact hv
  go_enter Try.func36, Try.ntmps36
  go_wp2_with fail
  refine (over_at _ b (1) (n + 3) q2 q4).mono ?_
  rintro e w1 ⟨rfl, ho⟩
  rw [decide_eq_false (show ¬ (1 : Int) = n + 3 by omega)]
  have HO := Lib.hid (ho.sub (T := [b, mb, ms]) (by simp))
  have H := Lib.hid (H.out.only ho (by simp) (by simp))
  have HM := Lib.hid (HM.out.only ho (by simp) (by simp))
  clear ho q2 q4
  go_wp2_with fail
  refine (wnext_any _ b vv cap _ H.out).mono ?_
  rintro e w2 ⟨rfl, ho⟩
  have HO := Lib.hid (HO.out.trans (ho.sub (by simp)))
  have H := Lib.hid (H.out.only ho (by simp) (by simp))
  have HM := Lib.hid (HM.out.only ho (by simp) (by simp))
  clear ho
  go_wp2_with fail
  refine (do_act HM.out HA.out).mono ?_
  rintro e w3 ⟨rfl, ho, hm⟩
  have HO := Lib.hid (HO.out.trans (ho.sub (by simp)))
  have H := Lib.hid ((H.out.only ho (by have := NB.out; simp; omega) (by have := NB.out; simp; omega)).only ((Only.refl [] w3).alloc (.cells #[.int .u64 v, .bool false, .int .i64 0] 42)) (by simp) (by simp))
  have HM := Lib.hid (IsMem.only hm ((Only.refl [] w3).alloc (.cells #[.int .u64 v, .bool false, .int .i64 0] 42)) (by simp) (by simp))
  have HO := Lib.hid (HO.out.alloc (.cells #[.int .u64 v, .bool false, .int .i64 0] 42))
  have HRS := Lib.hid (Blk.new w3 42 #[.int .u64 v, .bool false, .int .i64 0])
  have c2 := H.out.obj.at 2 (v := .int .i64 (1)) rfl
  have c3 := H.out.obj.at 3 (v := .int .u64 was) rfl
  have c4 := H.out.obj.at 4 (v := .int .i64 (n + 3)) rfl
  have f2 := H.out.obj.frozen 2
  have f3 := H.out.obj.frozen 3
  clear ho hm
  have r1 := HRS.out.at 1 (v := .bool false) rfl
  go_wp2_with fail
  have HF := Lib.hid (H.out.obj.set 2 (.int .i64 0))
  have d2 := HF.out.at 2 (v := .int .i64 (0)) rfl
  have d4 := HF.out.at 4 (v := .int .i64 (n + 3)) rfl
  refine (over_at _ b (0) (n + 3) d2 d4).mono ?_
  rintro e w5 ⟨rfl, ho⟩
  have HE := Lib.hid (w_end H.out HM.out NB.out ((Only.refl [b] _).setCell (.inl (by simp)) _) ho ⟨at_, n, 0, was, vals⟩ HF.out rfl rfl ⟨k1, k2, k3, k4, by dsimp only; omega, by dsimp only; omega, by dsimp only; omega, by dsimp only; omega, k9⟩)
  have HO5 := Lib.hid ((HO.out.trans (((Only.refl [b] _).setCell (.inl (by simp)) _).sub (T := [b, mb, ms]) (by simp))).trans (ho.sub (by simp)))
  clear ho d2 d4 c2 c3 c4 f2 f3
  go_wp2_with fail
  go_ret
  exact ⟨rfl, HO5.out, HE.out⟩

set_option maxHeartbeats 4000000 in
set_option maxRecDepth 100000 in
theorem wstep_won (w : World) (b vv cap mb ms n : Nat) (at_ was : Int) (vals : List Int) (m m' : MS) (v : Int) 
    (h : IsW w b vv cap ⟨at_, n, 1, was, vals⟩) (hm : IsMem w mb ms m) (hact : m.act (WS.next ⟨at_, n, 1, was, vals⟩) = (m', ⟨v, true, 0⟩)) (hv : vv ≠ ms) :
    Calls Try.prog 36 #[.pointer (some ⟨b, 0, none⟩), .pointer (some ⟨mb, 0, none⟩)] w fun e w' => e = .returned (.bool (decide (((2) : Int) = n + 3))) ∧ Only [b, mb, ms] w w' ∧ IsMem w' mb ms m' ∧ IsW w' b vv cap ⟨at_, n, 2, was, vals⟩ := by
  obtain ⟨k1, k2, k3, k4, k5, k6, k7, k8, k9⟩ := h.ok
  dsimp only at k1 k2 k3 k4 k5 k6 k7 k8 k9
  have q2 := h.obj.at 2 (v := .int .i64 (1)) rfl
  have q4 := h.obj.at 4 (v := .int .i64 (n + 3)) rfl
  have NB := Lib.hid (wne h hm hv)
  have H := Lib.hid h
  have HM := Lib.hid hm
  have HA := Lib.hid hact
  clear h hm hact hv
  go_enter Try.func36, Try.ntmps36
  go_wp2_with fail
  refine (over_at _ b (1) (n + 3) q2 q4).mono ?_
  rintro e w1 ⟨rfl, ho⟩
  rw [decide_eq_false (show ¬ (1 : Int) = n + 3 by omega)]
  have HO := Lib.hid (ho.sub (T := [b, mb, ms]) (by simp))
  have H := Lib.hid (H.out.only ho (by simp) (by simp))
  have HM := Lib.hid (HM.out.only ho (by simp) (by simp))
  clear ho q2 q4
  go_wp2_with fail
  refine (wnext_any _ b vv cap _ H.out).mono ?_
  rintro e w2 ⟨rfl, ho⟩
  have HO := Lib.hid (HO.out.trans (ho.sub (by simp)))
  have H := Lib.hid (H.out.only ho (by simp) (by simp))
  have HM := Lib.hid (HM.out.only ho (by simp) (by simp))
  clear ho
  go_wp2_with fail
  refine (do_act HM.out HA.out).mono ?_
  rintro e w3 ⟨rfl, ho, hm⟩
  have HO := Lib.hid (HO.out.trans (ho.sub (by simp)))
  have H := Lib.hid ((H.out.only ho (by have := NB.out; simp; omega) (by have := NB.out; simp; omega)).only ((Only.refl [] w3).alloc (.cells #[.int .u64 v, .bool true, .int .i64 0] 42)) (by simp) (by simp))
  have HM := Lib.hid (IsMem.only hm ((Only.refl [] w3).alloc (.cells #[.int .u64 v, .bool true, .int .i64 0] 42)) (by simp) (by simp))
  have HO := Lib.hid (HO.out.alloc (.cells #[.int .u64 v, .bool true, .int .i64 0] 42))
  have HRS := Lib.hid (Blk.new w3 42 #[.int .u64 v, .bool true, .int .i64 0])
  have c2 := H.out.obj.at 2 (v := .int .i64 (1)) rfl
  have c3 := H.out.obj.at 3 (v := .int .u64 was) rfl
  have c4 := H.out.obj.at 4 (v := .int .i64 (n + 3)) rfl
  have f2 := H.out.obj.frozen 2
  have f3 := H.out.obj.frozen 3
  clear ho hm
  have r1 := HRS.out.at 1 (v := .bool true) rfl
  go_wp2_with fail
  have HF := Lib.hid (H.out.obj.set 2 (.int .i64 2))
  have d2 := HF.out.at 2 (v := .int .i64 (2)) rfl
  have d4 := HF.out.at 4 (v := .int .i64 (n + 3)) rfl
  refine (over_at _ b (2) (n + 3) d2 d4).mono ?_
  rintro e w5 ⟨rfl, ho⟩
  have HE := Lib.hid (w_end H.out HM.out NB.out ((Only.refl [b] _).setCell (.inl (by simp)) _) ho ⟨at_, n, 2, was, vals⟩ HF.out rfl rfl ⟨k1, k2, k3, k4, by dsimp only; omega, by dsimp only; omega, by dsimp only; omega, by dsimp only; omega, k9⟩)
  have HO5 := Lib.hid ((HO.out.trans (((Only.refl [b] _).setCell (.inl (by simp)) _).sub (T := [b, mb, ms]) (by simp))).trans (ho.sub (by simp)))
  clear ho d2 d4 c2 c3 c4 f2 f3
  go_wp2_with fail
  go_ret
  exact ⟨rfl, HO5.out, HE.out⟩

set_option maxHeartbeats 4000000 in
set_option maxRecDepth 100000 in
theorem wstep_on (w : World) (b vv cap mb ms n : Nat) (at_ was : Int) (vals : List Int) (t : Int) (m m' : MS) (v : Int) (ok : Bool)  (ht2 : 2 ≤ t) (htn : t < n + 3)
    (h : IsW w b vv cap ⟨at_, n, t, was, vals⟩) (hm : IsMem w mb ms m) (hact : m.act (WS.next ⟨at_, n, t, was, vals⟩) = (m', ⟨v, ok, 0⟩)) (hv : vv ≠ ms) :
    Calls Try.prog 36 #[.pointer (some ⟨b, 0, none⟩), .pointer (some ⟨mb, 0, none⟩)] w fun e w' => e = .returned (.bool (decide (((t + 1) : Int) = n + 3))) ∧ Only [b, mb, ms] w w' ∧ IsMem w' mb ms m' ∧ IsW w' b vv cap ⟨at_, n, t + 1, was, vals⟩ := by
  obtain ⟨k1, k2, k3, k4, k5, k6, k7, k8, k9⟩ := h.ok
  dsimp only at k1 k2 k3 k4 k5 k6 k7 k8 k9
  have q2 := h.obj.at 2 (v := .int .i64 (t)) rfl
  have q4 := h.obj.at 4 (v := .int .i64 (n + 3)) rfl
  have NB := Lib.hid (wne h hm hv)
  have H := Lib.hid h
  have HM := Lib.hid hm
  have HA := Lib.hid hact
  clear h hm hact hv
  go_enter Try.func36, Try.ntmps36
  go_wp2_with fail
  refine (over_at _ b (t) (n + 3) q2 q4).mono ?_
  rintro e w1 ⟨rfl, ho⟩
  rw [decide_eq_false (show ¬ (t : Int) = n + 3 by omega)]
  have HO := Lib.hid (ho.sub (T := [b, mb, ms]) (by simp))
  have H := Lib.hid (H.out.only ho (by simp) (by simp))
  have HM := Lib.hid (HM.out.only ho (by simp) (by simp))
  clear ho q2 q4
  go_wp2_with fail
  refine (wnext_any _ b vv cap _ H.out).mono ?_
  rintro e w2 ⟨rfl, ho⟩
  have HO := Lib.hid (HO.out.trans (ho.sub (by simp)))
  have H := Lib.hid (H.out.only ho (by simp) (by simp))
  have HM := Lib.hid (HM.out.only ho (by simp) (by simp))
  clear ho
  go_wp2_with fail
  refine (do_act HM.out HA.out).mono ?_
  rintro e w3 ⟨rfl, ho, hm⟩
  have HO := Lib.hid (HO.out.trans (ho.sub (by simp)))
  have H := Lib.hid ((H.out.only ho (by have := NB.out; simp; omega) (by have := NB.out; simp; omega)).only ((Only.refl [] w3).alloc (.cells #[.int .u64 v, .bool ok, .int .i64 0] 42)) (by simp) (by simp))
  have HM := Lib.hid (IsMem.only hm ((Only.refl [] w3).alloc (.cells #[.int .u64 v, .bool ok, .int .i64 0] 42)) (by simp) (by simp))
  have HO := Lib.hid (HO.out.alloc (.cells #[.int .u64 v, .bool ok, .int .i64 0] 42))
  have HRS := Lib.hid (Blk.new w3 42 #[.int .u64 v, .bool ok, .int .i64 0])
  have c2 := H.out.obj.at 2 (v := .int .i64 (t)) rfl
  have c3 := H.out.obj.at 3 (v := .int .u64 was) rfl
  have c4 := H.out.obj.at 4 (v := .int .i64 (n + 3)) rfl
  have f2 := H.out.obj.frozen 2
  have f3 := H.out.obj.frozen 3
  clear ho hm
  have e0 : ¬ (t = 0) := by omega
  have e1 : ¬ (t = 1) := by omega
  have ew : (t + 1 + 9223372036854775808) % 18446744073709551616 - 9223372036854775808 = t + 1 := by omega
  go_wp2_with fail
  have HF := Lib.hid (H.out.obj.set 2 (.int .i64 (t + 1)))
  have d2 := HF.out.at 2 (v := .int .i64 (t + 1)) rfl
  have d4 := HF.out.at 4 (v := .int .i64 (n + 3)) rfl
  refine (over_at _ b (t + 1) (n + 3) d2 d4).mono ?_
  rintro e w5 ⟨rfl, ho⟩
  have HE := Lib.hid (w_end H.out HM.out NB.out ((Only.refl [b] _).setCell (.inl (by simp)) _) ho ⟨at_, n, t + 1, was, vals⟩ HF.out rfl rfl ⟨k1, k2, k3, k4, by dsimp only; omega, by dsimp only; omega, by dsimp only; omega, by dsimp only; omega, k9⟩)
  have HO5 := Lib.hid ((HO.out.trans (((Only.refl [b] _).setCell (.inl (by simp)) _).sub (T := [b, mb, ms]) (by simp))).trans (ho.sub (by simp)))
  clear ho d2 d4 c2 c3 c4 f2 f3
  go_wp2_with fail
  go_ret
  exact ⟨rfl, HO5.out, HE.out⟩


end Go.Proofs.Ytnoplfjodedijaa
