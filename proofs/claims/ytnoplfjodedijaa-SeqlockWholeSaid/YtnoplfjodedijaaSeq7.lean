/- A reader's step, once a way. Written by seq7gen.py. -/
import Derived.Test.YtnoplfjodedijaaSeq6
import Derived.Deep.AppendLies
namespace Go.Proofs.Ytnoplfjodedijaa
open Go.RowKit

theorem rne {w : World} {b mb ms : Nat} {sl : Value} {s : RS} {m : MS} (h : IsR w b sl s) (hm : IsMem w mb ms m) : b ≠ mb ∧ b ≠ ms ∧ sl.ownBlock ≠ some b := by
  refine ⟨h.obj.ne hm.obj (by decide), h.obj.ne hm.row (by decide), fun e => ?_⟩
  rcases h.row.2 with ⟨hsl, _⟩ | ⟨g, cap, cur, hsl, _, hh, _⟩
  · rw [hsl] at e; cases e
  · rw [hsl] at e
    have : g = b := by simpa [Value.ownBlock] using e
    subst this
    exact absurd (Blk.inj h.obj (show Blk w g 22 cur from hh)).1 (by decide)

theorem r_end {W W2 w5 : World} {b mb ms : Nat} {sl sl0 : Value} {s : RS} {m' : MS} (H : IsR W b sl s) (HM : IsMem W mb ms m') (NB : b ≠ mb ∧ b ≠ ms ∧ sl0.ownBlock ≠ some b) (o : Only [b] W W2) (ho : Only [] W2 w5) (s' : RS)
    (hobj : Blk W2 b 111 (rCells s' sl)) (hvals : s'.vals = s.vals) (hok : s'.ok) : IsMem w5 mb ms m' ∧ IsR w5 b sl s' := by
  refine ⟨(HM.only o (by simp; omega) (by simp; omega)).only ho (by simp) (by simp), ⟨hobj.only ho (by simp), ?_, hok⟩⟩
  rw [hvals]
  exact row_other (row_other H.row o (fun x hx => by
    rw [List.mem_singleton.1 hx]
    intro e
    rcases H.row.2 with ⟨hsl, _⟩ | ⟨g, cap, cur, hsl, _, hh, _⟩
    · rw [hsl] at e; cases e
    · rw [hsl] at e
      have : g = b := by simpa [Value.ownBlock] using e
      subst this
      exact absurd (Blk.inj H.obj (show Blk W g 22 cur from hh)).1 (by decide))) ho (by simp)

set_option maxRecDepth 100000 in
theorem srstep_done (w : World) (b n : Nat) (at_ was tries : Int) (vals : List Int) (bad : Bool) (sl mv : Value) (h : IsR w b sl ⟨at_, n, n + 2, was, vals, tries, bad⟩) :
    Calls Try.prog 37 #[.pointer (some ⟨b, 0, none⟩), mv] w fun e w' => e = .returned (.bool true) ∧ Only [] w w' := by
  have k3 := h.ok.n1
  dsimp only at k3
  have q2 := h.obj.at 2 (v := .int .i64 (n + 2)) rfl
  have q4 := h.obj.at 4 (v := .int .i64 (n + 2)) rfl
  clear h
  go_enter Try.func37, Try.ntmps37
  go_wp2_with fail
  refine (over_at _ b (n + 2) (n + 2) q2 q4).mono ?_
  rintro e w1 ⟨rfl, ho⟩
  rw [decide_eq_true (rfl : (n : Int) + 2 = n + 2)]
  have HO := Lib.hid ho
  clear ho q2 q4
  go_wp2_with fail
  go_ret
  exact ⟨rfl, HO.out⟩

set_option maxHeartbeats 4000000 in
set_option maxRecDepth 100000 in
theorem srstep_err0 (w : World) (b mb ms n : Nat) (at_ was tries : Int) (vals : List Int) (bad : Bool) (sl : Value) (m m' : MS) (v : Int) (ok : Bool) (er : Int) (he : ¬ er = 0)
    (h : IsR w b sl ⟨at_, n, 0, was, vals, tries, bad⟩) (hm : IsMem w mb ms m) (hact : m.act (RS.next ⟨at_, n, 0, was, [], wrap64 (tries + 1), bad⟩) = (m', ⟨v, ok, er⟩)) (hs : ∀ x ∈ [mb, ms], sl.ownBlock ≠ some x) :
    Calls Try.prog 37 #[.pointer (some ⟨b, 0, none⟩), .pointer (some ⟨mb, 0, none⟩)] w fun e w' => ∃ sl', e = .returned (.bool (decide (((n + 2) : Int) = n + 2))) ∧ Only (b :: mb :: ms :: sl.ownBlock.toList) w w' ∧ IsMem w' mb ms m' ∧ IsR w' b sl' ⟨at_, n, n + 2, was, [], wrap64 (tries + 1), true⟩ ∧ ∀ x, sl'.ownBlock = some x → sl.ownBlock = some x ∨ w.heap.size ≤ x := by
  obtain ⟨k1, k2, k3, k4, k5, k6, k7, k8, k9⟩ := h.ok
  dsimp only at k1 k2 k3 k4 k5 k6 k7 k8 k9
  have q2 := h.obj.at 2 (v := .int .i64 (0)) rfl
  have q4 := h.obj.at 4 (v := .int .i64 (n + 2)) rfl
  have NB := Lib.hid (rne h hm)
  have HS := Lib.hid hs
  have H := Lib.hid h
  have HM := Lib.hid hm
  have HA := Lib.hid hact
  clear h hm hact hs
  go_enter Try.func37, Try.ntmps37
  go_wp2_with fail
  refine (over_at _ b (0) (n + 2) q2 q4).mono ?_
  rintro e w1 ⟨rfl, ho⟩
  rw [decide_eq_false (show ¬ (0 : Int) = n + 2 by omega)]
  have HO := Lib.hid ho
  have HO1 := Lib.hid (show w.heap.size ≤ w1.heap.size from ho.size)
  have H := Lib.hid (H.out.quiet ho)
  have HM := Lib.hid (HM.out.only ho (by simp) (by simp))
  have HO := Lib.hid (ho.sub (T := b :: mb :: ms :: sl.ownBlock.toList) (by simp))
  have c2 := H.out.obj.at 2 (v := .int .i64 (0)) rfl
  clear ho q2 q4
  have c5 := H.out.obj.at 5 (v := sl) rfl
  have c6 := H.out.obj.at 6 (v := .int .i64 tries) rfl
  have f5 := H.out.obj.frozen 5
  have f6 := H.out.obj.frozen 6
  have e6 : (tries + 1 + 9223372036854775808) % 18446744073709551616 - 9223372036854775808 = wrap64 (tries + 1) := by unfold wrap64; rfl
  have H2 : IsR ((w1.setCell ⟨b, 6, none⟩ (.int .i64 (wrap64 (tries + 1)))).setCell ⟨b, 5, none⟩ (.slice none 0 0)) b (.slice none 0 0) ⟨at_, n, 0, was, [], wrap64 (tries + 1), bad⟩ :=
    ⟨(H.out.obj.set 6 _).set 5 _, World.ownsRow_nil _ _ _ _, ⟨k1, k2, k3, k4, k5, k6, k7, k8, by simp⟩⟩
  have o2 : Only [b] w1 ((w1.setCell ⟨b, 6, none⟩ (.int .i64 (wrap64 (tries + 1)))).setCell ⟨b, 5, none⟩ (.slice none 0 0)) := ((Only.refl [b] w1).setCell (.inl (by simp)) _).setCell (.inl (by simp)) _
  have HM := Lib.hid (HM.out.only o2 (by have := NB.out; simp; omega) (by have := NB.out; simp; omega))
  have HO := Lib.hid (HO.out.trans (o2.sub (by simp)))
  have HO1 := Lib.hid (Nat.le_trans HO1.out o2.size)
  have H := Lib.hid H2
  clear H2 o2
  go_wp2_with fail
  refine (srnext_any _ b (.slice none 0 0) _ H.out).mono ?_
  rintro e w2 ⟨rfl, ho⟩
  have HO := Lib.hid (HO.out.trans (ho.sub (by simp)))
  have HO1 := Lib.hid (Nat.le_trans HO1.out ho.size)
  have H := Lib.hid (H.out.quiet ho)
  have HM := Lib.hid (HM.out.only ho (by simp) (by simp))
  clear ho c2 c5 c6 f5 f6 e6
  go_wp2_with fail
  refine (do_act HM.out HA.out).mono ?_
  rintro e w3 ⟨rfl, ho, hm⟩
  have HO := Lib.hid (HO.out.trans (ho.sub (by simp)))
  have HO1 := Lib.hid (Nat.le_trans HO1.out (Nat.le_trans ho.size (Nat.le_succ _)))
  have H := Lib.hid ((H.out.only ho (by have := NB.out; simp; omega) (by simp [Value.ownBlock])).quiet ((Only.refl [] w3).alloc (.cells #[.int .u64 v, .bool ok, .int .i64 er] 42)))
  have HM := Lib.hid (IsMem.only hm ((Only.refl [] w3).alloc (.cells #[.int .u64 v, .bool ok, .int .i64 er] 42)) (by simp) (by simp))
  have HO := Lib.hid (HO.out.alloc (.cells #[.int .u64 v, .bool ok, .int .i64 er] 42))
  have HRS := Lib.hid (Blk.new w3 42 #[.int .u64 v, .bool ok, .int .i64 er])
  have c2 := H.out.obj.at 2 (v := .int .i64 (0)) rfl
  have c3 := H.out.obj.at 3 (v := .int .u64 was) rfl
  have c4 := H.out.obj.at 4 (v := .int .i64 (n + 2)) rfl
  have c7 := H.out.obj.at 7 (v := .bool bad) rfl
  have f2 := H.out.obj.frozen 2
  have f3 := H.out.obj.frozen 3
  have f7 := H.out.obj.frozen 7
  clear ho hm
  go_wp2_with fail
  have HF := Lib.hid ((H.out.obj.set 2 (.int .i64 (n + 2))).set 7 (.bool true))
  have d2 := HF.out.at 2 (v := .int .i64 (n + 2)) rfl
  have d4 := HF.out.at 4 (v := .int .i64 (n + 2)) rfl
  refine (over_at _ b (n + 2) (n + 2) d2 d4).mono ?_
  rintro e w5 ⟨rfl, ho⟩
  have HE := Lib.hid (r_end H.out HM.out NB.out (((Only.refl [b] _).setCell (.inl (by simp)) _).setCell (.inl (by simp)) _) ho ⟨at_, n, n + 2, was, [], wrap64 (tries + 1), true⟩ HF.out rfl ⟨k1, k2, k3, k4, by dsimp only; omega, by dsimp only; omega, by dsimp only; omega, by dsimp only; omega, by simp⟩)
  have HO5 := Lib.hid ((HO.out.trans ((((Only.refl [b] _).setCell (.inl (by simp)) _).setCell (.inl (by simp)) _).sub (T := b :: mb :: ms :: sl.ownBlock.toList) (by simp))).trans (ho.sub (by simp)))
  clear ho d2 d4 c2 c3 c4 c7 f2 f3 f7
  go_wp2_with fail
  go_ret
  exact ⟨(.slice none 0 0), rfl, HO5.out, HE.out.1, HE.out.2, fun x hx => by cases hx⟩

set_option maxHeartbeats 4000000 in
set_option maxRecDepth 100000 in
theorem srstep_err (w : World) (b mb ms n : Nat) (at_ was tries : Int) (vals : List Int) (bad : Bool) (sl : Value) (t : Int) (m m' : MS) (v : Int) (ok : Bool) (er : Int) (ht0 : ¬ t = 0) (ht : ¬ t = n + 2) (he : ¬ er = 0)
    (h : IsR w b sl ⟨at_, n, t, was, vals, tries, bad⟩) (hm : IsMem w mb ms m) (hact : m.act (RS.next ⟨at_, n, t, was, vals, tries, bad⟩) = (m', ⟨v, ok, er⟩)) (hs : ∀ x ∈ [mb, ms], sl.ownBlock ≠ some x) :
    Calls Try.prog 37 #[.pointer (some ⟨b, 0, none⟩), .pointer (some ⟨mb, 0, none⟩)] w fun e w' => ∃ sl', e = .returned (.bool (decide (((n + 2) : Int) = n + 2))) ∧ Only (b :: mb :: ms :: sl.ownBlock.toList) w w' ∧ IsMem w' mb ms m' ∧ IsR w' b sl' ⟨at_, n, n + 2, was, vals, tries, true⟩ ∧ ∀ x, sl'.ownBlock = some x → sl.ownBlock = some x ∨ w.heap.size ≤ x := by
  obtain ⟨k1, k2, k3, k4, k5, k6, k7, k8, k9⟩ := h.ok
  dsimp only at k1 k2 k3 k4 k5 k6 k7 k8 k9
  have q2 := h.obj.at 2 (v := .int .i64 (t)) rfl
  have q4 := h.obj.at 4 (v := .int .i64 (n + 2)) rfl
  have NB := Lib.hid (rne h hm)
  have HS := Lib.hid hs
  have H := Lib.hid h
  have HM := Lib.hid hm
  have HA := Lib.hid hact
  clear h hm hact hs
  go_enter Try.func37, Try.ntmps37
  go_wp2_with fail
  refine (over_at _ b (t) (n + 2) q2 q4).mono ?_
  rintro e w1 ⟨rfl, ho⟩
  rw [decide_eq_false (show ¬ (t : Int) = n + 2 by omega)]
  have HO := Lib.hid ho
  have HO1 := Lib.hid (show w.heap.size ≤ w1.heap.size from ho.size)
  have H := Lib.hid (H.out.quiet ho)
  have HM := Lib.hid (HM.out.only ho (by simp) (by simp))
  have HO := Lib.hid (ho.sub (T := b :: mb :: ms :: sl.ownBlock.toList) (by simp))
  have c2 := H.out.obj.at 2 (v := .int .i64 (t)) rfl
  clear ho q2 q4
  go_wp2_with fail
  refine (srnext_any _ b sl _ H.out).mono ?_
  rintro e w2 ⟨rfl, ho⟩
  have HO := Lib.hid (HO.out.trans (ho.sub (by simp)))
  have HO1 := Lib.hid (Nat.le_trans HO1.out ho.size)
  have H := Lib.hid (H.out.quiet ho)
  have HM := Lib.hid (HM.out.only ho (by simp) (by simp))
  clear ho c2
  go_wp2_with fail
  refine (do_act HM.out HA.out).mono ?_
  rintro e w3 ⟨rfl, ho, hm⟩
  have HO := Lib.hid (HO.out.trans (ho.sub (by simp)))
  have HO1 := Lib.hid (Nat.le_trans HO1.out (Nat.le_trans ho.size (Nat.le_succ _)))
  have H := Lib.hid ((H.out.only ho (by have := NB.out; simp; omega) (HS.out)).quiet ((Only.refl [] w3).alloc (.cells #[.int .u64 v, .bool ok, .int .i64 er] 42)))
  have HM := Lib.hid (IsMem.only hm ((Only.refl [] w3).alloc (.cells #[.int .u64 v, .bool ok, .int .i64 er] 42)) (by simp) (by simp))
  have HO := Lib.hid (HO.out.alloc (.cells #[.int .u64 v, .bool ok, .int .i64 er] 42))
  have HRS := Lib.hid (Blk.new w3 42 #[.int .u64 v, .bool ok, .int .i64 er])
  have c2 := H.out.obj.at 2 (v := .int .i64 (t)) rfl
  have c3 := H.out.obj.at 3 (v := .int .u64 was) rfl
  have c4 := H.out.obj.at 4 (v := .int .i64 (n + 2)) rfl
  have c7 := H.out.obj.at 7 (v := .bool bad) rfl
  have f2 := H.out.obj.frozen 2
  have f3 := H.out.obj.frozen 3
  have f7 := H.out.obj.frozen 7
  clear ho hm
  go_wp2_with fail
  have HF := Lib.hid ((H.out.obj.set 2 (.int .i64 (n + 2))).set 7 (.bool true))
  have d2 := HF.out.at 2 (v := .int .i64 (n + 2)) rfl
  have d4 := HF.out.at 4 (v := .int .i64 (n + 2)) rfl
  refine (over_at _ b (n + 2) (n + 2) d2 d4).mono ?_
  rintro e w5 ⟨rfl, ho⟩
  have HE := Lib.hid (r_end H.out HM.out NB.out (((Only.refl [b] _).setCell (.inl (by simp)) _).setCell (.inl (by simp)) _) ho ⟨at_, n, n + 2, was, vals, tries, true⟩ HF.out rfl ⟨k1, k2, k3, k4, by dsimp only; omega, by dsimp only; omega, by dsimp only; omega, by dsimp only; omega, k9⟩)
  have HO5 := Lib.hid ((HO.out.trans ((((Only.refl [b] _).setCell (.inl (by simp)) _).setCell (.inl (by simp)) _).sub (T := b :: mb :: ms :: sl.ownBlock.toList) (by simp))).trans (ho.sub (by simp)))
  clear ho d2 d4 c2 c3 c4 c7 f2 f3 f7
  go_wp2_with fail
  go_ret
  exact ⟨sl, rfl, HO5.out, HE.out.1, HE.out.2, fun x hx => .inl hx⟩

set_option maxHeartbeats 4000000 in
set_option maxRecDepth 100000 in
theorem srstep_even (w : World) (b mb ms n : Nat) (at_ was tries : Int) (vals : List Int) (bad : Bool) (sl : Value) (m m' : MS) (v : Int) (ok : Bool) (v0 : 0 ≤ v) (v1 : v < 18446744073709551616) (hev : v % 2 = 0)
    (h : IsR w b sl ⟨at_, n, 0, was, vals, tries, bad⟩) (hm : IsMem w mb ms m) (hact : m.act (RS.next ⟨at_, n, 0, was, [], wrap64 (tries + 1), bad⟩) = (m', ⟨v, ok, 0⟩)) (hs : ∀ x ∈ [mb, ms], sl.ownBlock ≠ some x) :
    Calls Try.prog 37 #[.pointer (some ⟨b, 0, none⟩), .pointer (some ⟨mb, 0, none⟩)] w fun e w' => ∃ sl', e = .returned (.bool (decide (((1) : Int) = n + 2))) ∧ Only (b :: mb :: ms :: sl.ownBlock.toList) w w' ∧ IsMem w' mb ms m' ∧ IsR w' b sl' ⟨at_, n, 1, v, [], wrap64 (tries + 1), bad⟩ ∧ ∀ x, sl'.ownBlock = some x → sl.ownBlock = some x ∨ w.heap.size ≤ x := by
  obtain ⟨k1, k2, k3, k4, k5, k6, k7, k8, k9⟩ := h.ok
  dsimp only at k1 k2 k3 k4 k5 k6 k7 k8 k9
  have q2 := h.obj.at 2 (v := .int .i64 (0)) rfl
  have q4 := h.obj.at 4 (v := .int .i64 (n + 2)) rfl
  have NB := Lib.hid (rne h hm)
  have HS := Lib.hid hs
  have H := Lib.hid h
  have HM := Lib.hid hm
  have HA := Lib.hid hact
  clear h hm hact hs
  go_enter Try.func37, Try.ntmps37
  go_wp2_with fail
  refine (over_at _ b (0) (n + 2) q2 q4).mono ?_
  rintro e w1 ⟨rfl, ho⟩
  rw [decide_eq_false (show ¬ (0 : Int) = n + 2 by omega)]
  have HO := Lib.hid ho
  have HO1 := Lib.hid (show w.heap.size ≤ w1.heap.size from ho.size)
  have H := Lib.hid (H.out.quiet ho)
  have HM := Lib.hid (HM.out.only ho (by simp) (by simp))
  have HO := Lib.hid (ho.sub (T := b :: mb :: ms :: sl.ownBlock.toList) (by simp))
  have c2 := H.out.obj.at 2 (v := .int .i64 (0)) rfl
  clear ho q2 q4
  have c5 := H.out.obj.at 5 (v := sl) rfl
  have c6 := H.out.obj.at 6 (v := .int .i64 tries) rfl
  have f5 := H.out.obj.frozen 5
  have f6 := H.out.obj.frozen 6
  have e6 : (tries + 1 + 9223372036854775808) % 18446744073709551616 - 9223372036854775808 = wrap64 (tries + 1) := by unfold wrap64; rfl
  have H2 : IsR ((w1.setCell ⟨b, 6, none⟩ (.int .i64 (wrap64 (tries + 1)))).setCell ⟨b, 5, none⟩ (.slice none 0 0)) b (.slice none 0 0) ⟨at_, n, 0, was, [], wrap64 (tries + 1), bad⟩ :=
    ⟨(H.out.obj.set 6 _).set 5 _, World.ownsRow_nil _ _ _ _, ⟨k1, k2, k3, k4, k5, k6, k7, k8, by simp⟩⟩
  have o2 : Only [b] w1 ((w1.setCell ⟨b, 6, none⟩ (.int .i64 (wrap64 (tries + 1)))).setCell ⟨b, 5, none⟩ (.slice none 0 0)) := ((Only.refl [b] w1).setCell (.inl (by simp)) _).setCell (.inl (by simp)) _
  have HM := Lib.hid (HM.out.only o2 (by have := NB.out; simp; omega) (by have := NB.out; simp; omega))
  have HO := Lib.hid (HO.out.trans (o2.sub (by simp)))
  have HO1 := Lib.hid (Nat.le_trans HO1.out o2.size)
  have H := Lib.hid H2
  clear H2 o2
  go_wp2_with fail
  refine (srnext_any _ b (.slice none 0 0) _ H.out).mono ?_
  rintro e w2 ⟨rfl, ho⟩
  have HO := Lib.hid (HO.out.trans (ho.sub (by simp)))
  have HO1 := Lib.hid (Nat.le_trans HO1.out ho.size)
  have H := Lib.hid (H.out.quiet ho)
  have HM := Lib.hid (HM.out.only ho (by simp) (by simp))
  clear ho c2 c5 c6 f5 f6 e6
  go_wp2_with fail
  refine (do_act HM.out HA.out).mono ?_
  rintro e w3 ⟨rfl, ho, hm⟩
  have HO := Lib.hid (HO.out.trans (ho.sub (by simp)))
  have HO1 := Lib.hid (Nat.le_trans HO1.out (Nat.le_trans ho.size (Nat.le_succ _)))
  have H := Lib.hid ((H.out.only ho (by have := NB.out; simp; omega) (by simp [Value.ownBlock])).quiet ((Only.refl [] w3).alloc (.cells #[.int .u64 v, .bool ok, .int .i64 0] 42)))
  have HM := Lib.hid (IsMem.only hm ((Only.refl [] w3).alloc (.cells #[.int .u64 v, .bool ok, .int .i64 0] 42)) (by simp) (by simp))
  have HO := Lib.hid (HO.out.alloc (.cells #[.int .u64 v, .bool ok, .int .i64 0] 42))
  have HRS := Lib.hid (Blk.new w3 42 #[.int .u64 v, .bool ok, .int .i64 0])
  have c2 := H.out.obj.at 2 (v := .int .i64 (0)) rfl
  have c3 := H.out.obj.at 3 (v := .int .u64 was) rfl
  have c4 := H.out.obj.at 4 (v := .int .i64 (n + 2)) rfl
  have c7 := H.out.obj.at 7 (v := .bool bad) rfl
  have f2 := H.out.obj.frozen 2
  have f3 := H.out.obj.frozen 3
  have f7 := H.out.obj.frozen 7
  clear ho hm
  have r0 := HRS.out.at 0 (v := .int .u64 v) rfl
  go_wp2_with fail
  go_region_with (first
    | (go_at_call 64
       refine (begin_at _ b v v0 v1 (.int .i64 0) (.int .u64 was) (by exact c2) (by exact c3) (by exact f2) (by exact f3)).mono ?_
       simp only [if_pos hev]
       rintro e w4 ⟨rfl, rfl⟩))
  all_goals
    go_wp2_with fail
    have HF := Lib.hid ((H.out.obj.drew.set 3 (.int .u64 v)).set 2 (.int .i64 1))
    have d2 := HF.out.at 2 (v := .int .i64 (1)) rfl
    have d4 := HF.out.at 4 (v := .int .i64 (n + 2)) rfl
    refine (over_at _ b (1) (n + 2) d2 d4).mono ?_
    rintro e w5 ⟨rfl, ho⟩
    have HE := Lib.hid (r_end H.out HM.out NB.out (((Only.refl [b] _).drew.setCell (.inl (by simp)) _).setCell (.inl (by simp)) _) ho ⟨at_, n, 1, v, [], wrap64 (tries + 1), bad⟩ HF.out rfl ⟨k1, k2, k3, k4, by dsimp only; omega, by dsimp only; omega, by dsimp only; omega, by dsimp only; omega, by simp⟩)
    have HO5 := Lib.hid ((HO.out.trans ((((Only.refl [b] _).drew.setCell (.inl (by simp)) _).setCell (.inl (by simp)) _).sub (T := b :: mb :: ms :: sl.ownBlock.toList) (by simp))).trans (ho.sub (by simp)))
    clear ho d2 d4 c2 c3 c4 c7 f2 f3 f7
    go_wp2_with fail
    go_ret
    exact ⟨(.slice none 0 0), rfl, HO5.out, HE.out.1, HE.out.2, fun x hx => by cases hx⟩

set_option maxHeartbeats 4000000 in
set_option maxRecDepth 100000 in
theorem srstep_odd (w : World) (b mb ms n : Nat) (at_ was tries : Int) (vals : List Int) (bad : Bool) (sl : Value) (m m' : MS) (v : Int) (ok : Bool) (v0 : 0 ≤ v) (v1 : v < 18446744073709551616) (hod : ¬ v % 2 = 0)
    (h : IsR w b sl ⟨at_, n, 0, was, vals, tries, bad⟩) (hm : IsMem w mb ms m) (hact : m.act (RS.next ⟨at_, n, 0, was, [], wrap64 (tries + 1), bad⟩) = (m', ⟨v, ok, 0⟩)) (hs : ∀ x ∈ [mb, ms], sl.ownBlock ≠ some x) :
    Calls Try.prog 37 #[.pointer (some ⟨b, 0, none⟩), .pointer (some ⟨mb, 0, none⟩)] w fun e w' => ∃ sl', e = .returned (.bool (decide (((0) : Int) = n + 2))) ∧ Only (b :: mb :: ms :: sl.ownBlock.toList) w w' ∧ IsMem w' mb ms m' ∧ IsR w' b sl' ⟨at_, n, 0, v, [], wrap64 (tries + 1), bad⟩ ∧ ∀ x, sl'.ownBlock = some x → sl.ownBlock = some x ∨ w.heap.size ≤ x := by
  obtain ⟨k1, k2, k3, k4, k5, k6, k7, k8, k9⟩ := h.ok
  dsimp only at k1 k2 k3 k4 k5 k6 k7 k8 k9
  have q2 := h.obj.at 2 (v := .int .i64 (0)) rfl
  have q4 := h.obj.at 4 (v := .int .i64 (n + 2)) rfl
  have NB := Lib.hid (rne h hm)
  have HS := Lib.hid hs
  have H := Lib.hid h
  have HM := Lib.hid hm
  have HA := Lib.hid hact
  clear h hm hact hs
  go_enter Try.func37, Try.ntmps37
  go_wp2_with fail
  refine (over_at _ b (0) (n + 2) q2 q4).mono ?_
  rintro e w1 ⟨rfl, ho⟩
  rw [decide_eq_false (show ¬ (0 : Int) = n + 2 by omega)]
  have HO := Lib.hid ho
  have HO1 := Lib.hid (show w.heap.size ≤ w1.heap.size from ho.size)
  have H := Lib.hid (H.out.quiet ho)
  have HM := Lib.hid (HM.out.only ho (by simp) (by simp))
  have HO := Lib.hid (ho.sub (T := b :: mb :: ms :: sl.ownBlock.toList) (by simp))
  have c2 := H.out.obj.at 2 (v := .int .i64 (0)) rfl
  clear ho q2 q4
  have c5 := H.out.obj.at 5 (v := sl) rfl
  have c6 := H.out.obj.at 6 (v := .int .i64 tries) rfl
  have f5 := H.out.obj.frozen 5
  have f6 := H.out.obj.frozen 6
  have e6 : (tries + 1 + 9223372036854775808) % 18446744073709551616 - 9223372036854775808 = wrap64 (tries + 1) := by unfold wrap64; rfl
  have H2 : IsR ((w1.setCell ⟨b, 6, none⟩ (.int .i64 (wrap64 (tries + 1)))).setCell ⟨b, 5, none⟩ (.slice none 0 0)) b (.slice none 0 0) ⟨at_, n, 0, was, [], wrap64 (tries + 1), bad⟩ :=
    ⟨(H.out.obj.set 6 _).set 5 _, World.ownsRow_nil _ _ _ _, ⟨k1, k2, k3, k4, k5, k6, k7, k8, by simp⟩⟩
  have o2 : Only [b] w1 ((w1.setCell ⟨b, 6, none⟩ (.int .i64 (wrap64 (tries + 1)))).setCell ⟨b, 5, none⟩ (.slice none 0 0)) := ((Only.refl [b] w1).setCell (.inl (by simp)) _).setCell (.inl (by simp)) _
  have HM := Lib.hid (HM.out.only o2 (by have := NB.out; simp; omega) (by have := NB.out; simp; omega))
  have HO := Lib.hid (HO.out.trans (o2.sub (by simp)))
  have HO1 := Lib.hid (Nat.le_trans HO1.out o2.size)
  have H := Lib.hid H2
  clear H2 o2
  go_wp2_with fail
  refine (srnext_any _ b (.slice none 0 0) _ H.out).mono ?_
  rintro e w2 ⟨rfl, ho⟩
  have HO := Lib.hid (HO.out.trans (ho.sub (by simp)))
  have HO1 := Lib.hid (Nat.le_trans HO1.out ho.size)
  have H := Lib.hid (H.out.quiet ho)
  have HM := Lib.hid (HM.out.only ho (by simp) (by simp))
  clear ho c2 c5 c6 f5 f6 e6
  go_wp2_with fail
  refine (do_act HM.out HA.out).mono ?_
  rintro e w3 ⟨rfl, ho, hm⟩
  have HO := Lib.hid (HO.out.trans (ho.sub (by simp)))
  have HO1 := Lib.hid (Nat.le_trans HO1.out (Nat.le_trans ho.size (Nat.le_succ _)))
  have H := Lib.hid ((H.out.only ho (by have := NB.out; simp; omega) (by simp [Value.ownBlock])).quiet ((Only.refl [] w3).alloc (.cells #[.int .u64 v, .bool ok, .int .i64 0] 42)))
  have HM := Lib.hid (IsMem.only hm ((Only.refl [] w3).alloc (.cells #[.int .u64 v, .bool ok, .int .i64 0] 42)) (by simp) (by simp))
  have HO := Lib.hid (HO.out.alloc (.cells #[.int .u64 v, .bool ok, .int .i64 0] 42))
  have HRS := Lib.hid (Blk.new w3 42 #[.int .u64 v, .bool ok, .int .i64 0])
  have c2 := H.out.obj.at 2 (v := .int .i64 (0)) rfl
  have c3 := H.out.obj.at 3 (v := .int .u64 was) rfl
  have c4 := H.out.obj.at 4 (v := .int .i64 (n + 2)) rfl
  have c7 := H.out.obj.at 7 (v := .bool bad) rfl
  have f2 := H.out.obj.frozen 2
  have f3 := H.out.obj.frozen 3
  have f7 := H.out.obj.frozen 7
  clear ho hm
  have r0 := HRS.out.at 0 (v := .int .u64 v) rfl
  go_wp2_with fail
  go_region_with (first
    | (go_at_call 64
       refine (begin_at _ b v v0 v1 (.int .i64 0) (.int .u64 was) (by exact c2) (by exact c3) (by exact f2) (by exact f3)).mono ?_
       simp only [if_neg hod]
       rintro e w4 ⟨rfl, rfl⟩))
  all_goals
    go_wp2_with fail
    have HF := Lib.hid (H.out.obj.drew.set 3 (.int .u64 v))
    have d2 := HF.out.at 2 (v := .int .i64 (0)) rfl
    have d4 := HF.out.at 4 (v := .int .i64 (n + 2)) rfl
    refine (over_at _ b (0) (n + 2) d2 d4).mono ?_
    rintro e w5 ⟨rfl, ho⟩
    have HE := Lib.hid (r_end H.out HM.out NB.out ((Only.refl [b] _).drew.setCell (.inl (by simp)) _) ho ⟨at_, n, 0, v, [], wrap64 (tries + 1), bad⟩ HF.out rfl ⟨k1, k2, k3, k4, by dsimp only; omega, by dsimp only; omega, by dsimp only; omega, by dsimp only; omega, by simp⟩)
    have HO5 := Lib.hid ((HO.out.trans (((Only.refl [b] _).drew.setCell (.inl (by simp)) _).sub (T := b :: mb :: ms :: sl.ownBlock.toList) (by simp))).trans (ho.sub (by simp)))
    clear ho d2 d4 c2 c3 c4 c7 f2 f3 f7
    go_wp2_with fail
    go_ret
    exact ⟨(.slice none 0 0), rfl, HO5.out, HE.out.1, HE.out.2, fun x hx => by cases hx⟩

set_option maxHeartbeats 4000000 in
set_option maxRecDepth 100000 in
theorem srstep_turned (w : World) (b mb ms n : Nat) (at_ was tries : Int) (vals : List Int) (bad : Bool) (sl : Value) (m m' : MS) (v : Int) (ok : Bool) (hne : ¬ v = was)
    (h : IsR w b sl ⟨at_, n, n + 1, was, vals, tries, bad⟩) (hm : IsMem w mb ms m) (hact : m.act (RS.next ⟨at_, n, n + 1, was, vals, tries, bad⟩) = (m', ⟨v, ok, 0⟩)) (hs : ∀ x ∈ [mb, ms], sl.ownBlock ≠ some x) :
    Calls Try.prog 37 #[.pointer (some ⟨b, 0, none⟩), .pointer (some ⟨mb, 0, none⟩)] w fun e w' => ∃ sl', e = .returned (.bool (decide (((0) : Int) = n + 2))) ∧ Only (b :: mb :: ms :: sl.ownBlock.toList) w w' ∧ IsMem w' mb ms m' ∧ IsR w' b sl' ⟨at_, n, 0, was, vals, tries, bad⟩ ∧ ∀ x, sl'.ownBlock = some x → sl.ownBlock = some x ∨ w.heap.size ≤ x := by
  obtain ⟨k1, k2, k3, k4, k5, k6, k7, k8, k9⟩ := h.ok
  dsimp only at k1 k2 k3 k4 k5 k6 k7 k8 k9
  have q2 := h.obj.at 2 (v := .int .i64 (n + 1)) rfl
  have q4 := h.obj.at 4 (v := .int .i64 (n + 2)) rfl
  have NB := Lib.hid (rne h hm)
  have HS := Lib.hid hs
  have H := Lib.hid h
  have HM := Lib.hid hm
  have HA := Lib.hid hact
  clear h hm hact hs
  go_enter Try.func37, Try.ntmps37
  go_wp2_with fail
  refine (over_at _ b (n + 1) (n + 2) q2 q4).mono ?_
  rintro e w1 ⟨rfl, ho⟩
  rw [decide_eq_false (show ¬ (n + 1 : Int) = n + 2 by omega)]
  have HO := Lib.hid ho
  have HO1 := Lib.hid (show w.heap.size ≤ w1.heap.size from ho.size)
  have H := Lib.hid (H.out.quiet ho)
  have HM := Lib.hid (HM.out.only ho (by simp) (by simp))
  have HO := Lib.hid (ho.sub (T := b :: mb :: ms :: sl.ownBlock.toList) (by simp))
  have c2 := H.out.obj.at 2 (v := .int .i64 (n + 1)) rfl
  clear ho q2 q4
  go_wp2_with fail
  refine (srnext_any _ b sl _ H.out).mono ?_
  rintro e w2 ⟨rfl, ho⟩
  have HO := Lib.hid (HO.out.trans (ho.sub (by simp)))
  have HO1 := Lib.hid (Nat.le_trans HO1.out ho.size)
  have H := Lib.hid (H.out.quiet ho)
  have HM := Lib.hid (HM.out.only ho (by simp) (by simp))
  clear ho c2
  go_wp2_with fail
  refine (do_act HM.out HA.out).mono ?_
  rintro e w3 ⟨rfl, ho, hm⟩
  have HO := Lib.hid (HO.out.trans (ho.sub (by simp)))
  have HO1 := Lib.hid (Nat.le_trans HO1.out (Nat.le_trans ho.size (Nat.le_succ _)))
  have H := Lib.hid ((H.out.only ho (by have := NB.out; simp; omega) (HS.out)).quiet ((Only.refl [] w3).alloc (.cells #[.int .u64 v, .bool ok, .int .i64 0] 42)))
  have HM := Lib.hid (IsMem.only hm ((Only.refl [] w3).alloc (.cells #[.int .u64 v, .bool ok, .int .i64 0] 42)) (by simp) (by simp))
  have HO := Lib.hid (HO.out.alloc (.cells #[.int .u64 v, .bool ok, .int .i64 0] 42))
  have HRS := Lib.hid (Blk.new w3 42 #[.int .u64 v, .bool ok, .int .i64 0])
  have c2 := H.out.obj.at 2 (v := .int .i64 (n + 1)) rfl
  have c3 := H.out.obj.at 3 (v := .int .u64 was) rfl
  have c4 := H.out.obj.at 4 (v := .int .i64 (n + 2)) rfl
  have c7 := H.out.obj.at 7 (v := .bool bad) rfl
  have f2 := H.out.obj.frozen 2
  have f3 := H.out.obj.frozen 3
  have f7 := H.out.obj.frozen 7
  clear ho hm
  have r0 := HRS.out.at 0 (v := .int .u64 v) rfl
  have e0 : ¬ ((n : Int) + 1 = 0) := by omega
  have ew : IntKind.i64.wrap ((n : Int) + 2 - 1) = n + 1 := by rw [IntKind.wrap_i64]; omega
  have hnb : (v == was) = false := by simpa using hne
  go_wp2_with fail
  go_region
  all_goals
    go_wp2_with fail
    go_region
    all_goals
      go_wp2_with fail
      have HF := Lib.hid (H.out.obj.drew.drew.set 2 (.int .i64 0))
      have d2 := HF.out.at 2 (v := .int .i64 (0)) rfl
      have d4 := HF.out.at 4 (v := .int .i64 (n + 2)) rfl
      refine (over_at _ b (0) (n + 2) d2 d4).mono ?_
      rintro e w5 ⟨rfl, ho⟩
      have HE := Lib.hid (r_end H.out HM.out NB.out ((Only.refl [b] _).drew.drew.setCell (.inl (by simp)) _) ho ⟨at_, n, 0, was, vals, tries, bad⟩ HF.out rfl ⟨k1, k2, k3, k4, by dsimp only; omega, by dsimp only; omega, by dsimp only; omega, by dsimp only; omega, k9⟩)
      have HO5 := Lib.hid ((HO.out.trans (((Only.refl [b] _).drew.drew.setCell (.inl (by simp)) _).sub (T := b :: mb :: ms :: sl.ownBlock.toList) (by simp))).trans (ho.sub (by simp)))
      clear ho d2 d4 c2 c3 c4 c7 f2 f3 f7
      go_wp2_with fail
      go_ret
      exact ⟨sl, rfl, HO5.out, HE.out.1, HE.out.2, fun x hx => .inl hx⟩

set_option maxHeartbeats 4000000 in
set_option maxRecDepth 100000 in
theorem srstep_same (w : World) (b mb ms n : Nat) (at_ was tries : Int) (vals : List Int) (bad : Bool) (sl : Value) (m m' : MS) (v : Int) (ok : Bool) (heq : v = was)
    (h : IsR w b sl ⟨at_, n, n + 1, was, vals, tries, bad⟩) (hm : IsMem w mb ms m) (hact : m.act (RS.next ⟨at_, n, n + 1, was, vals, tries, bad⟩) = (m', ⟨v, ok, 0⟩)) (hs : ∀ x ∈ [mb, ms], sl.ownBlock ≠ some x) :
    Calls Try.prog 37 #[.pointer (some ⟨b, 0, none⟩), .pointer (some ⟨mb, 0, none⟩)] w fun e w' => ∃ sl', e = .returned (.bool (decide (((n + 2) : Int) = n + 2))) ∧ Only (b :: mb :: ms :: sl.ownBlock.toList) w w' ∧ IsMem w' mb ms m' ∧ IsR w' b sl' ⟨at_, n, n + 2, was, vals, tries, bad⟩ ∧ ∀ x, sl'.ownBlock = some x → sl.ownBlock = some x ∨ w.heap.size ≤ x := by
  obtain ⟨k1, k2, k3, k4, k5, k6, k7, k8, k9⟩ := h.ok
  dsimp only at k1 k2 k3 k4 k5 k6 k7 k8 k9
  have q2 := h.obj.at 2 (v := .int .i64 (n + 1)) rfl
  have q4 := h.obj.at 4 (v := .int .i64 (n + 2)) rfl
  have NB := Lib.hid (rne h hm)
  have HS := Lib.hid hs
  have H := Lib.hid h
  have HM := Lib.hid hm
  have HA := Lib.hid hact
  clear h hm hact hs
  go_enter Try.func37, Try.ntmps37
  go_wp2_with fail
  refine (over_at _ b (n + 1) (n + 2) q2 q4).mono ?_
  rintro e w1 ⟨rfl, ho⟩
  rw [decide_eq_false (show ¬ (n + 1 : Int) = n + 2 by omega)]
  have HO := Lib.hid ho
  have HO1 := Lib.hid (show w.heap.size ≤ w1.heap.size from ho.size)
  have H := Lib.hid (H.out.quiet ho)
  have HM := Lib.hid (HM.out.only ho (by simp) (by simp))
  have HO := Lib.hid (ho.sub (T := b :: mb :: ms :: sl.ownBlock.toList) (by simp))
  have c2 := H.out.obj.at 2 (v := .int .i64 (n + 1)) rfl
  clear ho q2 q4
  go_wp2_with fail
  refine (srnext_any _ b sl _ H.out).mono ?_
  rintro e w2 ⟨rfl, ho⟩
  have HO := Lib.hid (HO.out.trans (ho.sub (by simp)))
  have HO1 := Lib.hid (Nat.le_trans HO1.out ho.size)
  have H := Lib.hid (H.out.quiet ho)
  have HM := Lib.hid (HM.out.only ho (by simp) (by simp))
  clear ho c2
  go_wp2_with fail
  refine (do_act HM.out HA.out).mono ?_
  rintro e w3 ⟨rfl, ho, hm⟩
  have HO := Lib.hid (HO.out.trans (ho.sub (by simp)))
  have HO1 := Lib.hid (Nat.le_trans HO1.out (Nat.le_trans ho.size (Nat.le_succ _)))
  have H := Lib.hid ((H.out.only ho (by have := NB.out; simp; omega) (HS.out)).quiet ((Only.refl [] w3).alloc (.cells #[.int .u64 v, .bool ok, .int .i64 0] 42)))
  have HM := Lib.hid (IsMem.only hm ((Only.refl [] w3).alloc (.cells #[.int .u64 v, .bool ok, .int .i64 0] 42)) (by simp) (by simp))
  have HO := Lib.hid (HO.out.alloc (.cells #[.int .u64 v, .bool ok, .int .i64 0] 42))
  have HRS := Lib.hid (Blk.new w3 42 #[.int .u64 v, .bool ok, .int .i64 0])
  have c2 := H.out.obj.at 2 (v := .int .i64 (n + 1)) rfl
  have c3 := H.out.obj.at 3 (v := .int .u64 was) rfl
  have c4 := H.out.obj.at 4 (v := .int .i64 (n + 2)) rfl
  have c7 := H.out.obj.at 7 (v := .bool bad) rfl
  have f2 := H.out.obj.frozen 2
  have f3 := H.out.obj.frozen 3
  have f7 := H.out.obj.frozen 7
  clear ho hm
  have r0 := HRS.out.at 0 (v := .int .u64 v) rfl
  have e0 : ¬ ((n : Int) + 1 = 0) := by omega
  have ew : IntKind.i64.wrap ((n : Int) + 2 - 1) = n + 1 := by rw [IntKind.wrap_i64]; omega
  subst heq
  go_wp2_with fail
  go_region
  all_goals
    go_wp2_with fail
    go_region
    all_goals
      go_wp2_with fail
      have HF := Lib.hid (H.out.obj.drew.drew.set 2 (.int .i64 (n + 2)))
      have d2 := HF.out.at 2 (v := .int .i64 (n + 2)) rfl
      have d4 := HF.out.at 4 (v := .int .i64 (n + 2)) rfl
      refine (over_at _ b (n + 2) (n + 2) d2 d4).mono ?_
      rintro e w5 ⟨rfl, ho⟩
      have HE := Lib.hid (r_end H.out HM.out NB.out ((Only.refl [b] _).drew.drew.setCell (.inl (by simp)) _) ho ⟨at_, n, n + 2, v, vals, tries, bad⟩ HF.out rfl ⟨k1, k2, k3, k4, by dsimp only; omega, by dsimp only; omega, by dsimp only; omega, by dsimp only; omega, k9⟩)
      have HO5 := Lib.hid ((HO.out.trans (((Only.refl [b] _).drew.drew.setCell (.inl (by simp)) _).sub (T := b :: mb :: ms :: sl.ownBlock.toList) (by simp))).trans (ho.sub (by simp)))
      clear ho d2 d4 c2 c3 c4 c7 f2 f3 f7
      go_wp2_with fail
      go_ret
      exact ⟨sl, rfl, HO5.out, HE.out.1, HE.out.2, fun x hx => .inl hx⟩


end Go.Proofs.Ytnoplfjodedijaa
