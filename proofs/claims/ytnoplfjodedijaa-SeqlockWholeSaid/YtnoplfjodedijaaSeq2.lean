/- The seqlock's writer and reader: what they are, how they begin, what they do next. -/
import Derived.Test.YtnoplfjodedijaaSeq1
import Derived.Deep.AppendLies
namespace Go.Proofs.Ytnoplfjodedijaa
open Go.RowKit

/-- A writer: its place, how many values, where it stands, what it loaded, its values. -/
structure WS where
  at_ : Int
  n : Nat
  turn : Int
  was : Int
  vals : List Int

/-- Its numbers are in their bounds. -/
structure WS.ok (s : WS) : Prop where
  a0 : 0 ≤ s.at_
  a1 : s.at_ ≤ 65000
  n1 : 1 ≤ s.n
  n16 : s.n ≤ 16
  t0 : 0 ≤ s.turn
  t1 : s.turn ≤ s.n + 3
  w0 : 0 ≤ s.was
  w1 : s.was < 18446744073709551616
  len : s.vals.length = s.n

/-- At block b lies a writer, its values in block v. -/
structure IsW (w : World) (b v cap : Nat) (s : WS) : Prop where
  obj : Blk w b 109 #[.int .i64 s.at_, .int .i64 s.n, .int .i64 s.turn, .int .u64 s.was, .int .i64 (s.n + 3), .slice (some ⟨v, 0, none⟩) s.n cap]
  row : ∃ cur, Blk w v 22 cur ∧ ∀ k, k < s.n → cur[k]? = some (.int .u64 (nth s.vals k))
  ok : s.ok

theorem IsW.only {w w' : World} {b v cap : Nat} {s : WS} {S : List Nat} (h : IsW w b v cap s) (o : Only S w w') (hb : b ∉ S) (hv : v ∉ S) : IsW w' b v cap s := by
  obtain ⟨cur, hr, hc⟩ := h.row
  exact ⟨h.obj.only o hb, ⟨cur, hr.only o hv, hc⟩, h.ok⟩

/-- A writer's next act. -/
def WS.next (s : WS) : Act' :=
  if s.turn = s.n + 3 then ⟨0, 0, 0, 0⟩
  else if s.turn = 0 then ⟨1, s.at_, 0, 0⟩
  else if s.turn = 1 then ⟨3, s.at_, s.was, IntKind.u64.wrap (s.was + 1)⟩
  else if s.turn = s.n + 2 then ⟨2, s.at_, IntKind.u64.wrap (s.was + 2), 0⟩
  else ⟨2, s.at_ + s.turn - 1, nth s.vals (s.turn - 2).toNat, 0⟩

theorem sets4 {w w' : World} {c : Nat} (h : Only [] w w') (hc : w.heap.size ≤ c) (a b d e : Value) : Only [] w ((((w'.setCell ⟨c, 0, none⟩ a).setCell ⟨c, 1, none⟩ b).setCell ⟨c, 2, none⟩ d).setCell ⟨c, 3, none⟩ e) :=
  (((h.setCell (.inr hc) _).setCell (.inr hc) _).setCell (.inr hc) _).setCell (.inr hc) _

set_option maxRecDepth 100000 in
theorem wnext_done (w : World) (b v cap n : Nat) (at_ was : Int) (vals : List Int)  (h : IsW w b v cap ⟨at_, n, n + 3, was, vals⟩) :
    Calls Try.prog 40 #[.pointer (some ⟨b, 0, none⟩)] w fun e w' => e = .returned (.agg #[.int .i64 0, .int .i64 0, .int .u64 0, .int .u64 0]) ∧ Only [] w w' := by
  have hk := h.ok
  obtain ⟨k1, k2, k3, k4, k5, k6, k7, k8, k9⟩ := hk
  dsimp only at k1 k2 k3 k4 k5 k6 k7 k8 k9
  have HZ := Lib.hid (Blk.new w 24 #[.int .i64 0, .int .i64 0, .int .u64 0, .int .u64 0])
  have HO := Lib.hid ((Only.refl [] w).alloc (.cells #[.int .i64 0, .int .i64 0, .int .u64 0, .int .u64 0] 24))
  have H := Lib.hid (h.only HO.out (by simp) (by simp))
  clear h
  have q2 := H.out.obj.at 2 (v := .int .i64 (n + 3)) rfl
  have q4 := H.out.obj.at 4 (v := .int .i64 (n + 3)) rfl
  go_enter Try.func40, Try.ntmps40
  go_wp2_with fail
  refine (over_at _ b (n + 3) (n + 3) q2 q4).mono ?_
  rintro e w1 ⟨rfl, ho⟩
  rw [decide_eq_true rfl]
  have HO := Lib.hid (HO.out.trans ho)
  have H := Lib.hid (H.out.only ho (by simp) (by simp))
  have HZ := Lib.hid (HZ.out.only ho (by simp))
  have c0 := H.out.obj.at 0 (v := .int .i64 at_) rfl
  have c2 := H.out.obj.at 2 (v := .int .i64 (n + 3)) rfl
  have c3 := H.out.obj.at 3 (v := .int .u64 was) rfl
  have c4 := H.out.obj.at 4 (v := .int .i64 (n + 3)) rfl
  have c5 := H.out.obj.at 5 (v := .slice (some ⟨v, 0, none⟩) n cap) rfl
  have z0 := HZ.out.at 0 (v := .int .i64 0) rfl
  have z1 := HZ.out.at 1 (v := .int .i64 0) rfl
  have z2 := HZ.out.at 2 (v := .int .u64 0) rfl
  have z3 := HZ.out.at 3 (v := .int .u64 0) rfl
  have f0 := HZ.out.frozen 0
  have f1 := HZ.out.frozen 1
  have f2 := HZ.out.frozen 2
  have f3 := HZ.out.frozen 3
  clear ho q2 q4
  go_wp2_with fail
  have HF := Lib.hid ((((HZ.out.set 0 (.int .i64 (0))).set 1 (.int .i64 (0))).set 2 (.int .u64 (0))).set 3 (.int .u64 (0)))
  have p0 := HF.out.at 0 (v := .int .i64 (0)) rfl
  have p1 := HF.out.at 1 (v := .int .i64 (0)) rfl
  have p2 := HF.out.at 2 (v := .int .u64 (0)) rfl
  have p3 := HF.out.at 3 (v := .int .u64 (0)) rfl
  refine bodyPost_ret (v := .agg #[.int .i64 (0), .int .i64 (0), .int .u64 (0), .int .u64 (0)]) (by simp [results, Try.results40, go_sem, p0, p1, p2, p3]) rfl ⟨rfl, ?_⟩
  exact sets4 (HO.out) (Nat.le_refl _) _ _ _ _

set_option maxRecDepth 100000 in
theorem wnext_load (w : World) (b v cap n : Nat) (at_ was : Int) (vals : List Int)  (h : IsW w b v cap ⟨at_, n, 0, was, vals⟩) :
    Calls Try.prog 40 #[.pointer (some ⟨b, 0, none⟩)] w fun e w' => e = .returned (.agg #[.int .i64 1, .int .i64 at_, .int .u64 0, .int .u64 0]) ∧ Only [] w w' := by
  have hk := h.ok
  obtain ⟨k1, k2, k3, k4, k5, k6, k7, k8, k9⟩ := hk
  dsimp only at k1 k2 k3 k4 k5 k6 k7 k8 k9
  have HZ := Lib.hid (Blk.new w 24 #[.int .i64 0, .int .i64 0, .int .u64 0, .int .u64 0])
  have HO := Lib.hid ((Only.refl [] w).alloc (.cells #[.int .i64 0, .int .i64 0, .int .u64 0, .int .u64 0] 24))
  have H := Lib.hid (h.only HO.out (by simp) (by simp))
  clear h
  have q2 := H.out.obj.at 2 (v := .int .i64 (0)) rfl
  have q4 := H.out.obj.at 4 (v := .int .i64 (n + 3)) rfl
  go_enter Try.func40, Try.ntmps40
  go_wp2_with fail
  refine (over_at _ b (0) (n + 3) q2 q4).mono ?_
  rintro e w1 ⟨rfl, ho⟩
  rw [decide_eq_false (show ¬ (0 : Int) = n + 3 by omega)]
  have HO := Lib.hid (HO.out.trans ho)
  have H := Lib.hid (H.out.only ho (by simp) (by simp))
  have HZ := Lib.hid (HZ.out.only ho (by simp))
  have c0 := H.out.obj.at 0 (v := .int .i64 at_) rfl
  have c2 := H.out.obj.at 2 (v := .int .i64 (0)) rfl
  have c3 := H.out.obj.at 3 (v := .int .u64 was) rfl
  have c4 := H.out.obj.at 4 (v := .int .i64 (n + 3)) rfl
  have c5 := H.out.obj.at 5 (v := .slice (some ⟨v, 0, none⟩) n cap) rfl
  have z0 := HZ.out.at 0 (v := .int .i64 0) rfl
  have z1 := HZ.out.at 1 (v := .int .i64 0) rfl
  have z2 := HZ.out.at 2 (v := .int .u64 0) rfl
  have z3 := HZ.out.at 3 (v := .int .u64 0) rfl
  have f0 := HZ.out.frozen 0
  have f1 := HZ.out.frozen 1
  have f2 := HZ.out.frozen 2
  have f3 := HZ.out.frozen 3
  clear ho q2 q4
  go_wp2_with fail
  refine (load_of _ b at_ 0 c0 (by omega)).mono ?_
  rintro e w2 ⟨rfl, ho⟩
  have HO := Lib.hid (HO.out.trans ho)
  have HZ := Lib.hid (HZ.out.only ho (by simp))
  have z0 := HZ.out.at 0 (v := .int .i64 0) rfl
  have z1 := HZ.out.at 1 (v := .int .i64 0) rfl
  have z2 := HZ.out.at 2 (v := .int .u64 0) rfl
  have z3 := HZ.out.at 3 (v := .int .u64 0) rfl
  have f0 := HZ.out.frozen 0
  have f1 := HZ.out.frozen 1
  have f2 := HZ.out.frozen 2
  have f3 := HZ.out.frozen 3
  rw [Int.add_zero]
  clear ho
  go_wp2_with fail
  have HF := Lib.hid ((((HZ.out.set 0 (.int .i64 (1))).set 1 (.int .i64 (at_))).set 2 (.int .u64 (0))).set 3 (.int .u64 (0)))
  have p0 := HF.out.at 0 (v := .int .i64 (1)) rfl
  have p1 := HF.out.at 1 (v := .int .i64 (at_)) rfl
  have p2 := HF.out.at 2 (v := .int .u64 (0)) rfl
  have p3 := HF.out.at 3 (v := .int .u64 (0)) rfl
  refine bodyPost_ret (v := .agg #[.int .i64 (1), .int .i64 (at_), .int .u64 (0), .int .u64 (0)]) (by simp [results, Try.results40, go_sem, p0, p1, p2, p3]) rfl ⟨rfl, ?_⟩
  exact sets4 (HO.out) (Nat.le_refl _) _ _ _ _

set_option maxRecDepth 100000 in
theorem wnext_cas (w : World) (b v cap n : Nat) (at_ was : Int) (vals : List Int)  (h : IsW w b v cap ⟨at_, n, 1, was, vals⟩) :
    Calls Try.prog 40 #[.pointer (some ⟨b, 0, none⟩)] w fun e w' => e = .returned (.agg #[.int .i64 3, .int .i64 at_, .int .u64 was, .int .u64 (IntKind.u64.wrap (was + 1))]) ∧ Only [] w w' := by
  have hk := h.ok
  obtain ⟨k1, k2, k3, k4, k5, k6, k7, k8, k9⟩ := hk
  dsimp only at k1 k2 k3 k4 k5 k6 k7 k8 k9
  have HZ := Lib.hid (Blk.new w 24 #[.int .i64 0, .int .i64 0, .int .u64 0, .int .u64 0])
  have HO := Lib.hid ((Only.refl [] w).alloc (.cells #[.int .i64 0, .int .i64 0, .int .u64 0, .int .u64 0] 24))
  have H := Lib.hid (h.only HO.out (by simp) (by simp))
  clear h
  have q2 := H.out.obj.at 2 (v := .int .i64 (1)) rfl
  have q4 := H.out.obj.at 4 (v := .int .i64 (n + 3)) rfl
  go_enter Try.func40, Try.ntmps40
  go_wp2_with fail
  refine (over_at _ b (1) (n + 3) q2 q4).mono ?_
  rintro e w1 ⟨rfl, ho⟩
  rw [decide_eq_false (show ¬ (1 : Int) = n + 3 by omega)]
  have HO := Lib.hid (HO.out.trans ho)
  have H := Lib.hid (H.out.only ho (by simp) (by simp))
  have HZ := Lib.hid (HZ.out.only ho (by simp))
  have c0 := H.out.obj.at 0 (v := .int .i64 at_) rfl
  have c2 := H.out.obj.at 2 (v := .int .i64 (1)) rfl
  have c3 := H.out.obj.at 3 (v := .int .u64 was) rfl
  have c4 := H.out.obj.at 4 (v := .int .i64 (n + 3)) rfl
  have c5 := H.out.obj.at 5 (v := .slice (some ⟨v, 0, none⟩) n cap) rfl
  have z0 := HZ.out.at 0 (v := .int .i64 0) rfl
  have z1 := HZ.out.at 1 (v := .int .i64 0) rfl
  have z2 := HZ.out.at 2 (v := .int .u64 0) rfl
  have z3 := HZ.out.at 3 (v := .int .u64 0) rfl
  have f0 := HZ.out.frozen 0
  have f1 := HZ.out.frozen 1
  have f2 := HZ.out.frozen 2
  have f3 := HZ.out.frozen 3
  clear ho q2 q4
  go_wp2_with fail
  go_region
  all_goals
    go_wp2_with fail
    have HF := Lib.hid ((((HZ.out.set 0 (.int .i64 (3))).set 1 (.int .i64 (at_))).set 2 (.int .u64 (was))).set 3 (.int .u64 (IntKind.u64.wrap (was + 1))))
    have p0 := HF.out.at 0 (v := .int .i64 (3)) rfl
    have p1 := HF.out.at 1 (v := .int .i64 (at_)) rfl
    have p2 := HF.out.at 2 (v := .int .u64 (was)) rfl
    have p3 := HF.out.at 3 (v := .int .u64 (IntKind.u64.wrap (was + 1))) rfl
    refine bodyPost_ret (v := .agg #[.int .i64 (3), .int .i64 (at_), .int .u64 (was), .int .u64 (IntKind.u64.wrap (was + 1))]) (by simp [results, Try.results40, go_sem, p0, p1, p2, p3]) rfl ⟨rfl, ?_⟩
    exact sets4 (HO.out.drew) (Nat.le_refl _) _ _ _ _

set_option maxRecDepth 100000 in
theorem wnext_end (w : World) (b v cap n : Nat) (at_ was : Int) (vals : List Int)  (h : IsW w b v cap ⟨at_, n, n + 2, was, vals⟩) :
    Calls Try.prog 40 #[.pointer (some ⟨b, 0, none⟩)] w fun e w' => e = .returned (.agg #[.int .i64 2, .int .i64 at_, .int .u64 (IntKind.u64.wrap (was + 2)), .int .u64 0]) ∧ Only [] w w' := by
  have hk := h.ok
  obtain ⟨k1, k2, k3, k4, k5, k6, k7, k8, k9⟩ := hk
  dsimp only at k1 k2 k3 k4 k5 k6 k7 k8 k9
  have HZ := Lib.hid (Blk.new w 24 #[.int .i64 0, .int .i64 0, .int .u64 0, .int .u64 0])
  have HO := Lib.hid ((Only.refl [] w).alloc (.cells #[.int .i64 0, .int .i64 0, .int .u64 0, .int .u64 0] 24))
  have H := Lib.hid (h.only HO.out (by simp) (by simp))
  clear h
  have q2 := H.out.obj.at 2 (v := .int .i64 (n + 2)) rfl
  have q4 := H.out.obj.at 4 (v := .int .i64 (n + 3)) rfl
  go_enter Try.func40, Try.ntmps40
  go_wp2_with fail
  refine (over_at _ b (n + 2) (n + 3) q2 q4).mono ?_
  rintro e w1 ⟨rfl, ho⟩
  rw [decide_eq_false (show ¬ (n : Int) + 2 = n + 3 by omega)]
  have HO := Lib.hid (HO.out.trans ho)
  have H := Lib.hid (H.out.only ho (by simp) (by simp))
  have HZ := Lib.hid (HZ.out.only ho (by simp))
  have c0 := H.out.obj.at 0 (v := .int .i64 at_) rfl
  have c2 := H.out.obj.at 2 (v := .int .i64 (n + 2)) rfl
  have c3 := H.out.obj.at 3 (v := .int .u64 was) rfl
  have c4 := H.out.obj.at 4 (v := .int .i64 (n + 3)) rfl
  have c5 := H.out.obj.at 5 (v := .slice (some ⟨v, 0, none⟩) n cap) rfl
  have z0 := HZ.out.at 0 (v := .int .i64 0) rfl
  have z1 := HZ.out.at 1 (v := .int .i64 0) rfl
  have z2 := HZ.out.at 2 (v := .int .u64 0) rfl
  have z3 := HZ.out.at 3 (v := .int .u64 0) rfl
  have f0 := HZ.out.frozen 0
  have f1 := HZ.out.frozen 1
  have f2 := HZ.out.frozen 2
  have f3 := HZ.out.frozen 3
  clear ho q2 q4
  have e0 : ¬ ((n : Int) + 2 = 0) := by omega
  have e1 : ¬ ((n : Int) + 2 = 1) := by omega
  have ew : IntKind.i64.wrap ((n : Int) + 3 - 1) = n + 2 := by rw [IntKind.wrap_i64]; omega
  have ew2 : ((n : Int) + 2 = n + 3 - 1) = True := eq_true (by omega)
  go_wp2_with fail
  go_region
  all_goals
    go_wp2_with fail
    go_region
    all_goals
      go_wp2_with fail
      have HF := Lib.hid ((((HZ.out.set 0 (.int .i64 (2))).set 1 (.int .i64 (at_))).set 2 (.int .u64 (IntKind.u64.wrap (was + 2)))).set 3 (.int .u64 (0)))
      have p0 := HF.out.at 0 (v := .int .i64 (2)) rfl
      have p1 := HF.out.at 1 (v := .int .i64 (at_)) rfl
      have p2 := HF.out.at 2 (v := .int .u64 (IntKind.u64.wrap (was + 2))) rfl
      have p3 := HF.out.at 3 (v := .int .u64 (0)) rfl
      refine bodyPost_ret (v := .agg #[.int .i64 (2), .int .i64 (at_), .int .u64 (IntKind.u64.wrap (was + 2)), .int .u64 (0)]) (by simp [results, Try.results40, go_sem, p0, p1, p2, p3]) rfl ⟨rfl, ?_⟩
      exact sets4 (HO.out.drew.drew) (Nat.le_refl _) _ _ _ _

set_option maxHeartbeats 2000000 in
set_option maxRecDepth 100000 in
theorem wnext_mid (w : World) (b v cap n : Nat) (at_ was : Int) (vals : List Int) (k : Nat) (hkn : k < n) (h : IsW w b v cap ⟨at_, n, (k : Int) + 2, was, vals⟩) :
    Calls Try.prog 40 #[.pointer (some ⟨b, 0, none⟩)] w fun e w' => e = .returned (.agg #[.int .i64 2, .int .i64 (at_ + k + 1), .int .u64 (nth vals k), .int .u64 0]) ∧ Only [] w w' := by
  have hk := h.ok
  obtain ⟨k1, k2, k3, k4, k5, k6, k7, k8, k9⟩ := hk
  dsimp only at k1 k2 k3 k4 k5 k6 k7 k8 k9
  have HZ := Lib.hid (Blk.new w 24 #[.int .i64 0, .int .i64 0, .int .u64 0, .int .u64 0])
  have HO := Lib.hid ((Only.refl [] w).alloc (.cells #[.int .i64 0, .int .i64 0, .int .u64 0, .int .u64 0] 24))
  have H := Lib.hid (h.only HO.out (by simp) (by simp))
  clear h
  have q2 := H.out.obj.at 2 (v := .int .i64 ((k : Int) + 2)) rfl
  have q4 := H.out.obj.at 4 (v := .int .i64 (n + 3)) rfl
  go_enter Try.func40, Try.ntmps40
  go_wp2_with fail
  refine (over_at _ b ((k : Int) + 2) (n + 3) q2 q4).mono ?_
  rintro e w1 ⟨rfl, ho⟩
  rw [decide_eq_false (show ¬ (k : Int) + 2 = n + 3 by omega)]
  have HO := Lib.hid (HO.out.trans ho)
  have H := Lib.hid (H.out.only ho (by simp) (by simp))
  have HZ := Lib.hid (HZ.out.only ho (by simp))
  have c0 := H.out.obj.at 0 (v := .int .i64 at_) rfl
  have c2 := H.out.obj.at 2 (v := .int .i64 ((k : Int) + 2)) rfl
  have c3 := H.out.obj.at 3 (v := .int .u64 was) rfl
  have c4 := H.out.obj.at 4 (v := .int .i64 (n + 3)) rfl
  have c5 := H.out.obj.at 5 (v := .slice (some ⟨v, 0, none⟩) n cap) rfl
  have z0 := HZ.out.at 0 (v := .int .i64 0) rfl
  have z1 := HZ.out.at 1 (v := .int .i64 0) rfl
  have z2 := HZ.out.at 2 (v := .int .u64 0) rfl
  have z3 := HZ.out.at 3 (v := .int .u64 0) rfl
  have f0 := HZ.out.frozen 0
  have f1 := HZ.out.frozen 1
  have f2 := HZ.out.frozen 2
  have f3 := HZ.out.frozen 3
  clear ho q2 q4
  have e0 : ¬ ((k : Int) + 2 = 0) := by omega
  have e1 : ¬ ((k : Int) + 2 = 1) := by omega
  have e2 : ¬ ((k : Int) + 2 = n + 2) := by omega
  have ew : IntKind.i64.wrap ((n : Int) + 3 - 1) = n + 2 := by rw [IntKind.wrap_i64]; omega
  have ew3 : IntKind.i64.wrap (at_ + ((k : Int) + 2)) = at_ + (k + 2) := by rw [IntKind.wrap_i64]; omega
  have ew4 : IntKind.i64.wrap (at_ + ((k : Int) + 2) - 1) = at_ + k + 1 := by rw [IntKind.wrap_i64]; omega
  have ew5 : IntKind.i64.wrap ((k : Int) + 2 - 2) = k := by rw [IntKind.wrap_i64]; omega
  have kb : (k : Int) < n := by omega
  have kc : (0 : Int) ≤ k := by omega
  obtain ⟨cur, hr, hc⟩ := H.out.row
  have r0 := hr.at k (hc k hkn)
  clear hr hc
  go_wp2_with fail
  go_region
  all_goals
    go_wp2_with fail
    go_region
    all_goals
      go_wp2_with fail
      have HF := Lib.hid ((((HZ.out.set 0 (.int .i64 (2))).set 1 (.int .i64 (at_ + k + 1))).set 2 (.int .u64 (nth vals k))).set 3 (.int .u64 (0)))
      have p0 := HF.out.at 0 (v := .int .i64 (2)) rfl
      have p1 := HF.out.at 1 (v := .int .i64 (at_ + k + 1)) rfl
      have p2 := HF.out.at 2 (v := .int .u64 (nth vals k)) rfl
      have p3 := HF.out.at 3 (v := .int .u64 (0)) rfl
      refine bodyPost_ret (v := .agg #[.int .i64 (2), .int .i64 (at_ + k + 1), .int .u64 (nth vals k), .int .u64 (0)]) (by simp [results, Try.results40, go_sem, p0, p1, p2, p3]) rfl ⟨rfl, ?_⟩
      exact sets4 (HO.out.drew.drew) (Nat.le_refl _) _ _ _ _


end Go.Proofs.Ytnoplfjodedijaa
