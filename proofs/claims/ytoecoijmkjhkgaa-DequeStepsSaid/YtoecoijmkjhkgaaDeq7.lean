/- The deque: how a task begins, and what it tells. -/
import Derived.Test.YtoecoijmkjhkgaaDeq2
namespace Go.Proofs.Ytoecoijmkjhkgaa
open Go.RowKit

theorem dtask_some (w : World) (a : Int) (n : Nat) (t : TypeId) (y : Value) (h : dequeRight a n) : Calls Try.prog 54 #[.agg #[.int .i64 a, .int .i64 n], .iface t y] w fun e w' => ∃ b, e = .returned (.pointer (some ⟨b, 0, none⟩)) ∧ w.heap.size ≤ b ∧ Only [] w w' ∧ Blk w' b 126 #[.int .i64 a, .int .i64 n, .iface t y, .int .i64 0, .bool false, .bool false] := by
  have HB := Lib.hid (Blk.new w 59 #[.int .i64 a, .int .i64 n])
  have HO := Lib.hid ((Only.refl [] w).alloc (.cells #[.int .i64 a, .int .i64 n] 59))
  have HR := Lib.hid h
  clear h
  go_enter Try.func54, Try.ntmps54
  go_wp2_with fail
  refine (dqright_any _ a n).mono ?_
  rintro e w1 ⟨rfl, ho⟩
  rw [decide_eq_true HR.out]
  have HO := Lib.hid (HO.out.trans ho)
  have HB := Lib.hid (HB.out.only ho (by simp))
  have q0 := HB.out.at 0 (v := .int .i64 a) rfl
  have q1 := HB.out.at 1 (v := .int .i64 n) rfl
  clear ho
  go_wp2_with fail
  go_ret
  exact ⟨_, rfl, HO.out.size, HO.out.alloc _, Blk.new _ _ _⟩

theorem dtask_none (w : World) (a n : Int) (q : Value) (h : ¬ dequeRight a n) : Calls Try.prog 54 #[.agg #[.int .i64 a, .int .i64 n], q] w fun e w' => e = .returned (.pointer none) ∧ Only [] w w' := by
  have HO := Lib.hid ((Only.refl [] w).alloc (.cells #[.int .i64 a, .int .i64 n] 59))
  have HR := Lib.hid h
  clear h
  go_enter Try.func54, Try.ntmps54
  go_wp2_with fail
  refine (dqright_any _ a n).mono ?_
  rintro e w1 ⟨rfl, ho⟩
  rw [decide_eq_false HR.out]
  have HO := Lib.hid (HO.out.trans ho)
  clear ho
  go_wp2_with fail
  go_ret
  exact ⟨rfl, HO.out⟩

/-- A task that begins. -/
def NewD (w : World) (a : Int) (n k : Nat) (v : Int) (e : Ending) (w' : World) : Prop :=
  ∃ b kb, e = .returned (.pointer (some ⟨b, 0, none⟩)) ∧ w.heap.size ≤ b ∧ w.heap.size ≤ kb ∧ Only [] w w' ∧ IsD w' b kb ⟨a, n, k, 0, false, false, v, 0, 0, false⟩

theorem dq_new_ok {a v : Int} {n k : Nat} (h : dequeRight a n) (hk : k ≤ 2) (v0 : 0 ≤ v) (v1 : v < 18446744073709551616) : DQ.ok ⟨a, n, k, 0, false, false, v, 0, 0, false⟩ := by
  obtain ⟨⟨a0, a1⟩, n1, n64⟩ := h
  exact ⟨a0, a1, by dsimp only; omega, by dsimp only; omega, hk, v0, v1, by dsimp only; omega, by dsimp only; omega, by dsimp only; omega, by dsimp only; omega, by dsimp only; omega, fun _ => by dsimp only; split <;> omega, by dsimp only; omega⟩

theorem dpush_some (w : World) (a v : Int) (n : Nat) (h : dequeRight a n) (v0 : 0 ≤ v) (v1 : v < 18446744073709551616) : Calls Try.prog 33 #[.agg #[.int .i64 a, .int .i64 n], .int .u64 v] w (NewD w a n 0 v) := by
  have HO := Lib.hid (((Only.refl [] w).alloc (.cells #[.int .i64 a, .int .i64 n] 59)).alloc (.cells #[.int .u64 v, .int .u64 0] 122))
  have HK := Lib.hid (Blk.new' (w.alloc (.cells #[.int .i64 a, .int .i64 n] 59)) 122 #[.int .u64 v, .int .u64 0] (g := w.heap.size + 1) (by simp))
  have HR := Lib.hid h
  have HKO := Lib.hid (dq_new_ok (k := 0) h (by omega) v0 v1)
  clear h
  go_enter Try.func33, Try.ntmps33
  go_wp2_with fail
  refine (dtask_some _ a n _ _ HR.out).mono ?_
  rintro e w1 ⟨b, rfl, hb, ho, hblk⟩
  have HN := Lib.hid (show NewD w a n 0 v (.returned (.pointer (some ⟨b, 0, none⟩))) w1 from ⟨b, w.heap.size + 1, rfl, Nat.le_trans HO.out.size hb, by omega, HO.out.trans ho, hblk, HK.out.only ho (by simp), HKO.out⟩)
  clear hb ho hblk
  go_wp2_with fail
  go_ret
  exact HN.out

theorem dpop_some (w : World) (a : Int) (n : Nat) (h : dequeRight a n) : Calls Try.prog 30 #[.agg #[.int .i64 a, .int .i64 n]] w (NewD w a n 1 0) := by
  have HO := Lib.hid (((Only.refl [] w).alloc (.cells #[.int .i64 a, .int .i64 n] 59)).alloc (.cells #[.int .u64 0, .int .u64 0, .int .u64 0, .bool false] 116))
  have HK := Lib.hid (Blk.new' (w.alloc (.cells #[.int .i64 a, .int .i64 n] 59)) 116 #[.int .u64 0, .int .u64 0, .int .u64 0, .bool false] (g := w.heap.size + 1) (by simp))
  have HR := Lib.hid h
  have HKO := Lib.hid (dq_new_ok (k := 1) (v := 0) h (by omega) (by omega) (by omega))
  clear h
  go_enter Try.func30, Try.ntmps30
  go_wp2_with fail
  refine (dtask_some _ a n _ _ HR.out).mono ?_
  rintro e w1 ⟨b, rfl, hb, ho, hblk⟩
  have HN := Lib.hid (show NewD w a n 1 0 (.returned (.pointer (some ⟨b, 0, none⟩))) w1 from ⟨b, w.heap.size + 1, rfl, Nat.le_trans HO.out.size hb, by omega, HO.out.trans ho, hblk, HK.out.only ho (by simp), HKO.out⟩)
  clear hb ho hblk
  go_wp2_with fail
  go_ret
  exact HN.out

theorem dsteal_some (w : World) (a : Int) (n : Nat) (h : dequeRight a n) : Calls Try.prog 32 #[.agg #[.int .i64 a, .int .i64 n]] w (NewD w a n 2 0) := by
  have HO := Lib.hid (((Only.refl [] w).alloc (.cells #[.int .i64 a, .int .i64 n] 59)).alloc (.cells #[.int .u64 0, .int .u64 0] 119))
  have HK := Lib.hid (Blk.new' (w.alloc (.cells #[.int .i64 a, .int .i64 n] 59)) 119 #[.int .u64 0, .int .u64 0] (g := w.heap.size + 1) (by simp))
  have HR := Lib.hid h
  have HKO := Lib.hid (dq_new_ok (k := 2) (v := 0) h (by omega) (by omega) (by omega))
  clear h
  go_enter Try.func32, Try.ntmps32
  go_wp2_with fail
  refine (dtask_some _ a n _ _ HR.out).mono ?_
  rintro e w1 ⟨b, rfl, hb, ho, hblk⟩
  have HN := Lib.hid (show NewD w a n 2 0 (.returned (.pointer (some ⟨b, 0, none⟩))) w1 from ⟨b, w.heap.size + 1, rfl, Nat.le_trans HO.out.size hb, by omega, HO.out.trans ho, hblk, HK.out.only ho (by simp), HKO.out⟩)
  clear hb ho hblk
  go_wp2_with fail
  go_ret
  exact HN.out

theorem dpush_none (w : World) (a n v : Int) (h : ¬ dequeRight a n) : Calls Try.prog 33 #[.agg #[.int .i64 a, .int .i64 n], .int .u64 v] w fun e w' => e = .returned (.pointer none) ∧ Only [] w w' := by
  have HO := Lib.hid (((Only.refl [] w).alloc (.cells #[.int .i64 a, .int .i64 n] 59)).alloc (.cells #[.int .u64 v, .int .u64 0] 122))
  go_enter Try.func33, Try.ntmps33
  go_wp2_with fail
  refine (dtask_none _ a n _ h).mono ?_
  rintro e w1 ⟨rfl, ho⟩
  have HN := Lib.hid (HO.out.trans ho)
  clear ho
  go_wp2_with fail
  go_ret
  exact ⟨rfl, HN.out⟩
theorem dpop_none (w : World) (a n : Int) (h : ¬ dequeRight a n) : Calls Try.prog 30 #[.agg #[.int .i64 a, .int .i64 n]] w fun e w' => e = .returned (.pointer none) ∧ Only [] w w' := by
  have HO := Lib.hid (((Only.refl [] w).alloc (.cells #[.int .i64 a, .int .i64 n] 59)).alloc (.cells #[.int .u64 0, .int .u64 0, .int .u64 0, .bool false] 116))
  go_enter Try.func30, Try.ntmps30
  go_wp2_with fail
  refine (dtask_none _ a n _ h).mono ?_
  rintro e w1 ⟨rfl, ho⟩
  have HN := Lib.hid (HO.out.trans ho)
  clear ho
  go_wp2_with fail
  go_ret
  exact ⟨rfl, HN.out⟩
theorem dsteal_none (w : World) (a n : Int) (h : ¬ dequeRight a n) : Calls Try.prog 32 #[.agg #[.int .i64 a, .int .i64 n]] w fun e w' => e = .returned (.pointer none) ∧ Only [] w w' := by
  have HO := Lib.hid (((Only.refl [] w).alloc (.cells #[.int .i64 a, .int .i64 n] 59)).alloc (.cells #[.int .u64 0, .int .u64 0] 119))
  go_enter Try.func32, Try.ntmps32
  go_wp2_with fail
  refine (dtask_none _ a n _ h).mono ?_
  rintro e w1 ⟨rfl, ho⟩
  have HN := Lib.hid (HO.out.trans ho)
  clear ho
  go_wp2_with fail
  go_ret
  exact ⟨rfl, HN.out⟩

/-- What a task tells. -/
def dVal (s : DQ) : Value := if s.done then (if s.has then .tuple #[.int .u64 s.v, .bool true, .bool true] else .tuple #[.int .u64 0, .bool false, .bool true]) else .tuple #[.int .u64 0, .bool false, .bool false]

set_option maxHeartbeats 2000000 in
set_option maxRecDepth 100000 in
theorem dresult_has (w : World) (b kb : Nat) (s : DQ) (h : IsD w b kb s) (hd : s.done = true) (hh : s.has = true) : Calls Try.prog 34 #[.pointer (some ⟨b, 0, none⟩)] w fun e w' => e = .returned (.tuple #[.int .u64 s.v, .bool true, .bool true]) ∧ Only [] w w' := by
  obtain ⟨at_, n, k, turn, has, done, v, top, bot, got⟩ := s
  have hk := h.ok.k2
  dsimp only at hd hh hk ⊢
  subst hd hh
  have c4 := h.obj.at 4 (v := .bool true) rfl
  have c5 := h.obj.at 5 (v := .bool true) rfl
  rcases (show k = 0 ∨ k = 1 ∨ k = 2 by omega) with rfl | rfl | rfl
  · have c2 := h.obj.at 2 (v := .iface 120 (.pointer (some ⟨kb, 0, none⟩))) rfl
    have q0 := h.kind.at 0 (v := .int .u64 v) rfl
    have t1 := ta_Push_Push
    clear h hk
    go_enter Try.func34, Try.ntmps34
    go_wp2_with fail
    refine bodyPost_ret (v := .tuple #[.int .u64 v, .bool true, .bool true]) (by simp [results, Try.results34, go_sem]) rfl ⟨rfl, Only.refl _ _⟩
  · have c2 := h.obj.at 2 (v := .iface 114 (.pointer (some ⟨kb, 0, none⟩))) rfl
    have q0 := h.kind.at 0 (v := .int .u64 v) rfl
    have t1 := ta_Pop_Push
    have t2 := ta_Pop_Pop
    clear h hk
    go_enter Try.func34, Try.ntmps34
    go_wp2_with fail
    refine bodyPost_ret (v := .tuple #[.int .u64 v, .bool true, .bool true]) (by simp [results, Try.results34, go_sem]) rfl ⟨rfl, Only.refl _ _⟩
  · have c2 := h.obj.at 2 (v := .iface 117 (.pointer (some ⟨kb, 0, none⟩))) rfl
    have q0 := h.kind.at 0 (v := .int .u64 v) rfl
    have t1 := ta_Steal_Push
    have t2 := ta_Steal_Pop
    have t3 := ta_Steal_Steal
    clear h hk
    go_enter Try.func34, Try.ntmps34
    go_wp2_with fail
    refine bodyPost_ret (v := .tuple #[.int .u64 v, .bool true, .bool true]) (by simp [results, Try.results34, go_sem]) rfl ⟨rfl, Only.refl _ _⟩

set_option maxHeartbeats 2000000 in
set_option maxRecDepth 100000 in
theorem dresult_no (w : World) (b : Nat) (has done : Bool) (c4 : w.cell? ⟨b, 4, none⟩ = some (.bool has)) (c5 : w.cell? ⟨b, 5, none⟩ = some (.bool done)) (hn : done = false ∨ has = false) : Calls Try.prog 34 #[.pointer (some ⟨b, 0, none⟩)] w fun e w' => e = .returned (.tuple #[.int .u64 0, .bool false, .bool done]) ∧ Only [] w w' := by
  cases done
  · clear hn
    go_enter Try.func34, Try.ntmps34
    go_wp2_with fail
    go_region
    all_goals
      go_wp2_with fail
      refine bodyPost_ret (v := .tuple #[.int .u64 0, .bool false, .bool false]) (by simp [results, Try.results34, go_sem]) rfl ⟨rfl, (Only.refl _ _).drew⟩
  · obtain rfl : has = false := by simpa using hn
    clear hn
    go_enter Try.func34, Try.ntmps34
    go_wp2_with fail
    go_region
    all_goals
      go_wp2_with fail
      refine bodyPost_ret (v := .tuple #[.int .u64 0, .bool false, .bool true]) (by simp [results, Try.results34, go_sem]) rfl ⟨rfl, (Only.refl _ _).drew⟩

theorem dresult_any (w : World) (b kb : Nat) (s : DQ) (h : IsD w b kb s) : Calls Try.prog 34 #[.pointer (some ⟨b, 0, none⟩)] w fun e w' => e = .returned (dVal s) ∧ Only [] w w' := by
  unfold dVal
  have c4 := h.obj.at 4 (v := .bool s.has) rfl
  have c5 := h.obj.at 5 (v := .bool s.done) rfl
  cases hd : s.done
  · rw [if_neg (by simp)]
    rw [hd] at c5
    exact dresult_no w b _ _ c4 c5 (.inl rfl)
  · rw [if_pos rfl]
    cases hh : s.has
    · rw [if_neg (by simp)]
      rw [hd] at c5
      rw [hh] at c4
      exact dresult_no w b _ _ c4 c5 (.inr rfl)
    · rw [if_pos rfl]
      exact dresult_has w b kb s h hd hh

theorem dresult_nil (w : World) : Calls Try.prog 34 #[.pointer none] w fun e w' => e = .returned (.tuple #[.int .u64 0, .bool false, .bool false]) ∧ Only [] w w' := by
  go_enter Try.func34, Try.ntmps34
  go_wp2_with fail
  go_region
  all_goals
    go_wp2_with fail
    refine bodyPost_ret (v := .tuple #[.int .u64 0, .bool false, .bool false]) (by simp [results, Try.results34, go_sem]) rfl ⟨rfl, (Only.refl _ _).drew⟩
theorem dstep_nil (w : World) (m : Value) : Calls Try.prog 35 #[.pointer none, m] w fun e w' => e = .returned (.bool false) ∧ w = w' := by
  go_enter Try.func35, Try.ntmps35
  go_wp2
  go_ret
  exact ⟨rfl, rfl⟩
theorem dnext_nil (w : World) : Calls Try.prog 36 #[.pointer none] w fun e w' => e = .returned (.agg #[.int .i64 0, .int .i64 0, .int .u64 0, .int .u64 0]) ∧ Only [] w w' := by
  go_enter Try.func36, Try.ntmps36
  go_wp2
  refine bodyPost_ret (v := .agg #[.int .i64 0, .int .i64 0, .int .u64 0, .int .u64 0]) (by simp [results, Try.results36, go_sem]) rfl ⟨rfl, ?_⟩
  exact (Only.refl _ _).alloc _

end Go.Proofs.Ytoecoijmkjhkgaa
