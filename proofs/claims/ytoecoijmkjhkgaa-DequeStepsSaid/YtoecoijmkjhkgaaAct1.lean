/- The walks of act's four doers, and of Do. -/
import Derived.Test.YtoecoijmkjhkgaaAny
namespace Go.Proofs.Ytoecoijmkjhkgaa
open Go.RowKit

/-- Two new blocks: a copy of the act, and the result that is 0. -/
theorem two_new (w : World) (t u : TypeId) (x y : Array Value) : Only [] w ((w.alloc (.cells x t)).alloc (.cells y u)) ∧ Blk ((w.alloc (.cells x t)).alloc (.cells y u)) w.heap.size t x ∧ Blk ((w.alloc (.cells x t)).alloc (.cells y u)) (w.heap.size + 1) u y :=
  ⟨((Only.refl _ _).alloc _).alloc _, (Blk.new _ _ _).alloc _, Blk.new' _ _ _ (by simp)⟩

theorem doload_any (w : World) (b s : Nat) (m : MS) (k i x y : Int) (hm : IsMem w b s m) :
    Calls Try.prog 77 #[.agg #[.int .i64 k, .int .i64 i, .int .u64 x, .int .u64 y], .pointer (some ⟨b, 0, none⟩)] w fun e w' =>
      e = .returned (.agg #[.int .u64 (m.load i).2.1, .bool false, .int .i64 (m.load i).2.2]) ∧ Only [b, s] w w' ∧ IsMem w' b s (m.load i).1 := by
  have H2 := Lib.hid (two_new w 149 128 #[.int .i64 k, .int .i64 i, .int .u64 x, .int .u64 y] #[.int .u64 0, .bool false, .int .i64 0])
  have HM := Lib.hid hm
  clear hm
  go_enter Try.func77, Try.ntmps77
  go_wp2_with fail
  refine (load_any _ b s m i (HM.out.only H2.out.1 (by simp) (by simp))).mono ?_
  rintro e w' ⟨rfl, ho, hm'⟩
  have hlt := HM.out.lt
  have hr := H2.out.2.2.only ho (by simp; omega)
  have q0 := hr.at 0 rfl
  have q1 := hr.at 1 rfl
  have q2 := hr.at 2 rfl
  have f0 := hr.frozen 0
  have f1 := hr.frozen 1
  have f2 := hr.frozen 2
  have HO := Lib.hid ho
  have HM' := Lib.hid hm'
  clear hr ho hm'
  go_wp2
  refine bodyPost_ret (v := .agg #[.int .u64 (m.load i).2.1, .bool false, .int .i64 (m.load i).2.2]) (by simp [results, Try.results77, go_sem, q0, q1, q2]) rfl ⟨rfl, ?_, ?_⟩
  · exact ((((H2.out.1.sub (by simp)).trans HO.out).setCell (.inr (Nat.le_succ _)) _).setCell (.inr (Nat.le_succ _)) _).setCell (.inr (Nat.le_succ _)) _
  · exact HM'.out.only (((Only.refl [w.heap.size + 1] w').setCell (by simp) _).setCell (by simp) _ |>.setCell (by simp) _) (by simp; omega) (by simp; omega)

theorem dostore_any (w : World) (b s : Nat) (m : MS) (k i x y : Int) (hm : IsMem w b s m) :
    Calls Try.prog 78 #[.agg #[.int .i64 k, .int .i64 i, .int .u64 x, .int .u64 y], .pointer (some ⟨b, 0, none⟩)] w fun e w' =>
      e = .returned (.agg #[.int .u64 0, .bool false, .int .i64 (m.store i x).2]) ∧ Only [b, s] w w' ∧ IsMem w' b s (m.store i x).1 := by
  have H2 := Lib.hid (two_new w 149 128 #[.int .i64 k, .int .i64 i, .int .u64 x, .int .u64 y] #[.int .u64 0, .bool false, .int .i64 0])
  have HM := Lib.hid hm
  clear hm
  go_enter Try.func78, Try.ntmps78
  go_wp2_with fail
  refine (store_any _ b s m i x (HM.out.only H2.out.1 (by simp) (by simp))).mono ?_
  rintro e w' ⟨rfl, ho, hm'⟩
  have hlt := HM.out.lt
  have hr := H2.out.2.2.only ho (by simp; omega)
  have q0 := hr.at 0 rfl
  have q1 := hr.at 1 rfl
  have q2 := hr.at 2 rfl
  have f0 := hr.frozen 0
  have f1 := hr.frozen 1
  have f2 := hr.frozen 2
  have HO := Lib.hid ho
  have HM' := Lib.hid hm'
  clear hr ho hm'
  go_wp2
  refine bodyPost_ret (v := .agg #[.int .u64 0, .bool false, .int .i64 (m.store i x).2]) (by simp [results, Try.results78, go_sem, q0, q1, q2]) rfl ⟨rfl, ?_, ?_⟩
  · exact ((((H2.out.1.sub (by simp)).trans HO.out).setCell (.inr (Nat.le_succ _)) _).setCell (.inr (Nat.le_succ _)) _).setCell (.inr (Nat.le_succ _)) _
  · exact HM'.out.only (((Only.refl [w.heap.size + 1] w').setCell (by simp) _).setCell (by simp) _ |>.setCell (by simp) _) (by simp; omega) (by simp; omega)

theorem docas_any (w : World) (b s : Nat) (m : MS) (k i x y : Int) (hm : IsMem w b s m) :
    Calls Try.prog 79 #[.agg #[.int .i64 k, .int .i64 i, .int .u64 x, .int .u64 y], .pointer (some ⟨b, 0, none⟩)] w fun e w' =>
      e = .returned (.agg #[.int .u64 0, .bool (m.cas i x y).2.1, .int .i64 (m.cas i x y).2.2]) ∧ Only [b, s] w w' ∧ IsMem w' b s (m.cas i x y).1 := by
  have H2 := Lib.hid (two_new w 149 128 #[.int .i64 k, .int .i64 i, .int .u64 x, .int .u64 y] #[.int .u64 0, .bool false, .int .i64 0])
  have HM := Lib.hid hm
  clear hm
  go_enter Try.func79, Try.ntmps79
  go_wp2_with fail
  refine (cas_any _ b s m i x y (HM.out.only H2.out.1 (by simp) (by simp))).mono ?_
  rintro e w' ⟨rfl, ho, hm'⟩
  have hlt := HM.out.lt
  have hr := H2.out.2.2.only ho (by simp; omega)
  have q0 := hr.at 0 rfl
  have q1 := hr.at 1 rfl
  have q2 := hr.at 2 rfl
  have f0 := hr.frozen 0
  have f1 := hr.frozen 1
  have f2 := hr.frozen 2
  have HO := Lib.hid ho
  have HM' := Lib.hid hm'
  clear hr ho hm'
  go_wp2
  refine bodyPost_ret (v := .agg #[.int .u64 0, .bool (m.cas i x y).2.1, .int .i64 (m.cas i x y).2.2]) (by simp [results, Try.results79, go_sem, q0, q1, q2]) rfl ⟨rfl, ?_, ?_⟩
  · exact ((((H2.out.1.sub (by simp)).trans HO.out).setCell (.inr (Nat.le_succ _)) _).setCell (.inr (Nat.le_succ _)) _).setCell (.inr (Nat.le_succ _)) _
  · exact HM'.out.only (((Only.refl [w.heap.size + 1] w').setCell (by simp) _).setCell (by simp) _ |>.setCell (by simp) _) (by simp; omega) (by simp; omega)

theorem doadd_any (w : World) (b s : Nat) (m : MS) (k i x y : Int) (hm : IsMem w b s m) :
    Calls Try.prog 80 #[.agg #[.int .i64 k, .int .i64 i, .int .u64 x, .int .u64 y], .pointer (some ⟨b, 0, none⟩)] w fun e w' =>
      e = .returned (.agg #[.int .u64 (m.add i x).2.1, .bool false, .int .i64 (m.add i x).2.2]) ∧ Only [b, s] w w' ∧ IsMem w' b s (m.add i x).1 := by
  have H2 := Lib.hid (two_new w 149 128 #[.int .i64 k, .int .i64 i, .int .u64 x, .int .u64 y] #[.int .u64 0, .bool false, .int .i64 0])
  have HM := Lib.hid hm
  clear hm
  go_enter Try.func80, Try.ntmps80
  go_wp2_with fail
  refine (add_any _ b s m i x (HM.out.only H2.out.1 (by simp) (by simp))).mono ?_
  rintro e w' ⟨rfl, ho, hm'⟩
  have hlt := HM.out.lt
  have hr := H2.out.2.2.only ho (by simp; omega)
  have q0 := hr.at 0 rfl
  have q1 := hr.at 1 rfl
  have q2 := hr.at 2 rfl
  have f0 := hr.frozen 0
  have f1 := hr.frozen 1
  have f2 := hr.frozen 2
  have HO := Lib.hid ho
  have HM' := Lib.hid hm'
  clear hr ho hm'
  go_wp2
  refine bodyPost_ret (v := .agg #[.int .u64 (m.add i x).2.1, .bool false, .int .i64 (m.add i x).2.2]) (by simp [results, Try.results80, go_sem, q0, q1, q2]) rfl ⟨rfl, ?_, ?_⟩
  · exact ((((H2.out.1.sub (by simp)).trans HO.out).setCell (.inr (Nat.le_succ _)) _).setCell (.inr (Nat.le_succ _)) _).setCell (.inr (Nat.le_succ _)) _
  · exact HM'.out.only (((Only.refl [w.heap.size + 1] w').setCell (by simp) _).setCell (by simp) _ |>.setCell (by simp) _) (by simp; omega) (by simp; omega)

theorem ins1 (W : World) (r : Nat) (hr : r = W.heap.size) : Sem.run Try.prog (Instr.mapUpdate 150 (.map (some r)) (.int .i64 1) (.func (.func 77) #[] #[])) (W.alloc (.map #[] 0)) = .ok () (W.alloc (.map doM1 1)) :=
  map_ins W r hr #[] 0 1 _ rfl
theorem ins2 (W : World) (r : Nat) (hr : r = W.heap.size) : Sem.run Try.prog (Instr.mapUpdate 150 (.map (some r)) (.int .i64 2) (.func (.func 78) #[] #[])) (W.alloc (.map doM1 1)) = .ok () (W.alloc (.map doM2 2)) :=
  map_ins W r hr doM1 1 2 _ rfl
theorem ins3 (W : World) (r : Nat) (hr : r = W.heap.size) : Sem.run Try.prog (Instr.mapUpdate 150 (.map (some r)) (.int .i64 3) (.func (.func 79) #[] #[])) (W.alloc (.map doM2 2)) = .ok () (W.alloc (.map doM3 3)) :=
  map_ins W r hr doM2 2 3 _ rfl
theorem ins4 (W : World) (r : Nat) (hr : r = W.heap.size) : Sem.run Try.prog (Instr.mapUpdate 150 (.map (some r)) (.int .i64 4) (.func (.func 80) #[] #[])) (W.alloc (.map doM3 3)) = .ok () (W.alloc (.map doM4 4)) :=
  map_ins W r hr doM3 3 4 _ rfl
theorem look4 (W : World) (r : Nat) (hr : r = W.heap.size) (k : Int) (n : Nat) (v : Value) (hf : Instr.findNow (.int .i64) (.int .i64 k) doM4.toList 0 = some (some (n, v))) :
    Sem.run Try.prog (Instr.lookup 150 (.map (some r)) (.int .i64 k) true) (W.alloc (.map doM4 4)) = .ok (.tuple #[v, .bool true]) (W.alloc (.map doM4 4)) :=
  map_look _ r doM4 4 k (by subst hr; show (W.heap.push _)[W.heap.size]? = _; simp) n v hf
theorem miss4 (W : World) (r : Nat) (hr : r = W.heap.size) (k : Int) (hf : Instr.findNow (.int .i64) (.int .i64 k) doM4.toList 0 = some none) :
    Sem.run Try.prog (Instr.lookup 150 (.map (some r)) (.int .i64 k) true) (W.alloc (.map doM4 4)) = .ok (.tuple #[.nilFunc, .bool false]) (W.alloc (.map doM4 4)) :=
  map_miss _ r doM4 4 k (by subst hr; show (W.heap.push _)[W.heap.size]? = _; simp) hf

end Go.Proofs.Ytoecoijmkjhkgaa
