/- The walk of act.Do. -/
import Derived.Test.YtoecoijmkjhkgaaAct1
namespace Go.Proofs.Ytoecoijmkjhkgaa
open Go.RowKit

set_option maxRecDepth 100000 in
theorem do_other (w : World) (mv : Value) (k i x y : Int) (h1 : k ≠ 1) (h2 : k ≠ 2) (h3 : k ≠ 3) (h4 : k ≠ 4) :
    Calls Try.prog 55 #[mv, .agg #[.int .i64 k, .int .i64 i, .int .u64 x, .int .u64 y]] w fun e w' => e = .returned (.agg #[.int .u64 0, .bool false, .int .i64 1]) ∧ Only [] w w' := by
  have hmm := @run_makeMap Try.prog
  have H2 := Lib.hid (two_new w 74 128 #[.int .i64 k, .int .i64 i, .int .u64 x, .int .u64 y] #[.int .u64 0, .bool false, .int .i64 0])
  have i1 := ins1 ((w.alloc (.cells #[.int .i64 k, .int .i64 i, .int .u64 x, .int .u64 y] 74)).alloc (.cells #[.int .u64 0, .bool false, .int .i64 0] 128)) (w.heap.size + 1 + 1) (by simp)
  have i2 := ins2 ((w.alloc (.cells #[.int .i64 k, .int .i64 i, .int .u64 x, .int .u64 y] 74)).alloc (.cells #[.int .u64 0, .bool false, .int .i64 0] 128)) (w.heap.size + 1 + 1) (by simp)
  have i3 := ins3 ((w.alloc (.cells #[.int .i64 k, .int .i64 i, .int .u64 x, .int .u64 y] 74)).alloc (.cells #[.int .u64 0, .bool false, .int .i64 0] 128)) (w.heap.size + 1 + 1) (by simp)
  have i4 := ins4 ((w.alloc (.cells #[.int .i64 k, .int .i64 i, .int .u64 x, .int .u64 y] 74)).alloc (.cells #[.int .u64 0, .bool false, .int .i64 0] 128)) (w.heap.size + 1 + 1) (by simp)
  have lk := miss4 ((w.alloc (.cells #[.int .i64 k, .int .i64 i, .int .u64 x, .int .u64 y] 74)).alloc (.cells #[.int .u64 0, .bool false, .int .i64 0] 128)) (w.heap.size + 1 + 1) (by simp) k (by
    have b1 : (k == 1) = false := by simpa using h1
    have b2 : (k == 2) = false := by simpa using h2
    have b3 : (k == 3) = false := by simpa using h3
    have b4 : (k == 4) = false := by simpa using h4
    simp [doM4, doE, Instr.findNow, Instr.sameNow, b1, b2, b3, b4])
  clear h1 h2 h3 h4
  go_enter Try.func55, Try.ntmps55
  go_wp2
  refine bodyPost_ret (v := .agg #[.int .u64 0, .bool false, .int .i64 1]) (by simp [results, Try.results55, go_sem]) rfl ⟨rfl, ?_⟩
  exact (((Only.refl _ _).alloc _).alloc _).alloc _

set_option maxRecDepth 100000 in
theorem do_load (w : World) (b s : Nat) (m : MS) (i x y : Int) (hm : IsMem w b s m) :
    Calls Try.prog 55 #[.pointer (some ⟨b, 0, none⟩), .agg #[.int .i64 1, .int .i64 i, .int .u64 x, .int .u64 y]] w fun e w' => e = .returned (.agg #[.int .u64 (m.load i).2.1, .bool false, .int .i64 (m.load i).2.2]) ∧ Only [b, s] w w' ∧ IsMem w' b s (m.load i).1 := by
  have hmm := @run_makeMap Try.prog
  have H2 := Lib.hid (two_new w 74 128 #[.int .i64 1, .int .i64 i, .int .u64 x, .int .u64 y] #[.int .u64 0, .bool false, .int .i64 0])
  have i1 := ins1 ((w.alloc (.cells #[.int .i64 1, .int .i64 i, .int .u64 x, .int .u64 y] 74)).alloc (.cells #[.int .u64 0, .bool false, .int .i64 0] 128)) (w.heap.size + 1 + 1) (by simp)
  have i2 := ins2 ((w.alloc (.cells #[.int .i64 1, .int .i64 i, .int .u64 x, .int .u64 y] 74)).alloc (.cells #[.int .u64 0, .bool false, .int .i64 0] 128)) (w.heap.size + 1 + 1) (by simp)
  have i3 := ins3 ((w.alloc (.cells #[.int .i64 1, .int .i64 i, .int .u64 x, .int .u64 y] 74)).alloc (.cells #[.int .u64 0, .bool false, .int .i64 0] 128)) (w.heap.size + 1 + 1) (by simp)
  have i4 := ins4 ((w.alloc (.cells #[.int .i64 1, .int .i64 i, .int .u64 x, .int .u64 y] 74)).alloc (.cells #[.int .u64 0, .bool false, .int .i64 0] 128)) (w.heap.size + 1 + 1) (by simp)
  have lk := look4 ((w.alloc (.cells #[.int .i64 1, .int .i64 i, .int .u64 x, .int .u64 y] 74)).alloc (.cells #[.int .u64 0, .bool false, .int .i64 0] 128)) (w.heap.size + 1 + 1) (by simp) 1 0 (.func (.func 77) #[] #[]) rfl
  have HM := Lib.hid hm
  clear hm
  go_enter Try.func55, Try.ntmps55
  go_wp2_with fail
  have ho1 := H2.out.1.alloc (.map doM4 4)
  refine (doload_any _ b s m _ i x y (HM.out.only ho1 (by simp) (by simp))).mono ?_
  rintro e w' ⟨rfl, ho, hm'⟩
  have hlt := HM.out.lt
  have hr := (H2.out.2.2.alloc (.map doM4 4)).only ho (by simp; omega)
  have q0 := hr.at 0 rfl
  have q1 := hr.at 1 rfl
  have q2 := hr.at 2 rfl
  have f0 := hr.frozen 0
  have f1 := hr.frozen 1
  have f2 := hr.frozen 2
  have HO := Lib.hid ho
  have HO1 := Lib.hid ho1
  have HM' := Lib.hid hm'
  clear hr ho ho1 hm' hmm i1 i2 i3 i4 lk
  go_wp2
  refine bodyPost_ret (v := .agg #[.int .u64 (m.load i).2.1, .bool false, .int .i64 (m.load i).2.2]) (by simp [results, Try.results55, go_sem, q0, q1, q2]) rfl ⟨rfl, ?_, ?_⟩
  · exact ((((HO1.out.sub (by simp)).trans HO.out).setCell (.inr (Nat.le_succ _)) _).setCell (.inr (Nat.le_succ _)) _).setCell (.inr (Nat.le_succ _)) _
  · exact HM'.out.only (((Only.refl [w.heap.size + 1] w').setCell (by simp) _).setCell (by simp) _ |>.setCell (by simp) _) (by simp; omega) (by simp; omega)

set_option maxRecDepth 100000 in
theorem do_store (w : World) (b s : Nat) (m : MS) (i x y : Int) (hm : IsMem w b s m) :
    Calls Try.prog 55 #[.pointer (some ⟨b, 0, none⟩), .agg #[.int .i64 2, .int .i64 i, .int .u64 x, .int .u64 y]] w fun e w' => e = .returned (.agg #[.int .u64 0, .bool false, .int .i64 (m.store i x).2]) ∧ Only [b, s] w w' ∧ IsMem w' b s (m.store i x).1 := by
  have hmm := @run_makeMap Try.prog
  have H2 := Lib.hid (two_new w 74 128 #[.int .i64 2, .int .i64 i, .int .u64 x, .int .u64 y] #[.int .u64 0, .bool false, .int .i64 0])
  have i1 := ins1 ((w.alloc (.cells #[.int .i64 2, .int .i64 i, .int .u64 x, .int .u64 y] 74)).alloc (.cells #[.int .u64 0, .bool false, .int .i64 0] 128)) (w.heap.size + 1 + 1) (by simp)
  have i2 := ins2 ((w.alloc (.cells #[.int .i64 2, .int .i64 i, .int .u64 x, .int .u64 y] 74)).alloc (.cells #[.int .u64 0, .bool false, .int .i64 0] 128)) (w.heap.size + 1 + 1) (by simp)
  have i3 := ins3 ((w.alloc (.cells #[.int .i64 2, .int .i64 i, .int .u64 x, .int .u64 y] 74)).alloc (.cells #[.int .u64 0, .bool false, .int .i64 0] 128)) (w.heap.size + 1 + 1) (by simp)
  have i4 := ins4 ((w.alloc (.cells #[.int .i64 2, .int .i64 i, .int .u64 x, .int .u64 y] 74)).alloc (.cells #[.int .u64 0, .bool false, .int .i64 0] 128)) (w.heap.size + 1 + 1) (by simp)
  have lk := look4 ((w.alloc (.cells #[.int .i64 2, .int .i64 i, .int .u64 x, .int .u64 y] 74)).alloc (.cells #[.int .u64 0, .bool false, .int .i64 0] 128)) (w.heap.size + 1 + 1) (by simp) 2 1 (.func (.func 78) #[] #[]) rfl
  have HM := Lib.hid hm
  clear hm
  go_enter Try.func55, Try.ntmps55
  go_wp2_with fail
  have ho1 := H2.out.1.alloc (.map doM4 4)
  refine (dostore_any _ b s m _ i x y (HM.out.only ho1 (by simp) (by simp))).mono ?_
  rintro e w' ⟨rfl, ho, hm'⟩
  have hlt := HM.out.lt
  have hr := (H2.out.2.2.alloc (.map doM4 4)).only ho (by simp; omega)
  have q0 := hr.at 0 rfl
  have q1 := hr.at 1 rfl
  have q2 := hr.at 2 rfl
  have f0 := hr.frozen 0
  have f1 := hr.frozen 1
  have f2 := hr.frozen 2
  have HO := Lib.hid ho
  have HO1 := Lib.hid ho1
  have HM' := Lib.hid hm'
  clear hr ho ho1 hm' hmm i1 i2 i3 i4 lk
  go_wp2
  refine bodyPost_ret (v := .agg #[.int .u64 0, .bool false, .int .i64 (m.store i x).2]) (by simp [results, Try.results55, go_sem, q0, q1, q2]) rfl ⟨rfl, ?_, ?_⟩
  · exact ((((HO1.out.sub (by simp)).trans HO.out).setCell (.inr (Nat.le_succ _)) _).setCell (.inr (Nat.le_succ _)) _).setCell (.inr (Nat.le_succ _)) _
  · exact HM'.out.only (((Only.refl [w.heap.size + 1] w').setCell (by simp) _).setCell (by simp) _ |>.setCell (by simp) _) (by simp; omega) (by simp; omega)

set_option maxRecDepth 100000 in
theorem do_cas (w : World) (b s : Nat) (m : MS) (i x y : Int) (hm : IsMem w b s m) :
    Calls Try.prog 55 #[.pointer (some ⟨b, 0, none⟩), .agg #[.int .i64 3, .int .i64 i, .int .u64 x, .int .u64 y]] w fun e w' => e = .returned (.agg #[.int .u64 0, .bool (m.cas i x y).2.1, .int .i64 (m.cas i x y).2.2]) ∧ Only [b, s] w w' ∧ IsMem w' b s (m.cas i x y).1 := by
  have hmm := @run_makeMap Try.prog
  have H2 := Lib.hid (two_new w 74 128 #[.int .i64 3, .int .i64 i, .int .u64 x, .int .u64 y] #[.int .u64 0, .bool false, .int .i64 0])
  have i1 := ins1 ((w.alloc (.cells #[.int .i64 3, .int .i64 i, .int .u64 x, .int .u64 y] 74)).alloc (.cells #[.int .u64 0, .bool false, .int .i64 0] 128)) (w.heap.size + 1 + 1) (by simp)
  have i2 := ins2 ((w.alloc (.cells #[.int .i64 3, .int .i64 i, .int .u64 x, .int .u64 y] 74)).alloc (.cells #[.int .u64 0, .bool false, .int .i64 0] 128)) (w.heap.size + 1 + 1) (by simp)
  have i3 := ins3 ((w.alloc (.cells #[.int .i64 3, .int .i64 i, .int .u64 x, .int .u64 y] 74)).alloc (.cells #[.int .u64 0, .bool false, .int .i64 0] 128)) (w.heap.size + 1 + 1) (by simp)
  have i4 := ins4 ((w.alloc (.cells #[.int .i64 3, .int .i64 i, .int .u64 x, .int .u64 y] 74)).alloc (.cells #[.int .u64 0, .bool false, .int .i64 0] 128)) (w.heap.size + 1 + 1) (by simp)
  have lk := look4 ((w.alloc (.cells #[.int .i64 3, .int .i64 i, .int .u64 x, .int .u64 y] 74)).alloc (.cells #[.int .u64 0, .bool false, .int .i64 0] 128)) (w.heap.size + 1 + 1) (by simp) 3 2 (.func (.func 79) #[] #[]) rfl
  have HM := Lib.hid hm
  clear hm
  go_enter Try.func55, Try.ntmps55
  go_wp2_with fail
  have ho1 := H2.out.1.alloc (.map doM4 4)
  refine (docas_any _ b s m _ i x y (HM.out.only ho1 (by simp) (by simp))).mono ?_
  rintro e w' ⟨rfl, ho, hm'⟩
  have hlt := HM.out.lt
  have hr := (H2.out.2.2.alloc (.map doM4 4)).only ho (by simp; omega)
  have q0 := hr.at 0 rfl
  have q1 := hr.at 1 rfl
  have q2 := hr.at 2 rfl
  have f0 := hr.frozen 0
  have f1 := hr.frozen 1
  have f2 := hr.frozen 2
  have HO := Lib.hid ho
  have HO1 := Lib.hid ho1
  have HM' := Lib.hid hm'
  clear hr ho ho1 hm' hmm i1 i2 i3 i4 lk
  go_wp2
  refine bodyPost_ret (v := .agg #[.int .u64 0, .bool (m.cas i x y).2.1, .int .i64 (m.cas i x y).2.2]) (by simp [results, Try.results55, go_sem, q0, q1, q2]) rfl ⟨rfl, ?_, ?_⟩
  · exact ((((HO1.out.sub (by simp)).trans HO.out).setCell (.inr (Nat.le_succ _)) _).setCell (.inr (Nat.le_succ _)) _).setCell (.inr (Nat.le_succ _)) _
  · exact HM'.out.only (((Only.refl [w.heap.size + 1] w').setCell (by simp) _).setCell (by simp) _ |>.setCell (by simp) _) (by simp; omega) (by simp; omega)

set_option maxRecDepth 100000 in
theorem do_add (w : World) (b s : Nat) (m : MS) (i x y : Int) (hm : IsMem w b s m) :
    Calls Try.prog 55 #[.pointer (some ⟨b, 0, none⟩), .agg #[.int .i64 4, .int .i64 i, .int .u64 x, .int .u64 y]] w fun e w' => e = .returned (.agg #[.int .u64 (m.add i x).2.1, .bool false, .int .i64 (m.add i x).2.2]) ∧ Only [b, s] w w' ∧ IsMem w' b s (m.add i x).1 := by
  have hmm := @run_makeMap Try.prog
  have H2 := Lib.hid (two_new w 74 128 #[.int .i64 4, .int .i64 i, .int .u64 x, .int .u64 y] #[.int .u64 0, .bool false, .int .i64 0])
  have i1 := ins1 ((w.alloc (.cells #[.int .i64 4, .int .i64 i, .int .u64 x, .int .u64 y] 74)).alloc (.cells #[.int .u64 0, .bool false, .int .i64 0] 128)) (w.heap.size + 1 + 1) (by simp)
  have i2 := ins2 ((w.alloc (.cells #[.int .i64 4, .int .i64 i, .int .u64 x, .int .u64 y] 74)).alloc (.cells #[.int .u64 0, .bool false, .int .i64 0] 128)) (w.heap.size + 1 + 1) (by simp)
  have i3 := ins3 ((w.alloc (.cells #[.int .i64 4, .int .i64 i, .int .u64 x, .int .u64 y] 74)).alloc (.cells #[.int .u64 0, .bool false, .int .i64 0] 128)) (w.heap.size + 1 + 1) (by simp)
  have i4 := ins4 ((w.alloc (.cells #[.int .i64 4, .int .i64 i, .int .u64 x, .int .u64 y] 74)).alloc (.cells #[.int .u64 0, .bool false, .int .i64 0] 128)) (w.heap.size + 1 + 1) (by simp)
  have lk := look4 ((w.alloc (.cells #[.int .i64 4, .int .i64 i, .int .u64 x, .int .u64 y] 74)).alloc (.cells #[.int .u64 0, .bool false, .int .i64 0] 128)) (w.heap.size + 1 + 1) (by simp) 4 3 (.func (.func 80) #[] #[]) rfl
  have HM := Lib.hid hm
  clear hm
  go_enter Try.func55, Try.ntmps55
  go_wp2_with fail
  have ho1 := H2.out.1.alloc (.map doM4 4)
  refine (doadd_any _ b s m _ i x y (HM.out.only ho1 (by simp) (by simp))).mono ?_
  rintro e w' ⟨rfl, ho, hm'⟩
  have hlt := HM.out.lt
  have hr := (H2.out.2.2.alloc (.map doM4 4)).only ho (by simp; omega)
  have q0 := hr.at 0 rfl
  have q1 := hr.at 1 rfl
  have q2 := hr.at 2 rfl
  have f0 := hr.frozen 0
  have f1 := hr.frozen 1
  have f2 := hr.frozen 2
  have HO := Lib.hid ho
  have HO1 := Lib.hid ho1
  have HM' := Lib.hid hm'
  clear hr ho ho1 hm' hmm i1 i2 i3 i4 lk
  go_wp2
  refine bodyPost_ret (v := .agg #[.int .u64 (m.add i x).2.1, .bool false, .int .i64 (m.add i x).2.2]) (by simp [results, Try.results55, go_sem, q0, q1, q2]) rfl ⟨rfl, ?_, ?_⟩
  · exact ((((HO1.out.sub (by simp)).trans HO.out).setCell (.inr (Nat.le_succ _)) _).setCell (.inr (Nat.le_succ _)) _).setCell (.inr (Nat.le_succ _)) _
  · exact HM'.out.only (((Only.refl [w.heap.size + 1] w').setCell (by simp) _).setCell (by simp) _ |>.setCell (by simp) _) (by simp; omega) (by simp; omega)

theorem act1 (m : MS) (i a b : Int) : m.act ⟨1, i, a, b⟩ = ((m.load i).1, ⟨(m.load i).2.1, false, (m.load i).2.2⟩) := by simp [MS.act]
theorem act2 (m : MS) (i a b : Int) : m.act ⟨2, i, a, b⟩ = ((m.store i a).1, ⟨0, false, (m.store i a).2⟩) := by simp [MS.act]
theorem act3 (m : MS) (i a b : Int) : m.act ⟨3, i, a, b⟩ = ((m.cas i a b).1, ⟨0, (m.cas i a b).2.1, (m.cas i a b).2.2⟩) := by simp [MS.act]
theorem act4 (m : MS) (i a b : Int) : m.act ⟨4, i, a, b⟩ = ((m.add i a).1, ⟨(m.add i a).2.1, false, (m.add i a).2.2⟩) := by simp [MS.act]
theorem act0 (m : MS) (k i a b : Int) (h1 : k ≠ 1) (h2 : k ≠ 2) (h3 : k ≠ 3) (h4 : k ≠ 4) : m.act ⟨k, i, a, b⟩ = (m, ⟨0, false, 1⟩) := by simp [MS.act, h1, h2, h3, h4]

theorem do_any (w : World) (b s : Nat) (m : MS) (x : Act') (hm : IsMem w b s m) :
    Calls Try.prog 55 #[.pointer (some ⟨b, 0, none⟩), x.val] w fun e w' => e = .returned (m.act x).2.val ∧ Only [b, s] w w' ∧ IsMem w' b s (m.act x).1 := by
  obtain ⟨k, i, a, b'⟩ := x
  by_cases h1 : k = 1
  · subst h1; rw [act1]; exact do_load w b s m i a b' hm
  by_cases h2 : k = 2
  · subst h2; rw [act2]; exact do_store w b s m i a b' hm
  by_cases h3 : k = 3
  · subst h3; rw [act3]; exact do_cas w b s m i a b' hm
  by_cases h4 : k = 4
  · subst h4; rw [act4]; exact do_add w b s m i a b' hm
  rw [act0 m k i a b' h1 h2 h3 h4]
  exact (do_other w _ k i a b' h1 h2 h3 h4).mono fun e w' ⟨he, ho⟩ => ⟨he, ho.sub (by simp), hm.only ho (by simp) (by simp)⟩

theorem do_to {w : World} {b s : Nat} {m m' : MS} {k i x y v er : Int} {ok : Bool} (hm : IsMem w b s m) (h : m.act ⟨k, i, x, y⟩ = (m', ⟨v, ok, er⟩)) :
    Calls Try.prog 55 #[.pointer (some ⟨b, 0, none⟩), .agg #[.int .i64 k, .int .i64 i, .int .u64 x, .int .u64 y]] w fun e w' => e = .returned (.agg #[.int .u64 v, .bool ok, .int .i64 er]) ∧ Only [b, s] w w' ∧ IsMem w' b s m' := by
  have := do_any w b s m ⟨k, i, x, y⟩ hm
  rw [h] at this
  exact this

end Go.Proofs.Ytoecoijmkjhkgaa
