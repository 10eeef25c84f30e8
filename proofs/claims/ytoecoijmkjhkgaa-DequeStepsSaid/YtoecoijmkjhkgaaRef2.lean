/- The document's words, each call in one contract; its Words; its Do. -/
import Derived.Test.YtoecoijmkjhkgaaAny
namespace Go.Proofs.Ytoecoijmkjhkgaa
open Go.RowKit

section
variable (w : World) (b s : Nat) (m : MS) (i : Int)
theorem ref_load_any (hm : IsRef w b s m) : Calls Try.prog 83 #[.pointer (some ⟨b, 0, none⟩), .int .i64 i] w fun e w' =>
    e = .returned (.tuple #[.int .u64 (m.load i).2.1, .int .i64 (m.load i).2.2]) ∧ Only [b, s] w w' ∧ IsRef w' b s (m.load i).1 := by
  unfold MS.load
  split
  · rename_i h
    exact (ref_load_in w b s m.L m.c m.l i hm (MS.yes h).1 (MS.yes h).2).mono fun e w' ⟨he, ho, h'⟩ => ⟨he, ho.sub (by simp), h'⟩
  · rename_i h
    exact (ref_load_out w b s m.L m.c m.l i hm (MS.no h)).mono fun e w' ⟨he, hw⟩ => ⟨he, hw ▸ Only.refl _ _, hw ▸ hm⟩

theorem ref_store_any (v : Int) (hm : IsRef w b s m) : Calls Try.prog 71 #[.pointer (some ⟨b, 0, none⟩), .int .i64 i, .int .u64 v] w fun e w' =>
    e = .returned (.int .i64 (m.store i v).2) ∧ Only [b, s] w w' ∧ IsRef w' b s (m.store i v).1 := by
  unfold MS.store
  split
  · rename_i h
    exact (ref_store_in w b s m.L m.c m.l i v hm (MS.yes h).1 (MS.yes h).2).mono fun e w' ⟨he, ho, h'⟩ => ⟨he, ho.sub (by simp), h'⟩
  · rename_i h
    exact (ref_store_out w b s m.L m.c m.l i v hm (MS.no h)).mono fun e w' ⟨he, hw⟩ => ⟨he, hw ▸ Only.refl _ _, hw ▸ hm⟩

theorem ref_cas_any (x y : Int) (hm : IsRef w b s m) : Calls Try.prog 84 #[.pointer (some ⟨b, 0, none⟩), .int .i64 i, .int .u64 x, .int .u64 y] w fun e w' =>
    e = .returned (.tuple #[.bool (m.cas i x y).2.1, .int .i64 (m.cas i x y).2.2]) ∧ Only [b, s] w w' ∧ IsRef w' b s (m.cas i x y).1 := by
  unfold MS.cas
  split
  · rename_i h
    split
    · rename_i hx
      exact (ref_cas_yes w b s m.L m.c m.l i x y hm (MS.yes h).1 (MS.yes h).2 hx).mono fun e w' ⟨he, ho, h'⟩ => ⟨he, ho.sub (by simp), h'⟩
    · rename_i hx
      exact (ref_cas_no w b s m.L m.c m.l i x y hm (MS.yes h).1 (MS.yes h).2 hx).mono fun e w' ⟨he, ho, h'⟩ => ⟨he, ho.sub (by simp), h'⟩
  · rename_i h
    exact (ref_cas_out w b s m.L m.c m.l i x y hm (MS.no h)).mono fun e w' ⟨he, hw⟩ => ⟨he, hw ▸ Only.refl _ _, hw ▸ hm⟩

theorem ref_add_any (v : Int) (hm : IsRef w b s m) : Calls Try.prog 85 #[.pointer (some ⟨b, 0, none⟩), .int .i64 i, .int .u64 v] w fun e w' =>
    e = .returned (.tuple #[.int .u64 (m.add i v).2.1, .int .i64 (m.add i v).2.2]) ∧ Only [b, s] w w' ∧ IsRef w' b s (m.add i v).1 := by
  unfold MS.add
  split
  · rename_i h
    exact (ref_add_in w b s m.L m.c m.l i v hm (MS.yes h).1 (MS.yes h).2).mono fun e w' ⟨he, ho, h'⟩ => ⟨he, ho.sub (by simp), h'⟩
  · rename_i h
    exact (ref_add_out w b s m.L m.c m.l i v hm (MS.no h)).mono fun e w' ⟨he, hw⟩ => ⟨he, hw ▸ Only.refl _ _, hw ▸ hm⟩
end

theorem three_new (w : World) (t u : TypeId) (x y : Array Value) : Only [] w ((w.alloc (.cells x t)).alloc (.cells y u)) ∧ Blk ((w.alloc (.cells x t)).alloc (.cells y u)) w.heap.size t x ∧ Blk ((w.alloc (.cells x t)).alloc (.cells y u)) (w.heap.size + 1) u y :=
  ⟨((Only.refl _ _).alloc _).alloc _, (Blk.new _ _ _).alloc _, Blk.new' _ _ _ (by simp)⟩

set_option maxHeartbeats 1000000 in
set_option maxRecDepth 100000 in
theorem rdo_other (w : World) (mv : Value) (k i x y : Int) (h1 : k ≠ 1) (h2 : k ≠ 2) (h3 : k ≠ 3) (h4 : k ≠ 4) :
    Calls Try.prog 65 #[mv, .agg #[.int .i64 k, .int .i64 i, .int .u64 x, .int .u64 y]] w fun e w' => e = .returned (.agg #[.int .u64 0, .bool false, .int .i64 1]) ∧ Only [] w w' := by
  have g1 : (k == 1) = false := by simpa using h1
  have g2 : (k == 2) = false := by simpa using h2
  have g3 : (k == 3) = false := by simpa using h3
  have g4 : (k == 4) = false := by simpa using h4
  clear h1 h2 h3 h4
  go_enter Try.func65, Try.ntmps65
  go_wp2
  refine bodyPost_ret (v := .agg #[.int .u64 0, .bool false, .int .i64 1]) (by simp [results, Try.results65, go_sem]) rfl ⟨rfl, ?_⟩
  exact ((Only.refl _ _).alloc _).alloc _

set_option maxHeartbeats 1000000 in
set_option maxRecDepth 100000 in
theorem rdo_load (w : World) (b s : Nat) (m : MS) (i x y : Int) (hm : IsRef w b s m) :
    Calls Try.prog 65 #[.pointer (some ⟨b, 0, none⟩), .agg #[.int .i64 1, .int .i64 i, .int .u64 x, .int .u64 y]] w fun e w' => e = .returned (.agg #[.int .u64 (m.load i).2.1, .bool false, .int .i64 (m.load i).2.2]) ∧ Only [b, s] w w' ∧ IsRef w' b s (m.load i).1 := by
  have H2 := Lib.hid (three_new w 74 137 #[.int .i64 1, .int .i64 i, .int .u64 x, .int .u64 y] #[.int .u64 0, .bool false, .int .i64 0])
  have HM := Lib.hid hm
  clear hm
  go_enter Try.func65, Try.ntmps65
  go_wp2_with fail
  refine (ref_load_any _ b s m i (HM.out.only H2.out.1 (by simp) (by simp))).mono ?_
  rintro e w' ⟨rfl, ho, hm'⟩
  have hlt := HM.out.lt
  have hr := H2.out.2.2.only ho (by simp; omega)
  have q0 := hr.at 0 rfl
  have q1 := hr.at 1 rfl
  have q2 := hr.at 2 rfl
  have f0 := hr.frozen 0
  have f1 := hr.frozen 1
  have f2 := hr.frozen 2
  have HO := Lib.hid ho
  have HM' := Lib.hid hm'
  clear hr ho hm'
  go_wp2
  refine bodyPost_ret (v := .agg #[.int .u64 (m.load i).2.1, .bool false, .int .i64 (m.load i).2.2]) (by simp [results, Try.results65, go_sem, q0, q1, q2]) rfl ⟨rfl, ?_, ?_⟩
  · exact ((((H2.out.1.sub (by simp)).trans HO.out).setCell (.inr (Nat.le_succ _)) _).setCell (.inr (Nat.le_succ _)) _).setCell (.inr (Nat.le_succ _)) _
  · exact HM'.out.only (((Only.refl [w.heap.size + 1] w').setCell (by simp) _).setCell (by simp) _ |>.setCell (by simp) _) (by simp; omega) (by simp; omega)

set_option maxHeartbeats 1000000 in
set_option maxRecDepth 100000 in
theorem rdo_store (w : World) (b s : Nat) (m : MS) (i x y : Int) (hm : IsRef w b s m) :
    Calls Try.prog 65 #[.pointer (some ⟨b, 0, none⟩), .agg #[.int .i64 2, .int .i64 i, .int .u64 x, .int .u64 y]] w fun e w' => e = .returned (.agg #[.int .u64 0, .bool false, .int .i64 (m.store i x).2]) ∧ Only [b, s] w w' ∧ IsRef w' b s (m.store i x).1 := by
  have H2 := Lib.hid (three_new w 74 137 #[.int .i64 2, .int .i64 i, .int .u64 x, .int .u64 y] #[.int .u64 0, .bool false, .int .i64 0])
  have HM := Lib.hid hm
  clear hm
  go_enter Try.func65, Try.ntmps65
  go_wp2_with fail
  refine (ref_store_any _ b s m i x (HM.out.only H2.out.1 (by simp) (by simp))).mono ?_
  rintro e w' ⟨rfl, ho, hm'⟩
  have hlt := HM.out.lt
  have hr := H2.out.2.2.only ho (by simp; omega)
  have q0 := hr.at 0 rfl
  have q1 := hr.at 1 rfl
  have q2 := hr.at 2 rfl
  have f0 := hr.frozen 0
  have f1 := hr.frozen 1
  have f2 := hr.frozen 2
  have HO := Lib.hid ho
  have HM' := Lib.hid hm'
  clear hr ho hm'
  go_wp2
  refine bodyPost_ret (v := .agg #[.int .u64 0, .bool false, .int .i64 (m.store i x).2]) (by simp [results, Try.results65, go_sem, q0, q1, q2]) rfl ⟨rfl, ?_, ?_⟩
  · exact ((((H2.out.1.sub (by simp)).trans HO.out).setCell (.inr (Nat.le_succ _)) _).setCell (.inr (Nat.le_succ _)) _).setCell (.inr (Nat.le_succ _)) _
  · exact HM'.out.only (((Only.refl [w.heap.size + 1] w').setCell (by simp) _).setCell (by simp) _ |>.setCell (by simp) _) (by simp; omega) (by simp; omega)

set_option maxHeartbeats 1000000 in
set_option maxRecDepth 100000 in
theorem rdo_cas (w : World) (b s : Nat) (m : MS) (i x y : Int) (hm : IsRef w b s m) :
    Calls Try.prog 65 #[.pointer (some ⟨b, 0, none⟩), .agg #[.int .i64 3, .int .i64 i, .int .u64 x, .int .u64 y]] w fun e w' => e = .returned (.agg #[.int .u64 0, .bool (m.cas i x y).2.1, .int .i64 (m.cas i x y).2.2]) ∧ Only [b, s] w w' ∧ IsRef w' b s (m.cas i x y).1 := by
  have H2 := Lib.hid (three_new w 74 137 #[.int .i64 3, .int .i64 i, .int .u64 x, .int .u64 y] #[.int .u64 0, .bool false, .int .i64 0])
  have HM := Lib.hid hm
  clear hm
  go_enter Try.func65, Try.ntmps65
  go_wp2_with fail
  refine (ref_cas_any _ b s m i x y (HM.out.only H2.out.1 (by simp) (by simp))).mono ?_
  rintro e w' ⟨rfl, ho, hm'⟩
  have hlt := HM.out.lt
  have hr := H2.out.2.2.only ho (by simp; omega)
  have q0 := hr.at 0 rfl
  have q1 := hr.at 1 rfl
  have q2 := hr.at 2 rfl
  have f0 := hr.frozen 0
  have f1 := hr.frozen 1
  have f2 := hr.frozen 2
  have HO := Lib.hid ho
  have HM' := Lib.hid hm'
  clear hr ho hm'
  go_wp2
  refine bodyPost_ret (v := .agg #[.int .u64 0, .bool (m.cas i x y).2.1, .int .i64 (m.cas i x y).2.2]) (by simp [results, Try.results65, go_sem, q0, q1, q2]) rfl ⟨rfl, ?_, ?_⟩
  · exact ((((H2.out.1.sub (by simp)).trans HO.out).setCell (.inr (Nat.le_succ _)) _).setCell (.inr (Nat.le_succ _)) _).setCell (.inr (Nat.le_succ _)) _
  · exact HM'.out.only (((Only.refl [w.heap.size + 1] w').setCell (by simp) _).setCell (by simp) _ |>.setCell (by simp) _) (by simp; omega) (by simp; omega)

set_option maxHeartbeats 1000000 in
set_option maxRecDepth 100000 in
theorem rdo_add (w : World) (b s : Nat) (m : MS) (i x y : Int) (hm : IsRef w b s m) :
    Calls Try.prog 65 #[.pointer (some ⟨b, 0, none⟩), .agg #[.int .i64 4, .int .i64 i, .int .u64 x, .int .u64 y]] w fun e w' => e = .returned (.agg #[.int .u64 (m.add i x).2.1, .bool false, .int .i64 (m.add i x).2.2]) ∧ Only [b, s] w w' ∧ IsRef w' b s (m.add i x).1 := by
  have H2 := Lib.hid (three_new w 74 137 #[.int .i64 4, .int .i64 i, .int .u64 x, .int .u64 y] #[.int .u64 0, .bool false, .int .i64 0])
  have HM := Lib.hid hm
  clear hm
  go_enter Try.func65, Try.ntmps65
  go_wp2_with fail
  refine (ref_add_any _ b s m i x (HM.out.only H2.out.1 (by simp) (by simp))).mono ?_
  rintro e w' ⟨rfl, ho, hm'⟩
  have hlt := HM.out.lt
  have hr := H2.out.2.2.only ho (by simp; omega)
  have q0 := hr.at 0 rfl
  have q1 := hr.at 1 rfl
  have q2 := hr.at 2 rfl
  have f0 := hr.frozen 0
  have f1 := hr.frozen 1
  have f2 := hr.frozen 2
  have HO := Lib.hid ho
  have HM' := Lib.hid hm'
  clear hr ho hm'
  go_wp2
  refine bodyPost_ret (v := .agg #[.int .u64 (m.add i x).2.1, .bool false, .int .i64 (m.add i x).2.2]) (by simp [results, Try.results65, go_sem, q0, q1, q2]) rfl ⟨rfl, ?_, ?_⟩
  · exact ((((H2.out.1.sub (by simp)).trans HO.out).setCell (.inr (Nat.le_succ _)) _).setCell (.inr (Nat.le_succ _)) _).setCell (.inr (Nat.le_succ _)) _
  · exact HM'.out.only (((Only.refl [w.heap.size + 1] w').setCell (by simp) _).setCell (by simp) _ |>.setCell (by simp) _) (by simp; omega) (by simp; omega)

theorem ract1 (m : MS) (i a b : Int) : m.act ⟨1, i, a, b⟩ = ((m.load i).1, ⟨(m.load i).2.1, false, (m.load i).2.2⟩) := by simp [MS.act]
theorem ract2 (m : MS) (i a b : Int) : m.act ⟨2, i, a, b⟩ = ((m.store i a).1, ⟨0, false, (m.store i a).2⟩) := by simp [MS.act]
theorem ract3 (m : MS) (i a b : Int) : m.act ⟨3, i, a, b⟩ = ((m.cas i a b).1, ⟨0, (m.cas i a b).2.1, (m.cas i a b).2.2⟩) := by simp [MS.act]
theorem ract4 (m : MS) (i a b : Int) : m.act ⟨4, i, a, b⟩ = ((m.add i a).1, ⟨(m.add i a).2.1, false, (m.add i a).2.2⟩) := by simp [MS.act]
theorem ract0 (m : MS) (k i a b : Int) (h1 : k ≠ 1) (h2 : k ≠ 2) (h3 : k ≠ 3) (h4 : k ≠ 4) : m.act ⟨k, i, a, b⟩ = (m, ⟨0, false, 1⟩) := by simp [MS.act, h1, h2, h3, h4]

theorem rdo_any (w : World) (b s : Nat) (m : MS) (x : Act') (hm : IsRef w b s m) :
    Calls Try.prog 65 #[.pointer (some ⟨b, 0, none⟩), x.val] w fun e w' => e = .returned (m.act x).2.val ∧ Only [b, s] w w' ∧ IsRef w' b s (m.act x).1 := by
  obtain ⟨k, i, a, b'⟩ := x
  by_cases h1 : k = 1
  · subst h1; rw [ract1]; exact rdo_load w b s m i a b' hm
  by_cases h2 : k = 2
  · subst h2; rw [ract2]; exact rdo_store w b s m i a b' hm
  by_cases h3 : k = 3
  · subst h3; rw [ract3]; exact rdo_cas w b s m i a b' hm
  by_cases h4 : k = 4
  · subst h4; rw [ract4]; exact rdo_add w b s m i a b' hm
  rw [ract0 m k i a b' h1 h2 h3 h4]
  exact (rdo_other w _ k i a b' h1 h2 h3 h4).mono fun e w' ⟨he, ho⟩ => ⟨he, ho.sub (by simp), hm.only ho (by simp) (by simp)⟩

end Go.Proofs.Ytoecoijmkjhkgaa
