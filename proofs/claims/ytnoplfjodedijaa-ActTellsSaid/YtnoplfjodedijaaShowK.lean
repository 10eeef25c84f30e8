/- The walk of act.Show, once a kind; written by showgen.py. -/
import Derived.Test.YtnoplfjodedijaaShow
namespace Go.Proofs.Ytnoplfjodedijaa
open Go.RowKit

set_option maxRecDepth 100000 in
theorem show_one (w : World) (j : Nat) (hj : j < 9223372036854775808) :
    Calls Try.prog 20 #[.agg #[.int .i64 1, .int .i64 j, .int .u64 0, .int .u64 0]] w fun e w' => e = .returned (.string (bs (Four.shown ⟨1, j, 0, 0⟩))) ∧ Only [] w w' := by
  have HB := Lib.hid (Blk.new w 24 #[.int .i64 1, .int .i64 j, .int .u64 0, .int .u64 0])
  have hmm := @run_makeMap Try.prog
  go_enter Try.func20, Try.ntmps20
  go_wp2_with fail
  refine (does_any _ 1 j 0 0).mono ?_
  rintro e w1 ⟨rfl, ho⟩
  have HO1 := Lib.hid (((Only.refl [] w).alloc _).trans ho)
  have HB1 := Lib.hid (HB.out.only ho (by simp))
  have q0 := HB1.out.at 0 rfl
  have q1 := HB1.out.at 1 rfl
  have q2 := HB1.out.at 2 rfl
  have q3 := HB1.out.at 3 rfl
  have i1 := nins1 w1
  have i2 := nins2 w1
  have i3 := nins3 w1
  have i4 := nins4 w1
  have lk := nlook w1 1 0 [108, 111, 97, 100] rfl
  have HB2 := Lib.hid (HB1.out.alloc (.map nm4 4))
  have r0 := HB2.out.at 0 rfl
  have r1 := HB2.out.at 1 rfl
  have HB3 := Lib.hid (HB2.out.alloc (.cells #[.int .i64 1, .int .i64 j, .int .u64 0, .int .u64 0] 24))
  have s1 := HB3.out.at 1 rfl
  have HS := Lib.hid (Blk.new' (w1.alloc (.map nm4 4)) 24 #[.int .i64 1, .int .i64 j, .int .u64 0, .int .u64 0] (g := w1.heap.size + 1) (by simp))
  have lj := digs_20 j (by omega)
  have a1 : ∀ W, Sem.run Try.prog (Op.stringOp .add (bs [108, 111, 97, 100]) ⟨#[32]⟩) W = .ok (.string (bs [108, 111, 97, 100, 32])) W := fun W => join_text W _ [32] (by simp)
  obtain ⟨t1, ht1⟩ : ∃ t, t = [108, 111, 97, 100, 32] ++ digs j := ⟨_, rfl⟩
  have l1 : t1.length ≤ 26 := by rw [ht1]; simp; omega
  have a2 : ∀ W, Sem.run Try.prog (Op.stringOp .add (bs [108, 111, 97, 100, 32]) (bs (digs j))) W = .ok (.string (bs t1)) W := fun W => by rw [ht1]; exact join_text W _ _ (by simp; omega)
  have hT : Four.shown ⟨1, j, 0, 0⟩ = t1 := by
    have hg : Four.good ⟨1, j, 0, 0⟩ := by simp [Four.good]
    rw [ht1]
    simp [Four.shown, hg, Four.text, nameOf]
  have HT := Lib.hid hT
  clear ho hT ht1 l1 lj
  have hle : w.heap.size ≤ w1.heap.size + 1 := by have := HO1.out.size; omega
  have hne : w.heap.size ≠ w1.heap.size + 1 := by have := HB1.out.lt; omega
  have HO2 := Lib.hid ((HO1.out.alloc (.map nm4 4)).alloc (.cells #[.int .i64 1, .int .i64 j, .int .u64 0, .int .u64 0] 24))
  go_wp2_with fail
  refine (decimal_any j (by omega) _).mono ?_
  rintro e w2 ⟨rfl, ho⟩
  have HO2 := Lib.hid (HO2.out.trans ho)
  have HB := Lib.hid (HB3.out.only ho (by simp))
  have HS := Lib.hid (HS.out.only ho (by simp))
  have q0 := HB.out.at 0 rfl
  have q1 := HB.out.at 1 rfl
  have q2 := HB.out.at 2 rfl
  have q3 := HB.out.at 3 rfl
  clear ho i1 i2 i3 i4 lk r0 r1 s1 hmm
  go_wp2_with fail
  refine (lays_any _ 1 j 0 0).mono ?_
  rintro e w3 ⟨rfl, ho⟩
  have HO2 := Lib.hid (HO2.out.trans ho)
  have HB := Lib.hid (HB.out.only ho (by simp))
  have HS := Lib.hid (HS.out.only ho (by simp))
  clear ho q1 q2 q3
  have q0 := HB.out.at 0 rfl
  have q1 := HB.out.at 1 rfl
  have q2 := HB.out.at 2 rfl
  have q3 := HB.out.at 3 rfl
  have r0 := HS.out.at 0 rfl
  have r1 := HS.out.at 1 rfl
  have r2 := HS.out.at 2 rfl
  have r3 := HS.out.at 3 rfl
  go_wp2_with fail
  go_ret
  exact ⟨by rw [HT.out]; rfl, HO2.out⟩

set_option maxRecDepth 100000 in
theorem show_two (w : World) (j a : Nat) (hj : j < 9223372036854775808) (ha : a < 18446744073709551616) :
    Calls Try.prog 20 #[.agg #[.int .i64 2, .int .i64 j, .int .u64 a, .int .u64 0]] w fun e w' => e = .returned (.string (bs (Four.shown ⟨2, j, a, 0⟩))) ∧ Only [] w w' := by
  have HB := Lib.hid (Blk.new w 24 #[.int .i64 2, .int .i64 j, .int .u64 a, .int .u64 0])
  have hmm := @run_makeMap Try.prog
  go_enter Try.func20, Try.ntmps20
  go_wp2_with fail
  refine (does_any _ 2 j a 0).mono ?_
  rintro e w1 ⟨rfl, ho⟩
  have HO1 := Lib.hid (((Only.refl [] w).alloc _).trans ho)
  have HB1 := Lib.hid (HB.out.only ho (by simp))
  have q0 := HB1.out.at 0 rfl
  have q1 := HB1.out.at 1 rfl
  have q2 := HB1.out.at 2 rfl
  have q3 := HB1.out.at 3 rfl
  have i1 := nins1 w1
  have i2 := nins2 w1
  have i3 := nins3 w1
  have i4 := nins4 w1
  have lk := nlook w1 2 1 [115, 116, 111, 114, 101] rfl
  have HB2 := Lib.hid (HB1.out.alloc (.map nm4 4))
  have r0 := HB2.out.at 0 rfl
  have r1 := HB2.out.at 1 rfl
  have HB3 := Lib.hid (HB2.out.alloc (.cells #[.int .i64 2, .int .i64 j, .int .u64 0, .int .u64 0] 24))
  have s1 := HB3.out.at 1 rfl
  have HS := Lib.hid (Blk.new' (w1.alloc (.map nm4 4)) 24 #[.int .i64 2, .int .i64 j, .int .u64 0, .int .u64 0] (g := w1.heap.size + 1) (by simp))
  have lj := digs_20 j (by omega)
  have a1 : ∀ W, Sem.run Try.prog (Op.stringOp .add (bs [115, 116, 111, 114, 101]) ⟨#[32]⟩) W = .ok (.string (bs [115, 116, 111, 114, 101, 32])) W := fun W => join_text W _ [32] (by simp)
  obtain ⟨t1, ht1⟩ : ∃ t, t = [115, 116, 111, 114, 101, 32] ++ digs j := ⟨_, rfl⟩
  have l1 : t1.length ≤ 26 := by rw [ht1]; simp; omega
  have a2 : ∀ W, Sem.run Try.prog (Op.stringOp .add (bs [115, 116, 111, 114, 101, 32]) (bs (digs j))) W = .ok (.string (bs t1)) W := fun W => by rw [ht1]; exact join_text W _ _ (by simp; omega)
  have la := digs_20 a ha
  obtain ⟨t2, ht2⟩ : ∃ t, t = [32] ++ digs a := ⟨_, rfl⟩
  have l2 : t2.length ≤ 24 := by rw [ht2]; simp; omega
  have a3 : ∀ W, Sem.run Try.prog (Op.stringOp .add ⟨#[32]⟩ (bs (digs a))) W = .ok (.string (bs t2)) W := fun W => by rw [ht2]; exact join_text W [32] _ (by simp; omega)
  obtain ⟨t3, ht3⟩ : ∃ t, t = t1 ++ t2 := ⟨_, rfl⟩
  have l3 : t3.length ≤ 50 := by rw [ht3]; simp; omega
  have a4 : ∀ W, Sem.run Try.prog (Op.stringOp .add (bs t1) (bs t2)) W = .ok (.string (bs t3)) W := fun W => by rw [ht3]; exact join_text W _ _ (by omega)
  have hT : Four.shown ⟨2, j, a, 0⟩ = t3 := by
    have hg : Four.good ⟨2, j, a, 0⟩ := by simp [Four.good]
    rw [ht3, ht2, ht1]
    simp [Four.shown, hg, Four.text, nameOf]
  have HT := Lib.hid hT
  clear ho hT ht1 ht2 ht3 l1 l2 l3 lj la
  have hle : w.heap.size ≤ w1.heap.size + 1 := by have := HO1.out.size; omega
  have hne : w.heap.size ≠ w1.heap.size + 1 := by have := HB1.out.lt; omega
  have HO2 := Lib.hid ((HO1.out.alloc (.map nm4 4)).alloc (.cells #[.int .i64 2, .int .i64 j, .int .u64 0, .int .u64 0] 24))
  go_wp2_with fail
  refine (decimal_any j (by omega) _).mono ?_
  rintro e w2 ⟨rfl, ho⟩
  have HO2 := Lib.hid (HO2.out.trans ho)
  have HB := Lib.hid (HB3.out.only ho (by simp))
  have HS := Lib.hid (HS.out.only ho (by simp))
  have q0 := HB.out.at 0 rfl
  have q1 := HB.out.at 1 rfl
  have q2 := HB.out.at 2 rfl
  have q3 := HB.out.at 3 rfl
  clear ho i1 i2 i3 i4 lk r0 r1 s1 hmm
  go_wp2_with fail
  refine (lays_any _ 2 j a 0).mono ?_
  rintro e w3 ⟨rfl, ho⟩
  have HO2 := Lib.hid (HO2.out.trans ho)
  have HB := Lib.hid (HB.out.only ho (by simp))
  have HS := Lib.hid (HS.out.only ho (by simp))
  have q0 := HB.out.at 2 rfl
  have f0 := HS.out.frozen 2
  have c0 := HS.out.at 2 rfl
  clear ho q1 q2 q3
  have HB' := Lib.hid (HB.out.far hne (p := ⟨w1.heap.size + 1, 2, none⟩) (.int .u64 a))
  have p2 := HB'.out.at 2 rfl
  go_wp2_with fail
  refine (decimal_any a ha _).mono ?_
  rintro e w4 ⟨rfl, ho⟩
  have HO2 := Lib.hid ((HO2.out.setCell (.inr hle) _).trans ho)
  have HB := Lib.hid (HB'.out.only ho (by simp))
  have HS := Lib.hid ((HS.out.set 2 _).only ho (by simp))
  clear ho p2
  have q0 := HB.out.at 0 rfl
  have q1 := HB.out.at 1 rfl
  have q2 := HB.out.at 2 rfl
  have q3 := HB.out.at 3 rfl
  have r0 := HS.out.at 0 rfl
  have r1 := HS.out.at 1 rfl
  have r2 := HS.out.at 2 rfl
  have r3 := HS.out.at 3 rfl
  go_wp2_with fail
  go_ret
  exact ⟨by rw [HT.out]; rfl, HO2.out⟩

set_option maxRecDepth 100000 in
theorem show_two_bad (w : World) (j a b : Nat) (hj : j < 9223372036854775808) (ha : a < 18446744073709551616) (hbad : ¬ b = 0) :
    Calls Try.prog 20 #[.agg #[.int .i64 2, .int .i64 j, .int .u64 a, .int .u64 b]] w fun e w' => e = .returned (.string (bs (Four.shown ⟨2, j, a, b⟩))) ∧ Only [] w w' := by
  have HB := Lib.hid (Blk.new w 24 #[.int .i64 2, .int .i64 j, .int .u64 a, .int .u64 b])
  have hmm := @run_makeMap Try.prog
  go_enter Try.func20, Try.ntmps20
  go_wp2_with fail
  refine (does_any _ 2 j a b).mono ?_
  rintro e w1 ⟨rfl, ho⟩
  have HO1 := Lib.hid (((Only.refl [] w).alloc _).trans ho)
  have HB1 := Lib.hid (HB.out.only ho (by simp))
  have q0 := HB1.out.at 0 rfl
  have q1 := HB1.out.at 1 rfl
  have q2 := HB1.out.at 2 rfl
  have q3 := HB1.out.at 3 rfl
  have i1 := nins1 w1
  have i2 := nins2 w1
  have i3 := nins3 w1
  have i4 := nins4 w1
  have lk := nlook w1 2 1 [115, 116, 111, 114, 101] rfl
  have HB2 := Lib.hid (HB1.out.alloc (.map nm4 4))
  have r0 := HB2.out.at 0 rfl
  have r1 := HB2.out.at 1 rfl
  have HB3 := Lib.hid (HB2.out.alloc (.cells #[.int .i64 2, .int .i64 j, .int .u64 0, .int .u64 0] 24))
  have s1 := HB3.out.at 1 rfl
  have HS := Lib.hid (Blk.new' (w1.alloc (.map nm4 4)) 24 #[.int .i64 2, .int .i64 j, .int .u64 0, .int .u64 0] (g := w1.heap.size + 1) (by simp))
  have lj := digs_20 j (by omega)
  have a1 : ∀ W, Sem.run Try.prog (Op.stringOp .add (bs [115, 116, 111, 114, 101]) ⟨#[32]⟩) W = .ok (.string (bs [115, 116, 111, 114, 101, 32])) W := fun W => join_text W _ [32] (by simp)
  obtain ⟨t1, ht1⟩ : ∃ t, t = [115, 116, 111, 114, 101, 32] ++ digs j := ⟨_, rfl⟩
  have l1 : t1.length ≤ 26 := by rw [ht1]; simp; omega
  have a2 : ∀ W, Sem.run Try.prog (Op.stringOp .add (bs [115, 116, 111, 114, 101, 32]) (bs (digs j))) W = .ok (.string (bs t1)) W := fun W => by rw [ht1]; exact join_text W _ _ (by simp; omega)
  have la := digs_20 a ha
  obtain ⟨t2, ht2⟩ : ∃ t, t = [32] ++ digs a := ⟨_, rfl⟩
  have l2 : t2.length ≤ 24 := by rw [ht2]; simp; omega
  have a3 : ∀ W, Sem.run Try.prog (Op.stringOp .add ⟨#[32]⟩ (bs (digs a))) W = .ok (.string (bs t2)) W := fun W => by rw [ht2]; exact join_text W [32] _ (by simp; omega)
  obtain ⟨t3, ht3⟩ : ∃ t, t = t1 ++ t2 := ⟨_, rfl⟩
  have l3 : t3.length ≤ 50 := by rw [ht3]; simp; omega
  have a4 : ∀ W, Sem.run Try.prog (Op.stringOp .add (bs t1) (bs t2)) W = .ok (.string (bs t3)) W := fun W => by rw [ht3]; exact join_text W _ _ (by omega)
  have hT : Four.shown ⟨2, j, a, b⟩ = [] := by
    have hg : ¬ Four.good ⟨2, j, a, b⟩ := by simp [Four.good]; omega
    rw [Four.shown, if_neg hg]
  have hbi : ¬ (b : Int) = 0 := by omega
  have HT := Lib.hid hT
  clear ho hT ht1 ht2 ht3 l1 l2 l3 lj la
  have hle : w.heap.size ≤ w1.heap.size + 1 := by have := HO1.out.size; omega
  have hne : w.heap.size ≠ w1.heap.size + 1 := by have := HB1.out.lt; omega
  have HO2 := Lib.hid ((HO1.out.alloc (.map nm4 4)).alloc (.cells #[.int .i64 2, .int .i64 j, .int .u64 0, .int .u64 0] 24))
  go_wp2_with fail
  refine (decimal_any j (by omega) _).mono ?_
  rintro e w2 ⟨rfl, ho⟩
  have HO2 := Lib.hid (HO2.out.trans ho)
  have HB := Lib.hid (HB3.out.only ho (by simp))
  have HS := Lib.hid (HS.out.only ho (by simp))
  have q0 := HB.out.at 0 rfl
  have q1 := HB.out.at 1 rfl
  have q2 := HB.out.at 2 rfl
  have q3 := HB.out.at 3 rfl
  clear ho i1 i2 i3 i4 lk r0 r1 s1 hmm
  go_wp2_with fail
  refine (lays_any _ 2 j a b).mono ?_
  rintro e w3 ⟨rfl, ho⟩
  have HO2 := Lib.hid (HO2.out.trans ho)
  have HB := Lib.hid (HB.out.only ho (by simp))
  have HS := Lib.hid (HS.out.only ho (by simp))
  have q0 := HB.out.at 2 rfl
  have f0 := HS.out.frozen 2
  have c0 := HS.out.at 2 rfl
  clear ho q1 q2 q3
  have HB' := Lib.hid (HB.out.far hne (p := ⟨w1.heap.size + 1, 2, none⟩) (.int .u64 a))
  have p2 := HB'.out.at 2 rfl
  go_wp2_with fail
  refine (decimal_any a ha _).mono ?_
  rintro e w4 ⟨rfl, ho⟩
  have HO2 := Lib.hid ((HO2.out.setCell (.inr hle) _).trans ho)
  have HB := Lib.hid (HB'.out.only ho (by simp))
  have HS := Lib.hid ((HS.out.set 2 _).only ho (by simp))
  clear ho p2
  have q0 := HB.out.at 0 rfl
  have q1 := HB.out.at 1 rfl
  have q2 := HB.out.at 2 rfl
  have q3 := HB.out.at 3 rfl
  have r0 := HS.out.at 0 rfl
  have r1 := HS.out.at 1 rfl
  have r2 := HS.out.at 2 rfl
  have r3 := HS.out.at 3 rfl
  go_wp2_with fail
  go_ret
  exact ⟨by rw [HT.out]; rfl, HO2.out⟩

set_option maxRecDepth 100000 in
theorem show_three (w : World) (j a b : Nat) (hj : j < 9223372036854775808) (ha : a < 18446744073709551616) (hb : b < 18446744073709551616) :
    Calls Try.prog 20 #[.agg #[.int .i64 3, .int .i64 j, .int .u64 a, .int .u64 b]] w fun e w' => e = .returned (.string (bs (Four.shown ⟨3, j, a, b⟩))) ∧ Only [] w w' := by
  have HB := Lib.hid (Blk.new w 24 #[.int .i64 3, .int .i64 j, .int .u64 a, .int .u64 b])
  have hmm := @run_makeMap Try.prog
  go_enter Try.func20, Try.ntmps20
  go_wp2_with fail
  refine (does_any _ 3 j a b).mono ?_
  rintro e w1 ⟨rfl, ho⟩
  have HO1 := Lib.hid (((Only.refl [] w).alloc _).trans ho)
  have HB1 := Lib.hid (HB.out.only ho (by simp))
  have q0 := HB1.out.at 0 rfl
  have q1 := HB1.out.at 1 rfl
  have q2 := HB1.out.at 2 rfl
  have q3 := HB1.out.at 3 rfl
  have i1 := nins1 w1
  have i2 := nins2 w1
  have i3 := nins3 w1
  have i4 := nins4 w1
  have lk := nlook w1 3 2 [99, 97, 115] rfl
  have HB2 := Lib.hid (HB1.out.alloc (.map nm4 4))
  have r0 := HB2.out.at 0 rfl
  have r1 := HB2.out.at 1 rfl
  have HB3 := Lib.hid (HB2.out.alloc (.cells #[.int .i64 3, .int .i64 j, .int .u64 0, .int .u64 0] 24))
  have s1 := HB3.out.at 1 rfl
  have HS := Lib.hid (Blk.new' (w1.alloc (.map nm4 4)) 24 #[.int .i64 3, .int .i64 j, .int .u64 0, .int .u64 0] (g := w1.heap.size + 1) (by simp))
  have lj := digs_20 j (by omega)
  have a1 : ∀ W, Sem.run Try.prog (Op.stringOp .add (bs [99, 97, 115]) ⟨#[32]⟩) W = .ok (.string (bs [99, 97, 115, 32])) W := fun W => join_text W _ [32] (by simp)
  obtain ⟨t1, ht1⟩ : ∃ t, t = [99, 97, 115, 32] ++ digs j := ⟨_, rfl⟩
  have l1 : t1.length ≤ 26 := by rw [ht1]; simp; omega
  have a2 : ∀ W, Sem.run Try.prog (Op.stringOp .add (bs [99, 97, 115, 32]) (bs (digs j))) W = .ok (.string (bs t1)) W := fun W => by rw [ht1]; exact join_text W _ _ (by simp; omega)
  have la := digs_20 a ha
  obtain ⟨t2, ht2⟩ : ∃ t, t = [32] ++ digs a := ⟨_, rfl⟩
  have l2 : t2.length ≤ 24 := by rw [ht2]; simp; omega
  have a3 : ∀ W, Sem.run Try.prog (Op.stringOp .add ⟨#[32]⟩ (bs (digs a))) W = .ok (.string (bs t2)) W := fun W => by rw [ht2]; exact join_text W [32] _ (by simp; omega)
  obtain ⟨t3, ht3⟩ : ∃ t, t = t1 ++ t2 := ⟨_, rfl⟩
  have l3 : t3.length ≤ 50 := by rw [ht3]; simp; omega
  have a4 : ∀ W, Sem.run Try.prog (Op.stringOp .add (bs t1) (bs t2)) W = .ok (.string (bs t3)) W := fun W => by rw [ht3]; exact join_text W _ _ (by omega)
  have lb := digs_20 b hb
  obtain ⟨t4, ht4⟩ : ∃ t, t = [32] ++ digs b := ⟨_, rfl⟩
  have l4 : t4.length ≤ 24 := by rw [ht4]; simp; omega
  have a5 : ∀ W, Sem.run Try.prog (Op.stringOp .add ⟨#[32]⟩ (bs (digs b))) W = .ok (.string (bs t4)) W := fun W => by rw [ht4]; exact join_text W [32] _ (by simp; omega)
  obtain ⟨t5, ht5⟩ : ∃ t, t = t3 ++ t4 := ⟨_, rfl⟩
  have a6 : ∀ W, Sem.run Try.prog (Op.stringOp .add (bs t3) (bs t4)) W = .ok (.string (bs t5)) W := fun W => by rw [ht5]; exact join_text W _ _ (by omega)
  have hT : Four.shown ⟨3, j, a, b⟩ = t5 := by
    have hg : Four.good ⟨3, j, a, b⟩ := by simp [Four.good]
    rw [ht5, ht4, ht3, ht2, ht1]
    simp [Four.shown, hg, Four.text, nameOf]
  have HT := Lib.hid hT
  clear ho hT ht1 ht2 ht3 ht4 ht5 l1 l2 l3 l4 lj la lb
  have hle : w.heap.size ≤ w1.heap.size + 1 := by have := HO1.out.size; omega
  have hne : w.heap.size ≠ w1.heap.size + 1 := by have := HB1.out.lt; omega
  have HO2 := Lib.hid ((HO1.out.alloc (.map nm4 4)).alloc (.cells #[.int .i64 3, .int .i64 j, .int .u64 0, .int .u64 0] 24))
  go_wp2_with fail
  refine (decimal_any j (by omega) _).mono ?_
  rintro e w2 ⟨rfl, ho⟩
  have HO2 := Lib.hid (HO2.out.trans ho)
  have HB := Lib.hid (HB3.out.only ho (by simp))
  have HS := Lib.hid (HS.out.only ho (by simp))
  have q0 := HB.out.at 0 rfl
  have q1 := HB.out.at 1 rfl
  have q2 := HB.out.at 2 rfl
  have q3 := HB.out.at 3 rfl
  clear ho i1 i2 i3 i4 lk r0 r1 s1 hmm
  go_wp2_with fail
  refine (lays_any _ 3 j a b).mono ?_
  rintro e w3 ⟨rfl, ho⟩
  have HO2 := Lib.hid (HO2.out.trans ho)
  have HB := Lib.hid (HB.out.only ho (by simp))
  have HS := Lib.hid (HS.out.only ho (by simp))
  have q0 := HB.out.at 2 rfl
  have f0 := HS.out.frozen 2
  have c0 := HS.out.at 2 rfl
  clear ho q1 q2 q3
  have HB' := Lib.hid (HB.out.far hne (p := ⟨w1.heap.size + 1, 2, none⟩) (.int .u64 a))
  have p2 := HB'.out.at 2 rfl
  go_wp2_with fail
  refine (decimal_any a ha _).mono ?_
  rintro e w4 ⟨rfl, ho⟩
  have HO2 := Lib.hid ((HO2.out.setCell (.inr hle) _).trans ho)
  have HB := Lib.hid (HB'.out.only ho (by simp))
  have HS := Lib.hid ((HS.out.set 2 _).only ho (by simp))
  clear ho p2
  have q0 := HB.out.at 0 rfl
  have q3 := HB.out.at 3 rfl
  have f0 := HS.out.frozen 3
  have c0 := HS.out.at 3 rfl
  have HB' := Lib.hid (HB.out.far hne (p := ⟨w1.heap.size + 1, 3, none⟩) (.int .u64 b))
  have p3 := HB'.out.at 3 rfl
  go_wp2_with fail
  refine (decimal_any b hb _).mono ?_
  rintro e w5 ⟨rfl, ho⟩
  have HO2 := Lib.hid ((HO2.out.setCell (.inr hle) _).trans ho)
  have HB := Lib.hid (HB'.out.only ho (by simp))
  have HS := Lib.hid ((HS.out.set 3 _).only ho (by simp))
  clear ho p3
  have q0 := HB.out.at 0 rfl
  have q1 := HB.out.at 1 rfl
  have q2 := HB.out.at 2 rfl
  have q3 := HB.out.at 3 rfl
  have r0 := HS.out.at 0 rfl
  have r1 := HS.out.at 1 rfl
  have r2 := HS.out.at 2 rfl
  have r3 := HS.out.at 3 rfl
  go_wp2_with fail
  go_ret
  exact ⟨by rw [HT.out]; rfl, HO2.out⟩

set_option maxRecDepth 100000 in
theorem show_four (w : World) (j a : Nat) (hj : j < 9223372036854775808) (ha : a < 18446744073709551616) :
    Calls Try.prog 20 #[.agg #[.int .i64 4, .int .i64 j, .int .u64 a, .int .u64 0]] w fun e w' => e = .returned (.string (bs (Four.shown ⟨4, j, a, 0⟩))) ∧ Only [] w w' := by
  have HB := Lib.hid (Blk.new w 24 #[.int .i64 4, .int .i64 j, .int .u64 a, .int .u64 0])
  have hmm := @run_makeMap Try.prog
  go_enter Try.func20, Try.ntmps20
  go_wp2_with fail
  refine (does_any _ 4 j a 0).mono ?_
  rintro e w1 ⟨rfl, ho⟩
  have HO1 := Lib.hid (((Only.refl [] w).alloc _).trans ho)
  have HB1 := Lib.hid (HB.out.only ho (by simp))
  have q0 := HB1.out.at 0 rfl
  have q1 := HB1.out.at 1 rfl
  have q2 := HB1.out.at 2 rfl
  have q3 := HB1.out.at 3 rfl
  have i1 := nins1 w1
  have i2 := nins2 w1
  have i3 := nins3 w1
  have i4 := nins4 w1
  have lk := nlook w1 4 3 [97, 100, 100] rfl
  have HB2 := Lib.hid (HB1.out.alloc (.map nm4 4))
  have r0 := HB2.out.at 0 rfl
  have r1 := HB2.out.at 1 rfl
  have HB3 := Lib.hid (HB2.out.alloc (.cells #[.int .i64 4, .int .i64 j, .int .u64 0, .int .u64 0] 24))
  have s1 := HB3.out.at 1 rfl
  have HS := Lib.hid (Blk.new' (w1.alloc (.map nm4 4)) 24 #[.int .i64 4, .int .i64 j, .int .u64 0, .int .u64 0] (g := w1.heap.size + 1) (by simp))
  have lj := digs_20 j (by omega)
  have a1 : ∀ W, Sem.run Try.prog (Op.stringOp .add (bs [97, 100, 100]) ⟨#[32]⟩) W = .ok (.string (bs [97, 100, 100, 32])) W := fun W => join_text W _ [32] (by simp)
  obtain ⟨t1, ht1⟩ : ∃ t, t = [97, 100, 100, 32] ++ digs j := ⟨_, rfl⟩
  have l1 : t1.length ≤ 26 := by rw [ht1]; simp; omega
  have a2 : ∀ W, Sem.run Try.prog (Op.stringOp .add (bs [97, 100, 100, 32]) (bs (digs j))) W = .ok (.string (bs t1)) W := fun W => by rw [ht1]; exact join_text W _ _ (by simp; omega)
  have la := digs_20 a ha
  obtain ⟨t2, ht2⟩ : ∃ t, t = [32] ++ digs a := ⟨_, rfl⟩
  have l2 : t2.length ≤ 24 := by rw [ht2]; simp; omega
  have a3 : ∀ W, Sem.run Try.prog (Op.stringOp .add ⟨#[32]⟩ (bs (digs a))) W = .ok (.string (bs t2)) W := fun W => by rw [ht2]; exact join_text W [32] _ (by simp; omega)
  obtain ⟨t3, ht3⟩ : ∃ t, t = t1 ++ t2 := ⟨_, rfl⟩
  have l3 : t3.length ≤ 50 := by rw [ht3]; simp; omega
  have a4 : ∀ W, Sem.run Try.prog (Op.stringOp .add (bs t1) (bs t2)) W = .ok (.string (bs t3)) W := fun W => by rw [ht3]; exact join_text W _ _ (by omega)
  have hT : Four.shown ⟨4, j, a, 0⟩ = t3 := by
    have hg : Four.good ⟨4, j, a, 0⟩ := by simp [Four.good]
    rw [ht3, ht2, ht1]
    simp [Four.shown, hg, Four.text, nameOf]
  have HT := Lib.hid hT
  clear ho hT ht1 ht2 ht3 l1 l2 l3 lj la
  have hle : w.heap.size ≤ w1.heap.size + 1 := by have := HO1.out.size; omega
  have hne : w.heap.size ≠ w1.heap.size + 1 := by have := HB1.out.lt; omega
  have HO2 := Lib.hid ((HO1.out.alloc (.map nm4 4)).alloc (.cells #[.int .i64 4, .int .i64 j, .int .u64 0, .int .u64 0] 24))
  go_wp2_with fail
  refine (decimal_any j (by omega) _).mono ?_
  rintro e w2 ⟨rfl, ho⟩
  have HO2 := Lib.hid (HO2.out.trans ho)
  have HB := Lib.hid (HB3.out.only ho (by simp))
  have HS := Lib.hid (HS.out.only ho (by simp))
  have q0 := HB.out.at 0 rfl
  have q1 := HB.out.at 1 rfl
  have q2 := HB.out.at 2 rfl
  have q3 := HB.out.at 3 rfl
  clear ho i1 i2 i3 i4 lk r0 r1 s1 hmm
  go_wp2_with fail
  refine (lays_any _ 4 j a 0).mono ?_
  rintro e w3 ⟨rfl, ho⟩
  have HO2 := Lib.hid (HO2.out.trans ho)
  have HB := Lib.hid (HB.out.only ho (by simp))
  have HS := Lib.hid (HS.out.only ho (by simp))
  have q0 := HB.out.at 2 rfl
  have f0 := HS.out.frozen 2
  have c0 := HS.out.at 2 rfl
  clear ho q1 q2 q3
  have HB' := Lib.hid (HB.out.far hne (p := ⟨w1.heap.size + 1, 2, none⟩) (.int .u64 a))
  have p2 := HB'.out.at 2 rfl
  go_wp2_with fail
  refine (decimal_any a ha _).mono ?_
  rintro e w4 ⟨rfl, ho⟩
  have HO2 := Lib.hid ((HO2.out.setCell (.inr hle) _).trans ho)
  have HB := Lib.hid (HB'.out.only ho (by simp))
  have HS := Lib.hid ((HS.out.set 2 _).only ho (by simp))
  clear ho p2
  have q0 := HB.out.at 0 rfl
  have q1 := HB.out.at 1 rfl
  have q2 := HB.out.at 2 rfl
  have q3 := HB.out.at 3 rfl
  have r0 := HS.out.at 0 rfl
  have r1 := HS.out.at 1 rfl
  have r2 := HS.out.at 2 rfl
  have r3 := HS.out.at 3 rfl
  go_wp2_with fail
  go_ret
  exact ⟨by rw [HT.out]; rfl, HO2.out⟩

set_option maxRecDepth 100000 in
theorem show_four_bad (w : World) (j a b : Nat) (hj : j < 9223372036854775808) (ha : a < 18446744073709551616) (hbad : ¬ b = 0) :
    Calls Try.prog 20 #[.agg #[.int .i64 4, .int .i64 j, .int .u64 a, .int .u64 b]] w fun e w' => e = .returned (.string (bs (Four.shown ⟨4, j, a, b⟩))) ∧ Only [] w w' := by
  have HB := Lib.hid (Blk.new w 24 #[.int .i64 4, .int .i64 j, .int .u64 a, .int .u64 b])
  have hmm := @run_makeMap Try.prog
  go_enter Try.func20, Try.ntmps20
  go_wp2_with fail
  refine (does_any _ 4 j a b).mono ?_
  rintro e w1 ⟨rfl, ho⟩
  have HO1 := Lib.hid (((Only.refl [] w).alloc _).trans ho)
  have HB1 := Lib.hid (HB.out.only ho (by simp))
  have q0 := HB1.out.at 0 rfl
  have q1 := HB1.out.at 1 rfl
  have q2 := HB1.out.at 2 rfl
  have q3 := HB1.out.at 3 rfl
  have i1 := nins1 w1
  have i2 := nins2 w1
  have i3 := nins3 w1
  have i4 := nins4 w1
  have lk := nlook w1 4 3 [97, 100, 100] rfl
  have HB2 := Lib.hid (HB1.out.alloc (.map nm4 4))
  have r0 := HB2.out.at 0 rfl
  have r1 := HB2.out.at 1 rfl
  have HB3 := Lib.hid (HB2.out.alloc (.cells #[.int .i64 4, .int .i64 j, .int .u64 0, .int .u64 0] 24))
  have s1 := HB3.out.at 1 rfl
  have HS := Lib.hid (Blk.new' (w1.alloc (.map nm4 4)) 24 #[.int .i64 4, .int .i64 j, .int .u64 0, .int .u64 0] (g := w1.heap.size + 1) (by simp))
  have lj := digs_20 j (by omega)
  have a1 : ∀ W, Sem.run Try.prog (Op.stringOp .add (bs [97, 100, 100]) ⟨#[32]⟩) W = .ok (.string (bs [97, 100, 100, 32])) W := fun W => join_text W _ [32] (by simp)
  obtain ⟨t1, ht1⟩ : ∃ t, t = [97, 100, 100, 32] ++ digs j := ⟨_, rfl⟩
  have l1 : t1.length ≤ 26 := by rw [ht1]; simp; omega
  have a2 : ∀ W, Sem.run Try.prog (Op.stringOp .add (bs [97, 100, 100, 32]) (bs (digs j))) W = .ok (.string (bs t1)) W := fun W => by rw [ht1]; exact join_text W _ _ (by simp; omega)
  have la := digs_20 a ha
  obtain ⟨t2, ht2⟩ : ∃ t, t = [32] ++ digs a := ⟨_, rfl⟩
  have l2 : t2.length ≤ 24 := by rw [ht2]; simp; omega
  have a3 : ∀ W, Sem.run Try.prog (Op.stringOp .add ⟨#[32]⟩ (bs (digs a))) W = .ok (.string (bs t2)) W := fun W => by rw [ht2]; exact join_text W [32] _ (by simp; omega)
  obtain ⟨t3, ht3⟩ : ∃ t, t = t1 ++ t2 := ⟨_, rfl⟩
  have l3 : t3.length ≤ 50 := by rw [ht3]; simp; omega
  have a4 : ∀ W, Sem.run Try.prog (Op.stringOp .add (bs t1) (bs t2)) W = .ok (.string (bs t3)) W := fun W => by rw [ht3]; exact join_text W _ _ (by omega)
  have hT : Four.shown ⟨4, j, a, b⟩ = [] := by
    have hg : ¬ Four.good ⟨4, j, a, b⟩ := by simp [Four.good]; omega
    rw [Four.shown, if_neg hg]
  have hbi : ¬ (b : Int) = 0 := by omega
  have HT := Lib.hid hT
  clear ho hT ht1 ht2 ht3 l1 l2 l3 lj la
  have hle : w.heap.size ≤ w1.heap.size + 1 := by have := HO1.out.size; omega
  have hne : w.heap.size ≠ w1.heap.size + 1 := by have := HB1.out.lt; omega
  have HO2 := Lib.hid ((HO1.out.alloc (.map nm4 4)).alloc (.cells #[.int .i64 4, .int .i64 j, .int .u64 0, .int .u64 0] 24))
  go_wp2_with fail
  refine (decimal_any j (by omega) _).mono ?_
  rintro e w2 ⟨rfl, ho⟩
  have HO2 := Lib.hid (HO2.out.trans ho)
  have HB := Lib.hid (HB3.out.only ho (by simp))
  have HS := Lib.hid (HS.out.only ho (by simp))
  have q0 := HB.out.at 0 rfl
  have q1 := HB.out.at 1 rfl
  have q2 := HB.out.at 2 rfl
  have q3 := HB.out.at 3 rfl
  clear ho i1 i2 i3 i4 lk r0 r1 s1 hmm
  go_wp2_with fail
  refine (lays_any _ 4 j a b).mono ?_
  rintro e w3 ⟨rfl, ho⟩
  have HO2 := Lib.hid (HO2.out.trans ho)
  have HB := Lib.hid (HB.out.only ho (by simp))
  have HS := Lib.hid (HS.out.only ho (by simp))
  have q0 := HB.out.at 2 rfl
  have f0 := HS.out.frozen 2
  have c0 := HS.out.at 2 rfl
  clear ho q1 q2 q3
  have HB' := Lib.hid (HB.out.far hne (p := ⟨w1.heap.size + 1, 2, none⟩) (.int .u64 a))
  have p2 := HB'.out.at 2 rfl
  go_wp2_with fail
  refine (decimal_any a ha _).mono ?_
  rintro e w4 ⟨rfl, ho⟩
  have HO2 := Lib.hid ((HO2.out.setCell (.inr hle) _).trans ho)
  have HB := Lib.hid (HB'.out.only ho (by simp))
  have HS := Lib.hid ((HS.out.set 2 _).only ho (by simp))
  clear ho p2
  have q0 := HB.out.at 0 rfl
  have q1 := HB.out.at 1 rfl
  have q2 := HB.out.at 2 rfl
  have q3 := HB.out.at 3 rfl
  have r0 := HS.out.at 0 rfl
  have r1 := HS.out.at 1 rfl
  have r2 := HS.out.at 2 rfl
  have r3 := HS.out.at 3 rfl
  go_wp2_with fail
  go_ret
  exact ⟨by rw [HT.out]; rfl, HO2.out⟩

set_option maxRecDepth 100000 in
theorem show_one_bada (w : World) (j a b : Nat) (hj : j < 9223372036854775808) (hbad : ¬ a = 0) :
    Calls Try.prog 20 #[.agg #[.int .i64 1, .int .i64 j, .int .u64 a, .int .u64 b]] w fun e w' => e = .returned (.string (bs (Four.shown ⟨1, j, a, b⟩))) ∧ Only [] w w' := by
  have HB := Lib.hid (Blk.new w 24 #[.int .i64 1, .int .i64 j, .int .u64 a, .int .u64 b])
  have hmm := @run_makeMap Try.prog
  go_enter Try.func20, Try.ntmps20
  go_wp2_with fail
  refine (does_any _ 1 j a b).mono ?_
  rintro e w1 ⟨rfl, ho⟩
  have HO1 := Lib.hid (((Only.refl [] w).alloc _).trans ho)
  have HB1 := Lib.hid (HB.out.only ho (by simp))
  have q0 := HB1.out.at 0 rfl
  have q1 := HB1.out.at 1 rfl
  have q2 := HB1.out.at 2 rfl
  have q3 := HB1.out.at 3 rfl
  have i1 := nins1 w1
  have i2 := nins2 w1
  have i3 := nins3 w1
  have i4 := nins4 w1
  have lk := nlook w1 1 0 [108, 111, 97, 100] rfl
  have HB2 := Lib.hid (HB1.out.alloc (.map nm4 4))
  have r0 := HB2.out.at 0 rfl
  have r1 := HB2.out.at 1 rfl
  have HB3 := Lib.hid (HB2.out.alloc (.cells #[.int .i64 1, .int .i64 j, .int .u64 0, .int .u64 0] 24))
  have s1 := HB3.out.at 1 rfl
  have HS := Lib.hid (Blk.new' (w1.alloc (.map nm4 4)) 24 #[.int .i64 1, .int .i64 j, .int .u64 0, .int .u64 0] (g := w1.heap.size + 1) (by simp))
  have lj := digs_20 j (by omega)
  have a1 : ∀ W, Sem.run Try.prog (Op.stringOp .add (bs [108, 111, 97, 100]) ⟨#[32]⟩) W = .ok (.string (bs [108, 111, 97, 100, 32])) W := fun W => join_text W _ [32] (by simp)
  obtain ⟨t1, ht1⟩ : ∃ t, t = [108, 111, 97, 100, 32] ++ digs j := ⟨_, rfl⟩
  have l1 : t1.length ≤ 26 := by rw [ht1]; simp; omega
  have a2 : ∀ W, Sem.run Try.prog (Op.stringOp .add (bs [108, 111, 97, 100, 32]) (bs (digs j))) W = .ok (.string (bs t1)) W := fun W => by rw [ht1]; exact join_text W _ _ (by simp; omega)
  have hT : Four.shown ⟨1, j, a, b⟩ = [] := by
    have hg : ¬ Four.good ⟨1, j, a, b⟩ := by simp [Four.good]; omega
    rw [Four.shown, if_neg hg]
  have hbi : ¬ (a : Int) = 0 := by omega
  have HT := Lib.hid hT
  clear ho hT ht1 l1 lj
  have hle : w.heap.size ≤ w1.heap.size + 1 := by have := HO1.out.size; omega
  have hne : w.heap.size ≠ w1.heap.size + 1 := by have := HB1.out.lt; omega
  have HO2 := Lib.hid ((HO1.out.alloc (.map nm4 4)).alloc (.cells #[.int .i64 1, .int .i64 j, .int .u64 0, .int .u64 0] 24))
  go_wp2_with fail
  refine (decimal_any j (by omega) _).mono ?_
  rintro e w2 ⟨rfl, ho⟩
  have HO2 := Lib.hid (HO2.out.trans ho)
  have HB := Lib.hid (HB3.out.only ho (by simp))
  have HS := Lib.hid (HS.out.only ho (by simp))
  have q0 := HB.out.at 0 rfl
  have q1 := HB.out.at 1 rfl
  have q2 := HB.out.at 2 rfl
  have q3 := HB.out.at 3 rfl
  clear ho i1 i2 i3 i4 lk r0 r1 s1 hmm
  go_wp2_with fail
  refine (lays_any _ 1 j a b).mono ?_
  rintro e w3 ⟨rfl, ho⟩
  have HO2 := Lib.hid (HO2.out.trans ho)
  have HB := Lib.hid (HB.out.only ho (by simp))
  have HS := Lib.hid (HS.out.only ho (by simp))
  clear ho q1 q2 q3
  have q0 := HB.out.at 0 rfl
  have q1 := HB.out.at 1 rfl
  have q2 := HB.out.at 2 rfl
  have q3 := HB.out.at 3 rfl
  have r0 := HS.out.at 0 rfl
  have r1 := HS.out.at 1 rfl
  have r2 := HS.out.at 2 rfl
  have r3 := HS.out.at 3 rfl
  go_wp2_with fail
  go_ret
  exact ⟨by rw [HT.out]; rfl, HO2.out⟩

set_option maxRecDepth 100000 in
theorem show_one_badb (w : World) (j b : Nat) (hj : j < 9223372036854775808) (hbad : ¬ b = 0) :
    Calls Try.prog 20 #[.agg #[.int .i64 1, .int .i64 j, .int .u64 0, .int .u64 b]] w fun e w' => e = .returned (.string (bs (Four.shown ⟨1, j, 0, b⟩))) ∧ Only [] w w' := by
  have HB := Lib.hid (Blk.new w 24 #[.int .i64 1, .int .i64 j, .int .u64 0, .int .u64 b])
  have hmm := @run_makeMap Try.prog
  go_enter Try.func20, Try.ntmps20
  go_wp2_with fail
  refine (does_any _ 1 j 0 b).mono ?_
  rintro e w1 ⟨rfl, ho⟩
  have HO1 := Lib.hid (((Only.refl [] w).alloc _).trans ho)
  have HB1 := Lib.hid (HB.out.only ho (by simp))
  have q0 := HB1.out.at 0 rfl
  have q1 := HB1.out.at 1 rfl
  have q2 := HB1.out.at 2 rfl
  have q3 := HB1.out.at 3 rfl
  have i1 := nins1 w1
  have i2 := nins2 w1
  have i3 := nins3 w1
  have i4 := nins4 w1
  have lk := nlook w1 1 0 [108, 111, 97, 100] rfl
  have HB2 := Lib.hid (HB1.out.alloc (.map nm4 4))
  have r0 := HB2.out.at 0 rfl
  have r1 := HB2.out.at 1 rfl
  have HB3 := Lib.hid (HB2.out.alloc (.cells #[.int .i64 1, .int .i64 j, .int .u64 0, .int .u64 0] 24))
  have s1 := HB3.out.at 1 rfl
  have HS := Lib.hid (Blk.new' (w1.alloc (.map nm4 4)) 24 #[.int .i64 1, .int .i64 j, .int .u64 0, .int .u64 0] (g := w1.heap.size + 1) (by simp))
  have lj := digs_20 j (by omega)
  have a1 : ∀ W, Sem.run Try.prog (Op.stringOp .add (bs [108, 111, 97, 100]) ⟨#[32]⟩) W = .ok (.string (bs [108, 111, 97, 100, 32])) W := fun W => join_text W _ [32] (by simp)
  obtain ⟨t1, ht1⟩ : ∃ t, t = [108, 111, 97, 100, 32] ++ digs j := ⟨_, rfl⟩
  have l1 : t1.length ≤ 26 := by rw [ht1]; simp; omega
  have a2 : ∀ W, Sem.run Try.prog (Op.stringOp .add (bs [108, 111, 97, 100, 32]) (bs (digs j))) W = .ok (.string (bs t1)) W := fun W => by rw [ht1]; exact join_text W _ _ (by simp; omega)
  have hT : Four.shown ⟨1, j, 0, b⟩ = [] := by
    have hg : ¬ Four.good ⟨1, j, 0, b⟩ := by simp [Four.good]; omega
    rw [Four.shown, if_neg hg]
  have hbi : ¬ (b : Int) = 0 := by omega
  have HT := Lib.hid hT
  clear ho hT ht1 l1 lj
  have hle : w.heap.size ≤ w1.heap.size + 1 := by have := HO1.out.size; omega
  have hne : w.heap.size ≠ w1.heap.size + 1 := by have := HB1.out.lt; omega
  have HO2 := Lib.hid ((HO1.out.alloc (.map nm4 4)).alloc (.cells #[.int .i64 1, .int .i64 j, .int .u64 0, .int .u64 0] 24))
  go_wp2_with fail
  refine (decimal_any j (by omega) _).mono ?_
  rintro e w2 ⟨rfl, ho⟩
  have HO2 := Lib.hid (HO2.out.trans ho)
  have HB := Lib.hid (HB3.out.only ho (by simp))
  have HS := Lib.hid (HS.out.only ho (by simp))
  have q0 := HB.out.at 0 rfl
  have q1 := HB.out.at 1 rfl
  have q2 := HB.out.at 2 rfl
  have q3 := HB.out.at 3 rfl
  clear ho i1 i2 i3 i4 lk r0 r1 s1 hmm
  go_wp2_with fail
  refine (lays_any _ 1 j 0 b).mono ?_
  rintro e w3 ⟨rfl, ho⟩
  have HO2 := Lib.hid (HO2.out.trans ho)
  have HB := Lib.hid (HB.out.only ho (by simp))
  have HS := Lib.hid (HS.out.only ho (by simp))
  clear ho q1 q2 q3
  have q0 := HB.out.at 0 rfl
  have q1 := HB.out.at 1 rfl
  have q2 := HB.out.at 2 rfl
  have q3 := HB.out.at 3 rfl
  have r0 := HS.out.at 0 rfl
  have r1 := HS.out.at 1 rfl
  have r2 := HS.out.at 2 rfl
  have r3 := HS.out.at 3 rfl
  go_wp2_with fail
  go_ret
  exact ⟨by rw [HT.out]; rfl, HO2.out⟩

end Go.Proofs.Ytnoplfjodedijaa
