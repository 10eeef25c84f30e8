/- The document's task on a deque: Next and Step. Written by rtgen.py. -/
import Derived.Test.YtoecoijmkjhkgaaRT2
namespace Go.Proofs.Ytoecoijmkjhkgaa
open Go.RowKit

theorem rdo_act {w : World} {b s : Nat} {m m' : MS} {x : Act'} {v er : Int} {ok : Bool} (hm : IsRef w b s m) (h : m.act x = (m', ⟨v, ok, er⟩)) :
    Calls Try.prog 65 #[.pointer (some ⟨b, 0, none⟩), x.val] w fun e w' => e = .returned (.agg #[.int .u64 v, .bool ok, .int .i64 er]) ∧ Only [b, s] w w' ∧ IsRef w' b s m' := by
  have := rdo_any w b s m x hm
  rw [h] at this
  exact this

theorem rtnext_done (w : World) (b : Nat) (c0 c1 c2 c3 c4 c5 c6 c7 c9 : Value) (hb' : Blk w b 86 #[c0, c1, c2, c3, c4, c5, c6, c7, .bool true, c9]) :
    Calls Try.prog 42 #[.pointer (some ⟨b, 0, none⟩)] w fun e w' => e = .returned (.agg #[.int .i64 0, .int .i64 0, .int .u64 0, .int .u64 0]) ∧ Only [] w w' := by
  have hb := hb'.alloc (.cells #[.int .i64 0, .int .i64 0, .int .u64 0, .int .u64 0] 74)
  have c8 := hb.at 8 (v := .bool true) rfl
  have hlt := hb'.lt
  clear hb hb'
  go_enter Try.func42, Try.ntmps42
  go_wp2_with fail
  refine bodyPost_ret (v := .agg #[.int .i64 0, .int .i64 0, .int .u64 0, .int .u64 0]) (by simp [results, Try.results42, go_sem]) rfl ⟨rfl, ?_⟩
  repeat (first | exact Only.refl _ _ | apply Only.alloc | apply Only.drew | refine Only.setCell ?_ (.inr (Nat.le_refl _)) _)

set_option maxHeartbeats 1000000 in
set_option maxRecDepth 100000 in
theorem rtnext_push (w : World) (b n : Nat) (at_ v turn top bot x0 x1 x2 x3 : Int) (got has : Bool) (hb' : Blk w b 86 (rtCells at_ n 0 v turn top bot got false has))
    (hN : ∀ w1, Blk w1 b 86 (rtCells at_ n 0 v turn top bot got false has) → Calls Try.prog 62 #[.pointer (some ⟨b, 0, none⟩)] w1 fun e w' => e = .returned (.agg #[.int .i64 x0, .int .i64 x1, .int .u64 x2, .int .u64 x3]) ∧ Only [] w1 w') :
    Calls Try.prog 42 #[.pointer (some ⟨b, 0, none⟩)] w fun e w' => e = .returned (.agg #[.int .i64 x0, .int .i64 x1, .int .u64 x2, .int .u64 x3]) ∧ Only [] w w' := by
  have HB := Lib.hid (hb'.alloc (.cells #[.int .i64 0, .int .i64 0, .int .u64 0, .int .u64 0] 74))
  have HZ := Lib.hid (Blk.new w 74 #[.int .i64 0, .int .i64 0, .int .u64 0, .int .u64 0])
  have HO := Lib.hid ((Only.refl [] w).alloc (.cells #[.int .i64 0, .int .i64 0, .int .u64 0, .int .u64 0] 74))
  have HN := Lib.hid hN
  have c2 := HB.out.at 2 (v := .int .i64 0) rfl
  have c8 := HB.out.at 8 (v := .bool false) rfl
  have hlt := hb'.lt
  clear hb' hN
  go_enter Try.func42, Try.ntmps42
  go_wp2_with fail
  refine (HN.out _ HB.out).mono ?_
  rintro e w1 ⟨rfl, ho⟩
  have HZ := Lib.hid (HZ.out.only ho (by simp))
  have HO := Lib.hid (HO.out.trans ho)
  have f0 := HZ.out.frozen 0
  have f1 := HZ.out.frozen 1
  have f2 := HZ.out.frozen 2
  have f3 := HZ.out.frozen 3
  have z0 := HZ.out.at 0 (v := .int .i64 0) rfl
  have z1 := HZ.out.at 1 (v := .int .i64 0) rfl
  have z2 := HZ.out.at 2 (v := .int .u64 0) rfl
  have z3 := HZ.out.at 3 (v := .int .u64 0) rfl
  clear ho c2 c8
  go_wp2_with fail
  refine bodyPost_ret (v := .agg #[.int .i64 x0, .int .i64 x1, .int .u64 x2, .int .u64 x3]) (by simp [results, Try.results42, go_sem, *]) rfl ⟨rfl, ?_⟩
  repeat (first | exact HO.out | refine Only.setCell ?_ (.inr (Nat.le_refl _)) _)

set_option maxHeartbeats 2000000 in
set_option maxRecDepth 100000 in
theorem rtstep_push (w : World) (b rb rs n : Nat) (at_ v turn top bot y : Int) (got has ok dd : Bool) (x : Act') (m m' : MS) (c0 c1 c2 c3 c4 c5 c6 c7 c9 : Value) (hd : b ≠ rb ∧ b ≠ rs) (hb : Blk w b 86 (rtCells at_ n 0 v turn top bot got false has)) (hm : IsRef w rb rs m)
    (hn : Calls Try.prog 42 #[.pointer (some ⟨b, 0, none⟩)] w fun e w' => e = .returned x.val ∧ Only [] w w') (hact : m.act x = (m', ⟨y, ok, 0⟩))
    (ht : ∀ w1, Blk w1 b 86 (rtCells at_ n 0 v turn top bot got false has) → Calls Try.prog 67 #[.pointer (some ⟨b, 0, none⟩), .int .u64 y] w1 fun e w' => e = .returned (.tuple #[]) ∧ Only [b] w1 w' ∧ Blk w' b 86 #[c0, c1, c2, c3, c4, c5, c6, c7, .bool dd, c9]) :
    Calls Try.prog 43 #[.pointer (some ⟨b, 0, none⟩), .pointer (some ⟨rb, 0, none⟩)] w fun e w' => e = .returned (.bool dd) ∧ Only [b, rb, rs] w w' ∧ Blk w' b 86 #[c0, c1, c2, c3, c4, c5, c6, c7, .bool dd, c9] ∧ IsRef w' rb rs m' := by
  have c8 := hb.at 8 (v := .bool false) rfl
  have HB := Lib.hid hb
  have HM := Lib.hid hm
  have HA := Lib.hid hact
  have HD := Lib.hid hd
  have HN := Lib.hid hn
  have HT := Lib.hid ht
  clear hb hm hact hd hn ht
  go_enter Try.func43, Try.ntmps43
  go_wp2_with fail
  refine HN.out.mono ?_
  rintro e w1 ⟨rfl, ho⟩
  have HM1 := Lib.hid (HM.out.only ho (by simp) (by simp))
  have HB1 := Lib.hid (Blk.only HB.out ho (by simp))
  have HO1 := Lib.hid ho
  clear ho c8
  go_wp2_with fail
  refine (rdo_act HM1.out HA.out).mono ?_
  rintro e w2 ⟨rfl, ho, hm'⟩
  have ho2 := ((HO1.out.sub (T := [b, rb, rs]) (List.nil_subset _)).then ho (by simp)).alloc (.cells #[.int .u64 y, .bool ok, .int .i64 0] 137)
  have hb2 := Blk.alloc (Blk.only HB1.out ho (by have := HD.out; simp; omega)) (.cells #[.int .u64 y, .bool ok, .int .i64 0] 137)
  have hm2 := hm'.only ((Only.refl [] w2).alloc (.cells #[.int .u64 y, .bool ok, .int .i64 0] 137)) (by simp) (by simp)
  have c2 := hb2.at 2 (v := .int .i64 0) rfl
  have HO3 := Lib.hid ho2
  have HB3 := Lib.hid hb2
  have HM3 := Lib.hid hm2
  clear ho hm' ho2 hb2 hm2
  go_wp2_with fail
  refine (HT.out _ HB3.out).mono ?_
  rintro e w3 ⟨rfl, ho, hb⟩
  have HO4 := Lib.hid (HO3.out.trans (ho.sub (T := [b, rb, rs]) (by simp)))
  have HM4 := Lib.hid (HM3.out.only ho (by simpa using HD.out.1.symm) (by simpa using HD.out.2.symm))
  have HB4 := Lib.hid hb
  have c8 := hb.at 8 (v := .bool dd) rfl
  clear ho hb c2
  go_wp2_with fail
  go_ret
  exact ⟨rfl, HO4.out, HB4.out, HM4.out⟩

set_option maxHeartbeats 1000000 in
set_option maxRecDepth 100000 in
theorem rtnext_pop (w : World) (b n : Nat) (at_ v turn top bot x0 x1 x2 x3 : Int) (got has : Bool) (hb' : Blk w b 86 (rtCells at_ n 1 v turn top bot got false has))
    (hN : ∀ w1, Blk w1 b 86 (rtCells at_ n 1 v turn top bot got false has) → Calls Try.prog 63 #[.pointer (some ⟨b, 0, none⟩)] w1 fun e w' => e = .returned (.agg #[.int .i64 x0, .int .i64 x1, .int .u64 x2, .int .u64 x3]) ∧ Only [] w1 w') :
    Calls Try.prog 42 #[.pointer (some ⟨b, 0, none⟩)] w fun e w' => e = .returned (.agg #[.int .i64 x0, .int .i64 x1, .int .u64 x2, .int .u64 x3]) ∧ Only [] w w' := by
  have HB := Lib.hid (hb'.alloc (.cells #[.int .i64 0, .int .i64 0, .int .u64 0, .int .u64 0] 74))
  have HZ := Lib.hid (Blk.new w 74 #[.int .i64 0, .int .i64 0, .int .u64 0, .int .u64 0])
  have HO := Lib.hid ((Only.refl [] w).alloc (.cells #[.int .i64 0, .int .i64 0, .int .u64 0, .int .u64 0] 74))
  have HN := Lib.hid hN
  have c2 := HB.out.at 2 (v := .int .i64 1) rfl
  have c8 := HB.out.at 8 (v := .bool false) rfl
  have hlt := hb'.lt
  clear hb' hN
  go_enter Try.func42, Try.ntmps42
  go_wp2_with fail
  refine (HN.out _ HB.out).mono ?_
  rintro e w1 ⟨rfl, ho⟩
  have HZ := Lib.hid (HZ.out.only ho (by simp))
  have HO := Lib.hid (HO.out.trans ho)
  have f0 := HZ.out.frozen 0
  have f1 := HZ.out.frozen 1
  have f2 := HZ.out.frozen 2
  have f3 := HZ.out.frozen 3
  have z0 := HZ.out.at 0 (v := .int .i64 0) rfl
  have z1 := HZ.out.at 1 (v := .int .i64 0) rfl
  have z2 := HZ.out.at 2 (v := .int .u64 0) rfl
  have z3 := HZ.out.at 3 (v := .int .u64 0) rfl
  clear ho c2 c8
  go_wp2_with fail
  refine bodyPost_ret (v := .agg #[.int .i64 x0, .int .i64 x1, .int .u64 x2, .int .u64 x3]) (by simp [results, Try.results42, go_sem, *]) rfl ⟨rfl, ?_⟩
  repeat (first | exact HO.out | refine Only.setCell ?_ (.inr (Nat.le_refl _)) _)

set_option maxHeartbeats 2000000 in
set_option maxRecDepth 100000 in
theorem rtstep_pop (w : World) (b rb rs n : Nat) (at_ v turn top bot y : Int) (got has ok dd : Bool) (x : Act') (m m' : MS) (c0 c1 c2 c3 c4 c5 c6 c7 c9 : Value) (hd : b ≠ rb ∧ b ≠ rs) (hb : Blk w b 86 (rtCells at_ n 1 v turn top bot got false has)) (hm : IsRef w rb rs m)
    (hn : Calls Try.prog 42 #[.pointer (some ⟨b, 0, none⟩)] w fun e w' => e = .returned x.val ∧ Only [] w w') (hact : m.act x = (m', ⟨y, ok, 0⟩))
    (ht : ∀ w1, Blk w1 b 86 (rtCells at_ n 1 v turn top bot got false has) → Calls Try.prog 68 #[.pointer (some ⟨b, 0, none⟩), .int .u64 y, .bool ok] w1 fun e w' => e = .returned (.tuple #[]) ∧ Only [b] w1 w' ∧ Blk w' b 86 #[c0, c1, c2, c3, c4, c5, c6, c7, .bool dd, c9]) :
    Calls Try.prog 43 #[.pointer (some ⟨b, 0, none⟩), .pointer (some ⟨rb, 0, none⟩)] w fun e w' => e = .returned (.bool dd) ∧ Only [b, rb, rs] w w' ∧ Blk w' b 86 #[c0, c1, c2, c3, c4, c5, c6, c7, .bool dd, c9] ∧ IsRef w' rb rs m' := by
  have c8 := hb.at 8 (v := .bool false) rfl
  have HB := Lib.hid hb
  have HM := Lib.hid hm
  have HA := Lib.hid hact
  have HD := Lib.hid hd
  have HN := Lib.hid hn
  have HT := Lib.hid ht
  clear hb hm hact hd hn ht
  go_enter Try.func43, Try.ntmps43
  go_wp2_with fail
  refine HN.out.mono ?_
  rintro e w1 ⟨rfl, ho⟩
  have HM1 := Lib.hid (HM.out.only ho (by simp) (by simp))
  have HB1 := Lib.hid (Blk.only HB.out ho (by simp))
  have HO1 := Lib.hid ho
  clear ho c8
  go_wp2_with fail
  refine (rdo_act HM1.out HA.out).mono ?_
  rintro e w2 ⟨rfl, ho, hm'⟩
  have ho2 := ((HO1.out.sub (T := [b, rb, rs]) (List.nil_subset _)).then ho (by simp)).alloc (.cells #[.int .u64 y, .bool ok, .int .i64 0] 137)
  have hb2 := Blk.alloc (Blk.only HB1.out ho (by have := HD.out; simp; omega)) (.cells #[.int .u64 y, .bool ok, .int .i64 0] 137)
  have hm2 := hm'.only ((Only.refl [] w2).alloc (.cells #[.int .u64 y, .bool ok, .int .i64 0] 137)) (by simp) (by simp)
  have c2 := hb2.at 2 (v := .int .i64 1) rfl
  have HO3 := Lib.hid ho2
  have HB3 := Lib.hid hb2
  have HM3 := Lib.hid hm2
  clear ho hm' ho2 hb2 hm2
  go_wp2_with fail
  refine (HT.out _ HB3.out).mono ?_
  rintro e w3 ⟨rfl, ho, hb⟩
  have HO4 := Lib.hid (HO3.out.trans (ho.sub (T := [b, rb, rs]) (by simp)))
  have HM4 := Lib.hid (HM3.out.only ho (by simpa using HD.out.1.symm) (by simpa using HD.out.2.symm))
  have HB4 := Lib.hid hb
  have c8 := hb.at 8 (v := .bool dd) rfl
  clear ho hb c2
  go_wp2_with fail
  go_ret
  exact ⟨rfl, HO4.out, HB4.out, HM4.out⟩

set_option maxHeartbeats 1000000 in
set_option maxRecDepth 100000 in
theorem rtnext_steal (w : World) (b n : Nat) (at_ v turn top bot x0 x1 x2 x3 : Int) (got has : Bool) (hb' : Blk w b 86 (rtCells at_ n 2 v turn top bot got false has))
    (hN : ∀ w1, Blk w1 b 86 (rtCells at_ n 2 v turn top bot got false has) → Calls Try.prog 64 #[.pointer (some ⟨b, 0, none⟩)] w1 fun e w' => e = .returned (.agg #[.int .i64 x0, .int .i64 x1, .int .u64 x2, .int .u64 x3]) ∧ Only [] w1 w') :
    Calls Try.prog 42 #[.pointer (some ⟨b, 0, none⟩)] w fun e w' => e = .returned (.agg #[.int .i64 x0, .int .i64 x1, .int .u64 x2, .int .u64 x3]) ∧ Only [] w w' := by
  have HB := Lib.hid (hb'.alloc (.cells #[.int .i64 0, .int .i64 0, .int .u64 0, .int .u64 0] 74))
  have HZ := Lib.hid (Blk.new w 74 #[.int .i64 0, .int .i64 0, .int .u64 0, .int .u64 0])
  have HO := Lib.hid ((Only.refl [] w).alloc (.cells #[.int .i64 0, .int .i64 0, .int .u64 0, .int .u64 0] 74))
  have HN := Lib.hid hN
  have c2 := HB.out.at 2 (v := .int .i64 2) rfl
  have c8 := HB.out.at 8 (v := .bool false) rfl
  have hlt := hb'.lt
  clear hb' hN
  go_enter Try.func42, Try.ntmps42
  go_wp2_with fail
  refine (HN.out _ HB.out).mono ?_
  rintro e w1 ⟨rfl, ho⟩
  have HZ := Lib.hid (HZ.out.only ho (by simp))
  have HO := Lib.hid (HO.out.trans ho)
  have f0 := HZ.out.frozen 0
  have f1 := HZ.out.frozen 1
  have f2 := HZ.out.frozen 2
  have f3 := HZ.out.frozen 3
  have z0 := HZ.out.at 0 (v := .int .i64 0) rfl
  have z1 := HZ.out.at 1 (v := .int .i64 0) rfl
  have z2 := HZ.out.at 2 (v := .int .u64 0) rfl
  have z3 := HZ.out.at 3 (v := .int .u64 0) rfl
  clear ho c2 c8
  go_wp2_with fail
  refine bodyPost_ret (v := .agg #[.int .i64 x0, .int .i64 x1, .int .u64 x2, .int .u64 x3]) (by simp [results, Try.results42, go_sem, *]) rfl ⟨rfl, ?_⟩
  repeat (first | exact HO.out | refine Only.setCell ?_ (.inr (Nat.le_refl _)) _)

set_option maxHeartbeats 2000000 in
set_option maxRecDepth 100000 in
theorem rtstep_steal (w : World) (b rb rs n : Nat) (at_ v turn top bot y : Int) (got has ok dd : Bool) (x : Act') (m m' : MS) (c0 c1 c2 c3 c4 c5 c6 c7 c9 : Value) (hd : b ≠ rb ∧ b ≠ rs) (hb : Blk w b 86 (rtCells at_ n 2 v turn top bot got false has)) (hm : IsRef w rb rs m)
    (hn : Calls Try.prog 42 #[.pointer (some ⟨b, 0, none⟩)] w fun e w' => e = .returned x.val ∧ Only [] w w') (hact : m.act x = (m', ⟨y, ok, 0⟩))
    (ht : ∀ w1, Blk w1 b 86 (rtCells at_ n 2 v turn top bot got false has) → Calls Try.prog 69 #[.pointer (some ⟨b, 0, none⟩), .int .u64 y, .bool ok] w1 fun e w' => e = .returned (.tuple #[]) ∧ Only [b] w1 w' ∧ Blk w' b 86 #[c0, c1, c2, c3, c4, c5, c6, c7, .bool dd, c9]) :
    Calls Try.prog 43 #[.pointer (some ⟨b, 0, none⟩), .pointer (some ⟨rb, 0, none⟩)] w fun e w' => e = .returned (.bool dd) ∧ Only [b, rb, rs] w w' ∧ Blk w' b 86 #[c0, c1, c2, c3, c4, c5, c6, c7, .bool dd, c9] ∧ IsRef w' rb rs m' := by
  have c8 := hb.at 8 (v := .bool false) rfl
  have HB := Lib.hid hb
  have HM := Lib.hid hm
  have HA := Lib.hid hact
  have HD := Lib.hid hd
  have HN := Lib.hid hn
  have HT := Lib.hid ht
  clear hb hm hact hd hn ht
  go_enter Try.func43, Try.ntmps43
  go_wp2_with fail
  refine HN.out.mono ?_
  rintro e w1 ⟨rfl, ho⟩
  have HM1 := Lib.hid (HM.out.only ho (by simp) (by simp))
  have HB1 := Lib.hid (Blk.only HB.out ho (by simp))
  have HO1 := Lib.hid ho
  clear ho c8
  go_wp2_with fail
  refine (rdo_act HM1.out HA.out).mono ?_
  rintro e w2 ⟨rfl, ho, hm'⟩
  have ho2 := ((HO1.out.sub (T := [b, rb, rs]) (List.nil_subset _)).then ho (by simp)).alloc (.cells #[.int .u64 y, .bool ok, .int .i64 0] 137)
  have hb2 := Blk.alloc (Blk.only HB1.out ho (by have := HD.out; simp; omega)) (.cells #[.int .u64 y, .bool ok, .int .i64 0] 137)
  have hm2 := hm'.only ((Only.refl [] w2).alloc (.cells #[.int .u64 y, .bool ok, .int .i64 0] 137)) (by simp) (by simp)
  have c2 := hb2.at 2 (v := .int .i64 2) rfl
  have HO3 := Lib.hid ho2
  have HB3 := Lib.hid hb2
  have HM3 := Lib.hid hm2
  clear ho hm' ho2 hb2 hm2
  go_wp2_with fail
  refine (HT.out _ HB3.out).mono ?_
  rintro e w3 ⟨rfl, ho, hb⟩
  have HO4 := Lib.hid (HO3.out.trans (ho.sub (T := [b, rb, rs]) (by simp)))
  have HM4 := Lib.hid (HM3.out.only ho (by simpa using HD.out.1.symm) (by simpa using HD.out.2.symm))
  have HB4 := Lib.hid hb
  have c8 := hb.at 8 (v := .bool dd) rfl
  clear ho hb c2
  go_wp2_with fail
  go_ret
  exact ⟨rfl, HO4.out, HB4.out, HM4.out⟩

set_option maxHeartbeats 2000000 in
set_option maxRecDepth 100000 in
theorem rtstep_err (w : World) (b rb rs n : Nat) (at_ k v turn top bot y er : Int) (got has ok : Bool) (x : Act') (m m' : MS) (_he : (er != 0) = true) (hd : b ≠ rb ∧ b ≠ rs) (hb : Blk w b 86 (rtCells at_ n k v turn top bot got false has)) (hm : IsRef w rb rs m)
    (hn : Calls Try.prog 42 #[.pointer (some ⟨b, 0, none⟩)] w fun e w' => e = .returned x.val ∧ Only [] w w') (hact : m.act x = (m', ⟨y, ok, er⟩)) :
    Calls Try.prog 43 #[.pointer (some ⟨b, 0, none⟩), .pointer (some ⟨rb, 0, none⟩)] w fun e w' => e = .returned (.bool true) ∧ Only [b, rb, rs] w w' ∧ Blk w' b 86 (rtCells at_ n k v turn top bot got true false) ∧ IsRef w' rb rs m' := by
  have c8 := hb.at 8 (v := .bool false) rfl
  have HB := Lib.hid hb
  have HM := Lib.hid hm
  have HA := Lib.hid hact
  have HD := Lib.hid hd
  have HN := Lib.hid hn
  clear hb hm hact hd hn
  go_enter Try.func43, Try.ntmps43
  go_wp2_with fail
  refine HN.out.mono ?_
  rintro e w1 ⟨rfl, ho⟩
  have HM1 := Lib.hid (HM.out.only ho (by simp) (by simp))
  have HB1 := Lib.hid (Blk.only HB.out ho (by simp))
  have HO1 := Lib.hid ho
  clear ho c8
  go_wp2_with fail
  refine (rdo_act HM1.out HA.out).mono ?_
  rintro e w2 ⟨rfl, ho, hm'⟩
  have ho2 := ((HO1.out.sub (T := [b, rb, rs]) (List.nil_subset _)).then ho (by simp)).alloc (.cells #[.int .u64 y, .bool ok, .int .i64 er] 137)
  have hb2 := Blk.alloc (Blk.only HB1.out ho (by have := HD.out; simp; omega)) (.cells #[.int .u64 y, .bool ok, .int .i64 er] 137)
  have hm2 := hm'.only ((Only.refl [] w2).alloc (.cells #[.int .u64 y, .bool ok, .int .i64 er] 137)) (by simp) (by simp)
  have HO3 := Lib.hid ho2
  have HB3 := Lib.hid hb2
  have HM3 := Lib.hid hm2
  clear ho hm' ho2 hb2 hm2
  go_wp2_with fail
  refine (rtend_at _ b false (.bool false) (.bool has) (HB3.out.at 8 rfl) (HB3.out.at 9 rfl) (HB3.out.frozen 8) (HB3.out.frozen 9)).mono ?_
  rintro e w3 ⟨rfl, rfl⟩
  go_wp2_with fail
  go_ret
  exact ⟨rfl, Only.setCell (Only.setCell HO3.out (p := ⟨b, 8, none⟩) (by simp) _) (p := ⟨b, 9, none⟩) (by simp) _, Blk.set (Blk.set HB3.out 8 (.bool true)) 9 (.bool false), HM3.out.only (Only.setCell (Only.setCell (Only.refl [b] _) (p := ⟨b, 8, none⟩) (by simp) _) (p := ⟨b, 9, none⟩) (by simp) _) (by simpa using HD.out.1.symm) (by simpa using HD.out.2.symm)⟩

theorem rtstep_done (w : World) (b : Nat) (c0 c1 c2 c3 c4 c5 c6 c7 c9 mv : Value) (hb : Blk w b 86 #[c0, c1, c2, c3, c4, c5, c6, c7, .bool true, c9]) :
    Calls Try.prog 43 #[.pointer (some ⟨b, 0, none⟩), mv] w fun e w' => e = .returned (.bool true) ∧ w = w' := by
  have c8 := hb.at 8 (v := .bool true) rfl
  clear hb
  go_enter Try.func43, Try.ntmps43
  go_wp2_with fail
  go_ret
  exact ⟨rfl, rfl⟩

theorem rtnext_any (w : World) (b : Nat) (s : DQ) (h : IsRT w b s) : Calls Try.prog 42 #[.pointer (some ⟨b, 0, none⟩)] w fun e w' => e = .returned s.next.val ∧ Only [] w w' := by
  obtain ⟨at_, n, k, turn, has, done, v, top, bot, got⟩ := s
  obtain ⟨t', hb, hok, ht⟩ := h
  cases done
  · have ht' := ht rfl
    dsimp only at ht' hb
    rw [ht'] at hb
    have hT := DQ.turns hok rfl
    dsimp only at hT
    clear ht ht'
    rcases hT with ⟨rfl, rfl | rfl | rfl | rfl⟩ | ⟨rfl, rfl | rfl | rfl | rfl | rfl | rfl⟩ | ⟨rfl, rfl | rfl | rfl | rfl⟩
    · exact rtnext_push w b n at_ v 0 top bot _ _ _ _ got has hb fun w1 hb1 => rtact_push0 w1 b n at_ v top bot got has hok hb1
    · exact rtnext_push w b n at_ v 1 top bot _ _ _ _ got has hb fun w1 hb1 => rtact_push1 w1 b n at_ v top bot got has hok hb1
    · exact rtnext_push w b n at_ v 2 top bot _ _ _ _ got has hb fun w1 hb1 => rtact_push2 w1 b n at_ v top bot got has hok hb1
    · exact rtnext_push w b n at_ v 3 top bot _ _ _ _ got has hb fun w1 hb1 => rtact_push3 w1 b n at_ v top bot got has hok hb1
    · exact rtnext_pop w b n at_ v 0 top bot _ _ _ _ got has hb fun w1 hb1 => rtact_pop0 w1 b n at_ v top bot got has hok hb1
    · exact rtnext_pop w b n at_ v 1 top bot _ _ _ _ got has hb fun w1 hb1 => rtact_pop1 w1 b n at_ v top bot got has hok hb1
    · exact rtnext_pop w b n at_ v 2 top bot _ _ _ _ got has hb fun w1 hb1 => rtact_pop2 w1 b n at_ v top bot got has hok hb1
    · exact rtnext_pop w b n at_ v 3 top bot _ _ _ _ got has hb fun w1 hb1 => rtact_pop3 w1 b n at_ v top bot got has hok hb1
    · exact rtnext_pop w b n at_ v 4 top bot _ _ _ _ got has hb fun w1 hb1 => rtact_pop4 w1 b n at_ v top bot got has hok hb1
    · exact rtnext_pop w b n at_ v 5 top bot _ _ _ _ got has hb fun w1 hb1 => rtact_pop5 w1 b n at_ v top bot got has hok hb1
    · exact rtnext_steal w b n at_ v 0 top bot _ _ _ _ got has hb fun w1 hb1 => rtact_steal0 w1 b n at_ v top bot got has hok hb1
    · exact rtnext_steal w b n at_ v 1 top bot _ _ _ _ got has hb fun w1 hb1 => rtact_steal1 w1 b n at_ v top bot got has hok hb1
    · exact rtnext_steal w b n at_ v 2 top bot _ _ _ _ got has hb fun w1 hb1 => rtact_steal2 w1 b n at_ v top bot got has hok hb1
    · exact rtnext_steal w b n at_ v 3 top bot _ _ _ _ got has hb fun w1 hb1 => rtact_steal3 w1 b n at_ v top bot got has hok hb1
  · exact rtnext_done w b _ _ _ _ _ _ _ _ _ hb

theorem rtstep_any {w : World} {b rb rs : Nat} {s : DQ} {m : MS} (h : IsRT w b s) (hm : IsRef w rb rs m) (hr : m.drng) (hgo : (s.go m).1.ok) (hd : b ≠ rb ∧ b ≠ rs) :
    Calls Try.prog 43 #[.pointer (some ⟨b, 0, none⟩), .pointer (some ⟨rb, 0, none⟩)] w fun e w' => e = .returned (.bool (s.go m).1.done) ∧ Only [b, rb, rs] w w' ∧ IsRT w' b (s.go m).1 ∧ IsRef w' rb rs (s.go m).2 := by
  have hn := rtnext_any w b s h
  have hok : s.ok := by obtain ⟨_, _, k, _⟩ := h; exact k
  obtain ⟨_, r0, r1⟩ := dgo_rng s m hok hr
  obtain ⟨at_, n, k, turn, has, done, v, top, bot, got⟩ := s
  have h' := h
  obtain ⟨t', hb, _, ht⟩ := h
  unfold DQ.go at hgo ⊢
  cases done
  · have ht' := ht rfl
    dsimp only at ht' hb
    rw [ht'] at hb
    have hT := DQ.turns hok rfl
    dsimp only at hT hgo ⊢
    clear ht ht' h'
    rw [if_neg (by simp)] at hgo ⊢
    obtain ⟨m', y, ok, er, hact⟩ : ∃ m' y ok er, m.act (DQ.next ⟨at_, n, k, turn, has, false, v, top, bot, got⟩) = (m', ⟨y, ok, er⟩) := ⟨_, _, _, _, rfl⟩
    rw [hact] at hgo r0 r1 ⊢
    dsimp only at hgo r0 r1 ⊢
    by_cases he : er = 0
    · subst he
      rw [if_neg (by simp)] at hgo ⊢
      rcases hT with ⟨rfl, rfl | rfl | rfl | rfl⟩ | ⟨rfl, rfl | rfl | rfl | rfl | rfl | rfl⟩ | ⟨rfl, rfl | rfl | rfl | rfl⟩
      · have ha : DQ.took ⟨at_, n, 0, 0, has, false, v, top, bot, got⟩ y ok = ⟨at_, n, 0, 1, has, false, v, top, y, got⟩ := by simp [DQ.took]
        rw [ha] at hgo ⊢
        refine (rtstep_push w b rb rs n at_ v 0 top bot y got has ok _ _ m m' _ _ _ _ _ _ _ _ _ hd hb hm hn hact fun w1 hb1 => rttook_push0 w1 b n at_ v top bot y got has r0 r1 hok hb1).mono ?_
        rintro e w' ⟨rfl, o, hb', hm'⟩
        exact ⟨rfl, o, ⟨_, hb', hgo, by simp⟩, hm'⟩
      · by_cases hc : (n : Int) ≤ dif bot y
        · have ha : DQ.took ⟨at_, n, 0, 1, has, false, v, top, bot, got⟩ y ok = ⟨at_, n, 0, 2, false, true, v, top, bot, got⟩ := by simp [DQ.took, hc]
          rw [ha] at hgo ⊢
          refine (rtstep_push w b rb rs n at_ v 1 top bot y got has ok _ _ m m' _ _ _ _ _ _ _ _ _ hd hb hm hn hact fun w1 hb1 => rttook_push1y w1 b n at_ v top bot y got has r0 r1 hc hok hb1).mono ?_
          rintro e w' ⟨rfl, o, hb', hm'⟩
          exact ⟨rfl, o, ⟨_, hb', hgo, by simp⟩, hm'⟩
        · have ha : DQ.took ⟨at_, n, 0, 1, has, false, v, top, bot, got⟩ y ok = ⟨at_, n, 0, 2, has, false, v, top, bot, got⟩ := by simp [DQ.took, hc]
          rw [ha] at hgo ⊢
          refine (rtstep_push w b rb rs n at_ v 1 top bot y got has ok _ _ m m' _ _ _ _ _ _ _ _ _ hd hb hm hn hact fun w1 hb1 => rttook_push1n w1 b n at_ v top bot y got has r0 r1 hc hok hb1).mono ?_
          rintro e w' ⟨rfl, o, hb', hm'⟩
          exact ⟨rfl, o, ⟨_, hb', hgo, by simp⟩, hm'⟩
      · have ha : DQ.took ⟨at_, n, 0, 2, has, false, v, top, bot, got⟩ y ok = ⟨at_, n, 0, 3, has, false, v, top, bot, got⟩ := by simp [DQ.took]
        rw [ha] at hgo ⊢
        refine (rtstep_push w b rb rs n at_ v 2 top bot y got has ok _ _ m m' _ _ _ _ _ _ _ _ _ hd hb hm hn hact fun w1 hb1 => rttook_push2 w1 b n at_ v top bot y got has r0 r1 hok hb1).mono ?_
        rintro e w' ⟨rfl, o, hb', hm'⟩
        exact ⟨rfl, o, ⟨_, hb', hgo, by simp⟩, hm'⟩
      · have ha : DQ.took ⟨at_, n, 0, 3, has, false, v, top, bot, got⟩ y ok = ⟨at_, n, 0, 4, true, true, v, top, bot, got⟩ := by simp [DQ.took]
        rw [ha] at hgo ⊢
        refine (rtstep_push w b rb rs n at_ v 3 top bot y got has ok _ _ m m' _ _ _ _ _ _ _ _ _ hd hb hm hn hact fun w1 hb1 => rttook_push3 w1 b n at_ v top bot y got has r0 r1 hok hb1).mono ?_
        rintro e w' ⟨rfl, o, hb', hm'⟩
        exact ⟨rfl, o, ⟨_, hb', hgo, by simp⟩, hm'⟩
      · have ha : DQ.took ⟨at_, n, 1, 0, has, false, v, top, bot, got⟩ y ok = ⟨at_, n, 1, 1, has, false, v, top, (IntKind.u64.wrap (y - 1)), got⟩ := by simp [DQ.took]
        rw [ha] at hgo ⊢
        refine (rtstep_pop w b rb rs n at_ v 0 top bot y got has ok _ _ m m' _ _ _ _ _ _ _ _ _ hd hb hm hn hact fun w1 hb1 => rttook_pop0 w1 b n at_ v top bot y got has ok r0 r1 hok hb1).mono ?_
        rintro e w' ⟨rfl, o, hb', hm'⟩
        exact ⟨rfl, o, ⟨_, hb', hgo, by simp⟩, hm'⟩
      · have ha : DQ.took ⟨at_, n, 1, 1, has, false, v, top, bot, got⟩ y ok = ⟨at_, n, 1, 2, has, false, v, top, bot, got⟩ := by simp [DQ.took]
        rw [ha] at hgo ⊢
        refine (rtstep_pop w b rb rs n at_ v 1 top bot y got has ok _ _ m m' _ _ _ _ _ _ _ _ _ hd hb hm hn hact fun w1 hb1 => rttook_pop1 w1 b n at_ v top bot y got has ok r0 r1 hok hb1).mono ?_
        rintro e w' ⟨rfl, o, hb', hm'⟩
        exact ⟨rfl, o, ⟨_, hb', hgo, by simp⟩, hm'⟩
      · by_cases hc : 0 < dif y bot
        · have ha : DQ.took ⟨at_, n, 1, 2, has, false, v, top, bot, got⟩ y ok = ⟨at_, n, 1, 5, has, false, v, y, bot, got⟩ := by simp [DQ.took, hc]
          rw [ha] at hgo ⊢
          refine (rtstep_pop w b rb rs n at_ v 2 top bot y got has ok _ _ m m' _ _ _ _ _ _ _ _ _ hd hb hm hn hact fun w1 hb1 => rttook_pop2y w1 b n at_ v top bot y got has ok r0 r1 hc hok hb1).mono ?_
          rintro e w' ⟨rfl, o, hb', hm'⟩
          exact ⟨rfl, o, ⟨_, hb', hgo, by simp⟩, hm'⟩
        · have ha : DQ.took ⟨at_, n, 1, 2, has, false, v, top, bot, got⟩ y ok = ⟨at_, n, 1, 3, has, false, v, y, bot, got⟩ := by simp [DQ.took, hc]
          rw [ha] at hgo ⊢
          refine (rtstep_pop w b rb rs n at_ v 2 top bot y got has ok _ _ m m' _ _ _ _ _ _ _ _ _ hd hb hm hn hact fun w1 hb1 => rttook_pop2n w1 b n at_ v top bot y got has ok r0 r1 hc hok hb1).mono ?_
          rintro e w' ⟨rfl, o, hb', hm'⟩
          exact ⟨rfl, o, ⟨_, hb', hgo, by simp⟩, hm'⟩
      · by_cases hc : dif top bot < 0
        · have ha : DQ.took ⟨at_, n, 1, 3, has, false, v, top, bot, got⟩ y ok = ⟨at_, n, 1, 4, true, true, y, top, bot, got⟩ := by simp [DQ.took, hc]
          rw [ha] at hgo ⊢
          refine (rtstep_pop w b rb rs n at_ v 3 top bot y got has ok _ _ m m' _ _ _ _ _ _ _ _ _ hd hb hm hn hact fun w1 hb1 => rttook_pop3y w1 b n at_ v top bot y got has ok r0 r1 hc hok hb1).mono ?_
          rintro e w' ⟨rfl, o, hb', hm'⟩
          exact ⟨rfl, o, ⟨_, hb', hgo, by simp⟩, hm'⟩
        · have ha : DQ.took ⟨at_, n, 1, 3, has, false, v, top, bot, got⟩ y ok = ⟨at_, n, 1, 4, has, false, y, top, bot, got⟩ := by simp [DQ.took, hc]
          rw [ha] at hgo ⊢
          refine (rtstep_pop w b rb rs n at_ v 3 top bot y got has ok _ _ m m' _ _ _ _ _ _ _ _ _ hd hb hm hn hact fun w1 hb1 => rttook_pop3n w1 b n at_ v top bot y got has ok r0 r1 hc hok hb1).mono ?_
          rintro e w' ⟨rfl, o, hb', hm'⟩
          exact ⟨rfl, o, ⟨_, hb', hgo, by simp⟩, hm'⟩
      · have ha : DQ.took ⟨at_, n, 1, 4, has, false, v, top, bot, got⟩ y ok = ⟨at_, n, 1, 5, has, false, v, top, bot, ok⟩ := by simp [DQ.took]
        rw [ha] at hgo ⊢
        refine (rtstep_pop w b rb rs n at_ v 4 top bot y got has ok _ _ m m' _ _ _ _ _ _ _ _ _ hd hb hm hn hact fun w1 hb1 => rttook_pop4 w1 b n at_ v top bot y got has ok r0 r1 hok hb1).mono ?_
        rintro e w' ⟨rfl, o, hb', hm'⟩
        exact ⟨rfl, o, ⟨_, hb', hgo, by simp⟩, hm'⟩
      · have ha : DQ.took ⟨at_, n, 1, 5, has, false, v, top, bot, got⟩ y ok = ⟨at_, n, 1, 6, got, true, v, top, bot, got⟩ := by simp [DQ.took]
        rw [ha] at hgo ⊢
        refine (rtstep_pop w b rb rs n at_ v 5 top bot y got has ok _ _ m m' _ _ _ _ _ _ _ _ _ hd hb hm hn hact fun w1 hb1 => rttook_pop5 w1 b n at_ v top bot y got has ok r0 r1 hok hb1).mono ?_
        rintro e w' ⟨rfl, o, hb', hm'⟩
        exact ⟨rfl, o, ⟨_, hb', hgo, by simp⟩, hm'⟩
      · have ha : DQ.took ⟨at_, n, 2, 0, has, false, v, top, bot, got⟩ y ok = ⟨at_, n, 2, 1, has, false, v, y, bot, got⟩ := by simp [DQ.took]
        rw [ha] at hgo ⊢
        refine (rtstep_steal w b rb rs n at_ v 0 top bot y got has ok _ _ m m' _ _ _ _ _ _ _ _ _ hd hb hm hn hact fun w1 hb1 => rttook_steal0 w1 b n at_ v top bot y got has ok r0 r1 hok hb1).mono ?_
        rintro e w' ⟨rfl, o, hb', hm'⟩
        exact ⟨rfl, o, ⟨_, hb', hgo, by simp⟩, hm'⟩
      · by_cases hc : 0 ≤ dif top y
        · have ha : DQ.took ⟨at_, n, 2, 1, has, false, v, top, bot, got⟩ y ok = ⟨at_, n, 2, 2, false, true, v, top, bot, got⟩ := by simp [DQ.took, hc]
          rw [ha] at hgo ⊢
          refine (rtstep_steal w b rb rs n at_ v 1 top bot y got has ok _ _ m m' _ _ _ _ _ _ _ _ _ hd hb hm hn hact fun w1 hb1 => rttook_steal1y w1 b n at_ v top bot y got has ok r0 r1 hc hok hb1).mono ?_
          rintro e w' ⟨rfl, o, hb', hm'⟩
          exact ⟨rfl, o, ⟨_, hb', hgo, by simp⟩, hm'⟩
        · have ha : DQ.took ⟨at_, n, 2, 1, has, false, v, top, bot, got⟩ y ok = ⟨at_, n, 2, 2, has, false, v, top, bot, got⟩ := by simp [DQ.took, hc]
          rw [ha] at hgo ⊢
          refine (rtstep_steal w b rb rs n at_ v 1 top bot y got has ok _ _ m m' _ _ _ _ _ _ _ _ _ hd hb hm hn hact fun w1 hb1 => rttook_steal1n w1 b n at_ v top bot y got has ok r0 r1 hc hok hb1).mono ?_
          rintro e w' ⟨rfl, o, hb', hm'⟩
          exact ⟨rfl, o, ⟨_, hb', hgo, by simp⟩, hm'⟩
      · have ha : DQ.took ⟨at_, n, 2, 2, has, false, v, top, bot, got⟩ y ok = ⟨at_, n, 2, 3, has, false, y, top, bot, got⟩ := by simp [DQ.took]
        rw [ha] at hgo ⊢
        refine (rtstep_steal w b rb rs n at_ v 2 top bot y got has ok _ _ m m' _ _ _ _ _ _ _ _ _ hd hb hm hn hact fun w1 hb1 => rttook_steal2 w1 b n at_ v top bot y got has ok r0 r1 hok hb1).mono ?_
        rintro e w' ⟨rfl, o, hb', hm'⟩
        exact ⟨rfl, o, ⟨_, hb', hgo, by simp⟩, hm'⟩
      · have ha : DQ.took ⟨at_, n, 2, 3, has, false, v, top, bot, got⟩ y ok = ⟨at_, n, 2, 4, ok, true, v, top, bot, got⟩ := by simp [DQ.took]
        rw [ha] at hgo ⊢
        refine (rtstep_steal w b rb rs n at_ v 3 top bot y got has ok _ _ m m' _ _ _ _ _ _ _ _ _ hd hb hm hn hact fun w1 hb1 => rttook_steal3 w1 b n at_ v top bot y got has ok r0 r1 hok hb1).mono ?_
        rintro e w' ⟨rfl, o, hb', hm'⟩
        exact ⟨rfl, o, ⟨_, hb', hgo, by simp⟩, hm'⟩
    · rw [if_pos he] at hgo ⊢
      refine (rtstep_err w b rb rs n at_ k v turn top bot y er got has ok _ m m' (by simpa using he) hd hb hm hn hact).mono ?_
      rintro e w' ⟨rfl, o, hb', hm'⟩
      exact ⟨rfl, o, ⟨_, hb', hgo, by simp⟩, hm'⟩
  · dsimp only at hb ⊢
    rw [if_pos rfl]
    refine (rtstep_done w b _ _ _ _ _ _ _ _ _ _ hb).mono ?_
    rintro e w' ⟨rfl, rfl⟩
    exact ⟨rfl, Only.refl _ _, h', hm⟩

end Go.Proofs.Ytoecoijmkjhkgaa
