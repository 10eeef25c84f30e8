/- The document's one who pushes or pops on a ring: Step. Written by rus3gen.py. -/
import Derived.Test.YtoecoijmkjhkgaaRUs2
import Derived.Test.YtoecoijmkjhkgaaRing7
namespace Go.Proofs.Ytoecoijmkjhkgaa
open Go.RowKit

theorem rdo_act {w : World} {b s : Nat} {m m' : MS} {x : Act'} {v er : Int} {ok : Bool} (hm : IsRef w b s m) (h : m.act x = (m', ⟨v, ok, er⟩)) :
    Calls Try.prog 65 #[.pointer (some ⟨b, 0, none⟩), x.val] w fun e w' => e = .returned (.agg #[.int .u64 v, .bool ok, .int .i64 er]) ∧ Only [b, s] w w' ∧ IsRef w' b s m' := by
  have := rdo_any w b s m x hm
  rw [h] at this
  exact this

set_option maxHeartbeats 2000000 in
set_option maxRecDepth 100000 in
theorem ustep_f0 (w : World) (b rb rs n : Nat) (at_ pos v y : Int) (ok : Bool) (x : Act') (m m' : MS) (hd : b ≠ rb ∧ b ≠ rs) (hb : Blk w b 98 (uCells at_ n false v pos 0 false false)) (hm : IsRef w rb rs m)
    (hn : Calls Try.prog 48 #[.pointer (some ⟨b, 0, none⟩)] w fun e w' => e = .returned x.val ∧ Only [] w w') (hact : m.act x = (m', ⟨y, ok, 0⟩)) :
    Calls Try.prog 49 #[.pointer (some ⟨b, 0, none⟩), .pointer (some ⟨rb, 0, none⟩)] w fun e w' => e = .returned (.bool false) ∧ Only [b, rb, rs] w w' ∧ Blk w' b 98 #[.int .i64 at_, .int .i64 n, .bool false, .int .u64 v, .int .u64 y, .int .i64 1, .bool false, .bool false] ∧ IsRef w' rb rs m' := by
  have c6 := hb.at 6 (v := .bool false) rfl
  have HB := Lib.hid hb
  have HM := Lib.hid hm
  have HA := Lib.hid hact
  have HD := Lib.hid hd
  have HN := Lib.hid hn
  clear hb hm hact hd hn
  go_enter Try.func49, Try.ntmps49
  go_wp2_with fail
  refine HN.out.mono ?_
  rintro e w1 ⟨rfl, ho⟩
  have HM1 := Lib.hid (HM.out.only ho (by simp) (by simp))
  have HB1 := Lib.hid (Blk.only HB.out ho (by simp))
  have HO1 := Lib.hid ho
  clear ho c6
  go_wp2_with fail
  refine (rdo_act HM1.out HA.out).mono ?_
  rintro e w2 ⟨rfl, ho, hm'⟩
  have ho2 := ((HO1.out.sub (T := [b, rb, rs]) (List.nil_subset _)).then ho (by simp)).alloc (.cells #[.int .u64 y, .bool ok, .int .i64 0] 137)
  have hb2 := Blk.alloc (Blk.only HB1.out ho (by have := HD.out; simp; omega)) (.cells #[.int .u64 y, .bool ok, .int .i64 0] 137)
  have hm2 := hm'.only ((Only.refl [] w2).alloc (.cells #[.int .u64 y, .bool ok, .int .i64 0] 137)) (by simp) (by simp)
  have c2 := hb2.at 2 (v := .bool false) rfl
  have c4 := hb2.at 4 (v := .int .u64 pos) rfl
  have c5 := hb2.at 5 (v := .int .i64 0) rfl
  have c6 := hb2.at 6 (v := .bool false) rfl
  have f3 := hb2.frozen 3
  have f4 := hb2.frozen 4
  have f5 := hb2.frozen 5
  have f6 := hb2.frozen 6
  have f7 := hb2.frozen 7
  have c3 := hb2.at 3 (v := .int .u64 v) rfl
  have c7 := hb2.at 7 (v := .bool false) rfl
  have HO3 := Lib.hid ho2
  have HB3 := Lib.hid hb2
  have HM3 := Lib.hid hm2
  clear ho hm' ho2 hb2 hm2
  go_wp2_with fail
  go_ret
  exact ⟨rfl, (Only.setCell (Only.setCell HO3.out (p := ⟨b, 4, none⟩) (by simp) (.int .u64 y)) (p := ⟨b, 5, none⟩) (by simp) (.int .i64 1)), (Blk.set (Blk.set HB3.out 4 (.int .u64 y)) 5 (.int .i64 1)), HM3.out.only (Only.setCell ((Only.setCell (Only.refl [b] _) (p := ⟨b, 4, none⟩) (by simp) (.int .u64 y))) (p := ⟨b, 5, none⟩) (by simp) (.int .i64 1)) (by simpa using HD.out.1.symm) (by simpa using HD.out.2.symm)⟩

set_option maxHeartbeats 2000000 in
set_option maxRecDepth 100000 in
theorem ustep_f1a (w : World) (b rb rs n : Nat) (at_ pos v y : Int) (ok : Bool) (x : Act') (m m' : MS) (_g : (wrap64 (IntKind.u64.wrap (y - pos)) == 0) = true) (hd : b ≠ rb ∧ b ≠ rs) (hb : Blk w b 98 (uCells at_ n false v pos 1 false false)) (hm : IsRef w rb rs m)
    (hn : Calls Try.prog 48 #[.pointer (some ⟨b, 0, none⟩)] w fun e w' => e = .returned x.val ∧ Only [] w w') (hact : m.act x = (m', ⟨y, ok, 0⟩)) :
    Calls Try.prog 49 #[.pointer (some ⟨b, 0, none⟩), .pointer (some ⟨rb, 0, none⟩)] w fun e w' => e = .returned (.bool false) ∧ Only [b, rb, rs] w w' ∧ Blk w' b 98 #[.int .i64 at_, .int .i64 n, .bool false, .int .u64 v, .int .u64 pos, .int .i64 2, .bool false, .bool false] ∧ IsRef w' rb rs m' := by
  have c6 := hb.at 6 (v := .bool false) rfl
  have HB := Lib.hid hb
  have HM := Lib.hid hm
  have HA := Lib.hid hact
  have HD := Lib.hid hd
  have HN := Lib.hid hn
  clear hb hm hact hd hn
  go_enter Try.func49, Try.ntmps49
  go_wp2_with fail
  refine HN.out.mono ?_
  rintro e w1 ⟨rfl, ho⟩
  have HM1 := Lib.hid (HM.out.only ho (by simp) (by simp))
  have HB1 := Lib.hid (Blk.only HB.out ho (by simp))
  have HO1 := Lib.hid ho
  clear ho c6
  go_wp2_with fail
  refine (rdo_act HM1.out HA.out).mono ?_
  rintro e w2 ⟨rfl, ho, hm'⟩
  have ho2 := ((HO1.out.sub (T := [b, rb, rs]) (List.nil_subset _)).then ho (by simp)).alloc (.cells #[.int .u64 y, .bool ok, .int .i64 0] 137)
  have hb2 := Blk.alloc (Blk.only HB1.out ho (by have := HD.out; simp; omega)) (.cells #[.int .u64 y, .bool ok, .int .i64 0] 137)
  have hm2 := hm'.only ((Only.refl [] w2).alloc (.cells #[.int .u64 y, .bool ok, .int .i64 0] 137)) (by simp) (by simp)
  have c2 := hb2.at 2 (v := .bool false) rfl
  have c4 := hb2.at 4 (v := .int .u64 pos) rfl
  have c5 := hb2.at 5 (v := .int .i64 1) rfl
  have c6 := hb2.at 6 (v := .bool false) rfl
  have f3 := hb2.frozen 3
  have f4 := hb2.frozen 4
  have f5 := hb2.frozen 5
  have f6 := hb2.frozen 6
  have f7 := hb2.frozen 7
  have c3 := hb2.at 3 (v := .int .u64 v) rfl
  have c7 := hb2.at 7 (v := .bool false) rfl
  have HO3 := Lib.hid ho2
  have HB3 := Lib.hid hb2
  have HM3 := Lib.hid hm2
  clear ho hm' ho2 hb2 hm2
  go_wp2_with fail
  go_ret
  exact ⟨rfl, (Only.setCell HO3.out (p := ⟨b, 5, none⟩) (by simp) (.int .i64 2)), (Blk.set HB3.out 5 (.int .i64 2)), HM3.out.only (Only.setCell (Only.refl [b] _) (p := ⟨b, 5, none⟩) (by simp) (.int .i64 2)) (by simpa using HD.out.1.symm) (by simpa using HD.out.2.symm)⟩

set_option maxHeartbeats 2000000 in
set_option maxRecDepth 100000 in
theorem ustep_f1b (w : World) (b rb rs n : Nat) (at_ pos v y : Int) (ok : Bool) (x : Act') (m m' : MS) (_g : (wrap64 (IntKind.u64.wrap (y - pos)) == 0) = false) (_g2 : wrap64 (IntKind.u64.wrap (y - pos)) < 0) (hd : b ≠ rb ∧ b ≠ rs) (hb : Blk w b 98 (uCells at_ n false v pos 1 false false)) (hm : IsRef w rb rs m)
    (hn : Calls Try.prog 48 #[.pointer (some ⟨b, 0, none⟩)] w fun e w' => e = .returned x.val ∧ Only [] w w') (hact : m.act x = (m', ⟨y, ok, 0⟩)) :
    Calls Try.prog 49 #[.pointer (some ⟨b, 0, none⟩), .pointer (some ⟨rb, 0, none⟩)] w fun e w' => e = .returned (.bool true) ∧ Only [b, rb, rs] w w' ∧ Blk w' b 98 #[.int .i64 at_, .int .i64 n, .bool false, .int .u64 v, .int .u64 pos, .int .i64 1, .bool true, .bool false] ∧ IsRef w' rb rs m' := by
  have c6 := hb.at 6 (v := .bool false) rfl
  have HB := Lib.hid hb
  have HM := Lib.hid hm
  have HA := Lib.hid hact
  have HD := Lib.hid hd
  have HN := Lib.hid hn
  clear hb hm hact hd hn
  go_enter Try.func49, Try.ntmps49
  go_wp2_with fail
  refine HN.out.mono ?_
  rintro e w1 ⟨rfl, ho⟩
  have HM1 := Lib.hid (HM.out.only ho (by simp) (by simp))
  have HB1 := Lib.hid (Blk.only HB.out ho (by simp))
  have HO1 := Lib.hid ho
  clear ho c6
  go_wp2_with fail
  refine (rdo_act HM1.out HA.out).mono ?_
  rintro e w2 ⟨rfl, ho, hm'⟩
  have ho2 := ((HO1.out.sub (T := [b, rb, rs]) (List.nil_subset _)).then ho (by simp)).alloc (.cells #[.int .u64 y, .bool ok, .int .i64 0] 137)
  have hb2 := Blk.alloc (Blk.only HB1.out ho (by have := HD.out; simp; omega)) (.cells #[.int .u64 y, .bool ok, .int .i64 0] 137)
  have hm2 := hm'.only ((Only.refl [] w2).alloc (.cells #[.int .u64 y, .bool ok, .int .i64 0] 137)) (by simp) (by simp)
  have c2 := hb2.at 2 (v := .bool false) rfl
  have c4 := hb2.at 4 (v := .int .u64 pos) rfl
  have c5 := hb2.at 5 (v := .int .i64 1) rfl
  have c6 := hb2.at 6 (v := .bool false) rfl
  have f3 := hb2.frozen 3
  have f4 := hb2.frozen 4
  have f5 := hb2.frozen 5
  have f6 := hb2.frozen 6
  have f7 := hb2.frozen 7
  have c3 := hb2.at 3 (v := .int .u64 v) rfl
  have c7 := hb2.at 7 (v := .bool false) rfl
  have HO3 := Lib.hid ho2
  have HB3 := Lib.hid hb2
  have HM3 := Lib.hid hm2
  clear ho hm' ho2 hb2 hm2
  go_wp2_with fail
  go_ret
  exact ⟨rfl, (Only.setCell HO3.out (p := ⟨b, 6, none⟩) (by simp) (.bool true)), (Blk.set HB3.out 6 (.bool true)), HM3.out.only (Only.setCell (Only.refl [b] _) (p := ⟨b, 6, none⟩) (by simp) (.bool true)) (by simpa using HD.out.1.symm) (by simpa using HD.out.2.symm)⟩

set_option maxHeartbeats 2000000 in
set_option maxRecDepth 100000 in
theorem ustep_f1c (w : World) (b rb rs n : Nat) (at_ pos v y : Int) (ok : Bool) (x : Act') (m m' : MS) (_g : (wrap64 (IntKind.u64.wrap (y - pos)) == 0) = false) (_g2 : ¬ wrap64 (IntKind.u64.wrap (y - pos)) < 0) (hd : b ≠ rb ∧ b ≠ rs) (hb : Blk w b 98 (uCells at_ n false v pos 1 false false)) (hm : IsRef w rb rs m)
    (hn : Calls Try.prog 48 #[.pointer (some ⟨b, 0, none⟩)] w fun e w' => e = .returned x.val ∧ Only [] w w') (hact : m.act x = (m', ⟨y, ok, 0⟩)) :
    Calls Try.prog 49 #[.pointer (some ⟨b, 0, none⟩), .pointer (some ⟨rb, 0, none⟩)] w fun e w' => e = .returned (.bool false) ∧ Only [b, rb, rs] w w' ∧ Blk w' b 98 #[.int .i64 at_, .int .i64 n, .bool false, .int .u64 v, .int .u64 pos, .int .i64 0, .bool false, .bool false] ∧ IsRef w' rb rs m' := by
  have c6 := hb.at 6 (v := .bool false) rfl
  have HB := Lib.hid hb
  have HM := Lib.hid hm
  have HA := Lib.hid hact
  have HD := Lib.hid hd
  have HN := Lib.hid hn
  clear hb hm hact hd hn
  go_enter Try.func49, Try.ntmps49
  go_wp2_with fail
  refine HN.out.mono ?_
  rintro e w1 ⟨rfl, ho⟩
  have HM1 := Lib.hid (HM.out.only ho (by simp) (by simp))
  have HB1 := Lib.hid (Blk.only HB.out ho (by simp))
  have HO1 := Lib.hid ho
  clear ho c6
  go_wp2_with fail
  refine (rdo_act HM1.out HA.out).mono ?_
  rintro e w2 ⟨rfl, ho, hm'⟩
  have ho2 := ((HO1.out.sub (T := [b, rb, rs]) (List.nil_subset _)).then ho (by simp)).alloc (.cells #[.int .u64 y, .bool ok, .int .i64 0] 137)
  have hb2 := Blk.alloc (Blk.only HB1.out ho (by have := HD.out; simp; omega)) (.cells #[.int .u64 y, .bool ok, .int .i64 0] 137)
  have hm2 := hm'.only ((Only.refl [] w2).alloc (.cells #[.int .u64 y, .bool ok, .int .i64 0] 137)) (by simp) (by simp)
  have c2 := hb2.at 2 (v := .bool false) rfl
  have c4 := hb2.at 4 (v := .int .u64 pos) rfl
  have c5 := hb2.at 5 (v := .int .i64 1) rfl
  have c6 := hb2.at 6 (v := .bool false) rfl
  have f3 := hb2.frozen 3
  have f4 := hb2.frozen 4
  have f5 := hb2.frozen 5
  have f6 := hb2.frozen 6
  have f7 := hb2.frozen 7
  have c3 := hb2.at 3 (v := .int .u64 v) rfl
  have c7 := hb2.at 7 (v := .bool false) rfl
  have HO3 := Lib.hid ho2
  have HB3 := Lib.hid hb2
  have HM3 := Lib.hid hm2
  clear ho hm' ho2 hb2 hm2
  go_wp2_with fail
  go_ret
  exact ⟨rfl, (Only.setCell HO3.out (p := ⟨b, 5, none⟩) (by simp) (.int .i64 0)), (Blk.set HB3.out 5 (.int .i64 0)), HM3.out.only (Only.setCell (Only.refl [b] _) (p := ⟨b, 5, none⟩) (by simp) (.int .i64 0)) (by simpa using HD.out.1.symm) (by simpa using HD.out.2.symm)⟩

set_option maxHeartbeats 2000000 in
set_option maxRecDepth 100000 in
theorem ustep_f2n (w : World) (b rb rs n : Nat) (at_ pos v y : Int) (x : Act') (m m' : MS) (hd : b ≠ rb ∧ b ≠ rs) (hb : Blk w b 98 (uCells at_ n false v pos 2 false false)) (hm : IsRef w rb rs m)
    (hn : Calls Try.prog 48 #[.pointer (some ⟨b, 0, none⟩)] w fun e w' => e = .returned x.val ∧ Only [] w w') (hact : m.act x = (m', ⟨y, false, 0⟩)) :
    Calls Try.prog 49 #[.pointer (some ⟨b, 0, none⟩), .pointer (some ⟨rb, 0, none⟩)] w fun e w' => e = .returned (.bool false) ∧ Only [b, rb, rs] w w' ∧ Blk w' b 98 #[.int .i64 at_, .int .i64 n, .bool false, .int .u64 v, .int .u64 pos, .int .i64 0, .bool false, .bool false] ∧ IsRef w' rb rs m' := by
  have c6 := hb.at 6 (v := .bool false) rfl
  have HB := Lib.hid hb
  have HM := Lib.hid hm
  have HA := Lib.hid hact
  have HD := Lib.hid hd
  have HN := Lib.hid hn
  clear hb hm hact hd hn
  go_enter Try.func49, Try.ntmps49
  go_wp2_with fail
  refine HN.out.mono ?_
  rintro e w1 ⟨rfl, ho⟩
  have HM1 := Lib.hid (HM.out.only ho (by simp) (by simp))
  have HB1 := Lib.hid (Blk.only HB.out ho (by simp))
  have HO1 := Lib.hid ho
  clear ho c6
  go_wp2_with fail
  refine (rdo_act HM1.out HA.out).mono ?_
  rintro e w2 ⟨rfl, ho, hm'⟩
  have ho2 := ((HO1.out.sub (T := [b, rb, rs]) (List.nil_subset _)).then ho (by simp)).alloc (.cells #[.int .u64 y, .bool false, .int .i64 0] 137)
  have hb2 := Blk.alloc (Blk.only HB1.out ho (by have := HD.out; simp; omega)) (.cells #[.int .u64 y, .bool false, .int .i64 0] 137)
  have hm2 := hm'.only ((Only.refl [] w2).alloc (.cells #[.int .u64 y, .bool false, .int .i64 0] 137)) (by simp) (by simp)
  have c2 := hb2.at 2 (v := .bool false) rfl
  have c4 := hb2.at 4 (v := .int .u64 pos) rfl
  have c5 := hb2.at 5 (v := .int .i64 2) rfl
  have c6 := hb2.at 6 (v := .bool false) rfl
  have f3 := hb2.frozen 3
  have f4 := hb2.frozen 4
  have f5 := hb2.frozen 5
  have f6 := hb2.frozen 6
  have f7 := hb2.frozen 7
  have c3 := hb2.at 3 (v := .int .u64 v) rfl
  have c7 := hb2.at 7 (v := .bool false) rfl
  have HO3 := Lib.hid ho2
  have HB3 := Lib.hid hb2
  have HM3 := Lib.hid hm2
  clear ho hm' ho2 hb2 hm2
  go_wp2_with fail
  go_ret
  exact ⟨rfl, (Only.setCell HO3.out (p := ⟨b, 5, none⟩) (by simp) (.int .i64 0)), (Blk.set HB3.out 5 (.int .i64 0)), HM3.out.only (Only.setCell (Only.refl [b] _) (p := ⟨b, 5, none⟩) (by simp) (.int .i64 0)) (by simpa using HD.out.1.symm) (by simpa using HD.out.2.symm)⟩

set_option maxHeartbeats 2000000 in
set_option maxRecDepth 100000 in
theorem ustep_f2y (w : World) (b rb rs n : Nat) (at_ pos v y : Int) (x : Act') (m m' : MS) (hd : b ≠ rb ∧ b ≠ rs) (hb : Blk w b 98 (uCells at_ n false v pos 2 false false)) (hm : IsRef w rb rs m)
    (hn : Calls Try.prog 48 #[.pointer (some ⟨b, 0, none⟩)] w fun e w' => e = .returned x.val ∧ Only [] w w') (hact : m.act x = (m', ⟨y, true, 0⟩)) :
    Calls Try.prog 49 #[.pointer (some ⟨b, 0, none⟩), .pointer (some ⟨rb, 0, none⟩)] w fun e w' => e = .returned (.bool false) ∧ Only [b, rb, rs] w w' ∧ Blk w' b 98 #[.int .i64 at_, .int .i64 n, .bool false, .int .u64 v, .int .u64 pos, .int .i64 3, .bool false, .bool false] ∧ IsRef w' rb rs m' := by
  have c6 := hb.at 6 (v := .bool false) rfl
  have HB := Lib.hid hb
  have HM := Lib.hid hm
  have HA := Lib.hid hact
  have HD := Lib.hid hd
  have HN := Lib.hid hn
  clear hb hm hact hd hn
  go_enter Try.func49, Try.ntmps49
  go_wp2_with fail
  refine HN.out.mono ?_
  rintro e w1 ⟨rfl, ho⟩
  have HM1 := Lib.hid (HM.out.only ho (by simp) (by simp))
  have HB1 := Lib.hid (Blk.only HB.out ho (by simp))
  have HO1 := Lib.hid ho
  clear ho c6
  go_wp2_with fail
  refine (rdo_act HM1.out HA.out).mono ?_
  rintro e w2 ⟨rfl, ho, hm'⟩
  have ho2 := ((HO1.out.sub (T := [b, rb, rs]) (List.nil_subset _)).then ho (by simp)).alloc (.cells #[.int .u64 y, .bool true, .int .i64 0] 137)
  have hb2 := Blk.alloc (Blk.only HB1.out ho (by have := HD.out; simp; omega)) (.cells #[.int .u64 y, .bool true, .int .i64 0] 137)
  have hm2 := hm'.only ((Only.refl [] w2).alloc (.cells #[.int .u64 y, .bool true, .int .i64 0] 137)) (by simp) (by simp)
  have c2 := hb2.at 2 (v := .bool false) rfl
  have c4 := hb2.at 4 (v := .int .u64 pos) rfl
  have c5 := hb2.at 5 (v := .int .i64 2) rfl
  have c6 := hb2.at 6 (v := .bool false) rfl
  have f3 := hb2.frozen 3
  have f4 := hb2.frozen 4
  have f5 := hb2.frozen 5
  have f6 := hb2.frozen 6
  have f7 := hb2.frozen 7
  have c3 := hb2.at 3 (v := .int .u64 v) rfl
  have c7 := hb2.at 7 (v := .bool false) rfl
  have HO3 := Lib.hid ho2
  have HB3 := Lib.hid hb2
  have HM3 := Lib.hid hm2
  clear ho hm' ho2 hb2 hm2
  go_wp2_with fail
  go_ret
  exact ⟨rfl, (Only.setCell (Only.setCell HO3.out (p := ⟨b, 5, none⟩) (by simp) (.int .i64 0)) (p := ⟨b, 5, none⟩) (by simp) (.int .i64 3)), (Blk.set (Blk.set HB3.out 5 (.int .i64 0)) 5 (.int .i64 3)), HM3.out.only (Only.setCell ((Only.setCell (Only.refl [b] _) (p := ⟨b, 5, none⟩) (by simp) (.int .i64 0))) (p := ⟨b, 5, none⟩) (by simp) (.int .i64 3)) (by simpa using HD.out.1.symm) (by simpa using HD.out.2.symm)⟩

set_option maxHeartbeats 2000000 in
set_option maxRecDepth 100000 in
theorem ustep_f3 (w : World) (b rb rs n : Nat) (at_ pos v y : Int) (ok : Bool) (x : Act') (m m' : MS) (hd : b ≠ rb ∧ b ≠ rs) (hb : Blk w b 98 (uCells at_ n false v pos 3 false false)) (hm : IsRef w rb rs m)
    (hn : Calls Try.prog 48 #[.pointer (some ⟨b, 0, none⟩)] w fun e w' => e = .returned x.val ∧ Only [] w w') (hact : m.act x = (m', ⟨y, ok, 0⟩)) :
    Calls Try.prog 49 #[.pointer (some ⟨b, 0, none⟩), .pointer (some ⟨rb, 0, none⟩)] w fun e w' => e = .returned (.bool false) ∧ Only [b, rb, rs] w w' ∧ Blk w' b 98 #[.int .i64 at_, .int .i64 n, .bool false, .int .u64 v, .int .u64 pos, .int .i64 4, .bool false, .bool false] ∧ IsRef w' rb rs m' := by
  have c6 := hb.at 6 (v := .bool false) rfl
  have HB := Lib.hid hb
  have HM := Lib.hid hm
  have HA := Lib.hid hact
  have HD := Lib.hid hd
  have HN := Lib.hid hn
  clear hb hm hact hd hn
  go_enter Try.func49, Try.ntmps49
  go_wp2_with fail
  refine HN.out.mono ?_
  rintro e w1 ⟨rfl, ho⟩
  have HM1 := Lib.hid (HM.out.only ho (by simp) (by simp))
  have HB1 := Lib.hid (Blk.only HB.out ho (by simp))
  have HO1 := Lib.hid ho
  clear ho c6
  go_wp2_with fail
  refine (rdo_act HM1.out HA.out).mono ?_
  rintro e w2 ⟨rfl, ho, hm'⟩
  have ho2 := ((HO1.out.sub (T := [b, rb, rs]) (List.nil_subset _)).then ho (by simp)).alloc (.cells #[.int .u64 y, .bool ok, .int .i64 0] 137)
  have hb2 := Blk.alloc (Blk.only HB1.out ho (by have := HD.out; simp; omega)) (.cells #[.int .u64 y, .bool ok, .int .i64 0] 137)
  have hm2 := hm'.only ((Only.refl [] w2).alloc (.cells #[.int .u64 y, .bool ok, .int .i64 0] 137)) (by simp) (by simp)
  have c2 := hb2.at 2 (v := .bool false) rfl
  have c4 := hb2.at 4 (v := .int .u64 pos) rfl
  have c5 := hb2.at 5 (v := .int .i64 3) rfl
  have c6 := hb2.at 6 (v := .bool false) rfl
  have f3 := hb2.frozen 3
  have f4 := hb2.frozen 4
  have f5 := hb2.frozen 5
  have f6 := hb2.frozen 6
  have f7 := hb2.frozen 7
  have c3 := hb2.at 3 (v := .int .u64 v) rfl
  have c7 := hb2.at 7 (v := .bool false) rfl
  have HO3 := Lib.hid ho2
  have HB3 := Lib.hid hb2
  have HM3 := Lib.hid hm2
  clear ho hm' ho2 hb2 hm2
  go_wp2_with fail
  go_ret
  exact ⟨rfl, (Only.setCell HO3.out (p := ⟨b, 5, none⟩) (by simp) (.int .i64 4)), (Blk.set HB3.out 5 (.int .i64 4)), HM3.out.only (Only.setCell (Only.refl [b] _) (p := ⟨b, 5, none⟩) (by simp) (.int .i64 4)) (by simpa using HD.out.1.symm) (by simpa using HD.out.2.symm)⟩

set_option maxHeartbeats 2000000 in
set_option maxRecDepth 100000 in
theorem ustep_f4 (w : World) (b rb rs n : Nat) (at_ pos v y : Int) (ok : Bool) (x : Act') (m m' : MS) (hd : b ≠ rb ∧ b ≠ rs) (hb : Blk w b 98 (uCells at_ n false v pos 4 false false)) (hm : IsRef w rb rs m)
    (hn : Calls Try.prog 48 #[.pointer (some ⟨b, 0, none⟩)] w fun e w' => e = .returned x.val ∧ Only [] w w') (hact : m.act x = (m', ⟨y, ok, 0⟩)) :
    Calls Try.prog 49 #[.pointer (some ⟨b, 0, none⟩), .pointer (some ⟨rb, 0, none⟩)] w fun e w' => e = .returned (.bool true) ∧ Only [b, rb, rs] w w' ∧ Blk w' b 98 #[.int .i64 at_, .int .i64 n, .bool false, .int .u64 v, .int .u64 pos, .int .i64 4, .bool true, .bool true] ∧ IsRef w' rb rs m' := by
  have c6 := hb.at 6 (v := .bool false) rfl
  have HB := Lib.hid hb
  have HM := Lib.hid hm
  have HA := Lib.hid hact
  have HD := Lib.hid hd
  have HN := Lib.hid hn
  clear hb hm hact hd hn
  go_enter Try.func49, Try.ntmps49
  go_wp2_with fail
  refine HN.out.mono ?_
  rintro e w1 ⟨rfl, ho⟩
  have HM1 := Lib.hid (HM.out.only ho (by simp) (by simp))
  have HB1 := Lib.hid (Blk.only HB.out ho (by simp))
  have HO1 := Lib.hid ho
  clear ho c6
  go_wp2_with fail
  refine (rdo_act HM1.out HA.out).mono ?_
  rintro e w2 ⟨rfl, ho, hm'⟩
  have ho2 := ((HO1.out.sub (T := [b, rb, rs]) (List.nil_subset _)).then ho (by simp)).alloc (.cells #[.int .u64 y, .bool ok, .int .i64 0] 137)
  have hb2 := Blk.alloc (Blk.only HB1.out ho (by have := HD.out; simp; omega)) (.cells #[.int .u64 y, .bool ok, .int .i64 0] 137)
  have hm2 := hm'.only ((Only.refl [] w2).alloc (.cells #[.int .u64 y, .bool ok, .int .i64 0] 137)) (by simp) (by simp)
  have c2 := hb2.at 2 (v := .bool false) rfl
  have c4 := hb2.at 4 (v := .int .u64 pos) rfl
  have c5 := hb2.at 5 (v := .int .i64 4) rfl
  have c6 := hb2.at 6 (v := .bool false) rfl
  have f3 := hb2.frozen 3
  have f4 := hb2.frozen 4
  have f5 := hb2.frozen 5
  have f6 := hb2.frozen 6
  have f7 := hb2.frozen 7
  have c3 := hb2.at 3 (v := .int .u64 v) rfl
  have c7 := hb2.at 7 (v := .bool false) rfl
  have HO3 := Lib.hid ho2
  have HB3 := Lib.hid hb2
  have HM3 := Lib.hid hm2
  clear ho hm' ho2 hb2 hm2
  go_wp2_with fail
  go_ret
  exact ⟨rfl, (Only.setCell (Only.setCell HO3.out (p := ⟨b, 6, none⟩) (by simp) (.bool true)) (p := ⟨b, 7, none⟩) (by simp) (.bool true)), (Blk.set (Blk.set HB3.out 6 (.bool true)) 7 (.bool true)), HM3.out.only (Only.setCell ((Only.setCell (Only.refl [b] _) (p := ⟨b, 6, none⟩) (by simp) (.bool true))) (p := ⟨b, 7, none⟩) (by simp) (.bool true)) (by simpa using HD.out.1.symm) (by simpa using HD.out.2.symm)⟩

set_option maxHeartbeats 2000000 in
set_option maxRecDepth 100000 in
theorem ustep_fe (w : World) (b rb rs n : Nat) (at_ pos v y er : Int) (ok : Bool) (x : Act') (m m' : MS) (st : Int) (_he : (er != 0) = true) (hd : b ≠ rb ∧ b ≠ rs) (hb : Blk w b 98 (uCells at_ n false v pos st false false)) (hm : IsRef w rb rs m)
    (hn : Calls Try.prog 48 #[.pointer (some ⟨b, 0, none⟩)] w fun e w' => e = .returned x.val ∧ Only [] w w') (hact : m.act x = (m', ⟨y, ok, er⟩)) :
    Calls Try.prog 49 #[.pointer (some ⟨b, 0, none⟩), .pointer (some ⟨rb, 0, none⟩)] w fun e w' => e = .returned (.bool true) ∧ Only [b, rb, rs] w w' ∧ Blk w' b 98 #[.int .i64 at_, .int .i64 n, .bool false, .int .u64 0, .int .u64 pos, .int .i64 st, .bool true, .bool false] ∧ IsRef w' rb rs m' := by
  have c6 := hb.at 6 (v := .bool false) rfl
  have HB := Lib.hid hb
  have HM := Lib.hid hm
  have HA := Lib.hid hact
  have HD := Lib.hid hd
  have HN := Lib.hid hn
  clear hb hm hact hd hn
  go_enter Try.func49, Try.ntmps49
  go_wp2_with fail
  refine HN.out.mono ?_
  rintro e w1 ⟨rfl, ho⟩
  have HM1 := Lib.hid (HM.out.only ho (by simp) (by simp))
  have HB1 := Lib.hid (Blk.only HB.out ho (by simp))
  have HO1 := Lib.hid ho
  clear ho c6
  go_wp2_with fail
  refine (rdo_act HM1.out HA.out).mono ?_
  rintro e w2 ⟨rfl, ho, hm'⟩
  have ho2 := ((HO1.out.sub (T := [b, rb, rs]) (List.nil_subset _)).then ho (by simp)).alloc (.cells #[.int .u64 y, .bool ok, .int .i64 er] 137)
  have hb2 := Blk.alloc (Blk.only HB1.out ho (by have := HD.out; simp; omega)) (.cells #[.int .u64 y, .bool ok, .int .i64 er] 137)
  have hm2 := hm'.only ((Only.refl [] w2).alloc (.cells #[.int .u64 y, .bool ok, .int .i64 er] 137)) (by simp) (by simp)
  have c2 := hb2.at 2 (v := .bool false) rfl
  have c4 := hb2.at 4 (v := .int .u64 pos) rfl
  have c5 := hb2.at 5 (v := .int .i64 st) rfl
  have c6 := hb2.at 6 (v := .bool false) rfl
  have f3 := hb2.frozen 3
  have f4 := hb2.frozen 4
  have f5 := hb2.frozen 5
  have f6 := hb2.frozen 6
  have f7 := hb2.frozen 7
  have c3 := hb2.at 3 (v := .int .u64 v) rfl
  have c7 := hb2.at 7 (v := .bool false) rfl
  have HO3 := Lib.hid ho2
  have HB3 := Lib.hid hb2
  have HM3 := Lib.hid hm2
  clear ho hm' ho2 hb2 hm2
  go_wp2_with fail
  go_ret
  exact ⟨rfl, (Only.setCell (Only.setCell HO3.out (p := ⟨b, 6, none⟩) (by simp) (.bool true)) (p := ⟨b, 3, none⟩) (by simp) (.int .u64 0)), (Blk.set (Blk.set HB3.out 6 (.bool true)) 3 (.int .u64 0)), HM3.out.only (Only.setCell ((Only.setCell (Only.refl [b] _) (p := ⟨b, 6, none⟩) (by simp) (.bool true))) (p := ⟨b, 3, none⟩) (by simp) (.int .u64 0)) (by simpa using HD.out.1.symm) (by simpa using HD.out.2.symm)⟩

set_option maxHeartbeats 2000000 in
set_option maxRecDepth 100000 in
theorem ustep_t0 (w : World) (b rb rs n : Nat) (at_ pos v y : Int) (ok : Bool) (x : Act') (m m' : MS) (hd : b ≠ rb ∧ b ≠ rs) (hb : Blk w b 98 (uCells at_ n true v pos 0 false false)) (hm : IsRef w rb rs m)
    (hn : Calls Try.prog 48 #[.pointer (some ⟨b, 0, none⟩)] w fun e w' => e = .returned x.val ∧ Only [] w w') (hact : m.act x = (m', ⟨y, ok, 0⟩)) :
    Calls Try.prog 49 #[.pointer (some ⟨b, 0, none⟩), .pointer (some ⟨rb, 0, none⟩)] w fun e w' => e = .returned (.bool false) ∧ Only [b, rb, rs] w w' ∧ Blk w' b 98 #[.int .i64 at_, .int .i64 n, .bool true, .int .u64 v, .int .u64 y, .int .i64 1, .bool false, .bool false] ∧ IsRef w' rb rs m' := by
  have c6 := hb.at 6 (v := .bool false) rfl
  have HB := Lib.hid hb
  have HM := Lib.hid hm
  have HA := Lib.hid hact
  have HD := Lib.hid hd
  have HN := Lib.hid hn
  clear hb hm hact hd hn
  go_enter Try.func49, Try.ntmps49
  go_wp2_with fail
  refine HN.out.mono ?_
  rintro e w1 ⟨rfl, ho⟩
  have HM1 := Lib.hid (HM.out.only ho (by simp) (by simp))
  have HB1 := Lib.hid (Blk.only HB.out ho (by simp))
  have HO1 := Lib.hid ho
  clear ho c6
  go_wp2_with fail
  refine (rdo_act HM1.out HA.out).mono ?_
  rintro e w2 ⟨rfl, ho, hm'⟩
  have ho2 := ((HO1.out.sub (T := [b, rb, rs]) (List.nil_subset _)).then ho (by simp)).alloc (.cells #[.int .u64 y, .bool ok, .int .i64 0] 137)
  have hb2 := Blk.alloc (Blk.only HB1.out ho (by have := HD.out; simp; omega)) (.cells #[.int .u64 y, .bool ok, .int .i64 0] 137)
  have hm2 := hm'.only ((Only.refl [] w2).alloc (.cells #[.int .u64 y, .bool ok, .int .i64 0] 137)) (by simp) (by simp)
  have c2 := hb2.at 2 (v := .bool true) rfl
  have c4 := hb2.at 4 (v := .int .u64 pos) rfl
  have c5 := hb2.at 5 (v := .int .i64 0) rfl
  have c6 := hb2.at 6 (v := .bool false) rfl
  have f3 := hb2.frozen 3
  have f4 := hb2.frozen 4
  have f5 := hb2.frozen 5
  have f6 := hb2.frozen 6
  have f7 := hb2.frozen 7
  have c3 := hb2.at 3 (v := .int .u64 v) rfl
  have c7 := hb2.at 7 (v := .bool false) rfl
  have HO3 := Lib.hid ho2
  have HB3 := Lib.hid hb2
  have HM3 := Lib.hid hm2
  clear ho hm' ho2 hb2 hm2
  go_wp2_with fail
  go_ret
  exact ⟨rfl, (Only.setCell (Only.setCell HO3.out (p := ⟨b, 4, none⟩) (by simp) (.int .u64 y)) (p := ⟨b, 5, none⟩) (by simp) (.int .i64 1)), (Blk.set (Blk.set HB3.out 4 (.int .u64 y)) 5 (.int .i64 1)), HM3.out.only (Only.setCell ((Only.setCell (Only.refl [b] _) (p := ⟨b, 4, none⟩) (by simp) (.int .u64 y))) (p := ⟨b, 5, none⟩) (by simp) (.int .i64 1)) (by simpa using HD.out.1.symm) (by simpa using HD.out.2.symm)⟩

set_option maxHeartbeats 2000000 in
set_option maxRecDepth 100000 in
theorem ustep_t1a (w : World) (b rb rs n : Nat) (at_ pos v y : Int) (ok : Bool) (x : Act') (m m' : MS) (_g : (wrap64 (IntKind.u64.wrap (y - IntKind.u64.wrap (pos + 1))) == 0) = true) (hd : b ≠ rb ∧ b ≠ rs) (hb : Blk w b 98 (uCells at_ n true v pos 1 false false)) (hm : IsRef w rb rs m)
    (hn : Calls Try.prog 48 #[.pointer (some ⟨b, 0, none⟩)] w fun e w' => e = .returned x.val ∧ Only [] w w') (hact : m.act x = (m', ⟨y, ok, 0⟩)) :
    Calls Try.prog 49 #[.pointer (some ⟨b, 0, none⟩), .pointer (some ⟨rb, 0, none⟩)] w fun e w' => e = .returned (.bool false) ∧ Only [b, rb, rs] w w' ∧ Blk w' b 98 #[.int .i64 at_, .int .i64 n, .bool true, .int .u64 v, .int .u64 pos, .int .i64 2, .bool false, .bool false] ∧ IsRef w' rb rs m' := by
  have c6 := hb.at 6 (v := .bool false) rfl
  have HB := Lib.hid hb
  have HM := Lib.hid hm
  have HA := Lib.hid hact
  have HD := Lib.hid hd
  have HN := Lib.hid hn
  clear hb hm hact hd hn
  go_enter Try.func49, Try.ntmps49
  go_wp2_with fail
  refine HN.out.mono ?_
  rintro e w1 ⟨rfl, ho⟩
  have HM1 := Lib.hid (HM.out.only ho (by simp) (by simp))
  have HB1 := Lib.hid (Blk.only HB.out ho (by simp))
  have HO1 := Lib.hid ho
  clear ho c6
  go_wp2_with fail
  refine (rdo_act HM1.out HA.out).mono ?_
  rintro e w2 ⟨rfl, ho, hm'⟩
  have ho2 := ((HO1.out.sub (T := [b, rb, rs]) (List.nil_subset _)).then ho (by simp)).alloc (.cells #[.int .u64 y, .bool ok, .int .i64 0] 137)
  have hb2 := Blk.alloc (Blk.only HB1.out ho (by have := HD.out; simp; omega)) (.cells #[.int .u64 y, .bool ok, .int .i64 0] 137)
  have hm2 := hm'.only ((Only.refl [] w2).alloc (.cells #[.int .u64 y, .bool ok, .int .i64 0] 137)) (by simp) (by simp)
  have c2 := hb2.at 2 (v := .bool true) rfl
  have c4 := hb2.at 4 (v := .int .u64 pos) rfl
  have c5 := hb2.at 5 (v := .int .i64 1) rfl
  have c6 := hb2.at 6 (v := .bool false) rfl
  have f3 := hb2.frozen 3
  have f4 := hb2.frozen 4
  have f5 := hb2.frozen 5
  have f6 := hb2.frozen 6
  have f7 := hb2.frozen 7
  have c3 := hb2.at 3 (v := .int .u64 v) rfl
  have c7 := hb2.at 7 (v := .bool false) rfl
  have HO3 := Lib.hid ho2
  have HB3 := Lib.hid hb2
  have HM3 := Lib.hid hm2
  clear ho hm' ho2 hb2 hm2
  go_wp2_with fail
  go_ret
  exact ⟨rfl, (Only.setCell HO3.out (p := ⟨b, 5, none⟩) (by simp) (.int .i64 2)), (Blk.set HB3.out 5 (.int .i64 2)), HM3.out.only (Only.setCell (Only.refl [b] _) (p := ⟨b, 5, none⟩) (by simp) (.int .i64 2)) (by simpa using HD.out.1.symm) (by simpa using HD.out.2.symm)⟩

set_option maxHeartbeats 2000000 in
set_option maxRecDepth 100000 in
theorem ustep_t1b (w : World) (b rb rs n : Nat) (at_ pos v y : Int) (ok : Bool) (x : Act') (m m' : MS) (_g : (wrap64 (IntKind.u64.wrap (y - IntKind.u64.wrap (pos + 1))) == 0) = false) (_g2 : wrap64 (IntKind.u64.wrap (y - IntKind.u64.wrap (pos + 1))) < 0) (hd : b ≠ rb ∧ b ≠ rs) (hb : Blk w b 98 (uCells at_ n true v pos 1 false false)) (hm : IsRef w rb rs m)
    (hn : Calls Try.prog 48 #[.pointer (some ⟨b, 0, none⟩)] w fun e w' => e = .returned x.val ∧ Only [] w w') (hact : m.act x = (m', ⟨y, ok, 0⟩)) :
    Calls Try.prog 49 #[.pointer (some ⟨b, 0, none⟩), .pointer (some ⟨rb, 0, none⟩)] w fun e w' => e = .returned (.bool true) ∧ Only [b, rb, rs] w w' ∧ Blk w' b 98 #[.int .i64 at_, .int .i64 n, .bool true, .int .u64 v, .int .u64 pos, .int .i64 1, .bool true, .bool false] ∧ IsRef w' rb rs m' := by
  have c6 := hb.at 6 (v := .bool false) rfl
  have HB := Lib.hid hb
  have HM := Lib.hid hm
  have HA := Lib.hid hact
  have HD := Lib.hid hd
  have HN := Lib.hid hn
  clear hb hm hact hd hn
  go_enter Try.func49, Try.ntmps49
  go_wp2_with fail
  refine HN.out.mono ?_
  rintro e w1 ⟨rfl, ho⟩
  have HM1 := Lib.hid (HM.out.only ho (by simp) (by simp))
  have HB1 := Lib.hid (Blk.only HB.out ho (by simp))
  have HO1 := Lib.hid ho
  clear ho c6
  go_wp2_with fail
  refine (rdo_act HM1.out HA.out).mono ?_
  rintro e w2 ⟨rfl, ho, hm'⟩
  have ho2 := ((HO1.out.sub (T := [b, rb, rs]) (List.nil_subset _)).then ho (by simp)).alloc (.cells #[.int .u64 y, .bool ok, .int .i64 0] 137)
  have hb2 := Blk.alloc (Blk.only HB1.out ho (by have := HD.out; simp; omega)) (.cells #[.int .u64 y, .bool ok, .int .i64 0] 137)
  have hm2 := hm'.only ((Only.refl [] w2).alloc (.cells #[.int .u64 y, .bool ok, .int .i64 0] 137)) (by simp) (by simp)
  have c2 := hb2.at 2 (v := .bool true) rfl
  have c4 := hb2.at 4 (v := .int .u64 pos) rfl
  have c5 := hb2.at 5 (v := .int .i64 1) rfl
  have c6 := hb2.at 6 (v := .bool false) rfl
  have f3 := hb2.frozen 3
  have f4 := hb2.frozen 4
  have f5 := hb2.frozen 5
  have f6 := hb2.frozen 6
  have f7 := hb2.frozen 7
  have c3 := hb2.at 3 (v := .int .u64 v) rfl
  have c7 := hb2.at 7 (v := .bool false) rfl
  have HO3 := Lib.hid ho2
  have HB3 := Lib.hid hb2
  have HM3 := Lib.hid hm2
  clear ho hm' ho2 hb2 hm2
  go_wp2_with fail
  go_ret
  exact ⟨rfl, (Only.setCell HO3.out (p := ⟨b, 6, none⟩) (by simp) (.bool true)), (Blk.set HB3.out 6 (.bool true)), HM3.out.only (Only.setCell (Only.refl [b] _) (p := ⟨b, 6, none⟩) (by simp) (.bool true)) (by simpa using HD.out.1.symm) (by simpa using HD.out.2.symm)⟩

set_option maxHeartbeats 2000000 in
set_option maxRecDepth 100000 in
theorem ustep_t1c (w : World) (b rb rs n : Nat) (at_ pos v y : Int) (ok : Bool) (x : Act') (m m' : MS) (_g : (wrap64 (IntKind.u64.wrap (y - IntKind.u64.wrap (pos + 1))) == 0) = false) (_g2 : ¬ wrap64 (IntKind.u64.wrap (y - IntKind.u64.wrap (pos + 1))) < 0) (hd : b ≠ rb ∧ b ≠ rs) (hb : Blk w b 98 (uCells at_ n true v pos 1 false false)) (hm : IsRef w rb rs m)
    (hn : Calls Try.prog 48 #[.pointer (some ⟨b, 0, none⟩)] w fun e w' => e = .returned x.val ∧ Only [] w w') (hact : m.act x = (m', ⟨y, ok, 0⟩)) :
    Calls Try.prog 49 #[.pointer (some ⟨b, 0, none⟩), .pointer (some ⟨rb, 0, none⟩)] w fun e w' => e = .returned (.bool false) ∧ Only [b, rb, rs] w w' ∧ Blk w' b 98 #[.int .i64 at_, .int .i64 n, .bool true, .int .u64 v, .int .u64 pos, .int .i64 0, .bool false, .bool false] ∧ IsRef w' rb rs m' := by
  have c6 := hb.at 6 (v := .bool false) rfl
  have HB := Lib.hid hb
  have HM := Lib.hid hm
  have HA := Lib.hid hact
  have HD := Lib.hid hd
  have HN := Lib.hid hn
  clear hb hm hact hd hn
  go_enter Try.func49, Try.ntmps49
  go_wp2_with fail
  refine HN.out.mono ?_
  rintro e w1 ⟨rfl, ho⟩
  have HM1 := Lib.hid (HM.out.only ho (by simp) (by simp))
  have HB1 := Lib.hid (Blk.only HB.out ho (by simp))
  have HO1 := Lib.hid ho
  clear ho c6
  go_wp2_with fail
  refine (rdo_act HM1.out HA.out).mono ?_
  rintro e w2 ⟨rfl, ho, hm'⟩
  have ho2 := ((HO1.out.sub (T := [b, rb, rs]) (List.nil_subset _)).then ho (by simp)).alloc (.cells #[.int .u64 y, .bool ok, .int .i64 0] 137)
  have hb2 := Blk.alloc (Blk.only HB1.out ho (by have := HD.out; simp; omega)) (.cells #[.int .u64 y, .bool ok, .int .i64 0] 137)
  have hm2 := hm'.only ((Only.refl [] w2).alloc (.cells #[.int .u64 y, .bool ok, .int .i64 0] 137)) (by simp) (by simp)
  have c2 := hb2.at 2 (v := .bool true) rfl
  have c4 := hb2.at 4 (v := .int .u64 pos) rfl
  have c5 := hb2.at 5 (v := .int .i64 1) rfl
  have c6 := hb2.at 6 (v := .bool false) rfl
  have f3 := hb2.frozen 3
  have f4 := hb2.frozen 4
  have f5 := hb2.frozen 5
  have f6 := hb2.frozen 6
  have f7 := hb2.frozen 7
  have c3 := hb2.at 3 (v := .int .u64 v) rfl
  have c7 := hb2.at 7 (v := .bool false) rfl
  have HO3 := Lib.hid ho2
  have HB3 := Lib.hid hb2
  have HM3 := Lib.hid hm2
  clear ho hm' ho2 hb2 hm2
  go_wp2_with fail
  go_ret
  exact ⟨rfl, (Only.setCell HO3.out (p := ⟨b, 5, none⟩) (by simp) (.int .i64 0)), (Blk.set HB3.out 5 (.int .i64 0)), HM3.out.only (Only.setCell (Only.refl [b] _) (p := ⟨b, 5, none⟩) (by simp) (.int .i64 0)) (by simpa using HD.out.1.symm) (by simpa using HD.out.2.symm)⟩

set_option maxHeartbeats 2000000 in
set_option maxRecDepth 100000 in
theorem ustep_t2n (w : World) (b rb rs n : Nat) (at_ pos v y : Int) (x : Act') (m m' : MS) (hd : b ≠ rb ∧ b ≠ rs) (hb : Blk w b 98 (uCells at_ n true v pos 2 false false)) (hm : IsRef w rb rs m)
    (hn : Calls Try.prog 48 #[.pointer (some ⟨b, 0, none⟩)] w fun e w' => e = .returned x.val ∧ Only [] w w') (hact : m.act x = (m', ⟨y, false, 0⟩)) :
    Calls Try.prog 49 #[.pointer (some ⟨b, 0, none⟩), .pointer (some ⟨rb, 0, none⟩)] w fun e w' => e = .returned (.bool false) ∧ Only [b, rb, rs] w w' ∧ Blk w' b 98 #[.int .i64 at_, .int .i64 n, .bool true, .int .u64 v, .int .u64 pos, .int .i64 0, .bool false, .bool false] ∧ IsRef w' rb rs m' := by
  have c6 := hb.at 6 (v := .bool false) rfl
  have HB := Lib.hid hb
  have HM := Lib.hid hm
  have HA := Lib.hid hact
  have HD := Lib.hid hd
  have HN := Lib.hid hn
  clear hb hm hact hd hn
  go_enter Try.func49, Try.ntmps49
  go_wp2_with fail
  refine HN.out.mono ?_
  rintro e w1 ⟨rfl, ho⟩
  have HM1 := Lib.hid (HM.out.only ho (by simp) (by simp))
  have HB1 := Lib.hid (Blk.only HB.out ho (by simp))
  have HO1 := Lib.hid ho
  clear ho c6
  go_wp2_with fail
  refine (rdo_act HM1.out HA.out).mono ?_
  rintro e w2 ⟨rfl, ho, hm'⟩
  have ho2 := ((HO1.out.sub (T := [b, rb, rs]) (List.nil_subset _)).then ho (by simp)).alloc (.cells #[.int .u64 y, .bool false, .int .i64 0] 137)
  have hb2 := Blk.alloc (Blk.only HB1.out ho (by have := HD.out; simp; omega)) (.cells #[.int .u64 y, .bool false, .int .i64 0] 137)
  have hm2 := hm'.only ((Only.refl [] w2).alloc (.cells #[.int .u64 y, .bool false, .int .i64 0] 137)) (by simp) (by simp)
  have c2 := hb2.at 2 (v := .bool true) rfl
  have c4 := hb2.at 4 (v := .int .u64 pos) rfl
  have c5 := hb2.at 5 (v := .int .i64 2) rfl
  have c6 := hb2.at 6 (v := .bool false) rfl
  have f3 := hb2.frozen 3
  have f4 := hb2.frozen 4
  have f5 := hb2.frozen 5
  have f6 := hb2.frozen 6
  have f7 := hb2.frozen 7
  have c3 := hb2.at 3 (v := .int .u64 v) rfl
  have c7 := hb2.at 7 (v := .bool false) rfl
  have HO3 := Lib.hid ho2
  have HB3 := Lib.hid hb2
  have HM3 := Lib.hid hm2
  clear ho hm' ho2 hb2 hm2
  go_wp2_with fail
  go_ret
  exact ⟨rfl, (Only.setCell HO3.out (p := ⟨b, 5, none⟩) (by simp) (.int .i64 0)), (Blk.set HB3.out 5 (.int .i64 0)), HM3.out.only (Only.setCell (Only.refl [b] _) (p := ⟨b, 5, none⟩) (by simp) (.int .i64 0)) (by simpa using HD.out.1.symm) (by simpa using HD.out.2.symm)⟩

set_option maxHeartbeats 2000000 in
set_option maxRecDepth 100000 in
theorem ustep_t2y (w : World) (b rb rs n : Nat) (at_ pos v y : Int) (x : Act') (m m' : MS) (hd : b ≠ rb ∧ b ≠ rs) (hb : Blk w b 98 (uCells at_ n true v pos 2 false false)) (hm : IsRef w rb rs m)
    (hn : Calls Try.prog 48 #[.pointer (some ⟨b, 0, none⟩)] w fun e w' => e = .returned x.val ∧ Only [] w w') (hact : m.act x = (m', ⟨y, true, 0⟩)) :
    Calls Try.prog 49 #[.pointer (some ⟨b, 0, none⟩), .pointer (some ⟨rb, 0, none⟩)] w fun e w' => e = .returned (.bool false) ∧ Only [b, rb, rs] w w' ∧ Blk w' b 98 #[.int .i64 at_, .int .i64 n, .bool true, .int .u64 v, .int .u64 pos, .int .i64 3, .bool false, .bool false] ∧ IsRef w' rb rs m' := by
  have c6 := hb.at 6 (v := .bool false) rfl
  have HB := Lib.hid hb
  have HM := Lib.hid hm
  have HA := Lib.hid hact
  have HD := Lib.hid hd
  have HN := Lib.hid hn
  clear hb hm hact hd hn
  go_enter Try.func49, Try.ntmps49
  go_wp2_with fail
  refine HN.out.mono ?_
  rintro e w1 ⟨rfl, ho⟩
  have HM1 := Lib.hid (HM.out.only ho (by simp) (by simp))
  have HB1 := Lib.hid (Blk.only HB.out ho (by simp))
  have HO1 := Lib.hid ho
  clear ho c6
  go_wp2_with fail
  refine (rdo_act HM1.out HA.out).mono ?_
  rintro e w2 ⟨rfl, ho, hm'⟩
  have ho2 := ((HO1.out.sub (T := [b, rb, rs]) (List.nil_subset _)).then ho (by simp)).alloc (.cells #[.int .u64 y, .bool true, .int .i64 0] 137)
  have hb2 := Blk.alloc (Blk.only HB1.out ho (by have := HD.out; simp; omega)) (.cells #[.int .u64 y, .bool true, .int .i64 0] 137)
  have hm2 := hm'.only ((Only.refl [] w2).alloc (.cells #[.int .u64 y, .bool true, .int .i64 0] 137)) (by simp) (by simp)
  have c2 := hb2.at 2 (v := .bool true) rfl
  have c4 := hb2.at 4 (v := .int .u64 pos) rfl
  have c5 := hb2.at 5 (v := .int .i64 2) rfl
  have c6 := hb2.at 6 (v := .bool false) rfl
  have f3 := hb2.frozen 3
  have f4 := hb2.frozen 4
  have f5 := hb2.frozen 5
  have f6 := hb2.frozen 6
  have f7 := hb2.frozen 7
  have c3 := hb2.at 3 (v := .int .u64 v) rfl
  have c7 := hb2.at 7 (v := .bool false) rfl
  have HO3 := Lib.hid ho2
  have HB3 := Lib.hid hb2
  have HM3 := Lib.hid hm2
  clear ho hm' ho2 hb2 hm2
  go_wp2_with fail
  go_ret
  exact ⟨rfl, (Only.setCell (Only.setCell HO3.out (p := ⟨b, 5, none⟩) (by simp) (.int .i64 0)) (p := ⟨b, 5, none⟩) (by simp) (.int .i64 3)), (Blk.set (Blk.set HB3.out 5 (.int .i64 0)) 5 (.int .i64 3)), HM3.out.only (Only.setCell ((Only.setCell (Only.refl [b] _) (p := ⟨b, 5, none⟩) (by simp) (.int .i64 0))) (p := ⟨b, 5, none⟩) (by simp) (.int .i64 3)) (by simpa using HD.out.1.symm) (by simpa using HD.out.2.symm)⟩

set_option maxHeartbeats 2000000 in
set_option maxRecDepth 100000 in
theorem ustep_t3 (w : World) (b rb rs n : Nat) (at_ pos v y : Int) (ok : Bool) (x : Act') (m m' : MS) (hd : b ≠ rb ∧ b ≠ rs) (hb : Blk w b 98 (uCells at_ n true v pos 3 false false)) (hm : IsRef w rb rs m)
    (hn : Calls Try.prog 48 #[.pointer (some ⟨b, 0, none⟩)] w fun e w' => e = .returned x.val ∧ Only [] w w') (hact : m.act x = (m', ⟨y, ok, 0⟩)) :
    Calls Try.prog 49 #[.pointer (some ⟨b, 0, none⟩), .pointer (some ⟨rb, 0, none⟩)] w fun e w' => e = .returned (.bool false) ∧ Only [b, rb, rs] w w' ∧ Blk w' b 98 #[.int .i64 at_, .int .i64 n, .bool true, .int .u64 y, .int .u64 pos, .int .i64 4, .bool false, .bool false] ∧ IsRef w' rb rs m' := by
  have c6 := hb.at 6 (v := .bool false) rfl
  have HB := Lib.hid hb
  have HM := Lib.hid hm
  have HA := Lib.hid hact
  have HD := Lib.hid hd
  have HN := Lib.hid hn
  clear hb hm hact hd hn
  go_enter Try.func49, Try.ntmps49
  go_wp2_with fail
  refine HN.out.mono ?_
  rintro e w1 ⟨rfl, ho⟩
  have HM1 := Lib.hid (HM.out.only ho (by simp) (by simp))
  have HB1 := Lib.hid (Blk.only HB.out ho (by simp))
  have HO1 := Lib.hid ho
  clear ho c6
  go_wp2_with fail
  refine (rdo_act HM1.out HA.out).mono ?_
  rintro e w2 ⟨rfl, ho, hm'⟩
  have ho2 := ((HO1.out.sub (T := [b, rb, rs]) (List.nil_subset _)).then ho (by simp)).alloc (.cells #[.int .u64 y, .bool ok, .int .i64 0] 137)
  have hb2 := Blk.alloc (Blk.only HB1.out ho (by have := HD.out; simp; omega)) (.cells #[.int .u64 y, .bool ok, .int .i64 0] 137)
  have hm2 := hm'.only ((Only.refl [] w2).alloc (.cells #[.int .u64 y, .bool ok, .int .i64 0] 137)) (by simp) (by simp)
  have c2 := hb2.at 2 (v := .bool true) rfl
  have c4 := hb2.at 4 (v := .int .u64 pos) rfl
  have c5 := hb2.at 5 (v := .int .i64 3) rfl
  have c6 := hb2.at 6 (v := .bool false) rfl
  have f3 := hb2.frozen 3
  have f4 := hb2.frozen 4
  have f5 := hb2.frozen 5
  have f6 := hb2.frozen 6
  have f7 := hb2.frozen 7
  have c3 := hb2.at 3 (v := .int .u64 v) rfl
  have c7 := hb2.at 7 (v := .bool false) rfl
  have HO3 := Lib.hid ho2
  have HB3 := Lib.hid hb2
  have HM3 := Lib.hid hm2
  clear ho hm' ho2 hb2 hm2
  go_wp2_with fail
  go_ret
  exact ⟨rfl, (Only.setCell (Only.setCell HO3.out (p := ⟨b, 3, none⟩) (by simp) (.int .u64 y)) (p := ⟨b, 5, none⟩) (by simp) (.int .i64 4)), (Blk.set (Blk.set HB3.out 3 (.int .u64 y)) 5 (.int .i64 4)), HM3.out.only (Only.setCell ((Only.setCell (Only.refl [b] _) (p := ⟨b, 3, none⟩) (by simp) (.int .u64 y))) (p := ⟨b, 5, none⟩) (by simp) (.int .i64 4)) (by simpa using HD.out.1.symm) (by simpa using HD.out.2.symm)⟩

set_option maxHeartbeats 2000000 in
set_option maxRecDepth 100000 in
theorem ustep_t4 (w : World) (b rb rs n : Nat) (at_ pos v y : Int) (ok : Bool) (x : Act') (m m' : MS) (hd : b ≠ rb ∧ b ≠ rs) (hb : Blk w b 98 (uCells at_ n true v pos 4 false false)) (hm : IsRef w rb rs m)
    (hn : Calls Try.prog 48 #[.pointer (some ⟨b, 0, none⟩)] w fun e w' => e = .returned x.val ∧ Only [] w w') (hact : m.act x = (m', ⟨y, ok, 0⟩)) :
    Calls Try.prog 49 #[.pointer (some ⟨b, 0, none⟩), .pointer (some ⟨rb, 0, none⟩)] w fun e w' => e = .returned (.bool true) ∧ Only [b, rb, rs] w w' ∧ Blk w' b 98 #[.int .i64 at_, .int .i64 n, .bool true, .int .u64 v, .int .u64 pos, .int .i64 4, .bool true, .bool true] ∧ IsRef w' rb rs m' := by
  have c6 := hb.at 6 (v := .bool false) rfl
  have HB := Lib.hid hb
  have HM := Lib.hid hm
  have HA := Lib.hid hact
  have HD := Lib.hid hd
  have HN := Lib.hid hn
  clear hb hm hact hd hn
  go_enter Try.func49, Try.ntmps49
  go_wp2_with fail
  refine HN.out.mono ?_
  rintro e w1 ⟨rfl, ho⟩
  have HM1 := Lib.hid (HM.out.only ho (by simp) (by simp))
  have HB1 := Lib.hid (Blk.only HB.out ho (by simp))
  have HO1 := Lib.hid ho
  clear ho c6
  go_wp2_with fail
  refine (rdo_act HM1.out HA.out).mono ?_
  rintro e w2 ⟨rfl, ho, hm'⟩
  have ho2 := ((HO1.out.sub (T := [b, rb, rs]) (List.nil_subset _)).then ho (by simp)).alloc (.cells #[.int .u64 y, .bool ok, .int .i64 0] 137)
  have hb2 := Blk.alloc (Blk.only HB1.out ho (by have := HD.out; simp; omega)) (.cells #[.int .u64 y, .bool ok, .int .i64 0] 137)
  have hm2 := hm'.only ((Only.refl [] w2).alloc (.cells #[.int .u64 y, .bool ok, .int .i64 0] 137)) (by simp) (by simp)
  have c2 := hb2.at 2 (v := .bool true) rfl
  have c4 := hb2.at 4 (v := .int .u64 pos) rfl
  have c5 := hb2.at 5 (v := .int .i64 4) rfl
  have c6 := hb2.at 6 (v := .bool false) rfl
  have f3 := hb2.frozen 3
  have f4 := hb2.frozen 4
  have f5 := hb2.frozen 5
  have f6 := hb2.frozen 6
  have f7 := hb2.frozen 7
  have c3 := hb2.at 3 (v := .int .u64 v) rfl
  have c7 := hb2.at 7 (v := .bool false) rfl
  have HO3 := Lib.hid ho2
  have HB3 := Lib.hid hb2
  have HM3 := Lib.hid hm2
  clear ho hm' ho2 hb2 hm2
  go_wp2_with fail
  go_ret
  exact ⟨rfl, (Only.setCell (Only.setCell HO3.out (p := ⟨b, 6, none⟩) (by simp) (.bool true)) (p := ⟨b, 7, none⟩) (by simp) (.bool true)), (Blk.set (Blk.set HB3.out 6 (.bool true)) 7 (.bool true)), HM3.out.only (Only.setCell ((Only.setCell (Only.refl [b] _) (p := ⟨b, 6, none⟩) (by simp) (.bool true))) (p := ⟨b, 7, none⟩) (by simp) (.bool true)) (by simpa using HD.out.1.symm) (by simpa using HD.out.2.symm)⟩

set_option maxHeartbeats 2000000 in
set_option maxRecDepth 100000 in
theorem ustep_te (w : World) (b rb rs n : Nat) (at_ pos v y er : Int) (ok : Bool) (x : Act') (m m' : MS) (st : Int) (_he : (er != 0) = true) (hd : b ≠ rb ∧ b ≠ rs) (hb : Blk w b 98 (uCells at_ n true v pos st false false)) (hm : IsRef w rb rs m)
    (hn : Calls Try.prog 48 #[.pointer (some ⟨b, 0, none⟩)] w fun e w' => e = .returned x.val ∧ Only [] w w') (hact : m.act x = (m', ⟨y, ok, er⟩)) :
    Calls Try.prog 49 #[.pointer (some ⟨b, 0, none⟩), .pointer (some ⟨rb, 0, none⟩)] w fun e w' => e = .returned (.bool true) ∧ Only [b, rb, rs] w w' ∧ Blk w' b 98 #[.int .i64 at_, .int .i64 n, .bool true, .int .u64 0, .int .u64 pos, .int .i64 st, .bool true, .bool false] ∧ IsRef w' rb rs m' := by
  have c6 := hb.at 6 (v := .bool false) rfl
  have HB := Lib.hid hb
  have HM := Lib.hid hm
  have HA := Lib.hid hact
  have HD := Lib.hid hd
  have HN := Lib.hid hn
  clear hb hm hact hd hn
  go_enter Try.func49, Try.ntmps49
  go_wp2_with fail
  refine HN.out.mono ?_
  rintro e w1 ⟨rfl, ho⟩
  have HM1 := Lib.hid (HM.out.only ho (by simp) (by simp))
  have HB1 := Lib.hid (Blk.only HB.out ho (by simp))
  have HO1 := Lib.hid ho
  clear ho c6
  go_wp2_with fail
  refine (rdo_act HM1.out HA.out).mono ?_
  rintro e w2 ⟨rfl, ho, hm'⟩
  have ho2 := ((HO1.out.sub (T := [b, rb, rs]) (List.nil_subset _)).then ho (by simp)).alloc (.cells #[.int .u64 y, .bool ok, .int .i64 er] 137)
  have hb2 := Blk.alloc (Blk.only HB1.out ho (by have := HD.out; simp; omega)) (.cells #[.int .u64 y, .bool ok, .int .i64 er] 137)
  have hm2 := hm'.only ((Only.refl [] w2).alloc (.cells #[.int .u64 y, .bool ok, .int .i64 er] 137)) (by simp) (by simp)
  have c2 := hb2.at 2 (v := .bool true) rfl
  have c4 := hb2.at 4 (v := .int .u64 pos) rfl
  have c5 := hb2.at 5 (v := .int .i64 st) rfl
  have c6 := hb2.at 6 (v := .bool false) rfl
  have f3 := hb2.frozen 3
  have f4 := hb2.frozen 4
  have f5 := hb2.frozen 5
  have f6 := hb2.frozen 6
  have f7 := hb2.frozen 7
  have c3 := hb2.at 3 (v := .int .u64 v) rfl
  have c7 := hb2.at 7 (v := .bool false) rfl
  have HO3 := Lib.hid ho2
  have HB3 := Lib.hid hb2
  have HM3 := Lib.hid hm2
  clear ho hm' ho2 hb2 hm2
  go_wp2_with fail
  go_ret
  exact ⟨rfl, (Only.setCell (Only.setCell HO3.out (p := ⟨b, 6, none⟩) (by simp) (.bool true)) (p := ⟨b, 3, none⟩) (by simp) (.int .u64 0)), (Blk.set (Blk.set HB3.out 6 (.bool true)) 3 (.int .u64 0)), HM3.out.only (Only.setCell ((Only.setCell (Only.refl [b] _) (p := ⟨b, 6, none⟩) (by simp) (.bool true))) (p := ⟨b, 3, none⟩) (by simp) (.int .u64 0)) (by simpa using HD.out.1.symm) (by simpa using HD.out.2.symm)⟩

end Go.Proofs.Ytoecoijmkjhkgaa
