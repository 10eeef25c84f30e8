/- The ring: the step of one who pops, once a way. Written by ringstep. -/
import Derived.Test.YtoecoijmkjhkgaaRing4
namespace Go.Proofs.Ytoecoijmkjhkgaa
open Go.RowKit

set_option maxHeartbeats 4000000 in
set_option maxRecDepth 100000 in
theorem postep_err (w : World) (b mb ms n : Nat) (at_ pos v : Int) (has : Bool) (st : Int) (m m' : MS) (x : Int) (ok : Bool) (er : Int) (hs : ¬ st = 5) (he : ¬ er = 0)
    (h : IsQ w b true ⟨at_, n, st, pos, has, v⟩) (hm : IsMem w mb ms m) (hact : m.act (RQ.next true ⟨at_, n, st, pos, has, v⟩) = (m', ⟨x, ok, er⟩)) :
    Calls Try.prog 52 #[.pointer (some ⟨b, 0, none⟩), .pointer (some ⟨mb, 0, none⟩), .iface 39 (.pointer (some ⟨b, 0, none⟩))] w fun e w' => e = .returned (.bool (decide (((5) : Int) = 5))) ∧ Only [b, mb, ms] w w' ∧ IsMem w' mb ms m' ∧ IsQ w' b true ⟨at_, n, 5, pos, has, v⟩ := by
  obtain ⟨k1, k2, k3, k4, k5, k6, k7, k8, k9, k10⟩ := h.ok
  dsimp only at k1 k2 k3 k4 k5 k6 k7 k8 k9 k10
  have q2 := h.obj.at 2 (v := .int .i64 st) rfl
  have hsb : (st == 5) = false := by simpa using hs
  have heb : (er != 0) = true := by simpa using he
  clear hs he
  have NB := Lib.hid (show b ≠ mb ∧ b ≠ ms from ⟨h.obj.ne hm.obj (by decide), h.obj.ne hm.row (by decide)⟩)
  have H := Lib.hid h
  have HM := Lib.hid hm
  have HA := Lib.hid hact
  clear h hm hact
  go_enter Try.func52, Try.ntmps52
  go_wp2_with fail
  refine (rnext_any _ b true _ H.out).mono ?_
  rintro e w2 ⟨rfl, ho⟩
  have HO := Lib.hid (ho.sub (T := [b, mb, ms]) (by simp))
  have H := Lib.hid (H.out.only ho (by simp))
  have HM := Lib.hid (HM.out.only ho (by simp) (by simp))
  clear ho q2
  go_wp2_with fail
  refine (do_act HM.out HA.out).mono ?_
  rintro e w3 ⟨rfl, ho, hm⟩
  have HO := Lib.hid ((HO.out.trans (ho.sub (by simp))).alloc (.cells #[.int .u64 x, .bool ok, .int .i64 er] 128))
  have H := Lib.hid ((H.out.only ho (by have := NB.out; simp; omega)).only ((Only.refl [] w3).alloc (.cells #[.int .u64 x, .bool ok, .int .i64 er] 128)) (by simp))
  have HM := Lib.hid (IsMem.only hm ((Only.refl [] w3).alloc (.cells #[.int .u64 x, .bool ok, .int .i64 er] 128)) (by simp) (by simp))
  have HRS := Lib.hid (Blk.new w3 128 #[.int .u64 x, .bool ok, .int .i64 er])
  have c2 := H.out.obj.at 2 (v := .int .i64 st) rfl
  have c3 := H.out.obj.at 3 (v := .int .u64 pos) rfl
  have c4 := H.out.obj.at 4 (v := .bool has) rfl
  have c5 := H.out.obj.at 5 (v := .int .u64 v) rfl
  have f2 := H.out.obj.frozen 2
  have f3 := H.out.obj.frozen 3
  have f4 := H.out.obj.frozen 4
  have f5 := H.out.obj.frozen 5
  clear ho hm
  have r2 := HRS.out.at 2 (v := .int .i64 er) rfl
  go_wp2_with fail
  have HE := Lib.hid (q_end (p := true) H.out HM.out NB.out (Only.setCell (p := ⟨b, 2, none⟩) (Only.refl [b] _) (.inl (by simp)) (.int .i64 5)) ⟨at_, n, 5, pos, has, v⟩ (H.out.obj.set 2 (.int .i64 5)) ⟨k1, k2, k3, k4, by dsimp only; omega, by dsimp only; omega, by dsimp only; omega, by dsimp only; omega, by dsimp only; omega, by dsimp only; omega⟩)
  have HO5 := Lib.hid (HO.out.trans ((Only.setCell (p := ⟨b, 2, none⟩) (Only.refl [b] _) (.inl (by simp)) (.int .i64 5)).sub (T := [b, mb, ms]) (by simp)))
  clear c2 c3 c4 c5 f2 f3 f4 f5
  go_ret
  exact ⟨by first | (simp; done) | (simp; exact Bool.eq_iff_iff.2 (by simp)), HO5.out, HE.out⟩

set_option maxHeartbeats 4000000 in
set_option maxRecDepth 100000 in
theorem postep_look (w : World) (b mb ms n : Nat) (at_ pos v : Int) (has : Bool) (m m' : MS) (x : Int) (ok : Bool) (x0 : 0 ≤ x) (x1 : x < 18446744073709551616)
    (h : IsQ w b true ⟨at_, n, 0, pos, has, v⟩) (hm : IsMem w mb ms m) (hact : m.act (RQ.next true ⟨at_, n, 0, pos, has, v⟩) = (m', ⟨x, ok, 0⟩)) :
    Calls Try.prog 52 #[.pointer (some ⟨b, 0, none⟩), .pointer (some ⟨mb, 0, none⟩), .iface 39 (.pointer (some ⟨b, 0, none⟩))] w fun e w' => e = .returned (.bool (decide (((1) : Int) = 5))) ∧ Only [b, mb, ms] w w' ∧ IsMem w' mb ms m' ∧ IsQ w' b true ⟨at_, n, 1, x, has, v⟩ := by
  obtain ⟨k1, k2, k3, k4, k5, k6, k7, k8, k9, k10⟩ := h.ok
  dsimp only at k1 k2 k3 k4 k5 k6 k7 k8 k9 k10
  have q2 := h.obj.at 2 (v := .int .i64 0) rfl
  have NB := Lib.hid (show b ≠ mb ∧ b ≠ ms from ⟨h.obj.ne hm.obj (by decide), h.obj.ne hm.row (by decide)⟩)
  have H := Lib.hid h
  have HM := Lib.hid hm
  have HA := Lib.hid hact
  clear h hm hact
  go_enter Try.func52, Try.ntmps52
  go_wp2_with fail
  refine (rnext_any _ b true _ H.out).mono ?_
  rintro e w2 ⟨rfl, ho⟩
  have HO := Lib.hid (ho.sub (T := [b, mb, ms]) (by simp))
  have H := Lib.hid (H.out.only ho (by simp))
  have HM := Lib.hid (HM.out.only ho (by simp) (by simp))
  clear ho q2
  go_wp2_with fail
  refine (do_act HM.out HA.out).mono ?_
  rintro e w3 ⟨rfl, ho, hm⟩
  have HO := Lib.hid ((HO.out.trans (ho.sub (by simp))).alloc (.cells #[.int .u64 x, .bool ok, .int .i64 0] 128))
  have H := Lib.hid ((H.out.only ho (by have := NB.out; simp; omega)).only ((Only.refl [] w3).alloc (.cells #[.int .u64 x, .bool ok, .int .i64 0] 128)) (by simp))
  have HM := Lib.hid (IsMem.only hm ((Only.refl [] w3).alloc (.cells #[.int .u64 x, .bool ok, .int .i64 0] 128)) (by simp) (by simp))
  have HRS := Lib.hid (Blk.new w3 128 #[.int .u64 x, .bool ok, .int .i64 0])
  have c2 := H.out.obj.at 2 (v := .int .i64 0) rfl
  have c3 := H.out.obj.at 3 (v := .int .u64 pos) rfl
  have c4 := H.out.obj.at 4 (v := .bool has) rfl
  have c5 := H.out.obj.at 5 (v := .int .u64 v) rfl
  have f2 := H.out.obj.frozen 2
  have f3 := H.out.obj.frozen 3
  have f4 := H.out.obj.frozen 4
  have f5 := H.out.obj.frozen 5
  clear ho hm
  go_wp2_with fail
  have HE := Lib.hid (q_end (p := true) H.out HM.out NB.out (Only.setCell (p := ⟨b, 2, none⟩) (Only.setCell (p := ⟨b, 3, none⟩) (Only.refl [b] _) (.inl (by simp)) (.int .u64 x)) (.inl (by simp)) (.int .i64 1)) ⟨at_, n, 1, x, has, v⟩ ((H.out.obj.set 3 (.int .u64 x)).set 2 (.int .i64 1)) ⟨k1, k2, k3, k4, by dsimp only; omega, by dsimp only; omega, by dsimp only; omega, by dsimp only; omega, by dsimp only; omega, by dsimp only; omega⟩)
  have HO5 := Lib.hid (HO.out.trans ((Only.setCell (p := ⟨b, 2, none⟩) (Only.setCell (p := ⟨b, 3, none⟩) (Only.refl [b] _) (.inl (by simp)) (.int .u64 x)) (.inl (by simp)) (.int .i64 1)).sub (T := [b, mb, ms]) (by simp)))
  clear c2 c3 c4 c5 f2 f3 f4 f5
  go_ret
  exact ⟨by first | (simp; done) | (simp; exact Bool.eq_iff_iff.2 (by simp)), HO5.out, HE.out⟩

set_option maxHeartbeats 4000000 in
set_option maxRecDepth 100000 in
theorem postep_turn (w : World) (b mb ms n : Nat) (at_ pos v : Int) (has : Bool) (m m' : MS) (x : Int) (ok : Bool)
    (h : IsQ w b true ⟨at_, n, 1, pos, has, v⟩) (hm : IsMem w mb ms m) (hact : m.act (RQ.next true ⟨at_, n, 1, pos, has, v⟩) = (m', ⟨x, ok, 0⟩)) :
    Calls Try.prog 52 #[.pointer (some ⟨b, 0, none⟩), .pointer (some ⟨mb, 0, none⟩), .iface 39 (.pointer (some ⟨b, 0, none⟩))] w fun e w' => e = .returned (.bool (decide (((lookedTo x (IntKind.u64.wrap (pos + 1))) : Int) = 5))) ∧ Only [b, mb, ms] w w' ∧ IsMem w' mb ms m' ∧ IsQ w' b true ⟨at_, n, lookedTo x (IntKind.u64.wrap (pos + 1)), pos, has, v⟩ := by
  obtain ⟨k1, k2, k3, k4, k5, k6, k7, k8, k9, k10⟩ := h.ok
  dsimp only at k1 k2 k3 k4 k5 k6 k7 k8 k9 k10
  have q2 := h.obj.at 2 (v := .int .i64 1) rfl
  have NB := Lib.hid (show b ≠ mb ∧ b ≠ ms from ⟨h.obj.ne hm.obj (by decide), h.obj.ne hm.row (by decide)⟩)
  have H := Lib.hid h
  have HM := Lib.hid hm
  have HA := Lib.hid hact
  clear h hm hact
  go_enter Try.func52, Try.ntmps52
  go_wp2_with fail
  refine (rnext_any _ b true _ H.out).mono ?_
  rintro e w2 ⟨rfl, ho⟩
  have HO := Lib.hid (ho.sub (T := [b, mb, ms]) (by simp))
  have H := Lib.hid (H.out.only ho (by simp))
  have HM := Lib.hid (HM.out.only ho (by simp) (by simp))
  clear ho q2
  go_wp2_with fail
  refine (do_act HM.out HA.out).mono ?_
  rintro e w3 ⟨rfl, ho, hm⟩
  have HO := Lib.hid ((HO.out.trans (ho.sub (by simp))).alloc (.cells #[.int .u64 x, .bool ok, .int .i64 0] 128))
  have H := Lib.hid ((H.out.only ho (by have := NB.out; simp; omega)).only ((Only.refl [] w3).alloc (.cells #[.int .u64 x, .bool ok, .int .i64 0] 128)) (by simp))
  have HM := Lib.hid (IsMem.only hm ((Only.refl [] w3).alloc (.cells #[.int .u64 x, .bool ok, .int .i64 0] 128)) (by simp) (by simp))
  have HRS := Lib.hid (Blk.new w3 128 #[.int .u64 x, .bool ok, .int .i64 0])
  have c2 := H.out.obj.at 2 (v := .int .i64 1) rfl
  have c3 := H.out.obj.at 3 (v := .int .u64 pos) rfl
  have c4 := H.out.obj.at 4 (v := .bool has) rfl
  have c5 := H.out.obj.at 5 (v := .int .u64 v) rfl
  have f2 := H.out.obj.frozen 2
  have f3 := H.out.obj.frozen 3
  have f4 := H.out.obj.frozen 4
  have f5 := H.out.obj.frozen 5
  clear ho hm
  have hmm := meth_po_awaited
  have hnn := nil_po_awaited
  have hlk := lookedTo_range x (IntKind.u64.wrap (pos + 1))
  have d2 : World.cell? (World.drew (w3.alloc (.cells #[.int .u64 x, .bool ok, .int .i64 0] 128))) ⟨b, 2, none⟩ = some (.int .i64 1) := c2
  have g2 : World.frozen? (World.drew (w3.alloc (.cells #[.int .u64 x, .bool ok, .int .i64 0] 128))) ⟨b, 2, none⟩ = false := f2
  go_wp2_with fail
  go_region_with (first
    | (go_at_call 109
       refine (poawaited_at _ pos _).mono ?_
       rintro e w4 ⟨rfl, rfl⟩)
    | (go_at_call 73
       refine (looked_at _ b x _ _ d2 g2).mono ?_
       rintro e w4 ⟨rfl, rfl⟩))
  all_goals
    go_wp2_with fail
    have HE := Lib.hid (q_end (p := true) H.out HM.out NB.out (Only.setCell (p := ⟨b, 2, none⟩) (Only.refl [b] _).drew (.inl (by simp)) (.int .i64 (lookedTo x (IntKind.u64.wrap (pos + 1))))) ⟨at_, n, lookedTo x (IntKind.u64.wrap (pos + 1)), pos, has, v⟩ (H.out.obj.set 2 (.int .i64 (lookedTo x (IntKind.u64.wrap (pos + 1))))) ⟨k1, k2, k3, k4, by dsimp only; omega, by dsimp only; omega, by dsimp only; omega, by dsimp only; omega, by dsimp only; omega, by dsimp only; omega⟩)
    have HO5 := Lib.hid (HO.out.trans ((Only.setCell (p := ⟨b, 2, none⟩) (Only.refl [b] _).drew (.inl (by simp)) (.int .i64 (lookedTo x (IntKind.u64.wrap (pos + 1))))).sub (T := [b, mb, ms]) (by simp)))
    clear c2 c3 c4 c5 f2 f3 f4 f5
    go_ret
    exact ⟨by first | (simp; done) | (simp; exact Bool.eq_iff_iff.2 (by simp)), HO5.out, HE.out⟩

set_option maxHeartbeats 4000000 in
set_option maxRecDepth 100000 in
theorem postep_won (w : World) (b mb ms n : Nat) (at_ pos v : Int) (has : Bool) (m m' : MS) (x : Int)
    (h : IsQ w b true ⟨at_, n, 2, pos, has, v⟩) (hm : IsMem w mb ms m) (hact : m.act (RQ.next true ⟨at_, n, 2, pos, has, v⟩) = (m', ⟨x, true, 0⟩)) :
    Calls Try.prog 52 #[.pointer (some ⟨b, 0, none⟩), .pointer (some ⟨mb, 0, none⟩), .iface 39 (.pointer (some ⟨b, 0, none⟩))] w fun e w' => e = .returned (.bool (decide (((3) : Int) = 5))) ∧ Only [b, mb, ms] w w' ∧ IsMem w' mb ms m' ∧ IsQ w' b true ⟨at_, n, 3, pos, has, v⟩ := by
  obtain ⟨k1, k2, k3, k4, k5, k6, k7, k8, k9, k10⟩ := h.ok
  dsimp only at k1 k2 k3 k4 k5 k6 k7 k8 k9 k10
  have q2 := h.obj.at 2 (v := .int .i64 2) rfl
  have NB := Lib.hid (show b ≠ mb ∧ b ≠ ms from ⟨h.obj.ne hm.obj (by decide), h.obj.ne hm.row (by decide)⟩)
  have H := Lib.hid h
  have HM := Lib.hid hm
  have HA := Lib.hid hact
  clear h hm hact
  go_enter Try.func52, Try.ntmps52
  go_wp2_with fail
  refine (rnext_any _ b true _ H.out).mono ?_
  rintro e w2 ⟨rfl, ho⟩
  have HO := Lib.hid (ho.sub (T := [b, mb, ms]) (by simp))
  have H := Lib.hid (H.out.only ho (by simp))
  have HM := Lib.hid (HM.out.only ho (by simp) (by simp))
  clear ho q2
  go_wp2_with fail
  refine (do_act HM.out HA.out).mono ?_
  rintro e w3 ⟨rfl, ho, hm⟩
  have HO := Lib.hid ((HO.out.trans (ho.sub (by simp))).alloc (.cells #[.int .u64 x, .bool true, .int .i64 0] 128))
  have H := Lib.hid ((H.out.only ho (by have := NB.out; simp; omega)).only ((Only.refl [] w3).alloc (.cells #[.int .u64 x, .bool true, .int .i64 0] 128)) (by simp))
  have HM := Lib.hid (IsMem.only hm ((Only.refl [] w3).alloc (.cells #[.int .u64 x, .bool true, .int .i64 0] 128)) (by simp) (by simp))
  have HRS := Lib.hid (Blk.new w3 128 #[.int .u64 x, .bool true, .int .i64 0])
  have c2 := H.out.obj.at 2 (v := .int .i64 2) rfl
  have c3 := H.out.obj.at 3 (v := .int .u64 pos) rfl
  have c4 := H.out.obj.at 4 (v := .bool has) rfl
  have c5 := H.out.obj.at 5 (v := .int .u64 v) rfl
  have f2 := H.out.obj.frozen 2
  have f3 := H.out.obj.frozen 3
  have f4 := H.out.obj.frozen 4
  have f5 := H.out.obj.frozen 5
  clear ho hm
  go_wp2_with fail
  have HE := Lib.hid (q_end (p := true) H.out HM.out NB.out (Only.setCell (p := ⟨b, 2, none⟩) (Only.setCell (p := ⟨b, 2, none⟩) (Only.refl [b] _) (.inl (by simp)) (.int .i64 0)) (.inl (by simp)) (.int .i64 3)) ⟨at_, n, 3, pos, has, v⟩ ((H.out.obj.set 2 (.int .i64 0)).set 2 (.int .i64 3)) ⟨k1, k2, k3, k4, by dsimp only; omega, by dsimp only; omega, by dsimp only; omega, by dsimp only; omega, by dsimp only; omega, by dsimp only; omega⟩)
  have HO5 := Lib.hid (HO.out.trans ((Only.setCell (p := ⟨b, 2, none⟩) (Only.setCell (p := ⟨b, 2, none⟩) (Only.refl [b] _) (.inl (by simp)) (.int .i64 0)) (.inl (by simp)) (.int .i64 3)).sub (T := [b, mb, ms]) (by simp)))
  clear c2 c3 c4 c5 f2 f3 f4 f5
  go_ret
  exact ⟨by first | (simp; done) | (simp; exact Bool.eq_iff_iff.2 (by simp)), HO5.out, HE.out⟩

set_option maxHeartbeats 4000000 in
set_option maxRecDepth 100000 in
theorem postep_lost (w : World) (b mb ms n : Nat) (at_ pos v : Int) (has : Bool) (m m' : MS) (x : Int)
    (h : IsQ w b true ⟨at_, n, 2, pos, has, v⟩) (hm : IsMem w mb ms m) (hact : m.act (RQ.next true ⟨at_, n, 2, pos, has, v⟩) = (m', ⟨x, false, 0⟩)) :
    Calls Try.prog 52 #[.pointer (some ⟨b, 0, none⟩), .pointer (some ⟨mb, 0, none⟩), .iface 39 (.pointer (some ⟨b, 0, none⟩))] w fun e w' => e = .returned (.bool (decide (((0) : Int) = 5))) ∧ Only [b, mb, ms] w w' ∧ IsMem w' mb ms m' ∧ IsQ w' b true ⟨at_, n, 0, pos, has, v⟩ := by
  obtain ⟨k1, k2, k3, k4, k5, k6, k7, k8, k9, k10⟩ := h.ok
  dsimp only at k1 k2 k3 k4 k5 k6 k7 k8 k9 k10
  have q2 := h.obj.at 2 (v := .int .i64 2) rfl
  have NB := Lib.hid (show b ≠ mb ∧ b ≠ ms from ⟨h.obj.ne hm.obj (by decide), h.obj.ne hm.row (by decide)⟩)
  have H := Lib.hid h
  have HM := Lib.hid hm
  have HA := Lib.hid hact
  clear h hm hact
  go_enter Try.func52, Try.ntmps52
  go_wp2_with fail
  refine (rnext_any _ b true _ H.out).mono ?_
  rintro e w2 ⟨rfl, ho⟩
  have HO := Lib.hid (ho.sub (T := [b, mb, ms]) (by simp))
  have H := Lib.hid (H.out.only ho (by simp))
  have HM := Lib.hid (HM.out.only ho (by simp) (by simp))
  clear ho q2
  go_wp2_with fail
  refine (do_act HM.out HA.out).mono ?_
  rintro e w3 ⟨rfl, ho, hm⟩
  have HO := Lib.hid ((HO.out.trans (ho.sub (by simp))).alloc (.cells #[.int .u64 x, .bool false, .int .i64 0] 128))
  have H := Lib.hid ((H.out.only ho (by have := NB.out; simp; omega)).only ((Only.refl [] w3).alloc (.cells #[.int .u64 x, .bool false, .int .i64 0] 128)) (by simp))
  have HM := Lib.hid (IsMem.only hm ((Only.refl [] w3).alloc (.cells #[.int .u64 x, .bool false, .int .i64 0] 128)) (by simp) (by simp))
  have HRS := Lib.hid (Blk.new w3 128 #[.int .u64 x, .bool false, .int .i64 0])
  have c2 := H.out.obj.at 2 (v := .int .i64 2) rfl
  have c3 := H.out.obj.at 3 (v := .int .u64 pos) rfl
  have c4 := H.out.obj.at 4 (v := .bool has) rfl
  have c5 := H.out.obj.at 5 (v := .int .u64 v) rfl
  have f2 := H.out.obj.frozen 2
  have f3 := H.out.obj.frozen 3
  have f4 := H.out.obj.frozen 4
  have f5 := H.out.obj.frozen 5
  clear ho hm
  go_wp2_with fail
  have HE := Lib.hid (q_end (p := true) H.out HM.out NB.out (Only.setCell (p := ⟨b, 2, none⟩) (Only.refl [b] _) (.inl (by simp)) (.int .i64 0)) ⟨at_, n, 0, pos, has, v⟩ (H.out.obj.set 2 (.int .i64 0)) ⟨k1, k2, k3, k4, by dsimp only; omega, by dsimp only; omega, by dsimp only; omega, by dsimp only; omega, by dsimp only; omega, by dsimp only; omega⟩)
  have HO5 := Lib.hid (HO.out.trans ((Only.setCell (p := ⟨b, 2, none⟩) (Only.refl [b] _) (.inl (by simp)) (.int .i64 0)).sub (T := [b, mb, ms]) (by simp)))
  clear c2 c3 c4 c5 f2 f3 f4 f5
  go_ret
  exact ⟨by first | (simp; done) | (simp; exact Bool.eq_iff_iff.2 (by simp)), HO5.out, HE.out⟩

set_option maxHeartbeats 4000000 in
set_option maxRecDepth 100000 in
theorem postep_value (w : World) (b mb ms n : Nat) (at_ pos v : Int) (has : Bool) (m m' : MS) (x : Int) (ok : Bool) (x0 : 0 ≤ x) (x1 : x < 18446744073709551616)
    (h : IsQ w b true ⟨at_, n, 3, pos, has, v⟩) (hm : IsMem w mb ms m) (hact : m.act (RQ.next true ⟨at_, n, 3, pos, has, v⟩) = (m', ⟨x, ok, 0⟩)) :
    Calls Try.prog 52 #[.pointer (some ⟨b, 0, none⟩), .pointer (some ⟨mb, 0, none⟩), .iface 39 (.pointer (some ⟨b, 0, none⟩))] w fun e w' => e = .returned (.bool (decide (((4) : Int) = 5))) ∧ Only [b, mb, ms] w w' ∧ IsMem w' mb ms m' ∧ IsQ w' b true ⟨at_, n, 4, pos, has, x⟩ := by
  obtain ⟨k1, k2, k3, k4, k5, k6, k7, k8, k9, k10⟩ := h.ok
  dsimp only at k1 k2 k3 k4 k5 k6 k7 k8 k9 k10
  have q2 := h.obj.at 2 (v := .int .i64 3) rfl
  have NB := Lib.hid (show b ≠ mb ∧ b ≠ ms from ⟨h.obj.ne hm.obj (by decide), h.obj.ne hm.row (by decide)⟩)
  have H := Lib.hid h
  have HM := Lib.hid hm
  have HA := Lib.hid hact
  clear h hm hact
  go_enter Try.func52, Try.ntmps52
  go_wp2_with fail
  refine (rnext_any _ b true _ H.out).mono ?_
  rintro e w2 ⟨rfl, ho⟩
  have HO := Lib.hid (ho.sub (T := [b, mb, ms]) (by simp))
  have H := Lib.hid (H.out.only ho (by simp))
  have HM := Lib.hid (HM.out.only ho (by simp) (by simp))
  clear ho q2
  go_wp2_with fail
  refine (do_act HM.out HA.out).mono ?_
  rintro e w3 ⟨rfl, ho, hm⟩
  have HO := Lib.hid ((HO.out.trans (ho.sub (by simp))).alloc (.cells #[.int .u64 x, .bool ok, .int .i64 0] 128))
  have H := Lib.hid ((H.out.only ho (by have := NB.out; simp; omega)).only ((Only.refl [] w3).alloc (.cells #[.int .u64 x, .bool ok, .int .i64 0] 128)) (by simp))
  have HM := Lib.hid (IsMem.only hm ((Only.refl [] w3).alloc (.cells #[.int .u64 x, .bool ok, .int .i64 0] 128)) (by simp) (by simp))
  have HRS := Lib.hid (Blk.new w3 128 #[.int .u64 x, .bool ok, .int .i64 0])
  have c2 := H.out.obj.at 2 (v := .int .i64 3) rfl
  have c3 := H.out.obj.at 3 (v := .int .u64 pos) rfl
  have c4 := H.out.obj.at 4 (v := .bool has) rfl
  have c5 := H.out.obj.at 5 (v := .int .u64 v) rfl
  have f2 := H.out.obj.frozen 2
  have f3 := H.out.obj.frozen 3
  have f4 := H.out.obj.frozen 4
  have f5 := H.out.obj.frozen 5
  clear ho hm
  have hmm := meth_po_took
  go_wp2_with fail
  refine (potook_at _ b x _ c5 f5).mono ?_
  rintro e w4 ⟨rfl, rfl⟩
  go_wp2_with fail
  have HE := Lib.hid (q_end (p := true) H.out HM.out NB.out (Only.setCell (p := ⟨b, 2, none⟩) (Only.setCell (p := ⟨b, 5, none⟩) (Only.refl [b] _) (.inl (by simp)) (.int .u64 x)) (.inl (by simp)) (.int .i64 4)) ⟨at_, n, 4, pos, has, x⟩ ((H.out.obj.set 5 (.int .u64 x)).set 2 (.int .i64 4)) ⟨k1, k2, k3, k4, by dsimp only; omega, by dsimp only; omega, by dsimp only; omega, by dsimp only; omega, by dsimp only; omega, by dsimp only; omega⟩)
  have HO5 := Lib.hid (HO.out.trans ((Only.setCell (p := ⟨b, 2, none⟩) (Only.setCell (p := ⟨b, 5, none⟩) (Only.refl [b] _) (.inl (by simp)) (.int .u64 x)) (.inl (by simp)) (.int .i64 4)).sub (T := [b, mb, ms]) (by simp)))
  clear c2 c3 c4 c5 f2 f3 f4 f5
  go_ret
  exact ⟨by first | (simp; done) | (simp; exact Bool.eq_iff_iff.2 (by simp)), HO5.out, HE.out⟩

set_option maxHeartbeats 4000000 in
set_option maxRecDepth 100000 in
theorem postep_free (w : World) (b mb ms n : Nat) (at_ pos v : Int) (has : Bool) (m m' : MS) (x : Int) (ok : Bool)
    (h : IsQ w b true ⟨at_, n, 4, pos, has, v⟩) (hm : IsMem w mb ms m) (hact : m.act (RQ.next true ⟨at_, n, 4, pos, has, v⟩) = (m', ⟨x, ok, 0⟩)) :
    Calls Try.prog 52 #[.pointer (some ⟨b, 0, none⟩), .pointer (some ⟨mb, 0, none⟩), .iface 39 (.pointer (some ⟨b, 0, none⟩))] w fun e w' => e = .returned (.bool (decide (((5) : Int) = 5))) ∧ Only [b, mb, ms] w w' ∧ IsMem w' mb ms m' ∧ IsQ w' b true ⟨at_, n, 5, pos, true, v⟩ := by
  obtain ⟨k1, k2, k3, k4, k5, k6, k7, k8, k9, k10⟩ := h.ok
  dsimp only at k1 k2 k3 k4 k5 k6 k7 k8 k9 k10
  have q2 := h.obj.at 2 (v := .int .i64 4) rfl
  have NB := Lib.hid (show b ≠ mb ∧ b ≠ ms from ⟨h.obj.ne hm.obj (by decide), h.obj.ne hm.row (by decide)⟩)
  have H := Lib.hid h
  have HM := Lib.hid hm
  have HA := Lib.hid hact
  clear h hm hact
  go_enter Try.func52, Try.ntmps52
  go_wp2_with fail
  refine (rnext_any _ b true _ H.out).mono ?_
  rintro e w2 ⟨rfl, ho⟩
  have HO := Lib.hid (ho.sub (T := [b, mb, ms]) (by simp))
  have H := Lib.hid (H.out.only ho (by simp))
  have HM := Lib.hid (HM.out.only ho (by simp) (by simp))
  clear ho q2
  go_wp2_with fail
  refine (do_act HM.out HA.out).mono ?_
  rintro e w3 ⟨rfl, ho, hm⟩
  have HO := Lib.hid ((HO.out.trans (ho.sub (by simp))).alloc (.cells #[.int .u64 x, .bool ok, .int .i64 0] 128))
  have H := Lib.hid ((H.out.only ho (by have := NB.out; simp; omega)).only ((Only.refl [] w3).alloc (.cells #[.int .u64 x, .bool ok, .int .i64 0] 128)) (by simp))
  have HM := Lib.hid (IsMem.only hm ((Only.refl [] w3).alloc (.cells #[.int .u64 x, .bool ok, .int .i64 0] 128)) (by simp) (by simp))
  have HRS := Lib.hid (Blk.new w3 128 #[.int .u64 x, .bool ok, .int .i64 0])
  have c2 := H.out.obj.at 2 (v := .int .i64 4) rfl
  have c3 := H.out.obj.at 3 (v := .int .u64 pos) rfl
  have c4 := H.out.obj.at 4 (v := .bool has) rfl
  have c5 := H.out.obj.at 5 (v := .int .u64 v) rfl
  have f2 := H.out.obj.frozen 2
  have f3 := H.out.obj.frozen 3
  have f4 := H.out.obj.frozen 4
  have f5 := H.out.obj.frozen 5
  clear ho hm
  go_wp2_with fail
  have HE := Lib.hid (q_end (p := true) H.out HM.out NB.out (Only.setCell (p := ⟨b, 4, none⟩) (Only.setCell (p := ⟨b, 2, none⟩) (Only.refl [b] _) (.inl (by simp)) (.int .i64 5)) (.inl (by simp)) (.bool true)) ⟨at_, n, 5, pos, true, v⟩ ((H.out.obj.set 2 (.int .i64 5)).set 4 (.bool true)) ⟨k1, k2, k3, k4, by dsimp only; omega, by dsimp only; omega, by dsimp only; omega, by dsimp only; omega, by dsimp only; omega, by dsimp only; omega⟩)
  have HO5 := Lib.hid (HO.out.trans ((Only.setCell (p := ⟨b, 4, none⟩) (Only.setCell (p := ⟨b, 2, none⟩) (Only.refl [b] _) (.inl (by simp)) (.int .i64 5)) (.inl (by simp)) (.bool true)).sub (T := [b, mb, ms]) (by simp)))
  clear c2 c3 c4 c5 f2 f3 f4 f5
  go_ret
  exact ⟨by first | (simp; done) | (simp; exact Bool.eq_iff_iff.2 (by simp)), HO5.out, HE.out⟩

end Go.Proofs.Ytoecoijmkjhkgaa
