/- The deque: a task's step. Written by deqstep. -/
import Derived.Test.YtoecoijmkjhkgaaDeq5
namespace Go.Proofs.Ytoecoijmkjhkgaa
open Go.RowKit

theorem dq_ne {w : World} {b kb mb ms : Nat} {s : DQ} {m : MS} (h : IsD w b kb s) (hm : IsMem w mb ms m) : b ≠ mb ∧ b ≠ ms ∧ kb ≠ mb ∧ kb ≠ ms ∧ kb ≠ b := by
  have hk := h.ok.k2
  have e : dkT s.k ≠ 102 ∧ dkT s.k ≠ 38 ∧ dkT s.k ≠ 126 := by
    rcases (show s.k = 0 ∨ s.k = 1 ∨ s.k = 2 by omega) with e | e | e <;> rw [e] <;> decide
  exact ⟨h.obj.ne hm.obj (by decide), h.obj.ne hm.row (by decide), h.kind.ne hm.obj e.1, h.kind.ne hm.row e.2.1, h.kind.ne h.obj e.2.2⟩

set_option maxHeartbeats 2000000 in
set_option maxRecDepth 100000 in
theorem dstep_done (w : World) (b kb : Nat) (s : DQ) (mv : Value) (h : IsD w b kb s) (hd : s.done = true) : Calls Try.prog 35 #[.pointer (some ⟨b, 0, none⟩), mv] w fun e w' => e = .returned (.bool true) ∧ w = w' := by
  have c5 := h.obj.at 5 (v := .bool s.done) rfl
  rw [hd] at c5
  have c2 := h.obj.at 2 (v := .iface (dkP s.k) (.pointer (some ⟨kb, 0, none⟩))) rfl
  clear h hd
  go_enter Try.func35, Try.ntmps35
  go_wp2
  go_ret
  exact ⟨rfl, rfl⟩

set_option maxHeartbeats 4000000 in
set_option maxRecDepth 100000 in
theorem dstep_push_err (w : World) (b kb mb ms n : Nat) (at_ turn v top bot x er : Int) (has got ok : Bool) (m m' : MS) (he : ¬ er = 0) (h : IsD w b kb ⟨at_, n, 0, turn, has, false, v, top, bot, got⟩) (hm : IsMem w mb ms m) (hact : m.act (DQ.next ⟨at_, n, 0, turn, has, false, v, top, bot, got⟩) = (m', ⟨x, ok, er⟩)) :
    Calls Try.prog 35 #[.pointer (some ⟨b, 0, none⟩), .pointer (some ⟨mb, 0, none⟩)] w (DStepped w b kb mb ms (⟨at_, n, 0, turn, false, true, v, top, bot, got⟩, m')) := by
  unfold DStepped
  have heb : (er != 0) = true := by simpa using he
  clear he
  have NB := Lib.hid (dq_ne h hm)
  have H := Lib.hid h
  have HM := Lib.hid hm
  have HA := Lib.hid hact
  have HN := Lib.hid (dnext_any w b kb ⟨at_, n, 0, turn, has, false, v, top, bot, got⟩ h rfl)
  have c2 := h.obj.at 2 (v := .iface 120 (.pointer (some ⟨kb, 0, none⟩))) rfl
  have c5 := h.obj.at 5 (v := .bool false) rfl
  clear h hm hact
  go_enter Try.func35, Try.ntmps35
  go_wp2_with fail
  refine HN.out.mono ?_
  rintro e w2 ⟨rfl, ho⟩
  have HO := Lib.hid (ho.sub (T := [b, kb, mb, ms]) (by simp))
  have H := Lib.hid (H.out.only ho (by simp) (by simp))
  have HM := Lib.hid (IsMem.only HM.out ho (by simp) (by simp))
  clear ho c2 c5
  go_wp2_with fail
  refine (do_act HM.out HA.out).mono ?_
  rintro e w3 ⟨rfl, ho, hm⟩
  have HO := Lib.hid ((HO.out.trans (ho.sub (by simp))).alloc (.cells #[.int .u64 x, .bool ok, .int .i64 er] 128))
  have H := Lib.hid ((H.out.only ho (by have := NB.out; simp; omega) (by have := NB.out; simp; omega)).only ((Only.refl [] w3).alloc (.cells #[.int .u64 x, .bool ok, .int .i64 er] 128)) (by simp) (by simp))
  have HM := Lib.hid (IsMem.only hm ((Only.refl [] w3).alloc (.cells #[.int .u64 x, .bool ok, .int .i64 er] 128)) (by simp) (by simp))
  have HRS := Lib.hid (Blk.new w3 128 #[.int .u64 x, .bool ok, .int .i64 er])
  have r2 := HRS.out.at 2 (v := .int .i64 er) rfl
  have c2 := H.out.obj.at 2 (v := .iface 120 (.pointer (some ⟨kb, 0, none⟩))) rfl
  have c4 := H.out.obj.at 4 (v := .bool has) rfl
  have c5 := H.out.obj.at 5 (v := .bool false) rfl
  have f4 := H.out.obj.frozen 4
  have f5 := H.out.obj.frozen 5
  clear ho hm
  go_wp2_with fail
  refine (dqend_at _ b false (.bool has) (.bool false) c4 c5 f4 f5).mono ?_
  rintro e w5 ⟨rfl, rfl⟩
  have HON := Lib.hid (Only.setCell (p := ⟨b, 4, none⟩) (Only.setCell (p := ⟨b, 5, none⟩) (Only.refl [b] (w3.alloc (.cells #[.int .u64 x, .bool ok, .int .i64 er] 128))) (.inl (by simp)) (.bool true)) (.inl (by simp)) (.bool false))
  have hne2 : b ≠ kb := fun e => NB.out.2.2.2.2 e.symm
  have HE : Hid (IsD _ b kb ⟨at_, n, 0, turn, false, true, v, top, bot, got⟩) := Lib.hid ⟨(H.out.obj.set 5 (.bool true)).set 4 (.bool false), Blk.far (p := ⟨b, 4, none⟩) (Blk.far (p := ⟨b, 5, none⟩) H.out.kind NB.out.2.2.2.2 (.bool true)) NB.out.2.2.2.2 (.bool false), H.out.ok.a0, H.out.ok.a1, H.out.ok.n1, H.out.ok.n64, H.out.ok.k2, H.out.ok.v0, H.out.ok.v1, H.out.ok.t0, H.out.ok.t1, H.out.ok.b0, H.out.ok.b1, H.out.ok.u0, by simp, H.out.ok.u2⟩
  clear c2 c4 c5 f4 f5 r2 hne2
  go_wp2_with fail
  go_ret
  exact ⟨rfl, HO.out.trans (HON.out.sub (by simp)), HM.out.only HON.out (by have := NB.out; simp; omega) (by have := NB.out; simp; omega), HE.out⟩

set_option maxHeartbeats 4000000 in
set_option maxRecDepth 100000 in
theorem dstep_push_ok (w : World) (b kb mb ms n : Nat) (at_ turn v top bot x : Int) (has got ok : Bool) (m m' : MS) (x0 : 0 ≤ x) (x1 : x < 18446744073709551616) (h : IsD w b kb ⟨at_, n, 0, turn, has, false, v, top, bot, got⟩) (hm : IsMem w mb ms m) (hact : m.act (DQ.next ⟨at_, n, 0, turn, has, false, v, top, bot, got⟩) = (m', ⟨x, ok, 0⟩)) :
    Calls Try.prog 35 #[.pointer (some ⟨b, 0, none⟩), .pointer (some ⟨mb, 0, none⟩)] w (DStepped w b kb mb ms ((DQ.took ⟨at_, n, 0, turn, has, false, v, top, bot, got⟩ x ok), m')) := by
  unfold DStepped
  have NB := Lib.hid (dq_ne h hm)
  have H := Lib.hid h
  have HM := Lib.hid hm
  have HA := Lib.hid hact
  have HN := Lib.hid (dnext_any w b kb ⟨at_, n, 0, turn, has, false, v, top, bot, got⟩ h rfl)
  have c2 := h.obj.at 2 (v := .iface 120 (.pointer (some ⟨kb, 0, none⟩))) rfl
  have c5 := h.obj.at 5 (v := .bool false) rfl
  clear h hm hact
  go_enter Try.func35, Try.ntmps35
  go_wp2_with fail
  refine HN.out.mono ?_
  rintro e w2 ⟨rfl, ho⟩
  have HO := Lib.hid (ho.sub (T := [b, kb, mb, ms]) (by simp))
  have H := Lib.hid (H.out.only ho (by simp) (by simp))
  have HM := Lib.hid (IsMem.only HM.out ho (by simp) (by simp))
  clear ho c2 c5
  go_wp2_with fail
  refine (do_act HM.out HA.out).mono ?_
  rintro e w3 ⟨rfl, ho, hm⟩
  have HO := Lib.hid ((HO.out.trans (ho.sub (by simp))).alloc (.cells #[.int .u64 x, .bool ok, .int .i64 0] 128))
  have H := Lib.hid ((H.out.only ho (by have := NB.out; simp; omega) (by have := NB.out; simp; omega)).only ((Only.refl [] w3).alloc (.cells #[.int .u64 x, .bool ok, .int .i64 0] 128)) (by simp) (by simp))
  have HM := Lib.hid (IsMem.only hm ((Only.refl [] w3).alloc (.cells #[.int .u64 x, .bool ok, .int .i64 0] 128)) (by simp) (by simp))
  have HRS := Lib.hid (Blk.new w3 128 #[.int .u64 x, .bool ok, .int .i64 0])
  have r2 := HRS.out.at 2 (v := .int .i64 0) rfl
  have c2 := H.out.obj.at 2 (v := .iface 120 (.pointer (some ⟨kb, 0, none⟩))) rfl
  have c4 := H.out.obj.at 4 (v := .bool has) rfl
  have c5 := H.out.obj.at 5 (v := .bool false) rfl
  have f4 := H.out.obj.frozen 4
  have f5 := H.out.obj.frozen 5
  clear ho hm
  have hmt := meth_took_push
  have r0 := HRS.out.at 0 (v := .int .u64 x) rfl
  have r1 := HRS.out.at 1 (v := .bool ok) rfl
  have HD : Hid (IsD (World.drew (w3.alloc (.cells #[.int .u64 x, .bool ok, .int .i64 0] 128))) b kb ⟨at_, n, 0, turn, has, false, v, top, bot, got⟩) := Lib.hid ⟨H.out.obj, H.out.kind, H.out.ok⟩
  clear c4 f4 f5
  go_wp2_with fail
  go_region_with (go_at_call 116
                  refine (took_any _ b kb ⟨at_, n, 0, turn, has, false, v, top, bot, got⟩ x ok HD.out rfl x0 x1).mono ?_
                  rintro e w5 ⟨rfl, ho, hd⟩
                  have HO5 := Lib.hid (HO.out.drew.trans (ho.sub (T := [b, kb, mb, ms]) (by simp)))
                  have HM5 := Lib.hid (IsMem.only (w := World.drew (w3.alloc (.cells #[.int .u64 x, .bool ok, .int .i64 0] 128))) (show IsMem (World.drew (w3.alloc (.cells #[.int .u64 x, .bool ok, .int .i64 0] 128))) mb ms m' from ⟨HM.out.obj, HM.out.row, HM.out.len, HM.out.max⟩) ho (by have := NB.out; simp; omega) (by have := NB.out; simp; omega))
                  have HE := Lib.hid hd
                  have y5 := hd.obj.at 5 (v := .bool (DQ.took ⟨at_, n, 0, turn, has, false, v, top, bot, got⟩ x ok).done) rfl
                  clear ho hd)
  all_goals
    go_wp2_with fail
    go_ret
    exact ⟨rfl, HO5.out, HM5.out, HE.out⟩

set_option maxHeartbeats 4000000 in
set_option maxRecDepth 100000 in
theorem dstep_pop_err (w : World) (b kb mb ms n : Nat) (at_ turn v top bot x er : Int) (has got ok : Bool) (m m' : MS) (he : ¬ er = 0) (h : IsD w b kb ⟨at_, n, 1, turn, has, false, v, top, bot, got⟩) (hm : IsMem w mb ms m) (hact : m.act (DQ.next ⟨at_, n, 1, turn, has, false, v, top, bot, got⟩) = (m', ⟨x, ok, er⟩)) :
    Calls Try.prog 35 #[.pointer (some ⟨b, 0, none⟩), .pointer (some ⟨mb, 0, none⟩)] w (DStepped w b kb mb ms (⟨at_, n, 1, turn, false, true, v, top, bot, got⟩, m')) := by
  unfold DStepped
  have heb : (er != 0) = true := by simpa using he
  clear he
  have NB := Lib.hid (dq_ne h hm)
  have H := Lib.hid h
  have HM := Lib.hid hm
  have HA := Lib.hid hact
  have HN := Lib.hid (dnext_any w b kb ⟨at_, n, 1, turn, has, false, v, top, bot, got⟩ h rfl)
  have c2 := h.obj.at 2 (v := .iface 114 (.pointer (some ⟨kb, 0, none⟩))) rfl
  have c5 := h.obj.at 5 (v := .bool false) rfl
  clear h hm hact
  go_enter Try.func35, Try.ntmps35
  go_wp2_with fail
  refine HN.out.mono ?_
  rintro e w2 ⟨rfl, ho⟩
  have HO := Lib.hid (ho.sub (T := [b, kb, mb, ms]) (by simp))
  have H := Lib.hid (H.out.only ho (by simp) (by simp))
  have HM := Lib.hid (IsMem.only HM.out ho (by simp) (by simp))
  clear ho c2 c5
  go_wp2_with fail
  refine (do_act HM.out HA.out).mono ?_
  rintro e w3 ⟨rfl, ho, hm⟩
  have HO := Lib.hid ((HO.out.trans (ho.sub (by simp))).alloc (.cells #[.int .u64 x, .bool ok, .int .i64 er] 128))
  have H := Lib.hid ((H.out.only ho (by have := NB.out; simp; omega) (by have := NB.out; simp; omega)).only ((Only.refl [] w3).alloc (.cells #[.int .u64 x, .bool ok, .int .i64 er] 128)) (by simp) (by simp))
  have HM := Lib.hid (IsMem.only hm ((Only.refl [] w3).alloc (.cells #[.int .u64 x, .bool ok, .int .i64 er] 128)) (by simp) (by simp))
  have HRS := Lib.hid (Blk.new w3 128 #[.int .u64 x, .bool ok, .int .i64 er])
  have r2 := HRS.out.at 2 (v := .int .i64 er) rfl
  have c2 := H.out.obj.at 2 (v := .iface 114 (.pointer (some ⟨kb, 0, none⟩))) rfl
  have c4 := H.out.obj.at 4 (v := .bool has) rfl
  have c5 := H.out.obj.at 5 (v := .bool false) rfl
  have f4 := H.out.obj.frozen 4
  have f5 := H.out.obj.frozen 5
  clear ho hm
  go_wp2_with fail
  refine (dqend_at _ b false (.bool has) (.bool false) c4 c5 f4 f5).mono ?_
  rintro e w5 ⟨rfl, rfl⟩
  have HON := Lib.hid (Only.setCell (p := ⟨b, 4, none⟩) (Only.setCell (p := ⟨b, 5, none⟩) (Only.refl [b] (w3.alloc (.cells #[.int .u64 x, .bool ok, .int .i64 er] 128))) (.inl (by simp)) (.bool true)) (.inl (by simp)) (.bool false))
  have hne2 : b ≠ kb := fun e => NB.out.2.2.2.2 e.symm
  have HE : Hid (IsD _ b kb ⟨at_, n, 1, turn, false, true, v, top, bot, got⟩) := Lib.hid ⟨(H.out.obj.set 5 (.bool true)).set 4 (.bool false), Blk.far (p := ⟨b, 4, none⟩) (Blk.far (p := ⟨b, 5, none⟩) H.out.kind NB.out.2.2.2.2 (.bool true)) NB.out.2.2.2.2 (.bool false), H.out.ok.a0, H.out.ok.a1, H.out.ok.n1, H.out.ok.n64, H.out.ok.k2, H.out.ok.v0, H.out.ok.v1, H.out.ok.t0, H.out.ok.t1, H.out.ok.b0, H.out.ok.b1, H.out.ok.u0, by simp, H.out.ok.u2⟩
  clear c2 c4 c5 f4 f5 r2 hne2
  go_wp2_with fail
  go_ret
  exact ⟨rfl, HO.out.trans (HON.out.sub (by simp)), HM.out.only HON.out (by have := NB.out; simp; omega) (by have := NB.out; simp; omega), HE.out⟩

set_option maxHeartbeats 4000000 in
set_option maxRecDepth 100000 in
theorem dstep_pop_ok (w : World) (b kb mb ms n : Nat) (at_ turn v top bot x : Int) (has got ok : Bool) (m m' : MS) (x0 : 0 ≤ x) (x1 : x < 18446744073709551616) (h : IsD w b kb ⟨at_, n, 1, turn, has, false, v, top, bot, got⟩) (hm : IsMem w mb ms m) (hact : m.act (DQ.next ⟨at_, n, 1, turn, has, false, v, top, bot, got⟩) = (m', ⟨x, ok, 0⟩)) :
    Calls Try.prog 35 #[.pointer (some ⟨b, 0, none⟩), .pointer (some ⟨mb, 0, none⟩)] w (DStepped w b kb mb ms ((DQ.took ⟨at_, n, 1, turn, has, false, v, top, bot, got⟩ x ok), m')) := by
  unfold DStepped
  have NB := Lib.hid (dq_ne h hm)
  have H := Lib.hid h
  have HM := Lib.hid hm
  have HA := Lib.hid hact
  have HN := Lib.hid (dnext_any w b kb ⟨at_, n, 1, turn, has, false, v, top, bot, got⟩ h rfl)
  have c2 := h.obj.at 2 (v := .iface 114 (.pointer (some ⟨kb, 0, none⟩))) rfl
  have c5 := h.obj.at 5 (v := .bool false) rfl
  clear h hm hact
  go_enter Try.func35, Try.ntmps35
  go_wp2_with fail
  refine HN.out.mono ?_
  rintro e w2 ⟨rfl, ho⟩
  have HO := Lib.hid (ho.sub (T := [b, kb, mb, ms]) (by simp))
  have H := Lib.hid (H.out.only ho (by simp) (by simp))
  have HM := Lib.hid (IsMem.only HM.out ho (by simp) (by simp))
  clear ho c2 c5
  go_wp2_with fail
  refine (do_act HM.out HA.out).mono ?_
  rintro e w3 ⟨rfl, ho, hm⟩
  have HO := Lib.hid ((HO.out.trans (ho.sub (by simp))).alloc (.cells #[.int .u64 x, .bool ok, .int .i64 0] 128))
  have H := Lib.hid ((H.out.only ho (by have := NB.out; simp; omega) (by have := NB.out; simp; omega)).only ((Only.refl [] w3).alloc (.cells #[.int .u64 x, .bool ok, .int .i64 0] 128)) (by simp) (by simp))
  have HM := Lib.hid (IsMem.only hm ((Only.refl [] w3).alloc (.cells #[.int .u64 x, .bool ok, .int .i64 0] 128)) (by simp) (by simp))
  have HRS := Lib.hid (Blk.new w3 128 #[.int .u64 x, .bool ok, .int .i64 0])
  have r2 := HRS.out.at 2 (v := .int .i64 0) rfl
  have c2 := H.out.obj.at 2 (v := .iface 114 (.pointer (some ⟨kb, 0, none⟩))) rfl
  have c4 := H.out.obj.at 4 (v := .bool has) rfl
  have c5 := H.out.obj.at 5 (v := .bool false) rfl
  have f4 := H.out.obj.frozen 4
  have f5 := H.out.obj.frozen 5
  clear ho hm
  have hmt := meth_took_pop
  have r0 := HRS.out.at 0 (v := .int .u64 x) rfl
  have r1 := HRS.out.at 1 (v := .bool ok) rfl
  have HD : Hid (IsD (World.drew (w3.alloc (.cells #[.int .u64 x, .bool ok, .int .i64 0] 128))) b kb ⟨at_, n, 1, turn, has, false, v, top, bot, got⟩) := Lib.hid ⟨H.out.obj, H.out.kind, H.out.ok⟩
  clear c4 f4 f5
  go_wp2_with fail
  go_region_with (go_at_call 114
                  refine (took_any _ b kb ⟨at_, n, 1, turn, has, false, v, top, bot, got⟩ x ok HD.out rfl x0 x1).mono ?_
                  rintro e w5 ⟨rfl, ho, hd⟩
                  have HO5 := Lib.hid (HO.out.drew.trans (ho.sub (T := [b, kb, mb, ms]) (by simp)))
                  have HM5 := Lib.hid (IsMem.only (w := World.drew (w3.alloc (.cells #[.int .u64 x, .bool ok, .int .i64 0] 128))) (show IsMem (World.drew (w3.alloc (.cells #[.int .u64 x, .bool ok, .int .i64 0] 128))) mb ms m' from ⟨HM.out.obj, HM.out.row, HM.out.len, HM.out.max⟩) ho (by have := NB.out; simp; omega) (by have := NB.out; simp; omega))
                  have HE := Lib.hid hd
                  have y5 := hd.obj.at 5 (v := .bool (DQ.took ⟨at_, n, 1, turn, has, false, v, top, bot, got⟩ x ok).done) rfl
                  clear ho hd)
  all_goals
    go_wp2_with fail
    go_ret
    exact ⟨rfl, HO5.out, HM5.out, HE.out⟩

set_option maxHeartbeats 4000000 in
set_option maxRecDepth 100000 in
theorem dstep_steal_err (w : World) (b kb mb ms n : Nat) (at_ turn v top bot x er : Int) (has got ok : Bool) (m m' : MS) (he : ¬ er = 0) (h : IsD w b kb ⟨at_, n, 2, turn, has, false, v, top, bot, got⟩) (hm : IsMem w mb ms m) (hact : m.act (DQ.next ⟨at_, n, 2, turn, has, false, v, top, bot, got⟩) = (m', ⟨x, ok, er⟩)) :
    Calls Try.prog 35 #[.pointer (some ⟨b, 0, none⟩), .pointer (some ⟨mb, 0, none⟩)] w (DStepped w b kb mb ms (⟨at_, n, 2, turn, false, true, v, top, bot, got⟩, m')) := by
  unfold DStepped
  have heb : (er != 0) = true := by simpa using he
  clear he
  have NB := Lib.hid (dq_ne h hm)
  have H := Lib.hid h
  have HM := Lib.hid hm
  have HA := Lib.hid hact
  have HN := Lib.hid (dnext_any w b kb ⟨at_, n, 2, turn, has, false, v, top, bot, got⟩ h rfl)
  have c2 := h.obj.at 2 (v := .iface 117 (.pointer (some ⟨kb, 0, none⟩))) rfl
  have c5 := h.obj.at 5 (v := .bool false) rfl
  clear h hm hact
  go_enter Try.func35, Try.ntmps35
  go_wp2_with fail
  refine HN.out.mono ?_
  rintro e w2 ⟨rfl, ho⟩
  have HO := Lib.hid (ho.sub (T := [b, kb, mb, ms]) (by simp))
  have H := Lib.hid (H.out.only ho (by simp) (by simp))
  have HM := Lib.hid (IsMem.only HM.out ho (by simp) (by simp))
  clear ho c2 c5
  go_wp2_with fail
  refine (do_act HM.out HA.out).mono ?_
  rintro e w3 ⟨rfl, ho, hm⟩
  have HO := Lib.hid ((HO.out.trans (ho.sub (by simp))).alloc (.cells #[.int .u64 x, .bool ok, .int .i64 er] 128))
  have H := Lib.hid ((H.out.only ho (by have := NB.out; simp; omega) (by have := NB.out; simp; omega)).only ((Only.refl [] w3).alloc (.cells #[.int .u64 x, .bool ok, .int .i64 er] 128)) (by simp) (by simp))
  have HM := Lib.hid (IsMem.only hm ((Only.refl [] w3).alloc (.cells #[.int .u64 x, .bool ok, .int .i64 er] 128)) (by simp) (by simp))
  have HRS := Lib.hid (Blk.new w3 128 #[.int .u64 x, .bool ok, .int .i64 er])
  have r2 := HRS.out.at 2 (v := .int .i64 er) rfl
  have c2 := H.out.obj.at 2 (v := .iface 117 (.pointer (some ⟨kb, 0, none⟩))) rfl
  have c4 := H.out.obj.at 4 (v := .bool has) rfl
  have c5 := H.out.obj.at 5 (v := .bool false) rfl
  have f4 := H.out.obj.frozen 4
  have f5 := H.out.obj.frozen 5
  clear ho hm
  go_wp2_with fail
  refine (dqend_at _ b false (.bool has) (.bool false) c4 c5 f4 f5).mono ?_
  rintro e w5 ⟨rfl, rfl⟩
  have HON := Lib.hid (Only.setCell (p := ⟨b, 4, none⟩) (Only.setCell (p := ⟨b, 5, none⟩) (Only.refl [b] (w3.alloc (.cells #[.int .u64 x, .bool ok, .int .i64 er] 128))) (.inl (by simp)) (.bool true)) (.inl (by simp)) (.bool false))
  have hne2 : b ≠ kb := fun e => NB.out.2.2.2.2 e.symm
  have HE : Hid (IsD _ b kb ⟨at_, n, 2, turn, false, true, v, top, bot, got⟩) := Lib.hid ⟨(H.out.obj.set 5 (.bool true)).set 4 (.bool false), Blk.far (p := ⟨b, 4, none⟩) (Blk.far (p := ⟨b, 5, none⟩) H.out.kind NB.out.2.2.2.2 (.bool true)) NB.out.2.2.2.2 (.bool false), H.out.ok.a0, H.out.ok.a1, H.out.ok.n1, H.out.ok.n64, H.out.ok.k2, H.out.ok.v0, H.out.ok.v1, H.out.ok.t0, H.out.ok.t1, H.out.ok.b0, H.out.ok.b1, H.out.ok.u0, by simp, H.out.ok.u2⟩
  clear c2 c4 c5 f4 f5 r2 hne2
  go_wp2_with fail
  go_ret
  exact ⟨rfl, HO.out.trans (HON.out.sub (by simp)), HM.out.only HON.out (by have := NB.out; simp; omega) (by have := NB.out; simp; omega), HE.out⟩

set_option maxHeartbeats 4000000 in
set_option maxRecDepth 100000 in
theorem dstep_steal_ok (w : World) (b kb mb ms n : Nat) (at_ turn v top bot x : Int) (has got ok : Bool) (m m' : MS) (x0 : 0 ≤ x) (x1 : x < 18446744073709551616) (h : IsD w b kb ⟨at_, n, 2, turn, has, false, v, top, bot, got⟩) (hm : IsMem w mb ms m) (hact : m.act (DQ.next ⟨at_, n, 2, turn, has, false, v, top, bot, got⟩) = (m', ⟨x, ok, 0⟩)) :
    Calls Try.prog 35 #[.pointer (some ⟨b, 0, none⟩), .pointer (some ⟨mb, 0, none⟩)] w (DStepped w b kb mb ms ((DQ.took ⟨at_, n, 2, turn, has, false, v, top, bot, got⟩ x ok), m')) := by
  unfold DStepped
  have NB := Lib.hid (dq_ne h hm)
  have H := Lib.hid h
  have HM := Lib.hid hm
  have HA := Lib.hid hact
  have HN := Lib.hid (dnext_any w b kb ⟨at_, n, 2, turn, has, false, v, top, bot, got⟩ h rfl)
  have c2 := h.obj.at 2 (v := .iface 117 (.pointer (some ⟨kb, 0, none⟩))) rfl
  have c5 := h.obj.at 5 (v := .bool false) rfl
  clear h hm hact
  go_enter Try.func35, Try.ntmps35
  go_wp2_with fail
  refine HN.out.mono ?_
  rintro e w2 ⟨rfl, ho⟩
  have HO := Lib.hid (ho.sub (T := [b, kb, mb, ms]) (by simp))
  have H := Lib.hid (H.out.only ho (by simp) (by simp))
  have HM := Lib.hid (IsMem.only HM.out ho (by simp) (by simp))
  clear ho c2 c5
  go_wp2_with fail
  refine (do_act HM.out HA.out).mono ?_
  rintro e w3 ⟨rfl, ho, hm⟩
  have HO := Lib.hid ((HO.out.trans (ho.sub (by simp))).alloc (.cells #[.int .u64 x, .bool ok, .int .i64 0] 128))
  have H := Lib.hid ((H.out.only ho (by have := NB.out; simp; omega) (by have := NB.out; simp; omega)).only ((Only.refl [] w3).alloc (.cells #[.int .u64 x, .bool ok, .int .i64 0] 128)) (by simp) (by simp))
  have HM := Lib.hid (IsMem.only hm ((Only.refl [] w3).alloc (.cells #[.int .u64 x, .bool ok, .int .i64 0] 128)) (by simp) (by simp))
  have HRS := Lib.hid (Blk.new w3 128 #[.int .u64 x, .bool ok, .int .i64 0])
  have r2 := HRS.out.at 2 (v := .int .i64 0) rfl
  have c2 := H.out.obj.at 2 (v := .iface 117 (.pointer (some ⟨kb, 0, none⟩))) rfl
  have c4 := H.out.obj.at 4 (v := .bool has) rfl
  have c5 := H.out.obj.at 5 (v := .bool false) rfl
  have f4 := H.out.obj.frozen 4
  have f5 := H.out.obj.frozen 5
  clear ho hm
  have hmt := meth_took_steal
  have r0 := HRS.out.at 0 (v := .int .u64 x) rfl
  have r1 := HRS.out.at 1 (v := .bool ok) rfl
  have HD : Hid (IsD (World.drew (w3.alloc (.cells #[.int .u64 x, .bool ok, .int .i64 0] 128))) b kb ⟨at_, n, 2, turn, has, false, v, top, bot, got⟩) := Lib.hid ⟨H.out.obj, H.out.kind, H.out.ok⟩
  clear c4 f4 f5
  go_wp2_with fail
  go_region_with (go_at_call 115
                  refine (took_any _ b kb ⟨at_, n, 2, turn, has, false, v, top, bot, got⟩ x ok HD.out rfl x0 x1).mono ?_
                  rintro e w5 ⟨rfl, ho, hd⟩
                  have HO5 := Lib.hid (HO.out.drew.trans (ho.sub (T := [b, kb, mb, ms]) (by simp)))
                  have HM5 := Lib.hid (IsMem.only (w := World.drew (w3.alloc (.cells #[.int .u64 x, .bool ok, .int .i64 0] 128))) (show IsMem (World.drew (w3.alloc (.cells #[.int .u64 x, .bool ok, .int .i64 0] 128))) mb ms m' from ⟨HM.out.obj, HM.out.row, HM.out.len, HM.out.max⟩) ho (by have := NB.out; simp; omega) (by have := NB.out; simp; omega))
                  have HE := Lib.hid hd
                  have y5 := hd.obj.at 5 (v := .bool (DQ.took ⟨at_, n, 2, turn, has, false, v, top, bot, got⟩ x ok).done) rfl
                  clear ho hd)
  all_goals
    go_wp2_with fail
    go_ret
    exact ⟨rfl, HO5.out, HM5.out, HE.out⟩

theorem dstep_any (w : World) (b kb mb ms : Nat) (s : DQ) (m : MS) (h : IsD w b kb s) (hm : IsMem w mb ms m) (r0 : 0 ≤ (m.act s.next).2.v) (r1 : (m.act s.next).2.v < 18446744073709551616) :
    Calls Try.prog 35 #[.pointer (some ⟨b, 0, none⟩), .pointer (some ⟨mb, 0, none⟩)] w (DStepped w b kb mb ms (s.go m)) := by
  cases hd : s.done
  · obtain ⟨at_, n, k, turn, has, done, v, top, bot, got⟩ := s
    have hk := h.ok.k2
    dsimp only at hd hk
    subst hd
    obtain ⟨m', x, ok, er, hact⟩ : ∃ m' y ok er, m.act (DQ.next ⟨at_, n, k, turn, has, false, v, top, bot, got⟩) = (m', ⟨y, ok, er⟩) := ⟨_, _, _, _, rfl⟩
    rw [hact] at r0 r1
    unfold DQ.go
    rw [hact]
    dsimp only at r0 r1 ⊢
    rw [if_neg (by simp)]
    by_cases he : er = 0
    · subst he
      rw [if_neg (by simp)]
      rcases (show k = 0 ∨ k = 1 ∨ k = 2 by omega) with rfl | rfl | rfl
      · exact dstep_push_ok w b kb mb ms n at_ turn v top bot x has got ok m m' r0 r1 h hm hact
      · exact dstep_pop_ok w b kb mb ms n at_ turn v top bot x has got ok m m' r0 r1 h hm hact
      · exact dstep_steal_ok w b kb mb ms n at_ turn v top bot x has got ok m m' r0 r1 h hm hact
    · rw [if_pos he]
      rcases (show k = 0 ∨ k = 1 ∨ k = 2 by omega) with rfl | rfl | rfl
      · exact dstep_push_err w b kb mb ms n at_ turn v top bot x er has got ok m m' he h hm hact
      · exact dstep_pop_err w b kb mb ms n at_ turn v top bot x er has got ok m m' he h hm hact
      · exact dstep_steal_err w b kb mb ms n at_ turn v top bot x er has got ok m m' he h hm hact
  · unfold DQ.go
    rw [hd, if_pos rfl]
    refine (dstep_done w b kb s _ h hd).mono ?_
    rintro e w' ⟨rfl, rfl⟩
    exact ⟨by rw [hd], Only.refl _ _, hm, h⟩

end Go.Proofs.Ytoecoijmkjhkgaa
