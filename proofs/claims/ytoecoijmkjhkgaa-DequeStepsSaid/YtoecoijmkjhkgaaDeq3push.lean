/- The deque: the next act of a task of one kind. Written by deqgen. -/
import Derived.Test.YtoecoijmkjhkgaaDeq2
namespace Go.Proofs.Ytoecoijmkjhkgaa
open Go.RowKit

set_option maxHeartbeats 8000000 in
set_option maxRecDepth 100000 in
theorem dnext_push (w : World) (b kb n : Nat) (at_ turn v top bot : Int) (has got : Bool) (r : Value) (h : IsD w b kb ⟨at_, n, 0, turn, has, false, v, top, bot, got⟩) (hr : (turn = 0 → r = .agg #[.int .i64 1, .int .i64 (at_ + 1), .int .u64 0, .int .u64 0]) ∧ (turn = 1 → r = .agg #[.int .i64 1, .int .i64 at_, .int .u64 0, .int .u64 0]) ∧ (turn = 2 → r = .agg #[.int .i64 2, .int .i64 (at_ + dslot n bot), .int .u64 v, .int .u64 0]) ∧ (turn = 3 → r = .agg #[.int .i64 2, .int .i64 (at_ + 1), .int .u64 (IntKind.u64.wrap (bot + 1)), .int .u64 0])) :
    Calls Try.prog 36 #[.pointer (some ⟨b, 0, none⟩)] w fun e w' => e = .returned r ∧ Only [] w w' := by
  have HRS := Lib.hid hr
  have HO := Lib.hid ((Only.refl [] w).alloc (.cells #[.int .i64 0, .int .i64 0, .int .u64 0, .int .u64 0] 74))
  have H := Lib.hid (h.only HO.out (by simp) (by simp))
  have H0 := Lib.hid h
  have c0 := H.out.obj.at 0 (v := .int .i64 at_) rfl
  have c1 := H.out.obj.at 1 (v := .int .i64 n) rfl
  have c2 := H.out.obj.at 2 (v := .iface 120 (.pointer (some ⟨kb, 0, none⟩))) rfl
  have c5 := H.out.obj.at 5 (v := .bool false) rfl
  have HO2 := Lib.hid (HO.out.alloc (.cells #[.int .i64 at_, .int .i64 n] 59))
  have H2 := Lib.hid (h.only HO2.out (by simp) (by simp))
  have HD := Lib.hid (Blk.new' (w.alloc (.cells #[.int .i64 0, .int .i64 0, .int .u64 0, .int .u64 0] 74)) 59 #[.int .i64 at_, .int .i64 n] (g := w.heap.size + 1) (by simp))
  have e2 := H2.out.obj.at 2 (v := .iface 120 (.pointer (some ⟨kb, 0, none⟩))) rfl
  have HZ0 := Lib.hid ((Blk.new w 74 #[.int .i64 0, .int .i64 0, .int .u64 0, .int .u64 0]).alloc (.cells #[.int .i64 at_, .int .i64 n] 59))
  have ha0 := ta_Push_Push
  have ht : turn = 0 ∨ turn = 1 ∨ turn = 2 ∨ turn = 3 := by
    have u0 := h.ok.u0
    have u1 := h.ok.u1 rfl
    dsimp only at u0 u1
    rw [if_neg (by omega)] at u1
    omega
  have HT := Lib.hid ht
  clear h hr ht
  go_enter Try.func36, Try.ntmps36
  go_upto_region 8 with fail
  refine wp_region_quiet_tail 25 (by kernel_rfl) (by kernel_rfl) (fun w' => Only [] ((w.alloc (.cells #[.int .i64 0, .int .i64 0, .int .u64 0, .int .u64 0] 74)).alloc (.cells #[.int .i64 at_, .int .i64 n] 59)) w') ((Only.refl _ _).drew) ?_
  have HF : Hid (∀ w', Only [] ((w.alloc (.cells #[.int .i64 0, .int .i64 0, .int .u64 0, .int .u64 0] 74)).alloc (.cells #[.int .i64 at_, .int .i64 n] 59)) w' → w'.cell? ⟨w.heap.size + 1, 0, none⟩ = some (.int .i64 at_) ∧ w'.cell? ⟨w.heap.size + 1, 1, none⟩ = some (.int .i64 n) ∧ w'.cell? ⟨kb, 0, none⟩ = some (.int .u64 v) ∧ w'.cell? ⟨kb, 1, none⟩ = some (.int .u64 bot)) := Lib.hid fun w' o =>
    ⟨(HD.out.only o (by simp)).at 0 rfl, (HD.out.only o (by simp)).at 1 rfl, (H2.out.only o (by simp) (by simp)).kind.at 0 rfl, (H2.out.only o (by simp) (by simp)).kind.at 1 rfl⟩
  simp only [List.take_succ_cons, List.take_zero, List.drop_succ_cons, List.drop_zero]
  have k1 := H.out.ok.a0
  have k2 := H.out.ok.a1
  have k3 := H.out.ok.n1
  have k4 := H.out.ok.n64
  have k5 := H.out.ok.b0
  dsimp only at k1 k2 k3 k4 k5
  have hds := dslot_range n bot k3 k4
  have m0 := dwrap (at_ + dslot n bot) (by omega) (by omega)
  clear c0 c1 c2 c5 e2 ha0
  repeat
    (refine qstep rfl ?_
     apply Exists.intro
     refine ⟨fun w' hw' => ?_, ?_⟩
     · obtain ⟨p0, p1, p2, p3⟩ := HF.out w' hw'
       go_simp
       first
         | exact quiet_val
         | (apply quiet_call
            first
              | exact (dqload_at w' at_ n _ (by omega)).mono fun e w'' ⟨he, ho⟩ => ⟨he, hw'.trans ho⟩
              | exact (dqslot_at w' at_ bot n k3 k4 k5).mono fun e w'' ⟨he, ho⟩ => ⟨he, hw'.trans ho⟩
              | exact (dqbottom_at w' at_ n _ ⟨k1, k2⟩).mono fun e w'' ⟨he, ho⟩ => ⟨he, hw'.trans ho⟩
              | exact (dqtake_at w' at_ n _).mono fun e w'' ⟨he, ho⟩ => ⟨he, hw'.trans ho⟩)
     go_simp)
  refine wpQuiet_nil ?_
  intro wf hwf
  have HOX := Lib.hid ((HO2.out.trans hwf).alloc (.cells #[.int .i64 1, .int .i64 (at_ + 1), .int .u64 0, .int .u64 0, .int .i64 1, .int .i64 at_, .int .u64 0, .int .u64 0, .int .i64 2, .int .i64 (at_ + dslot n bot), .int .u64 v, .int .u64 0, .int .i64 2, .int .i64 (at_ + 1), .int .u64 (IntKind.u64.wrap (bot + 1)), .int .u64 0] 74))
  have HX := Lib.hid (Blk.new wf 74 #[.int .i64 1, .int .i64 (at_ + 1), .int .u64 0, .int .u64 0, .int .i64 1, .int .i64 at_, .int .u64 0, .int .u64 0, .int .i64 2, .int .i64 (at_ + dslot n bot), .int .u64 v, .int .u64 0, .int .i64 2, .int .i64 (at_ + 1), .int .u64 (IntKind.u64.wrap (bot + 1)), .int .u64 0])
  have HB := Lib.hid (H0.out.only HOX.out (by simp) (by simp))
  have HZ := Lib.hid ((HZ0.out.only hwf (by simp)).alloc (.cells #[.int .i64 1, .int .i64 (at_ + 1), .int .u64 0, .int .u64 0, .int .i64 1, .int .i64 at_, .int .u64 0, .int .u64 0, .int .i64 2, .int .i64 (at_ + dslot n bot), .int .u64 v, .int .u64 0, .int .i64 2, .int .i64 (at_ + 1), .int .u64 (IntKind.u64.wrap (bot + 1)), .int .u64 0] 74))
  have z0 := HZ.out.at 0 (v := .int .i64 0) rfl
  have z1 := HZ.out.at 1 (v := .int .i64 0) rfl
  have z2 := HZ.out.at 2 (v := .int .u64 0) rfl
  have z3 := HZ.out.at 3 (v := .int .u64 0) rfl
  have f0 := HZ.out.frozen 0
  have f1 := HZ.out.frozen 1
  have f2 := HZ.out.frozen 2
  have f3 := HZ.out.frozen 3
  clear hwf hds m0 k1 k2 k3 k4 k5
  rcases HT.out with ht | ht | ht | ht
  · have HRQ := Lib.hid (HRS.out.1 ht)
    subst ht
    have d3 := HB.out.obj.at 3 (v := .int .i64 0) rfl
    have x0 := HX.out.at 0 (v := .int .i64 1) rfl
    have x1 := HX.out.at 1 (v := .int .i64 (at_ + 1)) rfl
    have x2 := HX.out.at 2 (v := .int .u64 0) rfl
    have x3 := HX.out.at 3 (v := .int .u64 0) rfl
    go_wp2_with fail
    have HFN := Lib.hid ((((HZ.out.set 0 (.int .i64 1)).set 1 (.int .i64 (at_ + 1))).set 2 (.int .u64 0)).set 3 (.int .u64 0))
    have y0 := HFN.out.at 0 (v := .int .i64 1) rfl
    have y1 := HFN.out.at 1 (v := .int .i64 (at_ + 1)) rfl
    have y2 := HFN.out.at 2 (v := .int .u64 0) rfl
    have y3 := HFN.out.at 3 (v := .int .u64 0) rfl
    refine bodyPost_ret (v := .agg #[.int .i64 1, .int .i64 (at_ + 1), .int .u64 0, .int .u64 0]) (by simp [results, Try.results36, go_sem, y0, y1, y2, y3]) rfl ⟨congrArg Ending.returned HRQ.out.symm, ?_⟩
    exact dsets4 HOX.out (Nat.le_refl _) _ _ _ _
  · have HRQ := Lib.hid (HRS.out.2.1 ht)
    subst ht
    have d3 := HB.out.obj.at 3 (v := .int .i64 1) rfl
    have x0 := HX.out.at 4 (v := .int .i64 1) rfl
    have x1 := HX.out.at 5 (v := .int .i64 at_) rfl
    have x2 := HX.out.at 6 (v := .int .u64 0) rfl
    have x3 := HX.out.at 7 (v := .int .u64 0) rfl
    go_wp2_with fail
    have HFN := Lib.hid ((((HZ.out.set 0 (.int .i64 1)).set 1 (.int .i64 at_)).set 2 (.int .u64 0)).set 3 (.int .u64 0))
    have y0 := HFN.out.at 0 (v := .int .i64 1) rfl
    have y1 := HFN.out.at 1 (v := .int .i64 at_) rfl
    have y2 := HFN.out.at 2 (v := .int .u64 0) rfl
    have y3 := HFN.out.at 3 (v := .int .u64 0) rfl
    refine bodyPost_ret (v := .agg #[.int .i64 1, .int .i64 at_, .int .u64 0, .int .u64 0]) (by simp [results, Try.results36, go_sem, y0, y1, y2, y3]) rfl ⟨congrArg Ending.returned HRQ.out.symm, ?_⟩
    exact dsets4 HOX.out (Nat.le_refl _) _ _ _ _
  · have HRQ := Lib.hid (HRS.out.2.2.1 ht)
    subst ht
    have d3 := HB.out.obj.at 3 (v := .int .i64 2) rfl
    have x0 := HX.out.at 8 (v := .int .i64 2) rfl
    have x1 := HX.out.at 9 (v := .int .i64 (at_ + dslot n bot)) rfl
    have x2 := HX.out.at 10 (v := .int .u64 v) rfl
    have x3 := HX.out.at 11 (v := .int .u64 0) rfl
    go_wp2_with fail
    have HFN := Lib.hid ((((HZ.out.set 0 (.int .i64 2)).set 1 (.int .i64 (at_ + dslot n bot))).set 2 (.int .u64 v)).set 3 (.int .u64 0))
    have y0 := HFN.out.at 0 (v := .int .i64 2) rfl
    have y1 := HFN.out.at 1 (v := .int .i64 (at_ + dslot n bot)) rfl
    have y2 := HFN.out.at 2 (v := .int .u64 v) rfl
    have y3 := HFN.out.at 3 (v := .int .u64 0) rfl
    refine bodyPost_ret (v := .agg #[.int .i64 2, .int .i64 (at_ + dslot n bot), .int .u64 v, .int .u64 0]) (by simp [results, Try.results36, go_sem, y0, y1, y2, y3]) rfl ⟨congrArg Ending.returned HRQ.out.symm, ?_⟩
    exact dsets4 HOX.out (Nat.le_refl _) _ _ _ _
  · have HRQ := Lib.hid (HRS.out.2.2.2 ht)
    subst ht
    have d3 := HB.out.obj.at 3 (v := .int .i64 3) rfl
    have x0 := HX.out.at 12 (v := .int .i64 2) rfl
    have x1 := HX.out.at 13 (v := .int .i64 (at_ + 1)) rfl
    have x2 := HX.out.at 14 (v := .int .u64 (IntKind.u64.wrap (bot + 1))) rfl
    have x3 := HX.out.at 15 (v := .int .u64 0) rfl
    go_wp2_with fail
    have HFN := Lib.hid ((((HZ.out.set 0 (.int .i64 2)).set 1 (.int .i64 (at_ + 1))).set 2 (.int .u64 (IntKind.u64.wrap (bot + 1)))).set 3 (.int .u64 0))
    have y0 := HFN.out.at 0 (v := .int .i64 2) rfl
    have y1 := HFN.out.at 1 (v := .int .i64 (at_ + 1)) rfl
    have y2 := HFN.out.at 2 (v := .int .u64 (IntKind.u64.wrap (bot + 1))) rfl
    have y3 := HFN.out.at 3 (v := .int .u64 0) rfl
    refine bodyPost_ret (v := .agg #[.int .i64 2, .int .i64 (at_ + 1), .int .u64 (IntKind.u64.wrap (bot + 1)), .int .u64 0]) (by simp [results, Try.results36, go_sem, y0, y1, y2, y3]) rfl ⟨congrArg Ending.returned HRQ.out.symm, ?_⟩
    exact dsets4 HOX.out (Nat.le_refl _) _ _ _ _

end Go.Proofs.Ytoecoijmkjhkgaa
