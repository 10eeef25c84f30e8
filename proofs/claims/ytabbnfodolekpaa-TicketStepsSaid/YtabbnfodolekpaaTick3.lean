/- The walk of (*ticket.Holder).Step, the other cases. -/
import Derived.Test.YtabbnfodolekpaaTick2
namespace Go.Proofs.Ytabbnfodolekpaa
open Go.RowKit

set_option maxHeartbeats 4000000 in
set_option maxRecDepth 100000 in
theorem tstep_1e (w : World) (b mb ms : Nat) (a tk v er : Int) (ok : Bool) (wish : Bool) (m m' : MS) (h0 : 0 ≤ a) (h1 : a ≤ 65000) (hd : b ≠ mb ∧ b ≠ ms) (hb : IsH w b ⟨a, 1, tk, wish⟩) (hm : IsMem w mb ms m)
    (hact : m.act ⟨1, a + 1, 0, 0⟩ = (m', ⟨v, ok, er⟩)) (he : (er != 0) = true) :
    Calls Try.prog 35 #[.pointer (some ⟨b, 0, none⟩), .pointer (some ⟨mb, 0, none⟩)] w fun e w' => e = .returned (.int .i64 3) ∧ Only [b, mb, ms] w w' ∧ IsH w' b ⟨a, 3, tk, wish⟩ ∧ IsMem w' mb ms m' := by
  have HB := Lib.hid hb
  have HM := Lib.hid hm
  have HA := Lib.hid hact
  have HD := Lib.hid hd
  clear hb hm hact hd
  go_enter Try.func35, Try.ntmps35
  go_wp2
  refine wp_scope_jumps 0 (Told w b mb ms ⟨a, 3, tk, wish⟩ m') (fun _ _ => 0) rfl ?_ ?_
  · go_wp2_with fail
    refine (tnext_1 _ b a tk wish h0 h1 HB.out).mono ?_
    rintro e w1 ⟨rfl, ho⟩
    have ho1 := (ho.alloc (.cells #[.int .i64 1, .int .i64 (a + 1), .int .u64 0, .int .u64 0] 70)).alloc (.cells #[.int .u64 0, .bool false, .int .i64 0] 88)
    have hlt := HB.out.lt
    have hlt2 := HM.out.lt
    have hsz := ho.size
    have HM1 := Lib.hid (HM.out.only ho1 (by simp) (by simp))
    have HB1 := Lib.hid (Blk.only HB.out ho1 (by simp))
    have HR1 := Lib.hid (Blk.new' (w1.alloc (.cells #[.int .i64 1, .int .i64 (a + 1), .int .u64 0, .int .u64 0] 70)) 88 #[.int .u64 0, .bool false, .int .i64 0] (g := w1.heap.size + 1) (by simp))
    have HO1 := Lib.hid ho1
    clear ho ho1
    go_wp2_with fail
    refine (do_to HM1.out HA.out).mono ?_
    rintro e w2 ⟨rfl, ho, hm'⟩
    have hr := HR1.out.only ho (by simp; omega)
    have hb2 := Blk.only HB1.out ho (by have := HD.out; simp; omega)
    have q0 := hr.at 0 rfl
    have q1 := hr.at 1 rfl
    have q2 := hr.at 2 rfl
    have f0 := hr.frozen 0
    have f1 := hr.frozen 1
    have f2 := hr.frozen 2
    have hb3 := ((hb2.far (p := ⟨w1.heap.size + 1, 0, none⟩) (by simp; omega) (.int .u64 v)).far (p := ⟨w1.heap.size + 1, 1, none⟩) (by simp; omega) (.bool ok)).far (p := ⟨w1.heap.size + 1, 2, none⟩) (by simp; omega) (.int .i64 er)
    have ho3 := (((HO1.out.sub (T := [b, mb, ms]) (List.nil_subset _)).then ho (by simp)).setCell (p := ⟨w1.heap.size + 1, 0, none⟩) (.inr (by simp; omega)) (.int .u64 v)).setCell (p := ⟨w1.heap.size + 1, 1, none⟩) (.inr (by simp; omega)) (.bool ok) |>.setCell (p := ⟨w1.heap.size + 1, 2, none⟩) (.inr (by simp; omega)) (.int .i64 er)
    have hm3 := hm'.only (((Only.refl [w1.heap.size + 1] w2).setCell (p := ⟨w1.heap.size + 1, 0, none⟩) (by simp) (.int .u64 v)).setCell (p := ⟨w1.heap.size + 1, 1, none⟩) (by simp) (.bool ok) |>.setCell (p := ⟨w1.heap.size + 1, 2, none⟩) (by simp) (.int .i64 er)) (by simp; omega) (by simp; omega)
    have c1 := hb3.at 1 rfl
    have c2 := hb3.at 2 rfl
    have g1 := hb3.frozen 1
    have g2 := hb3.frozen 2
    have HO3 := Lib.hid ho3
    have HB3 := Lib.hid hb3
    have HM3 := Lib.hid hm3
    clear ho hm' hr hb2 hb3  ho3 hm3
    go_wp2
    go_step3
    refine ⟨rfl, ⟨(HO3.out).setCell (p := ⟨b, 1, none⟩) (by simp) (.int .i64 3), by have := Blk.set (HB3.out) 1 (.int .i64 3); simpa [IsH] using this, (HM3.out).only ((Only.refl [b] _).setCell (p := ⟨b, 1, none⟩) (by simp) (.int .i64 3)) (by simpa using HD.out.1.symm) (by simpa using HD.out.2.symm)⟩, ?_⟩
    repeat (first | exact rfl | apply Exists.intro)
  · rintro a' w' ⟨⟨ho, hb, hm⟩, u1, u2, u3, u4, u5, u6, u7, u8, u9, u10, u11, u12, u13, u14, u15, u16, u17, u18, u19, u20, u21, u22, u23, u24, u25, u26, u27, u28, u29, u30, u31, u32, u33, u34, u35, u36, u37, u38, u39, u40, u41, u42, u43, u44, u45, u46, u47, u48, u49, u50, u51, u52, u53, u54, u55, u56, u57, u58, u59, u60, u61, u62, rfl⟩
    have HO := Lib.hid ho
    have HB := Lib.hid hb
    have HM := Lib.hid hm
    clear ho hb hm
    go_wp2_with fail
    refine (tstate_at _ b _ HB.out).mono ?_
    rintro e w1 ⟨rfl, ho⟩
    have HO2 := Lib.hid (HO.out.then ho (by simp))
    have HB2 := Lib.hid (Blk.only HB.out ho (by simp))
    have HM2 := Lib.hid (HM.out.only ho (by simp) (by simp))
    clear ho
    go_wp2
    simp only [Exit.jump]
    go_ret
    exact ⟨rfl, HO2.out, HB2.out, HM2.out⟩

set_option maxHeartbeats 4000000 in
set_option maxRecDepth 100000 in
theorem tstep_1n (w : World) (b mb ms : Nat) (a tk v : Int) (ok : Bool) (wish : Bool) (m m' : MS) (h0 : 0 ≤ a) (h1 : a ≤ 65000) (hd : b ≠ mb ∧ b ≠ ms) (hb : IsH w b ⟨a, 1, tk, wish⟩) (hm : IsMem w mb ms m)
    (hact : m.act ⟨1, a + 1, 0, 0⟩ = (m', ⟨v, ok, 0⟩)) (he : (v != tk) = true) :
    Calls Try.prog 35 #[.pointer (some ⟨b, 0, none⟩), .pointer (some ⟨mb, 0, none⟩)] w fun e w' => e = .returned (.int .i64 1) ∧ Only [b, mb, ms] w w' ∧ IsH w' b ⟨a, 1, tk, wish⟩ ∧ IsMem w' mb ms m' := by
  have HB := Lib.hid hb
  have HM := Lib.hid hm
  have HA := Lib.hid hact
  have HD := Lib.hid hd
  clear hb hm hact hd
  go_enter Try.func35, Try.ntmps35
  go_wp2
  refine wp_scope_jumps 0 (Told w b mb ms ⟨a, 1, tk, wish⟩ m') (fun _ _ => 0) rfl ?_ ?_
  · go_wp2_with fail
    refine (tnext_1 _ b a tk wish h0 h1 HB.out).mono ?_
    rintro e w1 ⟨rfl, ho⟩
    have ho1 := (ho.alloc (.cells #[.int .i64 1, .int .i64 (a + 1), .int .u64 0, .int .u64 0] 70)).alloc (.cells #[.int .u64 0, .bool false, .int .i64 0] 88)
    have hlt := HB.out.lt
    have hlt2 := HM.out.lt
    have hsz := ho.size
    have HM1 := Lib.hid (HM.out.only ho1 (by simp) (by simp))
    have HB1 := Lib.hid (Blk.only HB.out ho1 (by simp))
    have HR1 := Lib.hid (Blk.new' (w1.alloc (.cells #[.int .i64 1, .int .i64 (a + 1), .int .u64 0, .int .u64 0] 70)) 88 #[.int .u64 0, .bool false, .int .i64 0] (g := w1.heap.size + 1) (by simp))
    have HO1 := Lib.hid ho1
    clear ho ho1
    go_wp2_with fail
    refine (do_to HM1.out HA.out).mono ?_
    rintro e w2 ⟨rfl, ho, hm'⟩
    have hr := HR1.out.only ho (by simp; omega)
    have hb2 := Blk.only HB1.out ho (by have := HD.out; simp; omega)
    have q0 := hr.at 0 rfl
    have q1 := hr.at 1 rfl
    have q2 := hr.at 2 rfl
    have f0 := hr.frozen 0
    have f1 := hr.frozen 1
    have f2 := hr.frozen 2
    have hb3 := ((hb2.far (p := ⟨w1.heap.size + 1, 0, none⟩) (by simp; omega) (.int .u64 v)).far (p := ⟨w1.heap.size + 1, 1, none⟩) (by simp; omega) (.bool ok)).far (p := ⟨w1.heap.size + 1, 2, none⟩) (by simp; omega) (.int .i64 0)
    have ho3 := (((HO1.out.sub (T := [b, mb, ms]) (List.nil_subset _)).then ho (by simp)).setCell (p := ⟨w1.heap.size + 1, 0, none⟩) (.inr (by simp; omega)) (.int .u64 v)).setCell (p := ⟨w1.heap.size + 1, 1, none⟩) (.inr (by simp; omega)) (.bool ok) |>.setCell (p := ⟨w1.heap.size + 1, 2, none⟩) (.inr (by simp; omega)) (.int .i64 0)
    have hm3 := hm'.only (((Only.refl [w1.heap.size + 1] w2).setCell (p := ⟨w1.heap.size + 1, 0, none⟩) (by simp) (.int .u64 v)).setCell (p := ⟨w1.heap.size + 1, 1, none⟩) (by simp) (.bool ok) |>.setCell (p := ⟨w1.heap.size + 1, 2, none⟩) (by simp) (.int .i64 0)) (by simp; omega) (by simp; omega)
    have c1 := hb3.at 1 rfl
    have c2 := hb3.at 2 rfl
    have g1 := hb3.frozen 1
    have g2 := hb3.frozen 2
    have HO3 := Lib.hid ho3
    have HB3 := Lib.hid hb3
    have HM3 := Lib.hid hm3
    clear ho hm' hr hb2 hb3  ho3 hm3
    go_wp2
    go_region
    all_goals go_wp2
    go_step3
    refine ⟨rfl, ⟨HO3.out.drew, by have := HB3.out.drew; simpa [IsH] using this, HM3.out.only (Only.refl [] _).drew (by simp) (by simp)⟩, ?_⟩
    repeat (first | exact rfl | apply Exists.intro)
  · rintro a' w' ⟨⟨ho, hb, hm⟩, u1, u2, u3, u4, u5, u6, u7, u8, u9, u10, u11, u12, u13, u14, u15, u16, u17, u18, u19, u20, u21, u22, u23, u24, u25, u26, u27, u28, u29, u30, u31, u32, u33, u34, u35, u36, u37, u38, u39, u40, u41, u42, u43, u44, u45, u46, u47, u48, u49, u50, u51, u52, u53, u54, u55, u56, u57, u58, u59, u60, u61, u62, rfl⟩
    have HO := Lib.hid ho
    have HB := Lib.hid hb
    have HM := Lib.hid hm
    clear ho hb hm
    go_wp2_with fail
    refine (tstate_at _ b _ HB.out).mono ?_
    rintro e w1 ⟨rfl, ho⟩
    have HO2 := Lib.hid (HO.out.then ho (by simp))
    have HB2 := Lib.hid (Blk.only HB.out ho (by simp))
    have HM2 := Lib.hid (HM.out.only ho (by simp) (by simp))
    clear ho
    go_wp2
    simp only [Exit.jump]
    go_ret
    exact ⟨rfl, HO2.out, HB2.out, HM2.out⟩

set_option maxHeartbeats 4000000 in
set_option maxRecDepth 100000 in
theorem tstep_1y (w : World) (b mb ms : Nat) (a tk v : Int) (ok : Bool) (wish : Bool) (m m' : MS) (h0 : 0 ≤ a) (h1 : a ≤ 65000) (hd : b ≠ mb ∧ b ≠ ms) (hb : IsH w b ⟨a, 1, tk, wish⟩) (hm : IsMem w mb ms m)
    (hact : m.act ⟨1, a + 1, 0, 0⟩ = (m', ⟨v, ok, 0⟩)) (he : (v != tk) = false) :
    Calls Try.prog 35 #[.pointer (some ⟨b, 0, none⟩), .pointer (some ⟨mb, 0, none⟩)] w fun e w' => e = .returned (.int .i64 2) ∧ Only [b, mb, ms] w w' ∧ IsH w' b ⟨a, 2, tk, wish⟩ ∧ IsMem w' mb ms m' := by
  have HB := Lib.hid hb
  have HM := Lib.hid hm
  have HA := Lib.hid hact
  have HD := Lib.hid hd
  clear hb hm hact hd
  go_enter Try.func35, Try.ntmps35
  go_wp2
  refine wp_scope_jumps 0 (Told w b mb ms ⟨a, 2, tk, wish⟩ m') (fun _ _ => 0) rfl ?_ ?_
  · go_wp2_with fail
    refine (tnext_1 _ b a tk wish h0 h1 HB.out).mono ?_
    rintro e w1 ⟨rfl, ho⟩
    have ho1 := (ho.alloc (.cells #[.int .i64 1, .int .i64 (a + 1), .int .u64 0, .int .u64 0] 70)).alloc (.cells #[.int .u64 0, .bool false, .int .i64 0] 88)
    have hlt := HB.out.lt
    have hlt2 := HM.out.lt
    have hsz := ho.size
    have HM1 := Lib.hid (HM.out.only ho1 (by simp) (by simp))
    have HB1 := Lib.hid (Blk.only HB.out ho1 (by simp))
    have HR1 := Lib.hid (Blk.new' (w1.alloc (.cells #[.int .i64 1, .int .i64 (a + 1), .int .u64 0, .int .u64 0] 70)) 88 #[.int .u64 0, .bool false, .int .i64 0] (g := w1.heap.size + 1) (by simp))
    have HO1 := Lib.hid ho1
    clear ho ho1
    go_wp2_with fail
    refine (do_to HM1.out HA.out).mono ?_
    rintro e w2 ⟨rfl, ho, hm'⟩
    have hr := HR1.out.only ho (by simp; omega)
    have hb2 := Blk.only HB1.out ho (by have := HD.out; simp; omega)
    have q0 := hr.at 0 rfl
    have q1 := hr.at 1 rfl
    have q2 := hr.at 2 rfl
    have f0 := hr.frozen 0
    have f1 := hr.frozen 1
    have f2 := hr.frozen 2
    have hb3 := ((hb2.far (p := ⟨w1.heap.size + 1, 0, none⟩) (by simp; omega) (.int .u64 v)).far (p := ⟨w1.heap.size + 1, 1, none⟩) (by simp; omega) (.bool ok)).far (p := ⟨w1.heap.size + 1, 2, none⟩) (by simp; omega) (.int .i64 0)
    have ho3 := (((HO1.out.sub (T := [b, mb, ms]) (List.nil_subset _)).then ho (by simp)).setCell (p := ⟨w1.heap.size + 1, 0, none⟩) (.inr (by simp; omega)) (.int .u64 v)).setCell (p := ⟨w1.heap.size + 1, 1, none⟩) (.inr (by simp; omega)) (.bool ok) |>.setCell (p := ⟨w1.heap.size + 1, 2, none⟩) (.inr (by simp; omega)) (.int .i64 0)
    have hm3 := hm'.only (((Only.refl [w1.heap.size + 1] w2).setCell (p := ⟨w1.heap.size + 1, 0, none⟩) (by simp) (.int .u64 v)).setCell (p := ⟨w1.heap.size + 1, 1, none⟩) (by simp) (.bool ok) |>.setCell (p := ⟨w1.heap.size + 1, 2, none⟩) (by simp) (.int .i64 0)) (by simp; omega) (by simp; omega)
    have c1 := hb3.at 1 rfl
    have c2 := hb3.at 2 rfl
    have g1 := hb3.frozen 1
    have g2 := hb3.frozen 2
    have HO3 := Lib.hid ho3
    have HB3 := Lib.hid hb3
    have HM3 := Lib.hid hm3
    clear ho hm' hr hb2 hb3  ho3 hm3
    go_wp2
    go_region
    all_goals go_wp2
    go_step3
    go_wp2_with fail
    have hb5 := Blk.set (HB3.out.drew) 1 (.int .i64 2)
    have hm5 := (HM3.out.only (Only.refl [] _).drew (by simp) (by simp)).only ((Only.refl [b] _).setCell (p := ⟨b, 1, none⟩) (by simp) (.int .i64 2)) (by simpa using HD.out.1.symm) (by simpa using HD.out.2.symm)
    have ho5 := (HO3.out.drew).setCell (p := ⟨b, 1, none⟩) (by simp) (.int .i64 2)
    refine (tstate_at _ b ⟨a, 2, tk, wish⟩ ?hb).mono ?_
    case hb => first | exact hb5 | (have := hb5; simpa [IsH] using this)
    rintro e w6 ⟨rfl, ho⟩
    have HO6 := Lib.hid (ho5.then ho (by simp))
    have hb6 : IsH w6 b ⟨a, 2, tk, wish⟩ := by have := Blk.only hb5 ho (by simp); simpa [IsH] using this
    have HB6 := Lib.hid hb6
    have HM6 := Lib.hid (hm5.only ho (by simp) (by simp))
    clear ho ho5 hm5 hb5 hb6
    go_wp2
    simp only [Exit.jump]
    go_ret
    exact ⟨rfl, HO6.out, HB6.out, HM6.out⟩
  · rintro a' w' ⟨⟨ho, hb, hm⟩, u1, u2, u3, u4, u5, u6, u7, u8, u9, u10, u11, u12, u13, u14, u15, u16, u17, u18, u19, u20, u21, u22, u23, u24, u25, u26, u27, u28, u29, u30, u31, u32, u33, u34, u35, u36, u37, u38, u39, u40, u41, u42, u43, u44, u45, u46, u47, u48, u49, u50, u51, u52, u53, u54, u55, u56, u57, u58, u59, u60, u61, u62, rfl⟩
    have HO := Lib.hid ho
    have HB := Lib.hid hb
    have HM := Lib.hid hm
    clear ho hb hm
    go_wp2_with fail
    refine (tstate_at _ b _ HB.out).mono ?_
    rintro e w1 ⟨rfl, ho⟩
    have HO2 := Lib.hid (HO.out.then ho (by simp))
    have HB2 := Lib.hid (Blk.only HB.out ho (by simp))
    have HM2 := Lib.hid (HM.out.only ho (by simp) (by simp))
    clear ho
    go_wp2
    simp only [Exit.jump]
    go_ret
    exact ⟨rfl, HO2.out, HB2.out, HM2.out⟩

set_option maxHeartbeats 4000000 in
set_option maxRecDepth 100000 in
theorem tstep_2e (w : World) (b mb ms : Nat) (a tk v er : Int) (ok : Bool) (m m' : MS) (h0 : 0 ≤ a) (h1 : a ≤ 65000) (hd : b ≠ mb ∧ b ≠ ms) (hb : IsH w b ⟨a, 2, tk, true⟩) (hm : IsMem w mb ms m)
    (hact : m.act ⟨2, a + 1, IntKind.u64.wrap (tk + 1), 0⟩ = (m', ⟨v, ok, er⟩)) (he : (er != 0) = true) :
    Calls Try.prog 35 #[.pointer (some ⟨b, 0, none⟩), .pointer (some ⟨mb, 0, none⟩)] w fun e w' => e = .returned (.int .i64 3) ∧ Only [b, mb, ms] w w' ∧ IsH w' b ⟨a, 3, tk, true⟩ ∧ IsMem w' mb ms m' := by
  have HB := Lib.hid hb
  have HM := Lib.hid hm
  have HA := Lib.hid hact
  have HD := Lib.hid hd
  clear hb hm hact hd
  go_enter Try.func35, Try.ntmps35
  go_wp2
  refine wp_scope_jumps 0 (Told w b mb ms ⟨a, 3, tk, true⟩ m') (fun _ _ => 0) rfl ?_ ?_
  · go_wp2_with fail
    refine (tnext_2t _ b a tk h0 h1 HB.out).mono ?_
    rintro e w1 ⟨rfl, ho⟩
    have ho1 := (ho.alloc (.cells #[.int .i64 2, .int .i64 (a + 1), .int .u64 (IntKind.u64.wrap (tk + 1)), .int .u64 0] 70)).alloc (.cells #[.int .u64 0, .bool false, .int .i64 0] 88)
    have hlt := HB.out.lt
    have hlt2 := HM.out.lt
    have hsz := ho.size
    have HM1 := Lib.hid (HM.out.only ho1 (by simp) (by simp))
    have HB1 := Lib.hid (Blk.only HB.out ho1 (by simp))
    have HR1 := Lib.hid (Blk.new' (w1.alloc (.cells #[.int .i64 2, .int .i64 (a + 1), .int .u64 (IntKind.u64.wrap (tk + 1)), .int .u64 0] 70)) 88 #[.int .u64 0, .bool false, .int .i64 0] (g := w1.heap.size + 1) (by simp))
    have HO1 := Lib.hid ho1
    clear ho ho1
    go_wp2_with fail
    refine (do_to HM1.out HA.out).mono ?_
    rintro e w2 ⟨rfl, ho, hm'⟩
    have hr := HR1.out.only ho (by simp; omega)
    have hb2 := Blk.only HB1.out ho (by have := HD.out; simp; omega)
    have q0 := hr.at 0 rfl
    have q1 := hr.at 1 rfl
    have q2 := hr.at 2 rfl
    have f0 := hr.frozen 0
    have f1 := hr.frozen 1
    have f2 := hr.frozen 2
    have hb3 := ((hb2.far (p := ⟨w1.heap.size + 1, 0, none⟩) (by simp; omega) (.int .u64 v)).far (p := ⟨w1.heap.size + 1, 1, none⟩) (by simp; omega) (.bool ok)).far (p := ⟨w1.heap.size + 1, 2, none⟩) (by simp; omega) (.int .i64 er)
    have ho3 := (((HO1.out.sub (T := [b, mb, ms]) (List.nil_subset _)).then ho (by simp)).setCell (p := ⟨w1.heap.size + 1, 0, none⟩) (.inr (by simp; omega)) (.int .u64 v)).setCell (p := ⟨w1.heap.size + 1, 1, none⟩) (.inr (by simp; omega)) (.bool ok) |>.setCell (p := ⟨w1.heap.size + 1, 2, none⟩) (.inr (by simp; omega)) (.int .i64 er)
    have hm3 := hm'.only (((Only.refl [w1.heap.size + 1] w2).setCell (p := ⟨w1.heap.size + 1, 0, none⟩) (by simp) (.int .u64 v)).setCell (p := ⟨w1.heap.size + 1, 1, none⟩) (by simp) (.bool ok) |>.setCell (p := ⟨w1.heap.size + 1, 2, none⟩) (by simp) (.int .i64 er)) (by simp; omega) (by simp; omega)
    have c1 := hb3.at 1 rfl
    have c2 := hb3.at 2 rfl
    have g1 := hb3.frozen 1
    have g2 := hb3.frozen 2
    have HO3 := Lib.hid ho3
    have HB3 := Lib.hid hb3
    have HM3 := Lib.hid hm3
    clear ho hm' hr hb2 hb3  ho3 hm3
    go_wp2
    go_step3
    refine ⟨rfl, ⟨(HO3.out).setCell (p := ⟨b, 1, none⟩) (by simp) (.int .i64 3), by have := Blk.set (HB3.out) 1 (.int .i64 3); simpa [IsH] using this, (HM3.out).only ((Only.refl [b] _).setCell (p := ⟨b, 1, none⟩) (by simp) (.int .i64 3)) (by simpa using HD.out.1.symm) (by simpa using HD.out.2.symm)⟩, ?_⟩
    repeat (first | exact rfl | apply Exists.intro)
  · rintro a' w' ⟨⟨ho, hb, hm⟩, u1, u2, u3, u4, u5, u6, u7, u8, u9, u10, u11, u12, u13, u14, u15, u16, u17, u18, u19, u20, u21, u22, u23, u24, u25, u26, u27, u28, u29, u30, u31, u32, u33, u34, u35, u36, u37, u38, u39, u40, u41, u42, u43, u44, u45, u46, u47, u48, u49, u50, u51, u52, u53, u54, u55, u56, u57, u58, u59, u60, u61, u62, rfl⟩
    have HO := Lib.hid ho
    have HB := Lib.hid hb
    have HM := Lib.hid hm
    clear ho hb hm
    go_wp2_with fail
    refine (tstate_at _ b _ HB.out).mono ?_
    rintro e w1 ⟨rfl, ho⟩
    have HO2 := Lib.hid (HO.out.then ho (by simp))
    have HB2 := Lib.hid (Blk.only HB.out ho (by simp))
    have HM2 := Lib.hid (HM.out.only ho (by simp) (by simp))
    clear ho
    go_wp2
    simp only [Exit.jump]
    go_ret
    exact ⟨rfl, HO2.out, HB2.out, HM2.out⟩

set_option maxHeartbeats 4000000 in
set_option maxRecDepth 100000 in
theorem tstep_2 (w : World) (b mb ms : Nat) (a tk v : Int) (ok : Bool) (m m' : MS) (h0 : 0 ≤ a) (h1 : a ≤ 65000) (hd : b ≠ mb ∧ b ≠ ms) (hb : IsH w b ⟨a, 2, tk, true⟩) (hm : IsMem w mb ms m)
    (hact : m.act ⟨2, a + 1, IntKind.u64.wrap (tk + 1), 0⟩ = (m', ⟨v, ok, 0⟩)) :
    Calls Try.prog 35 #[.pointer (some ⟨b, 0, none⟩), .pointer (some ⟨mb, 0, none⟩)] w fun e w' => e = .returned (.int .i64 3) ∧ Only [b, mb, ms] w w' ∧ IsH w' b ⟨a, 3, tk, true⟩ ∧ IsMem w' mb ms m' := by
  have HB := Lib.hid hb
  have HM := Lib.hid hm
  have HA := Lib.hid hact
  have HD := Lib.hid hd
  clear hb hm hact hd
  go_enter Try.func35, Try.ntmps35
  go_wp2
  refine wp_scope_jumps 0 (Told w b mb ms ⟨a, 3, tk, true⟩ m') (fun _ _ => 0) rfl ?_ ?_
  · go_wp2_with fail
    refine (tnext_2t _ b a tk h0 h1 HB.out).mono ?_
    rintro e w1 ⟨rfl, ho⟩
    have ho1 := (ho.alloc (.cells #[.int .i64 2, .int .i64 (a + 1), .int .u64 (IntKind.u64.wrap (tk + 1)), .int .u64 0] 70)).alloc (.cells #[.int .u64 0, .bool false, .int .i64 0] 88)
    have hlt := HB.out.lt
    have hlt2 := HM.out.lt
    have hsz := ho.size
    have HM1 := Lib.hid (HM.out.only ho1 (by simp) (by simp))
    have HB1 := Lib.hid (Blk.only HB.out ho1 (by simp))
    have HR1 := Lib.hid (Blk.new' (w1.alloc (.cells #[.int .i64 2, .int .i64 (a + 1), .int .u64 (IntKind.u64.wrap (tk + 1)), .int .u64 0] 70)) 88 #[.int .u64 0, .bool false, .int .i64 0] (g := w1.heap.size + 1) (by simp))
    have HO1 := Lib.hid ho1
    clear ho ho1
    go_wp2_with fail
    refine (do_to HM1.out HA.out).mono ?_
    rintro e w2 ⟨rfl, ho, hm'⟩
    have hr := HR1.out.only ho (by simp; omega)
    have hb2 := Blk.only HB1.out ho (by have := HD.out; simp; omega)
    have q0 := hr.at 0 rfl
    have q1 := hr.at 1 rfl
    have q2 := hr.at 2 rfl
    have f0 := hr.frozen 0
    have f1 := hr.frozen 1
    have f2 := hr.frozen 2
    have hb3 := ((hb2.far (p := ⟨w1.heap.size + 1, 0, none⟩) (by simp; omega) (.int .u64 v)).far (p := ⟨w1.heap.size + 1, 1, none⟩) (by simp; omega) (.bool ok)).far (p := ⟨w1.heap.size + 1, 2, none⟩) (by simp; omega) (.int .i64 0)
    have ho3 := (((HO1.out.sub (T := [b, mb, ms]) (List.nil_subset _)).then ho (by simp)).setCell (p := ⟨w1.heap.size + 1, 0, none⟩) (.inr (by simp; omega)) (.int .u64 v)).setCell (p := ⟨w1.heap.size + 1, 1, none⟩) (.inr (by simp; omega)) (.bool ok) |>.setCell (p := ⟨w1.heap.size + 1, 2, none⟩) (.inr (by simp; omega)) (.int .i64 0)
    have hm3 := hm'.only (((Only.refl [w1.heap.size + 1] w2).setCell (p := ⟨w1.heap.size + 1, 0, none⟩) (by simp) (.int .u64 v)).setCell (p := ⟨w1.heap.size + 1, 1, none⟩) (by simp) (.bool ok) |>.setCell (p := ⟨w1.heap.size + 1, 2, none⟩) (by simp) (.int .i64 0)) (by simp; omega) (by simp; omega)
    have c1 := hb3.at 1 rfl
    have c2 := hb3.at 2 rfl
    have g1 := hb3.frozen 1
    have g2 := hb3.frozen 2
    have HO3 := Lib.hid ho3
    have HB3 := Lib.hid hb3
    have HM3 := Lib.hid hm3
    clear ho hm' hr hb2 hb3  ho3 hm3
    go_wp2
    go_region
    all_goals go_wp2
    go_step3
    go_wp2_with fail
    have hb5 := Blk.set (HB3.out.drew) 1 (.int .i64 3)
    have hm5 := (HM3.out.only (Only.refl [] _).drew (by simp) (by simp)).only ((Only.refl [b] _).setCell (p := ⟨b, 1, none⟩) (by simp) (.int .i64 3)) (by simpa using HD.out.1.symm) (by simpa using HD.out.2.symm)
    have ho5 := (HO3.out.drew).setCell (p := ⟨b, 1, none⟩) (by simp) (.int .i64 3)
    refine (tstate_at _ b ⟨a, 3, tk, true⟩ ?hb).mono ?_
    case hb => first | exact hb5 | (have := hb5; simpa [IsH] using this)
    rintro e w6 ⟨rfl, ho⟩
    have HO6 := Lib.hid (ho5.then ho (by simp))
    have hb6 : IsH w6 b ⟨a, 3, tk, true⟩ := by have := Blk.only hb5 ho (by simp); simpa [IsH] using this
    have HB6 := Lib.hid hb6
    have HM6 := Lib.hid (hm5.only ho (by simp) (by simp))
    clear ho ho5 hm5 hb5 hb6
    go_wp2
    simp only [Exit.jump]
    go_ret
    exact ⟨rfl, HO6.out, HB6.out, HM6.out⟩
  · rintro a' w' ⟨⟨ho, hb, hm⟩, u1, u2, u3, u4, u5, u6, u7, u8, u9, u10, u11, u12, u13, u14, u15, u16, u17, u18, u19, u20, u21, u22, u23, u24, u25, u26, u27, u28, u29, u30, u31, u32, u33, u34, u35, u36, u37, u38, u39, u40, u41, u42, u43, u44, u45, u46, u47, u48, u49, u50, u51, u52, u53, u54, u55, u56, u57, u58, u59, u60, u61, u62, rfl⟩
    have HO := Lib.hid ho
    have HB := Lib.hid hb
    have HM := Lib.hid hm
    clear ho hb hm
    go_wp2_with fail
    refine (tstate_at _ b _ HB.out).mono ?_
    rintro e w1 ⟨rfl, ho⟩
    have HO2 := Lib.hid (HO.out.then ho (by simp))
    have HB2 := Lib.hid (Blk.only HB.out ho (by simp))
    have HM2 := Lib.hid (HM.out.only ho (by simp) (by simp))
    clear ho
    go_wp2
    simp only [Exit.jump]
    go_ret
    exact ⟨rfl, HO2.out, HB2.out, HM2.out⟩

end Go.Proofs.Ytabbnfodolekpaa
