/- The walks of the document's ticket holder (package matryoshkaref05). Written by rtick.py. -/
import Derived.Test.YtabbnfodolekpaaTick4
import Derived.Test.YtabbnfodolekpaaRef2
namespace Go.Proofs.Ytabbnfodolekpaa
open Go.RowKit

/-- At block b lies a matryoshkaref05.Holder. -/
def IsRH (w : World) (b : Nat) (h : HS) : Prop := Blk w b 75 #[.int .i64 h.at_, .int .i64 h.st, .int .u64 h.tk, .bool h.wish]

theorem rdo_to {w : World} {b s : Nat} {m m' : MS} {k i x y v er : Int} {ok : Bool} (hm : IsRef w b s m) (h : m.act ⟨k, i, x, y⟩ = (m', ⟨v, ok, er⟩)) :
    Calls Try.prog 45 #[.pointer (some ⟨b, 0, none⟩), .agg #[.int .i64 k, .int .i64 i, .int .u64 x, .int .u64 y]] w fun e w' => e = .returned (.agg #[.int .u64 v, .bool ok, .int .i64 er]) ∧ Only [b, s] w w' ∧ IsRef w' b s m' := by
  have := rdo_any w b s m ⟨k, i, x, y⟩ hm
  rwa [h] at this

theorem rtleave_any (w : World) (b : Nat) (h : HS) (hb : IsRH w b h) : Calls Try.prog 37 #[.pointer (some ⟨b, 0, none⟩)] w fun e w' => e = .returned (.bool h.leave.2) ∧ Only [b] w w' ∧ IsRH w' b h.leave.1 := by
  obtain ⟨a, st, tk, wish⟩ := h
  have c1 := hb.at 1 rfl
  have c3 := hb.at 3 rfl
  have f3 := hb.frozen 3
  have HB := Lib.hid hb
  clear hb
  by_cases h2 : st = 2
  · subst h2
    cases wish
    · go_enter Try.func37, Try.ntmps37
      go_wp2
      go_ret
      exact ⟨rfl, (Only.refl _ _).setCell (by simp) _, by have := Blk.set HB.out 3 (.bool true); simpa [IsRH, HS.leave] using this⟩
    · go_enter Try.func37, Try.ntmps37
      go_wp2
      go_ret
      exact ⟨rfl, Only.refl _ _, HB.out⟩
  · have g2 : (st != 2) = true := by simpa using h2
    have e : HS.leave ⟨a, st, tk, wish⟩ = (⟨a, st, tk, wish⟩, false) := by simp [HS.leave, h2]
    rw [e]
    clear h2 e
    go_enter Try.func37, Try.ntmps37
    go_wp2
    go_ret
    exact ⟨rfl, Only.refl _ _, HB.out⟩

theorem rtnext_0 (w : World) (b : Nat) (a tk : Int) (wish : Bool) (_h0 : 0 ≤ a) (_h1 : a ≤ 65000) (hb' : Blk w b 75 #[.int .i64 a, .int .i64 0, .int .u64 tk, .bool wish]) :
    Calls Try.prog 38 #[.pointer (some ⟨b, 0, none⟩)] w fun e w' => e = .returned (.agg #[.int .i64 4, .int .i64 a, .int .u64 1, .int .u64 0]) ∧ Only [] w w' := by
  have hb := hb'.alloc (.cells #[.int .i64 0, .int .i64 0, .int .u64 0, .int .u64 0] 70)
  have c0 := hb.at 0 rfl
  have c1 := hb.at 1 rfl
  have c2 := hb.at 2 rfl
  have c3 := hb.at 3 rfl
  have hlt := hb'.lt
  clear hb hb'
  go_enter Try.func38, Try.ntmps38
  go_wp2
  refine bodyPost_ret (v := .agg #[.int .i64 4, .int .i64 a, .int .u64 1, .int .u64 0]) (by simp [results, Try.results38, go_sem]) rfl ⟨rfl, ?_⟩
  repeat (first | exact Only.refl _ _ | apply Only.alloc | apply Only.drew | refine Only.setCell ?_ (.inr (Nat.le_refl _)) _)

theorem rtnext_1 (w : World) (b : Nat) (a tk : Int) (wish : Bool) (h0 : 0 ≤ a) (h1 : a ≤ 65000) (hb' : Blk w b 75 #[.int .i64 a, .int .i64 1, .int .u64 tk, .bool wish]) :
    Calls Try.prog 38 #[.pointer (some ⟨b, 0, none⟩)] w fun e w' => e = .returned (.agg #[.int .i64 1, .int .i64 (a + 1), .int .u64 0, .int .u64 0]) ∧ Only [] w w' := by
  have hb := hb'.alloc (.cells #[.int .i64 0, .int .i64 0, .int .u64 0, .int .u64 0] 70)
  have c0 := hb.at 0 rfl
  have c1 := hb.at 1 rfl
  have c2 := hb.at 2 rfl
  have c3 := hb.at 3 rfl
  have hlt := hb'.lt
  clear hb hb'
  go_enter Try.func38, Try.ntmps38
  go_wp2
  refine bodyPost_ret (v := .agg #[.int .i64 1, .int .i64 (a + 1), .int .u64 0, .int .u64 0]) (by simp [results, Try.results38, go_sem]) rfl ⟨rfl, ?_⟩
  repeat (first | exact Only.refl _ _ | apply Only.alloc | apply Only.drew | refine Only.setCell ?_ (.inr (Nat.le_refl _)) _)

theorem rtnext_2f (w : World) (b : Nat) (a tk : Int) (_h0 : 0 ≤ a) (_h1 : a ≤ 65000) (hb' : Blk w b 75 #[.int .i64 a, .int .i64 2, .int .u64 tk, .bool false]) :
    Calls Try.prog 38 #[.pointer (some ⟨b, 0, none⟩)] w fun e w' => e = .returned (.agg #[.int .i64 0, .int .i64 0, .int .u64 0, .int .u64 0]) ∧ Only [] w w' := by
  have hb := hb'.alloc (.cells #[.int .i64 0, .int .i64 0, .int .u64 0, .int .u64 0] 70)
  have c0 := hb.at 0 rfl
  have c1 := hb.at 1 rfl
  have c2 := hb.at 2 rfl
  have c3 := hb.at 3 rfl
  have hlt := hb'.lt
  clear hb hb'
  go_enter Try.func38, Try.ntmps38
  go_wp2
  refine bodyPost_ret (v := .agg #[.int .i64 0, .int .i64 0, .int .u64 0, .int .u64 0]) (by simp [results, Try.results38, go_sem]) rfl ⟨rfl, ?_⟩
  repeat (first | exact Only.refl _ _ | apply Only.alloc | apply Only.drew | refine Only.setCell ?_ (.inr (Nat.le_refl _)) _)

theorem rtnext_2t (w : World) (b : Nat) (a tk : Int) (h0 : 0 ≤ a) (h1 : a ≤ 65000) (hb' : Blk w b 75 #[.int .i64 a, .int .i64 2, .int .u64 tk, .bool true]) :
    Calls Try.prog 38 #[.pointer (some ⟨b, 0, none⟩)] w fun e w' => e = .returned (.agg #[.int .i64 2, .int .i64 (a + 1), .int .u64 (IntKind.u64.wrap (tk + 1)), .int .u64 0]) ∧ Only [] w w' := by
  have hb := hb'.alloc (.cells #[.int .i64 0, .int .i64 0, .int .u64 0, .int .u64 0] 70)
  have c0 := hb.at 0 rfl
  have c1 := hb.at 1 rfl
  have c2 := hb.at 2 rfl
  have c3 := hb.at 3 rfl
  have hlt := hb'.lt
  clear hb hb'
  go_enter Try.func38, Try.ntmps38
  go_wp2
  go_region
  all_goals go_wp2
  refine bodyPost_ret (v := .agg #[.int .i64 2, .int .i64 (a + 1), .int .u64 (IntKind.u64.wrap (tk + 1)), .int .u64 0]) (by simp [results, Try.results38, go_sem]) rfl ⟨rfl, ?_⟩
  repeat (first | exact Only.refl _ _ | apply Only.alloc | apply Only.drew | refine Only.setCell ?_ (.inr (Nat.le_refl _)) _)

theorem rtnext_x (w : World) (b : Nat) (a st tk : Int) (wish : Bool) (_h0 : 0 ≤ a) (_h1 : a ≤ 65000) (g0 : (st == 0) = false) (g1 : (st == 1) = false) (g2 : (st == 2) = false) (hb' : Blk w b 75 #[.int .i64 a, .int .i64 st, .int .u64 tk, .bool wish]) :
    Calls Try.prog 38 #[.pointer (some ⟨b, 0, none⟩)] w fun e w' => e = .returned (.agg #[.int .i64 0, .int .i64 0, .int .u64 0, .int .u64 0]) ∧ Only [] w w' := by
  have hb := hb'.alloc (.cells #[.int .i64 0, .int .i64 0, .int .u64 0, .int .u64 0] 70)
  have c0 := hb.at 0 rfl
  have c1 := hb.at 1 rfl
  have c2 := hb.at 2 rfl
  have c3 := hb.at 3 rfl
  have hlt := hb'.lt
  clear hb hb'
  go_enter Try.func38, Try.ntmps38
  go_wp2
  refine bodyPost_ret (v := .agg #[.int .i64 0, .int .i64 0, .int .u64 0, .int .u64 0]) (by simp [results, Try.results38, go_sem]) rfl ⟨rfl, ?_⟩
  repeat (first | exact Only.refl _ _ | apply Only.alloc | apply Only.drew | refine Only.setCell ?_ (.inr (Nat.le_refl _)) _)

theorem rtnext_any (w : World) (b : Nat) (h : HS) (h0 : 0 ≤ h.at_) (h1 : h.at_ ≤ 65000) (hb : IsRH w b h) :
    Calls Try.prog 38 #[.pointer (some ⟨b, 0, none⟩)] w fun e w' => e = .returned h.next.val ∧ Only [] w w' := by
  obtain ⟨a, st, tk, wish⟩ := h
  by_cases e0 : st = 0
  · subst e0; exact rtnext_0 w b a tk wish h0 h1 hb
  by_cases e1 : st = 1
  · subst e1; exact rtnext_1 w b a tk wish h0 h1 hb
  by_cases e2 : st = 2
  · subst e2
    cases wish
    · exact rtnext_2f w b a tk h0 h1 hb
    · exact rtnext_2t w b a tk h0 h1 hb
  · have e : (HS.next ⟨a, st, tk, wish⟩) = ⟨0, 0, 0, 0⟩ := by simp [HS.next, e0, e1, e2]
    rw [e]
    exact rtnext_x w b a st tk wish h0 h1 (by simpa using e0) (by simpa using e1) (by simpa using e2) hb

theorem rtstep_zero (w : World) (b rb rs : Nat) (h : HS) (m : MS) (hb : IsRH w b h) (hm : IsRef w rb rs m)
    (hnx : Calls Try.prog 38 #[.pointer (some ⟨b, 0, none⟩)] w fun e w' => e = .returned (.agg #[.int .i64 0, .int .i64 0, .int .u64 0, .int .u64 0]) ∧ Only [] w w') :
    Calls Try.prog 39 #[.pointer (some ⟨b, 0, none⟩), .pointer (some ⟨rb, 0, none⟩)] w fun e w' => e = .returned (.int .i64 h.st) ∧ Only [b, rb, rs] w w' ∧ IsRH w' b h ∧ IsRef w' rb rs m := by
  have HB := Lib.hid hb
  have HM := Lib.hid hm
  have HN := Lib.hid hnx
  clear hb hm hnx
  go_enter Try.func39, Try.ntmps39
  go_wp2_with fail
  refine HN.out.mono ?_
  rintro e w1 ⟨rfl, ho⟩
  have ho1 := ho.alloc (.cells #[.int .i64 0, .int .i64 0, .int .u64 0, .int .u64 0] 70)
  have hb1 : IsRH _ b h := Blk.only HB.out ho1 (by simp)
  have c1 := hb1.at 1 rfl
  have HB1 := Lib.hid hb1
  have HO1 := Lib.hid ho1
  have HM1 := Lib.hid (HM.out.only ho1 (by simp) (by simp))
  clear ho ho1 hb1
  go_wp2
  go_ret
  exact ⟨rfl, HO1.out.sub (by simp), HB1.out, HM1.out⟩

set_option maxHeartbeats 2000000 in
set_option maxRecDepth 100000 in
theorem rtstep_0e (w : World) (b rb rs : Nat) (a tk v er : Int) (ok : Bool) (wish : Bool) (m m' : MS) (h0 : 0 ≤ a) (h1 : a ≤ 65000) (hd : b ≠ rb ∧ b ≠ rs) (hb : IsRH w b ⟨a, 0, tk, wish⟩) (hm : IsRef w rb rs m)
    (hact : m.act ⟨4, a, 1, 0⟩ = (m', ⟨v, ok, er⟩)) (he : (er != 0) = true) :
    Calls Try.prog 39 #[.pointer (some ⟨b, 0, none⟩), .pointer (some ⟨rb, 0, none⟩)] w fun e w' => e = .returned (.int .i64 3) ∧ Only [b, rb, rs] w w' ∧ IsRH w' b ⟨a, 3, tk, wish⟩ ∧ IsRef w' rb rs m' := by
  have HB := Lib.hid hb
  have HM := Lib.hid hm
  have HA := Lib.hid hact
  have HD := Lib.hid hd
  clear hb hm hact hd
  go_enter Try.func39, Try.ntmps39
  go_wp2_with fail
  refine (rtnext_0 _ b a tk wish h0 h1 HB.out).mono ?_
  rintro e w1 ⟨rfl, ho⟩
  have ho1 := ho.alloc (.cells #[.int .i64 4, .int .i64 (a), .int .u64 (1), .int .u64 0] 70)
  have HM1 := Lib.hid (HM.out.only ho1 (by simp) (by simp))
  have HB1 := Lib.hid (Blk.only HB.out ho1 (by simp))
  have HO1 := Lib.hid ho1
  clear ho ho1
  go_wp2_with fail
  refine (rdo_to HM1.out HA.out).mono ?_
  rintro e w2 ⟨rfl, ho, hm'⟩
  have ho2 := ((HO1.out.sub (T := [b, rb, rs]) (List.nil_subset _)).then ho (by simp)).alloc (.cells #[.int .u64 v, .bool ok, .int .i64 er] 90)
  have hb2 := Blk.alloc (Blk.only HB1.out ho (by have := HD.out; simp; omega)) (.cells #[.int .u64 v, .bool ok, .int .i64 er] 90)
  have hm2 := hm'.only ((Only.refl [] w2).alloc (.cells #[.int .u64 v, .bool ok, .int .i64 er] 90)) (by simp) (by simp)
  have c1 := hb2.at 1 rfl
  have c2 := hb2.at 2 rfl
  have f1 := hb2.frozen 1
  have f2 := hb2.frozen 2
  have HO3 := Lib.hid ho2
  have HB3 := Lib.hid hb2
  have HM3 := Lib.hid hm2
  clear ho hm' ho2 hb2 hm2
  go_wp2
  go_ret
  exact ⟨rfl, (Only.setCell HO3.out (p := ⟨b, 1, none⟩) (by simp) (.int .i64 3)), by have := (Blk.set (HB3.out) 1 (.int .i64 3)); simpa [IsRH] using this, HM3.out.only ((Only.setCell (Only.refl [b] _) (p := ⟨b, 1, none⟩) (by simp) (.int .i64 3))) (by simpa using HD.out.1.symm) (by simpa using HD.out.2.symm)⟩

set_option maxHeartbeats 2000000 in
set_option maxRecDepth 100000 in
theorem rtstep_0 (w : World) (b rb rs : Nat) (a tk v : Int) (ok : Bool) (wish : Bool) (m m' : MS) (h0 : 0 ≤ a) (h1 : a ≤ 65000) (hd : b ≠ rb ∧ b ≠ rs) (hb : IsRH w b ⟨a, 0, tk, wish⟩) (hm : IsRef w rb rs m)
    (hact : m.act ⟨4, a, 1, 0⟩ = (m', ⟨v, ok, 0⟩)) :
    Calls Try.prog 39 #[.pointer (some ⟨b, 0, none⟩), .pointer (some ⟨rb, 0, none⟩)] w fun e w' => e = .returned (.int .i64 1) ∧ Only [b, rb, rs] w w' ∧ IsRH w' b ⟨a, 1, v, wish⟩ ∧ IsRef w' rb rs m' := by
  have HB := Lib.hid hb
  have HM := Lib.hid hm
  have HA := Lib.hid hact
  have HD := Lib.hid hd
  clear hb hm hact hd
  go_enter Try.func39, Try.ntmps39
  go_wp2_with fail
  refine (rtnext_0 _ b a tk wish h0 h1 HB.out).mono ?_
  rintro e w1 ⟨rfl, ho⟩
  have ho1 := ho.alloc (.cells #[.int .i64 4, .int .i64 (a), .int .u64 (1), .int .u64 0] 70)
  have HM1 := Lib.hid (HM.out.only ho1 (by simp) (by simp))
  have HB1 := Lib.hid (Blk.only HB.out ho1 (by simp))
  have HO1 := Lib.hid ho1
  clear ho ho1
  go_wp2_with fail
  refine (rdo_to HM1.out HA.out).mono ?_
  rintro e w2 ⟨rfl, ho, hm'⟩
  have ho2 := ((HO1.out.sub (T := [b, rb, rs]) (List.nil_subset _)).then ho (by simp)).alloc (.cells #[.int .u64 v, .bool ok, .int .i64 0] 90)
  have hb2 := Blk.alloc (Blk.only HB1.out ho (by have := HD.out; simp; omega)) (.cells #[.int .u64 v, .bool ok, .int .i64 0] 90)
  have hm2 := hm'.only ((Only.refl [] w2).alloc (.cells #[.int .u64 v, .bool ok, .int .i64 0] 90)) (by simp) (by simp)
  have c1 := hb2.at 1 rfl
  have c2 := hb2.at 2 rfl
  have f1 := hb2.frozen 1
  have f2 := hb2.frozen 2
  have HO3 := Lib.hid ho2
  have HB3 := Lib.hid hb2
  have HM3 := Lib.hid hm2
  clear ho hm' ho2 hb2 hm2
  go_wp2
  go_ret
  exact ⟨rfl, (Only.setCell (Only.setCell HO3.out (p := ⟨b, 2, none⟩) (by simp) (.int .u64 v)) (p := ⟨b, 1, none⟩) (by simp) (.int .i64 1)), by have := (Blk.set ((Blk.set (HB3.out) 2 (.int .u64 v))) 1 (.int .i64 1)); simpa [IsRH] using this, HM3.out.only ((Only.setCell (Only.setCell (Only.refl [b] _) (p := ⟨b, 2, none⟩) (by simp) (.int .u64 v)) (p := ⟨b, 1, none⟩) (by simp) (.int .i64 1))) (by simpa using HD.out.1.symm) (by simpa using HD.out.2.symm)⟩

set_option maxHeartbeats 2000000 in
set_option maxRecDepth 100000 in
theorem rtstep_1e (w : World) (b rb rs : Nat) (a tk v er : Int) (ok : Bool) (wish : Bool) (m m' : MS) (h0 : 0 ≤ a) (h1 : a ≤ 65000) (hd : b ≠ rb ∧ b ≠ rs) (hb : IsRH w b ⟨a, 1, tk, wish⟩) (hm : IsRef w rb rs m)
    (hact : m.act ⟨1, a + 1, 0, 0⟩ = (m', ⟨v, ok, er⟩)) (he : (er != 0) = true) :
    Calls Try.prog 39 #[.pointer (some ⟨b, 0, none⟩), .pointer (some ⟨rb, 0, none⟩)] w fun e w' => e = .returned (.int .i64 3) ∧ Only [b, rb, rs] w w' ∧ IsRH w' b ⟨a, 3, tk, wish⟩ ∧ IsRef w' rb rs m' := by
  have HB := Lib.hid hb
  have HM := Lib.hid hm
  have HA := Lib.hid hact
  have HD := Lib.hid hd
  clear hb hm hact hd
  go_enter Try.func39, Try.ntmps39
  go_wp2_with fail
  refine (rtnext_1 _ b a tk wish h0 h1 HB.out).mono ?_
  rintro e w1 ⟨rfl, ho⟩
  have ho1 := ho.alloc (.cells #[.int .i64 1, .int .i64 (a + 1), .int .u64 (0), .int .u64 0] 70)
  have HM1 := Lib.hid (HM.out.only ho1 (by simp) (by simp))
  have HB1 := Lib.hid (Blk.only HB.out ho1 (by simp))
  have HO1 := Lib.hid ho1
  clear ho ho1
  go_wp2_with fail
  refine (rdo_to HM1.out HA.out).mono ?_
  rintro e w2 ⟨rfl, ho, hm'⟩
  have ho2 := ((HO1.out.sub (T := [b, rb, rs]) (List.nil_subset _)).then ho (by simp)).alloc (.cells #[.int .u64 v, .bool ok, .int .i64 er] 90)
  have hb2 := Blk.alloc (Blk.only HB1.out ho (by have := HD.out; simp; omega)) (.cells #[.int .u64 v, .bool ok, .int .i64 er] 90)
  have hm2 := hm'.only ((Only.refl [] w2).alloc (.cells #[.int .u64 v, .bool ok, .int .i64 er] 90)) (by simp) (by simp)
  have c1 := hb2.at 1 rfl
  have c2 := hb2.at 2 rfl
  have f1 := hb2.frozen 1
  have f2 := hb2.frozen 2
  have HO3 := Lib.hid ho2
  have HB3 := Lib.hid hb2
  have HM3 := Lib.hid hm2
  clear ho hm' ho2 hb2 hm2
  go_wp2
  go_ret
  exact ⟨rfl, (Only.setCell HO3.out (p := ⟨b, 1, none⟩) (by simp) (.int .i64 3)), by have := (Blk.set (HB3.out) 1 (.int .i64 3)); simpa [IsRH] using this, HM3.out.only ((Only.setCell (Only.refl [b] _) (p := ⟨b, 1, none⟩) (by simp) (.int .i64 3))) (by simpa using HD.out.1.symm) (by simpa using HD.out.2.symm)⟩

set_option maxHeartbeats 2000000 in
set_option maxRecDepth 100000 in
theorem rtstep_1n (w : World) (b rb rs : Nat) (a tk v : Int) (ok : Bool) (wish : Bool) (m m' : MS) (h0 : 0 ≤ a) (h1 : a ≤ 65000) (hd : b ≠ rb ∧ b ≠ rs) (hb : IsRH w b ⟨a, 1, tk, wish⟩) (hm : IsRef w rb rs m)
    (hact : m.act ⟨1, a + 1, 0, 0⟩ = (m', ⟨v, ok, 0⟩)) (hv : (v == tk) = false) :
    Calls Try.prog 39 #[.pointer (some ⟨b, 0, none⟩), .pointer (some ⟨rb, 0, none⟩)] w fun e w' => e = .returned (.int .i64 1) ∧ Only [b, rb, rs] w w' ∧ IsRH w' b ⟨a, 1, tk, wish⟩ ∧ IsRef w' rb rs m' := by
  have HB := Lib.hid hb
  have HM := Lib.hid hm
  have HA := Lib.hid hact
  have HD := Lib.hid hd
  clear hb hm hact hd
  go_enter Try.func39, Try.ntmps39
  go_wp2_with fail
  refine (rtnext_1 _ b a tk wish h0 h1 HB.out).mono ?_
  rintro e w1 ⟨rfl, ho⟩
  have ho1 := ho.alloc (.cells #[.int .i64 1, .int .i64 (a + 1), .int .u64 (0), .int .u64 0] 70)
  have HM1 := Lib.hid (HM.out.only ho1 (by simp) (by simp))
  have HB1 := Lib.hid (Blk.only HB.out ho1 (by simp))
  have HO1 := Lib.hid ho1
  clear ho ho1
  go_wp2_with fail
  refine (rdo_to HM1.out HA.out).mono ?_
  rintro e w2 ⟨rfl, ho, hm'⟩
  have ho2 := ((HO1.out.sub (T := [b, rb, rs]) (List.nil_subset _)).then ho (by simp)).alloc (.cells #[.int .u64 v, .bool ok, .int .i64 0] 90)
  have hb2 := Blk.alloc (Blk.only HB1.out ho (by have := HD.out; simp; omega)) (.cells #[.int .u64 v, .bool ok, .int .i64 0] 90)
  have hm2 := hm'.only ((Only.refl [] w2).alloc (.cells #[.int .u64 v, .bool ok, .int .i64 0] 90)) (by simp) (by simp)
  have c1 := hb2.at 1 rfl
  have c2 := hb2.at 2 rfl
  have f1 := hb2.frozen 1
  have f2 := hb2.frozen 2
  have HO3 := Lib.hid ho2
  have HB3 := Lib.hid hb2
  have HM3 := Lib.hid hm2
  clear ho hm' ho2 hb2 hm2
  go_wp2
  go_region
  all_goals go_wp2
  go_ret
  exact ⟨rfl, HO3.out.drew, by have := HB3.out; simpa [IsRH] using Blk.drew this, HM3.out.only (Only.refl [] _).drew (by simp) (by simp)⟩

set_option maxHeartbeats 2000000 in
set_option maxRecDepth 100000 in
theorem rtstep_1y (w : World) (b rb rs : Nat) (a tk v : Int) (ok : Bool) (wish : Bool) (m m' : MS) (h0 : 0 ≤ a) (h1 : a ≤ 65000) (hd : b ≠ rb ∧ b ≠ rs) (hb : IsRH w b ⟨a, 1, tk, wish⟩) (hm : IsRef w rb rs m)
    (hact : m.act ⟨1, a + 1, 0, 0⟩ = (m', ⟨v, ok, 0⟩)) (hv : (v == tk) = true) :
    Calls Try.prog 39 #[.pointer (some ⟨b, 0, none⟩), .pointer (some ⟨rb, 0, none⟩)] w fun e w' => e = .returned (.int .i64 2) ∧ Only [b, rb, rs] w w' ∧ IsRH w' b ⟨a, 2, tk, wish⟩ ∧ IsRef w' rb rs m' := by
  have HB := Lib.hid hb
  have HM := Lib.hid hm
  have HA := Lib.hid hact
  have HD := Lib.hid hd
  clear hb hm hact hd
  go_enter Try.func39, Try.ntmps39
  go_wp2_with fail
  refine (rtnext_1 _ b a tk wish h0 h1 HB.out).mono ?_
  rintro e w1 ⟨rfl, ho⟩
  have ho1 := ho.alloc (.cells #[.int .i64 1, .int .i64 (a + 1), .int .u64 (0), .int .u64 0] 70)
  have HM1 := Lib.hid (HM.out.only ho1 (by simp) (by simp))
  have HB1 := Lib.hid (Blk.only HB.out ho1 (by simp))
  have HO1 := Lib.hid ho1
  clear ho ho1
  go_wp2_with fail
  refine (rdo_to HM1.out HA.out).mono ?_
  rintro e w2 ⟨rfl, ho, hm'⟩
  have ho2 := ((HO1.out.sub (T := [b, rb, rs]) (List.nil_subset _)).then ho (by simp)).alloc (.cells #[.int .u64 v, .bool ok, .int .i64 0] 90)
  have hb2 := Blk.alloc (Blk.only HB1.out ho (by have := HD.out; simp; omega)) (.cells #[.int .u64 v, .bool ok, .int .i64 0] 90)
  have hm2 := hm'.only ((Only.refl [] w2).alloc (.cells #[.int .u64 v, .bool ok, .int .i64 0] 90)) (by simp) (by simp)
  have c1 := hb2.at 1 rfl
  have c2 := hb2.at 2 rfl
  have f1 := hb2.frozen 1
  have f2 := hb2.frozen 2
  have HO3 := Lib.hid ho2
  have HB3 := Lib.hid hb2
  have HM3 := Lib.hid hm2
  clear ho hm' ho2 hb2 hm2
  go_wp2
  go_region
  all_goals go_wp2
  go_ret
  exact ⟨rfl, (Only.setCell HO3.out (p := ⟨b, 1, none⟩) (by simp) (.int .i64 2)).drew, by have := (Blk.set (HB3.out) 1 (.int .i64 2)); simpa [IsRH] using Blk.drew this, HM3.out.only ((Only.setCell (Only.refl [b] _) (p := ⟨b, 1, none⟩) (by simp) (.int .i64 2)).drew) (by simpa using HD.out.1.symm) (by simpa using HD.out.2.symm)⟩

set_option maxHeartbeats 2000000 in
set_option maxRecDepth 100000 in
theorem rtstep_2e (w : World) (b rb rs : Nat) (a tk v er : Int) (ok : Bool) (m m' : MS) (h0 : 0 ≤ a) (h1 : a ≤ 65000) (hd : b ≠ rb ∧ b ≠ rs) (hb : IsRH w b ⟨a, 2, tk, true⟩) (hm : IsRef w rb rs m)
    (hact : m.act ⟨2, a + 1, IntKind.u64.wrap (tk + 1), 0⟩ = (m', ⟨v, ok, er⟩)) (he : (er != 0) = true) :
    Calls Try.prog 39 #[.pointer (some ⟨b, 0, none⟩), .pointer (some ⟨rb, 0, none⟩)] w fun e w' => e = .returned (.int .i64 3) ∧ Only [b, rb, rs] w w' ∧ IsRH w' b ⟨a, 3, tk, true⟩ ∧ IsRef w' rb rs m' := by
  have HB := Lib.hid hb
  have HM := Lib.hid hm
  have HA := Lib.hid hact
  have HD := Lib.hid hd
  clear hb hm hact hd
  go_enter Try.func39, Try.ntmps39
  go_wp2_with fail
  refine (rtnext_2t _ b a tk h0 h1 HB.out).mono ?_
  rintro e w1 ⟨rfl, ho⟩
  have ho1 := ho.alloc (.cells #[.int .i64 2, .int .i64 (a + 1), .int .u64 (IntKind.u64.wrap (tk + 1)), .int .u64 0] 70)
  have HM1 := Lib.hid (HM.out.only ho1 (by simp) (by simp))
  have HB1 := Lib.hid (Blk.only HB.out ho1 (by simp))
  have HO1 := Lib.hid ho1
  clear ho ho1
  go_wp2_with fail
  refine (rdo_to HM1.out HA.out).mono ?_
  rintro e w2 ⟨rfl, ho, hm'⟩
  have ho2 := ((HO1.out.sub (T := [b, rb, rs]) (List.nil_subset _)).then ho (by simp)).alloc (.cells #[.int .u64 v, .bool ok, .int .i64 er] 90)
  have hb2 := Blk.alloc (Blk.only HB1.out ho (by have := HD.out; simp; omega)) (.cells #[.int .u64 v, .bool ok, .int .i64 er] 90)
  have hm2 := hm'.only ((Only.refl [] w2).alloc (.cells #[.int .u64 v, .bool ok, .int .i64 er] 90)) (by simp) (by simp)
  have c1 := hb2.at 1 rfl
  have c2 := hb2.at 2 rfl
  have f1 := hb2.frozen 1
  have f2 := hb2.frozen 2
  have HO3 := Lib.hid ho2
  have HB3 := Lib.hid hb2
  have HM3 := Lib.hid hm2
  clear ho hm' ho2 hb2 hm2
  go_wp2
  go_ret
  exact ⟨rfl, (Only.setCell HO3.out (p := ⟨b, 1, none⟩) (by simp) (.int .i64 3)), by have := (Blk.set (HB3.out) 1 (.int .i64 3)); simpa [IsRH] using this, HM3.out.only ((Only.setCell (Only.refl [b] _) (p := ⟨b, 1, none⟩) (by simp) (.int .i64 3))) (by simpa using HD.out.1.symm) (by simpa using HD.out.2.symm)⟩

set_option maxHeartbeats 2000000 in
set_option maxRecDepth 100000 in
theorem rtstep_2 (w : World) (b rb rs : Nat) (a tk v : Int) (ok : Bool) (m m' : MS) (h0 : 0 ≤ a) (h1 : a ≤ 65000) (hd : b ≠ rb ∧ b ≠ rs) (hb : IsRH w b ⟨a, 2, tk, true⟩) (hm : IsRef w rb rs m)
    (hact : m.act ⟨2, a + 1, IntKind.u64.wrap (tk + 1), 0⟩ = (m', ⟨v, ok, 0⟩)) :
    Calls Try.prog 39 #[.pointer (some ⟨b, 0, none⟩), .pointer (some ⟨rb, 0, none⟩)] w fun e w' => e = .returned (.int .i64 3) ∧ Only [b, rb, rs] w w' ∧ IsRH w' b ⟨a, 3, tk, true⟩ ∧ IsRef w' rb rs m' := by
  have HB := Lib.hid hb
  have HM := Lib.hid hm
  have HA := Lib.hid hact
  have HD := Lib.hid hd
  clear hb hm hact hd
  go_enter Try.func39, Try.ntmps39
  go_wp2_with fail
  refine (rtnext_2t _ b a tk h0 h1 HB.out).mono ?_
  rintro e w1 ⟨rfl, ho⟩
  have ho1 := ho.alloc (.cells #[.int .i64 2, .int .i64 (a + 1), .int .u64 (IntKind.u64.wrap (tk + 1)), .int .u64 0] 70)
  have HM1 := Lib.hid (HM.out.only ho1 (by simp) (by simp))
  have HB1 := Lib.hid (Blk.only HB.out ho1 (by simp))
  have HO1 := Lib.hid ho1
  clear ho ho1
  go_wp2_with fail
  refine (rdo_to HM1.out HA.out).mono ?_
  rintro e w2 ⟨rfl, ho, hm'⟩
  have ho2 := ((HO1.out.sub (T := [b, rb, rs]) (List.nil_subset _)).then ho (by simp)).alloc (.cells #[.int .u64 v, .bool ok, .int .i64 0] 90)
  have hb2 := Blk.alloc (Blk.only HB1.out ho (by have := HD.out; simp; omega)) (.cells #[.int .u64 v, .bool ok, .int .i64 0] 90)
  have hm2 := hm'.only ((Only.refl [] w2).alloc (.cells #[.int .u64 v, .bool ok, .int .i64 0] 90)) (by simp) (by simp)
  have c1 := hb2.at 1 rfl
  have c2 := hb2.at 2 rfl
  have f1 := hb2.frozen 1
  have f2 := hb2.frozen 2
  have HO3 := Lib.hid ho2
  have HB3 := Lib.hid hb2
  have HM3 := Lib.hid hm2
  clear ho hm' ho2 hb2 hm2
  go_wp2
  go_ret
  exact ⟨rfl, (Only.setCell HO3.out (p := ⟨b, 1, none⟩) (by simp) (.int .i64 3)), by have := (Blk.set (HB3.out) 1 (.int .i64 3)); simpa [IsRH] using this, HM3.out.only ((Only.setCell (Only.refl [b] _) (p := ⟨b, 1, none⟩) (by simp) (.int .i64 3))) (by simpa using HD.out.1.symm) (by simpa using HD.out.2.symm)⟩


theorem rtstep_any (w : World) (b mb ms : Nat) (h : HS) (m : MS) (h0 : 0 ≤ h.at_) (h1 : h.at_ ≤ 65000) (hd : b ≠ mb ∧ b ≠ ms) (hb : IsRH w b h) (hm : IsRef w mb ms m) :
    Calls Try.prog 39 #[.pointer (some ⟨b, 0, none⟩), .pointer (some ⟨mb, 0, none⟩)] w fun e w' =>
      e = .returned (.int .i64 (h.step m).1.st) ∧ Only [b, mb, ms] w w' ∧ IsRH w' b (h.step m).1 ∧ IsRef w' mb ms (h.step m).2 := by
  have hnx := rtnext_any w b h h0 h1 hb
  by_cases hk : h.next.k = 0
  · have e1 : h.next = ⟨0, 0, 0, 0⟩ := by
      unfold HS.next at hk ⊢
      split at hk
      · cases hk
      · split at hk
        · cases hk
        · split at hk
          · cases hk
          · rename_i g0 g1 g2
            rw [if_neg g0, if_neg g1, if_neg g2]
    rw [e1] at hnx
    have := rtstep_zero w b mb ms h m hb hm hnx
    unfold HS.step
    rw [if_pos hk]
    exact this
  · obtain ⟨a, st, tk, wish⟩ := h
    obtain ⟨m', v, ok, er, hact⟩ : ∃ m' v ok er, m.act (HS.next ⟨a, st, tk, wish⟩) = (m', ⟨v, ok, er⟩) := ⟨_, _, _, _, rfl⟩
    unfold HS.step
    rw [if_neg hk, hact]
    dsimp only at h0 h1
    by_cases e0 : st = 0
    · subst e0
      by_cases he : er = 0
      · subst he
        simpa using rtstep_0 w b mb ms a tk v ok wish m m' h0 h1 hd hb hm hact
      · simpa [he] using rtstep_0e w b mb ms a tk v er ok wish m m' h0 h1 hd hb hm hact (by simpa using he)
    by_cases e1 : st = 1
    · subst e1
      by_cases he : er = 0
      · subst he
        by_cases hv : v = tk
        · simpa [hv] using rtstep_1y w b mb ms a tk v ok wish m m' h0 h1 hd hb hm hact (by simpa using hv)
        · simpa [hv] using rtstep_1n w b mb ms a tk v ok wish m m' h0 h1 hd hb hm hact (by simpa using hv)
      · simpa [he] using rtstep_1e w b mb ms a tk v er ok wish m m' h0 h1 hd hb hm hact (by simpa using he)
    by_cases e2 : st = 2 ∧ wish = true
    · obtain ⟨rfl, rfl⟩ := e2
      by_cases he : er = 0
      · subst he
        simpa using rtstep_2 w b mb ms a tk v ok m m' h0 h1 hd hb hm hact
      · simpa [he] using rtstep_2e w b mb ms a tk v er ok m m' h0 h1 hd hb hm hact (by simpa using he)
    · exact absurd (by unfold HS.next; rw [if_neg e0, if_neg e1, if_neg e2]) hk

end Go.Proofs.Ytabbnfodolekpaa
