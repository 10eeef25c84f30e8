/- The walk of the fixed calls of matryoshkalaw05. -/
import Derived.Test.YtabbnfodolekpaaTick4
namespace Go.Proofs.Ytabbnfodolekpaa
open Go.RowKit

theorem tstep_to {w : World} {b mb ms : Nat} {h h' : HS} {m m' : MS} {st : Int} (hb : IsH w b h) (hm : IsMem w mb ms m) (h0 : 0 ≤ h.at_) (h1 : h.at_ ≤ 65000) (hd : b ≠ mb ∧ b ≠ ms) (hs : h.step m = (h', m')) (hst : h'.st = st) :
    Calls Try.prog 35 #[.pointer (some ⟨b, 0, none⟩), .pointer (some ⟨mb, 0, none⟩)] w fun e w' => e = .returned (.int .i64 st) ∧ Only [b, mb, ms] w w' ∧ IsH w' b h' ∧ IsMem w' mb ms m' := by
  have := tstep_any w b mb ms h m h0 h1 hd hb hm
  rw [hs] at this
  rw [← hst]
  exact this

theorem tleave_to {w : World} {b : Nat} {h h' : HS} {ok : Bool} (hb : IsH w b h) (hs : h.leave = (h', ok)) : Calls Try.prog 34 #[.pointer (some ⟨b, 0, none⟩)] w fun e w' => e = .returned (.bool ok) ∧ Only [b] w w' ∧ IsH w' b h' := by
  have := tleave_any w b h hb
  rw [hs] at this
  exact this

theorem IsH.only {w w' : World} {b : Nat} {h : HS} {S : List Nat} (hb : IsH w b h) (o : Only S w w') (hn : b ∉ S) : IsH w' b h := Blk.only hb o hn

set_option maxHeartbeats 2000000 in
set_option maxRecDepth 100000 in
theorem known05 (w : World) : Calls Try.prog 32 #[] w fun e w' => e = .returned (.bool true) ∧ Only [] w w' := by
  go_enter Try.func32, Try.ntmps32
  go_wp2_with fail
  refine (new_any _ 4 (by omega) (by omega)).mono ?_
  rintro e w1 ⟨mb, ms, rfl, hmb, hms, ho, hm⟩
  have hl : Blk (w1.alloc (.cells #[.int .i64 1] 83)) w1.heap.size 83 #[.int .i64 1] := Blk.new _ _ _
  have HL := Lib.hid hl
  have HO := Lib.hid (ho.alloc (.cells #[.int .i64 1] 83))
  have HM := Lib.hid (hm.only ((Only.refl [] _).alloc (.cells #[.int .i64 1] 83)) (by simp) (by simp))
  have HF := Lib.hid (And.intro hmb hms)
  clear ho hm hl hmb hms
  go_wp2_with fail
  refine (tholder_at _ 1 (by omega) (by omega)).mono ?_
  rintro e w2 ⟨ba, rfl, hba, ho, hha⟩
  have hl2 := HL.out.only ho (by simp)
  have cl := hl2.at 0 rfl
  have HL2 := Lib.hid hl2
  have HO2 := Lib.hid (HO.out.trans ho)
  have HM2 := Lib.hid (HM.out.only ho (by simp) (by simp))
  have HA2 := Lib.hid hha
  have HFA := Lib.hid (show w.heap.size ≤ ba ∧ ba ≠ mb ∧ ba ≠ ms by have := HM.out.lt; have := HO.out.size; omega)
  clear ho hha hl2 hba HL HO HM
  go_wp2_with fail
  refine (tholder_at _ 1 (by omega) (by omega)).mono ?_
  rintro e w3 ⟨bb, rfl, hbb, ho, hhb⟩
  have HO3 := Lib.hid (HO2.out.trans ho)
  have HM3 := Lib.hid (HM2.out.only ho (by simp) (by simp))
  have HA3 := Lib.hid (IsH.only HA2.out ho (by simp))
  have HB3 := Lib.hid hhb
  have HFB := Lib.hid (show w.heap.size ≤ bb ∧ bb ≠ mb ∧ bb ≠ ms ∧ bb ≠ ba by have := HM2.out.lt; have := HO2.out.size; have := Blk.lt HA2.out; omega)
  clear ho hhb hbb HL2 HO2 HM2 HA2 cl
  go_wp2_with fail
  refine (tstep_to HA3.out HM3.out (by decide) (by decide) (by have := HFA.out; have := HFB.out; omega) (h' := ⟨1, 1, 0, false⟩) (m' := ⟨[0, 1, 0, 0], 1, 1⟩) (st := 1) (by kernel_rfl) rfl).mono ?_
  rintro e w4 ⟨rfl, ho, hh, hm⟩
  have HO4 := Lib.hid (HO3.out.then ho (by have := HF.out; have := HFA.out; have := HFB.out; simp; omega))
  have HA4 := Lib.hid hh
  have HM4 := Lib.hid hm
  have HB4 := Lib.hid (IsH.only HB3.out ho (by have := HFA.out; have := HFB.out; simp; omega))
  clear ho hh hm HO3 HA3 HB3 HM3
  go_wp2_with fail
  refine (tstep_to HB4.out HM4.out (by decide) (by decide) (by have := HFA.out; have := HFB.out; omega) (h' := ⟨1, 1, 1, false⟩) (m' := ⟨[0, 2, 0, 0], 2, 2⟩) (st := 1) (by kernel_rfl) rfl).mono ?_
  rintro e w5 ⟨rfl, ho, hh, hm⟩
  have HO5 := Lib.hid (HO4.out.then ho (by have := HF.out; have := HFA.out; have := HFB.out; simp; omega))
  have HB5 := Lib.hid hh
  have HM5 := Lib.hid hm
  have HA5 := Lib.hid (IsH.only HA4.out ho (by have := HFA.out; have := HFB.out; simp; omega))
  clear ho hh hm HO4 HA4 HB4 HM4
  go_wp2_with fail
  refine (tstep_to HB5.out HM5.out (by decide) (by decide) (by have := HFA.out; have := HFB.out; omega) (h' := ⟨1, 1, 1, false⟩) (m' := ⟨[0, 2, 0, 0], 3, 2⟩) (st := 1) (by kernel_rfl) rfl).mono ?_
  rintro e w6 ⟨rfl, ho, hh, hm⟩
  have HO6 := Lib.hid (HO5.out.then ho (by have := HF.out; have := HFA.out; have := HFB.out; simp; omega))
  have HB6 := Lib.hid hh
  have HM6 := Lib.hid hm
  have HA6 := Lib.hid (IsH.only HA5.out ho (by have := HFA.out; have := HFB.out; simp; omega))
  clear ho hh hm HO5 HA5 HB5 HM5
  go_wp2_with fail
  refine (tstep_to HA6.out HM6.out (by decide) (by decide) (by have := HFA.out; have := HFB.out; omega) (h' := ⟨1, 2, 0, false⟩) (m' := ⟨[0, 2, 0, 0], 4, 2⟩) (st := 2) (by kernel_rfl) rfl).mono ?_
  rintro e w7 ⟨rfl, ho, hh, hm⟩
  have HO7 := Lib.hid (HO6.out.then ho (by have := HF.out; have := HFA.out; have := HFB.out; simp; omega))
  have HA7 := Lib.hid hh
  have HM7 := Lib.hid hm
  have HB7 := Lib.hid (IsH.only HB6.out ho (by have := HFA.out; have := HFB.out; simp; omega))
  clear ho hh hm HO6 HA6 HB6 HM6
  go_wp2_with fail
  refine (tstate_at _ _ _ HB7.out).mono ?_
  rintro e w8 ⟨rfl, ho⟩
  have HO8 := Lib.hid (HO7.out.trans ho)
  have HA8 := Lib.hid (IsH.only HA7.out ho (by simp))
  have HM8 := Lib.hid (HM7.out.only ho (by simp) (by simp))
  have HB8 := Lib.hid (IsH.only HB7.out ho (by simp))
  clear ho HO7 HA7 HB7 HM7
  go_wp2_with fail
  refine (tleave_to HA8.out (h' := ⟨1, 2, 0, true⟩) (ok := true) (by kernel_rfl)).mono ?_
  rintro e w9 ⟨rfl, ho, hh⟩
  have HO9 := Lib.hid (HO8.out.then ho (by have := HFA.out; simp; omega))
  have HA9 := Lib.hid hh
  have HM9 := Lib.hid (HM8.out.only ho (by have := HFA.out; simp; omega) (by have := HFA.out; simp; omega))
  have HB9 := Lib.hid (IsH.only HB8.out ho (by have := HFB.out; simp; omega))
  clear ho hh HO8 HA8 HB8 HM8
  go_wp2_with fail
  refine (tleave_to HA9.out (h' := ⟨1, 2, 0, true⟩) (ok := false) (by kernel_rfl)).mono ?_
  rintro e w10 ⟨rfl, ho, hh⟩
  have HO10 := Lib.hid (HO9.out.then ho (by have := HFA.out; simp; omega))
  have HA10 := Lib.hid hh
  have HM10 := Lib.hid (HM9.out.only ho (by have := HFA.out; simp; omega) (by have := HFA.out; simp; omega))
  have HB10 := Lib.hid (IsH.only HB9.out ho (by have := HFB.out; simp; omega))
  clear ho hh HO9 HA9 HB9 HM9
  go_wp2_with fail
  refine (tstep_to HA10.out HM10.out (by decide) (by decide) (by have := HFA.out; have := HFB.out; omega) (h' := ⟨1, 3, 0, true⟩) (m' := ⟨[0, 2, 1, 0], 5, 3⟩) (st := 3) (by kernel_rfl) rfl).mono ?_
  rintro e w11 ⟨rfl, ho, hh, hm⟩
  have HO11 := Lib.hid (HO10.out.then ho (by have := HF.out; have := HFA.out; have := HFB.out; simp; omega))
  have HA11 := Lib.hid hh
  have HM11 := Lib.hid hm
  have HB11 := Lib.hid (IsH.only HB10.out ho (by have := HFA.out; have := HFB.out; simp; omega))
  clear ho hh hm HO10 HA10 HB10 HM10
  go_wp2_with fail
  refine (tstep_to HB11.out HM11.out (by decide) (by decide) (by have := HFA.out; have := HFB.out; omega) (h' := ⟨1, 2, 1, false⟩) (m' := ⟨[0, 2, 1, 0], 6, 3⟩) (st := 2) (by kernel_rfl) rfl).mono ?_
  rintro e w12 ⟨rfl, ho, hh, hm⟩
  have HO12 := Lib.hid (HO11.out.then ho (by have := HF.out; have := HFA.out; have := HFB.out; simp; omega))
  have HB12 := Lib.hid hh
  have HM12 := Lib.hid hm
  have HA12 := Lib.hid (IsH.only HA11.out ho (by have := HFA.out; have := HFB.out; simp; omega))
  clear ho hh hm HO11 HA11 HB11 HM11
  go_wp2_with fail
  have hnx := tnext_any _ ba _ (by decide) (by decide) (HA12.out.alloc (.cells #[.int .i64 (-1)] 83))
  refine hnx.mono ?_
  rintro e w13 ⟨rfl, ho⟩
  have hz : (HS.next ⟨1, 3, 0, true⟩).val = .agg #[.int .i64 0, .int .i64 0, .int .u64 0, .int .u64 0] := rfl
  rw [hz]
  have HO13 := Lib.hid ((HO12.out.alloc _).trans ho)
  have hlk := (Blk.new w12 83 #[.int .i64 (-1)]).only ho (by simp)
  have ck := hlk.at 0 rfl
  clear hnx ho hlk hz
  go_wp2_with fail
  refine (tholder_bad _ (-1) (by omega)).mono ?_
  rintro e w14 ⟨rfl, ho⟩
  have HO14 := Lib.hid (HO13.out.trans ho)
  clear ho ck
  go_wp2
  go_ret
  exact ⟨rfl, HO14.out⟩

end Go.Proofs.Ytabbnfodolekpaa
