/- The walk of the fixed calls of matryoshkalaw02. -/
import Derived.Test.YtabbnfodolekpaaAny
import Derived.Outline
namespace Go.Proofs.Ytabbnfodolekpaa
open Go.RowKit

theorem known02 (w : World) : Calls Try.prog 19 #[] w fun e w' => e = .returned (.bool true) ∧ Only [] w w' := by
  go_enter Try.func19, Try.ntmps19
  go_wp2_with fail
  refine (new_any _ 2 (by omega) (by omega)).mono ?_
  rintro e w1 ⟨b, s, rfl, hb, hs, ho, hm⟩
  have HB := Lib.hid (And.intro hb hs)
  have HO := Lib.hid ho
  have HM := Lib.hid hm
  clear hb hs ho hm
  go_wp2_with fail
  refine (new_out _ 0 (by omega)).mono ?_
  rintro e w2 ⟨rfl, rfl⟩
  go_wp2_with fail
  refine (store_to HM.out (m' := ⟨[0, 5], 1, 1⟩) (er := 0) (by kernel_rfl)).mono ?_
  rintro e w3 ⟨rfl, ho3, hm⟩
  have HO3 := Lib.hid (HO.out.then ho3 (by simp; exact HB.out))
  have HM3 := Lib.hid hm
  clear ho3 hm HO HM
  go_wp2_with fail
  refine (cas_to HM3.out (m' := ⟨[0, 7], 2, 2⟩) (ok := true) (er := 0) (by kernel_rfl)).mono ?_
  rintro e w4 ⟨rfl, ho, hm⟩
  have HO4 := Lib.hid (HO3.out.then ho (by simp; exact HB.out))
  have HM4 := Lib.hid hm
  clear ho hm HO3 HM3
  go_wp2_with fail
  refine (cas_to HM4.out (m' := ⟨[0, 7], 3, 2⟩) (ok := false) (er := 0) (by kernel_rfl)).mono ?_
  rintro e w5 ⟨rfl, ho, hm⟩
  have HO5 := Lib.hid (HO4.out.then ho (by simp; exact HB.out))
  have HM5 := Lib.hid hm
  clear ho hm HO4 HM4
  go_wp2_with fail
  refine (add_to HM5.out (m' := ⟨[0, 9], 4, 3⟩) (was := 7) (er := 0) (by kernel_rfl)).mono ?_
  rintro e w6 ⟨rfl, ho, hm⟩
  have HO6 := Lib.hid (HO5.out.then ho (by simp; exact HB.out))
  have HM6 := Lib.hid hm
  clear ho hm HO5 HM5
  go_wp2_with fail
  refine (load_to HM6.out (m' := ⟨[0, 9], 5, 3⟩) (v := 9) (er := 0) (by kernel_rfl)).mono ?_
  rintro e w7 ⟨rfl, ho, hm⟩
  have HO7 := Lib.hid (HO6.out.then ho (by simp; exact HB.out))
  have HM7 := Lib.hid hm
  clear ho hm HO6 HM6
  go_wp2_with fail
  refine (load_to HM7.out (m' := ⟨[0, 9], 5, 3⟩) (v := 0) (er := 2) (by kernel_rfl)).mono ?_
  rintro e w8 ⟨rfl, ho, hm⟩
  have HO8 := Lib.hid (HO7.out.then ho (by simp; exact HB.out))
  have HM8 := Lib.hid hm
  clear ho hm HO7 HM7
  go_wp2_with fail
  refine (count_at _ _ _ _ HM8.out.c1 HM8.out.c2).mono ?_
  rintro e w9 ⟨rfl, ho⟩
  have HO9 := Lib.hid (HO8.out.then ho (by simp))
  have HM9 := Lib.hid (HM8.out.only ho (by simp) (by simp))
  clear ho HO8 HM8
  go_wp2_with fail
  refine (len_at _ _ s 2 HM9.out.c0).mono ?_
  rintro e w10 ⟨rfl, rfl⟩
  go_wp2_with fail
  refine (words_any _ b s _ _ _ 0 2 HM9.out).mono ?_
  rintro e w11 ⟨v, rfl, ho, hv⟩
  have hv' : NewWords w9 w11 v [0, 9] := hv
  have HO11 := Lib.hid (HO9.out.then ho (by simp))
  have HM11 := Lib.hid (HM9.out.only ho (by simp) (by simp))
  have HV := Lib.hid (hv'.isRow (by decide))
  clear ho hv hv' HO9 HM9
  go_wp2_with fail
  refine (eqw_any _ _ _ [0, 9] [0, 9] (HV.out.alloc _) (IsRow.of_blk (Blk.new _ _ _) rfl 2 rfl (by decide))).mono ?_
  rintro e w12 ⟨rfl, ho⟩
  have HO12 := Lib.hid ((HO11.out.alloc (Obj.cells #[Value.int IntKind.u64 0, Value.int IntKind.u64 9] 27)).then ho (by simp))
  have HM12 := Lib.hid (HM11.out.only (((Only.refl [] w11).alloc (Obj.cells #[Value.int IntKind.u64 0, Value.int IntKind.u64 9] 27)).trans ho) (by simp) (by simp))
  clear ho HO11 HM11
  go_wp2_with fail
  refine (words_any _ b s _ _ _ 1 2 HM12.out).mono ?_
  rintro e w13 ⟨v2, rfl, ho, hv⟩
  have hv' : NewWords w12 w13 v2 [] := hv
  rcases hv' with ⟨_, rfl⟩ | ⟨hn, _⟩
  · have HO13 := Lib.hid (HO12.out.then ho (by simp))
    clear ho hv
    go_wp2
    go_ret
    exact ⟨rfl, HO13.out⟩
  · exact absurd rfl hn

end Go.Proofs.Ytabbnfodolekpaa
