/- The walk of law RingNil. -/
import Derived.Test.YtoecoijmkjhkgaaKnown6W
namespace Go.Proofs.Ytoecoijmkjhkgaa
open Go.RowKit

set_option maxHeartbeats 1000000 in
set_option maxRecDepth 100000 in
theorem ringnil_walk (w : World) (a : Int) (h0 : 0 ≤ a) (h1 : a ≤ 255) : Calls Try.prog 11 #[.int .u8 a] w fun e w' => e = .returned (.bool true) ∧ Only [] w w' := by
  go_enter Try.func11, Try.ntmps11
  go_wp2_with fail
  refine (new_any _ (1 + a) (by omega) (by omega)).mono ?_
  rintro e w1 ⟨mb, ms, rfl, _, _, ho, _⟩
  have HO := Lib.hid ho
  clear ho
  go_wp2_with fail
  refine (puresult_nil _).mono ?_
  rintro e w1 ⟨rfl, rfl⟩
  go_wp2_with fail
  refine (poresult_nil _).mono ?_
  rintro e w1 ⟨rfl, rfl⟩
  go_wp2_with fail
  refine (pustep_nil _ _).mono ?_
  rintro e w1 ⟨rfl, rfl⟩
  go_wp2_with fail
  refine (punext_nil _).mono ?_
  rintro e w1 ⟨rfl, ho⟩
  have HO := Lib.hid (HO.out.trans ho)
  clear ho
  go_wp2_with fail
  refine (postep_nil _ _).mono ?_
  rintro e w1 ⟨rfl, rfl⟩
  go_wp2_with fail
  refine (ponext_nil _).mono ?_
  rintro e w1 ⟨rfl, ho⟩
  have HO := Lib.hid (HO.out.trans ho)
  clear ho
  go_wp2_with fail
  refine (known06 _).mono ?_
  rintro e w1 ⟨rfl, ho⟩
  have HO := Lib.hid (HO.out.trans ho)
  clear ho
  go_wp2_with fail
  go_ret
  exact ⟨rfl, HO.out⟩

end Go.Proofs.Ytoecoijmkjhkgaa
