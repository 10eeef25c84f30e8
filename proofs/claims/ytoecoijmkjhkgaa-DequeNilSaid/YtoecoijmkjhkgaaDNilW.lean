/- The walk of law DequeNil. -/
import Derived.Test.YtoecoijmkjhkgaaKnown7W
namespace Go.Proofs.Ytoecoijmkjhkgaa
open Go.RowKit

set_option maxHeartbeats 1000000 in
set_option maxRecDepth 100000 in
theorem dequenil_walk (w : World) (a : Int) (h0 : 0 ≤ a) (h1 : a ≤ 255) : Calls Try.prog 9 #[.int .u8 a] w fun e w' => e = .returned (.bool true) ∧ Only [] w w' := by
  go_enter Try.func9, Try.ntmps9
  go_wp2_with fail
  refine (new_any _ (1 + a) (by omega) (by omega)).mono ?_
  rintro e w1 ⟨mb, ms, rfl, _, _, ho, _⟩
  have HO := Lib.hid ho
  clear ho
  go_wp2_with fail
  refine (dresult_nil _).mono ?_
  rintro e w1 ⟨rfl, ho⟩
  have HO := Lib.hid (HO.out.trans ho)
  clear ho
  go_wp2_with fail
  refine (dstep_nil _ _).mono ?_
  rintro e w1 ⟨rfl, rfl⟩
  go_wp2_with fail
  refine (dnext_nil _).mono ?_
  rintro e w1 ⟨rfl, ho⟩
  have HO := Lib.hid (HO.out.trans ho)
  clear ho
  go_wp2_with fail
  refine (known07 _).mono ?_
  rintro e w1 ⟨rfl, ho⟩
  have HO := Lib.hid (HO.out.trans ho)
  clear ho
  go_wp2_with fail
  go_ret
  exact ⟨rfl, HO.out⟩

end Go.Proofs.Ytoecoijmkjhkgaa
