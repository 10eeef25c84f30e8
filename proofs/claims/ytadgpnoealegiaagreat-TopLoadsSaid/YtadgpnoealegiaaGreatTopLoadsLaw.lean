/- TopLoads is proved: for every three bytes and every list of ops the law returns true. No condition. -/
import Derived.Test.YtadgpnoealegiaaGreatP52
namespace Go.Proofs.YtadgpnoealegiaaGreat.topLoads
open Go.RowKit
open Go.Lib (hid)
set_option maxRecDepth 100000
set_option maxHeartbeats 20000000
section
open Go.ChangeAt Go.ChangeShapes Go.Deep Go.WideShapes
theorem lifted (os : Os) (started : os.Started) (H : Type) (enc : TypeId × Value → H) :
 ReturnsInHanded {} Tryz.checked os 3 .any (Rows.topLoadsSpec.pre6 enc Tryz.prog Tryz.f3 Rows.topLoadsRow.domain false) (Rows.topLoadsSpec.post enc Tryz.prog Tryz.f3 false true false false) := by
 refine returnsInHanded_of_change (C := Tryz.checked) Tryz.own started (by kernel_rfl) Tryz.func3
  (ChangeSpec.witness6 (enc := enc) (C := Tryz.checked) false ⟨#[], #[.agg #[.int .u8 0, .int .u8 0, .int .u8 0], .slice none 0 0], []⟩ 8 (by kernel_rfl) (by kernel_rfl) (by kernel_rfl) (by kernel_rfl)) ?_
 intro W base args ds gs before hval0 hW _ _
 have hval : ∀ (j : Nat) t v, Tryz.f3.params[j]? = some t → args[j]? = some v → Value.okWide Tryz.prog W .any base t v := hval0
 have hW' := hW
 obtain ⟨p, q, hA0, hV, rfl, hfz, hnd⟩ := hW
 have hA : DataW.TrodAll enc Tryz.prog W 0 (fun _ => true) true Tryz.f3.params.toList args.toList ds p := hA0
 rw [Tryz.params3] at hA hval
 obtain ⟨v0, vs0, d0, ds0, p0, q0, hargs, rfl, rfl, h0, r0⟩ := trodAll_cons hA
 obtain ⟨v1, vs1, d1, ds1, p1, q1, rfl, rfl, rfl, h1, r1⟩ := trodAll_cons r0
 obtain ⟨rfl, rfl, rfl⟩ := trodAll_nil r1
 obtain rfl : args = #[v0, v1] := by cases args; simp_all
 obtain ⟨rfl, rfl⟩ := trodVars_none hV
 have fin : ∀ W', Below W.heap.size W W' → Rows.topLoadsSpec.post enc Tryz.prog Tryz.f3 false true false false W #[v0, v1] (.bool true) W' := fun W' hb =>
  post_law Tryz.laidB (by rw [Tryz.params3]; intro t ht; simp at ht; rcases ht with rfl | rfl <;> exact ⟨by kernel_rfl, of_decide_eq_true (by kernel_rfl)⟩) rfl rfl Tryz.underlying4 (by rfl) hW' hb
 clear hW' hA0 hval0
 obtain ⟨a0, b0, c0, rfl, wa0, wb0, wc0⟩ := open_bytes3 Tryz.underlying22 Tryz.underlying5 (by kernel_rfl) (by kernel_rfl) (hval 0 22 v0 rfl rfl) h0
 obtain ⟨A1, l1, cap1, rfl, hr1, hlen1, hlc1, hfit1⟩ : ∃ (A : Option Addr) (l : List OpV) (cap : Nat), v1 = .slice A l.length cap ∧ ReadsO W A l ∧ l.length ≤ 9223372036854775807 ∧ l.length ≤ cap ∧ ∀ o ∈ l, o.fits := by
  obtain ⟨x1, n1, m1, rfl⟩ := okWide_slice Tryz.underlying23 (hval 1 23 v1 rfl rfl)
  obtain ⟨fuel1, g1⟩ := h1
  exact open_ops Tryz.underlying23 Tryz.underlying32 Tryz.underlying30 (by kernel_rfl) (by kernel_rfl) (by kernel_rfl) (by kernel_rfl) Tryz.underlying3 Tryz.underlying4 Tryz.underlying3 Tryz.underlying3 Tryz.underlying28 Tryz.underlying28 Tryz.underlying28 g1
 exact (toploads_walk W A1 cap1 l1 a0 b0 c0 (by have := u8_of wa0; omega) (by have := u8_of wb0; omega) hr1 hlen1 hlc1 hfit1).mono fun e W' ⟨he, ho⟩ => ⟨_, he, fin W' (ho.below (by simp))⟩
theorem over : Rows.topLoadsRow.holds Tryz.pinned (OpenSpec.ofChange Rows.topLoadsSpec) :=
 OpenClaim.holds_of_wide 3 Tryz.f3 rfl rfl rfl rfl rfl rfl rfl ⟨rfl, rfl, rfl, rfl, rfl⟩ rfl rfl rfl rfl rfl (by kernel_rfl) Tryz.func3 (by kernel_rfl)
  (of_decide_eq_true (by kernel_rfl)) (by unfold Func.isWrapper; first | (rw [if_pos (by decide +kernel)]; kernel_rfl) | (rw [if_neg (by decide +kernel)]; exact ⟨rfl, rfl⟩))
  (fun os started H enc _ => lifted os started H enc)
theorem proved : Rows.TopLoadsSaid := over
#print axioms proved
end
end Go.Proofs.YtadgpnoealegiaaGreat.topLoads
