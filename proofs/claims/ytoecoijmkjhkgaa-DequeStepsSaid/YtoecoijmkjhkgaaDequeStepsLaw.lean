/- DequeSteps is proved: for every case the law returns true. No condition. -/
import Derived.Test.YtoecoijmkjhkgaaDStepsW
import Derived.Test.YtoecoijmkjhkgaaShell3
namespace Go.Proofs.Ytoecoijmkjhkgaa.dequeSteps
open Go.ChangeShapes Go.WideShapes Go.ChangeAt Go.RowKit Go.Deep

set_option maxRecDepth 100000 in
theorem lifted (os : Os) (started : os.Started) (H : Type) (enc : TypeId × Value → H) :
    ReturnsInHanded {} Try.checked os 12 .any (Rows.dequeStepsSpec.pre6 enc Try.prog Try.f12 Rows.dequeStepsRow.domain false) (Rows.dequeStepsSpec.post enc Try.prog Try.f12 false true false false) := by
  refine returnsInHanded_of_change (C := Try.checked) Try.own started (by kernel_rfl) Try.func12
    (ChangeSpec.witness6 (enc := enc) (C := Try.checked) false ⟨#[], #[.agg #[.int .u8 0, .int .u8 0, .slice none 0 0, .int .u8 0, .slice none 0 0, .int .u8 0]], []⟩ 8 (by kernel_rfl) (by kernel_rfl) (by kernel_rfl) (by kernel_rfl)) ?_
  intro W base args ds gs before hval0 hW _ _
  have hval : ∀ (j : Nat) t v, Try.f12.params[j]? = some t → args[j]? = some v → Value.okWide Try.prog W .any base t v := hval0
  have hW' := hW
  obtain ⟨p, q, hA0, hV, rfl, hfz, hnd⟩ := hW
  have hA : DataW.TrodAll enc Try.prog W 0 (fun _ => true) true Try.f12.params.toList args.toList ds p := hA0
  rw [Try.params12] at hA hval
  obtain ⟨v0, vs0, d0, ds0, p0, q0, hargs, rfl, rfl, h0, r0⟩ := trodAll_cons hA
  obtain ⟨rfl, rfl, rfl⟩ := trodAll_nil r0
  obtain rfl : args = #[v0] := by cases args; simp_all
  obtain ⟨rfl, rfl⟩ := trodVars_none hV
  have fin : ∀ W', Below W.heap.size W W' → Rows.dequeStepsSpec.post enc Try.prog Try.f12 false true false false W #[v0] (.bool true) W' := fun W' hb =>
    post_law Try.laidB (by rw [Try.params12]; intro t ht; simp at ht; subst ht; exact ⟨by kernel_rfl, of_decide_eq_true (by kernel_rfl)⟩) rfl rfl Try.underlying4 (by rfl) hW' hb
  clear hW' hA0 hval0
  obtain ⟨a0, b0, c0, e0, x0, y0, n0, s0, t0, rfl, wa0, wb0, wc0, we0, tx0, ty0⟩ := open_case Try.underlying58 (by kernel_rfl) (by kernel_rfl) Try.underlying5 Try.underlying5 Try.underlying5 Try.underlying5 (hval 0 58 v0 rfl rfl) h0
  obtain ⟨A2, l2, cap2, rfl, hby2, hr2, hlen2⟩ := open_bytes Try.underlying23 Try.underlying5 (by kernel_rfl) tx0
  obtain ⟨A4, l4, cap4, rfl, hby4, hr4, hlen4⟩ := open_bytes Try.underlying23 Try.underlying5 (by kernel_rfl) ty0
  exact (dequesteps_walk W a0 b0 c0 e0 A2 l2 cap2 A4 l4 cap4 (by have := u8_of wa0; omega) (by have := u8_of wa0; omega) (by have := u8_of wb0; omega) (by have := u8_of wb0; omega) (by have := u8_of wc0; omega) (by have := u8_of wc0; omega) (by have := u8_of we0; omega) (by have := u8_of we0; omega) hr2 hby2 hr4 hby4).mono fun e W' ⟨he, ho⟩ => ⟨_, he, fin W' (ho.below (by simp))⟩

theorem over : Rows.dequeStepsRow.holds Try.pinned (OpenSpec.ofChange Rows.dequeStepsSpec) :=
  OpenClaim.holds_of_wide 12 Try.f12 rfl rfl rfl rfl rfl rfl rfl ⟨rfl, rfl, rfl, rfl, rfl⟩ rfl rfl rfl rfl rfl (by kernel_rfl) Try.func12 (by kernel_rfl)
    (of_decide_eq_true (by kernel_rfl)) (by unfold Func.isWrapper; first | (rw [if_pos (by decide +kernel)]; kernel_rfl) | (rw [if_neg (by decide +kernel)]; exact ⟨rfl, rfl⟩))
    (fun os started H enc _ => lifted os started H enc)

theorem proved : Rows.DequeStepsSaid := over
#print axioms proved
end Go.Proofs.Ytoecoijmkjhkgaa.dequeSteps
