/- TicketSteps is proved: for every place, every number of holders and every order of steps the law returns true. No condition. -/
import Derived.Test.YtabbnfodolekpaaTSteps
import Derived.Test.YtabbnfodolekpaaShell
namespace Go.Proofs.Ytabbnfodolekpaa.ticketSteps
open Go.ChangeShapes Go.WideShapes Go.ChangeAt Go.RowKit Go.Deep

set_option maxRecDepth 100000 in
theorem lifted (os : Os) (started : os.Started) (H : Type) (enc : TypeId × Value → H) :
    ReturnsInHanded {} Try.checked os 13 .any (Rows.ticketStepsSpec.pre6 enc Try.prog Try.f13 Rows.ticketStepsRow.domain false) (Rows.ticketStepsSpec.post enc Try.prog Try.f13 false true false false) := by
  refine returnsInHanded_of_change (C := Try.checked) Try.own started (by kernel_rfl) Try.func13
    (ChangeSpec.witness6 (enc := enc) (C := Try.checked) false ⟨#[], #[.int .u8 0, .int .u8 0, .slice none 0 0], []⟩ 8 (by kernel_rfl) (by kernel_rfl) (by kernel_rfl) (by kernel_rfl)) ?_
  intro W base args ds gs before hval0 hW _ _
  have hval : ∀ (j : Nat) t v, Try.f13.params[j]? = some t → args[j]? = some v → Value.okWide Try.prog W .any base t v := hval0
  have hW' := hW
  obtain ⟨p, q, hA0, hV, rfl, hfz, hnd⟩ := hW
  have hA : DataW.TrodAll enc Try.prog W 0 (fun _ => true) true Try.f13.params.toList args.toList ds p := hA0
  rw [Try.params13] at hA hval
  obtain ⟨v0, vs0, d0, ds0, p0, q0, hargs, rfl, rfl, h0, r0⟩ := trodAll_cons hA
  obtain ⟨v1, vs1, d1, ds1, p1, q1, rfl, rfl, rfl, h1, r1⟩ := trodAll_cons r0
  obtain ⟨v2, vs2, d2, ds2, p2, q2, rfl, rfl, rfl, h2, r2⟩ := trodAll_cons r1
  obtain ⟨rfl, rfl, rfl⟩ := trodAll_nil r2
  obtain rfl : args = #[v0, v1, v2] := by cases args; simp_all
  obtain ⟨rfl, rfl⟩ := trodVars_none hV
  have fin : ∀ W', Below W.heap.size W W' → Rows.ticketStepsSpec.post enc Try.prog Try.f13 false true false false W #[v0, v1, v2] (.bool true) W' := fun W' hb =>
    post_law Try.laidB (by rw [Try.params13]; intro t ht; simp at ht; rcases ht with rfl | rfl | rfl <;> exact ⟨by kernel_rfl, of_decide_eq_true (by kernel_rfl)⟩) rfl rfl Try.underlying4 (by rfl) hW' hb
  clear hW' hA0 hval0
  obtain ⟨a0, rfl, rfl, rfl, w0⟩ := open_int Try.underlying5 (hval 0 5 v0 rfl rfl) h0
  obtain ⟨a1, rfl, rfl, rfl, w1⟩ := open_int Try.underlying5 (hval 1 5 v1 rfl rfl) h1
  obtain ⟨A2, l2, cap2, rfl, hby2, hr2, hlen2⟩ : ∃ (A : Option Addr) (l : List Int) (cap : Nat), v2 = .slice A l.length cap ∧ (∀ i, i < l.length → 0 ≤ nth l i ∧ nth l i ≤ 255) ∧ ReadsB W A l ∧ l.length ≤ 9223372036854775807 := by
    obtain ⟨x2, n2, m2, rfl⟩ := okWide_slice Try.underlying60 (hval 2 60 v2 rfl rfl)
    obtain ⟨fuel2, g2⟩ := h2
    rcases open_ints Try.underlying60 Try.underlying5 (by kernel_rfl) g2 with ⟨e, _⟩ | ⟨a, len, cap, zs, e, _, hlc, hm, hz, _, hc, hwz⟩
    · simp [Value.cells] at e
      obtain ⟨rfl, rfl, rfl⟩ := e
      exact ⟨none, [], 0, rfl, fun i hi => by simp at hi, .inl rfl, by simp⟩
    · simp [Value.cells] at e
      obtain ⟨rfl, rfl, rfl⟩ := e
      exact bytes_of hlc (by unfold maxLen at hm; omega) hz hc hwz
  exact (ticketsteps_walk W A2 cap2 l2 a0 a1 (by have := u8_of w0; omega) (by have := u8_of w0; omega) (by have := u8_of w1; omega) (by have := u8_of w1; omega) hr2 hby2 hlen2).mono fun e W' ⟨he, ho⟩ => ⟨_, he, fin W' (ho.below (by simp))⟩

theorem over : Rows.ticketStepsRow.holds Try.pinned (OpenSpec.ofChange Rows.ticketStepsSpec) :=
  OpenClaim.holds_of_wide 13 Try.f13 rfl rfl rfl rfl rfl rfl rfl ⟨rfl, rfl, rfl, rfl, rfl⟩ rfl rfl rfl rfl rfl (by kernel_rfl) Try.func13 (by kernel_rfl)
    (of_decide_eq_true (by kernel_rfl)) (by unfold Func.isWrapper; first | (rw [if_pos (by decide +kernel)]; kernel_rfl) | (rw [if_neg (by decide +kernel)]; exact ⟨rfl, rfl⟩))
    (fun os started H enc _ => lifted os started H enc)

theorem proved : Rows.TicketStepsSaid := over
#print axioms proved
end Go.Proofs.Ytabbnfodolekpaa.ticketSteps
