/- MemAdds is proved: for every list of words the law returns true. No condition. -/
import Derived.Test.YtabbnfodolekpaaMemAddsW
import Derived.Test.YtabbnfodolekpaaShell
namespace Go.Proofs.Ytabbnfodolekpaa.memAdds
open Go.ChangeShapes Go.WideShapes Go.ChangeAt Go.RowKit Go.Deep

set_option maxRecDepth 100000 in
theorem lifted (os : Os) (started : os.Started) (H : Type) (enc : TypeId × Value → H) :
    ReturnsInHanded {} Try.checked os 5 .any (Rows.memAddsSpec.pre6 enc Try.prog Try.f5 Rows.memAddsRow.domain false) (Rows.memAddsSpec.post enc Try.prog Try.f5 false true false false) := by
  refine returnsInHanded_of_change (C := Try.checked) Try.own started (by kernel_rfl) Try.func5
    (ChangeSpec.witness6 (enc := enc) (C := Try.checked) false ⟨#[], #[.slice none 0 0], []⟩ 8 (by kernel_rfl) (by kernel_rfl) (by kernel_rfl) (by kernel_rfl)) ?_
  intro W base args ds gs before hval0 hW _ _
  have hval : ∀ (j : Nat) t v, Try.f5.params[j]? = some t → args[j]? = some v → Value.okWide Try.prog W .any base t v := hval0
  have hW' := hW
  obtain ⟨p, q, hA0, hV, rfl, hfz, hnd⟩ := hW
  have hA : DataW.TrodAll enc Try.prog W 0 (fun _ => true) true Try.f5.params.toList args.toList ds p := hA0
  rw [Try.params5] at hA hval
  obtain ⟨v0, vs0, d0, ds0, p0, q0, hargs, rfl, rfl, h0, r0⟩ := trodAll_cons hA
  obtain ⟨rfl, rfl, rfl⟩ := trodAll_nil r0
  obtain rfl : args = #[v0] := by cases args; simp_all
  obtain ⟨rfl, rfl⟩ := trodVars_none hV
  have fin : ∀ W', Below W.heap.size W W' → Rows.memAddsSpec.post enc Try.prog Try.f5 false true false false W #[v0] (.bool true) W' := fun W' hb =>
    post_law Try.laidB (by rw [Try.params5]; intro t ht; simp at ht; subst ht; exact ⟨by kernel_rfl, of_decide_eq_true (by kernel_rfl)⟩) rfl rfl Try.underlying4 (by rfl) hW' hb
  clear hW' hA0 hval0
  obtain ⟨A0, l0, cap0, rfl, hwf0, hr0, hlen0⟩ : ∃ (A : Option Addr) (l : List Int) (cap : Nat), v0 = .slice A l.length cap ∧ (∀ x ∈ l, (Lit.int .u64 x).wf = true) ∧ Reads W A l ∧ l.length ≤ 9223372036854775807 := by
    obtain ⟨x0, n0, m0, rfl⟩ := okWide_slice Try.underlying40 (hval 0 40 v0 rfl rfl)
    obtain ⟨fuel0, g0⟩ := h0
    rcases open_ints Try.underlying40 Try.underlying27 (by kernel_rfl) g0 with ⟨e, _⟩ | ⟨a, len, cap, zs, e, _, hlc, hm, hz, _, hc, hwz⟩
    · simp [Value.cells] at e
      obtain ⟨rfl, rfl, rfl⟩ := e
      exact ⟨none, [], 0, rfl, by simp, .inl rfl, by simp⟩
    · simp [Value.cells] at e
      obtain ⟨rfl, rfl, rfl⟩ := e
      exact words_of hlc (by unfold maxLen at hm; omega) hz hc hwz
  exact (memadds_walk W A0 cap0 l0 hr0 hlen0).mono fun e W' ⟨he, ho⟩ => ⟨_, he, fin W' (ho.below (by simp))⟩

theorem over : Rows.memAddsRow.holds Try.pinned (OpenSpec.ofChange Rows.memAddsSpec) :=
  OpenClaim.holds_of_wide 5 Try.f5 rfl rfl rfl rfl rfl rfl rfl ⟨rfl, rfl, rfl, rfl, rfl⟩ rfl rfl rfl rfl rfl (by kernel_rfl) Try.func5 (by kernel_rfl)
    (of_decide_eq_true (by kernel_rfl)) (by unfold Func.isWrapper; first | (rw [if_pos (by decide +kernel)]; kernel_rfl) | (rw [if_neg (by decide +kernel)]; exact ⟨rfl, rfl⟩))
    (fun os started H enc _ => lifted os started H enc)

theorem proved : Rows.MemAddsSaid := over
#print axioms proved
end Go.Proofs.Ytabbnfodolekpaa.memAdds
