/- ActDoes is proved: for every number of words and every script the law returns true. No condition. -/
import Derived.Test.YtnoplfjodedijaaActDoesW
import Derived.Test.YtnoplfjodedijaaShell
namespace Go.Proofs.Ytnoplfjodedijaa.actDoes
open Go.ChangeShapes Go.WideShapes Go.ChangeAt Go.RowKit Go.Deep

set_option maxRecDepth 100000 in
theorem lifted (os : Os) (started : os.Started) (H : Type) (enc : TypeId × Value → H) :
    ReturnsInHanded {} Try.checked os 6 .any (Rows.actDoesSpec.pre6 enc Try.prog Try.f6 Rows.actDoesRow.domain false) (Rows.actDoesSpec.post enc Try.prog Try.f6 false true false false) := by
  refine returnsInHanded_of_change (C := Try.checked) Try.own started (by kernel_rfl) Try.func6
    (ChangeSpec.witness6 (enc := enc) (C := Try.checked) false ⟨#[], #[.int .u8 0, .slice none 0 0], []⟩ 8 (by kernel_rfl) (by kernel_rfl) (by kernel_rfl) (by kernel_rfl)) ?_
  intro W base args ds gs before hval0 hW _ _
  have hval : ∀ (j : Nat) t v, Try.f6.params[j]? = some t → args[j]? = some v → Value.okWide Try.prog W .any base t v := hval0
  have hW' := hW
  obtain ⟨p, q, hA0, hV, rfl, hfz, hnd⟩ := hW
  have hA : DataW.TrodAll enc Try.prog W 0 (fun _ => true) true Try.f6.params.toList args.toList ds p := hA0
  rw [Try.params6] at hA hval
  obtain ⟨v0, vs0, d0, ds0, p0, q0, hargs, rfl, rfl, h0, r0⟩ := trodAll_cons hA
  obtain ⟨v1, vs1, d1, ds1, p1, q1, rfl, rfl, rfl, h1, r1⟩ := trodAll_cons r0
  obtain ⟨rfl, rfl, rfl⟩ := trodAll_nil r1
  obtain rfl : args = #[v0, v1] := by cases args; simp_all
  obtain ⟨rfl, rfl⟩ := trodVars_none hV
  have fin : ∀ W', Below W.heap.size W W' → Rows.actDoesSpec.post enc Try.prog Try.f6 false true false false W #[v0, v1] (.bool true) W' := fun W' hb =>
    post_law Try.laidB (by rw [Try.params6]; intro t ht; simp at ht; rcases ht with rfl | rfl <;> exact ⟨by kernel_rfl, of_decide_eq_true (by kernel_rfl)⟩) rfl rfl Try.underlying4 (by rfl) hW' hb
  clear hW' hA0 hval0
  obtain ⟨a0, rfl, rfl, rfl, w0⟩ := open_int Try.underlying5 (hval 0 5 v0 rfl rfl) h0
  obtain ⟨fuel1, g1⟩ := h1
  obtain ⟨A1, l1, cap1, rfl, hwf1, hr1, hlen1⟩ : ∃ (A : Option Addr) (l : List Act') (cap : Nat), v1 = .slice A l.length cap ∧ (∀ x ∈ l, x.wf) ∧ ReadsActs W A l ∧ l.length ≤ 9223372036854775807 := by
    obtain ⟨x1, n1, m1, rfl⟩ := okWide_slice Try.underlying33 (hval 1 33 v1 rfl rfl)
    rcases open_quads Try.underlying33 Try.underlying24 Try.underlying3 Try.underlying3 Try.underlying22 Try.underlying22 (by kernel_rfl) (by kernel_rfl) g1 with e | ⟨a, len, cap, e, hlc, hm, hc⟩
    · simp [Value.cells] at e
      obtain ⟨rfl, rfl, rfl⟩ := e
      exact ⟨none, [], 0, rfl, by simp, .inl rfl, by simp⟩
    · simp [Value.cells] at e
      obtain ⟨rfl, rfl, rfl⟩ := e
      obtain ⟨l, hl, hwf, hr⟩ := acts_of hc
      exact ⟨_, l, _, by rw [hl], hwf, hr, by unfold maxLen at hm; omega⟩
  exact (actdoes_walk W A1 cap1 l1 a0 (by have := u8_of w0; omega) (by have := u8_of w0; omega) hr1 hlen1).mono fun e W' ⟨he, ho⟩ => ⟨_, he, fin W' (ho.below (by simp))⟩

theorem over : Rows.actDoesRow.holds Try.pinned (OpenSpec.ofChange Rows.actDoesSpec) :=
  OpenClaim.holds_of_wide 6 Try.f6 rfl rfl rfl rfl rfl rfl rfl ⟨rfl, rfl, rfl, rfl, rfl⟩ rfl rfl rfl rfl rfl (by kernel_rfl) Try.func6 (by kernel_rfl)
    (of_decide_eq_true (by kernel_rfl)) (by unfold Func.isWrapper; first | (rw [if_pos (by decide +kernel)]; kernel_rfl) | (rw [if_neg (by decide +kernel)]; exact ⟨rfl, rfl⟩))
    (fun os started H enc _ => lifted os started H enc)

theorem proved : Rows.ActDoesSaid := over
#print axioms proved
end Go.Proofs.Ytnoplfjodedijaa.actDoes
