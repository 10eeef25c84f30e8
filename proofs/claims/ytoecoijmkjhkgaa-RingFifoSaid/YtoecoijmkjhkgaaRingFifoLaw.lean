/- RingFifo is proved: for every size, list of values and list of steps the law returns true. No condition. -/
import Derived.Test.YtoecoijmkjhkgaaRFifoW
import Derived.Test.YtoecoijmkjhkgaaShell4
namespace Go.Proofs.Ytoecoijmkjhkgaa.ringFifo
open Go.ChangeShapes Go.WideShapes Go.ChangeAt Go.RowKit Go.Deep

set_option maxRecDepth 100000 in
theorem lifted (os : Os) (started : os.Started) (H : Type) (enc : TypeId × Value → H) :
    ReturnsInHanded {} Try.checked os 4 .any (Rows.ringFifoSpec.pre6 enc Try.prog Try.f4 Rows.ringFifoRow.domain false) (Rows.ringFifoSpec.post enc Try.prog Try.f4 false true false false) := by
  refine returnsInHanded_of_change (C := Try.checked) Try.own started (by kernel_rfl) Try.func4
    (ChangeSpec.witness6 (enc := enc) (C := Try.checked) false ⟨#[], #[.int .u8 0, .slice none 0 0, .slice none 0 0], []⟩ 8 (by kernel_rfl) (by kernel_rfl) (by kernel_rfl) (by kernel_rfl)) ?_
  intro W base args ds gs before hval0 hW _ _
  have hval : ∀ (j : Nat) t v, Try.f4.params[j]? = some t → args[j]? = some v → Value.okWide Try.prog W .any base t v := hval0
  have hW' := hW
  obtain ⟨p, q, hA0, hV, rfl, hfz, hnd⟩ := hW
  have hA : DataW.TrodAll enc Try.prog W 0 (fun _ => true) true Try.f4.params.toList args.toList ds p := hA0
  rw [Try.params4] at hA hval
  obtain ⟨v0, vs0, d0, ds0, p0, q0, hargs, rfl, rfl, h0, r0⟩ := trodAll_cons hA
  obtain ⟨v1, vs1, d1, ds1, p1, q1, rfl, rfl, rfl, h1, r1⟩ := trodAll_cons r0
  obtain ⟨v2, vs2, d2, ds2, p2, q2, rfl, rfl, rfl, h2, r2⟩ := trodAll_cons r1
  obtain ⟨rfl, rfl, rfl⟩ := trodAll_nil r2
  obtain rfl : args = #[v0, v1, v2] := by cases args; simp_all
  obtain ⟨rfl, rfl⟩ := trodVars_none hV
  have fin : ∀ W', Below W.heap.size W W' → Rows.ringFifoSpec.post enc Try.prog Try.f4 false true false false W #[v0, v1, v2] (.bool true) W' := fun W' hb =>
    post_law Try.laidB (by rw [Try.params4]; intro t ht; simp at ht; rcases ht with rfl | rfl | rfl <;> exact ⟨by kernel_rfl, of_decide_eq_true (by kernel_rfl)⟩) rfl rfl Try.underlying4 (by rfl) hW' hb
  clear hW' hA0 hval0
  obtain ⟨a0, rfl, rfl, rfl, w0⟩ := open_int Try.underlying5 (hval 0 5 v0 rfl rfl) h0
  obtain ⟨A1, l1, cap1, rfl, hwf1, hr1, hlen1⟩ : ∃ (A : Option Addr) (l : List Int) (cap : Nat), v1 = .slice A l.length cap ∧ (∀ x ∈ l, (Lit.int .u64 x).wf = true) ∧ Reads W A l ∧ l.length ≤ 9223372036854775807 := by
    obtain ⟨x1, n1, m1, rfl⟩ := okWide_slice Try.underlying22 (hval 1 22 v1 rfl rfl)
    obtain ⟨fuel1, g1⟩ := h1
    rcases open_ints Try.underlying22 Try.underlying38 (by kernel_rfl) g1 with ⟨e, _⟩ | ⟨a, len, cap, zs, e, _, hlc, hm, hz, _, hc, hwz⟩
    · simp [Value.cells] at e
      obtain ⟨rfl, rfl, rfl⟩ := e
      exact ⟨none, [], 0, rfl, by simp, .inl rfl, by simp⟩
    · simp [Value.cells] at e
      obtain ⟨rfl, rfl, rfl⟩ := e
      exact words_of hlc (by unfold maxLen at hm; omega) hz hc hwz
  obtain ⟨A2, l2, cap2, rfl, hr2, hlen2⟩ : ∃ (A : Option Addr) (l : List Bool) (cap : Nat), v2 = .slice A l.length cap ∧ ReadsT W A l ∧ l.length ≤ 9223372036854775807 := by
    obtain ⟨x2, n2, m2, rfl⟩ := okWide_slice Try.underlying50 (hval 2 50 v2 rfl rfl)
    obtain ⟨fuel2, g2⟩ := h2
    exact open_bools Try.underlying50 Try.underlying4 (by kernel_rfl) g2
  exact (ringfifo_walk W a0 A1 l1 cap1 A2 l2 cap2 (by have := u8_of w0; omega) (by have := u8_of w0; omega) hr1 (fun x hx => u64_of (hwf1 x hx)) hr2).mono fun e W' ⟨he, ho⟩ => ⟨_, he, fin W' (ho.below (by simp))⟩

theorem over : Rows.ringFifoRow.holds Try.pinned (OpenSpec.ofChange Rows.ringFifoSpec) :=
  OpenClaim.holds_of_wide 4 Try.f4 rfl rfl rfl rfl rfl rfl rfl ⟨rfl, rfl, rfl, rfl, rfl⟩ rfl rfl rfl rfl rfl (by kernel_rfl) Try.func4 (by kernel_rfl)
    (of_decide_eq_true (by kernel_rfl)) (by unfold Func.isWrapper; first | (rw [if_pos (by decide +kernel)]; kernel_rfl) | (rw [if_neg (by decide +kernel)]; exact ⟨rfl, rfl⟩))
    (fun os started H enc _ => lifted os started H enc)

theorem proved : Rows.RingFifoSaid := over
#print axioms proved
end Go.Proofs.Ytoecoijmkjhkgaa.ringFifo
