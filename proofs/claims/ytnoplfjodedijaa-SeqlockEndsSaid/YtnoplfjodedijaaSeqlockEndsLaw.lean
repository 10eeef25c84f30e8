/- SeqlockEnds is proved: for every list of values and every n the law returns true. No condition. -/
import Derived.Test.YtnoplfjodedijaaSeqEndsW
import Derived.Test.YtnoplfjodedijaaShell2
namespace Go.Proofs.Ytnoplfjodedijaa.seqlockEnds
open Go.ChangeShapes Go.WideShapes Go.ChangeAt Go.RowKit Go.Deep

set_option maxRecDepth 100000 in
theorem lifted (os : Os) (started : os.Started) (H : Type) (enc : TypeId × Value → H) :
    ReturnsInHanded {} Try.checked os 10 .any (Rows.seqlockEndsSpec.pre6 enc Try.prog Try.f10 Rows.seqlockEndsRow.domain false) (Rows.seqlockEndsSpec.post enc Try.prog Try.f10 false true false false) := by
  refine returnsInHanded_of_change (C := Try.checked) Try.own started (by kernel_rfl) Try.func10
    (ChangeSpec.witness6 (enc := enc) (C := Try.checked) false ⟨#[], #[.slice none 0 0, .int .u8 0], []⟩ 8 (by kernel_rfl) (by kernel_rfl) (by kernel_rfl) (by kernel_rfl)) ?_
  intro W base args ds gs before hval0 hW _ _
  have hval : ∀ (j : Nat) t v, Try.f10.params[j]? = some t → args[j]? = some v → Value.okWide Try.prog W .any base t v := hval0
  have hW' := hW
  obtain ⟨p, q, hA0, hV, rfl, hfz, hnd⟩ := hW
  have hA : DataW.TrodAll enc Try.prog W 0 (fun _ => true) true Try.f10.params.toList args.toList ds p := hA0
  rw [Try.params10] at hA hval
  obtain ⟨v0, vs0, d0, ds0, p0, q0, hargs, rfl, rfl, h0, r0⟩ := trodAll_cons hA
  obtain ⟨v1, vs1, d1, ds1, p1, q1, rfl, rfl, rfl, h1, r1⟩ := trodAll_cons r0
  obtain ⟨rfl, rfl, rfl⟩ := trodAll_nil r1
  obtain rfl : args = #[v0, v1] := by cases args; simp_all
  obtain ⟨rfl, rfl⟩ := trodVars_none hV
  have fin : ∀ W', Below W.heap.size W W' → Rows.seqlockEndsSpec.post enc Try.prog Try.f10 false true false false W #[v0, v1] (.bool true) W' := fun W' hb =>
    post_law Try.laidB (by rw [Try.params10]; intro t ht; simp at ht; rcases ht with rfl | rfl <;> exact ⟨by kernel_rfl, of_decide_eq_true (by kernel_rfl)⟩) rfl rfl Try.underlying4 (by rfl) hW' hb
  clear hW' hA0 hval0
  obtain ⟨A0, l0, cap0, rfl, hwf0, hr0, hlen0⟩ : ∃ (A : Option Addr) (l : List Int) (cap : Nat), v0 = .slice A l.length cap ∧ (∀ x ∈ l, (Lit.int .u64 x).wf = true) ∧ Reads W A l ∧ l.length ≤ 9223372036854775807 := by
    obtain ⟨x0, n0, m0, rfl⟩ := okWide_slice Try.underlying52 (hval 0 52 v0 rfl rfl)
    obtain ⟨fuel0, g0⟩ := h0
    rcases open_ints Try.underlying52 Try.underlying22 (by kernel_rfl) g0 with ⟨e, _⟩ | ⟨a, len, cap, zs, e, _, hlc, hm, hz, _, hc, hwz⟩
    · simp [Value.cells] at e
      obtain ⟨rfl, rfl, rfl⟩ := e
      exact ⟨none, [], 0, rfl, by simp, .inl rfl, by simp⟩
    · simp [Value.cells] at e
      obtain ⟨rfl, rfl, rfl⟩ := e
      exact words_of hlc (by unfold maxLen at hm; omega) hz hc hwz
  obtain ⟨a1, rfl, rfl, rfl, w1⟩ := open_int Try.underlying5 (hval 1 5 v1 rfl rfl) h1
  exact (seqends_walk W A0 cap0 l0 a1 (by have := u8_of w1; omega) (by have := u8_of w1; omega) hr0 (fun x hx => u64_of (hwf0 x hx)) hlen0).mono fun e W' ⟨he, ho⟩ => ⟨_, he, fin W' (ho.below (by simp))⟩

theorem over : Rows.seqlockEndsRow.holds Try.pinned (OpenSpec.ofChange Rows.seqlockEndsSpec) :=
  OpenClaim.holds_of_wide 10 Try.f10 rfl rfl rfl rfl rfl rfl rfl ⟨rfl, rfl, rfl, rfl, rfl⟩ rfl rfl rfl rfl rfl (by kernel_rfl) Try.func10 (by kernel_rfl)
    (of_decide_eq_true (by kernel_rfl)) (by unfold Func.isWrapper; first | (rw [if_pos (by decide +kernel)]; kernel_rfl) | (rw [if_neg (by decide +kernel)]; exact ⟨rfl, rfl⟩))
    (fun os started H enc _ => lifted os started H enc)

theorem proved : Rows.SeqlockEndsSaid := over
#print axioms proved
end Go.Proofs.Ytnoplfjodedijaa.seqlockEnds
