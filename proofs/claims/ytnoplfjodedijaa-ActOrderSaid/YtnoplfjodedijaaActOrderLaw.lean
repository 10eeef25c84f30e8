/- ActOrder is proved: for every script and every two acts the law returns true. No condition. -/
import Derived.Test.YtnoplfjodedijaaActOrdW
import Derived.Test.YtnoplfjodedijaaShell2
namespace Go.Proofs.Ytnoplfjodedijaa.actOrder
open Go.ChangeShapes Go.WideShapes Go.ChangeAt Go.RowKit Go.Deep

set_option maxRecDepth 100000 in
theorem lifted (os : Os) (started : os.Started) (H : Type) (enc : TypeId × Value → H) :
    ReturnsInHanded {} Try.checked os 8 .any (Rows.actOrderSpec.pre6 enc Try.prog Try.f8 Rows.actOrderRow.domain false) (Rows.actOrderSpec.post enc Try.prog Try.f8 false true false false) := by
  refine returnsInHanded_of_change (C := Try.checked) Try.own started (by kernel_rfl) Try.func8
    (ChangeSpec.witness6 (enc := enc) (C := Try.checked) false ⟨#[], #[.slice none 0 0, .agg #[.int .i64 0, .int .i64 0, .int .u64 0, .int .u64 0], .agg #[.int .i64 0, .int .i64 0, .int .u64 0, .int .u64 0]], []⟩ 8 (by kernel_rfl) (by kernel_rfl) (by kernel_rfl) (by kernel_rfl)) ?_
  intro W base args ds gs before hval0 hW _ _
  have hval : ∀ (j : Nat) t v, Try.f8.params[j]? = some t → args[j]? = some v → Value.okWide Try.prog W .any base t v := hval0
  have hW' := hW
  obtain ⟨p, q, hA0, hV, rfl, hfz, hnd⟩ := hW
  have hA : DataW.TrodAll enc Try.prog W 0 (fun _ => true) true Try.f8.params.toList args.toList ds p := hA0
  rw [Try.params8] at hA hval
  obtain ⟨v0, vs0, d0, ds0, p0, q0, hargs, rfl, rfl, h0, r0⟩ := trodAll_cons hA
  obtain ⟨v1, vs1, d1, ds1, p1, q1, rfl, rfl, rfl, h1, r1⟩ := trodAll_cons r0
  obtain ⟨v2, vs2, d2, ds2, p2, q2, rfl, rfl, rfl, h2, r2⟩ := trodAll_cons r1
  obtain ⟨rfl, rfl, rfl⟩ := trodAll_nil r2
  obtain rfl : args = #[v0, v1, v2] := by cases args; simp_all
  obtain ⟨rfl, rfl⟩ := trodVars_none hV
  have fin : ∀ W', Below W.heap.size W W' → Rows.actOrderSpec.post enc Try.prog Try.f8 false true false false W #[v0, v1, v2] (.bool true) W' := fun W' hb =>
    post_law Try.laidB (by rw [Try.params8]; intro t ht; simp at ht; rcases ht with rfl | rfl | rfl <;> exact ⟨by kernel_rfl, of_decide_eq_true (by kernel_rfl)⟩) rfl rfl Try.underlying4 (by rfl) hW' hb
  clear hW' hA0 hval0
  obtain ⟨fuel0, g0⟩ := h0
  obtain ⟨A0, l0, cap0, rfl, hwf0, hr0, hlen0⟩ : ∃ (A : Option Addr) (l : List Act') (cap : Nat), v0 = .slice A l.length cap ∧ (∀ x ∈ l, x.wf) ∧ ReadsActs W A l ∧ l.length ≤ 9223372036854775807 := by
    obtain ⟨x0, n0, m0, rfl⟩ := okWide_slice Try.underlying33 (hval 0 33 v0 rfl rfl)
    rcases open_quads Try.underlying33 Try.underlying24 Try.underlying3 Try.underlying3 Try.underlying22 Try.underlying22 (by kernel_rfl) (by kernel_rfl) g0 with e | ⟨a, len, cap, e, hlc, hm, hc⟩
    · simp [Value.cells] at e
      obtain ⟨rfl, rfl, rfl⟩ := e
      exact ⟨none, [], 0, rfl, by simp, .inl rfl, by simp⟩
    · simp [Value.cells] at e
      obtain ⟨rfl, rfl, rfl⟩ := e
      obtain ⟨l, hl, hwf, hr⟩ := acts_of hc
      exact ⟨_, l, _, by rw [hl], hwf, hr, by unfold maxLen at hm; omega⟩
  obtain ⟨k1, i1, a1, b1, rfl, wk1, wi1, wa1, wb1⟩ := open_act Try.underlying24 (by kernel_rfl) (by kernel_rfl) Try.underlying3 Try.underlying3 Try.underlying22 Try.underlying22 (hval 1 24 v1 rfl rfl) h1
  obtain ⟨k2, i2, a2, b2, rfl, wk2, wi2, wa2, wb2⟩ := open_act Try.underlying24 (by kernel_rfl) (by kernel_rfl) Try.underlying3 Try.underlying3 Try.underlying22 Try.underlying22 (hval 2 24 v2 rfl rfl) h2
  exact (actorder_walk W A0 cap0 l0 k1 i1 a1 b1 k2 i2 a2 b2 hr0 hlen0).mono fun e W' ⟨he, ho⟩ => ⟨_, he, fin W' (ho.below (by simp))⟩

theorem over : Rows.actOrderRow.holds Try.pinned (OpenSpec.ofChange Rows.actOrderSpec) :=
  OpenClaim.holds_of_wide 8 Try.f8 rfl rfl rfl rfl rfl rfl rfl ⟨rfl, rfl, rfl, rfl, rfl⟩ rfl rfl rfl rfl rfl (by kernel_rfl) Try.func8 (by kernel_rfl)
    (of_decide_eq_true (by kernel_rfl)) (by unfold Func.isWrapper; first | (rw [if_pos (by decide +kernel)]; kernel_rfl) | (rw [if_neg (by decide +kernel)]; exact ⟨rfl, rfl⟩))
    (fun os started H enc _ => lifted os started H enc)

theorem proved : Rows.ActOrderSaid := over
#print axioms proved
end Go.Proofs.Ytnoplfjodedijaa.actOrder
