/- MemPlays is proved: for every number of words, every script and every place the law returns true. No condition. -/
import Derived.Test.YtabbnfodolekpaaMPlays
import Derived.Test.YtabbnfodolekpaaShell
namespace Go.Proofs.Ytabbnfodolekpaa.memPlays
open Go.ChangeShapes Go.WideShapes Go.ChangeAt Go.RowKit Go.Deep

set_option maxRecDepth 100000 in
theorem lifted (os : Os) (started : os.Started) (H : Type) (enc : TypeId × Value → H) :
    ReturnsInHanded {} Try.checked os 6 .any (Rows.memPlaysSpec.pre6 enc Try.prog Try.f6 Rows.memPlaysRow.domain false) (Rows.memPlaysSpec.post enc Try.prog Try.f6 false true false false) := by
  refine returnsInHanded_of_change (C := Try.checked) Try.own started (by kernel_rfl) Try.func6
    (ChangeSpec.witness6 (enc := enc) (C := Try.checked) false ⟨#[], #[.int .i64 0, .slice none 0 0, .int .i64 0], []⟩ 8 (by kernel_rfl) (by kernel_rfl) (by kernel_rfl) (by kernel_rfl)) ?_
  intro W base args ds gs before hval0 hW _ _
  have hval : ∀ (j : Nat) t v, Try.f6.params[j]? = some t → args[j]? = some v → Value.okWide Try.prog W .any base t v := hval0
  have hW' := hW
  obtain ⟨p, q, hA0, hV, rfl, hfz, hnd⟩ := hW
  have hA : DataW.TrodAll enc Try.prog W 0 (fun _ => true) true Try.f6.params.toList args.toList ds p := hA0
  rw [Try.params6] at hA hval
  obtain ⟨v0, vs0, d0, ds0, p0, q0, hargs, rfl, rfl, h0, r0⟩ := trodAll_cons hA
  obtain ⟨v1, vs1, d1, ds1, p1, q1, rfl, rfl, rfl, h1, r1⟩ := trodAll_cons r0
  obtain ⟨v2, vs2, d2, ds2, p2, q2, rfl, rfl, rfl, h2, r2⟩ := trodAll_cons r1
  obtain ⟨rfl, rfl, rfl⟩ := trodAll_nil r2
  obtain rfl : args = #[v0, v1, v2] := by cases args; simp_all
  obtain ⟨rfl, rfl⟩ := trodVars_none hV
  have fin : ∀ W', Below W.heap.size W W' → Rows.memPlaysSpec.post enc Try.prog Try.f6 false true false false W #[v0, v1, v2] (.bool true) W' := fun W' hb =>
    post_law Try.laidB (by rw [Try.params6]; intro t ht; simp at ht; rcases ht with rfl | rfl | rfl <;> exact ⟨by kernel_rfl, of_decide_eq_true (by kernel_rfl)⟩) rfl rfl Try.underlying4 (by rfl) hW' hb
  clear hW' hA0 hval0
  obtain ⟨a0, rfl, rfl, rfl, w0⟩ := open_int Try.underlying3 (hval 0 3 v0 rfl rfl) h0
  obtain ⟨fuel1, g1⟩ := h1
  obtain ⟨A1, l1, cap1, rfl, hwf1, hr1, hlen1⟩ : ∃ (A : Option Addr) (l : List Act') (cap : Nat), v1 = .slice A l.length cap ∧ (∀ x ∈ l, x.wf) ∧ ReadsActs W A l ∧ l.length ≤ 9223372036854775807 := by
    obtain ⟨x1, n1, m1, rfl⟩ := okWide_slice Try.underlying22 (hval 1 22 v1 rfl rfl)
    rcases open_quads Try.underlying22 Try.underlying29 Try.underlying3 Try.underlying3 Try.underlying27 Try.underlying27 (by kernel_rfl) (by kernel_rfl) g1 with e | ⟨a, len, cap, e, hlc, hm, hc⟩
    · simp [Value.cells] at e
      obtain ⟨rfl, rfl, rfl⟩ := e
      exact ⟨none, [], 0, rfl, by simp, .inl rfl, by simp⟩
    · simp [Value.cells] at e
      obtain ⟨rfl, rfl, rfl⟩ := e
      obtain ⟨l, hl, hwf, hr⟩ := acts_of hc
      exact ⟨_, l, _, by rw [hl], hwf, hr, by unfold maxLen at hm; omega⟩
  obtain ⟨a2, rfl, rfl, rfl, w2⟩ := open_int Try.underlying3 (hval 2 3 v2 rfl rfl) h2
  exact (memplays_walk W A1 cap1 l1 a0 a2 hr1 hlen1).mono fun e W' ⟨he, ho⟩ => ⟨_, he, fin W' (ho.below (by simp))⟩

theorem over : Rows.memPlaysRow.holds Try.pinned (OpenSpec.ofChange Rows.memPlaysSpec) :=
  OpenClaim.holds_of_wide 6 Try.f6 rfl rfl rfl rfl rfl rfl rfl ⟨rfl, rfl, rfl, rfl, rfl⟩ rfl rfl rfl rfl rfl (by kernel_rfl) Try.func6 (by kernel_rfl)
    (of_decide_eq_true (by kernel_rfl)) (by unfold Func.isWrapper; first | (rw [if_pos (by decide +kernel)]; kernel_rfl) | (rw [if_neg (by decide +kernel)]; exact ⟨rfl, rfl⟩))
    (fun os started H enc _ => lifted os started H enc)

theorem proved : Rows.MemPlaysSaid := over
#print axioms proved
end Go.Proofs.Ytabbnfodolekpaa.memPlays
