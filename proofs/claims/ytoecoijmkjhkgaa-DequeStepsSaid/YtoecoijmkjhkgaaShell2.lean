/- More parameters opened: an array of two words, a struct of four numbers, a text. -/
import Derived.Test.YtoecoijmkjhkgaaShell
import Derived.Lib.SmallJoins
import Derived.ChangeMaps5
namespace Go.Proofs.Ytoecoijmkjhkgaa
open Go.ChangeShapes Go.WideShapes Go.ChangeAt Go.RowKit Go.Deep

section
variable {H : Type} {enc : TypeId × Value → H} {P : Program}

theorem open_two {r : Reach} {b0 : Nat} {t e : TypeId} {w : World} {v : Value} {d : DataW H} {p : List MemPlace} (ht : P.underlying t = some (.array 2 e)) (he : P.underlying e = some (.int .u64)) (hC : P.cellsOf t = 2) (hE : P.cellsOf e = 1)
    (hv : Value.okWide P w r b0 t v) (h : DataW.Trod enc P w 0 (fun _ => true) true t v d p) : ∃ x y : Int, v = .agg #[.int .u64 x, .int .u64 y] ∧ (Lit.int .u64 x).wf = true ∧ (Lit.int .u64 y).wf = true := by
  obtain ⟨cs, rfl, hsz⟩ : ∃ cs, v = .agg cs ∧ cs.size = P.cellsOf t := by
    simp only [Value.okWide, ht] at hv
    obtain ⟨cs, h1, h2, _⟩ := hv
    exact ⟨cs, h1, h2⟩
  obtain ⟨l⟩ := cs
  match l, hsz.trans hC with
  | [c0, c1], _ =>
    obtain ⟨fuel, hf⟩ := h
    obtain ⟨xs, n, _, _, _, hlen, hg⟩ := DataW.trod_array ht hf
    rw [hE] at hg
    match xs, hlen with
    | [y0, y1], _ =>
      obtain ⟨x0, e0, _, z0⟩ := DataW.trod_int he (show DataW.trod enc P w 0 (fun _ => true) true n e [c0] = some y0 from hg 0 (by decide))
      obtain ⟨x1, e1, _, z1⟩ := DataW.trod_int he (show DataW.trod enc P w 0 (fun _ => true) true n e [c1] = some y1 from hg 1 (by decide))
      simp only [List.cons.injEq, and_true] at e0 e1
      subst e0 e1
      exact ⟨x0, x1, rfl, z0, z1⟩

theorem open_act {r : Reach} {b0 : Nat} {t : TypeId} {f0 f1 f2 f3 : Field} {w : World} {v : Value} {d : DataW H} {p : List MemPlace} (hs : P.underlying t = some (.struct #[f0, f1, f2, f3])) (hone : oneCellFields P #[f0, f1, f2, f3] = true) (hC : P.cellsOf t = 4)
    (k0 : P.underlying f0.type = some (.int .i64)) (k1 : P.underlying f1.type = some (.int .i64)) (k2 : P.underlying f2.type = some (.int .u64)) (k3 : P.underlying f3.type = some (.int .u64))
    (hv : Value.okWide P w r b0 t v) (h : DataW.Trod enc P w 0 (fun _ => true) true t v d p) :
    ∃ x0 x1 x2 x3 : Int, v = .agg #[.int .i64 x0, .int .i64 x1, .int .u64 x2, .int .u64 x3] ∧ (Lit.int .i64 x0).wf = true ∧ (Lit.int .i64 x1).wf = true ∧ (Lit.int .u64 x2).wf = true ∧ (Lit.int .u64 x3).wf = true := by
  obtain ⟨v0, v1, v2, v3, y0, y1, y2, y3, n, rfl, _, _, g0, g1, g2, g3⟩ := Go.Joins.open_agg4 hs hone hC hv h
  obtain ⟨x0, e0, _, z0⟩ := DataW.trod_int k0 g0
  obtain ⟨x1, e1, _, z1⟩ := DataW.trod_int k1 g1
  obtain ⟨x2, e2, _, z2⟩ := DataW.trod_int k2 g2
  obtain ⟨x3, e3, _, z3⟩ := DataW.trod_int k3 g3
  simp only [List.cons.injEq, and_true] at e0 e1 e2 e3
  subst e0 e1 e2 e3
  exact ⟨x0, x1, x2, x3, rfl, z0, z1, z2, z3⟩
end

theorem i64_of {x : Int} (h : (Lit.int .i64 x).wf = true) : -9223372036854775808 ≤ x ∧ x < 9223372036854775808 := by
  simp [Lit.wf, IntKind.min, IntKind.max, IntKind.signed, IntKind.bits] at h
  omega
theorem u64_of {x : Int} (h : (Lit.int .u64 x).wf = true) : 0 ≤ x ∧ x < 18446744073709551616 := by
  simp [Lit.wf, IntKind.min, IntKind.max, IntKind.signed, IntKind.bits] at h
  omega

end Go.Proofs.Ytoecoijmkjhkgaa
