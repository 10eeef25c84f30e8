/- The frame of a law's proof, for any parameters: if the call returns true and nothing that was there has turned, the row's post holds. And what a slice of structs of four numbers reads as. -/
import Derived.Test.YtoecoijmkjhkgaaRows
import Derived.Test.YtoecoijmkjhkgaaBase
import Derived.ProofKit
import Derived.OpenShut
import Derived.ShutString
import Derived.Deep.Slices
import Derived.Deep.Fields
namespace Go.Proofs.Ytoecoijmkjhkgaa
open Go.ChangeShapes Go.WideShapes Go.ChangeAt Go.RowKit Go.Deep

theorem Try.own : ownKnob Try.prog.godebug = none := by kernel_rfl
theorem Try.laidB : laidOutB Try.prog = true := by kernel_rfl

theorem u8_of {x : Int} (h : (Lit.int .u8 x).wf = true) : 0 ≤ x ∧ x ≤ 255 := by
  simpa [Lit.wf, IntKind.min, IntKind.max, IntKind.signed, IntKind.bits] using h

section
variable {H : Type} {enc : TypeId × Value → H} {P : Program}

theorem trodAll_stay (hl : laidOutB P = true) {W W' : World} (hb : Below W.heap.size W W') : ∀ {ts : List TypeId} {vs : List Value} {ds : List (DataW H)} {ps : List MemPlace},
    (∀ t ∈ ts, P.readableRec t = true ∧ t < P.types.size) → DataW.TrodAll enc P W 0 (fun _ => true) true ts vs ds ps → (∀ x ∈ ps, x.block < W.heap.size) →
    DataW.TrodAll enc P W' 0 (fun b => decide (b < W.heap.size)) true ts vs ds ps := by
  intro ts
  induction ts with
  | nil =>
    intro vs ds ps _ h _
    obtain ⟨rfl, rfl, rfl⟩ := trodAll_nil h
    exact trodAll_mk0
  | cons t ts ih =>
    intro vs ds ps hr h hlt
    obtain ⟨v, vs', d, ds', p, q, rfl, rfl, rfl, h0, h1⟩ := trodAll_cons h
    have ht := hr t (by simp)
    exact trodAll_cons_mk (Below.trod hl ht.1 ht.2 h0 hb fun x hx => hlt x (by simp [hx])) (ih (fun u hu => hr u (by simp [hu])) h1 fun x hx => hlt x (by simp [hx]))

/-- The row's post, where the call returned true and nothing that was there has turned. -/
theorem post_law {f : Func} {s : ChangeSpec} {tb : TypeId} (hl : laidOutB P = true) (hr : ∀ t ∈ f.params.toList, P.readableRec t = true ∧ t < P.types.size) (hv : s.vars = []) (hrt : f.resultTypes = #[tb]) (htb : P.underlying tb = some .bool)
    {W W' : World} {args : Array Value} {ds gs : List (DataW H)} {before : List MemPlace} (hs : s.fn H (ds ++ gs) = { results := [.lit (.bool true)], args := ds })
    (hW : DataW.Whole enc P f.params.toList s.vars false W args.toList ds gs before) (hb : Below W.heap.size W W') : s.post enc P f false true false false W args (.bool true) W' := by
  have hlt : ∀ p ∈ before, p.block < W.heap.size := fun p hp => hW.lt p hp
  obtain ⟨p, q, hA, hV, rfl, _, _⟩ := id hW
  have hV' : DataW.TrodVars enc P W (fun _ => true) [] gs q := hv ▸ hV
  obtain ⟨rfl, rfl⟩ := trodVars_none hV'
  refine ⟨ds, [], p ++ [], [], p, [], hW, ?_, ?_, ?_, World.keptBut_mono (fun x hx => ⟨hx, ?_⟩) (hb.frame (· ∈ p ++ [])), fun h => by cases h⟩
  · rw [hs, hrt]
    exact trodAll_mk1 (shut_bool htb true)
  · rw [hs]
    exact trodAll_stay hl hb hr hA fun x hx => hlt x (by simp [hx])
  · rw [hv, hs]
    exact rfl
  · rw [List.append_nil] at hx
    exact .inr (.inl hx)

/-- An array of three words by value. -/
theorem open_three {r : Reach} {b0 : Nat} {t e : TypeId} {w : World} {v : Value} {d : DataW H} {p : List MemPlace} (ht : P.underlying t = some (.array 3 e)) (he : P.underlying e = some (.int .u64)) (hC : P.cellsOf t = 3) (hE : P.cellsOf e = 1)
    (hv : Value.okWide P w r b0 t v) (h : DataW.Trod enc P w 0 (fun _ => true) true t v d p) : ∃ x y z : Int, v = .agg #[.int .u64 x, .int .u64 y, .int .u64 z] ∧ (Lit.int .u64 x).wf = true ∧ (Lit.int .u64 y).wf = true ∧ (Lit.int .u64 z).wf = true := by
  obtain ⟨cs, rfl, hsz⟩ : ∃ cs, v = .agg cs ∧ cs.size = P.cellsOf t := by
    simp only [Value.okWide, ht] at hv
    obtain ⟨cs, h1, h2, _⟩ := hv
    exact ⟨cs, h1, h2⟩
  obtain ⟨l⟩ := cs
  match l, hsz.trans hC with
  | [c0, c1, c2], _ =>
    obtain ⟨fuel, hf⟩ := h
    obtain ⟨xs, n, _, _, _, hlen, hg⟩ := DataW.trod_array ht hf
    rw [hE] at hg
    match xs, hlen with
    | [y0, y1, y2], _ =>
      obtain ⟨x0, e0, _, z0⟩ := DataW.trod_int he (show DataW.trod enc P w 0 (fun _ => true) true n e [c0] = some y0 from hg 0 (by decide))
      obtain ⟨x1, e1, _, z1⟩ := DataW.trod_int he (show DataW.trod enc P w 0 (fun _ => true) true n e [c1] = some y1 from hg 1 (by decide))
      obtain ⟨x2, e2, _, z2⟩ := DataW.trod_int he (show DataW.trod enc P w 0 (fun _ => true) true n e [c2] = some y2 from hg 2 (by decide))
      simp only [List.cons.injEq, and_true] at e0 e1 e2
      subst e0 e1 e2
      exact ⟨x0, x1, x2, rfl, z0, z1, z2⟩

/-- A slice of structs of four fields of one cell, opened: its elements' cells. -/
theorem open_quads {t e : TypeId} {f0 f1 f2 f3 : Field} {w : World} {fuel : Nat} {cs : List Value} {x : DataW H × List MemPlace} (ht : P.underlying t = some (.slice e)) (he : P.underlying e = some (.struct #[f0, f1, f2, f3]))
    (k0 : P.underlying f0.type = some (.int .i64)) (k1 : P.underlying f1.type = some (.int .i64)) (k2 : P.underlying f2.type = some (.int .u64)) (k3 : P.underlying f3.type = some (.int .u64))
    (hone : oneCellFields P #[f0, f1, f2, f3] = true) (hC : P.cellsOf e = 4) (h : DataW.trod enc P w 0 (fun _ => true) true fuel t cs = some x) :
    cs = [.slice none 0 0] ∨ ∃ (a : Addr) (len cap : Nat), cs = [.slice (some a) len cap] ∧ len ≤ cap ∧ cap ≤ maxLen ∧
      ∀ i, i < len → ∃ y0 y1 y2 y3 : Int, ((Lit.int .i64 y0).wf = true ∧ (Lit.int .i64 y1).wf = true ∧ (Lit.int .u64 y2).wf = true ∧ (Lit.int .u64 y3).wf = true) ∧ w.cell? (a.add (i * 4)) = some (.int .i64 y0) ∧ w.cell? (a.add (i * 4 + 1)) = some (.int .i64 y1) ∧ w.cell? (a.add (i * 4 + 2)) = some (.int .u64 y2) ∧ w.cell? (a.add (i * 4 + 3)) = some (.int .u64 y3) := by
  rcases Deep.open_slice ht h with h0 | ⟨a, len, cap, m, n, D, Pl, hcs, _, hlc, hm, hmm, _, hi⟩
  · exact .inl h0.1
  · refine .inr ⟨a, len, cap, hcs, hlc, hm, fun i him => ?_⟩
    obtain ⟨cs', hc, ht'⟩ := hi i (by rw [hmm]; simp; omega)
    rw [hC] at hc
    obtain ⟨ys, n', _, _, hlen, _, hf⟩ := DataW.trod_struct he ht'
    obtain ⟨_, _, hat⟩ := World.cells?_some hc
    rw [hC] at hlen
    match cs', hlen with
    | [v0, v1, v2, v3], _ =>
      obtain ⟨o0, j0⟩ := Deep.hone_of hone 0 f0 rfl
      obtain ⟨o1, j1⟩ := Deep.hone_of hone 1 f1 rfl
      obtain ⟨o2, j2⟩ := Deep.hone_of hone 2 f2 rfl
      obtain ⟨o3, j3⟩ := Deep.hone_of hone 3 f3 rfl
      have g0 := hf 0 f0 rfl
      have g1 := hf 1 f1 rfl
      have g2 := hf 2 f2 rfl
      have g3 := hf 3 f3 rfl
      rw [o0, j0] at g0
      rw [o1, j1] at g1
      rw [o2, j2] at g2
      rw [o3, j3] at g3
      match ys with
      | y0 :: y1 :: y2 :: y3 :: _ =>
        obtain ⟨x0, e0, _, z0⟩ := DataW.trod_int k0 (show DataW.trod enc P w 0 (fun _ => true) true n' f0.type [v0] = some y0 from g0)
        obtain ⟨x1, e1, _, z1⟩ := DataW.trod_int k1 (show DataW.trod enc P w 0 (fun _ => true) true n' f1.type [v1] = some y1 from g1)
        obtain ⟨x2, e2, _, z2⟩ := DataW.trod_int k2 (show DataW.trod enc P w 0 (fun _ => true) true n' f2.type [v2] = some y2 from g2)
        obtain ⟨x3, e3, _, z3⟩ := DataW.trod_int k3 (show DataW.trod enc P w 0 (fun _ => true) true n' f3.type [v3] = some y3 from g3)
        simp only [List.cons.injEq, and_true] at e0 e1 e2 e3
        subst e0 e1 e2 e3
        refine ⟨x0, x1, x2, x3, ⟨z0, z1, z2, z3⟩, ?_, ?_, ?_, ?_⟩
        · have := hat (i := 0) (by decide); rwa [Deep.add_add] at this
        · have := hat (i := 1) (by decide); rwa [Deep.add_add] at this
        · have := hat (i := 2) (by decide); rwa [Deep.add_add] at this
        · have := hat (i := 3) (by decide); rwa [Deep.add_add] at this
end

end Go.Proofs.Ytoecoijmkjhkgaa
