/- The parameter of the laws on many (a struct of numbers, a slice of slices of words, a slice of bytes), opened. -/
import Derived.Test.YtoecoijmkjhkgaaShell2
import Derived.Test.YtoecoijmkjhkgaaBytes
namespace Go.Proofs.Ytoecoijmkjhkgaa
open Go.ChangeShapes Go.WideShapes Go.ChangeAt Go.RowKit Go.Deep

/-- Behind a slice's address lie n slices. -/
def ReadsRows (w : World) (A : Option Addr) (n : Nat) : Prop :=
  n = 0 ∨ ∃ g o, g < w.heap.size ∧ A = some ⟨g, o, none⟩ ∧ ∀ i, i < n → ∃ B len cap, w.cell? ⟨g, o + i, none⟩ = some (.slice B len cap)

theorem ReadsRows.only {w w' : World} {A : Option Addr} {n : Nat} (h : ReadsRows w A n) (o : Only [] w w') : ReadsRows w' A n := by
  rcases h with h | ⟨g, f, hg, rfl, hc⟩
  · exact .inl h
  · refine .inr ⟨g, f, Nat.lt_of_lt_of_le hg o.size, rfl, fun i hi => ?_⟩
    obtain ⟨B, len, cap, h⟩ := hc i hi
    exact ⟨B, len, cap, by rw [o.cell (p := ⟨g, f + i, none⟩) hg (by simp)]; exact h⟩
theorem ReadsB.quiet {w w' : World} {A : Option Addr} {L : List Int} (h : ReadsB w A L) (o : Only [] w w') : ReadsB w' A L := by
  rcases h with h | ⟨g, f, hg, rfl, hc⟩
  · exact .inl h
  · refine .inr ⟨g, f, Nat.lt_of_lt_of_le hg o.size, rfl, fun i hi => ?_⟩
    rw [o.cell (p := ⟨g, f + i, none⟩) hg (by simp)]
    exact hc i hi

section
variable {H : Type} {enc : TypeId × Value → H} {P : Program}

theorem open_rows {t e e2 : TypeId} {w : World} {fuel : Nat} {v : Value} {x : DataW H × List MemPlace} (ht : P.underlying t = some (.slice e)) (he : P.underlying e = some (.slice e2)) (hc : P.cellsOf e = 1)
    (h : DataW.trod enc P w 0 (fun _ => true) true fuel t [v] = some x) : ∃ A n cap, v = .slice A n cap ∧ n ≤ cap ∧ n ≤ 9223372036854775807 ∧ ReadsRows w A n := by
  rcases open_slice1 ht hc h with ⟨h0, _⟩ | ⟨a, len, cap, m, n, V, D, Pl, hcs, _, hlc, hm, hmm, _, hx⟩
  · obtain rfl : v = .slice none 0 0 := by simpa using h0
    exact ⟨none, 0, 0, rfl, by omega, by omega, .inl rfl⟩
  · obtain rfl : v = .slice (some a) len cap := by simpa using hcs
    refine ⟨some a, len, cap, rfl, hlc, by unfold maxLen at hm; omega, ?_⟩
    rcases Nat.eq_zero_or_pos len with rfl | hpos
    · exact .inl rfl
    · have hml : len ≤ m := by rw [hmm]; split <;> omega
      have h0 := (hx 0 (by omega)).1
      have h0' : w.cell? a = some (V 0) := by simpa [Addr.add] using h0
      obtain ⟨hlt, hsp⟩ := cell_lt h0'
      obtain ⟨g, o, sp⟩ := a
      subst hsp
      refine .inr ⟨g, o, hlt, rfl, fun i hi => ?_⟩
      obtain ⟨h1, h2⟩ := hx i (by omega)
      have e1 : (⟨g, o, none⟩ : Addr).add i = ⟨g, o + i, none⟩ := by
        unfold Addr.add
        split
        · rename_i e; subst e; rfl
        · rfl
      rw [e1] at h1
      rcases open_slice he h2 with ⟨h3, _⟩ | ⟨b, len2, cap2, _, _, _, _, h3, _⟩
      · obtain h4 : V i = .slice none 0 0 := by simpa using h3
        exact ⟨none, 0, 0, by rw [← h4]; exact h1⟩
      · obtain h4 : V i = .slice (some b) len2 cap2 := by simpa using h3
        exact ⟨some b, len2, cap2, by rw [← h4]; exact h1⟩

theorem open_bytes {t e : TypeId} {w : World} {fuel : Nat} {v : Value} {x : DataW H × List MemPlace} (ht : P.underlying t = some (.slice e)) (he : P.underlying e = some (.int .u8)) (hc : P.cellsOf e = 1)
    (h : DataW.trod enc P w 0 (fun _ => true) true fuel t [v] = some x) : ∃ (A : Option Addr) (l : List Int) (cap : Nat), v = .slice A l.length cap ∧ (∀ i, i < l.length → 0 ≤ nth l i ∧ nth l i ≤ 255) ∧ ReadsB w A l ∧ l.length ≤ 9223372036854775807 := by
  rcases open_ints ht he hc h with ⟨e, _⟩ | ⟨a, len, cap, zs, e, _, hlc, hm, hz, _, hcc, hwz⟩
  · obtain rfl : v = .slice none 0 0 := by simpa using e
    exact ⟨none, [], 0, rfl, fun i hi => by simp at hi, .inl rfl, by simp⟩
  · obtain rfl : v = .slice (some a) len cap := by simpa using e
    exact bytes_of hlc (by unfold maxLen at hm; omega) hz hcc hwz

theorem open_case {r : Reach} {b0 : Nat} {t : TypeId} {f0 f1 f2 f3 f4 f5 : Field} {w : World} {v : Value} {d : DataW H} {p : List MemPlace} (hs : P.underlying t = some (.struct #[f0, f1, f2, f3, f4, f5])) (hone : oneCellFields P #[f0, f1, f2, f3, f4, f5] = true) (hC : P.cellsOf t = 6)
    (k0 : P.underlying f0.type = some (.int .u8)) (k1 : P.underlying f1.type = some (.int .u8)) (k3 : P.underlying f3.type = some (.int .u8)) (k5 : P.underlying f5.type = some (.int .u8))
    (hv : Value.okWide P w r b0 t v) (h : DataW.Trod enc P w 0 (fun _ => true) true t v d p) :
    ∃ (a s rd wd : Int) (v2 v4 : Value) (n : Nat) (x2 x4 : DataW H × List MemPlace), v = .agg #[.int .u8 a, .int .u8 s, v2, .int .u8 rd, v4, .int .u8 wd] ∧ (Lit.int .u8 a).wf = true ∧ (Lit.int .u8 s).wf = true ∧ (Lit.int .u8 rd).wf = true ∧ (Lit.int .u8 wd).wf = true ∧
      DataW.trod enc P w 0 (fun _ => true) true n f2.type [v2] = some x2 ∧ DataW.trod enc P w 0 (fun _ => true) true n f4.type [v4] = some x4 := by
  obtain ⟨cs, rfl, hsz⟩ := okWide_struct hs hv
  obtain ⟨l⟩ := cs
  match l, hsz.trans hC with
  | [c0, c1, c2, c3, c4, c5], _ =>
    obtain ⟨fuel, hf⟩ := h
    obtain ⟨ys, n, _, _, _, hlen, hg⟩ := DataW.trod_struct hs hf
    obtain ⟨o0, j0⟩ := hone_of hone 0 f0 rfl
    obtain ⟨o1, j1⟩ := hone_of hone 1 f1 rfl
    obtain ⟨o2, j2⟩ := hone_of hone 2 f2 rfl
    obtain ⟨o3, j3⟩ := hone_of hone 3 f3 rfl
    obtain ⟨o4, j4⟩ := hone_of hone 4 f4 rfl
    obtain ⟨o5, j5⟩ := hone_of hone 5 f5 rfl
    match ys, hlen with
    | [y0, y1, y2, y3, y4, y5], _ =>
      have g0 := hg 0 f0 rfl
      have g1 := hg 1 f1 rfl
      have g2 := hg 2 f2 rfl
      have g3 := hg 3 f3 rfl
      have g4 := hg 4 f4 rfl
      have g5 := hg 5 f5 rfl
      rw [o0, j0] at g0
      rw [o1, j1] at g1
      rw [o2, j2] at g2
      rw [o3, j3] at g3
      rw [o4, j4] at g4
      rw [o5, j5] at g5
      obtain ⟨x0, e0, _, z0⟩ := DataW.trod_int k0 (show DataW.trod enc P w 0 (fun _ => true) true n f0.type [c0] = some y0 from g0)
      obtain ⟨x1, e1, _, z1⟩ := DataW.trod_int k1 (show DataW.trod enc P w 0 (fun _ => true) true n f1.type [c1] = some y1 from g1)
      obtain ⟨x3, e3, _, z3⟩ := DataW.trod_int k3 (show DataW.trod enc P w 0 (fun _ => true) true n f3.type [c3] = some y3 from g3)
      obtain ⟨x5, e5, _, z5⟩ := DataW.trod_int k5 (show DataW.trod enc P w 0 (fun _ => true) true n f5.type [c5] = some y5 from g5)
      simp only [List.cons.injEq, and_true] at e0 e1 e3 e5
      subst e0 e1 e3 e5
      exact ⟨x0, x1, x3, x5, c2, c4, n, y2, y4, rfl, z0, z1, z3, z5, g2, g4⟩
end

end Go.Proofs.Ytoecoijmkjhkgaa
