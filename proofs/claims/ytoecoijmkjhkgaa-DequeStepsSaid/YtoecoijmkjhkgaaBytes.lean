/- Slices of bytes that came in. -/
import Derived.Test.YtoecoijmkjhkgaaAny
namespace Go.Proofs.Ytoecoijmkjhkgaa
open Go.RowKit

/-- The cells behind a slice's address are these bytes. -/
def ReadsB (w : World) (A : Option Addr) (L : List Int) : Prop :=
  L = [] ∨ ∃ g o, g < w.heap.size ∧ A = some ⟨g, o, none⟩ ∧ ∀ i, i < L.length → w.cell? ⟨g, o + i, none⟩ = some (.int .u8 (nth L i))

theorem ReadsB.at {w : World} {A : Option Addr} {L : List Int} (h : ReadsB w A L) {k : Nat} (hk : k < L.length) : ∃ g o, g < w.heap.size ∧ A = some ⟨g, o, none⟩ ∧ ∀ i, i < L.length → w.cell? ⟨g, o + i, none⟩ = some (.int .u8 (nth L i)) := by
  rcases h with rfl | h
  · simp at hk
  · exact h

theorem u8_wf {x : Int} (h : (Lit.int .u8 x).wf = true) : 0 ≤ x ∧ x ≤ 255 := by
  simpa [Lit.wf, IntKind.min, IntKind.max, IntKind.signed, IntKind.bits] using h

/-- A slice of bytes that was opened up to its capacity. -/
theorem bytes_of {w : World} {a : Addr} {len cap : Nat} {zs : List Int} {q : Bool} (hlc : len ≤ cap) (hm : cap ≤ 9223372036854775807) (hz : zs.length = if q = true then cap else len)
    (hc : ∀ i, i < zs.length → w.cell? (a.add i) = some (.int .u8 (zs.getD i 0))) (hwz : ∀ n ∈ zs, (Lit.int .u8 n).wf = true) :
    ∃ (A : Option Addr) (l : List Int) (cap' : Nat), Value.slice (some a) len cap = .slice A l.length cap' ∧ (∀ i, i < l.length → 0 ≤ nth l i ∧ nth l i ≤ 255) ∧ ReadsB w A l ∧ l.length ≤ 9223372036854775807 := by
  have hle : len ≤ zs.length := by rw [hz]; split <;> omega
  have hl : (zs.take len).length = len := by rw [List.length_take]; omega
  refine ⟨some a, zs.take len, cap, by rw [hl], fun i hi => ?_, ?_, by omega⟩
  · have hmem : nth (zs.take len) i ∈ zs := by
      have e : nth (zs.take len) i = (zs.take len)[i] := by
        unfold nth
        rw [List.getD_eq_getElem?_getD, List.getElem?_eq_getElem hi]
        rfl
      rw [e]
      exact List.mem_of_mem_take (List.getElem_mem hi)
    exact u8_wf (hwz _ hmem)
  rcases Nat.eq_zero_or_pos len with rfl | hpos
  · exact .inl rfl
  · have h0 : w.cell? a = some (.int .u8 (zs.getD 0 0)) := by simpa [Addr.add] using hc 0 (by omega)
    obtain ⟨hlt, hsp⟩ := cell_lt h0
    obtain ⟨g, o, sp⟩ := a
    subst hsp
    refine .inr ⟨g, o, hlt, rfl, fun i hi => ?_⟩
    rw [hl] at hi
    have e : (⟨g, o, none⟩ : Addr).add i = ⟨g, o + i, none⟩ := by
      unfold Addr.add
      split
      · rename_i e; subst e; rfl
      · rfl
    rw [← e, hc i (by omega)]
    simp [nth, List.getD, hi]

end Go.Proofs.Ytoecoijmkjhkgaa
