/- A slice of yeses and noes as a parameter, opened. -/
import Derived.Test.YtoecoijmkjhkgaaShell3
import Derived.ChangeArms
namespace Go.Proofs.Ytoecoijmkjhkgaa
open Go.ChangeShapes Go.WideShapes Go.ChangeAt Go.RowKit Go.Deep

def nthb (l : List Bool) (i : Nat) : Bool := l.getD i false

/-- Behind a slice's address lie these. -/
def ReadsT (w : World) (A : Option Addr) (l : List Bool) : Prop :=
  l = [] ∨ ∃ g o, g < w.heap.size ∧ A = some ⟨g, o, none⟩ ∧ ∀ i, i < l.length → w.cell? ⟨g, o + i, none⟩ = some (.bool (nthb l i))

theorem ReadsT.at {w : World} {A : Option Addr} {l : List Bool} (h : ReadsT w A l) {i : Nat} (hi : i < l.length) : ∃ g o, g < w.heap.size ∧ A = some ⟨g, o, none⟩ ∧ ∀ i, i < l.length → w.cell? ⟨g, o + i, none⟩ = some (.bool (nthb l i)) := by
  rcases h with rfl | h
  · simp at hi
  · exact h

section
variable {H : Type} {enc : TypeId × Value → H} {P : Program}

theorem open_bools {t e : TypeId} {w : World} {fuel : Nat} {v : Value} {x : DataW H × List MemPlace} (ht : P.underlying t = some (.slice e)) (he : P.underlying e = some .bool) (hc : P.cellsOf e = 1)
    (h : DataW.trod enc P w 0 (fun _ => true) true fuel t [v] = some x) : ∃ (A : Option Addr) (l : List Bool) (cap : Nat), v = .slice A l.length cap ∧ ReadsT w A l ∧ l.length ≤ 9223372036854775807 := by
  rcases open_slice1 ht hc h with ⟨h0, _⟩ | ⟨a, len, cap, m, n, V, D, Pl, hcs, _, hlc, hm, hmm, _, hx⟩
  · obtain rfl : v = .slice none 0 0 := by simpa using h0
    exact ⟨none, [], 0, rfl, .inl rfl, by simp⟩
  · obtain rfl : v = .slice (some a) len cap := by simpa using hcs
    have hml : len ≤ m := by rw [hmm]; split <;> omega
    have hV : ∀ i, i < len → ∃ b, V i = .bool b := fun i hi => by
      obtain ⟨h1, h2⟩ := hx i (by omega)
      obtain ⟨b, hb, _⟩ := DataW.trod_bool he h2
      exact ⟨b, by simpa using hb⟩
    let f : Nat → Bool := fun i => match V i with | .bool b => b | _ => false
    refine ⟨some a, (List.range len).map f, cap, by simp, ?_, by simp; unfold maxLen at hm; omega⟩
    rcases Nat.eq_zero_or_pos len with rfl | hpos
    · exact .inl rfl
    · have h0 := (hx 0 (by omega)).1
      have h0' : w.cell? a = some (V 0) := by simpa [Addr.add] using h0
      obtain ⟨hlt, hsp⟩ := cell_lt h0'
      obtain ⟨g, o, sp⟩ := a
      subst hsp
      refine .inr ⟨g, o, hlt, rfl, fun i hi => ?_⟩
      have hi' : i < len := by simpa using hi
      obtain ⟨h1, _⟩ := hx i (by omega)
      have e1 : (⟨g, o, none⟩ : Addr).add i = ⟨g, o + i, none⟩ := by
        unfold Addr.add
        split
        · rename_i e; subst e; rfl
        · rfl
      rw [e1] at h1
      obtain ⟨b, hb⟩ := hV i hi'
      rw [h1, hb]
      have : f i = b := by show (match V i with | .bool b => b | _ => false) = b; rw [hb]
      simp [nthb, hi', this]
end

end Go.Proofs.Ytoecoijmkjhkgaa
