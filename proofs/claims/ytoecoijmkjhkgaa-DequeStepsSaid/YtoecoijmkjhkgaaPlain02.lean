/- Plain laws of the words: what a store, a cas, an add does to one word. No walk. -/
import Derived.Test.YtoecoijmkjhkgaaAny
namespace Go.Proofs.Ytoecoijmkjhkgaa
open Go.RowKit

theorem nth_set (L : List Int) (i j : Nat) (v : Int) (hi : i < L.length) : nth (L.set i v) j = if i = j then v else nth L j := by
  unfold nth
  by_cases h : i = j
  · subst h; simp [hi]
  · simp [h, List.getElem?_set_ne h]

theorem nth_new (n j : Nat) : nth (MS.new n).L j = 0 := by
  unfold nth MS.new
  by_cases h : j < n
  · simp [h]
  · simp [h]

namespace MS
theorem has_of {m : MS} {i : Int} (h0 : 0 ≤ i) (h1 : i < m.L.length) : m.has i = true := decide_eq_true ⟨h0, h1⟩

theorem store_cases (m : MS) (i v k : Int) (h0 : 0 ≤ k) (h1 : k < m.L.length) :
    ∃ m' er, m.store i v = (m', er) ∧ m'.L.length = m.L.length ∧
      ((er = 0 ∧ i = k ∧ nth m'.L k.toNat = v) ∨ (er = 0 ∧ i ≠ k ∧ nth m'.L k.toNat = nth m.L k.toNat) ∨ (er = 2 ∧ i ≠ k ∧ nth m'.L k.toNat = nth m.L k.toNat)) := by
  by_cases h : m.has i = true
  · refine ⟨_, _, by rw [MS.store, if_pos h], by simp, ?_⟩
    have := yes h
    by_cases e : i = k
    · subst e
      exact .inl ⟨rfl, rfl, by rw [nth_set _ _ _ _ (by omega), if_pos rfl]⟩
    · exact .inr (.inl ⟨rfl, e, by rw [nth_set _ _ _ _ (by omega), if_neg (by omega)]⟩)
  · refine ⟨_, _, by rw [MS.store, if_neg h], rfl, .inr (.inr ⟨rfl, ?_, rfl⟩)⟩
    rintro rfl
    exact h (has_of h0 h1)

theorem cas_cases (m : MS) (i x y k : Int) (h0 : 0 ≤ k) (h1 : k < m.L.length) :
    ∃ m' ok er, m.cas i x y = (m', ok, er) ∧ m'.L.length = m.L.length ∧
      ((i = k ∧ ok = true ∧ nth m.L k.toNat = x ∧ nth m'.L k.toNat = y) ∨ (i = k ∧ ok = false ∧ nth m.L k.toNat ≠ x ∧ nth m'.L k.toNat = nth m.L k.toNat) ∨ (i ≠ k ∧ nth m'.L k.toNat = nth m.L k.toNat)) := by
  by_cases h : m.has i = true
  · have := yes h
    by_cases e : nth m.L i.toNat = x
    · refine ⟨_, _, _, by rw [MS.cas, if_pos h, if_pos e], by simp, ?_⟩
      by_cases e' : i = k
      · subst e'
        exact .inl ⟨rfl, rfl, e, by rw [nth_set _ _ _ _ (by omega), if_pos rfl]⟩
      · exact .inr (.inr ⟨e', by rw [nth_set _ _ _ _ (by omega), if_neg (by omega)]⟩)
    · refine ⟨⟨m.L, wrap64 (m.c + 1), m.l⟩, false, 0, by rw [MS.cas, if_pos h, if_neg e], rfl, ?_⟩
      by_cases e' : i = k
      · subst e'
        exact .inr (.inl ⟨rfl, rfl, e, rfl⟩)
      · exact .inr (.inr ⟨e', rfl⟩)
  · refine ⟨_, _, _, by rw [MS.cas, if_neg h], rfl, .inr (.inr ⟨?_, rfl⟩)⟩
    rintro rfl
    exact h (has_of h0 h1)

theorem add_cases (m : MS) (i v k : Int) (h0 : 0 ≤ k) (h1 : k < m.L.length) :
    ∃ m' was er, m.add i v = (m', was, er) ∧ m'.L.length = m.L.length ∧
      ((i = k ∧ was = nth m.L k.toNat ∧ nth m'.L k.toNat = IntKind.u64.wrap (nth m.L k.toNat + v)) ∨ (i ≠ k ∧ nth m'.L k.toNat = nth m.L k.toNat)) := by
  by_cases h : m.has i = true
  · refine ⟨_, _, _, by rw [MS.add, if_pos h], by simp, ?_⟩
    have := yes h
    by_cases e : i = k
    · subst e
      exact .inl ⟨rfl, rfl, by rw [nth_set _ _ _ _ (by omega), if_pos rfl]⟩
    · exact .inr ⟨e, by rw [nth_set _ _ _ _ (by omega), if_neg (by omega)]⟩
  · refine ⟨_, _, _, by rw [MS.add, if_neg h], rfl, .inr ⟨?_, rfl⟩⟩
    rintro rfl
    exact h (has_of h0 h1)

theorem load_at (m : MS) (k : Int) (h0 : 0 ≤ k) (h1 : k < m.L.length) : m.load k = (⟨m.L, wrap64 (m.c + 1), m.l⟩, nth m.L k.toNat, 0) := by
  rw [MS.load, if_pos (has_of h0 h1)]
end MS

end Go.Proofs.Ytoecoijmkjhkgaa
