/- Two acts that do not meet, in either order: the plain law. -/
import Derived.Test.YtnoplfjodedijaaRunW
import Derived.Test.YtnoplfjodedijaaMeets
import Derived.Test.YtnoplfjodedijaaPlain02
namespace Go.Proofs.Ytnoplfjodedijaa
open Go.RowKit

def upd3 (x : Act') (v : Int) : Int := if x.k = 2 then x.a else if x.k = 3 then (if v = x.a then x.b else v) else if x.k = 4 then IntKind.u64.wrap (v + x.a) else v
def tells3 (x : Act') (v : Int) : Res := if x.k = 1 then ⟨v, false, 0⟩ else if x.k = 2 then ⟨0, false, 0⟩ else if x.k = 3 then ⟨0, decide (v = x.a), 0⟩ else if x.k = 4 then ⟨v, false, 0⟩ else ⟨0, false, 1⟩
def out3 (x : Act') : Res := if 1 ≤ x.k ∧ x.k ≤ 4 then ⟨0, false, 2⟩ else ⟨0, false, 1⟩

theorem set_same (L : List Int) (i : Nat) : L.set i (nth L i) = L := by
  rcases Nat.lt_or_ge i L.length with h | h
  · apply List.ext_getElem (by simp)
    intro j h1 h2
    rw [List.getElem_set]
    split
    · rename_i e; subst e; simp [nth, List.getD, h]
    · rfl
  · exact List.set_eq_of_length_le h

theorem act_in (m : MS) (x : Act') (h : m.has x.i = true) : (m.act x).1.L = m.L.set x.i.toNat (upd3 x (nth m.L x.i.toNat)) ∧ (m.act x).2 = tells3 x (nth m.L x.i.toNat) := by
  unfold MS.act upd3 tells3
  by_cases h1 : x.k = 1
  · simp [h1, MS.load, h, set_same]
  by_cases h2 : x.k = 2
  · simp [h2, MS.store, h]
  by_cases h3 : x.k = 3
  · by_cases hv : nth m.L x.i.toNat = x.a
    · simp [h3, MS.cas, h, hv]
    · simp [h3, MS.cas, h, hv, set_same]
  by_cases h4 : x.k = 4
  · simp [h4, MS.add, h]
  · simp [h1, h2, h3, h4, set_same]

theorem act_out (m : MS) (x : Act') (h : ¬ m.has x.i = true) : (m.act x).1.L = m.L ∧ (m.act x).2 = out3 x := by
  unfold MS.act out3
  by_cases h1 : x.k = 1
  · simp [h1, MS.load, h]
  by_cases h2 : x.k = 2
  · simp [h2, MS.store, h]
  by_cases h3 : x.k = 3
  · simp [h3, MS.cas, h]
  by_cases h4 : x.k = 4
  · simp [h4, MS.add, h]
  · have : ¬ (1 ≤ x.k ∧ x.k ≤ 4) := by omega
    simp [h1, h2, h3, h4, this]

theorem has_len {m n : MS} (h : n.L.length = m.L.length) (i : Int) : n.has i = m.has i := by unfold MS.has; rw [h]

theorem order (m : MS) (x y : Act') (h : meets x.k x.i y.k y.i = false) :
    (m.act x).2 = ((m.act y).1.act x).2 ∧ ((m.act x).1.act y).2 = (m.act y).2 ∧ ((m.act x).1.act y).1.L = ((m.act y).1.act x).1.L := by
  have hm := of_decide_eq_false h
  have lx := MS.act_keeps m x
  have ly := MS.act_keeps m y
  have hx1 := has_len ly x.i
  have hy1 := has_len lx y.i
  by_cases hx : m.has x.i = true
  · obtain ⟨a1, a2⟩ := act_in m x hx
    obtain ⟨c1, c2⟩ := act_in (m.act y).1 x (by rw [hx1]; exact hx)
    by_cases hy : m.has y.i = true
    · obtain ⟨b1, b2⟩ := act_in m y hy
      obtain ⟨d1, d2⟩ := act_in (m.act x).1 y (by rw [hy1]; exact hy)
      rw [a2, c2, d2, b2, c1, d1, b1, a1]
      have ix := MS.yes hx
      have iy := MS.yes hy
      have lx' : x.i.toNat < m.L.length := by omega
      have ly' : y.i.toNat < m.L.length := by omega
      rw [nth_set _ _ _ _ lx', nth_set _ _ _ _ ly']
      by_cases hij : x.i = y.i
      · rw [hij]
        simp only [if_true, List.set_set]
        by_cases dx : 1 ≤ x.k ∧ x.k ≤ 4
        · by_cases dy : 1 ≤ y.k ∧ y.k ≤ 4
          · have k1 : x.k = 1 := by omega
            have k2 : y.k = 1 := by omega
            simp [upd3, tells3, k1, k2]
          · have e1 : ¬ y.k = 1 := by omega
            have e2 : ¬ y.k = 2 := by omega
            have e3 : ¬ y.k = 3 := by omega
            have e4 : ¬ y.k = 4 := by omega
            simp [upd3, tells3, e1, e2, e3, e4]
        · have e1 : ¬ x.k = 1 := by omega
          have e2 : ¬ x.k = 2 := by omega
          have e3 : ¬ x.k = 3 := by omega
          have e4 : ¬ x.k = 4 := by omega
          simp [upd3, tells3, e1, e2, e3, e4]
      · have h1 : ¬ y.i.toNat = x.i.toNat := by omega
        have h2 : ¬ x.i.toNat = y.i.toNat := by omega
        rw [if_neg h1, if_neg h2]
        exact ⟨rfl, rfl, List.set_comm _ _ h2⟩
    · obtain ⟨b1, b2⟩ := act_out m y hy
      obtain ⟨d1, d2⟩ := act_out (m.act x).1 y (by rw [hy1]; exact hy)
      rw [a2, c2, d2, b2, c1, d1, b1, a1]
      exact ⟨rfl, rfl, rfl⟩
  · obtain ⟨a1, a2⟩ := act_out m x hx
    obtain ⟨c1, c2⟩ := act_out (m.act y).1 x (by rw [hx1]; exact hx)
    by_cases hy : m.has y.i = true
    · obtain ⟨b1, b2⟩ := act_in m y hy
      obtain ⟨d1, d2⟩ := act_in (m.act x).1 y (by rw [hy1]; exact hy)
      rw [a2, c2, d2, b2, c1, d1, b1, a1]
      exact ⟨rfl, rfl, rfl⟩
    · obtain ⟨b1, b2⟩ := act_out m y hy
      obtain ⟨d1, d2⟩ := act_out (m.act x).1 y (by rw [hy1]; exact hy)
      rw [a2, c2, d2, b2, c1, d1, b1, a1]
      exact ⟨rfl, rfl, rfl⟩

theorem eqw_eq (w : World) (v v' : Value) (L : List Int) (h : IsRow w v L) (h' : IsRow w v' L) : Calls Try.prog 28 #[v, v'] w fun e w' => e = .returned (.bool true) ∧ Only [] w w' :=
  (eqw_any w v v' L L h h').mono fun e w' ⟨he, ho⟩ => ⟨by rw [he]; simp, ho⟩
theorem cutL_le (L : List Int) (i n : Int) : (cutL L i n).length ≤ L.length := by unfold cutL; split <;> simp; omega

end Go.Proofs.Ytnoplfjodedijaa
