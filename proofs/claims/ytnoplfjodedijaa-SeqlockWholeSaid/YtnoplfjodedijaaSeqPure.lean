/- Steps of one writer and of one reader alone: the plain law. -/
import Derived.Test.YtnoplfjodedijaaKnown04
namespace Go.Proofs.Ytnoplfjodedijaa
open Go.RowKit

theorem MS.act_keeps2 (m : MS) (x : Act') : (m.act x).1.L.length = m.L.length := by
  unfold MS.act MS.load MS.store MS.cas MS.add
  repeat' split
  all_goals simp

theorem qload (m : MS) (k : Int) (h0 : 0 ≤ k) (h : k < m.L.length) : m.act ⟨1, k, 0, 0⟩ = (⟨m.L, wrap64 (m.c + 1), m.l⟩, ⟨nth m.L k.toNat, false, 0⟩) := by
  rw [act1, MS.load, if_pos (show m.has k = true from decide_eq_true ⟨h0, h⟩)]
theorem qcas_yes (m : MS) (k x y : Int) (h0 : 0 ≤ k) (h : k < m.L.length) (he : nth m.L k.toNat = x) : m.act ⟨3, k, x, y⟩ = (⟨m.L.set k.toNat y, wrap64 (m.c + 1), wrap64 (m.l + 1)⟩, ⟨0, true, 0⟩) := by
  rw [act3, MS.cas, if_pos (show m.has k = true from decide_eq_true ⟨h0, h⟩), if_pos he]
theorem qcas_no (m : MS) (k x y : Int) (h0 : 0 ≤ k) (h : k < m.L.length) (he : ¬ nth m.L k.toNat = x) : m.act ⟨3, k, x, y⟩ = (⟨m.L, wrap64 (m.c + 1), m.l⟩, ⟨0, false, 0⟩) := by
  rw [act3, MS.cas, if_pos (show m.has k = true from decide_eq_true ⟨h0, h⟩), if_neg he]
theorem qstore (m : MS) (k x y : Int) (h0 : 0 ≤ k) (h : k < m.L.length) : m.act ⟨2, k, x, y⟩ = (⟨m.L.set k.toNat x, wrap64 (m.c + 1), wrap64 (m.l + 1)⟩, ⟨0, false, 0⟩) := by
  rw [act2, MS.store, if_pos (show m.has k = true from decide_eq_true ⟨h0, h⟩)]

/-- What the words are when a writer alone has taken j steps. -/
def Alone (n : Nat) (V : List Int) (c : Int) (j : Nat) (L : List Int) : Prop :=
  L.length = 20 ∧ nth L 1 = (if j ≤ 1 then c else if j ≤ n + 2 then c + 1 else c + 2) ∧ ∀ i, i < n → i + 2 < j → nth L (i + 2) = nth V i

theorem alone_step (n : Nat) (V : List Int) (c : Int) (j : Nat) (m : MS) (was : Int) (hn : 1 ≤ n) (n16 : n ≤ 16) (hV : V.length = n) (c0 : 0 ≤ c) (c1 : c ≤ 100) (hc : c % 2 = 0) (hj : j < n + 3) (hwas : 1 ≤ j → was = c) (h : Alone n V c j m.L) :
    0 ≤ (m.act (WS.next ⟨1, n, j, was, V⟩)).2.v ∧ (m.act (WS.next ⟨1, n, j, was, V⟩)).2.v < 18446744073709551616 ∧
    ∃ m', WS.go ⟨1, n, j, was, V⟩ m = (⟨1, n, (j + 1 : Nat), c, V⟩, m') ∧ Alone n V c (j + 1) m'.L := by
  obtain ⟨h1, h2, h3⟩ := h
  have hne : ¬ (j : Int) = n + 3 := by omega
  unfold WS.go
  dsimp only
  rw [if_neg hne]
  by_cases hj0 : j = 0
  · subst hj0
    have hx : WS.next ⟨1, n, (0 : Nat), was, V⟩ = ⟨1, 1, 0, 0⟩ := by
      unfold WS.next; dsimp only; rw [if_neg hne, if_pos (by simp)]
    rw [hx, qload m 1 (by omega) (by omega)]
    rw [if_pos (by omega)] at h2
    have e1 : (1 : Int).toNat = 1 := rfl
    dsimp only
    rw [e1, h2]
    refine ⟨c0, by omega, ⟨m.L, wrap64 (m.c + 1), m.l⟩, ?_, h1, ?_, fun i hi hi2 => by omega⟩
    · unfold WS.after
      simp [hc]
    · rw [if_pos (by omega)]; exact h2
  by_cases hj1 : j = 1
  · subst hj1
    have hw := hwas (by omega)
    subst hw
    rw [if_pos (by omega)] at h2
    have hx : WS.next ⟨1, n, (1 : Nat), was, V⟩ = ⟨3, 1, was, was + 1⟩ := by
      unfold WS.next; dsimp only; rw [if_neg hne, if_neg (by simp), if_pos (by simp)]
      have : IntKind.u64.wrap (was + 1) = was + 1 := by rw [IntKind.wrap_u64]; omega
      rw [this]
    rw [hx, qcas_yes m 1 was (was + 1) (by omega) (by omega) h2]
    dsimp only
    refine ⟨by omega, by omega, ⟨m.L.set (1 : Int).toNat (was + 1), wrap64 (m.c + 1), wrap64 (m.l + 1)⟩, ?_, (List.length_set ..).trans h1, ?_, fun i hi hi2 => by omega⟩
    · unfold WS.after
      simp
    · rw [if_neg (by omega), if_pos (by omega)]
      rw [nth_set _ _ _ _ (by omega)]
      simp
  have hw := hwas (by omega)
  subst hw
  rw [if_neg (by omega), if_pos (by omega)] at h2
  by_cases hje : j = n + 2
  · subst hje
    have hx : WS.next ⟨1, n, ((n + 2 : Nat) : Int), was, V⟩ = ⟨2, 1, was + 2, 0⟩ := by
      unfold WS.next; dsimp only; rw [if_neg hne, if_neg (by omega), if_neg (by omega), if_pos (by omega)]
      have : IntKind.u64.wrap (was + 2) = was + 2 := by rw [IntKind.wrap_u64]; omega
      rw [this]
    rw [hx, qstore m 1 _ _ (by omega) (by omega)]
    dsimp only
    refine ⟨by omega, by omega, ⟨m.L.set (1 : Int).toNat (was + 2), wrap64 (m.c + 1), wrap64 (m.l + 1)⟩, ?_, (List.length_set ..).trans h1, ?_, fun i hi hi2 => ?_⟩
    · unfold WS.after
      have a1 : ¬ (((n + 2 : Nat) : Int) = 0) := by omega
      have a2 : ¬ (((n + 2 : Nat) : Int) = 1) := by omega
      dsimp only
      rw [if_neg (by simp), if_neg a1, if_neg (fun h => a2 h.1), show (((n + 2 : Nat) : Int) + 1) = ((n + 2 + 1 : Nat) : Int) from by omega]
    · rw [if_neg (by omega), if_neg (by omega), nth_set _ _ _ _ (by omega)]
      simp
    · rw [nth_set _ _ _ _ (by omega), if_neg (by simp)]
      exact h3 i hi (by omega)
  · obtain ⟨k, rfl⟩ : ∃ k, j = k + 2 := ⟨j - 2, by omega⟩
    have hx : WS.next ⟨1, n, ((k + 2 : Nat) : Int), was, V⟩ = ⟨2, (k + 2 : Nat), nth V k, 0⟩ := by
      unfold WS.next; dsimp only; rw [if_neg hne, if_neg (by omega), if_neg (by omega), if_neg (by omega)]
      have e1 : (1 : Int) + ((k + 2 : Nat) : Int) - 1 = (k + 2 : Nat) := by omega
      have e2 : (((k + 2 : Nat) : Int) - 2).toNat = k := by omega
      rw [e1, e2]
    rw [hx, qstore m _ _ _ (by omega) (by omega)]
    dsimp only
    refine ⟨by omega, by omega, ⟨m.L.set ((k + 2 : Nat) : Int).toNat (nth V k), wrap64 (m.c + 1), wrap64 (m.l + 1)⟩, ?_, (List.length_set ..).trans h1, ?_, fun i hi hi2 => ?_⟩
    · unfold WS.after
      have a1 : ¬ (((k + 2 : Nat) : Int) = 0) := by omega
      have a2 : ¬ (((k + 2 : Nat) : Int) = 1) := by omega
      dsimp only
      rw [if_neg (by simp), if_neg a1, if_neg (fun h => a2 h.1), show (((k + 2 : Nat) : Int) + 1) = ((k + 2 + 1 : Nat) : Int) from by omega]
    · rw [if_neg (by omega), if_pos (by omega), nth_set _ _ _ _ (by omega), if_neg (by omega)]
      exact h2
    · rw [nth_set _ _ _ _ (by omega)]
      by_cases hik : i = k
      · subst hik
        rw [if_pos (by omega)]
      · rw [if_neg (by omega)]
        exact h3 i hi (by omega)

/-- What a reader alone is when it has taken j steps. -/
def readAlone (n : Nat) (V : List Int) (c : Int) (j : Nat) (tr : Int) : RS := ⟨1, n, j, if j = 0 then 0 else c, V.take (j - 1), tr, false⟩

theorem read_step (n : Nat) (V : List Int) (c : Int) (j : Nat) (m : MS) (tr : Int) (hn : 1 ≤ n) (n16 : n ≤ 16) (hV : V.length = n) (hVr : ∀ x ∈ V, 0 ≤ x ∧ x < 18446744073709551616) (c0 : 0 ≤ c) (c1 : c ≤ 100) (hc : c % 2 = 0) (hj : j < n + 2) (hL : m.L.length = 20) (h1 : nth m.L 1 = c) (h3 : ∀ i, i < n → nth m.L (i + 2) = nth V i) :
    0 ≤ (m.act (readAlone n V c j tr).next).2.v ∧ (m.act (readAlone n V c j tr).next).2.v < 18446744073709551616 ∧
    ∃ m' tr', (readAlone n V c j tr).go m = (readAlone n V c (j + 1) tr', m') ∧ m'.L = m.L := by
  have hne : ¬ (j : Int) = n + 2 := by omega
  unfold RS.go
  rw [if_neg (show ¬ (readAlone n V c j tr).turn = (readAlone n V c j tr).n + 2 from hne)]
  by_cases hj0 : j = 0
  · subst hj0
    have hx : (readAlone n V c 0 tr).next = ⟨1, 1, 0, 0⟩ := by
      unfold RS.next readAlone; dsimp only
      rw [if_neg hne, if_neg (by omega)]
      rfl
    rw [hx, qload m 1 (by omega) (by omega)]
    dsimp only
    rw [show (1 : Int).toNat = 1 from rfl, h1]
    refine ⟨c0, by omega, ⟨m.L, wrap64 (m.c + 1), m.l⟩, wrap64 (tr + 1), ?_, rfl⟩
    simp [RS.fresh, RS.after, readAlone, hc]
  by_cases hje : j = n + 1
  · subst hje
    have hx : (readAlone n V c (n + 1) tr).next = ⟨1, 1, 0, 0⟩ := by
      unfold RS.next readAlone; dsimp only
      rw [if_neg hne, if_pos (by omega)]
    rw [hx, qload m 1 (by omega) (by omega)]
    dsimp only
    rw [show (1 : Int).toNat = 1 from rfl, h1]
    refine ⟨c0, by omega, ⟨m.L, wrap64 (m.c + 1), m.l⟩, tr, ?_, rfl⟩
    have a1 : ¬ (((n + 1 : Nat) : Int) = 0) := by omega
    unfold RS.fresh
    rw [if_neg (show ¬ (readAlone n V c (n + 1) tr).turn = 0 from a1)]
    unfold RS.after readAlone
    dsimp only
    rw [if_neg (by simp), if_neg a1, if_neg (by omega), if_pos (by rw [if_neg (by omega)]), if_neg (by omega), if_neg (by omega)]
    rw [show (n + 1 - 1) = n from by omega, show n + 1 + 1 - 1 = n + 1 from by omega, List.take_of_length_le (by omega), List.take_of_length_le (by omega)]
    rw [show ((n : Int) + 2) = ((n + 1 + 1 : Nat) : Int) from by omega]
  · have hx : (readAlone n V c j tr).next = ⟨1, (j + 1 : Nat), 0, 0⟩ := by
      unfold RS.next readAlone; dsimp only
      rw [if_neg hne, if_neg (by omega)]
      have : (1 : Int) + (j : Int) = ((j + 1 : Nat) : Int) := by omega
      rw [this]
    rw [hx, qload m _ (by omega) (by omega)]
    dsimp only
    have hv : nth m.L ((j + 1 : Nat) : Int).toNat = nth V (j - 1) := by
      rw [Int.toNat_natCast]
      have := h3 (j - 1) (by omega)
      rw [show j - 1 + 2 = j + 1 from by omega] at this
      exact this
    rw [hv]
    have hin : nth V (j - 1) ∈ V := by
      have e : nth V (j - 1) = V[j - 1] := by simp [nth, List.getD, show j - 1 < V.length from by omega]
      rw [e]
      exact List.getElem_mem _
    obtain ⟨v0, v1⟩ := hVr _ hin
    refine ⟨v0, v1, ⟨m.L, wrap64 (m.c + 1), m.l⟩, tr, ?_, rfl⟩
    have a1 : ¬ ((j : Int) = 0) := by omega
    unfold RS.fresh
    rw [if_neg (show ¬ (readAlone n V c j tr).turn = 0 from a1)]
    unfold RS.after readAlone
    dsimp only
    rw [if_neg (by simp), if_neg a1, if_pos (by omega), if_neg hj0, if_neg (by omega)]
    have e : V.take (j - 1) ++ [nth V (j - 1)] = V.take (j + 1 - 1) := by
      rw [show j + 1 - 1 = (j - 1) + 1 from by omega, List.take_add_one, List.getElem?_eq_getElem (show j - 1 < V.length from by omega)]
      simp [nth, List.getD, show j - 1 < V.length from by omega]
    rw [e, show ((j : Int) + 1) = ((j + 1 : Nat) : Int) from by omega]

end Go.Proofs.Ytnoplfjodedijaa
