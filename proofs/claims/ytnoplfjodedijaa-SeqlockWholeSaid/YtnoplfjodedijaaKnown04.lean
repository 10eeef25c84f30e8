/- The walk of the fixed calls of matryoshkalaw04. -/
import Derived.Test.YtnoplfjodedijaaSeq9
import Derived.Test.YtnoplfjodedijaaPlain02
namespace Go.Proofs.Ytnoplfjodedijaa
open Go.RowKit

/-- Steps of a writer, one behind the other. -/
def WS.iter (s : WS) (m : MS) : Nat → WS × MS
  | 0 => (s, m)
  | k + 1 => (WS.iter s m k).1.go (WS.iter s m k).2
def RS.iter (s : RS) (m : MS) : Nat → RS × MS
  | 0 => (s, m)
  | k + 1 => (RS.iter s m k).1.go (RS.iter s m k).2

def kW (k : Nat) : WS × MS := WS.iter ⟨2, 2, 0, 0, [7, 8]⟩ (MS.new 8) k
def kR (k : Nat) : RS × MS := RS.iter ⟨2, 2, 0, 0, [], 0, false⟩ (kW 5).2 k

theorem kW_range (k : Nat) (h : k < 5) : 0 ≤ ((kW k).2.act (kW k).1.next).2.v ∧ ((kW k).2.act (kW k).1.next).2.v < 18446744073709551616 ∧ (kW k).1.n = 2 ∧ (decide ((kW (k + 1)).1.turn = 5) = decide (k = 4)) := by
  have : k = 0 ∨ k = 1 ∨ k = 2 ∨ k = 3 ∨ k = 4 := by omega
  rcases this with rfl | rfl | rfl | rfl | rfl <;> decide +kernel
theorem kR_range (k : Nat) (h : k < 4) : 0 ≤ ((kR k).2.act (kR k).1.next).2.v ∧ ((kR k).2.act (kR k).1.next).2.v < 18446744073709551616 ∧ (kR k).1.n = 2 ∧ (decide ((kR (k + 1)).1.turn = 4) = decide (k = 3)) ∧ (kR k).1.vals.length < 16 := by
  have : k = 0 ∨ k = 1 ∨ k = 2 ∨ k = 3 := by omega
  rcases this with rfl | rfl | rfl | rfl <;> decide +kernel
theorem kW_end : (kW 5).1.turn = 5 ∧ (kW 5).1.n = 2 := by decide +kernel
theorem kR_end : (kR 4).1.turn = 4 ∧ (kR 4).1.n = 2 ∧ (kR 4).1.vals = [7, 8] ∧ (kR 4).1.tries = 1 ∧ (kR 4).1.bad = false ∧ nth (kR 4).2.L 2 = 2 ∧ (kR 4).2.L.length = 8 := by decide +kernel

theorem kR_load : ((kR 4).2.load 2).2.1 = 2 ∧ ((kR 4).2.load 2).2.2 = 0 := by decide +kernel
theorem kW_next : (kW 5).1.next = ⟨0, 0, 0, 0⟩ := by
  unfold WS.next
  rw [if_pos (by decide +kernel)]

theorem kw_step (w : World) (b vv cap mb ms k : Nat) (hk : k < 5) (h : IsW w b vv cap (kW k).1) (hm : IsMem w mb ms (kW k).2) (hv : vv ≠ ms) :
    Calls Try.prog 36 #[.pointer (some ⟨b, 0, none⟩), .pointer (some ⟨mb, 0, none⟩)] w fun e w' => e = .returned (.bool (decide (k = 4))) ∧ Only [b, mb, ms] w w' ∧ IsMem w' mb ms (kW (k + 1)).2 ∧ IsW w' b vv cap (kW (k + 1)).1 := by
  obtain ⟨r0, r1, hn, hd⟩ := kW_range k hk
  refine (wgo_any w b vv cap mb ms _ _ h hm hv r0 r1).mono ?_
  rintro e w' ⟨rfl, ho, hm', hw'⟩
  refine ⟨?_, ho, hm', hw'⟩
  rw [hn, ← hd]
  rfl

theorem kr_step (w : World) (b mb ms k : Nat) (sl : Value) (hk : k < 4) (h : IsR w b sl (kR k).1) (hm : IsMem w mb ms (kR k).2) (hs : ∀ x ∈ [mb, ms], sl.ownBlock ≠ some x) :
    Calls Try.prog 37 #[.pointer (some ⟨b, 0, none⟩), .pointer (some ⟨mb, 0, none⟩)] w fun e w' => ∃ sl', e = .returned (.bool (decide (k = 3))) ∧ Only (b :: mb :: ms :: sl.ownBlock.toList) w w' ∧ IsMem w' mb ms (kR (k + 1)).2 ∧ IsR w' b sl' (kR (k + 1)).1 ∧ ∀ x, sl'.ownBlock = some x → sl.ownBlock = some x ∨ w.heap.size ≤ x := by
  obtain ⟨r0, r1, hn, hd, hl⟩ := kR_range k hk
  refine (rgo_any w b mb ms sl _ _ h hm hs r0 r1 (fun _ _ => hl)).mono ?_
  rintro e w' ⟨sl', rfl, ho, hm', hr', hx⟩
  refine ⟨sl', ?_, ho, hm', hr', hx⟩
  rw [hn, ← hd]
  rfl

end Go.Proofs.Ytnoplfjodedijaa
