/- A push that stops with its slot: the plain law of RingStuck. -/
import Derived.Test.YtoecoijmkjhkgaaKnown6W
namespace Go.Proofs.Ytoecoijmkjhkgaa
open Go.RowKit

def RQ.iter (p : Bool) (s : RQ) (m : MS) : Nat → RQ × MS
  | 0 => (s, m)
  | k + 1 => RQ.go p (RQ.iter p s m k).1 (RQ.iter p s m k).2

def stuckM : MS := ⟨[0, 0, 0, 0, 1, 0, 2, 0, 3, 0, 0, 0, 0, 0, 0, 0, 0, 0, 0, 0, 0, 0, 0, 0, 0, 0, 0, 0, 0, 0, 0, 0, 0, 0, 0, 0, 0, 0, 0, 0], 10, 10⟩
theorem stuck_lay : (MS.new 40).lay 0 (initL 4) = (stuckM, 0) := by kernel_rfl

/-- Behind the claim (K = 3), or the value (K = 4). -/
def stuckL (v : Int) (K : Nat) : List Int := [1, 0, 0, if K = 3 then 0 else v, 1, 0, 2, 0, 3, 0, 0, 0, 0, 0, 0, 0, 0, 0, 0, 0, 0, 0, 0, 0, 0, 0, 0, 0, 0, 0, 0, 0, 0, 0, 0, 0, 0, 0, 0, 0]

theorem stuck_3 (v : Int) : RQ.iter false ⟨0, 4, 0, 0, false, v⟩ stuckM 3 = (⟨0, 4, 3, 0, false, v⟩, ⟨[1, 0, 0, 0, 1, 0, 2, 0, 3, 0, 0, 0, 0, 0, 0, 0, 0, 0, 0, 0, 0, 0, 0, 0, 0, 0, 0, 0, 0, 0, 0, 0, 0, 0, 0, 0, 0, 0, 0, 0], 13, 11⟩) := by kernel_rfl
theorem stuck_4 (v : Int) : RQ.iter false ⟨0, 4, 0, 0, false, v⟩ stuckM 4 = (⟨0, 4, 4, 0, false, v⟩, ⟨[1, 0, 0, v, 1, 0, 2, 0, 3, 0, 0, 0, 0, 0, 0, 0, 0, 0, 0, 0, 0, 0, 0, 0, 0, 0, 0, 0, 0, 0, 0, 0, 0, 0, 0, 0, 0, 0, 0, 0], 14, 12⟩) := by kernel_rfl

theorem stuck_push (x : Int) (c l : Int) (hc : c = 13 ∧ l = 11 ∨ c = 14 ∧ l = 12) : RQ.run false 10 ⟨0, 4, 0, 0, false, 7⟩ ⟨[1, 0, 0, x, 1, 0, 2, 0, 3, 0, 0, 0, 0, 0, 0, 0, 0, 0, 0, 0, 0, 0, 0, 0, 0, 0, 0, 0, 0, 0, 0, 0, 0, 0, 0, 0, 0, 0, 0, 0], c, l⟩ =
    (⟨0, 4, 5, 1, true, 7⟩, ⟨[2, 0, 0, x, 2, 7, 2, 0, 3, 0, 0, 0, 0, 0, 0, 0, 0, 0, 0, 0, 0, 0, 0, 0, 0, 0, 0, 0, 0, 0, 0, 0, 0, 0, 0, 0, 0, 0, 0, 0], c + 5, l + 3⟩) := by
  rcases hc with ⟨rfl, rfl⟩ | ⟨rfl, rfl⟩ <;> kernel_rfl

theorem stuck_pop (x : Int) (c l : Int) (hc : c = 18 ∨ c = 19) : RQ.run true 10 ⟨0, 4, 0, 0, false, 0⟩ ⟨[2, 0, 0, x, 2, 7, 2, 0, 3, 0, 0, 0, 0, 0, 0, 0, 0, 0, 0, 0, 0, 0, 0, 0, 0, 0, 0, 0, 0, 0, 0, 0, 0, 0, 0, 0, 0, 0, 0, 0], c, l⟩ =
    (⟨0, 4, 5, 0, false, 0⟩, ⟨[2, 0, 0, x, 2, 7, 2, 0, 3, 0, 0, 0, 0, 0, 0, 0, 0, 0, 0, 0, 0, 0, 0, 0, 0, 0, 0, 0, 0, 0, 0, 0, 0, 0, 0, 0, 0, 0, 0, 0], c + 2, l⟩) := by
  rcases hc with rfl | rfl <;> kernel_rfl

theorem stuck_rest3 (v : Int) : RQ.go false (RQ.go false ⟨0, 4, 3, 0, false, v⟩ ⟨[2, 0, 0, 0, 2, 7, 2, 0, 3, 0, 0, 0, 0, 0, 0, 0, 0, 0, 0, 0, 0, 0, 0, 0, 0, 0, 0, 0, 0, 0, 0, 0, 0, 0, 0, 0, 0, 0, 0, 0], 20, 14⟩).1 (RQ.go false ⟨0, 4, 3, 0, false, v⟩ ⟨[2, 0, 0, 0, 2, 7, 2, 0, 3, 0, 0, 0, 0, 0, 0, 0, 0, 0, 0, 0, 0, 0, 0, 0, 0, 0, 0, 0, 0, 0, 0, 0, 0, 0, 0, 0, 0, 0, 0, 0], 20, 14⟩).2 =
    (⟨0, 4, 5, 0, true, v⟩, ⟨[2, 0, 1, v, 2, 7, 2, 0, 3, 0, 0, 0, 0, 0, 0, 0, 0, 0, 0, 0, 0, 0, 0, 0, 0, 0, 0, 0, 0, 0, 0, 0, 0, 0, 0, 0, 0, 0, 0, 0], 22, 16⟩) := by kernel_rfl
theorem stuck_rest4 (v : Int) : RQ.go false (RQ.go false ⟨0, 4, 4, 0, false, v⟩ ⟨[2, 0, 0, v, 2, 7, 2, 0, 3, 0, 0, 0, 0, 0, 0, 0, 0, 0, 0, 0, 0, 0, 0, 0, 0, 0, 0, 0, 0, 0, 0, 0, 0, 0, 0, 0, 0, 0, 0, 0], 21, 15⟩).1 (RQ.go false ⟨0, 4, 4, 0, false, v⟩ ⟨[2, 0, 0, v, 2, 7, 2, 0, 3, 0, 0, 0, 0, 0, 0, 0, 0, 0, 0, 0, 0, 0, 0, 0, 0, 0, 0, 0, 0, 0, 0, 0, 0, 0, 0, 0, 0, 0, 0, 0], 21, 15⟩).2 =
    (⟨0, 4, 5, 0, true, v⟩, ⟨[2, 0, 1, v, 2, 7, 2, 0, 3, 0, 0, 0, 0, 0, 0, 0, 0, 0, 0, 0, 0, 0, 0, 0, 0, 0, 0, 0, 0, 0, 0, 0, 0, 0, 0, 0, 0, 0, 0, 0], 22, 16⟩) := by kernel_rfl

theorem stuck_ring (v : Int) : RingAt [2, 0, 1, v, 2, 7, 2, 0, 3, 0, 0, 0, 0, 0, 0, 0, 0, 0, 0, 0, 0, 0, 0, 0, 0, 0, 0, 0, 0, 0, 0, 0, 0, 0, 0, 0, 0, 0, 0, 0] 0 4 0 [v, 7] := by
  refine ⟨by simp, by decide, by simp, by decide, rfl, rfl, fun i hi => ?_, fun i h1 h2 => ?_⟩
  · match i, hi with
    | 0, _ => exact ⟨rfl, rfl⟩
    | 1, _ => exact ⟨rfl, rfl⟩
  · match i, h1, h2 with
    | 2, _, _ => rfl
    | 3, _, _ => rfl

end Go.Proofs.Ytoecoijmkjhkgaa
