/- A slice that grows in a call of its own: what a block outside it keeps. -/
import Derived.Test.YtoecoijmkjhkgaaMem2
import Derived.Laws.AppendOwn
namespace Go.Proofs.Ytoecoijmkjhkgaa
open Go.RowKit

theorem Only.grow1 {S : List Nat} {w W W2 : World} {e sz : Nat} {v : Value} {n : Nat} {xs : List Value} (o : Only S w W) (hown : W.ownsRow w.heap.size e sz v n xs) (hg : W.grownBy W2 v.ownBlock) : Only S w W2 :=
  ⟨hg.os.trans o.os, hg.tape.trans o.tape, hg.output.trans o.output, Nat.le_trans o.size hg.size, fun k hk hn => (hg.block k (Nat.lt_of_lt_of_le hk o.size) (fun he => by
    rcases hown.2 with ⟨rfl, _⟩ | ⟨g, cap, cur, rfl, hb, _⟩
    · cases he
    · have : k = g := by simpa [Value.ownBlock] using he
      omega)).trans (o.block k hk hn)⟩

theorem row_keeps {W W2 : World} {base e sz : Nat} {v : Value} {n : Nat} {xs : List Value} (hown : W.ownsRow base e sz v n xs) (hg : W.grownBy W2 v.ownBlock) {x t : Nat} {cs : Array Value} (hb : Blk W x t cs) (ht : t ≠ e) : Blk W2 x t cs := by
  refine (hg.block x hb.lt ?_).trans hb
  intro he
  rcases hown.2 with ⟨rfl, _⟩ | ⟨g, cap, cur, rfl, _, hh, _⟩
  · cases he
  · have : x = g := by simpa [Value.ownBlock] using he
    subst this
    exact ht (Blk.inj hb hh).1

theorem row_only {w w' : World} {base e sz : Nat} {v : Value} {n : Nat} {xs : List Value} {S : List Nat} (h : w.ownsRow base e sz v n xs) (o : Only S w w') (hS : ∀ x ∈ S, x < base) : w'.ownsRow base e sz v n xs := by
  refine ⟨h.1, ?_⟩
  rcases h.2 with h2 | ⟨g, cap, cur, hv, hg, hh, r⟩
  · exact .inl h2
  · refine .inr ⟨g, cap, cur, hv, hg, ?_, r⟩
    have hb : Blk w g e cur := hh
    exact hb.only o fun hm => by have := hS g hm; omega

theorem grown_only {a b : World} {row : Option Nat} (hg : a.grownBy b row) : Only row.toList a b :=
  ⟨hg.os, hg.tape, hg.output, hg.size, fun k hk hn => hg.block k hk (fun e => hn (by rw [← e]; simp))⟩

theorem row_far {w : World} {base e sz : Nat} {v : Value} {n : Nat} {xs : List Value} (h : w.ownsRow base e sz v n xs) {x : Nat} (hx : x < base) : x ∉ v.ownBlock.toList := by
  rcases h.2 with ⟨rfl, _⟩ | ⟨g, cap, cur, rfl, hb, _⟩
  · simp [Value.ownBlock]
  · simp [Value.ownBlock]
    omega

theorem row_form {w : World} {base e sz : Nat} {v : Value} {n : Nat} {xs : List Value} (h : w.ownsRow base e sz v n xs) : ∃ A cap, v = .slice A n cap := by
  rcases h.2 with ⟨rfl, rfl⟩ | ⟨g, cap, cur, rfl, _⟩
  · exact ⟨_, _, rfl⟩
  · exact ⟨_, _, rfl⟩

/-- Its cells. -/
theorem row_cells {w : World} {base e sz : Nat} {v : Value} {n : Nat} {xs : List Value} (h : w.ownsRow base e sz v n xs) (hn : 0 < n) :
    ∃ g cap cur, v = .slice (some ⟨g, 0, none⟩) n cap ∧ base ≤ g ∧ Blk w g e cur ∧ ∀ k, k < n * sz → cur[k]? = xs[k]? := by
  rcases h.2 with ⟨_, h0⟩ | ⟨g, cap, cur, hv, hg, hh, _, _, _, ht⟩
  · omega
  · refine ⟨g, cap, cur, hv, hg, hh, fun k hk => ?_⟩
    rw [← ht, List.getElem?_take_of_lt (by omega)]
    simp

end Go.Proofs.Ytoecoijmkjhkgaa
