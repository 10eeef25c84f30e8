/- The ring: the next act in one contract; what a step leaves. -/
import Derived.Test.YtoecoijmkjhkgaaRing3
import Derived.Deep.RegionWith
namespace Go.Proofs.Ytoecoijmkjhkgaa
open Go.RowKit

theorem do_act {w : World} {b s : Nat} {m m' : MS} {x : Act'} {v er : Int} {ok : Bool} (hm : IsMem w b s m) (h : m.act x = (m', ⟨v, ok, er⟩)) :
    Calls Try.prog 55 #[.pointer (some ⟨b, 0, none⟩), x.val] w fun e w' => e = .returned (.agg #[.int .u64 v, .bool ok, .int .i64 er]) ∧ Only [b, s] w w' ∧ IsMem w' b s m' := by
  have := do_any w b s m x hm
  rw [h] at this
  exact this

theorem lookedTo_range (t a : Int) : 0 ≤ lookedTo t a ∧ lookedTo t a ≤ 5 := by
  unfold lookedTo
  split
  · omega
  · split <;> omega

theorem rnext_any (w : World) (b : Nat) (p : Bool) (s : RQ) (h : IsQ w b p s) : Calls Try.prog 61 #[.pointer (some ⟨b, 0, none⟩), .iface (qP p) (.pointer (some ⟨b, 0, none⟩))] w fun e w' => e = .returned (s.next p).val ∧ Only [] w w' := by
  obtain ⟨at_, n, st, pos, has, v⟩ := s
  have h0 := h.ok.s0
  have h5 := h.ok.s5
  dsimp only at h0 h5
  rcases (show st = 0 ∨ st = 1 ∨ st = 2 ∨ st = 3 ∨ st = 4 ∨ st = 5 by omega) with rfl | rfl | rfl | rfl | rfl | rfl <;> cases p
  · exact punext_0 w b n at_ pos v has h
  · exact ponext_0 w b n at_ pos v has h
  · exact punext_1 w b n at_ pos v has h
  · exact ponext_1 w b n at_ pos v has h
  · exact punext_2 w b n at_ pos v has h
  · exact ponext_2 w b n at_ pos v has h
  · exact punext_3 w b n at_ pos v has h
  · exact ponext_3 w b n at_ pos v has h
  · exact punext_4 w b n at_ pos v has h
  · exact ponext_4 w b n at_ pos v has h
  · exact punext_5 w b n at_ pos v has h
  · exact ponext_5 w b n at_ pos v has h

theorem q_end {W W2 : World} {b mb ms : Nat} {p : Bool} {s : RQ} {m' : MS} (_H : IsQ W b p s) (HM : IsMem W mb ms m') (NB : b ≠ mb ∧ b ≠ ms) (o : Only [b] W W2) (s' : RQ) (hobj : Blk W2 b (qT p) (qCells s')) (hok : s'.ok) : IsMem W2 mb ms m' ∧ IsQ W2 b p s' :=
  ⟨HM.only o (by simp; omega) (by simp; omega), hobj, hok⟩

end Go.Proofs.Ytoecoijmkjhkgaa
