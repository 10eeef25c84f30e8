/- The steps of writers and readers, in one contract each. -/
import Derived.Test.YtnoplfjodedijaaSeq8
import Derived.Test.YtnoplfjodedijaaRunW
namespace Go.Proofs.Ytnoplfjodedijaa
open Go.RowKit

/-- What a writer is behind its act. -/
def WS.after (s : WS) (v : Int) (ok : Bool) (er : Int) : WS :=
  if ¬ er = 0 then ⟨s.at_, s.n, s.n + 3, s.was, s.vals⟩
  else if s.turn = 0 then ⟨s.at_, s.n, if v % 2 = 0 then 1 else 0, v, s.vals⟩
  else if s.turn = 1 ∧ ok = false then ⟨s.at_, s.n, 0, s.was, s.vals⟩
  else ⟨s.at_, s.n, s.turn + 1, s.was, s.vals⟩

/-- A writer's step. -/
def WS.go (s : WS) (m : MS) : WS × MS :=
  if s.turn = s.n + 3 then (s, m) else (s.after (m.act s.next).2.v (m.act s.next).2.ok (m.act s.next).2.e, (m.act s.next).1)

theorem IsMem.same {w w' : World} {mb ms : Nat} {m : MS} (h : IsMem w mb ms m) (o : Only [] w w') : IsMem w' mb ms m := h.only o (by simp) (by simp)

theorem wgo_any (w : World) (b vv cap mb ms : Nat) (s : WS) (m : MS) (h : IsW w b vv cap s) (hm : IsMem w mb ms m) (hv : vv ≠ ms) (r0 : 0 ≤ (m.act s.next).2.v) (r1 : (m.act s.next).2.v < 18446744073709551616) :
    Calls Try.prog 36 #[.pointer (some ⟨b, 0, none⟩), .pointer (some ⟨mb, 0, none⟩)] w fun e w' => e = .returned (.bool (decide ((s.go m).1.turn = s.n + 3))) ∧ Only [b, mb, ms] w w' ∧ IsMem w' mb ms (s.go m).2 ∧ IsW w' b vv cap (s.go m).1 := by
  obtain ⟨at_, n, turn, was, vals⟩ := s
  obtain ⟨k1, k2, k3, k4, k5, k6, k7, k8, k9⟩ := h.ok
  dsimp only at k1 k2 k3 k4 k5 k6 k7 k8 k9
  obtain ⟨m', v, ok, er, hact⟩ := MS.act_ex m (WS.next ⟨at_, n, turn, was, vals⟩)
  unfold WS.go
  dsimp only
  by_cases h1 : turn = n + 3
  · rw [if_pos h1]
    subst h1
    refine (wstep_done w b vv cap n at_ was vals _ h).mono ?_
    rintro e w' ⟨rfl, ho⟩
    exact ⟨by simp, ho.sub (by simp), hm.same ho, h.only ho (by simp) (by simp)⟩
  rw [if_neg h1]
  rw [hact] at r0 r1 ⊢
  dsimp only at r0 r1 ⊢
  unfold WS.after
  dsimp only
  by_cases h2 : er = 0
  · subst h2
    rw [if_neg (by simp)]
    by_cases h3 : turn = 0
    · subst h3
      rw [if_pos rfl]
      by_cases h4 : v % 2 = 0
      · rw [if_pos h4]
        exact wstep_even w b vv cap mb ms n at_ was vals m m' v ok r0 r1 h4 h hm hact hv
      · rw [if_neg h4]
        exact wstep_odd w b vv cap mb ms n at_ was vals m m' v ok r0 r1 h4 h hm hact hv
    rw [if_neg h3]
    by_cases h5 : turn = 1
    · subst h5
      cases ok with
      | false =>
        rw [if_pos ⟨rfl, rfl⟩]
        exact wstep_lost w b vv cap mb ms n at_ was vals m m' v h hm hact hv
      | true =>
        rw [if_neg (by simp)]
        exact wstep_won w b vv cap mb ms n at_ was vals m m' v h hm hact hv
    · rw [if_neg (fun hh => h5 hh.1)]
      exact wstep_on w b vv cap mb ms n at_ was vals turn m m' v ok (by omega) (by omega) h hm hact hv
  · rw [if_pos h2]
    exact wstep_err w b vv cap mb ms n at_ was vals turn m m' v ok er h1 h2 h hm hact hv

/-- A reader that begins anew. -/
def RS.fresh (s : RS) : RS := if s.turn = 0 then ⟨s.at_, s.n, s.turn, s.was, [], wrap64 (s.tries + 1), s.bad⟩ else s
/-- What a reader is behind its act. -/
def RS.after (s : RS) (v er : Int) : RS :=
  if ¬ er = 0 then ⟨s.at_, s.n, s.n + 2, s.was, s.vals, s.tries, true⟩
  else if s.turn = 0 then ⟨s.at_, s.n, if v % 2 = 0 then 1 else 0, v, s.vals, s.tries, s.bad⟩
  else if s.turn < s.n + 1 then ⟨s.at_, s.n, s.turn + 1, s.was, s.vals ++ [v], s.tries, s.bad⟩
  else if v = s.was then ⟨s.at_, s.n, s.n + 2, s.was, s.vals, s.tries, s.bad⟩
  else ⟨s.at_, s.n, 0, s.was, s.vals, s.tries, s.bad⟩
/-- A reader's step. -/
def RS.go (s : RS) (m : MS) : RS × MS :=
  if s.turn = s.n + 2 then (s, m) else (s.fresh.after (m.act s.next).2.v (m.act s.next).2.e, (m.act s.next).1)

/-- What a reader's step leaves. -/
def Stepped (w : World) (b mb ms : Nat) (sl : Value) (s : RS) (m : MS) (e : Ending) (w' : World) : Prop :=
  ∃ sl', e = .returned (.bool (decide ((s.go m).1.turn = s.n + 2))) ∧ Only (b :: mb :: ms :: sl.ownBlock.toList) w w' ∧ IsMem w' mb ms (s.go m).2 ∧ IsR w' b sl' (s.go m).1 ∧ ∀ x, sl'.ownBlock = some x → sl.ownBlock = some x ∨ w.heap.size ≤ x

theorem rgo_any (w : World) (b mb ms : Nat) (sl : Value) (s : RS) (m : MS) (h : IsR w b sl s) (hm : IsMem w mb ms m) (hs : ∀ x ∈ [mb, ms], sl.ownBlock ≠ some x) (r0 : 0 ≤ (m.act s.next).2.v) (r1 : (m.act s.next).2.v < 18446744073709551616) (hl : 1 ≤ s.turn → s.turn < s.n + 1 → s.vals.length < 16) :
    Calls Try.prog 37 #[.pointer (some ⟨b, 0, none⟩), .pointer (some ⟨mb, 0, none⟩)] w (Stepped w b mb ms sl s m) := by
  unfold Stepped
  obtain ⟨at_, n, turn, was, vals, tries, bad⟩ := s
  obtain ⟨k1, k2, k3, k4, k5, k6, k7, k8, k9⟩ := h.ok
  dsimp only at k1 k2 k3 k4 k5 k6 k7 k8 k9 hl
  obtain ⟨m', v, ok, er, hact⟩ := MS.act_ex m (RS.next ⟨at_, n, turn, was, vals, tries, bad⟩)
  unfold RS.go
  dsimp only
  by_cases h1 : turn = n + 2
  · simp only [if_pos h1]
    subst h1
    refine (srstep_done w b n at_ was tries vals bad sl _ h).mono ?_
    rintro e w' ⟨rfl, ho⟩
    exact ⟨sl, by simp, ho.sub (by simp), hm.same ho, h.quiet ho, fun x hx => .inl hx⟩
  simp only [if_neg h1]
  rw [hact] at r0 r1
  simp only [hact]
  dsimp only at r0 r1
  unfold RS.fresh RS.after
  by_cases h0 : turn = 0
  · subst h0
    have hact0 : m.act (RS.next ⟨at_, n, 0, was, [], wrap64 (tries + 1), bad⟩) = (m', ⟨v, ok, er⟩) := hact
    by_cases h2 : er = 0
    · subst h2
      by_cases h4 : v % 2 = 0
      · simpa [h4] using srstep_even w b mb ms n at_ was tries vals bad sl m m' v ok r0 r1 h4 h hm hact0 hs
      · simpa [h4] using srstep_odd w b mb ms n at_ was tries vals bad sl m m' v ok r0 r1 h4 h hm hact0 hs
    · simpa [h2] using srstep_err0 w b mb ms n at_ was tries vals bad sl m m' v ok er h2 h hm hact0 hs
  · by_cases h2 : er = 0
    · subst h2
      by_cases h3 : turn < n + 1
      · simpa [h0, h3] using srstep_on w b mb ms n at_ was tries vals bad sl turn m m' v ok (by omega) h3 (hl (by omega) h3) h hm hact hs
      · obtain rfl : turn = n + 1 := by omega
        by_cases h5 : v = was
        · simpa [h0, h5] using srstep_same w b mb ms n at_ was tries vals bad sl m m' v ok h5 h hm hact hs
        · simpa [h0, h5] using srstep_turned w b mb ms n at_ was tries vals bad sl m m' v ok h5 h hm hact hs
    · simpa [h0, h2] using srstep_err w b mb ms n at_ was tries vals bad sl turn m m' v ok er h0 h1 h2 h hm hact hs

end Go.Proofs.Ytnoplfjodedijaa
