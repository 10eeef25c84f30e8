/- The ring: one step in one contract; Step of one who pushes or pops. -/
import Derived.Test.YtoecoijmkjhkgaaRing4pu
import Derived.Test.YtoecoijmkjhkgaaRing4po
namespace Go.Proofs.Ytoecoijmkjhkgaa
open Go.RowKit

/-- What one is behind its act. -/
def RQ.after (p : Bool) (s : RQ) (x : Int) (ok : Bool) (er : Int) : RQ :=
  if ¬ er = 0 then ⟨s.at_, s.n, 5, s.pos, s.has, s.v⟩
  else if s.st = 0 then ⟨s.at_, s.n, 1, x, s.has, s.v⟩
  else if s.st = 1 then ⟨s.at_, s.n, lookedTo x (s.awaited p), s.pos, s.has, s.v⟩
  else if s.st = 2 then ⟨s.at_, s.n, if ok then 3 else 0, s.pos, s.has, s.v⟩
  else if s.st = 3 then ⟨s.at_, s.n, 4, s.pos, s.has, if p then x else s.v⟩
  else ⟨s.at_, s.n, 5, s.pos, true, s.v⟩

/-- A step. -/
def RQ.go (p : Bool) (s : RQ) (m : MS) : RQ × MS :=
  if s.st = 5 then (s, m) else (s.after p (m.act (s.next p)).2.v (m.act (s.next p)).2.ok (m.act (s.next p)).2.e, (m.act (s.next p)).1)

theorem rpstep_over (w : World) (b : Nat) (q : Value) (mv : Value) (c2 : w.cell? ⟨b, 2, none⟩ = some (.int .i64 5)) : Calls Try.prog 52 #[.pointer (some ⟨b, 0, none⟩), mv, q] w fun e w' => e = .returned (.bool true) ∧ w = w' := by
  go_enter Try.func52, Try.ntmps52
  go_wp2
  go_ret
  exact ⟨rfl, rfl⟩

theorem rpstep_any (w : World) (b mb ms : Nat) (p : Bool) (s : RQ) (m : MS) (h : IsQ w b p s) (hm : IsMem w mb ms m) (r0 : 0 ≤ (m.act (s.next p)).2.v) (r1 : (m.act (s.next p)).2.v < 18446744073709551616) :
    Calls Try.prog 52 #[.pointer (some ⟨b, 0, none⟩), .pointer (some ⟨mb, 0, none⟩), .iface (qP p) (.pointer (some ⟨b, 0, none⟩))] w fun e w' => e = .returned (.bool (decide ((s.go p m).1.st = 5))) ∧ Only [b, mb, ms] w w' ∧ IsMem w' mb ms (s.go p m).2 ∧ IsQ w' b p (s.go p m).1 := by
  obtain ⟨at_, n, st, pos, has, v⟩ := s
  have h0 := h.ok.s0
  have h5 := h.ok.s5
  dsimp only at h0 h5
  unfold RQ.go
  by_cases e5 : st = 5
  · subst e5
    rw [if_pos rfl]
    refine (rpstep_over w b _ _ (h.obj.at 2 rfl)).mono ?_
    rintro e w' ⟨rfl, rfl⟩
    exact ⟨rfl, Only.refl _ _, hm, h⟩
  dsimp only
  rw [if_neg e5]
  obtain ⟨m', x, ok, er, hact⟩ : ∃ m' y ok er, m.act (RQ.next p ⟨at_, n, st, pos, has, v⟩) = (m', ⟨y, ok, er⟩) := ⟨_, _, _, _, rfl⟩
  rw [hact] at r0 r1
  rw [hact]
  unfold RQ.after
  dsimp only at r0 r1 ⊢
  by_cases he : er = 0
  · subst he
    rw [if_neg (by simp)]
    rcases (show st = 0 ∨ st = 1 ∨ st = 2 ∨ st = 3 ∨ st = 4 by omega) with rfl | rfl | rfl | rfl | rfl
    · cases p
      · exact pustep_look w b mb ms n at_ pos v has m m' x ok r0 r1 h hm hact
      · exact postep_look w b mb ms n at_ pos v has m m' x ok r0 r1 h hm hact
    · cases p
      · exact pustep_turn w b mb ms n at_ pos v has m m' x ok h hm hact
      · exact postep_turn w b mb ms n at_ pos v has m m' x ok h hm hact
    · cases p <;> cases ok
      · exact pustep_lost w b mb ms n at_ pos v has m m' x h hm hact
      · exact pustep_won w b mb ms n at_ pos v has m m' x h hm hact
      · exact postep_lost w b mb ms n at_ pos v has m m' x h hm hact
      · exact postep_won w b mb ms n at_ pos v has m m' x h hm hact
    · cases p
      · exact pustep_value w b mb ms n at_ pos v has m m' x ok h hm hact
      · exact postep_value w b mb ms n at_ pos v has m m' x ok r0 r1 h hm hact
    · cases p
      · exact pustep_free w b mb ms n at_ pos v has m m' x ok h hm hact
      · exact postep_free w b mb ms n at_ pos v has m m' x ok h hm hact
  · rw [if_pos he]
    cases p
    · exact pustep_err w b mb ms n at_ pos v has st m m' x ok er e5 he h hm hact
    · exact postep_err w b mb ms n at_ pos v has st m m' x ok er e5 he h hm hact

/-- What a step leaves. -/
def QStepped (w : World) (b mb ms : Nat) (p : Bool) (s : RQ) (m : MS) (e : Ending) (w' : World) : Prop :=
  e = .returned (.bool (decide ((s.go p m).1.st = 5))) ∧ Only [b, mb, ms] w w' ∧ IsMem w' mb ms (s.go p m).2 ∧ IsQ w' b p (s.go p m).1

theorem pustep_any (w : World) (b mb ms : Nat) (s : RQ) (m : MS) (h : IsQ w b false s) (hm : IsMem w mb ms m) (r0 : 0 ≤ (m.act (s.next false)).2.v) (r1 : (m.act (s.next false)).2.v < 18446744073709551616) :
    Calls Try.prog 19 #[.pointer (some ⟨b, 0, none⟩), .pointer (some ⟨mb, 0, none⟩)] w (QStepped w b mb ms false s m) := by
  have c1 := h.obj.at 1 (v := .int .i64 s.n) rfl
  have hn : (0 : Int) < s.n := by have := h.ok.n2; omega
  have HC := Lib.hid (rpstep_any w b mb ms false s m h hm r0 r1)
  clear h hm r0 r1
  go_enter Try.func19, Try.ntmps19
  go_wp2_with fail
  refine HC.out.mono ?_
  rintro e w' ⟨rfl, ho, hm, hq⟩
  have HR := Lib.hid (And.intro ho (And.intro hm hq))
  clear ho hm hq c1
  obtain ⟨q, hq⟩ : ∃ q, decide ((s.go false m).1.st = 5) = q := ⟨_, rfl⟩
  have HQ := Lib.hid hq
  rw [hq]
  clear hq
  go_wp2_with fail
  go_ret
  exact ⟨by rw [HQ.out]; rfl, HR.out⟩

theorem postep_any (w : World) (b mb ms : Nat) (s : RQ) (m : MS) (h : IsQ w b true s) (hm : IsMem w mb ms m) (r0 : 0 ≤ (m.act (s.next true)).2.v) (r1 : (m.act (s.next true)).2.v < 18446744073709551616) :
    Calls Try.prog 20 #[.pointer (some ⟨b, 0, none⟩), .pointer (some ⟨mb, 0, none⟩)] w (QStepped w b mb ms true s m) := by
  have c1 := h.obj.at 1 (v := .int .i64 s.n) rfl
  have hn : (0 : Int) < s.n := by have := h.ok.n2; omega
  have HC := Lib.hid (rpstep_any w b mb ms true s m h hm r0 r1)
  clear h hm r0 r1
  go_enter Try.func20, Try.ntmps20
  go_wp2_with fail
  refine HC.out.mono ?_
  rintro e w' ⟨rfl, ho, hm, hq⟩
  have HR := Lib.hid (And.intro ho (And.intro hm hq))
  clear ho hm hq c1
  obtain ⟨q, hq⟩ : ∃ q, decide ((s.go true m).1.st = 5) = q := ⟨_, rfl⟩
  have HQ := Lib.hid hq
  rw [hq]
  clear hq
  go_wp2_with fail
  go_ret
  exact ⟨by rw [HQ.out]; rfl, HR.out⟩

end Go.Proofs.Ytoecoijmkjhkgaa
