/- The deque: a task's step in one contract. -/
import Derived.Test.YtoecoijmkjhkgaaDeq3push
import Derived.Test.YtoecoijmkjhkgaaDeq3pop
import Derived.Test.YtoecoijmkjhkgaaDeq3steal
import Derived.Test.YtoecoijmkjhkgaaDeq4push
import Derived.Test.YtoecoijmkjhkgaaDeq4pop
import Derived.Test.YtoecoijmkjhkgaaDeq4steal
import Derived.Deep.RegionWith
namespace Go.Proofs.Ytoecoijmkjhkgaa
open Go.RowKit

/-- A task's next act. -/
def DQ.next (s : DQ) : Act' :=
  if s.done then ⟨0, 0, 0, 0⟩
  else if s.k = 0 then
    if s.turn = 0 then ⟨1, s.at_ + 1, 0, 0⟩ else if s.turn = 1 then ⟨1, s.at_, 0, 0⟩ else if s.turn = 2 then ⟨2, s.at_ + dslot s.n s.bot, s.v, 0⟩ else ⟨2, s.at_ + 1, IntKind.u64.wrap (s.bot + 1), 0⟩
  else if s.k = 1 then
    if s.turn = 0 then ⟨1, s.at_ + 1, 0, 0⟩ else if s.turn = 1 then ⟨2, s.at_ + 1, s.bot, 0⟩ else if s.turn = 2 then ⟨1, s.at_, 0, 0⟩ else if s.turn = 3 then ⟨1, s.at_ + dslot s.n s.bot, 0, 0⟩
    else if s.turn = 4 then ⟨3, s.at_, s.top, IntKind.u64.wrap (s.top + 1)⟩ else ⟨2, s.at_ + 1, IntKind.u64.wrap (s.bot + 1), 0⟩
  else
    if s.turn = 0 then ⟨1, s.at_, 0, 0⟩ else if s.turn = 1 then ⟨1, s.at_ + 1, 0, 0⟩ else if s.turn = 2 then ⟨1, s.at_ + dslot s.n s.top, 0, 0⟩ else ⟨3, s.at_, s.top, IntKind.u64.wrap (s.top + 1)⟩

/-- What it is when it has taken what came. -/
def DQ.took (s : DQ) (x : Int) (ok : Bool) : DQ :=
  if s.k = 0 then
    if s.turn = 0 then ⟨s.at_, s.n, s.k, 1, s.has, s.done, s.v, s.top, x, s.got⟩
    else if s.turn = 1 then (if (s.n : Int) ≤ dif s.bot x then ⟨s.at_, s.n, s.k, 2, false, true, s.v, s.top, s.bot, s.got⟩ else ⟨s.at_, s.n, s.k, 2, s.has, s.done, s.v, s.top, s.bot, s.got⟩)
    else if s.turn = 2 then ⟨s.at_, s.n, s.k, 3, s.has, s.done, s.v, s.top, s.bot, s.got⟩
    else ⟨s.at_, s.n, s.k, 4, true, true, s.v, s.top, s.bot, s.got⟩
  else if s.k = 1 then
    if s.turn = 0 then ⟨s.at_, s.n, s.k, 1, s.has, s.done, s.v, s.top, IntKind.u64.wrap (x - 1), s.got⟩
    else if s.turn = 1 then ⟨s.at_, s.n, s.k, 2, s.has, s.done, s.v, s.top, s.bot, s.got⟩
    else if s.turn = 2 then (if 0 < dif x s.bot then ⟨s.at_, s.n, s.k, 5, s.has, s.done, s.v, x, s.bot, s.got⟩ else ⟨s.at_, s.n, s.k, 3, s.has, s.done, s.v, x, s.bot, s.got⟩)
    else if s.turn = 3 then (if dif s.top s.bot < 0 then ⟨s.at_, s.n, s.k, 4, true, true, x, s.top, s.bot, s.got⟩ else ⟨s.at_, s.n, s.k, 4, s.has, s.done, x, s.top, s.bot, s.got⟩)
    else if s.turn = 4 then ⟨s.at_, s.n, s.k, 5, s.has, s.done, s.v, s.top, s.bot, ok⟩
    else ⟨s.at_, s.n, s.k, 6, s.got, true, s.v, s.top, s.bot, s.got⟩
  else
    if s.turn = 0 then ⟨s.at_, s.n, s.k, 1, s.has, s.done, s.v, x, s.bot, s.got⟩
    else if s.turn = 1 then (if 0 ≤ dif s.top x then ⟨s.at_, s.n, s.k, 2, false, true, s.v, s.top, s.bot, s.got⟩ else ⟨s.at_, s.n, s.k, 2, s.has, s.done, s.v, s.top, s.bot, s.got⟩)
    else if s.turn = 2 then ⟨s.at_, s.n, s.k, 3, s.has, s.done, x, s.top, s.bot, s.got⟩
    else ⟨s.at_, s.n, s.k, 4, ok, true, s.v, s.top, s.bot, s.got⟩

/-- A step. -/
def DQ.go (s : DQ) (m : MS) : DQ × MS :=
  if s.done then (s, m)
  else if ¬ (m.act s.next).2.e = 0 then (⟨s.at_, s.n, s.k, s.turn, false, true, s.v, s.top, s.bot, s.got⟩, (m.act s.next).1)
  else (s.took (m.act s.next).2.v (m.act s.next).2.ok, (m.act s.next).1)

theorem DQ.turns {s : DQ} (h : s.ok) (hd : s.done = false) : s.k = 0 ∧ (s.turn = 0 ∨ s.turn = 1 ∨ s.turn = 2 ∨ s.turn = 3) ∨ s.k = 1 ∧ (s.turn = 0 ∨ s.turn = 1 ∨ s.turn = 2 ∨ s.turn = 3 ∨ s.turn = 4 ∨ s.turn = 5) ∨ s.k = 2 ∧ (s.turn = 0 ∨ s.turn = 1 ∨ s.turn = 2 ∨ s.turn = 3) := by
  have h1 := h.k2
  have h2 := h.u0
  have h3 := h.u1 hd
  rcases (show s.k = 0 ∨ s.k = 1 ∨ s.k = 2 by omega) with e | e | e
  · rw [if_neg (by omega)] at h3
    exact .inl ⟨e, by omega⟩
  · rw [if_pos e] at h3
    exact .inr (.inl ⟨e, by omega⟩)
  · rw [if_neg (by omega)] at h3
    exact .inr (.inr ⟨e, by omega⟩)

theorem dnext_any (w : World) (b kb : Nat) (s : DQ) (h : IsD w b kb s) (hd : s.done = false) : Calls Try.prog 36 #[.pointer (some ⟨b, 0, none⟩)] w fun e w' => e = .returned s.next.val ∧ Only [] w w' := by
  obtain ⟨at_, n, k, turn, has, done, v, top, bot, got⟩ := s
  have ht := DQ.turns h.ok hd
  dsimp only at hd ht
  subst hd
  rcases ht with ⟨rfl, _⟩ | ⟨rfl, _⟩ | ⟨rfl, _⟩
  · exact dnext_push w b kb n at_ turn v top bot has got _ h ⟨fun e => by subst e; rfl, fun e => by subst e; rfl, fun e => by subst e; rfl, fun e => by subst e; rfl⟩
  · exact dnext_pop w b kb n at_ turn v top bot has got _ h ⟨fun e => by subst e; rfl, fun e => by subst e; rfl, fun e => by subst e; rfl, fun e => by subst e; rfl, fun e => by subst e; rfl, fun e => by subst e; rfl⟩
  · exact dnext_steal w b kb n at_ turn v top bot has got _ h ⟨fun e => by subst e; rfl, fun e => by subst e; rfl, fun e => by subst e; rfl, fun e => by subst e; rfl⟩

def dkF (k : Nat) : Nat := if k = 0 then 116 else if k = 1 then 114 else 115

theorem took_any (w : World) (b kb : Nat) (s : DQ) (x : Int) (ok : Bool) (h : IsD w b kb s) (hd : s.done = false) (x0 : 0 ≤ x) (x1 : x < 18446744073709551616) :
    Calls Try.prog (dkF s.k) #[.pointer (some ⟨kb, 0, none⟩), .pointer (some ⟨b, 0, none⟩), .agg #[.int .u64 x, .bool ok, .int .i64 0]] w fun e w' => e = .returned (.tuple #[]) ∧ Only [b, kb] w w' ∧ IsD w' b kb (s.took x ok) := by
  obtain ⟨at_, n, k, turn, has, done, v, top, bot, got⟩ := s
  have ht := DQ.turns h.ok hd
  dsimp only at hd ht
  subst hd
  rcases ht with ⟨rfl, rfl | rfl | rfl | rfl⟩ | ⟨rfl, rfl | rfl | rfl | rfl | rfl | rfl⟩ | ⟨rfl, rfl | rfl | rfl | rfl⟩
  · exact took_push_0 w b kb n at_ v top bot x has got ok x0 x1 h
  · by_cases hc : (n : Int) ≤ dif bot x
    · have e : DQ.took ⟨at_, n, 0, 1, has, false, v, top, bot, got⟩ x ok = ⟨at_, n, 0, 2, false, true, v, top, bot, got⟩ := by simp [DQ.took, hc]
      rw [e]
      exact took_push_1y w b kb n at_ v top bot x has got ok x0 x1 hc h
    · have e : DQ.took ⟨at_, n, 0, 1, has, false, v, top, bot, got⟩ x ok = ⟨at_, n, 0, 2, has, false, v, top, bot, got⟩ := by simp [DQ.took, hc]
      rw [e]
      exact took_push_1n w b kb n at_ v top bot x has got ok x0 x1 hc h
  · exact took_push_2 w b kb n at_ v top bot x has got ok x0 x1 h
  · exact took_push_3 w b kb n at_ v top bot x has got ok x0 x1 h
  · exact took_pop_0 w b kb n at_ v top bot x has got ok x0 x1 h
  · exact took_pop_1 w b kb n at_ v top bot x has got ok x0 x1 h
  · by_cases hc : 0 < dif x bot
    · have e : DQ.took ⟨at_, n, 1, 2, has, false, v, top, bot, got⟩ x ok = ⟨at_, n, 1, 5, has, false, v, x, bot, got⟩ := by simp [DQ.took, hc]
      rw [e]
      exact took_pop_2y w b kb n at_ v top bot x has got ok x0 x1 hc h
    · have e : DQ.took ⟨at_, n, 1, 2, has, false, v, top, bot, got⟩ x ok = ⟨at_, n, 1, 3, has, false, v, x, bot, got⟩ := by simp [DQ.took, hc]
      rw [e]
      exact took_pop_2n w b kb n at_ v top bot x has got ok x0 x1 hc h
  · by_cases hc : dif top bot < 0
    · have e : DQ.took ⟨at_, n, 1, 3, has, false, v, top, bot, got⟩ x ok = ⟨at_, n, 1, 4, true, true, x, top, bot, got⟩ := by simp [DQ.took, hc]
      rw [e]
      exact took_pop_3y w b kb n at_ v top bot x has got ok x0 x1 hc h
    · have e : DQ.took ⟨at_, n, 1, 3, has, false, v, top, bot, got⟩ x ok = ⟨at_, n, 1, 4, has, false, x, top, bot, got⟩ := by simp [DQ.took, hc]
      rw [e]
      exact took_pop_3n w b kb n at_ v top bot x has got ok x0 x1 hc h
  · exact took_pop_4 w b kb n at_ v top bot x has got ok x0 x1 h
  · exact took_pop_5 w b kb n at_ v top bot x has got ok x0 x1 h
  · exact took_steal_0 w b kb n at_ v top bot x has got ok x0 x1 h
  · by_cases hc : 0 ≤ dif top x
    · have e : DQ.took ⟨at_, n, 2, 1, has, false, v, top, bot, got⟩ x ok = ⟨at_, n, 2, 2, false, true, v, top, bot, got⟩ := by simp [DQ.took, hc]
      rw [e]
      exact took_steal_1y w b kb n at_ v top bot x has got ok x0 x1 hc h
    · have e : DQ.took ⟨at_, n, 2, 1, has, false, v, top, bot, got⟩ x ok = ⟨at_, n, 2, 2, has, false, v, top, bot, got⟩ := by simp [DQ.took, hc]
      rw [e]
      exact took_steal_1n w b kb n at_ v top bot x has got ok x0 x1 hc h
  · exact took_steal_2 w b kb n at_ v top bot x has got ok x0 x1 h
  · exact took_steal_3 w b kb n at_ v top bot x has got ok x0 x1 h

theorem meth_took_push (a : Addr) (w : World) : (method 272 120 (.pointer (some a)) "matryoshka/deque.took").run Try.prog w = .ok (116, .pointer (some a)) w := by kernel_rfl
theorem meth_took_pop (a : Addr) (w : World) : (method 272 114 (.pointer (some a)) "matryoshka/deque.took").run Try.prog w = .ok (114, .pointer (some a)) w := by kernel_rfl
theorem meth_took_steal (a : Addr) (w : World) : (method 272 117 (.pointer (some a)) "matryoshka/deque.took").run Try.prog w = .ok (115, .pointer (some a)) w := by kernel_rfl

theorem do_act {w : World} {b s : Nat} {m m' : MS} {x : Act'} {v er : Int} {ok : Bool} (hm : IsMem w b s m) (h : m.act x = (m', ⟨v, ok, er⟩)) :
    Calls Try.prog 55 #[.pointer (some ⟨b, 0, none⟩), x.val] w fun e w' => e = .returned (.agg #[.int .u64 v, .bool ok, .int .i64 er]) ∧ Only [b, s] w w' ∧ IsMem w' b s m' := by
  have := do_any w b s m x hm
  rw [h] at this
  exact this

/-- What a step leaves. -/
def DStepped (w : World) (b kb mb ms : Nat) (r : DQ × MS) (e : Ending) (w' : World) : Prop :=
  e = .returned (.bool r.1.done) ∧ Only [b, kb, mb, ms] w w' ∧ IsMem w' mb ms r.2 ∧ IsD w' b kb r.1

end Go.Proofs.Ytoecoijmkjhkgaa
