/- The ring: one who pushes or pops, and its small functions. -/
import Derived.Test.YtoecoijmkjhkgaaAct2
import Derived.Test.YtoecoijmkjhkgaaOwn
import Derived.Deep.RegionHeld3
import Derived.Laws.BitsAllLaws
namespace Go.Proofs.Ytoecoijmkjhkgaa
open Go.RowKit

/-- One who pushes, or pops: the ring's place and slots, where it stands, its position, whether it has, its value. -/
structure RQ where
  at_ : Int
  n : Nat
  st : Int
  pos : Int
  has : Bool
  v : Int

/-- Its numbers are in their bounds. -/
structure RQ.ok (s : RQ) : Prop where
  a0 : 0 ≤ s.at_
  a1 : s.at_ ≤ 65000
  n2 : 2 ≤ s.n
  n64 : s.n ≤ 64
  s0 : 0 ≤ s.st
  s5 : s.st ≤ 5
  p0 : 0 ≤ s.pos
  p1 : s.pos < 18446744073709551616
  v0 : 0 ≤ s.v
  v1 : s.v < 18446744073709551616

def qT (p : Bool) : Nat := if p then 108 else 107
def qP (p : Bool) : Nat := if p then 39 else 36
def qCells (s : RQ) : Array Value := #[.int .i64 s.at_, .int .i64 s.n, .int .i64 s.st, .int .u64 s.pos, .bool s.has, .int .u64 s.v]

/-- At block b lies one who pops, or (p = false) pushes. -/
structure IsQ (w : World) (b : Nat) (p : Bool) (s : RQ) : Prop where
  obj : Blk w b (qT p) (qCells s)
  ok : s.ok

theorem IsQ.only {w w' : World} {b : Nat} {p : Bool} {s : RQ} {S : List Nat} (h : IsQ w b p s) (o : Only S w w') (hb : b ∉ S) : IsQ w' b p s := ⟨h.obj.only o hb, h.ok⟩
theorem IsQ.quiet {w w' : World} {b : Nat} {p : Bool} {s : RQ} (h : IsQ w b p s) (o : Only [] w w') : IsQ w' b p s := h.only o (by simp)

/-- The place of a position's turn. -/
def slotOf (a n pos : Int) : Int := a + 2 + 2 * (pos % n)
def RQ.slot (s : RQ) : Int := slotOf s.at_ s.n s.pos
def RQ.count (p : Bool) (s : RQ) : Int := if p then s.at_ + 1 else s.at_
def RQ.awaited (p : Bool) (s : RQ) : Int := if p then IntKind.u64.wrap (s.pos + 1) else s.pos
def RQ.laid (p : Bool) (s : RQ) : Int := if p then IntKind.u64.wrap (s.pos + s.n) else IntKind.u64.wrap (s.pos + 1)
/-- Its next act. -/
def RQ.next (p : Bool) (s : RQ) : Act' :=
  if s.st = 0 then ⟨1, s.count p, 0, 0⟩
  else if s.st = 1 then ⟨1, s.slot, 0, 0⟩
  else if s.st = 2 then ⟨3, s.count p, s.pos, IntKind.u64.wrap (s.pos + 1)⟩
  else if s.st = 3 then (if p then ⟨1, s.slot + 1, 0, 0⟩ else ⟨2, s.slot + 1, s.v, 0⟩)
  else if s.st = 4 then ⟨2, s.slot, s.laid p, 0⟩
  else ⟨0, 0, 0, 0⟩

theorem RQ.slot_range {s : RQ} (h : s.ok) : 0 ≤ s.pos % s.n ∧ s.pos % s.n < 64 ∧ 2 ≤ s.slot ∧ s.slot ≤ 65130 := by
  have h1 := h.a0
  have h2 := h.a1
  have h3 := h.n2
  have h4 := h.n64
  have h5 := Int.emod_nonneg s.pos (show (s.n : Int) ≠ 0 by omega)
  have h6 := Int.emod_lt_of_pos s.pos (show (0 : Int) < s.n by omega)
  unfold RQ.slot slotOf
  refine ⟨h5, by omega, by omega, by omega⟩

theorem wrap_i64 (x : Int) (h0 : -9223372036854775808 ≤ x) (h1 : x ≤ 9223372036854775807) : IntKind.i64.wrap x = x := by
  rw [IntKind.wrap_i64]
  omega

set_option maxRecDepth 100000 in
theorem slot_at (w : World) (s : RQ) (h : s.ok) : Calls Try.prog 81 #[.agg #[.int .i64 s.at_, .int .i64 s.n], .int .u64 s.pos] w fun e w' => e = .returned (.int .i64 s.slot) ∧ Only [] w w' := by
  obtain ⟨at_, n, st, pos, has, v⟩ := s
  obtain ⟨r0, r1, r2, r3⟩ := RQ.slot_range h
  obtain ⟨a0, a1, n2, n64, s0, s5, p0, p1, v0, v1⟩ := h
  unfold RQ.slot slotOf
  unfold RQ.slot slotOf at r2 r3
  dsimp only at *
  obtain ⟨r, hr⟩ : ∃ r, pos % (n : Int) = r := ⟨_, rfl⟩
  rw [hr] at r0 r1 r2 r3 ⊢
  have HB := Lib.hid (Blk.new w 32 #[.int .i64 at_, .int .i64 n])
  have q0 := HB.out.at 0 (v := .int .i64 at_) rfl
  have q1 := HB.out.at 1 (v := .int .i64 n) rfl
  have h1 : IntKind.u64.wrap (n : Int) = n := by rw [IntKind.wrap_u64]; omega
  have h2 : pos.tmod (n : Int) = r := by rw [Int.tmod_eq_emod_of_nonneg p0]; exact hr
  have h3 : IntKind.i64.wrap r = r := wrap_i64 _ (by omega) (by omega)
  have h4 : IntKind.i64.wrap (2 * r) = 2 * r := wrap_i64 _ (by omega) (by omega)
  have h5 : IntKind.i64.wrap (at_ + 2) = at_ + 2 := wrap_i64 _ (by omega) (by omega)
  have h6 : IntKind.i64.wrap (at_ + 2 + 2 * r) = at_ + 2 + 2 * r := wrap_i64 _ (by omega) (by omega)
  have h7 : ¬ (n : Int) = 0 := by omega
  clear hr
  go_enter Try.func81, Try.ntmps81
  go_wp2
  go_region
  all_goals
    go_wp2
    go_ret
    exact ⟨rfl, ((Only.refl _ _).alloc _).drew⟩

theorem slot_of (w : World) (at_ pos : Int) (n : Nat) (st v : Int) (has : Bool) (h : RQ.ok ⟨at_, n, st, pos, has, v⟩) : Calls Try.prog 81 #[.agg #[.int .i64 at_, .int .i64 n], .int .u64 pos] w fun e w' => e = .returned (.int .i64 (slotOf at_ n pos)) ∧ Only [] w w' :=
  slot_at w ⟨at_, n, st, pos, has, v⟩ h

end Go.Proofs.Ytoecoijmkjhkgaa
