/- The deque: a task's next act. -/
import Derived.Test.YtoecoijmkjhkgaaDeq1
import Derived.Test.YtoecoijmkjhkgaaQTail
import Derived.Deep.DeepCutAuto
import Derived.Deep.CutBlock
namespace Go.Proofs.Ytoecoijmkjhkgaa
open Go.RowKit

def dkT (k : Nat) : Nat := if k = 0 then 122 else if k = 1 then 116 else 119
def dkP (k : Nat) : Nat := if k = 0 then 120 else if k = 1 then 114 else 117
def dkCells (s : DQ) : Array Value := if s.k = 0 then #[.int .u64 s.v, .int .u64 s.bot] else if s.k = 1 then #[.int .u64 s.v, .int .u64 s.top, .int .u64 s.bot, .bool s.got] else #[.int .u64 s.v, .int .u64 s.top]
def dCells (s : DQ) (kb : Nat) : Array Value := #[.int .i64 s.at_, .int .i64 s.n, .iface (dkP s.k) (.pointer (some ⟨kb, 0, none⟩)), .int .i64 s.turn, .bool s.has, .bool s.done]

/-- Its numbers are in their bounds. -/
structure DQ.ok (s : DQ) : Prop where
  a0 : 0 ≤ s.at_
  a1 : s.at_ ≤ 65000
  n1 : 1 ≤ s.n
  n64 : s.n ≤ 64
  k2 : s.k ≤ 2
  v0 : 0 ≤ s.v
  v1 : s.v < 18446744073709551616
  t0 : 0 ≤ s.top
  t1 : s.top < 18446744073709551616
  b0 : 0 ≤ s.bot
  b1 : s.bot < 18446744073709551616
  u0 : 0 ≤ s.turn
  u1 : s.done = false → s.turn ≤ (if s.k = 1 then 5 else 3)
  u2 : s.turn ≤ 6

/-- At block b lies a task, what it does in block kb. -/
structure IsD (w : World) (b kb : Nat) (s : DQ) : Prop where
  obj : Blk w b 126 (dCells s kb)
  kind : Blk w kb (dkT s.k) (dkCells s)
  ok : s.ok

theorem IsD.only {w w' : World} {b kb : Nat} {s : DQ} {S : List Nat} (h : IsD w b kb s) (o : Only S w w') (hb : b ∉ S) (hk : kb ∉ S) : IsD w' b kb s := ⟨h.obj.only o hb, h.kind.only o hk, h.ok⟩

theorem ta_Push_Push (a : Addr) (w : World) : (Instr.typeAssert (.iface 120 (.pointer (some a))) 124 120 true).run Try.prog w = .ok (.tuple #[.pointer (some a), .bool true]) w := by kernel_rfl
theorem ta_Push_Pop (a : Addr) (w : World) : (Instr.typeAssert (.iface 120 (.pointer (some a))) 124 114 true).run Try.prog w = .ok (.tuple #[.pointer none, .bool false]) w := by kernel_rfl
theorem ta_Push_Steal (a : Addr) (w : World) : (Instr.typeAssert (.iface 120 (.pointer (some a))) 124 117 true).run Try.prog w = .ok (.tuple #[.pointer none, .bool false]) w := by kernel_rfl
theorem ta_Pop_Push (a : Addr) (w : World) : (Instr.typeAssert (.iface 114 (.pointer (some a))) 124 120 true).run Try.prog w = .ok (.tuple #[.pointer none, .bool false]) w := by kernel_rfl
theorem ta_Pop_Pop (a : Addr) (w : World) : (Instr.typeAssert (.iface 114 (.pointer (some a))) 124 114 true).run Try.prog w = .ok (.tuple #[.pointer (some a), .bool true]) w := by kernel_rfl
theorem ta_Pop_Steal (a : Addr) (w : World) : (Instr.typeAssert (.iface 114 (.pointer (some a))) 124 117 true).run Try.prog w = .ok (.tuple #[.pointer none, .bool false]) w := by kernel_rfl
theorem ta_Steal_Push (a : Addr) (w : World) : (Instr.typeAssert (.iface 117 (.pointer (some a))) 124 120 true).run Try.prog w = .ok (.tuple #[.pointer none, .bool false]) w := by kernel_rfl
theorem ta_Steal_Pop (a : Addr) (w : World) : (Instr.typeAssert (.iface 117 (.pointer (some a))) 124 114 true).run Try.prog w = .ok (.tuple #[.pointer none, .bool false]) w := by kernel_rfl
theorem ta_Steal_Steal (a : Addr) (w : World) : (Instr.typeAssert (.iface 117 (.pointer (some a))) 124 117 true).run Try.prog w = .ok (.tuple #[.pointer (some a), .bool true]) w := by kernel_rfl

/-- The difference of two positions, as a number with a sign. -/
def dif (a b : Int) : Int := wrap64 (IntKind.u64.wrap (a - b))
theorem wrap_u64_range (x : Int) : 0 ≤ IntKind.u64.wrap x ∧ IntKind.u64.wrap x < 18446744073709551616 := by rw [IntKind.wrap_u64]; omega

theorem dsets4 {w w' : World} {c : Nat} (h : Only [] w w') (hc : w.heap.size ≤ c) (a b d e : Value) : Only [] w ((((w'.setCell ⟨c, 0, none⟩ a).setCell ⟨c, 1, none⟩ b).setCell ⟨c, 2, none⟩ d).setCell ⟨c, 3, none⟩ e) :=
  (((h.setCell (.inr hc) _).setCell (.inr hc) _).setCell (.inr hc) _).setCell (.inr hc) _
theorem dslot_range (n : Nat) (p : Int) (n1 : 1 ≤ n) (n64 : n ≤ 64) : 2 ≤ dslot n p ∧ dslot n p ≤ 66 := by
  have h5 := Int.emod_nonneg p (show (n : Int) ≠ 0 by omega)
  have h6 := Int.emod_lt_of_pos p (show (0 : Int) < n by omega)
  unfold dslot
  omega

end Go.Proofs.Ytoecoijmkjhkgaa
