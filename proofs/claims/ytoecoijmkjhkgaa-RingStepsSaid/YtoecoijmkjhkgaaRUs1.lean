/- The document's one who pushes or pops on a ring (package matryoshkaref06): what lies there, its slot, right. -/
import Derived.Test.YtoecoijmkjhkgaaRing9
import Derived.Test.YtoecoijmkjhkgaaRef2
namespace Go.Proofs.Ytoecoijmkjhkgaa
open Go.RowKit

def uCells (at_ : Int) (n : Nat) (p : Bool) (v pos turn : Int) (done has : Bool) : Array Value := #[.int .i64 at_, .int .i64 n, .bool p, .int .u64 v, .int .u64 pos, .int .i64 turn, .bool done, .bool has]

/-- At block b lies a matryoshkaref06.User who stands as s. -/
def IsU (w : World) (b : Nat) (p : Bool) (s : RQ) : Prop := ∃ v turn, Blk w b 98 (uCells s.at_ s.n p v s.pos turn (decide (s.st = 5)) s.has) ∧ s.ok ∧ (¬ s.st = 5 → v = s.v ∧ turn = s.st ∧ s.has = false) ∧ (s.has = true → v = s.v)

theorem IsU.only {w w' : World} {b : Nat} {p : Bool} {s : RQ} {S : List Nat} (h : IsU w b p s) (o : Only S w w') (hb : b ∉ S) : IsU w' b p s := by
  obtain ⟨v, t, h1, h2⟩ := h
  exact ⟨v, t, h1.only o hb, h2⟩

theorem u_right (w : World) (a n : Int) : Calls Try.prog 47 #[.int .i64 a, .int .i64 n] w fun e w' => e = .returned (.bool (decide (ringRight a n))) ∧ w = w' := by
  by_cases h1 : 0 ≤ a
  · by_cases h2 : a ≤ 65000
    · by_cases h3 : 2 ≤ n
      · by_cases h4 : n ≤ 64
        · have hd : decide (ringRight a n) = true := decide_eq_true (by unfold ringRight; omega)
          rw [hd]
          clear hd
          go_enter Try.func47, Try.ntmps47
          go_wp2
          go_ret
          exact ⟨rfl, rfl⟩
        · have hd : decide (ringRight a n) = false := decide_eq_false (by unfold ringRight; omega)
          rw [hd]
          clear hd
          go_enter Try.func47, Try.ntmps47
          go_wp2
          go_ret
          exact ⟨rfl, rfl⟩
      · have hd : decide (ringRight a n) = false := decide_eq_false (by unfold ringRight; omega)
        rw [hd]
        clear hd
        go_enter Try.func47, Try.ntmps47
        go_wp2
        go_ret
        exact ⟨rfl, rfl⟩
    · have hd : decide (ringRight a n) = false := decide_eq_false (by unfold ringRight; omega)
      rw [hd]
      clear hd
      go_enter Try.func47, Try.ntmps47
      go_wp2
      go_ret
      exact ⟨rfl, rfl⟩
  · have hd : decide (ringRight a n) = false := decide_eq_false (by unfold ringRight; omega)
    rw [hd]
    clear hd
    go_enter Try.func47, Try.ntmps47
    go_wp2
    go_ret
    exact ⟨rfl, rfl⟩

set_option maxRecDepth 100000 in
theorem uslot_at (w : World) (b : Nat) (at_ pos : Int) (n : Nat) (st v : Int) (has : Bool) (h : RQ.ok ⟨at_, n, st, pos, has, v⟩) (q0 : w.cell? ⟨b, 0, none⟩ = some (.int .i64 at_)) (q1 : w.cell? ⟨b, 1, none⟩ = some (.int .i64 n)) (q4 : w.cell? ⟨b, 4, none⟩ = some (.int .u64 pos)) :
    Calls Try.prog 72 #[.pointer (some ⟨b, 0, none⟩)] w fun e w' => e = .returned (.int .i64 (slotOf at_ n pos)) ∧ w' = w.drew := by
  obtain ⟨r0, r1, r2, r3⟩ := RQ.slot_range h
  obtain ⟨a0, a1, n2, n64, s0, s5, p0, p1, v0, v1⟩ := h
  unfold slotOf
  unfold RQ.slot slotOf at r2 r3
  dsimp only at *
  obtain ⟨r, hr⟩ : ∃ r, pos % (n : Int) = r := ⟨_, rfl⟩
  rw [hr] at r0 r1 r2 r3 ⊢
  have h1 : IntKind.u64.wrap (n : Int) = n := by rw [IntKind.wrap_u64]; omega
  have h2 : pos.tmod (n : Int) = r := by rw [Int.tmod_eq_emod_of_nonneg p0]; exact hr
  have h3 : IntKind.i64.wrap r = r := wrap_i64 _ (by omega) (by omega)
  have h4 : IntKind.i64.wrap (2 * r) = 2 * r := wrap_i64 _ (by omega) (by omega)
  have h5 : IntKind.i64.wrap (at_ + 2) = at_ + 2 := wrap_i64 _ (by omega) (by omega)
  have h6 : IntKind.i64.wrap (at_ + 2 + 2 * r) = at_ + 2 + 2 * r := wrap_i64 _ (by omega) (by omega)
  have h7 : ¬ (n : Int) = 0 := by omega
  clear hr
  go_enter Try.func72, Try.ntmps72
  go_wp2
  go_region
  all_goals
    go_wp2
    go_ret
    exact ⟨rfl, rfl⟩

end Go.Proofs.Ytoecoijmkjhkgaa
