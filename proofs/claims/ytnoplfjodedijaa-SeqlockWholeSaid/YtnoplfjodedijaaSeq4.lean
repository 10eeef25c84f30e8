/- The seqlock's reader: it is made, what it does next, what it tells; and where a writer stands. Written by seq4gen.py. -/
import Derived.Test.YtnoplfjodedijaaSeq3
import Derived.Deep.RegionWith
namespace Go.Proofs.Ytnoplfjodedijaa
open Go.RowKit

theorem write_len (w : World) (a : Int) (n : Nat) (A : Option Addr) (len cap : Nat) (a0 : 0 ≤ a) (a1 : a ≤ 65000) (n1 : 1 ≤ n) (n16 : n ≤ 16) (hl : len ≠ n) :
    Calls Try.prog 33 #[.agg #[.int .i64 a, .int .i64 n], .slice A len cap] w fun e w' => e = .returned (.pointer none) ∧ Only [] w w' := by
  have HB := Lib.hid (Blk.new w 66 #[.int .i64 a, .int .i64 n])
  have HO := Lib.hid ((Only.refl [] w).alloc (.cells #[.int .i64 a, .int .i64 n] 66))
  have hne : ((len : Int) != (n : Int)) = true := by simp; omega
  clear hl
  go_enter Try.func33, Try.ntmps33
  go_wp2_with fail
  refine (right_any _ a n).mono ?_
  rintro e w1 ⟨rfl, ho⟩
  rw [decide_eq_true ⟨⟨a0, a1⟩, by omega, by omega⟩]
  have HB := Lib.hid (HB.out.only ho (by simp))
  have HO := Lib.hid (HO.out.trans ho)
  have c1 := HB.out.at 1 (v := .int .i64 n) rfl
  clear ho
  go_wp2
  go_ret
  exact ⟨rfl, HO.out⟩

/-- A reader: its place, how many values, where it stands, what it loaded, what it read so far, how often it began, whether it went wrong. -/
structure RS where
  at_ : Int
  n : Nat
  turn : Int
  was : Int
  vals : List Int
  tries : Int
  bad : Bool

/-- Its numbers are in their bounds. -/
structure RS.ok (s : RS) : Prop where
  a0 : 0 ≤ s.at_
  a1 : s.at_ ≤ 65000
  n1 : 1 ≤ s.n
  n16 : s.n ≤ 16
  t0 : 0 ≤ s.turn
  t1 : s.turn ≤ s.n + 2
  w0 : 0 ≤ s.was
  w1 : s.was < 18446744073709551616
  len : s.vals.length ≤ 16

def rCells (s : RS) (sl : Value) : Array Value := #[.int .i64 s.at_, .int .i64 s.n, .int .i64 s.turn, .int .u64 s.was, .int .i64 (s.n + 2), sl, .int .i64 s.tries, .bool s.bad]

/-- At block b lies a reader; sl is its slice. -/
structure IsR (w : World) (b : Nat) (sl : Value) (s : RS) : Prop where
  obj : Blk w b 111 (rCells s sl)
  row : w.ownsRow 0 22 1 sl s.vals.length (s.vals.map (Value.int .u64))
  ok : s.ok

theorem row_other {w w' : World} {base e sz : Nat} {v : Value} {n : Nat} {xs : List Value} {S : List Nat} (h : w.ownsRow base e sz v n xs) (o : Only S w w') (hS : ∀ x ∈ S, v.ownBlock ≠ some x) : w'.ownsRow base e sz v n xs := by
  refine ⟨h.1, ?_⟩
  rcases h.2 with h2 | ⟨g, cap, cur, rfl, hg, hh, r⟩
  · exact .inl h2
  · refine .inr ⟨g, cap, cur, rfl, hg, ?_, r⟩
    have hb : Blk w g e cur := hh
    exact hb.only o fun hm => hS g hm rfl

theorem IsR.only {w w' : World} {b : Nat} {sl : Value} {s : RS} {S : List Nat} (h : IsR w b sl s) (o : Only S w w') (hb : b ∉ S) (hs : ∀ x ∈ S, sl.ownBlock ≠ some x) : IsR w' b sl s :=
  ⟨h.obj.only o hb, row_other h.row o hs, h.ok⟩
theorem IsR.quiet {w w' : World} {b : Nat} {sl : Value} {s : RS} (h : IsR w b sl s) (o : Only [] w w') : IsR w' b sl s := h.only o (by simp) (by simp)
theorem IsR.slice {w : World} {b : Nat} {sl : Value} {s : RS} (h : IsR w b sl s) : ∃ A cap, sl = .slice A s.vals.length cap := row_form h.row

/-- A new reader. -/
def NewR (w : World) (a : Int) (n : Nat) (e : Ending) (w' : World) : Prop :=
  ∃ b, e = .returned (.pointer (some ⟨b, 0, none⟩)) ∧ w.heap.size ≤ b ∧ Only [] w w' ∧ IsR w' b (.slice none 0 0) ⟨a, n, 0, 0, [], 0, false⟩

theorem read_some (w : World) (a : Int) (n : Nat) (a0 : 0 ≤ a) (a1 : a ≤ 65000) (n1 : 1 ≤ n) (n16 : n ≤ 16) :
    Calls Try.prog 34 #[.agg #[.int .i64 a, .int .i64 n]] w (NewR w a n) := by
  have HB := Lib.hid (Blk.new w 66 #[.int .i64 a, .int .i64 n])
  have HO := Lib.hid ((Only.refl [] w).alloc (.cells #[.int .i64 a, .int .i64 n] 66))
  go_enter Try.func34, Try.ntmps34
  go_wp2_with fail
  refine (right_any _ a n).mono ?_
  rintro e w1 ⟨rfl, ho⟩
  rw [decide_eq_true ⟨⟨a0, a1⟩, by omega, by omega⟩]
  have HB := Lib.hid (HB.out.only ho (by simp))
  have HO := Lib.hid (HO.out.trans ho)
  have c0 := HB.out.at 0 (v := .int .i64 a) rfl
  have c1 := HB.out.at 1 (v := .int .i64 n) rfl
  have hw : ((n : Int) + 2 + 9223372036854775808) % 18446744073709551616 - 9223372036854775808 = n + 2 := by omega
  clear ho
  go_wp2
  go_ret
  exact ⟨w1.heap.size, rfl, HO.out.size, HO.out.alloc _, ⟨Blk.new w1 _ _, World.ownsRow_nil _ _ _ _, ⟨a0, a1, n1, n16, by show (0 : Int) ≤ 0; omega, by show (0 : Int) ≤ _; omega, by show (0 : Int) ≤ 0; omega, by show (0 : Int) < _; omega, by simp⟩⟩⟩

theorem read_none (w : World) (a n : Int) (h : ¬ ((0 ≤ a ∧ a ≤ 65000) ∧ 1 ≤ n ∧ n ≤ 16)) :
    Calls Try.prog 34 #[.agg #[.int .i64 a, .int .i64 n]] w fun e w' => e = .returned (.pointer none) ∧ Only [] w w' := by
  have HO := Lib.hid ((Only.refl [] w).alloc (.cells #[.int .i64 a, .int .i64 n] 66))
  go_enter Try.func34, Try.ntmps34
  go_wp2_with fail
  refine (right_any _ a n).mono ?_
  rintro e w1 ⟨rfl, ho⟩
  rw [decide_eq_false h]
  have HO := Lib.hid (HO.out.trans ho)
  clear ho h
  go_wp2
  go_ret
  exact ⟨rfl, HO.out⟩

theorem turn_at (w : World) (b : Nat) (t : Int) (c2 : w.cell? ⟨b, 2, none⟩ = some (.int .i64 t)) : Calls Try.prog 41 #[.pointer (some ⟨b, 0, none⟩)] w fun e w' => e = .returned (.int .i64 t) ∧ w = w' := by
  go_enter Try.func41, Try.ntmps41
  go_wp2
  go_ret
  exact ⟨rfl, rfl⟩
theorem turn_nil (w : World) : Calls Try.prog 41 #[.pointer none] w fun e w' => e = .returned (.int .i64 0) ∧ w = w' := by
  go_enter Try.func41, Try.ntmps41
  go_wp2
  go_ret
  exact ⟨rfl, rfl⟩
theorem tries_at (w : World) (b : Nat) (t : Int) (c6 : w.cell? ⟨b, 6, none⟩ = some (.int .i64 t)) : Calls Try.prog 43 #[.pointer (some ⟨b, 0, none⟩)] w fun e w' => e = .returned (.int .i64 t) ∧ w = w' := by
  go_enter Try.func43, Try.ntmps43
  go_wp2
  go_ret
  exact ⟨rfl, rfl⟩
theorem tries_nil (w : World) : Calls Try.prog 43 #[.pointer none] w fun e w' => e = .returned (.int .i64 0) ∧ w = w' := by
  go_enter Try.func43, Try.ntmps43
  go_wp2
  go_ret
  exact ⟨rfl, rfl⟩
set_option maxRecDepth 100000 in
theorem wnext_nil (w : World) : Calls Try.prog 40 #[.pointer none] w fun e w' => e = .returned (.agg #[.int .i64 0, .int .i64 0, .int .u64 0, .int .u64 0]) ∧ Only [] w w' := by
  go_enter Try.func40, Try.ntmps40
  go_wp2
  refine bodyPost_ret (v := .agg #[.int .i64 0, .int .i64 0, .int .u64 0, .int .u64 0]) (by simp [results, Try.results40, go_sem]) rfl ⟨rfl, ?_⟩
  exact (Only.refl _ _).alloc _
set_option maxRecDepth 100000 in
theorem srnext_nil (w : World) : Calls Try.prog 42 #[.pointer none] w fun e w' => e = .returned (.agg #[.int .i64 0, .int .i64 0, .int .u64 0, .int .u64 0]) ∧ Only [] w w' := by
  go_enter Try.func42, Try.ntmps42
  go_wp2
  refine bodyPost_ret (v := .agg #[.int .i64 0, .int .i64 0, .int .u64 0, .int .u64 0]) (by simp [results, Try.results42, go_sem]) rfl ⟨rfl, ?_⟩
  exact (Only.refl _ _).alloc _
set_option maxRecDepth 100000 in
theorem wstep_nil (w : World) (m : Value) : Calls Try.prog 36 #[.pointer none, m] w fun e w' => e = .returned (.bool false) ∧ w = w' := by
  go_enter Try.func36, Try.ntmps36
  go_wp2
  go_ret
  exact ⟨rfl, rfl⟩
set_option maxRecDepth 100000 in
theorem srstep_nil (w : World) (m : Value) : Calls Try.prog 37 #[.pointer none, m] w fun e w' => e = .returned (.bool false) ∧ w = w' := by
  go_enter Try.func37, Try.ntmps37
  go_wp2
  go_ret
  exact ⟨rfl, rfl⟩
set_option maxRecDepth 100000 in
theorem values_nil (w : World) : Calls Try.prog 39 #[.pointer none] w fun e w' => e = .returned (.tuple #[.slice none 0 0, .bool false]) ∧ w = w' := by
  go_enter Try.func39, Try.ntmps39
  go_wp2
  go_ret2
  exact ⟨rfl, rfl⟩

/-- A reader's next act. -/
def RS.next (s : RS) : Act' := if s.turn = s.n + 2 then ⟨0, 0, 0, 0⟩ else if s.turn = s.n + 1 then ⟨1, s.at_, 0, 0⟩ else ⟨1, s.at_ + s.turn, 0, 0⟩

set_option maxHeartbeats 2000000 in
set_option maxRecDepth 100000 in
theorem srnext_done (w : World) (b n : Nat) (at_ was tries : Int) (vals : List Int) (bad : Bool) (sl : Value)  (h : IsR w b sl ⟨at_, n, n + 2, was, vals, tries, bad⟩) :
    Calls Try.prog 42 #[.pointer (some ⟨b, 0, none⟩)] w fun e w' => e = .returned (.agg #[.int .i64 0, .int .i64 0, .int .u64 0, .int .u64 0]) ∧ Only [] w w' := by
  obtain ⟨k1, k2, k3, k4, k5, k6, k7, k8, k9⟩ := h.ok
  dsimp only at k1 k2 k3 k4 k5 k6 k7 k8 k9
  have HZ := Lib.hid (Blk.new w 24 #[.int .i64 0, .int .i64 0, .int .u64 0, .int .u64 0])
  have HO := Lib.hid ((Only.refl [] w).alloc (.cells #[.int .i64 0, .int .i64 0, .int .u64 0, .int .u64 0] 24))
  have H := Lib.hid (h.quiet HO.out)
  clear h
  have q2 := H.out.obj.at 2 (v := .int .i64 (n + 2)) rfl
  have q4 := H.out.obj.at 4 (v := .int .i64 (n + 2)) rfl
  go_enter Try.func42, Try.ntmps42
  go_wp2_with fail
  refine (over_at _ b (n + 2) (n + 2) q2 q4).mono ?_
  rintro e w1 ⟨rfl, ho⟩
  rw [decide_eq_true rfl]
  have HO := Lib.hid (HO.out.trans ho)
  have H := Lib.hid (H.out.quiet ho)
  have HZ := Lib.hid (HZ.out.only ho (by simp))
  have c0 := H.out.obj.at 0 (v := .int .i64 at_) rfl
  have c2 := H.out.obj.at 2 (v := .int .i64 (n + 2)) rfl
  have c4 := H.out.obj.at 4 (v := .int .i64 (n + 2)) rfl
  have z0 := HZ.out.at 0 (v := .int .i64 0) rfl
  have f0 := HZ.out.frozen 0
  have z1 := HZ.out.at 1 (v := .int .i64 0) rfl
  have f1 := HZ.out.frozen 1
  have z2 := HZ.out.at 2 (v := .int .u64 0) rfl
  have f2 := HZ.out.frozen 2
  have z3 := HZ.out.at 3 (v := .int .u64 0) rfl
  have f3 := HZ.out.frozen 3
  clear ho q2 q4
  go_wp2_with fail
  have HF := Lib.hid ((((HZ.out.set 0 (.int .i64 (0))).set 1 (.int .i64 (0))).set 2 (.int .u64 0)).set 3 (.int .u64 0))
  have p0 := HF.out.at 0 (v := .int .i64 (0)) rfl
  have p1 := HF.out.at 1 (v := .int .i64 (0)) rfl
  have p2 := HF.out.at 2 (v := .int .u64 0) rfl
  have p3 := HF.out.at 3 (v := .int .u64 0) rfl
  refine bodyPost_ret (v := .agg #[.int .i64 (0), .int .i64 (0), .int .u64 0, .int .u64 0]) (by simp [results, Try.results42, go_sem, p0, p1, p2, p3]) rfl ⟨rfl, ?_⟩
  exact sets4 (HO.out) (Nat.le_refl _) _ _ _ _

set_option maxHeartbeats 2000000 in
set_option maxRecDepth 100000 in
theorem srnext_last (w : World) (b n : Nat) (at_ was tries : Int) (vals : List Int) (bad : Bool) (sl : Value)  (h : IsR w b sl ⟨at_, n, n + 1, was, vals, tries, bad⟩) :
    Calls Try.prog 42 #[.pointer (some ⟨b, 0, none⟩)] w fun e w' => e = .returned (.agg #[.int .i64 1, .int .i64 at_, .int .u64 0, .int .u64 0]) ∧ Only [] w w' := by
  obtain ⟨k1, k2, k3, k4, k5, k6, k7, k8, k9⟩ := h.ok
  dsimp only at k1 k2 k3 k4 k5 k6 k7 k8 k9
  have HZ := Lib.hid (Blk.new w 24 #[.int .i64 0, .int .i64 0, .int .u64 0, .int .u64 0])
  have HO := Lib.hid ((Only.refl [] w).alloc (.cells #[.int .i64 0, .int .i64 0, .int .u64 0, .int .u64 0] 24))
  have H := Lib.hid (h.quiet HO.out)
  clear h
  have q2 := H.out.obj.at 2 (v := .int .i64 (n + 1)) rfl
  have q4 := H.out.obj.at 4 (v := .int .i64 (n + 2)) rfl
  go_enter Try.func42, Try.ntmps42
  go_wp2_with fail
  refine (over_at _ b (n + 1) (n + 2) q2 q4).mono ?_
  rintro e w1 ⟨rfl, ho⟩
  rw [decide_eq_false (show ¬ (n : Int) + 1 = n + 2 by omega)]
  have HO := Lib.hid (HO.out.trans ho)
  have H := Lib.hid (H.out.quiet ho)
  have HZ := Lib.hid (HZ.out.only ho (by simp))
  have c0 := H.out.obj.at 0 (v := .int .i64 at_) rfl
  have c2 := H.out.obj.at 2 (v := .int .i64 (n + 1)) rfl
  have c4 := H.out.obj.at 4 (v := .int .i64 (n + 2)) rfl
  have z0 := HZ.out.at 0 (v := .int .i64 0) rfl
  have f0 := HZ.out.frozen 0
  have z1 := HZ.out.at 1 (v := .int .i64 0) rfl
  have f1 := HZ.out.frozen 1
  have z2 := HZ.out.at 2 (v := .int .u64 0) rfl
  have f2 := HZ.out.frozen 2
  have z3 := HZ.out.at 3 (v := .int .u64 0) rfl
  have f3 := HZ.out.frozen 3
  clear ho q2 q4
  have ew : IntKind.i64.wrap ((n : Int) + 2 - 1) = n + 1 := by rw [IntKind.wrap_i64]; omega
  go_wp2_with fail
  go_region
  all_goals
    go_wp2_with fail
    have HZ := Lib.hid (HZ.out.drew)
    have HO := Lib.hid (HO.out.drew)
    have c0 : w1.drew.cell? ⟨b, 0, none⟩ = some (.int .i64 at_) := c0
    refine (load_of _ b at_ 0 c0 (by omega)).mono ?_
    rintro e w2 ⟨rfl, ho⟩
    have HO := Lib.hid (HO.out.trans ho)
    have HZ := Lib.hid (HZ.out.only ho (by simp))
    have z0 := HZ.out.at 0 (v := .int .i64 0) rfl
    have f0 := HZ.out.frozen 0
    have z1 := HZ.out.at 1 (v := .int .i64 0) rfl
    have f1 := HZ.out.frozen 1
    have z2 := HZ.out.at 2 (v := .int .u64 0) rfl
    have f2 := HZ.out.frozen 2
    have z3 := HZ.out.at 3 (v := .int .u64 0) rfl
    have f3 := HZ.out.frozen 3
    rw [Int.add_zero]
    clear ho
    go_wp2_with fail
    have HF := Lib.hid ((((HZ.out.set 0 (.int .i64 (1))).set 1 (.int .i64 (at_))).set 2 (.int .u64 0)).set 3 (.int .u64 0))
    have p0 := HF.out.at 0 (v := .int .i64 (1)) rfl
    have p1 := HF.out.at 1 (v := .int .i64 (at_)) rfl
    have p2 := HF.out.at 2 (v := .int .u64 0) rfl
    have p3 := HF.out.at 3 (v := .int .u64 0) rfl
    refine bodyPost_ret (v := .agg #[.int .i64 (1), .int .i64 (at_), .int .u64 0, .int .u64 0]) (by simp [results, Try.results42, go_sem, p0, p1, p2, p3]) rfl ⟨rfl, ?_⟩
    exact sets4 (HO.out) (Nat.le_refl _) _ _ _ _

set_option maxHeartbeats 2000000 in
set_option maxRecDepth 100000 in
theorem srnext_mid (w : World) (b n : Nat) (at_ was tries : Int) (vals : List Int) (bad : Bool) (sl : Value) (k : Nat) (hkn : k < n + 1) (h : IsR w b sl ⟨at_, n, (k : Int), was, vals, tries, bad⟩) :
    Calls Try.prog 42 #[.pointer (some ⟨b, 0, none⟩)] w fun e w' => e = .returned (.agg #[.int .i64 1, .int .i64 (at_ + k), .int .u64 0, .int .u64 0]) ∧ Only [] w w' := by
  obtain ⟨k1, k2, k3, k4, k5, k6, k7, k8, k9⟩ := h.ok
  dsimp only at k1 k2 k3 k4 k5 k6 k7 k8 k9
  have HZ := Lib.hid (Blk.new w 24 #[.int .i64 0, .int .i64 0, .int .u64 0, .int .u64 0])
  have HO := Lib.hid ((Only.refl [] w).alloc (.cells #[.int .i64 0, .int .i64 0, .int .u64 0, .int .u64 0] 24))
  have H := Lib.hid (h.quiet HO.out)
  clear h
  have q2 := H.out.obj.at 2 (v := .int .i64 ((k : Int))) rfl
  have q4 := H.out.obj.at 4 (v := .int .i64 (n + 2)) rfl
  go_enter Try.func42, Try.ntmps42
  go_wp2_with fail
  refine (over_at _ b ((k : Int)) (n + 2) q2 q4).mono ?_
  rintro e w1 ⟨rfl, ho⟩
  rw [decide_eq_false (show ¬ (k : Int) = n + 2 by omega)]
  have HO := Lib.hid (HO.out.trans ho)
  have H := Lib.hid (H.out.quiet ho)
  have HZ := Lib.hid (HZ.out.only ho (by simp))
  have c0 := H.out.obj.at 0 (v := .int .i64 at_) rfl
  have c2 := H.out.obj.at 2 (v := .int .i64 ((k : Int))) rfl
  have c4 := H.out.obj.at 4 (v := .int .i64 (n + 2)) rfl
  have z0 := HZ.out.at 0 (v := .int .i64 0) rfl
  have f0 := HZ.out.frozen 0
  have z1 := HZ.out.at 1 (v := .int .i64 0) rfl
  have f1 := HZ.out.frozen 1
  have z2 := HZ.out.at 2 (v := .int .u64 0) rfl
  have f2 := HZ.out.frozen 2
  have z3 := HZ.out.at 3 (v := .int .u64 0) rfl
  have f3 := HZ.out.frozen 3
  clear ho q2 q4
  have ew : IntKind.i64.wrap ((n : Int) + 2 - 1) = n + 1 := by rw [IntKind.wrap_i64]; omega
  have e1 : ¬ ((k : Int) = n + 1) := by omega
  have e2 : ((k : Int) = n + 2 - 1) = False := eq_false (by omega)
  have ew3 : IntKind.i64.wrap (at_ + (k : Int)) = at_ + k := by rw [IntKind.wrap_i64]; omega
  have hka : -9223372036854775808 ≤ at_ + (k : Int) ∧ at_ + (k : Int) ≤ 9223372036854775807 := by omega
  go_wp2_with fail
  go_region
  all_goals
    go_wp2_with fail
    go_region_with (first
      | (go_at_call 65
         refine (load_of _ b at_ k (by first | exact c0 | assumption) hka).mono ?_
         rintro e w2 ⟨rfl, ho⟩
         have HO : Hid (Only [] w w2) := Lib.hid (Only.trans (by first | exact HO.out.drew.drew | exact HO.out.drew) ho)
         have HZ := Lib.hid (Blk.only (by first | exact HZ.out.drew.drew | exact HZ.out.drew) ho (by simp))
         have z0 := HZ.out.at 0 (v := .int .i64 0) rfl
         have f0 := HZ.out.frozen 0
         have z1 := HZ.out.at 1 (v := .int .i64 0) rfl
         have f1 := HZ.out.frozen 1
         have z2 := HZ.out.at 2 (v := .int .u64 0) rfl
         have f2 := HZ.out.frozen 2
         have z3 := HZ.out.at 3 (v := .int .u64 0) rfl
         have f3 := HZ.out.frozen 3
         clear ho))
    all_goals
      go_wp2_with fail
      have HF := Lib.hid ((((HZ.out.set 0 (.int .i64 (1))).set 1 (.int .i64 (at_ + k))).set 2 (.int .u64 0)).set 3 (.int .u64 0))
      have p0 := HF.out.at 0 (v := .int .i64 (1)) rfl
      have p1 := HF.out.at 1 (v := .int .i64 (at_ + k)) rfl
      have p2 := HF.out.at 2 (v := .int .u64 0) rfl
      have p3 := HF.out.at 3 (v := .int .u64 0) rfl
      refine bodyPost_ret (v := .agg #[.int .i64 (1), .int .i64 (at_ + k), .int .u64 0, .int .u64 0]) (by simp [results, Try.results42, go_sem, p0, p1, p2, p3]) rfl ⟨rfl, ?_⟩
      exact sets4 (HO.out) (Nat.le_refl _) _ _ _ _


end Go.Proofs.Ytnoplfjodedijaa
