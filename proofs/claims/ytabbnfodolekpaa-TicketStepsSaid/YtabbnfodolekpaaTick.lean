/- The walks of package ticket. -/
import Derived.Test.YtabbnfodolekpaaAct2
import Derived.Outline
namespace Go.Proofs.Ytabbnfodolekpaa
open Go.RowKit

/-- One who wants to hold a lock. -/
structure HS where
  at_ : Int
  st : Int
  tk : Int
  wish : Bool

def HS.next (h : HS) : Act' :=
  if h.st = 0 then ⟨4, h.at_, 1, 0⟩ else if h.st = 1 then ⟨1, h.at_ + 1, 0, 0⟩ else if h.st = 2 ∧ h.wish = true then ⟨2, h.at_ + 1, IntKind.u64.wrap (h.tk + 1), 0⟩ else ⟨0, 0, 0, 0⟩

/-- At block b lies a ticket.Holder. -/
def IsH (w : World) (b : Nat) (h : HS) : Prop := Blk w b 86 #[.int .i64 h.at_, .int .i64 h.st, .int .u64 h.tk, .bool h.wish, .bool true]

theorem new_res (w : World) (t : TypeId) (y : Array Value) : Only [] w (w.alloc (.cells y t)) ∧ Blk (w.alloc (.cells y t)) w.heap.size t y := ⟨(Only.refl _ _).alloc _, Blk.new _ _ _⟩

theorem tnext_nil (w : World) : Calls Try.prog 36 #[.pointer none] w fun e w' => e = .returned (.agg #[.int .i64 0, .int .i64 0, .int .u64 0, .int .u64 0]) ∧ Only [] w w' := by
  go_enter Try.func36, Try.ntmps36
  go_wp2
  refine bodyPost_ret (v := .agg #[.int .i64 0, .int .i64 0, .int .u64 0, .int .u64 0]) (by simp [results, Try.results36, go_sem]) rfl ⟨rfl, (Only.refl _ _).alloc _⟩

theorem tnext_0 (w : World) (b : Nat) (a tk : Int) (wish : Bool) (_h0 : 0 ≤ a) (_h1 : a ≤ 65000) (hb' : Blk w b 86 #[.int .i64 a, .int .i64 0, .int .u64 tk, .bool wish, .bool true]) :
    Calls Try.prog 36 #[.pointer (some ⟨b, 0, none⟩)] w fun e w' => e = .returned (.agg #[.int .i64 4, .int .i64 a, .int .u64 1, .int .u64 0]) ∧ Only [] w w' := by
  have hb := hb'.alloc (.cells #[.int .i64 0, .int .i64 0, .int .u64 0, .int .u64 0] 70)
  have c0 := hb.at 0 rfl
  have c1 := hb.at 1 rfl
  have c2 := hb.at 2 rfl
  have c3 := hb.at 3 rfl
  have c4 := hb.at 4 rfl
  clear hb hb'
  go_enter Try.func36, Try.ntmps36
  go_wp2
  refine bodyPost_ret (v := .agg #[.int .i64 4, .int .i64 a, .int .u64 1, .int .u64 0]) (by simp [results, Try.results36, go_sem]) rfl ⟨rfl, ?_⟩
  repeat (first | exact Only.refl _ _ | apply Only.alloc | apply Only.drew)

theorem tnext_1 (w : World) (b : Nat) (a tk : Int) (wish : Bool) (h0 : 0 ≤ a) (h1 : a ≤ 65000) (hb' : Blk w b 86 #[.int .i64 a, .int .i64 1, .int .u64 tk, .bool wish, .bool true]) :
    Calls Try.prog 36 #[.pointer (some ⟨b, 0, none⟩)] w fun e w' => e = .returned (.agg #[.int .i64 1, .int .i64 (a + 1), .int .u64 0, .int .u64 0]) ∧ Only [] w w' := by
  have hb := hb'.alloc (.cells #[.int .i64 0, .int .i64 0, .int .u64 0, .int .u64 0] 70)
  have c0 := hb.at 0 rfl
  have c1 := hb.at 1 rfl
  have c2 := hb.at 2 rfl
  have c3 := hb.at 3 rfl
  have c4 := hb.at 4 rfl
  clear hb hb'
  go_enter Try.func36, Try.ntmps36
  go_wp2
  refine bodyPost_ret (v := .agg #[.int .i64 1, .int .i64 (a + 1), .int .u64 0, .int .u64 0]) (by simp [results, Try.results36, go_sem]) rfl ⟨rfl, ?_⟩
  repeat (first | exact Only.refl _ _ | apply Only.alloc | apply Only.drew)

theorem tnext_2f (w : World) (b : Nat) (a tk : Int) (_h0 : 0 ≤ a) (_h1 : a ≤ 65000) (hb' : Blk w b 86 #[.int .i64 a, .int .i64 2, .int .u64 tk, .bool false, .bool true]) :
    Calls Try.prog 36 #[.pointer (some ⟨b, 0, none⟩)] w fun e w' => e = .returned (.agg #[.int .i64 0, .int .i64 0, .int .u64 0, .int .u64 0]) ∧ Only [] w w' := by
  have hb := hb'.alloc (.cells #[.int .i64 0, .int .i64 0, .int .u64 0, .int .u64 0] 70)
  have c0 := hb.at 0 rfl
  have c1 := hb.at 1 rfl
  have c2 := hb.at 2 rfl
  have c3 := hb.at 3 rfl
  have c4 := hb.at 4 rfl
  clear hb hb'
  go_enter Try.func36, Try.ntmps36
  go_wp2
  refine bodyPost_ret (v := .agg #[.int .i64 0, .int .i64 0, .int .u64 0, .int .u64 0]) (by simp [results, Try.results36, go_sem]) rfl ⟨rfl, ?_⟩
  repeat (first | exact Only.refl _ _ | apply Only.alloc | apply Only.drew)

theorem tnext_x (w : World) (b : Nat) (a st tk : Int) (wish : Bool) (_h0 : 0 ≤ a) (_h1 : a ≤ 65000) (g0 : (st == 0) = false) (g1 : (st == 1) = false) (g2 : (st == 2) = false) (hb' : Blk w b 86 #[.int .i64 a, .int .i64 st, .int .u64 tk, .bool wish, .bool true]) :
    Calls Try.prog 36 #[.pointer (some ⟨b, 0, none⟩)] w fun e w' => e = .returned (.agg #[.int .i64 0, .int .i64 0, .int .u64 0, .int .u64 0]) ∧ Only [] w w' := by
  have hb := hb'.alloc (.cells #[.int .i64 0, .int .i64 0, .int .u64 0, .int .u64 0] 70)
  have c0 := hb.at 0 rfl
  have c1 := hb.at 1 rfl
  have c2 := hb.at 2 rfl
  have c3 := hb.at 3 rfl
  have c4 := hb.at 4 rfl
  clear hb hb'
  go_enter Try.func36, Try.ntmps36
  go_wp2
  refine bodyPost_ret (v := .agg #[.int .i64 0, .int .i64 0, .int .u64 0, .int .u64 0]) (by simp [results, Try.results36, go_sem]) rfl ⟨rfl, ?_⟩
  repeat (first | exact Only.refl _ _ | apply Only.alloc | apply Only.drew)

theorem tnext_2t (w : World) (b : Nat) (a tk : Int) (h0 : 0 ≤ a) (h1 : a ≤ 65000) (hb' : Blk w b 86 #[.int .i64 a, .int .i64 2, .int .u64 tk, .bool true, .bool true]) :
    Calls Try.prog 36 #[.pointer (some ⟨b, 0, none⟩)] w fun e w' => e = .returned (.agg #[.int .i64 2, .int .i64 (a + 1), .int .u64 (IntKind.u64.wrap (tk + 1)), .int .u64 0]) ∧ Only [] w w' := by
  have hb := hb'.alloc (.cells #[.int .i64 0, .int .i64 0, .int .u64 0, .int .u64 0] 70)
  have c0 := hb.at 0 rfl
  have c1 := hb.at 1 rfl
  have c2 := hb.at 2 rfl
  have c3 := hb.at 3 rfl
  have c4 := hb.at 4 rfl
  clear hb hb'
  go_enter Try.func36, Try.ntmps36
  go_wp2
  go_region
  all_goals go_wp2
  refine bodyPost_ret (v := .agg #[.int .i64 2, .int .i64 (a + 1), .int .u64 (IntKind.u64.wrap (tk + 1)), .int .u64 0]) (by simp [results, Try.results36, go_sem]) rfl ⟨rfl, ?_⟩
  repeat (first | exact Only.refl _ _ | apply Only.alloc | apply Only.drew)

theorem tstate_at (w : World) (b : Nat) (h : HS) (hb : IsH w b h) : Calls Try.prog 33 #[.pointer (some ⟨b, 0, none⟩)] w fun e w' => e = .returned (.tuple #[.int .i64 h.st, .int .u64 h.tk]) ∧ Only [] w w' := by
  have c1 := hb.at 1 rfl
  have c2 := hb.at 2 rfl
  clear hb
  go_enter Try.func33, Try.ntmps33
  go_wp2
  go_region
  all_goals (go_wp2; go_ret2; exact ⟨rfl, (Only.refl _ _).drew⟩)

theorem tstate_nil (w : World) : Calls Try.prog 33 #[.pointer none] w fun e w' => e = .returned (.tuple #[.int .i64 0, .int .u64 0]) ∧ w = w' := by
  go_enter Try.func33, Try.ntmps33
  go_wp2
  go_ret2
  exact ⟨rfl, rfl⟩

theorem tleave_nil (w : World) : Calls Try.prog 34 #[.pointer none] w fun e w' => e = .returned (.bool false) ∧ w = w' := by
  go_enter Try.func34, Try.ntmps34
  go_wp2
  go_ret
  exact ⟨rfl, rfl⟩

def HS.leave (h : HS) : HS × Bool := if h.st = 2 ∧ h.wish = false then (⟨h.at_, h.st, h.tk, true⟩, true) else (h, false)

theorem tleave_any (w : World) (b : Nat) (h : HS) (hb : IsH w b h) : Calls Try.prog 34 #[.pointer (some ⟨b, 0, none⟩)] w fun e w' => e = .returned (.bool h.leave.2) ∧ Only [b] w w' ∧ IsH w' b h.leave.1 := by
  obtain ⟨a, st, tk, wish⟩ := h
  have HB := Lib.hid hb
  have c1 := hb.at 1 rfl
  have c3 := hb.at 3 rfl
  have f3 := hb.frozen 3
  clear hb
  unfold HS.leave
  by_cases e : st = 2
  · subst e
    cases wish
    · rw [if_pos ⟨rfl, rfl⟩]
      go_enter Try.func34, Try.ntmps34
      go_wp2
      go_ret
      exact ⟨rfl, (Only.refl _ _).setCell (by simp) _, by have := Blk.set HB.out 3 (.bool true); simpa [IsH] using this⟩
    · rw [if_neg (by simp)]
      go_enter Try.func34, Try.ntmps34
      go_wp2
      go_ret
      exact ⟨rfl, Only.refl _ _, HB.out⟩
  · have e1 : (st != 2) = true := by simpa using e
    rw [if_neg (by simp [e])]
    clear e
    go_enter Try.func34, Try.ntmps34
    go_wp2
    go_ret
    exact ⟨rfl, Only.refl _ _, HB.out⟩

theorem tholder_at (w : World) (a : Int) (h0 : 0 ≤ a) (h1 : a ≤ 65000) : Calls Try.prog 43 #[.agg #[.int .i64 a]] w fun e w' => ∃ b, e = .returned (.pointer (some ⟨b, 0, none⟩)) ∧ w.heap.size ≤ b ∧ Only [] w w' ∧ IsH w' b ⟨a, 0, 0, false⟩ := by
  go_enter Try.func43, Try.ntmps43
  go_wp2
  go_ret
  exact ⟨_, rfl, Nat.le_succ _, ((Only.refl _ _).alloc _).alloc _, Blk.new' _ _ _ (by simp)⟩

theorem tholder_bad (w : World) (a : Int) (h : a < 0) : Calls Try.prog 43 #[.agg #[.int .i64 a]] w fun e w' => e = .returned (.pointer none) ∧ Only [] w w' := by
  go_enter Try.func43, Try.ntmps43
  go_wp2
  go_ret
  exact ⟨rfl, (Only.refl _ _).alloc _⟩

end Go.Proofs.Ytabbnfodolekpaa
