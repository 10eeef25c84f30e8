/- The document's task on a deque: its slot, its end, its acts. Written by rtgen.py. -/
import Derived.Test.YtoecoijmkjhkgaaDeq8
import Derived.Test.YtoecoijmkjhkgaaRef2
import Derived.Deep.RegionWith
namespace Go.Proofs.Ytoecoijmkjhkgaa
open Go.RowKit

def rtCells (at_ : Int) (n : Nat) (k : Int) (v turn top bot : Int) (got done has : Bool) : Array Value := #[.int .i64 at_, .int .i64 n, .int .i64 k, .int .u64 v, .int .i64 turn, .int .u64 top, .int .u64 bot, .bool got, .bool done, .bool has]

/-- At block b lies a matryoshkaref07.Task that stands as s. -/
def IsRT (w : World) (b : Nat) (s : DQ) : Prop := ∃ turn, Blk w b 86 (rtCells s.at_ s.n s.k s.v turn s.top s.bot s.got s.done s.has) ∧ s.ok ∧ (s.done = false → turn = s.turn)

theorem IsRT.only {w w' : World} {b : Nat} {s : DQ} {S : List Nat} (h : IsRT w b s) (o : Only S w w') (hb : b ∉ S) : IsRT w' b s := by
  obtain ⟨t, h1, h2⟩ := h
  exact ⟨t, h1.only o hb, h2⟩

set_option maxRecDepth 100000 in
theorem rtslot_at (w : World) (b : Nat) (at_ pos : Int) (n : Nat) (a0 : 0 ≤ at_) (a1 : at_ ≤ 65000) (n1 : 1 ≤ n) (n64 : n ≤ 64) (p0 : 0 ≤ pos) (q0 : w.cell? ⟨b, 0, none⟩ = some (.int .i64 at_)) (q1 : w.cell? ⟨b, 1, none⟩ = some (.int .i64 n)) :
    Calls Try.prog 82 #[.pointer (some ⟨b, 0, none⟩), .int .u64 pos] w fun e w' => e = .returned (.int .i64 (at_ + dslot n pos)) ∧ w' = w.drew := by
  have r0 := Int.emod_nonneg pos (show (n : Int) ≠ 0 by omega)
  have r1 := Int.emod_lt_of_pos pos (show (0 : Int) < n by omega)
  unfold dslot
  obtain ⟨r, hr⟩ : ∃ r, pos % (n : Int) = r := ⟨_, rfl⟩
  rw [hr] at r0 r1 ⊢
  rw [show at_ + (2 + r) = at_ + 2 + r by omega]
  have h1 : IntKind.u64.wrap (n : Int) = n := by rw [IntKind.wrap_u64]; omega
  have h2 : pos.tmod (n : Int) = r := by rw [Int.tmod_eq_emod_of_nonneg p0]; exact hr
  have h3 : IntKind.i64.wrap r = r := dwrap _ (by omega) (by omega)
  have h5 : IntKind.i64.wrap (at_ + 2) = at_ + 2 := dwrap _ (by omega) (by omega)
  have h6 : IntKind.i64.wrap (at_ + 2 + r) = at_ + 2 + r := dwrap _ (by omega) (by omega)
  have h7 : ¬ (n : Int) = 0 := by omega
  clear hr
  go_enter Try.func82, Try.ntmps82
  go_wp2
  go_region
  all_goals
    go_wp2
    go_ret
    exact ⟨rfl, rfl⟩

theorem rtend_at (w : World) (b : Nat) (x : Bool) (u v : Value) (c3 : w.cell? ⟨b, 8, none⟩ = some u) (c4 : w.cell? ⟨b, 9, none⟩ = some v) (f3 : w.frozen? ⟨b, 8, none⟩ = false) (f4 : w.frozen? ⟨b, 9, none⟩ = false) :
    Calls Try.prog 66 #[.pointer (some ⟨b, 0, none⟩), .bool x] w fun e w' => e = .returned (.tuple #[]) ∧ w' = (w.setCell ⟨b, 8, none⟩ (.bool true)).setCell ⟨b, 9, none⟩ (.bool x) := by
  go_enter Try.func66, Try.ntmps66
  go_wp2
  refine bodyPost_end (v := .tuple #[]) (by simp [results, Try.results66, go_sem]) rfl ⟨rfl, rfl⟩

set_option maxHeartbeats 1000000 in
set_option maxRecDepth 100000 in
theorem rtact_push0 (w : World) (b n : Nat) (at_ v top bot : Int) (got has : Bool) (h : DQ.ok ⟨at_, n, 0, 0, has, false, v, top, bot, got⟩) (hb' : Blk w b 86 (rtCells at_ n 0 v 0 top bot got false has)) :
    Calls Try.prog 62 #[.pointer (some ⟨b, 0, none⟩)] w fun e w' => e = .returned (.agg #[.int .i64 1, .int .i64 (at_ + 1), .int .u64 0, .int .u64 0]) ∧ Only [] w w' := by
  have hb := hb'.alloc (.cells #[.int .i64 0, .int .i64 0, .int .u64 0, .int .u64 0] 74)
  have c0 := hb.at 0 (v := .int .i64 at_) rfl
  have c1 := hb.at 1 (v := .int .i64 n) rfl
  have c2 := hb.at 2 (v := .int .i64 0) rfl
  have c3 := hb.at 3 (v := .int .u64 v) rfl
  have c4 := hb.at 4 (v := .int .i64 0) rfl
  have c5 := hb.at 5 (v := .int .u64 top) rfl
  have c6 := hb.at 6 (v := .int .u64 bot) rfl
  have c7 := hb.at 7 (v := .bool got) rfl
  have c8 := hb.at 8 (v := .bool false) rfl
  have c9 := hb.at 9 (v := .bool has) rfl
  have hlt := hb'.lt
  have a0 : 0 ≤ at_ := h.a0
  have a1 : at_ ≤ 65000 := h.a1
  have n1 : 1 ≤ n := h.n1
  have n64 : n ≤ 64 := h.n64
  have b0' : 0 ≤ bot := h.b0
  have t0' : 0 ≤ top := h.t0
  have hsr := dslot_range n bot n1 n64
  have h5 : IntKind.i64.wrap (at_ + 1) = at_ + 1 := dwrap _ (by omega) (by omega)
  clear hb hb' h
  go_enter Try.func62, Try.ntmps62
  go_wp2_with fail
  all_goals
    refine bodyPost_ret (v := .agg #[.int .i64 1, .int .i64 (at_ + 1), .int .u64 0, .int .u64 0]) (by simp [results, Try.results62, go_sem]) rfl ⟨rfl, ?_⟩
    repeat (first | exact Only.refl _ _ | apply Only.alloc | apply Only.drew | refine Only.setCell ?_ (.inr (Nat.le_refl _)) _)

set_option maxHeartbeats 1000000 in
set_option maxRecDepth 100000 in
theorem rtact_push1 (w : World) (b n : Nat) (at_ v top bot : Int) (got has : Bool) (h : DQ.ok ⟨at_, n, 0, 1, has, false, v, top, bot, got⟩) (hb' : Blk w b 86 (rtCells at_ n 0 v 1 top bot got false has)) :
    Calls Try.prog 62 #[.pointer (some ⟨b, 0, none⟩)] w fun e w' => e = .returned (.agg #[.int .i64 1, .int .i64 at_, .int .u64 0, .int .u64 0]) ∧ Only [] w w' := by
  have hb := hb'.alloc (.cells #[.int .i64 0, .int .i64 0, .int .u64 0, .int .u64 0] 74)
  have c0 := hb.at 0 (v := .int .i64 at_) rfl
  have c1 := hb.at 1 (v := .int .i64 n) rfl
  have c2 := hb.at 2 (v := .int .i64 0) rfl
  have c3 := hb.at 3 (v := .int .u64 v) rfl
  have c4 := hb.at 4 (v := .int .i64 1) rfl
  have c5 := hb.at 5 (v := .int .u64 top) rfl
  have c6 := hb.at 6 (v := .int .u64 bot) rfl
  have c7 := hb.at 7 (v := .bool got) rfl
  have c8 := hb.at 8 (v := .bool false) rfl
  have c9 := hb.at 9 (v := .bool has) rfl
  have hlt := hb'.lt
  have a0 : 0 ≤ at_ := h.a0
  have a1 : at_ ≤ 65000 := h.a1
  have n1 : 1 ≤ n := h.n1
  have n64 : n ≤ 64 := h.n64
  have b0' : 0 ≤ bot := h.b0
  have t0' : 0 ≤ top := h.t0
  have hsr := dslot_range n bot n1 n64
  have h5 : IntKind.i64.wrap (at_ + 1) = at_ + 1 := dwrap _ (by omega) (by omega)
  clear hb hb' h
  go_enter Try.func62, Try.ntmps62
  go_wp2_with fail
  all_goals
    refine bodyPost_ret (v := .agg #[.int .i64 1, .int .i64 at_, .int .u64 0, .int .u64 0]) (by simp [results, Try.results62, go_sem]) rfl ⟨rfl, ?_⟩
    repeat (first | exact Only.refl _ _ | apply Only.alloc | apply Only.drew | refine Only.setCell ?_ (.inr (Nat.le_refl _)) _)

set_option maxHeartbeats 1000000 in
set_option maxRecDepth 100000 in
theorem rtact_push2 (w : World) (b n : Nat) (at_ v top bot : Int) (got has : Bool) (h : DQ.ok ⟨at_, n, 0, 2, has, false, v, top, bot, got⟩) (hb' : Blk w b 86 (rtCells at_ n 0 v 2 top bot got false has)) :
    Calls Try.prog 62 #[.pointer (some ⟨b, 0, none⟩)] w fun e w' => e = .returned (.agg #[.int .i64 2, .int .i64 (at_ + dslot n bot), .int .u64 v, .int .u64 0]) ∧ Only [] w w' := by
  have hb := hb'.alloc (.cells #[.int .i64 0, .int .i64 0, .int .u64 0, .int .u64 0] 74)
  have c0 := hb.at 0 (v := .int .i64 at_) rfl
  have c1 := hb.at 1 (v := .int .i64 n) rfl
  have c2 := hb.at 2 (v := .int .i64 0) rfl
  have c3 := hb.at 3 (v := .int .u64 v) rfl
  have c4 := hb.at 4 (v := .int .i64 2) rfl
  have c5 := hb.at 5 (v := .int .u64 top) rfl
  have c6 := hb.at 6 (v := .int .u64 bot) rfl
  have c7 := hb.at 7 (v := .bool got) rfl
  have c8 := hb.at 8 (v := .bool false) rfl
  have c9 := hb.at 9 (v := .bool has) rfl
  have hlt := hb'.lt
  have a0 : 0 ≤ at_ := h.a0
  have a1 : at_ ≤ 65000 := h.a1
  have n1 : 1 ≤ n := h.n1
  have n64 : n ≤ 64 := h.n64
  have b0' : 0 ≤ bot := h.b0
  have t0' : 0 ≤ top := h.t0
  have hsr := dslot_range n bot n1 n64
  have h5 : IntKind.i64.wrap (at_ + 1) = at_ + 1 := dwrap _ (by omega) (by omega)
  clear hb hb' h
  go_enter Try.func62, Try.ntmps62
  go_wp2_with fail
  go_region_with (go_at_call 82; refine Calls.mono (rtslot_at _ b at_ bot n a0 a1 n1 n64 b0' ?q0 ?q1) ?_; (case q0 => exact c0); (case q1 => exact c1); rintro e w7 ⟨rfl, rfl⟩)
  all_goals go_wp2_with fail
  all_goals
    refine bodyPost_ret (v := .agg #[.int .i64 2, .int .i64 (at_ + dslot n bot), .int .u64 v, .int .u64 0]) (by simp [results, Try.results62, go_sem]) rfl ⟨rfl, ?_⟩
    repeat (first | exact Only.refl _ _ | apply Only.alloc | apply Only.drew | refine Only.setCell ?_ (.inr (Nat.le_refl _)) _)

set_option maxHeartbeats 1000000 in
set_option maxRecDepth 100000 in
theorem rtact_push3 (w : World) (b n : Nat) (at_ v top bot : Int) (got has : Bool) (h : DQ.ok ⟨at_, n, 0, 3, has, false, v, top, bot, got⟩) (hb' : Blk w b 86 (rtCells at_ n 0 v 3 top bot got false has)) :
    Calls Try.prog 62 #[.pointer (some ⟨b, 0, none⟩)] w fun e w' => e = .returned (.agg #[.int .i64 2, .int .i64 (at_ + 1), .int .u64 (IntKind.u64.wrap (bot + 1)), .int .u64 0]) ∧ Only [] w w' := by
  have hb := hb'.alloc (.cells #[.int .i64 0, .int .i64 0, .int .u64 0, .int .u64 0] 74)
  have c0 := hb.at 0 (v := .int .i64 at_) rfl
  have c1 := hb.at 1 (v := .int .i64 n) rfl
  have c2 := hb.at 2 (v := .int .i64 0) rfl
  have c3 := hb.at 3 (v := .int .u64 v) rfl
  have c4 := hb.at 4 (v := .int .i64 3) rfl
  have c5 := hb.at 5 (v := .int .u64 top) rfl
  have c6 := hb.at 6 (v := .int .u64 bot) rfl
  have c7 := hb.at 7 (v := .bool got) rfl
  have c8 := hb.at 8 (v := .bool false) rfl
  have c9 := hb.at 9 (v := .bool has) rfl
  have hlt := hb'.lt
  have a0 : 0 ≤ at_ := h.a0
  have a1 : at_ ≤ 65000 := h.a1
  have n1 : 1 ≤ n := h.n1
  have n64 : n ≤ 64 := h.n64
  have b0' : 0 ≤ bot := h.b0
  have t0' : 0 ≤ top := h.t0
  have hsr := dslot_range n bot n1 n64
  have h5 : IntKind.i64.wrap (at_ + 1) = at_ + 1 := dwrap _ (by omega) (by omega)
  clear hb hb' h
  go_enter Try.func62, Try.ntmps62
  go_wp2_with fail
  go_region
  all_goals go_wp2_with fail
  all_goals
    refine bodyPost_ret (v := .agg #[.int .i64 2, .int .i64 (at_ + 1), .int .u64 (IntKind.u64.wrap (bot + 1)), .int .u64 0]) (by simp [results, Try.results62, go_sem]) rfl ⟨rfl, ?_⟩
    repeat (first | exact Only.refl _ _ | apply Only.alloc | apply Only.drew | refine Only.setCell ?_ (.inr (Nat.le_refl _)) _)

set_option maxHeartbeats 1000000 in
set_option maxRecDepth 100000 in
theorem rtact_pop0 (w : World) (b n : Nat) (at_ v top bot : Int) (got has : Bool) (h : DQ.ok ⟨at_, n, 1, 0, has, false, v, top, bot, got⟩) (hb' : Blk w b 86 (rtCells at_ n 1 v 0 top bot got false has)) :
    Calls Try.prog 63 #[.pointer (some ⟨b, 0, none⟩)] w fun e w' => e = .returned (.agg #[.int .i64 1, .int .i64 (at_ + 1), .int .u64 0, .int .u64 0]) ∧ Only [] w w' := by
  have hb := hb'.alloc (.cells #[.int .i64 0, .int .i64 0, .int .u64 0, .int .u64 0] 74)
  have c0 := hb.at 0 (v := .int .i64 at_) rfl
  have c1 := hb.at 1 (v := .int .i64 n) rfl
  have c2 := hb.at 2 (v := .int .i64 1) rfl
  have c3 := hb.at 3 (v := .int .u64 v) rfl
  have c4 := hb.at 4 (v := .int .i64 0) rfl
  have c5 := hb.at 5 (v := .int .u64 top) rfl
  have c6 := hb.at 6 (v := .int .u64 bot) rfl
  have c7 := hb.at 7 (v := .bool got) rfl
  have c8 := hb.at 8 (v := .bool false) rfl
  have c9 := hb.at 9 (v := .bool has) rfl
  have hlt := hb'.lt
  have a0 : 0 ≤ at_ := h.a0
  have a1 : at_ ≤ 65000 := h.a1
  have n1 : 1 ≤ n := h.n1
  have n64 : n ≤ 64 := h.n64
  have b0' : 0 ≤ bot := h.b0
  have t0' : 0 ≤ top := h.t0
  have hsr := dslot_range n bot n1 n64
  have h5 : IntKind.i64.wrap (at_ + 1) = at_ + 1 := dwrap _ (by omega) (by omega)
  clear hb hb' h
  go_enter Try.func63, Try.ntmps63
  go_wp2_with fail
  all_goals
    refine bodyPost_ret (v := .agg #[.int .i64 1, .int .i64 (at_ + 1), .int .u64 0, .int .u64 0]) (by simp [results, Try.results63, go_sem]) rfl ⟨rfl, ?_⟩
    repeat (first | exact Only.refl _ _ | apply Only.alloc | apply Only.drew | refine Only.setCell ?_ (.inr (Nat.le_refl _)) _)

set_option maxHeartbeats 1000000 in
set_option maxRecDepth 100000 in
theorem rtact_pop1 (w : World) (b n : Nat) (at_ v top bot : Int) (got has : Bool) (h : DQ.ok ⟨at_, n, 1, 1, has, false, v, top, bot, got⟩) (hb' : Blk w b 86 (rtCells at_ n 1 v 1 top bot got false has)) :
    Calls Try.prog 63 #[.pointer (some ⟨b, 0, none⟩)] w fun e w' => e = .returned (.agg #[.int .i64 2, .int .i64 (at_ + 1), .int .u64 bot, .int .u64 0]) ∧ Only [] w w' := by
  have hb := hb'.alloc (.cells #[.int .i64 0, .int .i64 0, .int .u64 0, .int .u64 0] 74)
  have c0 := hb.at 0 (v := .int .i64 at_) rfl
  have c1 := hb.at 1 (v := .int .i64 n) rfl
  have c2 := hb.at 2 (v := .int .i64 1) rfl
  have c3 := hb.at 3 (v := .int .u64 v) rfl
  have c4 := hb.at 4 (v := .int .i64 1) rfl
  have c5 := hb.at 5 (v := .int .u64 top) rfl
  have c6 := hb.at 6 (v := .int .u64 bot) rfl
  have c7 := hb.at 7 (v := .bool got) rfl
  have c8 := hb.at 8 (v := .bool false) rfl
  have c9 := hb.at 9 (v := .bool has) rfl
  have hlt := hb'.lt
  have a0 : 0 ≤ at_ := h.a0
  have a1 : at_ ≤ 65000 := h.a1
  have n1 : 1 ≤ n := h.n1
  have n64 : n ≤ 64 := h.n64
  have b0' : 0 ≤ bot := h.b0
  have t0' : 0 ≤ top := h.t0
  have hsr := dslot_range n bot n1 n64
  have h5 : IntKind.i64.wrap (at_ + 1) = at_ + 1 := dwrap _ (by omega) (by omega)
  clear hb hb' h
  go_enter Try.func63, Try.ntmps63
  go_wp2_with fail
  go_region
  all_goals go_wp2_with fail
  all_goals
    refine bodyPost_ret (v := .agg #[.int .i64 2, .int .i64 (at_ + 1), .int .u64 bot, .int .u64 0]) (by simp [results, Try.results63, go_sem]) rfl ⟨rfl, ?_⟩
    repeat (first | exact Only.refl _ _ | apply Only.alloc | apply Only.drew | refine Only.setCell ?_ (.inr (Nat.le_refl _)) _)

set_option maxHeartbeats 1000000 in
set_option maxRecDepth 100000 in
theorem rtact_pop2 (w : World) (b n : Nat) (at_ v top bot : Int) (got has : Bool) (h : DQ.ok ⟨at_, n, 1, 2, has, false, v, top, bot, got⟩) (hb' : Blk w b 86 (rtCells at_ n 1 v 2 top bot got false has)) :
    Calls Try.prog 63 #[.pointer (some ⟨b, 0, none⟩)] w fun e w' => e = .returned (.agg #[.int .i64 1, .int .i64 at_, .int .u64 0, .int .u64 0]) ∧ Only [] w w' := by
  have hb := hb'.alloc (.cells #[.int .i64 0, .int .i64 0, .int .u64 0, .int .u64 0] 74)
  have c0 := hb.at 0 (v := .int .i64 at_) rfl
  have c1 := hb.at 1 (v := .int .i64 n) rfl
  have c2 := hb.at 2 (v := .int .i64 1) rfl
  have c3 := hb.at 3 (v := .int .u64 v) rfl
  have c4 := hb.at 4 (v := .int .i64 2) rfl
  have c5 := hb.at 5 (v := .int .u64 top) rfl
  have c6 := hb.at 6 (v := .int .u64 bot) rfl
  have c7 := hb.at 7 (v := .bool got) rfl
  have c8 := hb.at 8 (v := .bool false) rfl
  have c9 := hb.at 9 (v := .bool has) rfl
  have hlt := hb'.lt
  have a0 : 0 ≤ at_ := h.a0
  have a1 : at_ ≤ 65000 := h.a1
  have n1 : 1 ≤ n := h.n1
  have n64 : n ≤ 64 := h.n64
  have b0' : 0 ≤ bot := h.b0
  have t0' : 0 ≤ top := h.t0
  have hsr := dslot_range n bot n1 n64
  have h5 : IntKind.i64.wrap (at_ + 1) = at_ + 1 := dwrap _ (by omega) (by omega)
  clear hb hb' h
  go_enter Try.func63, Try.ntmps63
  go_wp2_with fail
  all_goals
    refine bodyPost_ret (v := .agg #[.int .i64 1, .int .i64 at_, .int .u64 0, .int .u64 0]) (by simp [results, Try.results63, go_sem]) rfl ⟨rfl, ?_⟩
    repeat (first | exact Only.refl _ _ | apply Only.alloc | apply Only.drew | refine Only.setCell ?_ (.inr (Nat.le_refl _)) _)

set_option maxHeartbeats 1000000 in
set_option maxRecDepth 100000 in
theorem rtact_pop3 (w : World) (b n : Nat) (at_ v top bot : Int) (got has : Bool) (h : DQ.ok ⟨at_, n, 1, 3, has, false, v, top, bot, got⟩) (hb' : Blk w b 86 (rtCells at_ n 1 v 3 top bot got false has)) :
    Calls Try.prog 63 #[.pointer (some ⟨b, 0, none⟩)] w fun e w' => e = .returned (.agg #[.int .i64 1, .int .i64 (at_ + dslot n bot), .int .u64 0, .int .u64 0]) ∧ Only [] w w' := by
  have hb := hb'.alloc (.cells #[.int .i64 0, .int .i64 0, .int .u64 0, .int .u64 0] 74)
  have c0 := hb.at 0 (v := .int .i64 at_) rfl
  have c1 := hb.at 1 (v := .int .i64 n) rfl
  have c2 := hb.at 2 (v := .int .i64 1) rfl
  have c3 := hb.at 3 (v := .int .u64 v) rfl
  have c4 := hb.at 4 (v := .int .i64 3) rfl
  have c5 := hb.at 5 (v := .int .u64 top) rfl
  have c6 := hb.at 6 (v := .int .u64 bot) rfl
  have c7 := hb.at 7 (v := .bool got) rfl
  have c8 := hb.at 8 (v := .bool false) rfl
  have c9 := hb.at 9 (v := .bool has) rfl
  have hlt := hb'.lt
  have a0 : 0 ≤ at_ := h.a0
  have a1 : at_ ≤ 65000 := h.a1
  have n1 : 1 ≤ n := h.n1
  have n64 : n ≤ 64 := h.n64
  have b0' : 0 ≤ bot := h.b0
  have t0' : 0 ≤ top := h.t0
  have hsr := dslot_range n bot n1 n64
  have h5 : IntKind.i64.wrap (at_ + 1) = at_ + 1 := dwrap _ (by omega) (by omega)
  clear hb hb' h
  go_enter Try.func63, Try.ntmps63
  go_wp2_with fail
  refine Calls.mono (rtslot_at _ b at_ bot n a0 a1 n1 n64 b0' ?q0 ?q1) ?_
  case q0 => exact c0
  case q1 => exact c1
  rintro e w7 ⟨rfl, rfl⟩
  go_wp2_with fail
  all_goals
    refine bodyPost_ret (v := .agg #[.int .i64 1, .int .i64 (at_ + dslot n bot), .int .u64 0, .int .u64 0]) (by simp [results, Try.results63, go_sem]) rfl ⟨rfl, ?_⟩
    repeat (first | exact Only.refl _ _ | apply Only.alloc | apply Only.drew | refine Only.setCell ?_ (.inr (Nat.le_refl _)) _)

set_option maxHeartbeats 1000000 in
set_option maxRecDepth 100000 in
theorem rtact_pop4 (w : World) (b n : Nat) (at_ v top bot : Int) (got has : Bool) (h : DQ.ok ⟨at_, n, 1, 4, has, false, v, top, bot, got⟩) (hb' : Blk w b 86 (rtCells at_ n 1 v 4 top bot got false has)) :
    Calls Try.prog 63 #[.pointer (some ⟨b, 0, none⟩)] w fun e w' => e = .returned (.agg #[.int .i64 3, .int .i64 at_, .int .u64 top, .int .u64 (IntKind.u64.wrap (top + 1))]) ∧ Only [] w w' := by
  have hb := hb'.alloc (.cells #[.int .i64 0, .int .i64 0, .int .u64 0, .int .u64 0] 74)
  have c0 := hb.at 0 (v := .int .i64 at_) rfl
  have c1 := hb.at 1 (v := .int .i64 n) rfl
  have c2 := hb.at 2 (v := .int .i64 1) rfl
  have c3 := hb.at 3 (v := .int .u64 v) rfl
  have c4 := hb.at 4 (v := .int .i64 4) rfl
  have c5 := hb.at 5 (v := .int .u64 top) rfl
  have c6 := hb.at 6 (v := .int .u64 bot) rfl
  have c7 := hb.at 7 (v := .bool got) rfl
  have c8 := hb.at 8 (v := .bool false) rfl
  have c9 := hb.at 9 (v := .bool has) rfl
  have hlt := hb'.lt
  have a0 : 0 ≤ at_ := h.a0
  have a1 : at_ ≤ 65000 := h.a1
  have n1 : 1 ≤ n := h.n1
  have n64 : n ≤ 64 := h.n64
  have b0' : 0 ≤ bot := h.b0
  have t0' : 0 ≤ top := h.t0
  have hsr := dslot_range n bot n1 n64
  have h5 : IntKind.i64.wrap (at_ + 1) = at_ + 1 := dwrap _ (by omega) (by omega)
  clear hb hb' h
  go_enter Try.func63, Try.ntmps63
  go_wp2_with fail
  go_region
  all_goals go_wp2_with fail
  all_goals
    refine bodyPost_ret (v := .agg #[.int .i64 3, .int .i64 at_, .int .u64 top, .int .u64 (IntKind.u64.wrap (top + 1))]) (by simp [results, Try.results63, go_sem]) rfl ⟨rfl, ?_⟩
    repeat (first | exact Only.refl _ _ | apply Only.alloc | apply Only.drew | refine Only.setCell ?_ (.inr (Nat.le_refl _)) _)

set_option maxHeartbeats 1000000 in
set_option maxRecDepth 100000 in
theorem rtact_pop5 (w : World) (b n : Nat) (at_ v top bot : Int) (got has : Bool) (h : DQ.ok ⟨at_, n, 1, 5, has, false, v, top, bot, got⟩) (hb' : Blk w b 86 (rtCells at_ n 1 v 5 top bot got false has)) :
    Calls Try.prog 63 #[.pointer (some ⟨b, 0, none⟩)] w fun e w' => e = .returned (.agg #[.int .i64 2, .int .i64 (at_ + 1), .int .u64 (IntKind.u64.wrap (bot + 1)), .int .u64 0]) ∧ Only [] w w' := by
  have hb := hb'.alloc (.cells #[.int .i64 0, .int .i64 0, .int .u64 0, .int .u64 0] 74)
  have c0 := hb.at 0 (v := .int .i64 at_) rfl
  have c1 := hb.at 1 (v := .int .i64 n) rfl
  have c2 := hb.at 2 (v := .int .i64 1) rfl
  have c3 := hb.at 3 (v := .int .u64 v) rfl
  have c4 := hb.at 4 (v := .int .i64 5) rfl
  have c5 := hb.at 5 (v := .int .u64 top) rfl
  have c6 := hb.at 6 (v := .int .u64 bot) rfl
  have c7 := hb.at 7 (v := .bool got) rfl
  have c8 := hb.at 8 (v := .bool false) rfl
  have c9 := hb.at 9 (v := .bool has) rfl
  have hlt := hb'.lt
  have a0 : 0 ≤ at_ := h.a0
  have a1 : at_ ≤ 65000 := h.a1
  have n1 : 1 ≤ n := h.n1
  have n64 : n ≤ 64 := h.n64
  have b0' : 0 ≤ bot := h.b0
  have t0' : 0 ≤ top := h.t0
  have hsr := dslot_range n bot n1 n64
  have h5 : IntKind.i64.wrap (at_ + 1) = at_ + 1 := dwrap _ (by omega) (by omega)
  clear hb hb' h
  go_enter Try.func63, Try.ntmps63
  go_wp2_with fail
  go_region
  all_goals go_wp2_with fail
  all_goals
    refine bodyPost_ret (v := .agg #[.int .i64 2, .int .i64 (at_ + 1), .int .u64 (IntKind.u64.wrap (bot + 1)), .int .u64 0]) (by simp [results, Try.results63, go_sem]) rfl ⟨rfl, ?_⟩
    repeat (first | exact Only.refl _ _ | apply Only.alloc | apply Only.drew | refine Only.setCell ?_ (.inr (Nat.le_refl _)) _)

set_option maxHeartbeats 1000000 in
set_option maxRecDepth 100000 in
theorem rtact_steal0 (w : World) (b n : Nat) (at_ v top bot : Int) (got has : Bool) (h : DQ.ok ⟨at_, n, 2, 0, has, false, v, top, bot, got⟩) (hb' : Blk w b 86 (rtCells at_ n 2 v 0 top bot got false has)) :
    Calls Try.prog 64 #[.pointer (some ⟨b, 0, none⟩)] w fun e w' => e = .returned (.agg #[.int .i64 1, .int .i64 at_, .int .u64 0, .int .u64 0]) ∧ Only [] w w' := by
  have hb := hb'.alloc (.cells #[.int .i64 0, .int .i64 0, .int .u64 0, .int .u64 0] 74)
  have c0 := hb.at 0 (v := .int .i64 at_) rfl
  have c1 := hb.at 1 (v := .int .i64 n) rfl
  have c2 := hb.at 2 (v := .int .i64 2) rfl
  have c3 := hb.at 3 (v := .int .u64 v) rfl
  have c4 := hb.at 4 (v := .int .i64 0) rfl
  have c5 := hb.at 5 (v := .int .u64 top) rfl
  have c6 := hb.at 6 (v := .int .u64 bot) rfl
  have c7 := hb.at 7 (v := .bool got) rfl
  have c8 := hb.at 8 (v := .bool false) rfl
  have c9 := hb.at 9 (v := .bool has) rfl
  have hlt := hb'.lt
  have a0 : 0 ≤ at_ := h.a0
  have a1 : at_ ≤ 65000 := h.a1
  have n1 : 1 ≤ n := h.n1
  have n64 : n ≤ 64 := h.n64
  have b0' : 0 ≤ bot := h.b0
  have t0' : 0 ≤ top := h.t0
  have hsr := dslot_range n top n1 n64
  have h5 : IntKind.i64.wrap (at_ + 1) = at_ + 1 := dwrap _ (by omega) (by omega)
  clear hb hb' h
  go_enter Try.func64, Try.ntmps64
  go_wp2_with fail
  all_goals
    refine bodyPost_ret (v := .agg #[.int .i64 1, .int .i64 at_, .int .u64 0, .int .u64 0]) (by simp [results, Try.results64, go_sem]) rfl ⟨rfl, ?_⟩
    repeat (first | exact Only.refl _ _ | apply Only.alloc | apply Only.drew | refine Only.setCell ?_ (.inr (Nat.le_refl _)) _)

set_option maxHeartbeats 1000000 in
set_option maxRecDepth 100000 in
theorem rtact_steal1 (w : World) (b n : Nat) (at_ v top bot : Int) (got has : Bool) (h : DQ.ok ⟨at_, n, 2, 1, has, false, v, top, bot, got⟩) (hb' : Blk w b 86 (rtCells at_ n 2 v 1 top bot got false has)) :
    Calls Try.prog 64 #[.pointer (some ⟨b, 0, none⟩)] w fun e w' => e = .returned (.agg #[.int .i64 1, .int .i64 (at_ + 1), .int .u64 0, .int .u64 0]) ∧ Only [] w w' := by
  have hb := hb'.alloc (.cells #[.int .i64 0, .int .i64 0, .int .u64 0, .int .u64 0] 74)
  have c0 := hb.at 0 (v := .int .i64 at_) rfl
  have c1 := hb.at 1 (v := .int .i64 n) rfl
  have c2 := hb.at 2 (v := .int .i64 2) rfl
  have c3 := hb.at 3 (v := .int .u64 v) rfl
  have c4 := hb.at 4 (v := .int .i64 1) rfl
  have c5 := hb.at 5 (v := .int .u64 top) rfl
  have c6 := hb.at 6 (v := .int .u64 bot) rfl
  have c7 := hb.at 7 (v := .bool got) rfl
  have c8 := hb.at 8 (v := .bool false) rfl
  have c9 := hb.at 9 (v := .bool has) rfl
  have hlt := hb'.lt
  have a0 : 0 ≤ at_ := h.a0
  have a1 : at_ ≤ 65000 := h.a1
  have n1 : 1 ≤ n := h.n1
  have n64 : n ≤ 64 := h.n64
  have b0' : 0 ≤ bot := h.b0
  have t0' : 0 ≤ top := h.t0
  have hsr := dslot_range n top n1 n64
  have h5 : IntKind.i64.wrap (at_ + 1) = at_ + 1 := dwrap _ (by omega) (by omega)
  clear hb hb' h
  go_enter Try.func64, Try.ntmps64
  go_wp2_with fail
  all_goals
    refine bodyPost_ret (v := .agg #[.int .i64 1, .int .i64 (at_ + 1), .int .u64 0, .int .u64 0]) (by simp [results, Try.results64, go_sem]) rfl ⟨rfl, ?_⟩
    repeat (first | exact Only.refl _ _ | apply Only.alloc | apply Only.drew | refine Only.setCell ?_ (.inr (Nat.le_refl _)) _)

set_option maxHeartbeats 1000000 in
set_option maxRecDepth 100000 in
theorem rtact_steal2 (w : World) (b n : Nat) (at_ v top bot : Int) (got has : Bool) (h : DQ.ok ⟨at_, n, 2, 2, has, false, v, top, bot, got⟩) (hb' : Blk w b 86 (rtCells at_ n 2 v 2 top bot got false has)) :
    Calls Try.prog 64 #[.pointer (some ⟨b, 0, none⟩)] w fun e w' => e = .returned (.agg #[.int .i64 1, .int .i64 (at_ + dslot n top), .int .u64 0, .int .u64 0]) ∧ Only [] w w' := by
  have hb := hb'.alloc (.cells #[.int .i64 0, .int .i64 0, .int .u64 0, .int .u64 0] 74)
  have c0 := hb.at 0 (v := .int .i64 at_) rfl
  have c1 := hb.at 1 (v := .int .i64 n) rfl
  have c2 := hb.at 2 (v := .int .i64 2) rfl
  have c3 := hb.at 3 (v := .int .u64 v) rfl
  have c4 := hb.at 4 (v := .int .i64 2) rfl
  have c5 := hb.at 5 (v := .int .u64 top) rfl
  have c6 := hb.at 6 (v := .int .u64 bot) rfl
  have c7 := hb.at 7 (v := .bool got) rfl
  have c8 := hb.at 8 (v := .bool false) rfl
  have c9 := hb.at 9 (v := .bool has) rfl
  have hlt := hb'.lt
  have a0 : 0 ≤ at_ := h.a0
  have a1 : at_ ≤ 65000 := h.a1
  have n1 : 1 ≤ n := h.n1
  have n64 : n ≤ 64 := h.n64
  have b0' : 0 ≤ bot := h.b0
  have t0' : 0 ≤ top := h.t0
  have hsr := dslot_range n top n1 n64
  have h5 : IntKind.i64.wrap (at_ + 1) = at_ + 1 := dwrap _ (by omega) (by omega)
  clear hb hb' h
  go_enter Try.func64, Try.ntmps64
  go_wp2_with fail
  refine Calls.mono (rtslot_at _ b at_ top n a0 a1 n1 n64 t0' ?q0 ?q1) ?_
  case q0 => exact c0
  case q1 => exact c1
  rintro e w7 ⟨rfl, rfl⟩
  go_wp2_with fail
  all_goals
    refine bodyPost_ret (v := .agg #[.int .i64 1, .int .i64 (at_ + dslot n top), .int .u64 0, .int .u64 0]) (by simp [results, Try.results64, go_sem]) rfl ⟨rfl, ?_⟩
    repeat (first | exact Only.refl _ _ | apply Only.alloc | apply Only.drew | refine Only.setCell ?_ (.inr (Nat.le_refl _)) _)

set_option maxHeartbeats 1000000 in
set_option maxRecDepth 100000 in
theorem rtact_steal3 (w : World) (b n : Nat) (at_ v top bot : Int) (got has : Bool) (h : DQ.ok ⟨at_, n, 2, 3, has, false, v, top, bot, got⟩) (hb' : Blk w b 86 (rtCells at_ n 2 v 3 top bot got false has)) :
    Calls Try.prog 64 #[.pointer (some ⟨b, 0, none⟩)] w fun e w' => e = .returned (.agg #[.int .i64 3, .int .i64 at_, .int .u64 top, .int .u64 (IntKind.u64.wrap (top + 1))]) ∧ Only [] w w' := by
  have hb := hb'.alloc (.cells #[.int .i64 0, .int .i64 0, .int .u64 0, .int .u64 0] 74)
  have c0 := hb.at 0 (v := .int .i64 at_) rfl
  have c1 := hb.at 1 (v := .int .i64 n) rfl
  have c2 := hb.at 2 (v := .int .i64 2) rfl
  have c3 := hb.at 3 (v := .int .u64 v) rfl
  have c4 := hb.at 4 (v := .int .i64 3) rfl
  have c5 := hb.at 5 (v := .int .u64 top) rfl
  have c6 := hb.at 6 (v := .int .u64 bot) rfl
  have c7 := hb.at 7 (v := .bool got) rfl
  have c8 := hb.at 8 (v := .bool false) rfl
  have c9 := hb.at 9 (v := .bool has) rfl
  have hlt := hb'.lt
  have a0 : 0 ≤ at_ := h.a0
  have a1 : at_ ≤ 65000 := h.a1
  have n1 : 1 ≤ n := h.n1
  have n64 : n ≤ 64 := h.n64
  have b0' : 0 ≤ bot := h.b0
  have t0' : 0 ≤ top := h.t0
  have hsr := dslot_range n top n1 n64
  have h5 : IntKind.i64.wrap (at_ + 1) = at_ + 1 := dwrap _ (by omega) (by omega)
  clear hb hb' h
  go_enter Try.func64, Try.ntmps64
  go_wp2_with fail
  go_region
  all_goals go_wp2_with fail
  all_goals
    refine bodyPost_ret (v := .agg #[.int .i64 3, .int .i64 at_, .int .u64 top, .int .u64 (IntKind.u64.wrap (top + 1))]) (by simp [results, Try.results64, go_sem]) rfl ⟨rfl, ?_⟩
    repeat (first | exact Only.refl _ _ | apply Only.alloc | apply Only.drew | refine Only.setCell ?_ (.inr (Nat.le_refl _)) _)

end Go.Proofs.Ytoecoijmkjhkgaa
