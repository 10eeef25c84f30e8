/- The document's task on a deque: what it takes. Written by rtgen.py. -/
import Derived.Test.YtoecoijmkjhkgaaRT1
namespace Go.Proofs.Ytoecoijmkjhkgaa
open Go.RowKit

set_option maxHeartbeats 2000000 in
set_option maxRecDepth 100000 in
theorem rttook_push0 (w : World) (b n : Nat) (at_ v top bot x : Int) (got has : Bool) (_x0 : 0 ≤ x) (_x1 : x < 18446744073709551616) (h : DQ.ok ⟨at_, n, 0, 0, has, false, v, top, bot, got⟩) (hb : Blk w b 86 (rtCells at_ n 0 v 0 top bot got false has)) :
    Calls Try.prog 67 #[.pointer (some ⟨b, 0, none⟩), .int .u64 x] w fun e w' => e = .returned (.tuple #[]) ∧ Only [b] w w' ∧ Blk w' b 86 #[.int .i64 at_, .int .i64 n, .int .i64 0, .int .u64 v, .int .i64 1, .int .u64 top, .int .u64 x, .bool got, .bool false, .bool has] := by
  have HB := Lib.hid hb
  have d0 := hb.at 0 (v := .int .i64 at_) rfl
  have d1 := hb.at 1 (v := .int .i64 n) rfl
  have d2 := hb.at 2 (v := .int .i64 0) rfl
  have d3 := hb.at 3 (v := .int .u64 v) rfl
  have d4 := hb.at 4 (v := .int .i64 0) rfl
  have d5 := hb.at 5 (v := .int .u64 top) rfl
  have d6 := hb.at 6 (v := .int .u64 bot) rfl
  have d7 := hb.at 7 (v := .bool got) rfl
  have d8 := hb.at 8 (v := .bool false) rfl
  have d9 := hb.at 9 (v := .bool has) rfl
  have f3 := hb.frozen 3
  have f4 := hb.frozen 4
  have f5 := hb.frozen 5
  have f6 := hb.frozen 6
  have f7 := hb.frozen 7
  have f8 := hb.frozen 8
  have f9 := hb.frozen 9
  have a0 : 0 ≤ at_ := h.a0
  have a1 : at_ ≤ 65000 := h.a1
  have n1 : 1 ≤ n := h.n1
  have n64 : n ≤ 64 := h.n64
  have b0' : 0 ≤ bot := h.b0
  have t0' : 0 ≤ top := h.t0
  have hd1 : wrap64 (IntKind.u64.wrap (bot - x)) = dif bot x := rfl
  clear hb h
  go_enter Try.func67, Try.ntmps67
  go_wp2_with fail
  go_region
  all_goals
    go_wp2_with fail
    refine bodyPost_end (v := .tuple #[]) (by simp [results, Try.results67, go_sem]) rfl ⟨rfl, (Only.setCell (Only.setCell (Only.refl [b] w) (p := ⟨b, 6, none⟩) (by simp) (.int .u64 x)).drew (p := ⟨b, 4, none⟩) (by simp) (.int .i64 1)), (Blk.set ((Blk.set HB.out 6 (.int .u64 x)).only (Only.refl [] _).drew (by simp)) 4 (.int .i64 1))⟩

set_option maxHeartbeats 2000000 in
set_option maxRecDepth 100000 in
theorem rttook_push1y (w : World) (b n : Nat) (at_ v top bot x : Int) (got has : Bool) (_x0 : 0 ≤ x) (_x1 : x < 18446744073709551616) (hc : (n : Int) ≤ dif bot x) (h : DQ.ok ⟨at_, n, 0, 1, has, false, v, top, bot, got⟩) (hb : Blk w b 86 (rtCells at_ n 0 v 1 top bot got false has)) :
    Calls Try.prog 67 #[.pointer (some ⟨b, 0, none⟩), .int .u64 x] w fun e w' => e = .returned (.tuple #[]) ∧ Only [b] w w' ∧ Blk w' b 86 #[.int .i64 at_, .int .i64 n, .int .i64 0, .int .u64 v, .int .i64 1, .int .u64 top, .int .u64 bot, .bool got, .bool true, .bool false] := by
  have HB := Lib.hid hb
  have d0 := hb.at 0 (v := .int .i64 at_) rfl
  have d1 := hb.at 1 (v := .int .i64 n) rfl
  have d2 := hb.at 2 (v := .int .i64 0) rfl
  have d3 := hb.at 3 (v := .int .u64 v) rfl
  have d4 := hb.at 4 (v := .int .i64 1) rfl
  have d5 := hb.at 5 (v := .int .u64 top) rfl
  have d6 := hb.at 6 (v := .int .u64 bot) rfl
  have d7 := hb.at 7 (v := .bool got) rfl
  have d8 := hb.at 8 (v := .bool false) rfl
  have d9 := hb.at 9 (v := .bool has) rfl
  have f3 := hb.frozen 3
  have f4 := hb.frozen 4
  have f5 := hb.frozen 5
  have f6 := hb.frozen 6
  have f7 := hb.frozen 7
  have f8 := hb.frozen 8
  have f9 := hb.frozen 9
  have a0 : 0 ≤ at_ := h.a0
  have a1 : at_ ≤ 65000 := h.a1
  have n1 : 1 ≤ n := h.n1
  have n64 : n ≤ 64 := h.n64
  have b0' : 0 ≤ bot := h.b0
  have t0' : 0 ≤ top := h.t0
  have hd1 : wrap64 (IntKind.u64.wrap (bot - x)) = dif bot x := rfl
  clear hb h
  go_enter Try.func67, Try.ntmps67
  go_wp2_with fail
  go_region
  all_goals
    go_wp2_with fail
    refine (rtend_at _ b false (.bool false) (.bool has) (by first | exact d8 | exact HB.out.at 8 rfl) (by first | exact d9 | exact HB.out.at 9 rfl) (by first | exact f8 | exact HB.out.frozen 8) (by first | exact f9 | exact HB.out.frozen 9)).mono ?_
    rintro e w5 ⟨rfl, rfl⟩
    go_wp2_with fail
    refine bodyPost_ret (v := .tuple #[]) (by simp [results, Try.results67, go_sem]) rfl ⟨rfl, (Only.setCell (Only.setCell (Only.refl [b] w).drew (p := ⟨b, 8, none⟩) (by simp) (.bool true)) (p := ⟨b, 9, none⟩) (by simp) (.bool false)), (Blk.set (Blk.set (HB.out.only (Only.refl [] _).drew (by simp)) 8 (.bool true)) 9 (.bool false))⟩

set_option maxHeartbeats 2000000 in
set_option maxRecDepth 100000 in
theorem rttook_push1n (w : World) (b n : Nat) (at_ v top bot x : Int) (got has : Bool) (_x0 : 0 ≤ x) (_x1 : x < 18446744073709551616) (hc : ¬ (n : Int) ≤ dif bot x) (h : DQ.ok ⟨at_, n, 0, 1, has, false, v, top, bot, got⟩) (hb : Blk w b 86 (rtCells at_ n 0 v 1 top bot got false has)) :
    Calls Try.prog 67 #[.pointer (some ⟨b, 0, none⟩), .int .u64 x] w fun e w' => e = .returned (.tuple #[]) ∧ Only [b] w w' ∧ Blk w' b 86 #[.int .i64 at_, .int .i64 n, .int .i64 0, .int .u64 v, .int .i64 2, .int .u64 top, .int .u64 bot, .bool got, .bool false, .bool has] := by
  have HB := Lib.hid hb
  have d0 := hb.at 0 (v := .int .i64 at_) rfl
  have d1 := hb.at 1 (v := .int .i64 n) rfl
  have d2 := hb.at 2 (v := .int .i64 0) rfl
  have d3 := hb.at 3 (v := .int .u64 v) rfl
  have d4 := hb.at 4 (v := .int .i64 1) rfl
  have d5 := hb.at 5 (v := .int .u64 top) rfl
  have d6 := hb.at 6 (v := .int .u64 bot) rfl
  have d7 := hb.at 7 (v := .bool got) rfl
  have d8 := hb.at 8 (v := .bool false) rfl
  have d9 := hb.at 9 (v := .bool has) rfl
  have f3 := hb.frozen 3
  have f4 := hb.frozen 4
  have f5 := hb.frozen 5
  have f6 := hb.frozen 6
  have f7 := hb.frozen 7
  have f8 := hb.frozen 8
  have f9 := hb.frozen 9
  have a0 : 0 ≤ at_ := h.a0
  have a1 : at_ ≤ 65000 := h.a1
  have n1 : 1 ≤ n := h.n1
  have n64 : n ≤ 64 := h.n64
  have b0' : 0 ≤ bot := h.b0
  have t0' : 0 ≤ top := h.t0
  have hd1 : wrap64 (IntKind.u64.wrap (bot - x)) = dif bot x := rfl
  clear hb h
  go_enter Try.func67, Try.ntmps67
  go_wp2_with fail
  go_region
  all_goals
    go_wp2_with fail
    refine bodyPost_end (v := .tuple #[]) (by simp [results, Try.results67, go_sem]) rfl ⟨rfl, (Only.setCell (Only.refl [b] w).drew (p := ⟨b, 4, none⟩) (by simp) (.int .i64 2)), (Blk.set (HB.out.only (Only.refl [] _).drew (by simp)) 4 (.int .i64 2))⟩

set_option maxHeartbeats 2000000 in
set_option maxRecDepth 100000 in
theorem rttook_push2 (w : World) (b n : Nat) (at_ v top bot x : Int) (got has : Bool) (_x0 : 0 ≤ x) (_x1 : x < 18446744073709551616) (h : DQ.ok ⟨at_, n, 0, 2, has, false, v, top, bot, got⟩) (hb : Blk w b 86 (rtCells at_ n 0 v 2 top bot got false has)) :
    Calls Try.prog 67 #[.pointer (some ⟨b, 0, none⟩), .int .u64 x] w fun e w' => e = .returned (.tuple #[]) ∧ Only [b] w w' ∧ Blk w' b 86 #[.int .i64 at_, .int .i64 n, .int .i64 0, .int .u64 v, .int .i64 3, .int .u64 top, .int .u64 bot, .bool got, .bool false, .bool has] := by
  have HB := Lib.hid hb
  have d0 := hb.at 0 (v := .int .i64 at_) rfl
  have d1 := hb.at 1 (v := .int .i64 n) rfl
  have d2 := hb.at 2 (v := .int .i64 0) rfl
  have d3 := hb.at 3 (v := .int .u64 v) rfl
  have d4 := hb.at 4 (v := .int .i64 2) rfl
  have d5 := hb.at 5 (v := .int .u64 top) rfl
  have d6 := hb.at 6 (v := .int .u64 bot) rfl
  have d7 := hb.at 7 (v := .bool got) rfl
  have d8 := hb.at 8 (v := .bool false) rfl
  have d9 := hb.at 9 (v := .bool has) rfl
  have f3 := hb.frozen 3
  have f4 := hb.frozen 4
  have f5 := hb.frozen 5
  have f6 := hb.frozen 6
  have f7 := hb.frozen 7
  have f8 := hb.frozen 8
  have f9 := hb.frozen 9
  have a0 : 0 ≤ at_ := h.a0
  have a1 : at_ ≤ 65000 := h.a1
  have n1 : 1 ≤ n := h.n1
  have n64 : n ≤ 64 := h.n64
  have b0' : 0 ≤ bot := h.b0
  have t0' : 0 ≤ top := h.t0
  have hd1 : wrap64 (IntKind.u64.wrap (bot - x)) = dif bot x := rfl
  clear hb h
  go_enter Try.func67, Try.ntmps67
  go_wp2_with fail
  go_region
  all_goals
    go_wp2_with fail
    refine bodyPost_end (v := .tuple #[]) (by simp [results, Try.results67, go_sem]) rfl ⟨rfl, (Only.setCell (Only.refl [b] w).drew (p := ⟨b, 4, none⟩) (by simp) (.int .i64 3)), (Blk.set (HB.out.only (Only.refl [] _).drew (by simp)) 4 (.int .i64 3))⟩

set_option maxHeartbeats 2000000 in
set_option maxRecDepth 100000 in
theorem rttook_push3 (w : World) (b n : Nat) (at_ v top bot x : Int) (got has : Bool) (_x0 : 0 ≤ x) (_x1 : x < 18446744073709551616) (h : DQ.ok ⟨at_, n, 0, 3, has, false, v, top, bot, got⟩) (hb : Blk w b 86 (rtCells at_ n 0 v 3 top bot got false has)) :
    Calls Try.prog 67 #[.pointer (some ⟨b, 0, none⟩), .int .u64 x] w fun e w' => e = .returned (.tuple #[]) ∧ Only [b] w w' ∧ Blk w' b 86 #[.int .i64 at_, .int .i64 n, .int .i64 0, .int .u64 v, .int .i64 4, .int .u64 top, .int .u64 bot, .bool got, .bool true, .bool true] := by
  have HB := Lib.hid hb
  have d0 := hb.at 0 (v := .int .i64 at_) rfl
  have d1 := hb.at 1 (v := .int .i64 n) rfl
  have d2 := hb.at 2 (v := .int .i64 0) rfl
  have d3 := hb.at 3 (v := .int .u64 v) rfl
  have d4 := hb.at 4 (v := .int .i64 3) rfl
  have d5 := hb.at 5 (v := .int .u64 top) rfl
  have d6 := hb.at 6 (v := .int .u64 bot) rfl
  have d7 := hb.at 7 (v := .bool got) rfl
  have d8 := hb.at 8 (v := .bool false) rfl
  have d9 := hb.at 9 (v := .bool has) rfl
  have f3 := hb.frozen 3
  have f4 := hb.frozen 4
  have f5 := hb.frozen 5
  have f6 := hb.frozen 6
  have f7 := hb.frozen 7
  have f8 := hb.frozen 8
  have f9 := hb.frozen 9
  have a0 : 0 ≤ at_ := h.a0
  have a1 : at_ ≤ 65000 := h.a1
  have n1 : 1 ≤ n := h.n1
  have n64 : n ≤ 64 := h.n64
  have b0' : 0 ≤ bot := h.b0
  have t0' : 0 ≤ top := h.t0
  have hd1 : wrap64 (IntKind.u64.wrap (bot - x)) = dif bot x := rfl
  clear hb h
  go_enter Try.func67, Try.ntmps67
  go_wp2_with fail
  go_region
  all_goals
    go_wp2_with fail
    refine (rtend_at _ b true (.bool false) (.bool has) (by first | exact d8 | exact (Blk.set HB.out 4 (.int .i64 4)).at 8 rfl) (by first | exact d9 | exact (Blk.set HB.out 4 (.int .i64 4)).at 9 rfl) (by first | exact f8 | exact (Blk.set HB.out 4 (.int .i64 4)).frozen 8) (by first | exact f9 | exact (Blk.set HB.out 4 (.int .i64 4)).frozen 9)).mono ?_
    rintro e w5 ⟨rfl, rfl⟩
    go_wp2_with fail
    refine bodyPost_end (v := .tuple #[]) (by simp [results, Try.results67, go_sem]) rfl ⟨rfl, (Only.setCell (Only.setCell (Only.setCell (Only.refl [b] w).drew (p := ⟨b, 4, none⟩) (by simp) (.int .i64 4)) (p := ⟨b, 8, none⟩) (by simp) (.bool true)) (p := ⟨b, 9, none⟩) (by simp) (.bool true)), (Blk.set (Blk.set (Blk.set (HB.out.only (Only.refl [] _).drew (by simp)) 4 (.int .i64 4)) 8 (.bool true)) 9 (.bool true))⟩

set_option maxHeartbeats 2000000 in
set_option maxRecDepth 100000 in
theorem rttook_pop0 (w : World) (b n : Nat) (at_ v top bot x : Int) (got has ok : Bool) (_x0 : 0 ≤ x) (_x1 : x < 18446744073709551616) (h : DQ.ok ⟨at_, n, 1, 0, has, false, v, top, bot, got⟩) (hb : Blk w b 86 (rtCells at_ n 1 v 0 top bot got false has)) :
    Calls Try.prog 68 #[.pointer (some ⟨b, 0, none⟩), .int .u64 x, .bool ok] w fun e w' => e = .returned (.tuple #[]) ∧ Only [b] w w' ∧ Blk w' b 86 #[.int .i64 at_, .int .i64 n, .int .i64 1, .int .u64 v, .int .i64 1, .int .u64 top, .int .u64 (IntKind.u64.wrap (x - 1)), .bool got, .bool false, .bool has] := by
  have HB := Lib.hid hb
  have d0 := hb.at 0 (v := .int .i64 at_) rfl
  have d1 := hb.at 1 (v := .int .i64 n) rfl
  have d2 := hb.at 2 (v := .int .i64 1) rfl
  have d3 := hb.at 3 (v := .int .u64 v) rfl
  have d4 := hb.at 4 (v := .int .i64 0) rfl
  have d5 := hb.at 5 (v := .int .u64 top) rfl
  have d6 := hb.at 6 (v := .int .u64 bot) rfl
  have d7 := hb.at 7 (v := .bool got) rfl
  have d8 := hb.at 8 (v := .bool false) rfl
  have d9 := hb.at 9 (v := .bool has) rfl
  have f3 := hb.frozen 3
  have f4 := hb.frozen 4
  have f5 := hb.frozen 5
  have f6 := hb.frozen 6
  have f7 := hb.frozen 7
  have f8 := hb.frozen 8
  have f9 := hb.frozen 9
  have a0 : 0 ≤ at_ := h.a0
  have a1 : at_ ≤ 65000 := h.a1
  have n1 : 1 ≤ n := h.n1
  have n64 : n ≤ 64 := h.n64
  have b0' : 0 ≤ bot := h.b0
  have t0' : 0 ≤ top := h.t0
  have hd1 : wrap64 (IntKind.u64.wrap (bot - x)) = dif bot x := rfl
  clear hb h
  go_enter Try.func68, Try.ntmps68
  go_wp2_with fail
  refine bodyPost_end (v := .tuple #[]) (by simp [results, Try.results68, go_sem]) rfl ⟨rfl, (Only.setCell (Only.setCell (Only.refl [b] w) (p := ⟨b, 6, none⟩) (by simp) (.int .u64 (IntKind.u64.wrap (x - 1)))) (p := ⟨b, 4, none⟩) (by simp) (.int .i64 1)), (Blk.set (Blk.set HB.out 6 (.int .u64 (IntKind.u64.wrap (x - 1)))) 4 (.int .i64 1))⟩

set_option maxHeartbeats 2000000 in
set_option maxRecDepth 100000 in
theorem rttook_pop1 (w : World) (b n : Nat) (at_ v top bot x : Int) (got has ok : Bool) (_x0 : 0 ≤ x) (_x1 : x < 18446744073709551616) (h : DQ.ok ⟨at_, n, 1, 1, has, false, v, top, bot, got⟩) (hb : Blk w b 86 (rtCells at_ n 1 v 1 top bot got false has)) :
    Calls Try.prog 68 #[.pointer (some ⟨b, 0, none⟩), .int .u64 x, .bool ok] w fun e w' => e = .returned (.tuple #[]) ∧ Only [b] w w' ∧ Blk w' b 86 #[.int .i64 at_, .int .i64 n, .int .i64 1, .int .u64 v, .int .i64 2, .int .u64 top, .int .u64 bot, .bool got, .bool false, .bool has] := by
  have HB := Lib.hid hb
  have d0 := hb.at 0 (v := .int .i64 at_) rfl
  have d1 := hb.at 1 (v := .int .i64 n) rfl
  have d2 := hb.at 2 (v := .int .i64 1) rfl
  have d3 := hb.at 3 (v := .int .u64 v) rfl
  have d4 := hb.at 4 (v := .int .i64 1) rfl
  have d5 := hb.at 5 (v := .int .u64 top) rfl
  have d6 := hb.at 6 (v := .int .u64 bot) rfl
  have d7 := hb.at 7 (v := .bool got) rfl
  have d8 := hb.at 8 (v := .bool false) rfl
  have d9 := hb.at 9 (v := .bool has) rfl
  have f3 := hb.frozen 3
  have f4 := hb.frozen 4
  have f5 := hb.frozen 5
  have f6 := hb.frozen 6
  have f7 := hb.frozen 7
  have f8 := hb.frozen 8
  have f9 := hb.frozen 9
  have a0 : 0 ≤ at_ := h.a0
  have a1 : at_ ≤ 65000 := h.a1
  have n1 : 1 ≤ n := h.n1
  have n64 : n ≤ 64 := h.n64
  have b0' : 0 ≤ bot := h.b0
  have t0' : 0 ≤ top := h.t0
  have hd1 : wrap64 (IntKind.u64.wrap (bot - x)) = dif bot x := rfl
  clear hb h
  go_enter Try.func68, Try.ntmps68
  go_wp2_with fail
  refine bodyPost_end (v := .tuple #[]) (by simp [results, Try.results68, go_sem]) rfl ⟨rfl, (Only.setCell (Only.refl [b] w) (p := ⟨b, 4, none⟩) (by simp) (.int .i64 2)), (Blk.set HB.out 4 (.int .i64 2))⟩

set_option maxHeartbeats 2000000 in
set_option maxRecDepth 100000 in
theorem rttook_pop2y (w : World) (b n : Nat) (at_ v top bot x : Int) (got has ok : Bool) (_x0 : 0 ≤ x) (_x1 : x < 18446744073709551616) (hc : 0 < dif x bot) (h : DQ.ok ⟨at_, n, 1, 2, has, false, v, top, bot, got⟩) (hb : Blk w b 86 (rtCells at_ n 1 v 2 top bot got false has)) :
    Calls Try.prog 68 #[.pointer (some ⟨b, 0, none⟩), .int .u64 x, .bool ok] w fun e w' => e = .returned (.tuple #[]) ∧ Only [b] w w' ∧ Blk w' b 86 #[.int .i64 at_, .int .i64 n, .int .i64 1, .int .u64 v, .int .i64 5, .int .u64 x, .int .u64 bot, .bool got, .bool false, .bool has] := by
  have HB := Lib.hid hb
  have d0 := hb.at 0 (v := .int .i64 at_) rfl
  have d1 := hb.at 1 (v := .int .i64 n) rfl
  have d2 := hb.at 2 (v := .int .i64 1) rfl
  have d3 := hb.at 3 (v := .int .u64 v) rfl
  have d4 := hb.at 4 (v := .int .i64 2) rfl
  have d5 := hb.at 5 (v := .int .u64 top) rfl
  have d6 := hb.at 6 (v := .int .u64 bot) rfl
  have d7 := hb.at 7 (v := .bool got) rfl
  have d8 := hb.at 8 (v := .bool false) rfl
  have d9 := hb.at 9 (v := .bool has) rfl
  have f3 := hb.frozen 3
  have f4 := hb.frozen 4
  have f5 := hb.frozen 5
  have f6 := hb.frozen 6
  have f7 := hb.frozen 7
  have f8 := hb.frozen 8
  have f9 := hb.frozen 9
  have a0 : 0 ≤ at_ := h.a0
  have a1 : at_ ≤ 65000 := h.a1
  have n1 : 1 ≤ n := h.n1
  have n64 : n ≤ 64 := h.n64
  have b0' : 0 ≤ bot := h.b0
  have t0' : 0 ≤ top := h.t0
  have hd1 : wrap64 (IntKind.u64.wrap (x - bot)) = dif x bot := rfl
  clear hb h
  go_enter Try.func68, Try.ntmps68
  go_wp2_with fail
  refine bodyPost_end (v := .tuple #[]) (by simp [results, Try.results68, go_sem]) rfl ⟨rfl, (Only.setCell (Only.setCell (Only.setCell (Only.refl [b] w) (p := ⟨b, 5, none⟩) (by simp) (.int .u64 x)) (p := ⟨b, 4, none⟩) (by simp) (.int .i64 3)) (p := ⟨b, 4, none⟩) (by simp) (.int .i64 5)), (Blk.set (Blk.set (Blk.set HB.out 5 (.int .u64 x)) 4 (.int .i64 3)) 4 (.int .i64 5))⟩

set_option maxHeartbeats 2000000 in
set_option maxRecDepth 100000 in
theorem rttook_pop2n (w : World) (b n : Nat) (at_ v top bot x : Int) (got has ok : Bool) (_x0 : 0 ≤ x) (_x1 : x < 18446744073709551616) (hc : ¬ 0 < dif x bot) (h : DQ.ok ⟨at_, n, 1, 2, has, false, v, top, bot, got⟩) (hb : Blk w b 86 (rtCells at_ n 1 v 2 top bot got false has)) :
    Calls Try.prog 68 #[.pointer (some ⟨b, 0, none⟩), .int .u64 x, .bool ok] w fun e w' => e = .returned (.tuple #[]) ∧ Only [b] w w' ∧ Blk w' b 86 #[.int .i64 at_, .int .i64 n, .int .i64 1, .int .u64 v, .int .i64 3, .int .u64 x, .int .u64 bot, .bool got, .bool false, .bool has] := by
  have HB := Lib.hid hb
  have d0 := hb.at 0 (v := .int .i64 at_) rfl
  have d1 := hb.at 1 (v := .int .i64 n) rfl
  have d2 := hb.at 2 (v := .int .i64 1) rfl
  have d3 := hb.at 3 (v := .int .u64 v) rfl
  have d4 := hb.at 4 (v := .int .i64 2) rfl
  have d5 := hb.at 5 (v := .int .u64 top) rfl
  have d6 := hb.at 6 (v := .int .u64 bot) rfl
  have d7 := hb.at 7 (v := .bool got) rfl
  have d8 := hb.at 8 (v := .bool false) rfl
  have d9 := hb.at 9 (v := .bool has) rfl
  have f3 := hb.frozen 3
  have f4 := hb.frozen 4
  have f5 := hb.frozen 5
  have f6 := hb.frozen 6
  have f7 := hb.frozen 7
  have f8 := hb.frozen 8
  have f9 := hb.frozen 9
  have a0 : 0 ≤ at_ := h.a0
  have a1 : at_ ≤ 65000 := h.a1
  have n1 : 1 ≤ n := h.n1
  have n64 : n ≤ 64 := h.n64
  have b0' : 0 ≤ bot := h.b0
  have t0' : 0 ≤ top := h.t0
  have hd1 : wrap64 (IntKind.u64.wrap (x - bot)) = dif x bot := rfl
  clear hb h
  go_enter Try.func68, Try.ntmps68
  go_wp2_with fail
  refine bodyPost_end (v := .tuple #[]) (by simp [results, Try.results68, go_sem]) rfl ⟨rfl, (Only.setCell (Only.setCell (Only.refl [b] w) (p := ⟨b, 5, none⟩) (by simp) (.int .u64 x)) (p := ⟨b, 4, none⟩) (by simp) (.int .i64 3)), (Blk.set (Blk.set HB.out 5 (.int .u64 x)) 4 (.int .i64 3))⟩

set_option maxHeartbeats 2000000 in
set_option maxRecDepth 100000 in
theorem rttook_pop3y (w : World) (b n : Nat) (at_ v top bot x : Int) (got has ok : Bool) (_x0 : 0 ≤ x) (_x1 : x < 18446744073709551616) (hc : dif top bot < 0) (h : DQ.ok ⟨at_, n, 1, 3, has, false, v, top, bot, got⟩) (hb : Blk w b 86 (rtCells at_ n 1 v 3 top bot got false has)) :
    Calls Try.prog 68 #[.pointer (some ⟨b, 0, none⟩), .int .u64 x, .bool ok] w fun e w' => e = .returned (.tuple #[]) ∧ Only [b] w w' ∧ Blk w' b 86 #[.int .i64 at_, .int .i64 n, .int .i64 1, .int .u64 x, .int .i64 4, .int .u64 top, .int .u64 bot, .bool got, .bool true, .bool true] := by
  have HB := Lib.hid hb
  have d0 := hb.at 0 (v := .int .i64 at_) rfl
  have d1 := hb.at 1 (v := .int .i64 n) rfl
  have d2 := hb.at 2 (v := .int .i64 1) rfl
  have d3 := hb.at 3 (v := .int .u64 v) rfl
  have d4 := hb.at 4 (v := .int .i64 3) rfl
  have d5 := hb.at 5 (v := .int .u64 top) rfl
  have d6 := hb.at 6 (v := .int .u64 bot) rfl
  have d7 := hb.at 7 (v := .bool got) rfl
  have d8 := hb.at 8 (v := .bool false) rfl
  have d9 := hb.at 9 (v := .bool has) rfl
  have f3 := hb.frozen 3
  have f4 := hb.frozen 4
  have f5 := hb.frozen 5
  have f6 := hb.frozen 6
  have f7 := hb.frozen 7
  have f8 := hb.frozen 8
  have f9 := hb.frozen 9
  have a0 : 0 ≤ at_ := h.a0
  have a1 : at_ ≤ 65000 := h.a1
  have n1 : 1 ≤ n := h.n1
  have n64 : n ≤ 64 := h.n64
  have b0' : 0 ≤ bot := h.b0
  have t0' : 0 ≤ top := h.t0
  have hd1 : wrap64 (IntKind.u64.wrap (top - bot)) = dif top bot := rfl
  clear hb h
  go_enter Try.func68, Try.ntmps68
  go_wp2_with fail
  go_region
  all_goals
    go_wp2_with fail
    refine (rtend_at _ b true (.bool false) (.bool has) (by first | exact d8 | exact (Blk.set (Blk.set HB.out 3 (.int .u64 x)) 4 (.int .i64 4)).at 8 rfl) (by first | exact d9 | exact (Blk.set (Blk.set HB.out 3 (.int .u64 x)) 4 (.int .i64 4)).at 9 rfl) (by first | exact f8 | exact (Blk.set (Blk.set HB.out 3 (.int .u64 x)) 4 (.int .i64 4)).frozen 8) (by first | exact f9 | exact (Blk.set (Blk.set HB.out 3 (.int .u64 x)) 4 (.int .i64 4)).frozen 9)).mono ?_
    rintro e w5 ⟨rfl, rfl⟩
    go_wp2_with fail
    refine bodyPost_end (v := .tuple #[]) (by simp [results, Try.results68, go_sem]) rfl ⟨rfl, (Only.setCell (Only.setCell (Only.setCell (Only.setCell (Only.refl [b] w) (p := ⟨b, 3, none⟩) (by simp) (.int .u64 x)) (p := ⟨b, 4, none⟩) (by simp) (.int .i64 4)).drew (p := ⟨b, 8, none⟩) (by simp) (.bool true)) (p := ⟨b, 9, none⟩) (by simp) (.bool true)), (Blk.set (Blk.set ((Blk.set (Blk.set HB.out 3 (.int .u64 x)) 4 (.int .i64 4)).only (Only.refl [] _).drew (by simp)) 8 (.bool true)) 9 (.bool true))⟩

set_option maxHeartbeats 2000000 in
set_option maxRecDepth 100000 in
theorem rttook_pop3n (w : World) (b n : Nat) (at_ v top bot x : Int) (got has ok : Bool) (_x0 : 0 ≤ x) (_x1 : x < 18446744073709551616) (hc : ¬ dif top bot < 0) (h : DQ.ok ⟨at_, n, 1, 3, has, false, v, top, bot, got⟩) (hb : Blk w b 86 (rtCells at_ n 1 v 3 top bot got false has)) :
    Calls Try.prog 68 #[.pointer (some ⟨b, 0, none⟩), .int .u64 x, .bool ok] w fun e w' => e = .returned (.tuple #[]) ∧ Only [b] w w' ∧ Blk w' b 86 #[.int .i64 at_, .int .i64 n, .int .i64 1, .int .u64 x, .int .i64 4, .int .u64 top, .int .u64 bot, .bool got, .bool false, .bool has] := by
  have HB := Lib.hid hb
  have d0 := hb.at 0 (v := .int .i64 at_) rfl
  have d1 := hb.at 1 (v := .int .i64 n) rfl
  have d2 := hb.at 2 (v := .int .i64 1) rfl
  have d3 := hb.at 3 (v := .int .u64 v) rfl
  have d4 := hb.at 4 (v := .int .i64 3) rfl
  have d5 := hb.at 5 (v := .int .u64 top) rfl
  have d6 := hb.at 6 (v := .int .u64 bot) rfl
  have d7 := hb.at 7 (v := .bool got) rfl
  have d8 := hb.at 8 (v := .bool false) rfl
  have d9 := hb.at 9 (v := .bool has) rfl
  have f3 := hb.frozen 3
  have f4 := hb.frozen 4
  have f5 := hb.frozen 5
  have f6 := hb.frozen 6
  have f7 := hb.frozen 7
  have f8 := hb.frozen 8
  have f9 := hb.frozen 9
  have a0 : 0 ≤ at_ := h.a0
  have a1 : at_ ≤ 65000 := h.a1
  have n1 : 1 ≤ n := h.n1
  have n64 : n ≤ 64 := h.n64
  have b0' : 0 ≤ bot := h.b0
  have t0' : 0 ≤ top := h.t0
  have hd1 : wrap64 (IntKind.u64.wrap (top - bot)) = dif top bot := rfl
  clear hb h
  go_enter Try.func68, Try.ntmps68
  go_wp2_with fail
  go_region
  all_goals
    go_wp2_with fail
    refine bodyPost_end (v := .tuple #[]) (by simp [results, Try.results68, go_sem]) rfl ⟨rfl, (Only.setCell (Only.setCell (Only.refl [b] w) (p := ⟨b, 3, none⟩) (by simp) (.int .u64 x)) (p := ⟨b, 4, none⟩) (by simp) (.int .i64 4)).drew, ((Blk.set (Blk.set HB.out 3 (.int .u64 x)) 4 (.int .i64 4)).only (Only.refl [] _).drew (by simp))⟩

set_option maxHeartbeats 2000000 in
set_option maxRecDepth 100000 in
theorem rttook_pop4 (w : World) (b n : Nat) (at_ v top bot x : Int) (got has ok : Bool) (_x0 : 0 ≤ x) (_x1 : x < 18446744073709551616) (h : DQ.ok ⟨at_, n, 1, 4, has, false, v, top, bot, got⟩) (hb : Blk w b 86 (rtCells at_ n 1 v 4 top bot got false has)) :
    Calls Try.prog 68 #[.pointer (some ⟨b, 0, none⟩), .int .u64 x, .bool ok] w fun e w' => e = .returned (.tuple #[]) ∧ Only [b] w w' ∧ Blk w' b 86 #[.int .i64 at_, .int .i64 n, .int .i64 1, .int .u64 v, .int .i64 5, .int .u64 top, .int .u64 bot, .bool ok, .bool false, .bool has] := by
  have HB := Lib.hid hb
  have d0 := hb.at 0 (v := .int .i64 at_) rfl
  have d1 := hb.at 1 (v := .int .i64 n) rfl
  have d2 := hb.at 2 (v := .int .i64 1) rfl
  have d3 := hb.at 3 (v := .int .u64 v) rfl
  have d4 := hb.at 4 (v := .int .i64 4) rfl
  have d5 := hb.at 5 (v := .int .u64 top) rfl
  have d6 := hb.at 6 (v := .int .u64 bot) rfl
  have d7 := hb.at 7 (v := .bool got) rfl
  have d8 := hb.at 8 (v := .bool false) rfl
  have d9 := hb.at 9 (v := .bool has) rfl
  have f3 := hb.frozen 3
  have f4 := hb.frozen 4
  have f5 := hb.frozen 5
  have f6 := hb.frozen 6
  have f7 := hb.frozen 7
  have f8 := hb.frozen 8
  have f9 := hb.frozen 9
  have a0 : 0 ≤ at_ := h.a0
  have a1 : at_ ≤ 65000 := h.a1
  have n1 : 1 ≤ n := h.n1
  have n64 : n ≤ 64 := h.n64
  have b0' : 0 ≤ bot := h.b0
  have t0' : 0 ≤ top := h.t0
  have hd1 : wrap64 (IntKind.u64.wrap (bot - x)) = dif bot x := rfl
  clear hb h
  go_enter Try.func68, Try.ntmps68
  go_wp2_with fail
  refine bodyPost_end (v := .tuple #[]) (by simp [results, Try.results68, go_sem]) rfl ⟨rfl, (Only.setCell (Only.setCell (Only.refl [b] w) (p := ⟨b, 7, none⟩) (by simp) (.bool ok)) (p := ⟨b, 4, none⟩) (by simp) (.int .i64 5)), (Blk.set (Blk.set HB.out 7 (.bool ok)) 4 (.int .i64 5))⟩

set_option maxHeartbeats 2000000 in
set_option maxRecDepth 100000 in
theorem rttook_pop5 (w : World) (b n : Nat) (at_ v top bot x : Int) (got has ok : Bool) (_x0 : 0 ≤ x) (_x1 : x < 18446744073709551616) (h : DQ.ok ⟨at_, n, 1, 5, has, false, v, top, bot, got⟩) (hb : Blk w b 86 (rtCells at_ n 1 v 5 top bot got false has)) :
    Calls Try.prog 68 #[.pointer (some ⟨b, 0, none⟩), .int .u64 x, .bool ok] w fun e w' => e = .returned (.tuple #[]) ∧ Only [b] w w' ∧ Blk w' b 86 #[.int .i64 at_, .int .i64 n, .int .i64 1, .int .u64 v, .int .i64 5, .int .u64 top, .int .u64 bot, .bool got, .bool true, .bool got] := by
  have HB := Lib.hid hb
  have d0 := hb.at 0 (v := .int .i64 at_) rfl
  have d1 := hb.at 1 (v := .int .i64 n) rfl
  have d2 := hb.at 2 (v := .int .i64 1) rfl
  have d3 := hb.at 3 (v := .int .u64 v) rfl
  have d4 := hb.at 4 (v := .int .i64 5) rfl
  have d5 := hb.at 5 (v := .int .u64 top) rfl
  have d6 := hb.at 6 (v := .int .u64 bot) rfl
  have d7 := hb.at 7 (v := .bool got) rfl
  have d8 := hb.at 8 (v := .bool false) rfl
  have d9 := hb.at 9 (v := .bool has) rfl
  have f3 := hb.frozen 3
  have f4 := hb.frozen 4
  have f5 := hb.frozen 5
  have f6 := hb.frozen 6
  have f7 := hb.frozen 7
  have f8 := hb.frozen 8
  have f9 := hb.frozen 9
  have a0 : 0 ≤ at_ := h.a0
  have a1 : at_ ≤ 65000 := h.a1
  have n1 : 1 ≤ n := h.n1
  have n64 : n ≤ 64 := h.n64
  have b0' : 0 ≤ bot := h.b0
  have t0' : 0 ≤ top := h.t0
  have hd1 : wrap64 (IntKind.u64.wrap (bot - x)) = dif bot x := rfl
  clear hb h
  go_enter Try.func68, Try.ntmps68
  go_wp2_with fail
  refine (rtend_at _ b got (.bool false) (.bool has) (by first | exact d8 | exact HB.out.at 8 rfl) (by first | exact d9 | exact HB.out.at 9 rfl) (by first | exact f8 | exact HB.out.frozen 8) (by first | exact f9 | exact HB.out.frozen 9)).mono ?_
  rintro e w5 ⟨rfl, rfl⟩
  go_wp2_with fail
  refine bodyPost_end (v := .tuple #[]) (by simp [results, Try.results68, go_sem]) rfl ⟨rfl, (Only.setCell (Only.setCell (Only.refl [b] w) (p := ⟨b, 8, none⟩) (by simp) (.bool true)) (p := ⟨b, 9, none⟩) (by simp) (.bool got)), (Blk.set (Blk.set HB.out 8 (.bool true)) 9 (.bool got))⟩

set_option maxHeartbeats 2000000 in
set_option maxRecDepth 100000 in
theorem rttook_steal0 (w : World) (b n : Nat) (at_ v top bot x : Int) (got has ok : Bool) (_x0 : 0 ≤ x) (_x1 : x < 18446744073709551616) (h : DQ.ok ⟨at_, n, 2, 0, has, false, v, top, bot, got⟩) (hb : Blk w b 86 (rtCells at_ n 2 v 0 top bot got false has)) :
    Calls Try.prog 69 #[.pointer (some ⟨b, 0, none⟩), .int .u64 x, .bool ok] w fun e w' => e = .returned (.tuple #[]) ∧ Only [b] w w' ∧ Blk w' b 86 #[.int .i64 at_, .int .i64 n, .int .i64 2, .int .u64 v, .int .i64 1, .int .u64 x, .int .u64 bot, .bool got, .bool false, .bool has] := by
  have HB := Lib.hid hb
  have d0 := hb.at 0 (v := .int .i64 at_) rfl
  have d1 := hb.at 1 (v := .int .i64 n) rfl
  have d2 := hb.at 2 (v := .int .i64 2) rfl
  have d3 := hb.at 3 (v := .int .u64 v) rfl
  have d4 := hb.at 4 (v := .int .i64 0) rfl
  have d5 := hb.at 5 (v := .int .u64 top) rfl
  have d6 := hb.at 6 (v := .int .u64 bot) rfl
  have d7 := hb.at 7 (v := .bool got) rfl
  have d8 := hb.at 8 (v := .bool false) rfl
  have d9 := hb.at 9 (v := .bool has) rfl
  have f3 := hb.frozen 3
  have f4 := hb.frozen 4
  have f5 := hb.frozen 5
  have f6 := hb.frozen 6
  have f7 := hb.frozen 7
  have f8 := hb.frozen 8
  have f9 := hb.frozen 9
  have a0 : 0 ≤ at_ := h.a0
  have a1 : at_ ≤ 65000 := h.a1
  have n1 : 1 ≤ n := h.n1
  have n64 : n ≤ 64 := h.n64
  have b0' : 0 ≤ bot := h.b0
  have t0' : 0 ≤ top := h.t0
  have hd1 : wrap64 (IntKind.u64.wrap (bot - x)) = dif bot x := rfl
  clear hb h
  go_enter Try.func69, Try.ntmps69
  go_wp2_with fail
  refine bodyPost_end (v := .tuple #[]) (by simp [results, Try.results69, go_sem]) rfl ⟨rfl, (Only.setCell (Only.setCell (Only.refl [b] w) (p := ⟨b, 5, none⟩) (by simp) (.int .u64 x)) (p := ⟨b, 4, none⟩) (by simp) (.int .i64 1)), (Blk.set (Blk.set HB.out 5 (.int .u64 x)) 4 (.int .i64 1))⟩

set_option maxHeartbeats 2000000 in
set_option maxRecDepth 100000 in
theorem rttook_steal1y (w : World) (b n : Nat) (at_ v top bot x : Int) (got has ok : Bool) (_x0 : 0 ≤ x) (_x1 : x < 18446744073709551616) (hc : 0 ≤ dif top x) (h : DQ.ok ⟨at_, n, 2, 1, has, false, v, top, bot, got⟩) (hb : Blk w b 86 (rtCells at_ n 2 v 1 top bot got false has)) :
    Calls Try.prog 69 #[.pointer (some ⟨b, 0, none⟩), .int .u64 x, .bool ok] w fun e w' => e = .returned (.tuple #[]) ∧ Only [b] w w' ∧ Blk w' b 86 #[.int .i64 at_, .int .i64 n, .int .i64 2, .int .u64 v, .int .i64 2, .int .u64 top, .int .u64 bot, .bool got, .bool true, .bool false] := by
  have HB := Lib.hid hb
  have d0 := hb.at 0 (v := .int .i64 at_) rfl
  have d1 := hb.at 1 (v := .int .i64 n) rfl
  have d2 := hb.at 2 (v := .int .i64 2) rfl
  have d3 := hb.at 3 (v := .int .u64 v) rfl
  have d4 := hb.at 4 (v := .int .i64 1) rfl
  have d5 := hb.at 5 (v := .int .u64 top) rfl
  have d6 := hb.at 6 (v := .int .u64 bot) rfl
  have d7 := hb.at 7 (v := .bool got) rfl
  have d8 := hb.at 8 (v := .bool false) rfl
  have d9 := hb.at 9 (v := .bool has) rfl
  have f3 := hb.frozen 3
  have f4 := hb.frozen 4
  have f5 := hb.frozen 5
  have f6 := hb.frozen 6
  have f7 := hb.frozen 7
  have f8 := hb.frozen 8
  have f9 := hb.frozen 9
  have a0 : 0 ≤ at_ := h.a0
  have a1 : at_ ≤ 65000 := h.a1
  have n1 : 1 ≤ n := h.n1
  have n64 : n ≤ 64 := h.n64
  have b0' : 0 ≤ bot := h.b0
  have t0' : 0 ≤ top := h.t0
  have hd1 : wrap64 (IntKind.u64.wrap (top - x)) = dif top x := rfl
  clear hb h
  go_enter Try.func69, Try.ntmps69
  go_wp2_with fail
  refine (rtend_at _ b false (.bool false) (.bool has) (by first | exact d8 | exact HB.out.at 8 rfl) (by first | exact d9 | exact HB.out.at 9 rfl) (by first | exact f8 | exact HB.out.frozen 8) (by first | exact f9 | exact HB.out.frozen 9)).mono ?_
  rintro e w5 ⟨rfl, rfl⟩
  go_wp2_with fail
  refine bodyPost_end (v := .tuple #[]) (by simp [results, Try.results69, go_sem]) rfl ⟨rfl, (Only.setCell (Only.setCell (Only.setCell (Only.refl [b] w) (p := ⟨b, 8, none⟩) (by simp) (.bool true)) (p := ⟨b, 9, none⟩) (by simp) (.bool false)) (p := ⟨b, 4, none⟩) (by simp) (.int .i64 2)), (Blk.set (Blk.set (Blk.set HB.out 8 (.bool true)) 9 (.bool false)) 4 (.int .i64 2))⟩

set_option maxHeartbeats 2000000 in
set_option maxRecDepth 100000 in
theorem rttook_steal1n (w : World) (b n : Nat) (at_ v top bot x : Int) (got has ok : Bool) (_x0 : 0 ≤ x) (_x1 : x < 18446744073709551616) (hc : ¬ 0 ≤ dif top x) (h : DQ.ok ⟨at_, n, 2, 1, has, false, v, top, bot, got⟩) (hb : Blk w b 86 (rtCells at_ n 2 v 1 top bot got false has)) :
    Calls Try.prog 69 #[.pointer (some ⟨b, 0, none⟩), .int .u64 x, .bool ok] w fun e w' => e = .returned (.tuple #[]) ∧ Only [b] w w' ∧ Blk w' b 86 #[.int .i64 at_, .int .i64 n, .int .i64 2, .int .u64 v, .int .i64 2, .int .u64 top, .int .u64 bot, .bool got, .bool false, .bool has] := by
  have HB := Lib.hid hb
  have d0 := hb.at 0 (v := .int .i64 at_) rfl
  have d1 := hb.at 1 (v := .int .i64 n) rfl
  have d2 := hb.at 2 (v := .int .i64 2) rfl
  have d3 := hb.at 3 (v := .int .u64 v) rfl
  have d4 := hb.at 4 (v := .int .i64 1) rfl
  have d5 := hb.at 5 (v := .int .u64 top) rfl
  have d6 := hb.at 6 (v := .int .u64 bot) rfl
  have d7 := hb.at 7 (v := .bool got) rfl
  have d8 := hb.at 8 (v := .bool false) rfl
  have d9 := hb.at 9 (v := .bool has) rfl
  have f3 := hb.frozen 3
  have f4 := hb.frozen 4
  have f5 := hb.frozen 5
  have f6 := hb.frozen 6
  have f7 := hb.frozen 7
  have f8 := hb.frozen 8
  have f9 := hb.frozen 9
  have a0 : 0 ≤ at_ := h.a0
  have a1 : at_ ≤ 65000 := h.a1
  have n1 : 1 ≤ n := h.n1
  have n64 : n ≤ 64 := h.n64
  have b0' : 0 ≤ bot := h.b0
  have t0' : 0 ≤ top := h.t0
  have hd1 : wrap64 (IntKind.u64.wrap (top - x)) = dif top x := rfl
  clear hb h
  go_enter Try.func69, Try.ntmps69
  go_wp2_with fail
  refine bodyPost_end (v := .tuple #[]) (by simp [results, Try.results69, go_sem]) rfl ⟨rfl, (Only.setCell (Only.refl [b] w) (p := ⟨b, 4, none⟩) (by simp) (.int .i64 2)), (Blk.set HB.out 4 (.int .i64 2))⟩

set_option maxHeartbeats 2000000 in
set_option maxRecDepth 100000 in
theorem rttook_steal2 (w : World) (b n : Nat) (at_ v top bot x : Int) (got has ok : Bool) (_x0 : 0 ≤ x) (_x1 : x < 18446744073709551616) (h : DQ.ok ⟨at_, n, 2, 2, has, false, v, top, bot, got⟩) (hb : Blk w b 86 (rtCells at_ n 2 v 2 top bot got false has)) :
    Calls Try.prog 69 #[.pointer (some ⟨b, 0, none⟩), .int .u64 x, .bool ok] w fun e w' => e = .returned (.tuple #[]) ∧ Only [b] w w' ∧ Blk w' b 86 #[.int .i64 at_, .int .i64 n, .int .i64 2, .int .u64 x, .int .i64 3, .int .u64 top, .int .u64 bot, .bool got, .bool false, .bool has] := by
  have HB := Lib.hid hb
  have d0 := hb.at 0 (v := .int .i64 at_) rfl
  have d1 := hb.at 1 (v := .int .i64 n) rfl
  have d2 := hb.at 2 (v := .int .i64 2) rfl
  have d3 := hb.at 3 (v := .int .u64 v) rfl
  have d4 := hb.at 4 (v := .int .i64 2) rfl
  have d5 := hb.at 5 (v := .int .u64 top) rfl
  have d6 := hb.at 6 (v := .int .u64 bot) rfl
  have d7 := hb.at 7 (v := .bool got) rfl
  have d8 := hb.at 8 (v := .bool false) rfl
  have d9 := hb.at 9 (v := .bool has) rfl
  have f3 := hb.frozen 3
  have f4 := hb.frozen 4
  have f5 := hb.frozen 5
  have f6 := hb.frozen 6
  have f7 := hb.frozen 7
  have f8 := hb.frozen 8
  have f9 := hb.frozen 9
  have a0 : 0 ≤ at_ := h.a0
  have a1 : at_ ≤ 65000 := h.a1
  have n1 : 1 ≤ n := h.n1
  have n64 : n ≤ 64 := h.n64
  have b0' : 0 ≤ bot := h.b0
  have t0' : 0 ≤ top := h.t0
  have hd1 : wrap64 (IntKind.u64.wrap (bot - x)) = dif bot x := rfl
  clear hb h
  go_enter Try.func69, Try.ntmps69
  go_wp2_with fail
  refine bodyPost_end (v := .tuple #[]) (by simp [results, Try.results69, go_sem]) rfl ⟨rfl, (Only.setCell (Only.setCell (Only.refl [b] w) (p := ⟨b, 3, none⟩) (by simp) (.int .u64 x)) (p := ⟨b, 4, none⟩) (by simp) (.int .i64 3)), (Blk.set (Blk.set HB.out 3 (.int .u64 x)) 4 (.int .i64 3))⟩

set_option maxHeartbeats 2000000 in
set_option maxRecDepth 100000 in
theorem rttook_steal3 (w : World) (b n : Nat) (at_ v top bot x : Int) (got has ok : Bool) (_x0 : 0 ≤ x) (_x1 : x < 18446744073709551616) (h : DQ.ok ⟨at_, n, 2, 3, has, false, v, top, bot, got⟩) (hb : Blk w b 86 (rtCells at_ n 2 v 3 top bot got false has)) :
    Calls Try.prog 69 #[.pointer (some ⟨b, 0, none⟩), .int .u64 x, .bool ok] w fun e w' => e = .returned (.tuple #[]) ∧ Only [b] w w' ∧ Blk w' b 86 #[.int .i64 at_, .int .i64 n, .int .i64 2, .int .u64 v, .int .i64 4, .int .u64 top, .int .u64 bot, .bool got, .bool true, .bool ok] := by
  have HB := Lib.hid hb
  have d0 := hb.at 0 (v := .int .i64 at_) rfl
  have d1 := hb.at 1 (v := .int .i64 n) rfl
  have d2 := hb.at 2 (v := .int .i64 2) rfl
  have d3 := hb.at 3 (v := .int .u64 v) rfl
  have d4 := hb.at 4 (v := .int .i64 3) rfl
  have d5 := hb.at 5 (v := .int .u64 top) rfl
  have d6 := hb.at 6 (v := .int .u64 bot) rfl
  have d7 := hb.at 7 (v := .bool got) rfl
  have d8 := hb.at 8 (v := .bool false) rfl
  have d9 := hb.at 9 (v := .bool has) rfl
  have f3 := hb.frozen 3
  have f4 := hb.frozen 4
  have f5 := hb.frozen 5
  have f6 := hb.frozen 6
  have f7 := hb.frozen 7
  have f8 := hb.frozen 8
  have f9 := hb.frozen 9
  have a0 : 0 ≤ at_ := h.a0
  have a1 : at_ ≤ 65000 := h.a1
  have n1 : 1 ≤ n := h.n1
  have n64 : n ≤ 64 := h.n64
  have b0' : 0 ≤ bot := h.b0
  have t0' : 0 ≤ top := h.t0
  have hd1 : wrap64 (IntKind.u64.wrap (bot - x)) = dif bot x := rfl
  clear hb h
  go_enter Try.func69, Try.ntmps69
  go_wp2_with fail
  refine (rtend_at _ b ok (.bool false) (.bool has) (by first | exact d8 | exact HB.out.at 8 rfl) (by first | exact d9 | exact HB.out.at 9 rfl) (by first | exact f8 | exact HB.out.frozen 8) (by first | exact f9 | exact HB.out.frozen 9)).mono ?_
  rintro e w5 ⟨rfl, rfl⟩
  go_wp2_with fail
  refine bodyPost_end (v := .tuple #[]) (by simp [results, Try.results69, go_sem]) rfl ⟨rfl, (Only.setCell (Only.setCell (Only.setCell (Only.refl [b] w) (p := ⟨b, 8, none⟩) (by simp) (.bool true)) (p := ⟨b, 9, none⟩) (by simp) (.bool ok)) (p := ⟨b, 4, none⟩) (by simp) (.int .i64 4)), (Blk.set (Blk.set (Blk.set HB.out 8 (.bool true)) 9 (.bool ok)) 4 (.int .i64 4))⟩

end Go.Proofs.Ytoecoijmkjhkgaa
