/- The deque: what a task of one kind takes of what came. Written by deqtook. -/
import Derived.Test.YtoecoijmkjhkgaaDeq2
namespace Go.Proofs.Ytoecoijmkjhkgaa
open Go.RowKit

set_option maxHeartbeats 2000000 in
set_option maxRecDepth 100000 in
theorem took_pop_0 (w : World) (b kb n : Nat) (at_ v top bot x : Int) (has got ok : Bool) (_x0 : 0 ≤ x) (_x1 : x < 18446744073709551616) (h : IsD w b kb ⟨at_, n, 1, 0, has, false, v, top, bot, got⟩) :
    Calls Try.prog 114 #[.pointer (some ⟨kb, 0, none⟩), .pointer (some ⟨b, 0, none⟩), .agg #[.int .u64 x, .bool ok, .int .i64 0]] w fun e w' => e = .returned (.tuple #[]) ∧ Only [b, kb] w w' ∧ IsD w' b kb ⟨at_, n, 1, 1, has, false, v, top, (IntKind.u64.wrap (x - 1)), got⟩ := by
  have HS := Lib.hid h.ok
  have k3 := h.ok.n1
  have k4 := h.ok.n64
  dsimp only at k3 k4
  have hne : kb ≠ b := h.kind.ne h.obj (show (116 : Nat) ≠ 126 by decide)
  have hne2 : b ≠ kb := fun e => hne e.symm
  have HB := Lib.hid (h.obj.alloc (.cells #[.int .u64 x, .bool ok, .int .i64 0] 128))
  have HK := Lib.hid (h.kind.alloc (.cells #[.int .u64 x, .bool ok, .int .i64 0] 128))
  have HRS := Lib.hid (Blk.new w 128 #[.int .u64 x, .bool ok, .int .i64 0])
  have d1 := HB.out.at 1 (v := .int .i64 n) rfl
  have d3 := HB.out.at 3 (v := .int .i64 0) rfl
  have d4 := HB.out.at 4 (v := .bool has) rfl
  have d5 := HB.out.at 5 (v := .bool false) rfl
  have f3 := HB.out.frozen 3
  have f4 := HB.out.frozen 4
  have f5 := HB.out.frozen 5
  have q0 := HK.out.at 0 (v := .int .u64 v) rfl
  have g0 := HK.out.frozen 0
  have q1 := HK.out.at 1 (v := .int .u64 top) rfl
  have g1 := HK.out.frozen 1
  have q2 := HK.out.at 2 (v := .int .u64 bot) rfl
  have g2 := HK.out.frozen 2
  have q3 := HK.out.at 3 (v := .bool got) rfl
  have g3 := HK.out.frozen 3
  clear h
  go_enter Try.func114, Try.ntmps114
  go_wp2_with fail
  refine bodyPost_end (v := .tuple #[]) (by simp [results, Try.results114, go_sem]) rfl ⟨rfl, ?_, ⟨?_, ?_, ?_⟩⟩
  · exact (Only.setCell (p := ⟨b, 3, none⟩) (Only.setCell (p := ⟨kb, 2, none⟩) ((Only.refl [b, kb] w).alloc (.cells #[.int .u64 x, .bool ok, .int .i64 0] 128)) (.inl (by simp)) (.int .u64 (IntKind.u64.wrap (x - 1)))) (.inl (by simp)) (.int .i64 1))
  · exact ((Blk.far (p := ⟨kb, 2, none⟩) HB.out hne2 (.int .u64 (IntKind.u64.wrap (x - 1)))).set 3 (.int .i64 1))
  · exact (Blk.far (p := ⟨b, 3, none⟩) (HK.out.set 2 (.int .u64 (IntKind.u64.wrap (x - 1)))) hne (.int .i64 1))
  · exact ⟨HS.out.a0, HS.out.a1, HS.out.n1, HS.out.n64, HS.out.k2, HS.out.v0, HS.out.v1, HS.out.t0, HS.out.t1, (wrap_u64_range _).1, (wrap_u64_range _).2, by dsimp only; omega, by simp, by dsimp only; omega⟩

set_option maxHeartbeats 2000000 in
set_option maxRecDepth 100000 in
theorem took_pop_1 (w : World) (b kb n : Nat) (at_ v top bot x : Int) (has got ok : Bool) (_x0 : 0 ≤ x) (_x1 : x < 18446744073709551616) (h : IsD w b kb ⟨at_, n, 1, 1, has, false, v, top, bot, got⟩) :
    Calls Try.prog 114 #[.pointer (some ⟨kb, 0, none⟩), .pointer (some ⟨b, 0, none⟩), .agg #[.int .u64 x, .bool ok, .int .i64 0]] w fun e w' => e = .returned (.tuple #[]) ∧ Only [b, kb] w w' ∧ IsD w' b kb ⟨at_, n, 1, 2, has, false, v, top, bot, got⟩ := by
  have HS := Lib.hid h.ok
  have k3 := h.ok.n1
  have k4 := h.ok.n64
  dsimp only at k3 k4
  have hne : kb ≠ b := h.kind.ne h.obj (show (116 : Nat) ≠ 126 by decide)
  have hne2 : b ≠ kb := fun e => hne e.symm
  have HB := Lib.hid (h.obj.alloc (.cells #[.int .u64 x, .bool ok, .int .i64 0] 128))
  have HK := Lib.hid (h.kind.alloc (.cells #[.int .u64 x, .bool ok, .int .i64 0] 128))
  have HRS := Lib.hid (Blk.new w 128 #[.int .u64 x, .bool ok, .int .i64 0])
  have d1 := HB.out.at 1 (v := .int .i64 n) rfl
  have d3 := HB.out.at 3 (v := .int .i64 1) rfl
  have d4 := HB.out.at 4 (v := .bool has) rfl
  have d5 := HB.out.at 5 (v := .bool false) rfl
  have f3 := HB.out.frozen 3
  have f4 := HB.out.frozen 4
  have f5 := HB.out.frozen 5
  have q0 := HK.out.at 0 (v := .int .u64 v) rfl
  have g0 := HK.out.frozen 0
  have q1 := HK.out.at 1 (v := .int .u64 top) rfl
  have g1 := HK.out.frozen 1
  have q2 := HK.out.at 2 (v := .int .u64 bot) rfl
  have g2 := HK.out.frozen 2
  have q3 := HK.out.at 3 (v := .bool got) rfl
  have g3 := HK.out.frozen 3
  clear h
  go_enter Try.func114, Try.ntmps114
  go_wp2_with fail
  refine bodyPost_end (v := .tuple #[]) (by simp [results, Try.results114, go_sem]) rfl ⟨rfl, ?_, ⟨?_, ?_, ?_⟩⟩
  · exact (Only.setCell (p := ⟨b, 3, none⟩) ((Only.refl [b, kb] w).alloc (.cells #[.int .u64 x, .bool ok, .int .i64 0] 128)) (.inl (by simp)) (.int .i64 2))
  · exact (HB.out.set 3 (.int .i64 2))
  · exact (Blk.far (p := ⟨b, 3, none⟩) HK.out hne (.int .i64 2))
  · exact ⟨HS.out.a0, HS.out.a1, HS.out.n1, HS.out.n64, HS.out.k2, HS.out.v0, HS.out.v1, HS.out.t0, HS.out.t1, HS.out.b0, HS.out.b1, by dsimp only; omega, by simp, by dsimp only; omega⟩

set_option maxHeartbeats 2000000 in
set_option maxRecDepth 100000 in
theorem took_pop_2y (w : World) (b kb n : Nat) (at_ v top bot x : Int) (has got ok : Bool) (x0 : 0 ≤ x) (x1 : x < 18446744073709551616) (hc : 0 < dif x bot) (h : IsD w b kb ⟨at_, n, 1, 2, has, false, v, top, bot, got⟩) :
    Calls Try.prog 114 #[.pointer (some ⟨kb, 0, none⟩), .pointer (some ⟨b, 0, none⟩), .agg #[.int .u64 x, .bool ok, .int .i64 0]] w fun e w' => e = .returned (.tuple #[]) ∧ Only [b, kb] w w' ∧ IsD w' b kb ⟨at_, n, 1, 5, has, false, v, x, bot, got⟩ := by
  have HS := Lib.hid h.ok
  have k3 := h.ok.n1
  have k4 := h.ok.n64
  dsimp only at k3 k4
  have hne : kb ≠ b := h.kind.ne h.obj (show (116 : Nat) ≠ 126 by decide)
  have hne2 : b ≠ kb := fun e => hne e.symm
  have HB := Lib.hid (h.obj.alloc (.cells #[.int .u64 x, .bool ok, .int .i64 0] 128))
  have HK := Lib.hid (h.kind.alloc (.cells #[.int .u64 x, .bool ok, .int .i64 0] 128))
  have HRS := Lib.hid (Blk.new w 128 #[.int .u64 x, .bool ok, .int .i64 0])
  have d1 := HB.out.at 1 (v := .int .i64 n) rfl
  have d3 := HB.out.at 3 (v := .int .i64 2) rfl
  have d4 := HB.out.at 4 (v := .bool has) rfl
  have d5 := HB.out.at 5 (v := .bool false) rfl
  have f3 := HB.out.frozen 3
  have f4 := HB.out.frozen 4
  have f5 := HB.out.frozen 5
  have q0 := HK.out.at 0 (v := .int .u64 v) rfl
  have g0 := HK.out.frozen 0
  have q1 := HK.out.at 1 (v := .int .u64 top) rfl
  have g1 := HK.out.frozen 1
  have q2 := HK.out.at 2 (v := .int .u64 bot) rfl
  have g2 := HK.out.frozen 2
  have q3 := HK.out.at 3 (v := .bool got) rfl
  have g3 := HK.out.frozen 3
  have hd1 : wrap64 (IntKind.u64.wrap (x - bot)) = dif x bot := rfl
  have hd3 : IntKind.u64.wrap (n : Int) = n := by rw [IntKind.wrap_u64]; omega
  clear h
  go_enter Try.func114, Try.ntmps114
  go_wp2_with fail
  go_region
  all_goals
    go_wp2_with fail
    refine bodyPost_end (v := .tuple #[]) (by simp [results, Try.results114, go_sem]) rfl ⟨rfl, ?_, ⟨?_, ?_, ?_⟩⟩
    · exact (Only.setCell (p := ⟨b, 3, none⟩) (Only.setCell (p := ⟨b, 3, none⟩) (Only.setCell (p := ⟨kb, 1, none⟩) ((Only.refl [b, kb] w).alloc (.cells #[.int .u64 x, .bool ok, .int .i64 0] 128)).drew (.inl (by simp)) (.int .u64 x)) (.inl (by simp)) (.int .i64 4)) (.inl (by simp)) (.int .i64 5))
    · exact (((Blk.far (p := ⟨kb, 1, none⟩) HB.out hne2 (.int .u64 x)).set 3 (.int .i64 4)).set 3 (.int .i64 5))
    · exact (Blk.far (p := ⟨b, 3, none⟩) (Blk.far (p := ⟨b, 3, none⟩) (HK.out.set 1 (.int .u64 x)) hne (.int .i64 4)) hne (.int .i64 5))
    · exact ⟨HS.out.a0, HS.out.a1, HS.out.n1, HS.out.n64, HS.out.k2, HS.out.v0, HS.out.v1, x0, x1, HS.out.b0, HS.out.b1, by dsimp only; omega, by simp, by dsimp only; omega⟩

set_option maxHeartbeats 2000000 in
set_option maxRecDepth 100000 in
theorem took_pop_2n (w : World) (b kb n : Nat) (at_ v top bot x : Int) (has got ok : Bool) (x0 : 0 ≤ x) (x1 : x < 18446744073709551616) (hc : ¬ 0 < dif x bot) (h : IsD w b kb ⟨at_, n, 1, 2, has, false, v, top, bot, got⟩) :
    Calls Try.prog 114 #[.pointer (some ⟨kb, 0, none⟩), .pointer (some ⟨b, 0, none⟩), .agg #[.int .u64 x, .bool ok, .int .i64 0]] w fun e w' => e = .returned (.tuple #[]) ∧ Only [b, kb] w w' ∧ IsD w' b kb ⟨at_, n, 1, 3, has, false, v, x, bot, got⟩ := by
  have HS := Lib.hid h.ok
  have k3 := h.ok.n1
  have k4 := h.ok.n64
  dsimp only at k3 k4
  have hne : kb ≠ b := h.kind.ne h.obj (show (116 : Nat) ≠ 126 by decide)
  have hne2 : b ≠ kb := fun e => hne e.symm
  have HB := Lib.hid (h.obj.alloc (.cells #[.int .u64 x, .bool ok, .int .i64 0] 128))
  have HK := Lib.hid (h.kind.alloc (.cells #[.int .u64 x, .bool ok, .int .i64 0] 128))
  have HRS := Lib.hid (Blk.new w 128 #[.int .u64 x, .bool ok, .int .i64 0])
  have d1 := HB.out.at 1 (v := .int .i64 n) rfl
  have d3 := HB.out.at 3 (v := .int .i64 2) rfl
  have d4 := HB.out.at 4 (v := .bool has) rfl
  have d5 := HB.out.at 5 (v := .bool false) rfl
  have f3 := HB.out.frozen 3
  have f4 := HB.out.frozen 4
  have f5 := HB.out.frozen 5
  have q0 := HK.out.at 0 (v := .int .u64 v) rfl
  have g0 := HK.out.frozen 0
  have q1 := HK.out.at 1 (v := .int .u64 top) rfl
  have g1 := HK.out.frozen 1
  have q2 := HK.out.at 2 (v := .int .u64 bot) rfl
  have g2 := HK.out.frozen 2
  have q3 := HK.out.at 3 (v := .bool got) rfl
  have g3 := HK.out.frozen 3
  have hd1 : wrap64 (IntKind.u64.wrap (x - bot)) = dif x bot := rfl
  have hd3 : IntKind.u64.wrap (n : Int) = n := by rw [IntKind.wrap_u64]; omega
  clear h
  go_enter Try.func114, Try.ntmps114
  go_wp2_with fail
  go_region
  all_goals
    go_wp2_with fail
    refine bodyPost_end (v := .tuple #[]) (by simp [results, Try.results114, go_sem]) rfl ⟨rfl, ?_, ⟨?_, ?_, ?_⟩⟩
    · exact (Only.setCell (p := ⟨b, 3, none⟩) (Only.setCell (p := ⟨kb, 1, none⟩) ((Only.refl [b, kb] w).alloc (.cells #[.int .u64 x, .bool ok, .int .i64 0] 128)).drew (.inl (by simp)) (.int .u64 x)) (.inl (by simp)) (.int .i64 3))
    · exact ((Blk.far (p := ⟨kb, 1, none⟩) HB.out hne2 (.int .u64 x)).set 3 (.int .i64 3))
    · exact (Blk.far (p := ⟨b, 3, none⟩) (HK.out.set 1 (.int .u64 x)) hne (.int .i64 3))
    · exact ⟨HS.out.a0, HS.out.a1, HS.out.n1, HS.out.n64, HS.out.k2, HS.out.v0, HS.out.v1, x0, x1, HS.out.b0, HS.out.b1, by dsimp only; omega, by simp, by dsimp only; omega⟩

set_option maxHeartbeats 2000000 in
set_option maxRecDepth 100000 in
theorem took_pop_3y (w : World) (b kb n : Nat) (at_ v top bot x : Int) (has got ok : Bool) (x0 : 0 ≤ x) (x1 : x < 18446744073709551616) (hc : dif top bot < 0) (h : IsD w b kb ⟨at_, n, 1, 3, has, false, v, top, bot, got⟩) :
    Calls Try.prog 114 #[.pointer (some ⟨kb, 0, none⟩), .pointer (some ⟨b, 0, none⟩), .agg #[.int .u64 x, .bool ok, .int .i64 0]] w fun e w' => e = .returned (.tuple #[]) ∧ Only [b, kb] w w' ∧ IsD w' b kb ⟨at_, n, 1, 4, true, true, x, top, bot, got⟩ := by
  have HS := Lib.hid h.ok
  have k3 := h.ok.n1
  have k4 := h.ok.n64
  dsimp only at k3 k4
  have hne : kb ≠ b := h.kind.ne h.obj (show (116 : Nat) ≠ 126 by decide)
  have hne2 : b ≠ kb := fun e => hne e.symm
  have HB := Lib.hid (h.obj.alloc (.cells #[.int .u64 x, .bool ok, .int .i64 0] 128))
  have HK := Lib.hid (h.kind.alloc (.cells #[.int .u64 x, .bool ok, .int .i64 0] 128))
  have HRS := Lib.hid (Blk.new w 128 #[.int .u64 x, .bool ok, .int .i64 0])
  have d1 := HB.out.at 1 (v := .int .i64 n) rfl
  have d3 := HB.out.at 3 (v := .int .i64 3) rfl
  have d4 := HB.out.at 4 (v := .bool has) rfl
  have d5 := HB.out.at 5 (v := .bool false) rfl
  have f3 := HB.out.frozen 3
  have f4 := HB.out.frozen 4
  have f5 := HB.out.frozen 5
  have q0 := HK.out.at 0 (v := .int .u64 v) rfl
  have g0 := HK.out.frozen 0
  have q1 := HK.out.at 1 (v := .int .u64 top) rfl
  have g1 := HK.out.frozen 1
  have q2 := HK.out.at 2 (v := .int .u64 bot) rfl
  have g2 := HK.out.frozen 2
  have q3 := HK.out.at 3 (v := .bool got) rfl
  have g3 := HK.out.frozen 3
  have hd1 : wrap64 (IntKind.u64.wrap (top - bot)) = dif top bot := rfl
  have hd3 : IntKind.u64.wrap (n : Int) = n := by rw [IntKind.wrap_u64]; omega
  clear h
  go_enter Try.func114, Try.ntmps114
  go_wp2_with fail
  go_region
  all_goals
    go_wp2_with fail
    refine (dqend_at _ b true (.bool has) (.bool false) (by first | exact d4 | (simp [go_sem, d4]; done) | exact (Blk.far (p := ⟨kb, 0, none⟩) HB.out hne2 (.int .u64 x)).at 4 rfl) (by first | exact d5 | exact (Blk.far (p := ⟨kb, 0, none⟩) HB.out hne2 (.int .u64 x)).at 5 rfl) (by first | exact f4 | exact (Blk.far (p := ⟨kb, 0, none⟩) HB.out hne2 (.int .u64 x)).frozen 4) (by first | exact f5 | exact (Blk.far (p := ⟨kb, 0, none⟩) HB.out hne2 (.int .u64 x)).frozen 5)).mono ?_
    rintro e w5 ⟨rfl, rfl⟩
    go_wp2_with fail
    refine bodyPost_end (v := .tuple #[]) (by simp [results, Try.results114, go_sem]) rfl ⟨rfl, ?_, ⟨?_, ?_, ?_⟩⟩
    · exact (Only.setCell (p := ⟨b, 3, none⟩) (Only.setCell (p := ⟨b, 4, none⟩) (Only.setCell (p := ⟨b, 5, none⟩) (Only.setCell (p := ⟨kb, 0, none⟩) ((Only.refl [b, kb] w).alloc (.cells #[.int .u64 x, .bool ok, .int .i64 0] 128)).drew (.inl (by simp)) (.int .u64 x)) (.inl (by simp)) (.bool true)) (.inl (by simp)) (.bool true)) (.inl (by simp)) (.int .i64 4))
    · exact ((((Blk.far (p := ⟨kb, 0, none⟩) HB.out hne2 (.int .u64 x)).set 5 (.bool true)).set 4 (.bool true)).set 3 (.int .i64 4))
    · exact (Blk.far (p := ⟨b, 3, none⟩) (Blk.far (p := ⟨b, 4, none⟩) (Blk.far (p := ⟨b, 5, none⟩) (HK.out.set 0 (.int .u64 x)) hne (.bool true)) hne (.bool true)) hne (.int .i64 4))
    · exact ⟨HS.out.a0, HS.out.a1, HS.out.n1, HS.out.n64, HS.out.k2, x0, x1, HS.out.t0, HS.out.t1, HS.out.b0, HS.out.b1, by dsimp only; omega, by simp, by dsimp only; omega⟩

set_option maxHeartbeats 2000000 in
set_option maxRecDepth 100000 in
theorem took_pop_3n (w : World) (b kb n : Nat) (at_ v top bot x : Int) (has got ok : Bool) (x0 : 0 ≤ x) (x1 : x < 18446744073709551616) (hc : ¬ dif top bot < 0) (h : IsD w b kb ⟨at_, n, 1, 3, has, false, v, top, bot, got⟩) :
    Calls Try.prog 114 #[.pointer (some ⟨kb, 0, none⟩), .pointer (some ⟨b, 0, none⟩), .agg #[.int .u64 x, .bool ok, .int .i64 0]] w fun e w' => e = .returned (.tuple #[]) ∧ Only [b, kb] w w' ∧ IsD w' b kb ⟨at_, n, 1, 4, has, false, x, top, bot, got⟩ := by
  have HS := Lib.hid h.ok
  have k3 := h.ok.n1
  have k4 := h.ok.n64
  dsimp only at k3 k4
  have hne : kb ≠ b := h.kind.ne h.obj (show (116 : Nat) ≠ 126 by decide)
  have hne2 : b ≠ kb := fun e => hne e.symm
  have HB := Lib.hid (h.obj.alloc (.cells #[.int .u64 x, .bool ok, .int .i64 0] 128))
  have HK := Lib.hid (h.kind.alloc (.cells #[.int .u64 x, .bool ok, .int .i64 0] 128))
  have HRS := Lib.hid (Blk.new w 128 #[.int .u64 x, .bool ok, .int .i64 0])
  have d1 := HB.out.at 1 (v := .int .i64 n) rfl
  have d3 := HB.out.at 3 (v := .int .i64 3) rfl
  have d4 := HB.out.at 4 (v := .bool has) rfl
  have d5 := HB.out.at 5 (v := .bool false) rfl
  have f3 := HB.out.frozen 3
  have f4 := HB.out.frozen 4
  have f5 := HB.out.frozen 5
  have q0 := HK.out.at 0 (v := .int .u64 v) rfl
  have g0 := HK.out.frozen 0
  have q1 := HK.out.at 1 (v := .int .u64 top) rfl
  have g1 := HK.out.frozen 1
  have q2 := HK.out.at 2 (v := .int .u64 bot) rfl
  have g2 := HK.out.frozen 2
  have q3 := HK.out.at 3 (v := .bool got) rfl
  have g3 := HK.out.frozen 3
  have hd1 : wrap64 (IntKind.u64.wrap (top - bot)) = dif top bot := rfl
  have hd3 : IntKind.u64.wrap (n : Int) = n := by rw [IntKind.wrap_u64]; omega
  clear h
  go_enter Try.func114, Try.ntmps114
  go_wp2_with fail
  go_region
  all_goals
    go_wp2_with fail
    refine bodyPost_end (v := .tuple #[]) (by simp [results, Try.results114, go_sem]) rfl ⟨rfl, ?_, ⟨?_, ?_, ?_⟩⟩
    · exact (Only.setCell (p := ⟨b, 3, none⟩) (Only.setCell (p := ⟨kb, 0, none⟩) ((Only.refl [b, kb] w).alloc (.cells #[.int .u64 x, .bool ok, .int .i64 0] 128)).drew (.inl (by simp)) (.int .u64 x)) (.inl (by simp)) (.int .i64 4))
    · exact ((Blk.far (p := ⟨kb, 0, none⟩) HB.out hne2 (.int .u64 x)).set 3 (.int .i64 4))
    · exact (Blk.far (p := ⟨b, 3, none⟩) (HK.out.set 0 (.int .u64 x)) hne (.int .i64 4))
    · exact ⟨HS.out.a0, HS.out.a1, HS.out.n1, HS.out.n64, HS.out.k2, x0, x1, HS.out.t0, HS.out.t1, HS.out.b0, HS.out.b1, by dsimp only; omega, by simp, by dsimp only; omega⟩

set_option maxHeartbeats 2000000 in
set_option maxRecDepth 100000 in
theorem took_pop_4 (w : World) (b kb n : Nat) (at_ v top bot x : Int) (has got ok : Bool) (_x0 : 0 ≤ x) (_x1 : x < 18446744073709551616) (h : IsD w b kb ⟨at_, n, 1, 4, has, false, v, top, bot, got⟩) :
    Calls Try.prog 114 #[.pointer (some ⟨kb, 0, none⟩), .pointer (some ⟨b, 0, none⟩), .agg #[.int .u64 x, .bool ok, .int .i64 0]] w fun e w' => e = .returned (.tuple #[]) ∧ Only [b, kb] w w' ∧ IsD w' b kb ⟨at_, n, 1, 5, has, false, v, top, bot, ok⟩ := by
  have HS := Lib.hid h.ok
  have k3 := h.ok.n1
  have k4 := h.ok.n64
  dsimp only at k3 k4
  have hne : kb ≠ b := h.kind.ne h.obj (show (116 : Nat) ≠ 126 by decide)
  have hne2 : b ≠ kb := fun e => hne e.symm
  have HB := Lib.hid (h.obj.alloc (.cells #[.int .u64 x, .bool ok, .int .i64 0] 128))
  have HK := Lib.hid (h.kind.alloc (.cells #[.int .u64 x, .bool ok, .int .i64 0] 128))
  have HRS := Lib.hid (Blk.new w 128 #[.int .u64 x, .bool ok, .int .i64 0])
  have d1 := HB.out.at 1 (v := .int .i64 n) rfl
  have d3 := HB.out.at 3 (v := .int .i64 4) rfl
  have d4 := HB.out.at 4 (v := .bool has) rfl
  have d5 := HB.out.at 5 (v := .bool false) rfl
  have f3 := HB.out.frozen 3
  have f4 := HB.out.frozen 4
  have f5 := HB.out.frozen 5
  have q0 := HK.out.at 0 (v := .int .u64 v) rfl
  have g0 := HK.out.frozen 0
  have q1 := HK.out.at 1 (v := .int .u64 top) rfl
  have g1 := HK.out.frozen 1
  have q2 := HK.out.at 2 (v := .int .u64 bot) rfl
  have g2 := HK.out.frozen 2
  have q3 := HK.out.at 3 (v := .bool got) rfl
  have g3 := HK.out.frozen 3
  clear h
  go_enter Try.func114, Try.ntmps114
  go_wp2_with fail
  refine bodyPost_end (v := .tuple #[]) (by simp [results, Try.results114, go_sem]) rfl ⟨rfl, ?_, ⟨?_, ?_, ?_⟩⟩
  · exact (Only.setCell (p := ⟨b, 3, none⟩) (Only.setCell (p := ⟨kb, 3, none⟩) ((Only.refl [b, kb] w).alloc (.cells #[.int .u64 x, .bool ok, .int .i64 0] 128)) (.inl (by simp)) (.bool ok)) (.inl (by simp)) (.int .i64 5))
  · exact ((Blk.far (p := ⟨kb, 3, none⟩) HB.out hne2 (.bool ok)).set 3 (.int .i64 5))
  · exact (Blk.far (p := ⟨b, 3, none⟩) (HK.out.set 3 (.bool ok)) hne (.int .i64 5))
  · exact ⟨HS.out.a0, HS.out.a1, HS.out.n1, HS.out.n64, HS.out.k2, HS.out.v0, HS.out.v1, HS.out.t0, HS.out.t1, HS.out.b0, HS.out.b1, by dsimp only; omega, by simp, by dsimp only; omega⟩

set_option maxHeartbeats 2000000 in
set_option maxRecDepth 100000 in
theorem took_pop_5 (w : World) (b kb n : Nat) (at_ v top bot x : Int) (has got ok : Bool) (_x0 : 0 ≤ x) (_x1 : x < 18446744073709551616) (h : IsD w b kb ⟨at_, n, 1, 5, has, false, v, top, bot, got⟩) :
    Calls Try.prog 114 #[.pointer (some ⟨kb, 0, none⟩), .pointer (some ⟨b, 0, none⟩), .agg #[.int .u64 x, .bool ok, .int .i64 0]] w fun e w' => e = .returned (.tuple #[]) ∧ Only [b, kb] w w' ∧ IsD w' b kb ⟨at_, n, 1, 6, got, true, v, top, bot, got⟩ := by
  have HS := Lib.hid h.ok
  have k3 := h.ok.n1
  have k4 := h.ok.n64
  dsimp only at k3 k4
  have hne : kb ≠ b := h.kind.ne h.obj (show (116 : Nat) ≠ 126 by decide)
  have hne2 : b ≠ kb := fun e => hne e.symm
  have HB := Lib.hid (h.obj.alloc (.cells #[.int .u64 x, .bool ok, .int .i64 0] 128))
  have HK := Lib.hid (h.kind.alloc (.cells #[.int .u64 x, .bool ok, .int .i64 0] 128))
  have HRS := Lib.hid (Blk.new w 128 #[.int .u64 x, .bool ok, .int .i64 0])
  have d1 := HB.out.at 1 (v := .int .i64 n) rfl
  have d3 := HB.out.at 3 (v := .int .i64 5) rfl
  have d4 := HB.out.at 4 (v := .bool has) rfl
  have d5 := HB.out.at 5 (v := .bool false) rfl
  have f3 := HB.out.frozen 3
  have f4 := HB.out.frozen 4
  have f5 := HB.out.frozen 5
  have q0 := HK.out.at 0 (v := .int .u64 v) rfl
  have g0 := HK.out.frozen 0
  have q1 := HK.out.at 1 (v := .int .u64 top) rfl
  have g1 := HK.out.frozen 1
  have q2 := HK.out.at 2 (v := .int .u64 bot) rfl
  have g2 := HK.out.frozen 2
  have q3 := HK.out.at 3 (v := .bool got) rfl
  have g3 := HK.out.frozen 3
  clear h
  go_enter Try.func114, Try.ntmps114
  go_wp2_with fail
  refine (dqend_at _ b got (.bool has) (.bool false) (by first | exact d4 | (simp [go_sem, d4]; done) | exact (Blk.far (p := ⟨kb, 0, none⟩) HB.out hne2 (.int .u64 x)).at 4 rfl) (by first | exact d5 | exact (Blk.far (p := ⟨kb, 0, none⟩) HB.out hne2 (.int .u64 x)).at 5 rfl) (by first | exact f4 | exact (Blk.far (p := ⟨kb, 0, none⟩) HB.out hne2 (.int .u64 x)).frozen 4) (by first | exact f5 | exact (Blk.far (p := ⟨kb, 0, none⟩) HB.out hne2 (.int .u64 x)).frozen 5)).mono ?_
  rintro e w5 ⟨rfl, rfl⟩
  go_wp2_with fail
  refine bodyPost_end (v := .tuple #[]) (by simp [results, Try.results114, go_sem]) rfl ⟨rfl, ?_, ⟨?_, ?_, ?_⟩⟩
  · exact (Only.setCell (p := ⟨b, 3, none⟩) (Only.setCell (p := ⟨b, 4, none⟩) (Only.setCell (p := ⟨b, 5, none⟩) ((Only.refl [b, kb] w).alloc (.cells #[.int .u64 x, .bool ok, .int .i64 0] 128)) (.inl (by simp)) (.bool true)) (.inl (by simp)) (.bool got)) (.inl (by simp)) (.int .i64 6))
  · exact (((HB.out.set 5 (.bool true)).set 4 (.bool got)).set 3 (.int .i64 6))
  · exact (Blk.far (p := ⟨b, 3, none⟩) (Blk.far (p := ⟨b, 4, none⟩) (Blk.far (p := ⟨b, 5, none⟩) HK.out hne (.bool true)) hne (.bool got)) hne (.int .i64 6))
  · exact ⟨HS.out.a0, HS.out.a1, HS.out.n1, HS.out.n64, HS.out.k2, HS.out.v0, HS.out.v1, HS.out.t0, HS.out.t1, HS.out.b0, HS.out.b1, by dsimp only; omega, by simp, by dsimp only; omega⟩

end Go.Proofs.Ytoecoijmkjhkgaa
