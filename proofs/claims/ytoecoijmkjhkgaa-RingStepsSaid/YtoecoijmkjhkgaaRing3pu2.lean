/- The ring: the next act of one who pushes, and of one who pops. Written by ringgen. -/
import Derived.Test.YtoecoijmkjhkgaaRing2
namespace Go.Proofs.Ytoecoijmkjhkgaa
open Go.RowKit

set_option maxHeartbeats 2000000 in
set_option maxRecDepth 100000 in
theorem punext_2 (w : World) (b n : Nat) (at_ pos v : Int) (has : Bool) (h : IsQ w b false ⟨at_, n, 2, pos, has, v⟩) :
    Calls Try.prog 61 #[.pointer (some ⟨b, 0, none⟩), .iface 36 (.pointer (some ⟨b, 0, none⟩))] w fun e w' => e = .returned (.agg #[.int .i64 3, .int .i64 (at_), .int .u64 pos, .int .u64 (IntKind.u64.wrap (pos + 1))]) ∧ Only [] w w' := by
  have HK := Lib.hid h.ok
  obtain ⟨k1, k2, k3, k4, k5, k6, k7, k8, k9, k10⟩ := h.ok
  dsimp only at k1 k2 k3 k4 k5 k6 k7 k8 k9 k10
  have HZ := Lib.hid (Blk.new w 74 #[.int .i64 0, .int .i64 0, .int .u64 0, .int .u64 0])
  have HO := Lib.hid ((Only.refl [] w).alloc (.cells #[.int .i64 0, .int .i64 0, .int .u64 0, .int .u64 0] 74))
  have H := Lib.hid (h.only HO.out (by simp))
  clear h
  have hm := meth_pu_count
  have c0 := H.out.obj.at 0 (v := .int .i64 at_) rfl
  have c2 := H.out.obj.at 2 (v := .int .i64 2) rfl
  have c3 := H.out.obj.at 3 (v := .int .u64 pos) rfl
  have z0 := HZ.out.at 0 (v := .int .i64 0) rfl
  have f0 := HZ.out.frozen 0
  have z1 := HZ.out.at 1 (v := .int .i64 0) rfl
  have f1 := HZ.out.frozen 1
  have z2 := HZ.out.at 2 (v := .int .u64 0) rfl
  have f2 := HZ.out.frozen 2
  have z3 := HZ.out.at 3 (v := .int .u64 0) rfl
  have f3 := HZ.out.frozen 3
  have HD : Hid (IsQ (World.drew (w.alloc (.cells #[.int .i64 0, .int .i64 0, .int .u64 0, .int .u64 0] 74))) b false ⟨at_, n, 2, pos, has, v⟩) := Lib.hid ⟨H.out.obj, H.out.ok⟩
  have HOD : Hid (Only [] w (World.drew (w.alloc (.cells #[.int .i64 0, .int .i64 0, .int .u64 0, .int .u64 0] 74)))) := Lib.hid HO.out.drew
  have HZD : Hid (Blk (World.drew (w.alloc (.cells #[.int .i64 0, .int .i64 0, .int .u64 0, .int .u64 0] 74))) w.heap.size 74 #[.int .i64 0, .int .i64 0, .int .u64 0, .int .u64 0]) := Lib.hid HZ.out
  have d0 : World.cell? (World.drew (w.alloc (.cells #[.int .i64 0, .int .i64 0, .int .u64 0, .int .u64 0] 74))) ⟨b, 0, none⟩ = some (.int .i64 at_) := HD.out.obj.at 0 rfl
  have d1 : World.cell? (World.drew (w.alloc (.cells #[.int .i64 0, .int .i64 0, .int .u64 0, .int .u64 0] 74))) ⟨b, 1, none⟩ = some (.int .i64 n) := HD.out.obj.at 1 rfl
  have d5 : World.cell? (World.drew (w.alloc (.cells #[.int .i64 0, .int .i64 0, .int .u64 0, .int .u64 0] 74))) ⟨b, 5, none⟩ = some (.int .u64 v) := HD.out.obj.at 5 rfl
  go_enter Try.func61, Try.ntmps61
  go_wp2_with fail
  go_region_with (go_at_call 105
                  refine (pucount_at _ b at_ d0).mono ?_
                  rintro e w2 ⟨rfl, rfl⟩)
  all_goals
    go_wp2_with fail
    refine bodyPost_ret (v := .agg #[.int .i64 3, .int .i64 (at_), .int .u64 pos, .int .u64 (IntKind.u64.wrap (pos + 1))]) (by simp [results, Try.results61, go_sem]) rfl ⟨rfl, ?_⟩
    exact ((Only.refl _ _).alloc _).drew

end Go.Proofs.Ytoecoijmkjhkgaa
