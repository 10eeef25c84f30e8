/- The ring: the next act of one who pushes, and of one who pops. Written by ringgen. -/
import Derived.Test.YtoecoijmkjhkgaaRing2
namespace Go.Proofs.Ytoecoijmkjhkgaa
open Go.RowKit

set_option maxHeartbeats 2000000 in
set_option maxRecDepth 100000 in
theorem ponext_1 (w : World) (b n : Nat) (at_ pos v : Int) (has : Bool) (h : IsQ w b true ⟨at_, n, 1, pos, has, v⟩) :
    Calls Try.prog 61 #[.pointer (some ⟨b, 0, none⟩), .iface 39 (.pointer (some ⟨b, 0, none⟩))] w fun e w' => e = .returned (.agg #[.int .i64 1, .int .i64 (slotOf at_ n pos), .int .u64 0, .int .u64 0]) ∧ Only [] w w' := by
  have HK := Lib.hid h.ok
  obtain ⟨k1, k2, k3, k4, k5, k6, k7, k8, k9, k10⟩ := h.ok
  dsimp only at k1 k2 k3 k4 k5 k6 k7 k8 k9 k10
  have HZ := Lib.hid (Blk.new w 74 #[.int .i64 0, .int .i64 0, .int .u64 0, .int .u64 0])
  have HO := Lib.hid ((Only.refl [] w).alloc (.cells #[.int .i64 0, .int .i64 0, .int .u64 0, .int .u64 0] 74))
  have H := Lib.hid (h.only HO.out (by simp))
  clear h
  have c0 := H.out.obj.at 0 (v := .int .i64 at_) rfl
  have c1 := H.out.obj.at 1 (v := .int .i64 n) rfl
  have c2 := H.out.obj.at 2 (v := .int .i64 1) rfl
  have c3 := H.out.obj.at 3 (v := .int .u64 pos) rfl
  have z0 := HZ.out.at 0 (v := .int .i64 0) rfl
  have f0 := HZ.out.frozen 0
  have z1 := HZ.out.at 1 (v := .int .i64 0) rfl
  have f1 := HZ.out.frozen 1
  have z2 := HZ.out.at 2 (v := .int .u64 0) rfl
  have f2 := HZ.out.frozen 2
  have z3 := HZ.out.at 3 (v := .int .u64 0) rfl
  have f3 := HZ.out.frozen 3
  have HD : Hid (IsQ (World.drew (w.alloc (.cells #[.int .i64 0, .int .i64 0, .int .u64 0, .int .u64 0] 74))) b true ⟨at_, n, 1, pos, has, v⟩) := Lib.hid ⟨H.out.obj, H.out.ok⟩
  have HOD : Hid (Only [] w (World.drew (w.alloc (.cells #[.int .i64 0, .int .i64 0, .int .u64 0, .int .u64 0] 74)))) := Lib.hid HO.out.drew
  have HZD : Hid (Blk (World.drew (w.alloc (.cells #[.int .i64 0, .int .i64 0, .int .u64 0, .int .u64 0] 74))) w.heap.size 74 #[.int .i64 0, .int .i64 0, .int .u64 0, .int .u64 0]) := Lib.hid HZ.out
  have d0 : World.cell? (World.drew (w.alloc (.cells #[.int .i64 0, .int .i64 0, .int .u64 0, .int .u64 0] 74))) ⟨b, 0, none⟩ = some (.int .i64 at_) := HD.out.obj.at 0 rfl
  have d1 : World.cell? (World.drew (w.alloc (.cells #[.int .i64 0, .int .i64 0, .int .u64 0, .int .u64 0] 74))) ⟨b, 1, none⟩ = some (.int .i64 n) := HD.out.obj.at 1 rfl
  have d5 : World.cell? (World.drew (w.alloc (.cells #[.int .i64 0, .int .i64 0, .int .u64 0, .int .u64 0] 74))) ⟨b, 5, none⟩ = some (.int .u64 v) := HD.out.obj.at 5 rfl
  go_enter Try.func61, Try.ntmps61
  go_wp2_with fail
  go_region_with (go_at_call 81
                  refine (slot_of _ at_ pos n 1 v has HK.out).mono ?_
                  rintro e w2 ⟨rfl, ho⟩
                  have HO : Hid (Only [] w w2) := Lib.hid (Only.trans HOD.out ho)
                  have HZ := Lib.hid (Blk.only HZD.out ho (by simp))
                  have z0 := HZ.out.at 0 (v := .int .i64 0) rfl
                  have f0 := HZ.out.frozen 0
                  have z1 := HZ.out.at 1 (v := .int .i64 0) rfl
                  have f1 := HZ.out.frozen 1
                  have z2 := HZ.out.at 2 (v := .int .u64 0) rfl
                  have f2 := HZ.out.frozen 2
                  have z3 := HZ.out.at 3 (v := .int .u64 0) rfl
                  have f3 := HZ.out.frozen 3)
  all_goals
    go_wp2_with fail
    have HF := Lib.hid ((((HZ.out.set 0 (.int .i64 1)).set 1 (.int .i64 (slotOf at_ n pos))).set 2 (.int .u64 0)).set 3 (.int .u64 0))
    have p0 := HF.out.at 0 (v := .int .i64 1) rfl
    have p1 := HF.out.at 1 (v := .int .i64 (slotOf at_ n pos)) rfl
    have p2 := HF.out.at 2 (v := .int .u64 0) rfl
    have p3 := HF.out.at 3 (v := .int .u64 0) rfl
    refine bodyPost_ret (v := .agg #[.int .i64 1, .int .i64 (slotOf at_ n pos), .int .u64 0, .int .u64 0]) (by simp [results, Try.results61, go_sem, p0, p1, p2, p3]) rfl ⟨rfl, ?_⟩
    exact sets4 HO.out (Nat.le_refl _) _ _ _ _

end Go.Proofs.Ytoecoijmkjhkgaa
