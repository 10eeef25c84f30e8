/- The ring: the next act of one who pushes, and of one who pops. Written by ringgen. -/
import Derived.Test.YtoecoijmkjhkgaaRing2
namespace Go.Proofs.Ytoecoijmkjhkgaa
open Go.RowKit

set_option maxHeartbeats 2000000 in
set_option maxRecDepth 100000 in
theorem punext_0 (w : World) (b n : Nat) (at_ pos v : Int) (has : Bool) (h : IsQ w b false ⟨at_, n, 0, pos, has, v⟩) :
    Calls Try.prog 61 #[.pointer (some ⟨b, 0, none⟩), .iface 36 (.pointer (some ⟨b, 0, none⟩))] w fun e w' => e = .returned (.agg #[.int .i64 1, .int .i64 (at_), .int .u64 0, .int .u64 0]) ∧ Only [] w w' := by
  have HK := Lib.hid h.ok
  obtain ⟨k1, k2, k3, k4, k5, k6, k7, k8, k9, k10⟩ := h.ok
  dsimp only at k1 k2 k3 k4 k5 k6 k7 k8 k9 k10
  have HZ := Lib.hid (Blk.new w 74 #[.int .i64 0, .int .i64 0, .int .u64 0, .int .u64 0])
  have HO := Lib.hid ((Only.refl [] w).alloc (.cells #[.int .i64 0, .int .i64 0, .int .u64 0, .int .u64 0] 74))
  have H := Lib.hid (h.only HO.out (by simp))
  clear h
  have hm := meth_pu_count
  have c0 := H.out.obj.at 0 (v := .int .i64 at_) rfl
  have c2 := H.out.obj.at 2 (v := .int .i64 0) rfl
  have z0 := HZ.out.at 0 (v := .int .i64 0) rfl
  have f0 := HZ.out.frozen 0
  have z1 := HZ.out.at 1 (v := .int .i64 0) rfl
  have f1 := HZ.out.frozen 1
  have z2 := HZ.out.at 2 (v := .int .u64 0) rfl
  have f2 := HZ.out.frozen 2
  have z3 := HZ.out.at 3 (v := .int .u64 0) rfl
  have f3 := HZ.out.frozen 3
  go_enter Try.func61, Try.ntmps61
  go_wp2_with fail
  refine (pucount_at _ b at_ c0).mono ?_
  rintro e w1 ⟨rfl, rfl⟩
  go_wp2_with fail
  refine bodyPost_ret (v := .agg #[.int .i64 1, .int .i64 (at_), .int .u64 0, .int .u64 0]) (by simp [results, Try.results61, go_sem]) rfl ⟨rfl, ?_⟩
  exact (Only.refl _ _).alloc _

end Go.Proofs.Ytoecoijmkjhkgaa
