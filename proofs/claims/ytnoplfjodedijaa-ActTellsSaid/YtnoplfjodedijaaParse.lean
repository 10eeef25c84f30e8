/- The walk of act.Parse. -/
import Derived.Test.YtnoplfjodedijaaShow2
import Derived.Test.YtnoplfjodedijaaOwn
namespace Go.Proofs.Ytnoplfjodedijaa
open Go.RowKit

theorem bs_beq (l l' : List UInt8) : (bs l == bs l') = decide (l = l') := by
  show (l.toArray == l'.toArray) = _
  exact Bool.eq_iff_iff.2 (by simp)

/-- The table of kinds by name. -/
def kdE (s : List UInt8) (k : Int) (n : Nat) : MapEntry := ⟨.string (bs s), .int .i64 k, n⟩
def kd1 : Array MapEntry := #[kdE [108, 111, 97, 100] 1 0]
def kd2 : Array MapEntry := #[kdE [108, 111, 97, 100] 1 0, kdE [115, 116, 111, 114, 101] 2 1]
def kd3 : Array MapEntry := #[kdE [108, 111, 97, 100] 1 0, kdE [115, 116, 111, 114, 101] 2 1, kdE [99, 97, 115] 3 2]
def kd4 : Array MapEntry := #[kdE [108, 111, 97, 100] 1 0, kdE [115, 116, 111, 114, 101] 2 1, kdE [99, 97, 115] 3 2, kdE [97, 100, 100] 4 3]
theorem kd_find1 (s : List UInt8) (h : ¬ s = [108, 111, 97, 100]) : Instr.findNow .string (.string (bs s)) kd1.toList 0 = some none := by
  simp [kd1, kdE, Instr.findNow, Instr.sameNow, bs_beq, h]
theorem kd_find2 (s : List UInt8) (h : ¬ s = [108, 111, 97, 100]) (h2 : ¬ s = [115, 116, 111, 114, 101]) : Instr.findNow .string (.string (bs s)) kd2.toList 0 = some none := by
  simp [kd2, kdE, Instr.findNow, Instr.sameNow, bs_beq, h, h2]
theorem kd_find3 (s : List UInt8) (h : ¬ s = [108, 111, 97, 100]) (h2 : ¬ s = [115, 116, 111, 114, 101]) (h3 : ¬ s = [99, 97, 115]) : Instr.findNow .string (.string (bs s)) kd3.toList 0 = some none := by
  simp [kd3, kdE, Instr.findNow, Instr.sameNow, bs_beq, h, h2, h3]

theorem kins1 (W : World) : Sem.run Try.prog (Instr.mapUpdate 84 (.map (some W.heap.size)) (.string ⟨#[108, 111, 97, 100]⟩) (.int .i64 1)) (W.alloc (.map #[] 0)) = .ok () (W.alloc (.map kd1 1)) :=
  gmap_ins Try.underlying84 Try.underlying9 W _ rfl #[] 0 _ _ (by simp [MapKept.IsKey]) rfl
theorem kins2 (W : World) : Sem.run Try.prog (Instr.mapUpdate 84 (.map (some W.heap.size)) (.string ⟨#[115, 116, 111, 114, 101]⟩) (.int .i64 2)) (W.alloc (.map kd1 1)) = .ok () (W.alloc (.map kd2 2)) :=
  gmap_ins Try.underlying84 Try.underlying9 W _ rfl kd1 1 _ _ (by simp [MapKept.IsKey]) (kd_find1 [115, 116, 111, 114, 101] (by decide))
theorem kins3 (W : World) : Sem.run Try.prog (Instr.mapUpdate 84 (.map (some W.heap.size)) (.string ⟨#[99, 97, 115]⟩) (.int .i64 3)) (W.alloc (.map kd2 2)) = .ok () (W.alloc (.map kd3 3)) :=
  gmap_ins Try.underlying84 Try.underlying9 W _ rfl kd2 2 _ _ (by simp [MapKept.IsKey]) (kd_find2 [99, 97, 115] (by decide) (by decide))
theorem kins4 (W : World) : Sem.run Try.prog (Instr.mapUpdate 84 (.map (some W.heap.size)) (.string ⟨#[97, 100, 100]⟩) (.int .i64 4)) (W.alloc (.map kd3 3)) = .ok () (W.alloc (.map kd4 4)) :=
  gmap_ins Try.underlying84 Try.underlying9 W _ rfl kd3 3 _ _ (by simp [MapKept.IsKey]) (kd_find3 [97, 100, 100] (by decide) (by decide) (by decide))

theorem klook (W : World) (s : List UInt8) :
    Sem.run Try.prog (Instr.lookup 84 (.map (some W.heap.size)) (.string (bs s)) false) (W.alloc (.map kd4 4)) = .ok (.int .i64 (kindOf s)) (W.alloc (.map kd4 4)) := by
  have hb : (W.alloc (.map kd4 4)).heap[W.heap.size]? = some (.map kd4 4) := by show (W.heap.push _)[W.heap.size]? = _; simp
  have hk : MapKept.IsKey .string (.string (bs s)) := by simp [MapKept.IsKey]
  unfold kindOf
  split
  · exact gmap_look Try.underlying84 Try.underlying9 _ _ kd4 4 _ hk hb 0 _ (by simp [kd4, kdE, Instr.findNow, Instr.sameNow, bs_beq, *])
  split
  · exact gmap_look Try.underlying84 Try.underlying9 _ _ kd4 4 _ hk hb 1 _ (by simp [kd4, kdE, Instr.findNow, Instr.sameNow, bs_beq, *])
  split
  · exact gmap_look Try.underlying84 Try.underlying9 _ _ kd4 4 _ hk hb 2 _ (by simp [kd4, kdE, Instr.findNow, Instr.sameNow, bs_beq, *])
  split
  · exact gmap_look Try.underlying84 Try.underlying9 _ _ kd4 4 _ hk hb 3 _ (by simp [kd4, kdE, Instr.findNow, Instr.sameNow, bs_beq, *])
  · exact gmap_miss Try.underlying84 Try.underlying9 _ _ kd4 4 _ _ (by kernel_rfl) hk hb (by simp [kd4, kdE, Instr.findNow, Instr.sameNow, bs_beq, *])

/-- The table of how many numbers a kind needs. -/
def ndE (k v : Int) (n : Nat) : MapEntry := ⟨.int .i64 k, .int .i64 v, n⟩
def nd1 : Array MapEntry := #[ndE 1 1 0]
def nd2 : Array MapEntry := #[ndE 1 1 0, ndE 2 2 1]
def nd3 : Array MapEntry := #[ndE 1 1 0, ndE 2 2 1, ndE 3 3 2]
def nd4 : Array MapEntry := #[ndE 1 1 0, ndE 2 2 1, ndE 3 3 2, ndE 4 2 3]
theorem dins1 (W : World) : Sem.run Try.prog (Instr.mapUpdate 87 (.map (some W.heap.size)) (.int .i64 1) (.int .i64 1)) (W.alloc (.map #[] 0)) = .ok () (W.alloc (.map nd1 1)) :=
  gmap_ins Try.underlying87 Try.underlying3 W _ rfl #[] 0 _ _ (by simp [MapKept.IsKey]) rfl
theorem dins2 (W : World) : Sem.run Try.prog (Instr.mapUpdate 87 (.map (some W.heap.size)) (.int .i64 2) (.int .i64 2)) (W.alloc (.map nd1 1)) = .ok () (W.alloc (.map nd2 2)) :=
  gmap_ins Try.underlying87 Try.underlying3 W _ rfl nd1 1 _ _ (by simp [MapKept.IsKey]) rfl
theorem dins3 (W : World) : Sem.run Try.prog (Instr.mapUpdate 87 (.map (some W.heap.size)) (.int .i64 3) (.int .i64 3)) (W.alloc (.map nd2 2)) = .ok () (W.alloc (.map nd3 3)) :=
  gmap_ins Try.underlying87 Try.underlying3 W _ rfl nd2 2 _ _ (by simp [MapKept.IsKey]) rfl
theorem dins4 (W : World) : Sem.run Try.prog (Instr.mapUpdate 87 (.map (some W.heap.size)) (.int .i64 4) (.int .i64 2)) (W.alloc (.map nd3 3)) = .ok () (W.alloc (.map nd4 4)) :=
  gmap_ins Try.underlying87 Try.underlying3 W _ rfl nd3 3 _ _ (by simp [MapKept.IsKey]) rfl
theorem dlook (W : World) (k : Int) :
    Sem.run Try.prog (Instr.lookup 87 (.map (some W.heap.size)) (.int .i64 k) false) (W.alloc (.map nd4 4)) = .ok (.int .i64 (need k)) (W.alloc (.map nd4 4)) := by
  have hb : (W.alloc (.map nd4 4)).heap[W.heap.size]? = some (.map nd4 4) := by show (W.heap.push _)[W.heap.size]? = _; simp
  have hk : MapKept.IsKey (.int .i64) (.int .i64 k) := by simp [MapKept.IsKey]
  unfold need
  split
  · exact gmap_look Try.underlying87 Try.underlying3 _ _ nd4 4 _ hk hb 0 _ (by simp [nd4, ndE, Instr.findNow, Instr.sameNow, *])
  split
  · exact gmap_look Try.underlying87 Try.underlying3 _ _ nd4 4 _ hk hb 1 _ (by simp [nd4, ndE, Instr.findNow, Instr.sameNow, *])
  split
  · exact gmap_look Try.underlying87 Try.underlying3 _ _ nd4 4 _ hk hb 2 _ (by simp [nd4, ndE, Instr.findNow, Instr.sameNow, *])
  split
  · exact gmap_look Try.underlying87 Try.underlying3 _ _ nd4 4 _ hk hb 3 _ (by simp [nd4, ndE, Instr.findNow, Instr.sameNow, *])
  · rename_i h1 h2 h3 h4
    have b1 : (k == 1) = false := by simpa using h1
    have b2 : (k == 2) = false := by simpa using h2
    have b3 : (k == 3) = false := by simpa using h3
    have b4 : (k == 4) = false := by simpa using h4
    exact gmap_miss Try.underlying87 Try.underlying3 _ _ nd4 4 _ _ (by kernel_rfl) hk hb (by simp [nd4, ndE, Instr.findNow, Instr.sameNow, b1, b2, b3, b4])

end Go.Proofs.Ytnoplfjodedijaa
