/- act.Do's table of functions: what an insert and a look-up do. -/
import Derived.Test.YtoecoijmkjhkgaaRef
import Derived.Outline
import Derived.Laws.EntriesVeiled
namespace Go.Proofs.Ytoecoijmkjhkgaa
open Go.RowKit

def doF (f : Nat) : Value := .func (.func f) #[] #[]
def doE (k : Int) (f n : Nat) : MapEntry := ⟨.int .i64 k, doF f, n⟩
def doM1 : Array MapEntry := #[doE 1 77 0]
def doM2 : Array MapEntry := #[doE 1 77 0, doE 2 78 1]
def doM3 : Array MapEntry := #[doE 1 77 0, doE 2 78 1, doE 3 79 2]
def doM4 : Array MapEntry := #[doE 1 77 0, doE 2 78 1, doE 3 79 2, doE 4 80 3]

theorem map_ins (W : World) (r : Nat) (hr : r = W.heap.size) (es : Array MapEntry) (c : Nat) (k : Int) (v : Value) (hf : Instr.findNow (.int .i64) (.int .i64 k) es.toList 0 = some none) :
    Sem.run Try.prog (Instr.mapUpdate 150 (.map (some r)) (.int .i64 k) v) (W.alloc (.map es c)) = .ok () (W.alloc (.map (es.push ⟨.int .i64 k, v, c⟩) (c + 1))) := by
  subst hr
  have hb : (W.alloc (.map es c)).heap[W.heap.size]? = some (.map es c) := by show (W.heap.push _)[W.heap.size]? = _; simp
  have hk : MapKept.IsKey (.int .i64) (.int .i64 k) := by simp [MapKept.IsKey]
  have hs : ({ (W.alloc (.map es c)) with heap := (W.alloc (.map es c)).heap.setIfInBounds W.heap.size (.map (es.push ⟨.int .i64 k, v, c⟩) (c + 1)) } : World) = W.alloc (.map (es.push ⟨.int .i64 k, v, c⟩) (c + 1)) := by
    have e : (W.heap.push (Obj.map es c)).setIfInBounds W.heap.size (.map (es.push ⟨.int .i64 k, v, c⟩) (c + 1)) = W.heap.push (.map (es.push ⟨.int .i64 k, v, c⟩) (c + 1)) := by
      apply Array.ext'
      simp
    show ({ W with heap := (W.heap.push (Obj.map es c)).setIfInBounds W.heap.size (.map (es.push ⟨.int .i64 k, v, c⟩) (c + 1)) } : World) = { W with heap := W.heap.push (.map (es.push ⟨.int .i64 k, v, c⟩) (c + 1)) }
    rw [e]
  simp [Instr.mapUpdate, run_underlying Try.underlying150, MapKept.run_getObj_map hb, MapKept.run_checkKey Try.underlying3 hk, MapKept.run_findKey Try.underlying3 hf, MapKept.run_setObj_map _ hb, Result.andThen]
  exact hs

theorem map_look (W : World) (r : Nat) (es : Array MapEntry) (c : Nat) (k : Int) (hb : W.heap[r]? = some (.map es c)) (n : Nat) (v : Value) (hf : Instr.findNow (.int .i64) (.int .i64 k) es.toList 0 = some (some (n, v))) :
    Sem.run Try.prog (Instr.lookup 150 (.map (some r)) (.int .i64 k) true) W = .ok (.tuple #[v, .bool true]) W := by
  have hk : MapKept.IsKey (.int .i64) (.int .i64 k) := by simp [MapKept.IsKey]
  simp [Instr.lookup, run_underlying Try.underlying150, MapKept.run_getObj_map hb, MapKept.run_checkKey Try.underlying3 hk, MapKept.run_findKey Try.underlying3 hf, Result.andThen]

theorem map_miss (W : World) (r : Nat) (es : Array MapEntry) (c : Nat) (k : Int) (hb : W.heap[r]? = some (.map es c)) (hf : Instr.findNow (.int .i64) (.int .i64 k) es.toList 0 = some none) :
    Sem.run Try.prog (Instr.lookup 150 (.map (some r)) (.int .i64 k) true) W = .ok (.tuple #[.nilFunc, .bool false]) W := by
  have hk : MapKept.IsKey (.int .i64) (.int .i64 k) := by simp [MapKept.IsKey]
  have hz : Sem.run Try.prog (zeroValue 147) W = .ok .nilFunc W := by kernel_rfl
  simp [Instr.lookup, run_underlying Try.underlying150, MapKept.run_getObj_map hb, MapKept.run_checkKey Try.underlying3 hk, MapKept.run_findKey Try.underlying3 hf, Result.andThen, hz]

end Go.Proofs.Ytoecoijmkjhkgaa
