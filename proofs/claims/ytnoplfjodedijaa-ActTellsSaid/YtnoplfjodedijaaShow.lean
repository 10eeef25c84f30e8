/- The walks of act.Lays, act.does, act.Show. -/
import Derived.Test.YtnoplfjodedijaaStrs
import Derived.Laws.StructEq
import Derived.Laws.EntriesVeiled
namespace Go.Proofs.Ytnoplfjodedijaa
open Go.RowKit

theorem gmap_ins {mt kt vt : TypeId} {K : TypeDesc} (hu : Try.prog.underlying mt = some (.map kt vt)) (hku : Try.prog.underlying kt = some K) (W : World) (r : Nat) (hr : r = W.heap.size) (es : Array MapEntry) (c : Nat) (k v : Value) (hk : MapKept.IsKey K k) (hf : Instr.findNow K k es.toList 0 = some none) :
    Sem.run Try.prog (Instr.mapUpdate mt (.map (some r)) k v) (W.alloc (.map es c)) = .ok () (W.alloc (.map (es.push ⟨k, v, c⟩) (c + 1))) := by
  subst hr
  have hb : (W.alloc (.map es c)).heap[W.heap.size]? = some (.map es c) := by show (W.heap.push _)[W.heap.size]? = _; simp
  have hs : ({ (W.alloc (.map es c)) with heap := (W.alloc (.map es c)).heap.setIfInBounds W.heap.size (.map (es.push ⟨k, v, c⟩) (c + 1)) } : World) = W.alloc (.map (es.push ⟨k, v, c⟩) (c + 1)) := by
    have e : (W.heap.push (Obj.map es c)).setIfInBounds W.heap.size (.map (es.push ⟨k, v, c⟩) (c + 1)) = W.heap.push (.map (es.push ⟨k, v, c⟩) (c + 1)) := by
      apply Array.ext'
      simp
    show ({ W with heap := (W.heap.push (Obj.map es c)).setIfInBounds W.heap.size (.map (es.push ⟨k, v, c⟩) (c + 1)) } : World) = { W with heap := W.heap.push (.map (es.push ⟨k, v, c⟩) (c + 1)) }
    rw [e]
  simp [Instr.mapUpdate, run_underlying hu, MapKept.run_getObj_map hb, MapKept.run_checkKey hku hk, MapKept.run_findKey hku hf, MapKept.run_setObj_map _ hb, Result.andThen]
  exact hs

theorem gmap_look {mt kt vt : TypeId} {K : TypeDesc} (hu : Try.prog.underlying mt = some (.map kt vt)) (hku : Try.prog.underlying kt = some K) (W : World) (r : Nat) (es : Array MapEntry) (c : Nat) (k : Value) (hk : MapKept.IsKey K k) (hb : W.heap[r]? = some (.map es c)) (n : Nat) (v : Value) (hf : Instr.findNow K k es.toList 0 = some (some (n, v))) :
    Sem.run Try.prog (Instr.lookup mt (.map (some r)) k false) W = .ok v W := by
  simp [Instr.lookup, run_underlying hu, MapKept.run_getObj_map hb, MapKept.run_checkKey hku hk, MapKept.run_findKey hku hf, Result.andThen]

theorem gmap_miss {mt kt vt : TypeId} {K : TypeDesc} (hu : Try.prog.underlying mt = some (.map kt vt)) (hku : Try.prog.underlying kt = some K) (W : World) (r : Nat) (es : Array MapEntry) (c : Nat) (k z : Value) (hz : Sem.run Try.prog (zeroValue vt) W = .ok z W) (hk : MapKept.IsKey K k) (hb : W.heap[r]? = some (.map es c)) (hf : Instr.findNow K k es.toList 0 = some none) :
    Sem.run Try.prog (Instr.lookup mt (.map (some r)) k false) W = .ok z W := by
  simp [Instr.lookup, run_underlying hu, MapKept.run_getObj_map hb, MapKept.run_checkKey hku hk, MapKept.run_findKey hku hf, Result.andThen, hz]

theorem lays_any (w : World) (k i a b : Int) : Calls Try.prog 16 #[.agg #[.int .i64 k, .int .i64 i, .int .u64 a, .int .u64 b]] w fun e w' =>
    e = .returned (.bool (decide (2 ≤ k ∧ k ≤ 4))) ∧ Only [] w w' := by
  by_cases h : 2 ≤ k ∧ k ≤ 4
  · rw [decide_eq_true h]
    have : k = 2 ∨ k = 3 ∨ k = 4 := by omega
    clear h
    rcases this with rfl | rfl | rfl
    all_goals
      go_enter Try.func16, Try.ntmps16
      go_wp2
      go_ret
      exact ⟨rfl, (Only.refl _ _).alloc _⟩
  · rw [decide_eq_false h]
    have h2 : (k == 2) = false := by simp; omega
    have h3 : (k == 3) = false := by simp; omega
    have h4 : (k == 4) = false := by simp; omega
    clear h
    go_enter Try.func16, Try.ntmps16
    go_wp2
    go_ret
    exact ⟨rfl, (Only.refl _ _).alloc _⟩

theorem does_any (w : World) (k i a b : Int) : Calls Try.prog 48 #[.agg #[.int .i64 k, .int .i64 i, .int .u64 a, .int .u64 b]] w fun e w' =>
    e = .returned (.bool (decide (1 ≤ k ∧ k ≤ 4))) ∧ Only [] w w' := by
  by_cases h : 2 ≤ k ∧ k ≤ 4
  · rw [decide_eq_true (show 1 ≤ k ∧ k ≤ 4 by omega)]
    have hb := Lib.hid (Blk.new w 24 #[.int .i64 k, .int .i64 i, .int .u64 a, .int .u64 b])
    go_enter Try.func48, Try.ntmps48
    go_wp2_with fail
    refine (lays_any _ k i a b).mono ?_
    rintro e w' ⟨rfl, ho⟩
    have HO := Lib.hid ho
    have hr := hb.out.only ho (by simp)
    have q0 := hr.at 0 rfl
    clear ho hr
    rw [decide_eq_true h]
    clear h
    go_wp2
    go_ret
    exact ⟨rfl, ((Only.refl _ _).alloc _).trans HO.out⟩
  by_cases h1 : k = 1
  · subst h1
    rw [decide_eq_true (show 1 ≤ (1 : Int) ∧ (1 : Int) ≤ 4 by omega)]
    have hb := Lib.hid (Blk.new w 24 #[.int .i64 1, .int .i64 i, .int .u64 a, .int .u64 b])
    go_enter Try.func48, Try.ntmps48
    go_wp2_with fail
    refine (lays_any _ 1 i a b).mono ?_
    rintro e w' ⟨rfl, ho⟩
    have HO := Lib.hid ho
    have hr := hb.out.only ho (by simp)
    have q0 := hr.at 0 rfl
    clear ho hr
    rw [decide_eq_false h]
    clear h
    go_wp2
    go_ret
    exact ⟨rfl, ((Only.refl _ _).alloc _).trans HO.out⟩
  · rw [decide_eq_false (show ¬ (1 ≤ k ∧ k ≤ 4) by omega)]
    have h1' : (k == 1) = false := by simp [h1]
    have hb := Lib.hid (Blk.new w 24 #[.int .i64 k, .int .i64 i, .int .u64 a, .int .u64 b])
    go_enter Try.func48, Try.ntmps48
    go_wp2_with fail
    refine (lays_any _ k i a b).mono ?_
    rintro e w' ⟨rfl, ho⟩
    have HO := Lib.hid ho
    have hr := hb.out.only ho (by simp)
    have q0 := hr.at 0 rfl
    clear ho hr
    rw [decide_eq_false h]
    clear h h1
    go_wp2
    go_ret
    exact ⟨rfl, ((Only.refl _ _).alloc _).trans HO.out⟩

/-- The table of names. -/
def nmE (k : Int) (s : List UInt8) (n : Nat) : MapEntry := ⟨.int .i64 k, .string (bs s), n⟩
def nm1 : Array MapEntry := #[nmE 1 [108, 111, 97, 100] 0]
def nm2 : Array MapEntry := #[nmE 1 [108, 111, 97, 100] 0, nmE 2 [115, 116, 111, 114, 101] 1]
def nm3 : Array MapEntry := #[nmE 1 [108, 111, 97, 100] 0, nmE 2 [115, 116, 111, 114, 101] 1, nmE 3 [99, 97, 115] 2]
def nm4 : Array MapEntry := #[nmE 1 [108, 111, 97, 100] 0, nmE 2 [115, 116, 111, 114, 101] 1, nmE 3 [99, 97, 115] 2, nmE 4 [97, 100, 100] 3]

theorem nins1 (W : World) : Sem.run Try.prog (Instr.mapUpdate 91 (.map (some W.heap.size)) (.int .i64 1) (.string ⟨#[108, 111, 97, 100]⟩)) (W.alloc (.map #[] 0)) = .ok () (W.alloc (.map nm1 1)) :=
  gmap_ins Try.underlying91 Try.underlying3 W _ rfl #[] 0 _ _ (by simp [MapKept.IsKey]) rfl
theorem nins2 (W : World) : Sem.run Try.prog (Instr.mapUpdate 91 (.map (some W.heap.size)) (.int .i64 2) (.string ⟨#[115, 116, 111, 114, 101]⟩)) (W.alloc (.map nm1 1)) = .ok () (W.alloc (.map nm2 2)) :=
  gmap_ins Try.underlying91 Try.underlying3 W _ rfl nm1 1 _ _ (by simp [MapKept.IsKey]) rfl
theorem nins3 (W : World) : Sem.run Try.prog (Instr.mapUpdate 91 (.map (some W.heap.size)) (.int .i64 3) (.string ⟨#[99, 97, 115]⟩)) (W.alloc (.map nm2 2)) = .ok () (W.alloc (.map nm3 3)) :=
  gmap_ins Try.underlying91 Try.underlying3 W _ rfl nm2 2 _ _ (by simp [MapKept.IsKey]) rfl
theorem nins4 (W : World) : Sem.run Try.prog (Instr.mapUpdate 91 (.map (some W.heap.size)) (.int .i64 4) (.string ⟨#[97, 100, 100]⟩)) (W.alloc (.map nm3 3)) = .ok () (W.alloc (.map nm4 4)) :=
  gmap_ins Try.underlying91 Try.underlying3 W _ rfl nm3 3 _ _ (by simp [MapKept.IsKey]) rfl
theorem nlook (W : World) (k : Int) (n : Nat) (s : List UInt8) (hf : Instr.findNow (.int .i64) (.int .i64 k) nm4.toList 0 = some (some (n, .string (bs s)))) :
    Sem.run Try.prog (Instr.lookup 91 (.map (some W.heap.size)) (.int .i64 k) false) (W.alloc (.map nm4 4)) = .ok (.string (bs s)) (W.alloc (.map nm4 4)) :=
  gmap_look Try.underlying91 Try.underlying3 _ _ nm4 4 _ (by simp [MapKept.IsKey]) (by show (W.heap.push _)[W.heap.size]? = _; simp) n _ hf

end Go.Proofs.Ytnoplfjodedijaa
