/- What the walk of DequeOnce wants: the world of law 07 as it lies. -/
import Derived.Test.YtoecoijmkjhkgaaDonceP
import Derived.Test.YtoecoijmkjhkgaaShell3
import Derived.Deep.RegionHeld3
namespace Go.Proofs.Ytoecoijmkjhkgaa
open Go.RowKit

theorem Try.infoI : (Try.prog.info? 3).map (fun i => (i.zero, i.size, i.bytes)) = some (some (.int .i64 0), 1, 8) := by kernel_rfl
def icells (L : List Int) : Array Value := (L.map (Value.int .i64)).toArray
theorem icells_set (L : List Int) (k : Nat) (v : Int) : (icells L).setIfInBounds k (.int .i64 v) = icells (L.set k v) := by
  unfold icells
  rw [List.setIfInBounds_toArray, List.map_set]
theorem icells_zero (n : Nat) : madeCells (Value.int .i64 0).cells n = icells (List.replicate n 0) := by
  apply Array.ext'
  show (madeCells #[Value.int .i64 0] n).toList = _
  rw [toList_madeCells_one]
  simp [icells]
theorem icells_at (L : List Int) (i : Nat) (h : i < L.length) : (icells L)[i]? = some (.int .i64 (nth L i)) := by simp [icells, nth, h]
theorem mkI (n : Nat) (h : n ≤ 65536) (W : World) : (Instr.makeSlice 44 (.int .i64 (n : Int)) (.int .i64 (n : Int))).run Try.prog W =
    .ok (.slice (some ⟨W.heap.size, 0, none⟩) n n) (W.alloc (.cells (icells (List.replicate n 0)) 3)) := by
  obtain ⟨i0, hi, hz0, hz1, hz2⟩ := info_parts Try.infoI
  rw [run_make W 44 3 i0 _ Try.underlying44 hi hz0 .i64 .i64 n n (by omega) (Int.le_refl _) (by rw [hz2]; omega) (by omega), hz1, Nat.mul_one, Int.toNat_natCast, icells_zero]

abbrev Tk := Option (Nat × Nat × DQ)
def pt : Tk → Value
  | none => .pointer none
  | some (b, _, _) => .pointer (some ⟨b, 0, none⟩)
def stOf (x : Tk) : Option DQ := x.map fun y => y.2.2
def wCells (mb n : Nat) (o : Value) (pops : Bool) (at_ : Nat) (t0 t1 t2 : Value) (hb N pushed taken : Nat) : Array Value :=
  #[.pointer (some ⟨mb, 0, none⟩), .int .i64 3, .int .i64 n, o, .bool pops, .int .i64 at_, t0, t1, t2, .slice (some ⟨hb, 0, none⟩) N N, .int .i64 pushed, .int .i64 taken, .bool false]

/-- The world as it lies. -/
structure WSt (w wr : World) (mb ms xb hb lb n N : Nat) (cs : Array Value) (m : MS) (t : Nat → Tk) (pops : Bool) (at_ : Nat) (had : List Int) (pushed taken : Nat) : Prop where
  out : Only [] w wr
  lo : w.heap.size ≤ mb ∧ w.heap.size ≤ ms ∧ w.heap.size ≤ xb ∧ w.heap.size ≤ hb
  case_ : Blk wr w.heap.size 58 cs
  lock : Blk wr lb 59 #[.int .i64 3, .int .i64 n]
  mem : IsMem wr mb ms m
  rng : m.drng
  obj : Blk wr xb 64 (wCells mb n (pt (t 3)) pops at_ (pt (t 0)) (pt (t 1)) (pt (t 2)) hb N pushed taken)
  row : Blk wr hb 3 (icells had)
  is : ∀ k, k < 4 → ∀ b kb s, t k = some (b, kb, s) → IsD wr b kb s ∧ w.heap.size ≤ b ∧ w.heap.size ≤ kb
  dis : ∀ i j, i < 4 → j < 4 → i ≠ j → ∀ b kb s b' kb' s', t i = some (b, kb, s) → t j = some (b', kb', s') → b ≠ b' ∧ kb ≠ kb'

theorem dkT_not' {k t : Nat} (h1 : t ≠ 122) (h2 : t ≠ 116) (h3 : t ≠ 119) : t ≠ dkT k := by
  unfold dkT
  split
  · exact h1
  split
  · exact h2
  · exact h3

section
variable {w wr w1 w2 w' : World} {mb ms xb hb lb n N : Nat} {cs : Array Value} {m m' : MS} {t t' : Nat → Tk} {pops pops' : Bool} {at_ at' : Nat} {had had' : List Int} {pushed taken pushed' taken' : Nat}

theorem WSt.quiet (h : WSt w wr mb ms xb hb lb n N cs m t pops at_ had pushed taken) (o : Only [] wr w') : WSt w w' mb ms xb hb lb n N cs m t pops at_ had pushed taken :=
  ⟨h.out.trans o, h.lo, h.case_.only o (by simp), h.lock.only o (by simp), h.mem.only o (by simp) (by simp), h.rng, h.obj.only o (by simp), h.row.only o (by simp), fun k hk b kb s e => ⟨(h.is k hk b kb s e).1.quiet o, (h.is k hk b kb s e).2⟩, h.dis⟩

/-- A task steps. -/
theorem WSt.step (h : WSt w wr mb ms xb hb lb n N cs m t pops at_ had pushed taken) {k b kb : Nat} {s s' : DQ} (hk : k < 4) (e : t k = some (b, kb, s)) (o : Only [b, kb, mb, ms] wr w') (hm : IsMem w' mb ms m') (hr : m'.drng) (hd : IsD w' b kb s') :
    WSt w w' mb ms xb hb lb n N cs m' (upv t k (some (b, kb, s'))) pops at_ had pushed taken := by
  obtain ⟨hq, l1, l2⟩ := h.is k hk b kb s e
  have hl := h.lo
  have m1 := h.mem.obj
  have m2 := h.mem.row
  have far : ∀ {y ty : Nat} {c : Array Value}, Blk wr y ty c → ty ≠ 126 → ty ≠ 122 → ty ≠ 116 → ty ≠ 119 → ty ≠ 102 → ty ≠ 38 → y ∉ [b, kb, mb, ms] := fun hb e1 e2 e3 e4 e5 e6 => by
    have h1 := hb.ne hq.obj e1
    have h2 := hb.ne hq.kind (dkT_not' e2 e3 e4)
    have h3 := hb.ne m1 e5
    have h4 := hb.ne m2 e6
    simp; omega
  have hpt : ∀ j, pt (upv t k (some (b, kb, s')) j) = pt (t j) := fun j => by
    by_cases e1 : j = k
    · rw [e1, upv_same, e]; rfl
    · rw [upv_far _ _ _ _ e1]
  refine ⟨h.out.then o (by simp; omega), h.lo, h.case_.only o (far h.case_ (by decide) (by decide) (by decide) (by decide) (by decide) (by decide)), h.lock.only o (far h.lock (by decide) (by decide) (by decide) (by decide) (by decide) (by decide)), hm, hr, ?_, h.row.only o (far h.row (by decide) (by decide) (by decide) (by decide) (by decide) (by decide)), fun j hj b' kb' s'' e' => ?_, fun i j hi hj hij b1 kb1 s1 b2 kb2 s2 e1 e2 => ?_⟩
  · rw [hpt, hpt, hpt, hpt]
    exact h.obj.only o (far h.obj (by decide) (by decide) (by decide) (by decide) (by decide) (by decide))
  · by_cases e1 : j = k
    · rw [e1, upv_same] at e'
      obtain ⟨rfl, rfl, rfl⟩ : b = b' ∧ kb = kb' ∧ s' = s'' := by simpa using e'
      exact ⟨hd, l1, l2⟩
    · rw [upv_far _ _ _ _ e1] at e'
      obtain ⟨hq', l3, l4⟩ := h.is j hj b' kb' s'' e'
      refine ⟨hq'.only o ?_ ?_, l3, l4⟩
      · have h1 := (h.dis j k hj hk e1 _ _ _ _ _ _ e' e).1
        have h2 : b' ≠ kb := hq'.obj.ne hq.kind (dkT_not' (by decide) (by decide) (by decide))
        have h3 := hq'.obj.ne m1 (by decide)
        have h4 := hq'.obj.ne m2 (by decide)
        simp; omega
      · have h1 := (h.dis j k hj hk e1 _ _ _ _ _ _ e' e).2
        have h2 : b ≠ kb' := hq.obj.ne hq'.kind (dkT_not' (by decide) (by decide) (by decide))
        have h3 : mb ≠ kb' := m1.ne hq'.kind (dkT_not' (by decide) (by decide) (by decide))
        have h4 : ms ≠ kb' := m2.ne hq'.kind (dkT_not' (by decide) (by decide) (by decide))
        simp; omega
  · by_cases f1 : i = k
    · have f2 : j ≠ k := by omega
      rw [f1, upv_same] at e1
      rw [upv_far _ _ _ _ f2] at e2
      obtain ⟨rfl, rfl, _⟩ : b = b1 ∧ kb = kb1 ∧ s' = s1 := by simpa using e1
      exact h.dis k j hk hj (by omega) _ _ _ _ _ _ e e2
    · rw [upv_far _ _ _ _ f1] at e1
      by_cases f2 : j = k
      · rw [f2, upv_same] at e2
        obtain ⟨rfl, rfl, _⟩ : b = b2 ∧ kb = kb2 ∧ s' = s2 := by simpa using e2
        exact h.dis i k hi hk f1 _ _ _ _ _ _ e1 e
      · rw [upv_far _ _ _ _ f2] at e2
        exact h.dis i j hi hj hij _ _ _ _ _ _ e1 e2

/-- The world's own cells turn, and the counts. -/
theorem WSt.put (h : WSt w wr mb ms xb hb lb n N cs m t pops at_ had pushed taken) (o : Only [xb, hb] wr w') (ht : ∀ k, k < 4 → t' k = none ∨ t' k = t k)
    (hobj : Blk w' xb 64 (wCells mb n (pt (t' 3)) pops' at' (pt (t' 0)) (pt (t' 1)) (pt (t' 2)) hb N pushed' taken')) (hrow : Blk w' hb 3 (icells had')) :
    WSt w w' mb ms xb hb lb n N cs m t' pops' at' had' pushed' taken' := by
  have hl := h.lo
  have m1 := h.obj
  have m2 := h.row
  have far : ∀ {y ty : Nat} {c : Array Value}, Blk wr y ty c → ty ≠ 64 → ty ≠ 3 → y ∉ [xb, hb] := fun hb e1 e2 => by
    have h1 := hb.ne m1 e1
    have h2 := hb.ne m2 e2
    simp; omega
  refine ⟨h.out.then o (by simp; omega), h.lo, h.case_.only o (far h.case_ (by decide) (by decide)), h.lock.only o (far h.lock (by decide) (by decide)), h.mem.only o (far h.mem.obj (by decide) (by decide)) (far h.mem.row (by decide) (by decide)), h.rng, hobj, hrow, fun k hk b kb s e => ?_, fun i j hi hj hij b1 kb1 s1 b2 kb2 s2 e1 e2 => ?_⟩
  · rcases ht k hk with e1 | e1
    · rw [e1] at e; cases e
    · rw [e1] at e
      obtain ⟨hq, l1, l2⟩ := h.is k hk b kb s e
      refine ⟨hq.only o (far hq.obj (by decide) (by decide)) ?_, l1, l2⟩
      have h1 : xb ≠ kb := m1.ne hq.kind (dkT_not' (by decide) (by decide) (by decide))
      have h2 : hb ≠ kb := m2.ne hq.kind (dkT_not' (by decide) (by decide) (by decide))
      simp; omega
  · rcases ht i hi with f1 | f1
    · rw [f1] at e1; cases e1
    rcases ht j hj with f2 | f2
    · rw [f2] at e2; cases e2
    rw [f1] at e1
    rw [f2] at e2
    exact h.dis i j hi hj hij _ _ _ _ _ _ e1 e2

/-- A new task, its pointer laid into the world's cells. -/
theorem WSt.fresh (h : WSt w wr mb ms xb hb lb n N cs m t pops at_ had pushed taken) (o1 : Only [] wr w1) {k b kb : Nat} {s : DQ} (_hk : k < 4) (_hn : t k = none) (hd : IsD w1 b kb s) (hb0 : wr.heap.size ≤ b) (hkb0 : wr.heap.size ≤ kb) (o : Only [xb] w1 w')
    (hobj : Blk w' xb 64 (wCells mb n (pt (upv t k (some (b, kb, s)) 3)) pops' at' (pt (upv t k (some (b, kb, s)) 0)) (pt (upv t k (some (b, kb, s)) 1)) (pt (upv t k (some (b, kb, s)) 2)) hb N pushed taken)) :
    WSt w w' mb ms xb hb lb n N cs m (upv t k (some (b, kb, s))) pops' at' had pushed taken := by
  have h1 := h.quiet o1
  have hl := h.lo
  have hz : w.heap.size ≤ wr.heap.size := h.out.size
  have m1 := h1.obj
  have far : ∀ {y ty : Nat} {c : Array Value}, Blk w1 y ty c → ty ≠ 64 → y ∉ [xb] := fun hb e1 => by
    have := hb.ne m1 e1
    simp; omega
  have kfar : ∀ {b kb : Nat} {s : DQ}, IsD w1 b kb s → kb ∉ [xb] := fun hq => by
    have h1 := m1.ne hq.kind (dkT_not' (by decide) (by decide) (by decide))
    simp; omega
  have lt : ∀ j, j < 4 → ∀ b kb s, t j = some (b, kb, s) → b < wr.heap.size ∧ kb < wr.heap.size := fun j hj b kb s e => ⟨(h.is j hj b kb s e).1.obj.lt, (h.is j hj b kb s e).1.kind.lt⟩
  refine ⟨h1.out.then o (by simp; omega), h.lo, h1.case_.only o (far h1.case_ (by decide)), h1.lock.only o (far h1.lock (by decide)), h1.mem.only o (far h1.mem.obj (by decide)) (far h1.mem.row (by decide)), h.rng, hobj, h1.row.only o (far h1.row (by decide)), fun j hj b' kb' s' e => ?_, fun i j hi hj hij b1 kb1 s1 b2 kb2 s2 e1 e2 => ?_⟩
  · by_cases e1 : j = k
    · rw [e1, upv_same] at e
      obtain ⟨rfl, rfl, rfl⟩ : b = b' ∧ kb = kb' ∧ s = s' := by simpa using e
      exact ⟨hd.only o (far hd.obj (by decide)) (kfar hd), by omega, by omega⟩
    · rw [upv_far _ _ _ _ e1] at e
      obtain ⟨hq, l1, l2⟩ := h1.is j hj b' kb' s' e
      exact ⟨hq.only o (far hq.obj (by decide)) (kfar hq), l1, l2⟩
  · by_cases f1 : i = k
    · have f2 : j ≠ k := by omega
      rw [f1, upv_same] at e1
      rw [upv_far _ _ _ _ f2] at e2
      obtain ⟨rfl, rfl, _⟩ : b = b1 ∧ kb = kb1 ∧ s = s1 := by simpa using e1
      have := lt j hj _ _ _ e2
      omega
    · rw [upv_far _ _ _ _ f1] at e1
      by_cases f2 : j = k
      · rw [f2, upv_same] at e2
        obtain ⟨rfl, rfl, _⟩ : b = b2 ∧ kb = kb2 ∧ s = s2 := by simpa using e2
        have := lt i hi _ _ _ e1
        omega
      · rw [upv_far _ _ _ _ f2] at e2
        exact h.dis i j hi hj hij _ _ _ _ _ _ e1 e2
end

end Go.Proofs.Ytoecoijmkjhkgaa
