/- The words as plain states, and each call on them in one contract, in or out of range. -/
import Derived.Test.YtoecoijmkjhkgaaAct0
import Derived.Laws.ResultCell
namespace Go.Proofs.Ytoecoijmkjhkgaa
open Go.RowKit

/-- The state of some words: they themselves, how many calls, how many laid. -/
structure MS where
  L : List Int
  c : Int
  l : Int

namespace MS
def has (m : MS) (i : Int) : Bool := decide (0 ≤ i ∧ i < m.L.length)
def load (m : MS) (i : Int) : MS × Int × Int := if m.has i then (⟨m.L, wrap64 (m.c + 1), m.l⟩, nth m.L i.toNat, 0) else (m, 0, 2)
def store (m : MS) (i v : Int) : MS × Int := if m.has i then (⟨m.L.set i.toNat v, wrap64 (m.c + 1), wrap64 (m.l + 1)⟩, 0) else (m, 2)
def cas (m : MS) (i x y : Int) : MS × Bool × Int :=
  if m.has i then (if nth m.L i.toNat = x then (⟨m.L.set i.toNat y, wrap64 (m.c + 1), wrap64 (m.l + 1)⟩, true, 0) else (⟨m.L, wrap64 (m.c + 1), m.l⟩, false, 0)) else (m, false, 2)
def add (m : MS) (i v : Int) : MS × Int × Int :=
  if m.has i then (⟨m.L.set i.toNat (IntKind.u64.wrap (nth m.L i.toNat + v)), wrap64 (m.c + 1), wrap64 (m.l + 1)⟩, nth m.L i.toNat, 0) else (m, 0, 2)
theorem yes {m : MS} {i : Int} (h : m.has i = true) : 0 ≤ i ∧ i < m.L.length := of_decide_eq_true h
theorem no {m : MS} {i : Int} (h : ¬ m.has i = true) : i < 0 ∨ m.L.length ≤ i := by
  have : ¬ (0 ≤ i ∧ i < m.L.length) := fun hh => h (decide_eq_true hh)
  omega
end MS

/-- What came of an act. -/
structure Res where
  v : Int
  ok : Bool
  e : Int

def Res.val (r : Res) : Value := .agg #[.int .u64 r.v, .bool r.ok, .int .i64 r.e]

/-- An act. -/
structure Act' where
  k : Int
  i : Int
  a : Int
  b : Int

def Act'.val (x : Act') : Value := .agg #[.int .i64 x.k, .int .i64 x.i, .int .u64 x.a, .int .u64 x.b]

/-- Its numbers fit. -/
def Act'.wf (x : Act') : Prop := (Lit.int .i64 x.k).wf = true ∧ (Lit.int .i64 x.i).wf = true ∧ (Lit.int .u64 x.a).wf = true ∧ (Lit.int .u64 x.b).wf = true

/-- The cells behind a slice's address are these acts, four cells each. -/
def ReadsActs (w : World) (A : Option Addr) (l : List Act') : Prop :=
  l = [] ∨ ∃ g o, g < w.heap.size ∧ A = some ⟨g, o, none⟩ ∧ ∀ i (x : Act'), l[i]? = some x →
    w.cell? ⟨g, o + i * 4, none⟩ = some (.int .i64 x.k) ∧ w.cell? ⟨g, o + i * 4 + 1, none⟩ = some (.int .i64 x.i) ∧ w.cell? ⟨g, o + i * 4 + 2, none⟩ = some (.int .u64 x.a) ∧ w.cell? ⟨g, o + i * 4 + 3, none⟩ = some (.int .u64 x.b)

theorem ReadsActs.get {w : World} {A : Option Addr} {l : List Act'} (h : ReadsActs w A l) {k : Nat} (hk : k < l.length) :
    ∃ g o x, A = some ⟨g, o, none⟩ ∧ g < w.heap.size ∧ w.cell? ⟨g, o + k * 4, none⟩ = some (.int .i64 x.k) ∧ w.cell? ⟨g, o + k * 4 + 1, none⟩ = some (.int .i64 x.i) ∧ w.cell? ⟨g, o + k * 4 + 2, none⟩ = some (.int .u64 x.a) ∧ w.cell? ⟨g, o + k * 4 + 3, none⟩ = some (.int .u64 x.b) ∧ l[k]? = some x := by
  rcases h with rfl | ⟨g, o, hg, rfl, hc⟩
  · simp at hk
  · obtain ⟨h0, h1, h2, h3⟩ := hc k l[k] (List.getElem?_eq_getElem hk)
    exact ⟨g, o, l[k], rfl, hg, h0, h1, h2, h3, List.getElem?_eq_getElem hk⟩

theorem cell_lt {w : World} {a : Addr} {v : Value} (h : w.cell? a = some v) : a.block < w.heap.size ∧ a.spot = none := by
  unfold World.cell? at h
  split at h
  · rename_i c _ _ hb
    refine ⟨?_, ?_⟩
    · rcases Nat.lt_or_ge a.block w.heap.size with hl | hg
      · exact hl
      · rw [Array.getElem?_eq_none hg] at hb; cases hb
    · cases hs : a.spot with
      | none => rfl
      | some _ => simp [hs] at h
  · cases h

/-- A slice of words that was opened up to its capacity. -/
theorem words_of {w : World} {a : Addr} {len cap : Nat} {zs : List Int} {q : Bool} (hlc : len ≤ cap) (hm : cap ≤ 9223372036854775807) (hz : zs.length = if q = true then cap else len)
    (hc : ∀ i, i < zs.length → w.cell? (a.add i) = some (.int .u64 (zs.getD i 0))) (hwz : ∀ n ∈ zs, (Lit.int .u64 n).wf = true) :
    ∃ (A : Option Addr) (l : List Int) (cap' : Nat), Value.slice (some a) len cap = .slice A l.length cap' ∧ (∀ x ∈ l, (Lit.int .u64 x).wf = true) ∧ Reads w A l ∧ l.length ≤ 9223372036854775807 := by
  have hle : len ≤ zs.length := by rw [hz]; split <;> omega
  have hl : (zs.take len).length = len := by rw [List.length_take]; omega
  refine ⟨some a, zs.take len, cap, by rw [hl], fun x hx => hwz x (List.mem_of_mem_take hx), ?_, by omega⟩
  rcases Nat.eq_zero_or_pos len with rfl | hpos
  · exact .inl rfl
  · have h0 : w.cell? a = some (.int .u64 (zs.getD 0 0)) := by simpa [Addr.add] using hc 0 (by omega)
    obtain ⟨hlt, hsp⟩ := cell_lt h0
    obtain ⟨g, o, sp⟩ := a
    subst hsp
    refine .inr ⟨g, o, hlt, rfl, fun i hi => ?_⟩
    rw [hl] at hi
    have e : (⟨g, o, none⟩ : Addr).add i = ⟨g, o + i, none⟩ := by
      unfold Addr.add
      split
      · rename_i e; subst e; rfl
      · rfl
    rw [← e, hc i (by omega)]
    simp [nth, List.getD, hi]

/-- From 'each element's cells are four numbers' to a list of acts. -/
theorem acts_of {w : World} {a : Addr} {len : Nat} (h : ∀ i, i < len → ∃ y0 y1 y2 y3 : Int, ((Lit.int .i64 y0).wf = true ∧ (Lit.int .i64 y1).wf = true ∧ (Lit.int .u64 y2).wf = true ∧ (Lit.int .u64 y3).wf = true) ∧ w.cell? (a.add (i * 4)) = some (.int .i64 y0) ∧ w.cell? (a.add (i * 4 + 1)) = some (.int .i64 y1) ∧ w.cell? (a.add (i * 4 + 2)) = some (.int .u64 y2) ∧ w.cell? (a.add (i * 4 + 3)) = some (.int .u64 y3)) :
    ∃ l : List Act', l.length = len ∧ (∀ x ∈ l, x.wf) ∧ ReadsActs w (some a) l := by
  have hx : ∀ i, ∃ x : Act', i < len → x.wf ∧ w.cell? (a.add (i * 4)) = some (.int .i64 x.k) ∧ w.cell? (a.add (i * 4 + 1)) = some (.int .i64 x.i) ∧ w.cell? (a.add (i * 4 + 2)) = some (.int .u64 x.a) ∧ w.cell? (a.add (i * 4 + 3)) = some (.int .u64 x.b) := fun i => by
    by_cases hi : i < len
    · obtain ⟨y0, y1, y2, y3, hw, hc⟩ := h i hi
      exact ⟨⟨y0, y1, y2, y3⟩, fun _ => ⟨hw, hc⟩⟩
    · exact ⟨⟨0, 0, 0, 0⟩, fun hh => absurd hh hi⟩
  refine ⟨(List.range len).map fun i => Classical.choose (hx i), by simp, ?_, ?_⟩
  · intro x hm
    obtain ⟨i, hi, rfl⟩ := List.mem_map.1 hm
    exact (Classical.choose_spec (hx i) (List.mem_range.1 hi)).1
  · rcases Nat.eq_zero_or_pos len with rfl | hpos
    · exact .inl rfl
    · have h0 := (Classical.choose_spec (hx 0) hpos).2.1
      have h0' : w.cell? a = some (.int .i64 (Classical.choose (hx 0)).k) := by simpa [Addr.add] using h0
      obtain ⟨hlt, hsp⟩ := cell_lt h0'
      obtain ⟨g, o, sp⟩ := a
      subst hsp
      have hadd : ∀ n, (⟨g, o, none⟩ : Addr).add n = ⟨g, o + n, none⟩ := fun n => by
        unfold Addr.add
        split
        · rename_i e; subst e; rfl
        · rfl
      refine .inr ⟨g, o, hlt, rfl, fun i x hix => ?_⟩
      have hi : i < len := by
        have := (List.getElem?_eq_some_iff.1 hix).1
        simpa using this
      have hxi : Classical.choose (hx i) = x := by simpa [hi] using hix
      obtain ⟨_, c0, c1, c2, c3⟩ := Classical.choose_spec (hx i) hi
      rw [hxi] at c0 c1 c2 c3
      rw [hadd] at c0 c1 c2 c3
      exact ⟨c0, c1, c2, c3⟩

def MS.act (m : MS) (x : Act') : MS × Res :=
  if x.k = 1 then ((m.load x.i).1, ⟨(m.load x.i).2.1, false, (m.load x.i).2.2⟩)
  else if x.k = 2 then ((m.store x.i x.a).1, ⟨0, false, (m.store x.i x.a).2⟩)
  else if x.k = 3 then ((m.cas x.i x.a x.b).1, ⟨0, (m.cas x.i x.a x.b).2.1, (m.cas x.i x.a x.b).2.2⟩)
  else if x.k = 4 then ((m.add x.i x.a).1, ⟨(m.add x.i x.a).2.1, false, (m.add x.i x.a).2.2⟩)
  else (m, ⟨0, false, 1⟩)

/-- At block b lies a mem.Mem in state m, its words in block s. -/
def IsMem (w : World) (b s : Nat) (m : MS) : Prop := MemAt w b s m.L m.c m.l
def IsRef (w : World) (b s : Nat) (m : MS) : Prop := RefAt w b s m.L m.c m.l

theorem IsMem.only {w w' : World} {b s : Nat} {m : MS} {S : List Nat} (h : IsMem w b s m) (o : Only S w w') (hb : b ∉ S) (hs : s ∉ S) : IsMem w' b s m := MemAt.only h o hb hs
theorem IsRef.only {w w' : World} {b s : Nat} {m : MS} {S : List Nat} (h : IsRef w b s m) (o : Only S w w') (hb : b ∉ S) (hs : s ∉ S) : IsRef w' b s m := RefAt.only h o hb hs
theorem IsMem.lt {w : World} {b s : Nat} {m : MS} (h : IsMem w b s m) : b < w.heap.size ∧ s < w.heap.size := ⟨h.obj.lt, h.row.lt⟩
theorem IsRef.lt {w : World} {b s : Nat} {m : MS} (h : IsRef w b s m) : b < w.heap.size ∧ s < w.heap.size := ⟨h.obj.lt, h.row.lt⟩

section
variable (w : World) (b s : Nat) (m : MS) (i : Int)

theorem load_any (hm : IsMem w b s m) : Calls Try.prog 21 #[.pointer (some ⟨b, 0, none⟩), .int .i64 i] w fun e w' =>
    e = .returned (.tuple #[.int .u64 (m.load i).2.1, .int .i64 (m.load i).2.2]) ∧ Only [b, s] w w' ∧ IsMem w' b s (m.load i).1 := by
  unfold MS.load
  split
  · rename_i h
    exact (load_in w b s m.L m.c m.l i hm (MS.yes h).1 (MS.yes h).2).mono fun e w' ⟨he, ho, h'⟩ => ⟨he, ho.sub (by simp), h'⟩
  · rename_i h
    exact (load_out w b s m.L m.c m.l i hm (MS.no h)).mono fun e w' ⟨he, ho⟩ => ⟨he, ho.sub (by simp), hm.only ho (by simp) (by simp)⟩

theorem store_any (v : Int) (hm : IsMem w b s m) : Calls Try.prog 51 #[.pointer (some ⟨b, 0, none⟩), .int .i64 i, .int .u64 v] w fun e w' =>
    e = .returned (.int .i64 (m.store i v).2) ∧ Only [b, s] w w' ∧ IsMem w' b s (m.store i v).1 := by
  unfold MS.store
  split
  · rename_i h
    exact (store_in w b s m.L m.c m.l i v hm (MS.yes h).1 (MS.yes h).2).mono fun e w' ⟨he, ho, h'⟩ => ⟨he, ho.sub (by simp), h'⟩
  · rename_i h
    exact (store_out w b s m.L m.c m.l i v hm (MS.no h)).mono fun e w' ⟨he, ho⟩ => ⟨he, ho.sub (by simp), hm.only ho (by simp) (by simp)⟩

theorem cas_any (x y : Int) (hm : IsMem w b s m) : Calls Try.prog 87 #[.pointer (some ⟨b, 0, none⟩), .int .i64 i, .int .u64 x, .int .u64 y] w fun e w' =>
    e = .returned (.tuple #[.bool (m.cas i x y).2.1, .int .i64 (m.cas i x y).2.2]) ∧ Only [b, s] w w' ∧ IsMem w' b s (m.cas i x y).1 := by
  unfold MS.cas
  split
  · rename_i h
    split
    · rename_i hx
      exact (cas_yes w b s m.L m.c m.l i x y hm (MS.yes h).1 (MS.yes h).2 hx).mono fun e w' ⟨he, ho, h'⟩ => ⟨he, ho.sub (by simp), h'⟩
    · rename_i hx
      exact (cas_no w b s m.L m.c m.l i x y hm (MS.yes h).1 (MS.yes h).2 hx).mono fun e w' ⟨he, ho, h'⟩ => ⟨he, ho.sub (by simp), h'⟩
  · rename_i h
    exact (cas_out w b s m.L m.c m.l i x y hm (MS.no h)).mono fun e w' ⟨he, ho⟩ => ⟨he, ho.sub (by simp), hm.only ho (by simp) (by simp)⟩

theorem add_any (v : Int) (hm : IsMem w b s m) : Calls Try.prog 88 #[.pointer (some ⟨b, 0, none⟩), .int .i64 i, .int .u64 v] w fun e w' =>
    e = .returned (.tuple #[.int .u64 (m.add i v).2.1, .int .i64 (m.add i v).2.2]) ∧ Only [b, s] w w' ∧ IsMem w' b s (m.add i v).1 := by
  unfold MS.add
  split
  · rename_i h
    exact (add_in w b s m.L m.c m.l i v hm (MS.yes h).1 (MS.yes h).2).mono fun e w' ⟨he, ho, h'⟩ => ⟨he, ho.sub (by simp), h'⟩
  · rename_i h
    exact (add_out w b s m.L m.c m.l i v hm (MS.no h)).mono fun e w' ⟨he, ho⟩ => ⟨he, ho.sub (by simp), hm.only ho (by simp) (by simp)⟩
end

/-! The same, the outcome given. -/
section
variable {w : World} {b s : Nat} {m m' : MS} {i : Int}
theorem load_to {v er : Int} (hm : IsMem w b s m) (h : m.load i = (m', v, er)) : Calls Try.prog 21 #[.pointer (some ⟨b, 0, none⟩), .int .i64 i] w fun e w' =>
    e = .returned (.tuple #[.int .u64 v, .int .i64 er]) ∧ Only [b, s] w w' ∧ IsMem w' b s m' := by
  have := load_any w b s m i hm
  rwa [h] at this
theorem store_to {v er : Int} (hm : IsMem w b s m) (h : m.store i v = (m', er)) : Calls Try.prog 51 #[.pointer (some ⟨b, 0, none⟩), .int .i64 i, .int .u64 v] w fun e w' =>
    e = .returned (.int .i64 er) ∧ Only [b, s] w w' ∧ IsMem w' b s m' := by
  have := store_any w b s m i v hm
  rwa [h] at this
theorem cas_to {x y er : Int} {ok : Bool} (hm : IsMem w b s m) (h : m.cas i x y = (m', ok, er)) : Calls Try.prog 87 #[.pointer (some ⟨b, 0, none⟩), .int .i64 i, .int .u64 x, .int .u64 y] w fun e w' =>
    e = .returned (.tuple #[.bool ok, .int .i64 er]) ∧ Only [b, s] w w' ∧ IsMem w' b s m' := by
  have := cas_any w b s m i x y hm
  rwa [h] at this
theorem add_to {v was er : Int} (hm : IsMem w b s m) (h : m.add i v = (m', was, er)) : Calls Try.prog 88 #[.pointer (some ⟨b, 0, none⟩), .int .i64 i, .int .u64 v] w fun e w' =>
    e = .returned (.tuple #[.int .u64 was, .int .i64 er]) ∧ Only [b, s] w w' ∧ IsMem w' b s m' := by
  have := add_any w b s m i v hm
  rwa [h] at this
end

/-- New words, all 0. -/
def MS.new (n : Nat) : MS := ⟨List.replicate n 0, 0, 0⟩

theorem new_any (w : World) (n : Int) (h0 : 1 ≤ n) (h1 : n ≤ 65536) :
    Calls Try.prog 15 #[.int .i64 n] w fun e w' => ∃ b s, e = .returned (.tuple #[.pointer (some ⟨b, 0, none⟩), .int .i64 0]) ∧ w.heap.size ≤ b ∧ w.heap.size ≤ s ∧ Only [] w w' ∧ IsMem w' b s (MS.new n.toNat) := new_in w n h0 h1

end Go.Proofs.Ytoecoijmkjhkgaa
