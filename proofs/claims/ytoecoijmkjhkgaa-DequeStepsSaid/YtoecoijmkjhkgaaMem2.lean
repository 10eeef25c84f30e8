/- The walks of package mem: New, Words, Count, Copy, and what is not there. -/
import Derived.Test.YtoecoijmkjhkgaaMem
import Derived.Laws.CopyOwn
import Derived.Laws.MakeOwn
namespace Go.Proofs.Ytoecoijmkjhkgaa
open Go.RowKit

theorem Try.info38 : (Try.prog.info? 38).map (fun i => (i.zero, i.size, i.bytes)) = some (some (.int .u64 0), 1, 8) := by kernel_rfl

theorem cells_zero (n : Nat) : madeCells (Value.int .u64 0).cells n = cellsOf (List.replicate n 0) := by
  apply Array.ext'
  show (madeCells #[Value.int .u64 0] n).toList = _
  rw [toList_madeCells_one]
  simp [cellsOf]

theorem mk40 (n : Int) (h0 : 0 ≤ n) (h1 : n ≤ 65536) (W : World) : (Instr.makeSlice 22 (.int .i64 n) (.int .i64 n)).run Try.prog W =
    .ok (.slice (some ⟨W.heap.size, 0, none⟩) n.toNat n.toNat) (W.alloc (.cells (cellsOf (List.replicate n.toNat 0)) 38)) := by
  obtain ⟨i0, hi, hz0, hz1, hz2⟩ := info_parts Try.info38
  rw [run_make W 22 38 i0 _ Try.underlying22 hi hz0 .i64 .i64 n n h0 (Int.le_refl _) (by rw [hz2]; omega) (by omega), hz1, Nat.mul_one, cells_zero]

theorem new_in (w : World) (n : Int) (h0 : 1 ≤ n) (h1 : n ≤ 65536) :
    Calls Try.prog 15 #[.int .i64 n] w fun e w' => ∃ b s, e = .returned (.tuple #[.pointer (some ⟨b, 0, none⟩), .int .i64 0]) ∧ w.heap.size ≤ b ∧ w.heap.size ≤ s ∧ Only [] w w' ∧ MemAt w' b s (List.replicate n.toNat 0) 0 0 := by
  have hmk := mk40 n (by omega) h1
  go_enter Try.func15, Try.ntmps15
  go_wp2
  go_ret2
  exact ⟨_, _, rfl, Nat.le_succ _, Nat.le_refl _, ((Only.refl _ _).alloc _).alloc _,
    ⟨by rw [List.length_replicate]; exact Blk.new' _ _ _ (by simp), (Blk.new _ _ _).alloc _, by rw [List.length_replicate]; omega, by rw [List.length_replicate]; omega⟩⟩

theorem new_out (w : World) (n : Int) (h : n < 1 ∨ 65536 < n) :
    Calls Try.prog 15 #[.int .i64 n] w fun e w' => e = .returned (.tuple #[.pointer none, .int .i64 1]) ∧ w = w' := by
  rcases h with h | h
  · go_enter Try.func15, Try.ntmps15
    go_wp2
    go_ret2
    exact ⟨rfl, rfl⟩
  · have h2 : ¬ n < 1 := by omega
    go_enter Try.func15, Try.ntmps15
    go_wp2
    go_ret2
    exact ⟨rfl, rfl⟩

/-- Some words from a place on. -/
def cutL (L : List Int) (i n : Int) : List Int := if 1 ≤ n ∧ 0 ≤ i ∧ i ≤ L.length ∧ n ≤ L.length - i then (L.drop i.toNat).take n.toNat else []

/-- A slice of words that was made anew. -/
def NewWords (w w' : World) (v : Value) (L : List Int) : Prop :=
  (L = [] ∧ v = .slice none 0 0) ∨ (L ≠ [] ∧ ∃ g, w.heap.size ≤ g ∧ v = .slice (some ⟨g, 0, none⟩) L.length L.length ∧ Blk w' g 38 (cellsOf L))

theorem cut_none (w : World) (s k : Nat) (i n : Int) (h : ¬ (1 ≤ n ∧ 0 ≤ i ∧ i ≤ k ∧ n ≤ k - i)) (hk : k ≤ 65536) :
    Calls Try.prog 70 #[.agg #[.slice (some ⟨s, 0, none⟩) k k], .int .i64 i, .int .i64 n] w fun e w' => e = .returned (.slice none 0 0) ∧ Only [] w w' := by
  by_cases h1 : n < 1
  · clear h
    go_enter Try.func70, Try.ntmps70
    go_wp2
    go_ret
    exact ⟨rfl, (Only.refl _ _).alloc _⟩
  by_cases h2 : i < 0
  · clear h
    go_enter Try.func70, Try.ntmps70
    go_wp2
    go_ret
    exact ⟨rfl, (Only.refl _ _).alloc _⟩
  by_cases h3 : (k : Int) < i
  · clear h
    go_enter Try.func70, Try.ntmps70
    go_wp2
    go_ret
    exact ⟨rfl, (Only.refl _ _).alloc _⟩
  have h4 : (k : Int) - i < n := by omega
  have h5 : 0 ≤ (k : Int) - i := by omega
  clear h
  go_enter Try.func70, Try.ntmps70
  go_wp2
  go_ret
  exact ⟨rfl, (Only.refl _ _).alloc _⟩

theorem oneCell_cells (L : List Int) : ∀ v ∈ L.map (Value.int .u64), v.oneCell' = true := by
  intro v hv
  obtain ⟨x, _, rfl⟩ := List.mem_map.1 hv
  rfl

/-- copy into a row that is overwritten whole. -/
theorem run_copy_whole (W : World) (g s o n m : Nat) (L : List Int) (cur : Array Value) (hg : Blk W g 38 cur) (hn : cur.size = n) (hs : Blk W s 38 (cellsOf L)) (ho : o + n ≤ L.length) (hm : n ≤ m) (ty : TypeId) (c : Nat) :
    Sem.run Try.prog (Builtin.copy_ #[22, 22] ty #[.slice (some ⟨g, 0, none⟩) n n, .slice (some ⟨s, o, none⟩) m c]) W = .ok (.int .i64 n) (W.setRow g (cellsOf ((L.drop o).take n))) := by
  have h := run_copy_row (P := Try.prog) W 22 22 ty 38 g 0 n n ⟨s, o, none⟩ m c cur 38 (((L.drop o).take n).map (Value.int .u64)) Try.underlying22 (by kernel_rfl) hg
    (by rw [List.length_map, List.length_take, List.length_drop]; show _ = min m n; omega) (fun j v hj => by
      have hlt : j < n := by
        have := (List.getElem?_eq_some_iff.1 hj).1
        simp at this; omega
      have e : (⟨s, o, none⟩ : Addr).add j = ⟨s, o + j, none⟩ := by
        unfold Addr.add
        split
        · rename_i h0; subst h0; rfl
        · rfl
      rw [e, hs.cell]
      simp [cellsOf, show j < n from hlt, show j < L.length - o from by omega] at hj ⊢
      exact ⟨_, List.getElem?_eq_getElem (by omega), hj⟩) (by simp; omega) (oneCell_cells _)
  have e1 : min n (L.length - o) = n := by omega
  have e2 : cur.toList.drop n = [] := by rw [List.drop_eq_nil_iff]; simp [hn]
  simpa [cellsOf, goInt, e1, e2] using h

set_option maxRecDepth 100000 in
theorem cut_some (w : World) (s : Nat) (L : List Int) (i n : Int) (h1 : 1 ≤ n) (h2 : 0 ≤ i) (h3 : n ≤ L.length - i) (hk : L.length ≤ 65536) (hr : Blk w s 38 (cellsOf L)) :
    Calls Try.prog 70 #[.agg #[.slice (some ⟨s, 0, none⟩) L.length L.length], .int .i64 i, .int .i64 n] w fun e w' => ∃ g, e = .returned (.slice (some ⟨g, 0, none⟩) n.toNat n.toNat) ∧ w.heap.size ≤ g ∧ Only [] w w' ∧ Blk w' g 38 (cellsOf ((L.drop i.toNat).take n.toNat)) := by
  have hmk := mk40 n (by omega) (by omega)
  have h4 : i < L.length := by omega
  have hb : Blk ((w.alloc (Obj.cells #[Value.slice (some ⟨s, 0, none⟩) L.length L.length] 100)).alloc (Obj.cells (cellsOf (List.replicate n.toNat 0)) 38)) (w.heap.size + 1) 38 (cellsOf (List.replicate n.toNat 0)) := Blk.new' _ _ _ (by simp)
  have hcp := run_copy_whole _ (w.heap.size + 1) s i.toNat n.toNat (L.length - i.toNat) L _ hb (by simp [cellsOf]) ((hr.alloc _).alloc _) (by omega) (by omega) 3 (L.length - i.toNat)
  have HB := Lib.hid hb
  clear hr hb
  go_enter Try.func70, Try.ntmps70
  go_wp2
  go_ret
  exact ⟨_, rfl, Nat.le_succ _, (((Only.refl _ _).alloc _).alloc _).setRow (.inr (Nat.le_succ _)) _, HB.out.row _⟩

theorem cut_any (w : World) (s : Nat) (L : List Int) (i n : Int) (hk : L.length ≤ 65536) (hr : Blk w s 38 (cellsOf L)) :
    Calls Try.prog 70 #[.agg #[.slice (some ⟨s, 0, none⟩) L.length L.length], .int .i64 i, .int .i64 n] w fun e w' => ∃ v, e = .returned v ∧ Only [] w w' ∧ NewWords w w' v (cutL L i n) := by
  by_cases h : 1 ≤ n ∧ 0 ≤ i ∧ i ≤ L.length ∧ n ≤ L.length - i
  · obtain ⟨h1, h2, h3, h4⟩ := h
    refine (cut_some w s L i n h1 h2 h4 hk hr).mono ?_
    rintro e w' ⟨g, rfl, hg, ho, hb⟩
    have hl : (cutL L i n).length = n.toNat := by
      unfold cutL
      rw [if_pos ⟨h1, h2, h3, h4⟩, List.length_take, List.length_drop]
      omega
    refine ⟨_, rfl, ho, .inr ⟨by intro e; rw [e] at hl; simp at hl; omega, g, hg, by rw [hl], ?_⟩⟩
    unfold cutL
    rw [if_pos ⟨h1, h2, h3, h4⟩]
    exact hb
  · refine (cut_none w s L.length i n h hk).mono ?_
    rintro e w' ⟨rfl, ho⟩
    exact ⟨_, rfl, ho, .inl ⟨by unfold cutL; rw [if_neg h], rfl⟩⟩

theorem words_any (w : World) (b s : Nat) (L : List Int) (c l i n : Int) (hm : MemAt w b s L c l) :
    Calls Try.prog 45 #[.pointer (some ⟨b, 0, none⟩), .int .i64 i, .int .i64 n] w fun e w' => ∃ v, e = .returned v ∧ Only [] w w' ∧ NewWords w w' v (cutL L i n) := by
  have c0 := hm.c0
  have HM := Lib.hid hm
  clear hm
  go_enter Try.func45, Try.ntmps45
  go_wp2_with fail
  refine (cut_any _ s L i n HM.out.max HM.out.row).mono ?_
  rintro e w' ⟨v, rfl, h⟩
  have H := Lib.hid h
  clear h
  go_wp2
  go_ret
  exact ⟨_, rfl, H.out⟩

theorem words_nil (w : World) (i n : Int) : Calls Try.prog 45 #[.pointer none, .int .i64 i, .int .i64 n] w fun e w' => e = .returned (.slice none 0 0) ∧ w = w' := by
  go_enter Try.func45, Try.ntmps45
  go_wp2
  go_ret
  exact ⟨rfl, rfl⟩

end Go.Proofs.Ytoecoijmkjhkgaa
