/- The walks of the document's words (package matryoshkaref02). -/
import Derived.Test.YtoecoijmkjhkgaaWords
namespace Go.Proofs.Ytoecoijmkjhkgaa
open Go.RowKit

/-- At block b lies a matryoshkaref02.Mem over the words L, which lie in block s. -/
structure RefAt (w : World) (b s : Nat) (L : List Int) (c l : Int) : Prop where
  obj : Blk w b 93 #[.slice (some ⟨s, 0, none⟩) L.length L.length, .int .i64 c, .int .i64 l]
  row : Blk w s 38 (cellsOf L)
  len : 1 ≤ L.length
  max : L.length ≤ 65536

section
variable {w w' : World} {b s : Nat} {L : List Int} {c l : Int}
theorem RefAt.ne (h : RefAt w b s L c l) : b ≠ s := h.obj.ne h.row (by decide)

theorem RefAt.only {S : List Nat} (h : RefAt w b s L c l) (o : Only S w w') (hb : b ∉ S) (hs : s ∉ S) : RefAt w' b s L c l :=
  ⟨h.obj.only o hb, h.row.only o hs, h.len, h.max⟩

theorem RefAt.counted (h : RefAt w b s L c l) (v : Int) : RefAt (w.setCell ⟨b, 1, none⟩ (.int .i64 v)) b s L v l :=
  ⟨by simpa using h.obj.set 1 (.int .i64 v), h.row.far (by simpa using h.ne.symm) _, h.len, h.max⟩

theorem RefAt.laid (h : RefAt w b s L c l) (v : Int) : RefAt (w.setCell ⟨b, 2, none⟩ (.int .i64 v)) b s L c v :=
  ⟨by simpa using h.obj.set 2 (.int .i64 v), h.row.far (by simpa using h.ne.symm) _, h.len, h.max⟩

theorem RefAt.stored (h : RefAt w b s L c l) (i : Nat) (v : Int) : RefAt (w.setCell ⟨s, i, none⟩ (.int .u64 v)) b s (L.set i v) c l :=
  ⟨by rw [List.length_set]; exact h.obj.far (by simpa using h.ne) _, by
    have := h.row.set i (.int .u64 v)
    simpa [cellsOf, List.map_set] using this, by rw [List.length_set]; exact h.len, by rw [List.length_set]; exact h.max⟩

theorem RefAt.cell (h : RefAt w b s L c l) {i : Nat} (hi : i < L.length) : w.cell? ⟨s, i, none⟩ = some (.int .u64 (nth L i)) := by
  rw [h.row.cell]
  simp [cellsOf, nth, hi]

theorem RefAt.c0 (h : RefAt w b s L c l) : w.cell? ⟨b, 0, none⟩ = some (.slice (some ⟨s, 0, none⟩) L.length L.length) := h.obj.at 0 rfl
theorem RefAt.c1 (h : RefAt w b s L c l) : w.cell? ⟨b, 1, none⟩ = some (.int .i64 c) := h.obj.at 1 rfl
theorem RefAt.c2 (h : RefAt w b s L c l) : w.cell? ⟨b, 2, none⟩ = some (.int .i64 l) := h.obj.at 2 rfl
end

theorem ref_new_in (w : World) (n : Int) (h0 : 1 ≤ n) (h1 : n ≤ 65536) :
    Calls Try.prog 39 #[.int .i64 n] w fun e w' => ∃ b s, e = .returned (.tuple #[.pointer (some ⟨b, 0, none⟩), .int .i64 0]) ∧ w.heap.size ≤ b ∧ w.heap.size ≤ s ∧ Only [] w w' ∧ RefAt w' b s (List.replicate n.toNat 0) 0 0 := by
  have hmk := mk40 n (by omega) h1
  go_enter Try.func39, Try.ntmps39
  go_wp2
  go_ret2
  exact ⟨_, _, rfl, Nat.le_succ _, Nat.le_refl _, ((Only.refl _ _).alloc _).alloc _,
    ⟨by rw [List.length_replicate]; exact Blk.new' _ _ _ (by simp), (Blk.new _ _ _).alloc _, by rw [List.length_replicate]; omega, by rw [List.length_replicate]; omega⟩⟩

theorem ref_new_out (w : World) (n : Int) (h : n < 1 ∨ 65536 < n) :
    Calls Try.prog 39 #[.int .i64 n] w fun e w' => e = .returned (.tuple #[.pointer (some ⟨w.heap.size, 0, none⟩), .int .i64 1]) ∧ Only [] w w' := by
  rcases h with h | h
  · go_enter Try.func39, Try.ntmps39
    go_wp2
    go_ret2
    exact ⟨rfl, (Only.refl _ _).alloc _⟩
  · have h2 : ¬ n < 1 := by omega
    go_enter Try.func39, Try.ntmps39
    go_wp2
    go_ret2
    exact ⟨rfl, (Only.refl _ _).alloc _⟩

theorem there_in (w : World) (b s n : Nat) (i : Int) (hc : w.cell? ⟨b, 0, none⟩ = some (.slice (some ⟨s, 0, none⟩) n n)) (h0 : 0 ≤ i) (hi : i < n) :
    Calls Try.prog 86 #[.pointer (some ⟨b, 0, none⟩), .int .i64 i] w fun e w' => e = .returned (.bool true) ∧ w = w' := by
  go_enter Try.func86, Try.ntmps86
  go_wp2
  go_ret
  exact ⟨by simp [*], rfl⟩

theorem there_out (w : World) (b s n : Nat) (i : Int) (hc : w.cell? ⟨b, 0, none⟩ = some (.slice (some ⟨s, 0, none⟩) n n)) (h : i < 0 ∨ n ≤ i) :
    Calls Try.prog 86 #[.pointer (some ⟨b, 0, none⟩), .int .i64 i] w fun e w' => e = .returned (.bool false) ∧ w = w' := by
  rcases h with h | h
  · go_enter Try.func86, Try.ntmps86
    go_wp2
    go_ret
    exact ⟨by simp [*], rfl⟩
  · have h2 : 0 ≤ i := by omega
    go_enter Try.func86, Try.ntmps86
    go_wp2
    go_ret
    exact ⟨by simp [*], rfl⟩

theorem ref_load_in (w : World) (b s : Nat) (L : List Int) (c l i : Int) (hm : RefAt w b s L c l) (h0 : 0 ≤ i) (hi : i < L.length) :
    Calls Try.prog 83 #[.pointer (some ⟨b, 0, none⟩), .int .i64 i] w fun e w' => e = .returned (.tuple #[.int .u64 (nth L i.toNat), .int .i64 0]) ∧ Only [b] w w' ∧ RefAt w' b s L (wrap64 (c + 1)) l := by
  have c0 := hm.c0
  have c1 := hm.c1
  have f1 := hm.obj.frozen 1
  have hm2 := hm.counted (wrap64 (c + 1))
  have d0 := hm2.c0
  have d1 := hm2.cell (i := i.toNat) (by omega)
  have H := Lib.hid hm2
  clear hm hm2
  go_enter Try.func83, Try.ntmps83
  go_wp2_with fail
  refine (there_in _ _ _ _ _ c0 h0 hi).mono ?_
  rintro e w' ⟨rfl, rfl⟩
  go_wp2
  go_ret2
  exact ⟨rfl, (Only.refl _ _).setCell (by simp) _, H.out⟩

theorem ref_load_out (w : World) (b s : Nat) (L : List Int) (c l i : Int) (hm : RefAt w b s L c l) (h : i < 0 ∨ L.length ≤ i) :
    Calls Try.prog 83 #[.pointer (some ⟨b, 0, none⟩), .int .i64 i] w fun e w' => e = .returned (.tuple #[.int .u64 0, .int .i64 2]) ∧ w = w' := by
  have c0 := hm.c0
  clear hm
  have H := Lib.hid h
  clear h
  go_enter Try.func83, Try.ntmps83
  go_wp2_with fail
  refine (there_out _ _ _ _ _ c0 H.out).mono ?_
  rintro e w' ⟨rfl, rfl⟩
  go_wp2
  go_ret2
  exact ⟨rfl, rfl⟩

theorem ref_store_in (w : World) (b s : Nat) (L : List Int) (c l i v : Int) (hm : RefAt w b s L c l) (h0 : 0 ≤ i) (hi : i < L.length) :
    Calls Try.prog 71 #[.pointer (some ⟨b, 0, none⟩), .int .i64 i, .int .u64 v] w fun e w' => e = .returned (.int .i64 0) ∧ Only [b, s] w w' ∧ RefAt w' b s (L.set i.toNat v) (wrap64 (c + 1)) (wrap64 (l + 1)) := by
  have c0 := hm.c0
  have c1 := hm.c1
  have f1 := hm.obj.frozen 1
  have hm1 := hm.counted (wrap64 (c + 1))
  have d2 := hm1.c2
  have f2 := hm1.obj.frozen 2
  have hm2 := hm1.laid (wrap64 (l + 1))
  have e0 := hm2.c0
  have e1 := hm2.cell (i := i.toNat) (by omega)
  have e2 := hm2.row.frozen i.toNat
  have H := Lib.hid hm2
  clear hm hm1 hm2
  go_enter Try.func71, Try.ntmps71
  go_wp2_with fail
  refine (there_in _ _ _ _ _ c0 h0 hi).mono ?_
  rintro e w' ⟨rfl, rfl⟩
  go_wp2
  go_ret
  exact ⟨rfl, (((Only.refl _ _).setCell (by simp) _).setCell (by simp) _).setCell (by simp) _, H.out.stored _ _⟩

theorem ref_store_out (w : World) (b s : Nat) (L : List Int) (c l i v : Int) (hm : RefAt w b s L c l) (h : i < 0 ∨ L.length ≤ i) :
    Calls Try.prog 71 #[.pointer (some ⟨b, 0, none⟩), .int .i64 i, .int .u64 v] w fun e w' => e = .returned (.int .i64 2) ∧ w = w' := by
  have c0 := hm.c0
  clear hm
  have H := Lib.hid h
  clear h
  go_enter Try.func71, Try.ntmps71
  go_wp2_with fail
  refine (there_out _ _ _ _ _ c0 H.out).mono ?_
  rintro e w' ⟨rfl, rfl⟩
  go_wp2
  go_ret
  exact ⟨rfl, rfl⟩

theorem ref_cas_yes (w : World) (b s : Nat) (L : List Int) (c l i x y : Int) (hm : RefAt w b s L c l) (h0 : 0 ≤ i) (hi : i < L.length) (hx : nth L i.toNat = x) :
    Calls Try.prog 84 #[.pointer (some ⟨b, 0, none⟩), .int .i64 i, .int .u64 x, .int .u64 y] w fun e w' => e = .returned (.tuple #[.bool true, .int .i64 0]) ∧ Only [b, s] w w' ∧ RefAt w' b s (L.set i.toNat y) (wrap64 (c + 1)) (wrap64 (l + 1)) := by
  subst hx
  have c0 := hm.c0
  have c1 := hm.c1
  have f1 := hm.obj.frozen 1
  have hm1 := hm.counted (wrap64 (c + 1))
  have d0 := hm1.c0
  have d1 := hm1.cell (i := i.toNat) (by omega)
  have d2 := hm1.c2
  have f2 := hm1.obj.frozen 2
  have hm2 := hm1.laid (wrap64 (l + 1))
  have e0 := hm2.c0
  have e1 := hm2.cell (i := i.toNat) (by omega)
  have e2 := hm2.row.frozen i.toNat
  have H := Lib.hid hm2
  clear hm hm1 hm2
  go_enter Try.func84, Try.ntmps84
  go_wp2_with fail
  refine (there_in _ _ _ _ _ c0 h0 hi).mono ?_
  rintro e w' ⟨rfl, rfl⟩
  go_wp2
  go_ret2
  exact ⟨rfl, (((Only.refl _ _).setCell (by simp) _).setCell (by simp) _).setCell (by simp) _, H.out.stored _ _⟩

theorem ref_cas_no (w : World) (b s : Nat) (L : List Int) (c l i x y : Int) (hm : RefAt w b s L c l) (h0 : 0 ≤ i) (hi : i < L.length) (hx : nth L i.toNat ≠ x) :
    Calls Try.prog 84 #[.pointer (some ⟨b, 0, none⟩), .int .i64 i, .int .u64 x, .int .u64 y] w fun e w' => e = .returned (.tuple #[.bool false, .int .i64 0]) ∧ Only [b] w w' ∧ RefAt w' b s L (wrap64 (c + 1)) l := by
  have hx1 : (nth L i.toNat != x) = true := by simpa using hx
  clear hx
  have c0 := hm.c0
  have c1 := hm.c1
  have f1 := hm.obj.frozen 1
  have hm1 := hm.counted (wrap64 (c + 1))
  have d0 := hm1.c0
  have d1 := hm1.cell (i := i.toNat) (by omega)
  have H := Lib.hid hm1
  clear hm hm1
  go_enter Try.func84, Try.ntmps84
  go_wp2_with fail
  refine (there_in _ _ _ _ _ c0 h0 hi).mono ?_
  rintro e w' ⟨rfl, rfl⟩
  go_wp2
  go_ret2
  exact ⟨rfl, (Only.refl _ _).setCell (by simp) _, H.out⟩

theorem ref_cas_out (w : World) (b s : Nat) (L : List Int) (c l i x y : Int) (hm : RefAt w b s L c l) (h : i < 0 ∨ L.length ≤ i) :
    Calls Try.prog 84 #[.pointer (some ⟨b, 0, none⟩), .int .i64 i, .int .u64 x, .int .u64 y] w fun e w' => e = .returned (.tuple #[.bool false, .int .i64 2]) ∧ w = w' := by
  have c0 := hm.c0
  clear hm
  have H := Lib.hid h
  clear h
  go_enter Try.func84, Try.ntmps84
  go_wp2_with fail
  refine (there_out _ _ _ _ _ c0 H.out).mono ?_
  rintro e w' ⟨rfl, rfl⟩
  go_wp2
  go_ret2
  exact ⟨rfl, rfl⟩

theorem ref_add_in (w : World) (b s : Nat) (L : List Int) (c l i v : Int) (hm : RefAt w b s L c l) (h0 : 0 ≤ i) (hi : i < L.length) :
    Calls Try.prog 85 #[.pointer (some ⟨b, 0, none⟩), .int .i64 i, .int .u64 v] w fun e w' => e = .returned (.tuple #[.int .u64 (nth L i.toNat), .int .i64 0]) ∧ Only [b, s] w w' ∧
      RefAt w' b s (L.set i.toNat (IntKind.u64.wrap (nth L i.toNat + v))) (wrap64 (c + 1)) (wrap64 (l + 1)) := by
  have c0 := hm.c0
  have c1 := hm.c1
  have f1 := hm.obj.frozen 1
  have hm1 := hm.counted (wrap64 (c + 1))
  have d2 := hm1.c2
  have f2 := hm1.obj.frozen 2
  have hm2 := hm1.laid (wrap64 (l + 1))
  have e0 := hm2.c0
  have e1 := hm2.cell (i := i.toNat) (by omega)
  have e2 := hm2.row.frozen i.toNat
  have H := Lib.hid hm2
  clear hm hm1 hm2
  go_enter Try.func85, Try.ntmps85
  go_wp2_with fail
  refine (there_in _ _ _ _ _ c0 h0 hi).mono ?_
  rintro e w' ⟨rfl, rfl⟩
  go_wp2
  go_ret2
  exact ⟨rfl, (((Only.refl _ _).setCell (by simp) _).setCell (by simp) _).setCell (by simp) _, H.out.stored _ _⟩

theorem ref_add_out (w : World) (b s : Nat) (L : List Int) (c l i v : Int) (hm : RefAt w b s L c l) (h : i < 0 ∨ L.length ≤ i) :
    Calls Try.prog 85 #[.pointer (some ⟨b, 0, none⟩), .int .i64 i, .int .u64 v] w fun e w' => e = .returned (.tuple #[.int .u64 0, .int .i64 2]) ∧ w = w' := by
  have c0 := hm.c0
  clear hm
  have H := Lib.hid h
  clear h
  go_enter Try.func85, Try.ntmps85
  go_wp2_with fail
  refine (there_out _ _ _ _ _ c0 H.out).mono ?_
  rintro e w' ⟨rfl, rfl⟩
  go_wp2
  go_ret2
  exact ⟨rfl, rfl⟩

end Go.Proofs.Ytoecoijmkjhkgaa
