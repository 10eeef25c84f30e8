/- The walks of package mem. -/
import Derived.Test.YtoecoijmkjhkgaaProg
import Derived.Test.YtoecoijmkjhkgaaBase
import Derived.Outline
namespace Go.Proofs.Ytoecoijmkjhkgaa
open Go.RowKit

abbrev u64 (n : Int) : Value := .int .u64 n
abbrev i64 (n : Int) : Value := .int .i64 n

/-- The words' own cells. -/
def cellsOf (L : List Int) : Array Value := (L.map (Value.int .u64)).toArray

/-- The word at a place. -/
def nth (L : List Int) (i : Nat) : Int := L.getD i 0

/-- At block b lies a mem.Mem over the words L, which lie in block s. -/
structure MemAt (w : World) (b s : Nat) (L : List Int) (c l : Int) : Prop where
  obj : Blk w b 102 #[.slice (some ⟨s, 0, none⟩) L.length L.length, .int .i64 c, .int .i64 l]
  row : Blk w s 38 (cellsOf L)
  len : 1 ≤ L.length
  max : L.length ≤ 65536

section
variable {w w' : World} {b s : Nat} {L : List Int} {c l : Int}
theorem MemAt.ne (h : MemAt w b s L c l) : b ≠ s := h.obj.ne h.row (by decide)

theorem MemAt.only {S : List Nat} (h : MemAt w b s L c l) (o : Only S w w') (hb : b ∉ S) (hs : s ∉ S) : MemAt w' b s L c l :=
  ⟨h.obj.only o hb, h.row.only o hs, h.len, h.max⟩

theorem MemAt.counted (h : MemAt w b s L c l) (v : Int) : MemAt (w.setCell ⟨b, 1, none⟩ (.int .i64 v)) b s L v l :=
  ⟨by simpa using h.obj.set 1 (.int .i64 v), h.row.far (by simpa using h.ne.symm) _, h.len, h.max⟩

theorem MemAt.laid (h : MemAt w b s L c l) (v : Int) : MemAt (w.setCell ⟨b, 2, none⟩ (.int .i64 v)) b s L c v :=
  ⟨by simpa using h.obj.set 2 (.int .i64 v), h.row.far (by simpa using h.ne.symm) _, h.len, h.max⟩

theorem MemAt.stored (h : MemAt w b s L c l) (i : Nat) (v : Int) : MemAt (w.setCell ⟨s, i, none⟩ (.int .u64 v)) b s (L.set i v) c l :=
  ⟨by rw [List.length_set]; exact h.obj.far (by simpa using h.ne) _, by
    have := h.row.set i (.int .u64 v)
    simpa [cellsOf, List.map_set] using this, by rw [List.length_set]; exact h.len, by rw [List.length_set]; exact h.max⟩

theorem MemAt.cell (h : MemAt w b s L c l) {i : Nat} (hi : i < L.length) : w.cell? ⟨s, i, none⟩ = some (.int .u64 (nth L i)) := by
  rw [h.row.cell]
  simp [cellsOf, nth, hi]

theorem MemAt.c0 (h : MemAt w b s L c l) : w.cell? ⟨b, 0, none⟩ = some (.slice (some ⟨s, 0, none⟩) L.length L.length) := h.obj.at 0 rfl
theorem MemAt.c1 (h : MemAt w b s L c l) : w.cell? ⟨b, 1, none⟩ = some (.int .i64 c) := h.obj.at 1 rfl
theorem MemAt.c2 (h : MemAt w b s L c l) : w.cell? ⟨b, 2, none⟩ = some (.int .i64 l) := h.obj.at 2 rfl
end

theorem len_nil (w : World) : Calls Try.prog 74 #[.pointer none] w fun e w' => e = .returned (.int .i64 0) ∧ w = w' := by
  go_enter Try.func74, Try.ntmps74
  go_wp2
  go_ret
  exact ⟨rfl, rfl⟩

theorem len_at (w : World) (b s n : Nat) (hc : w.cell? ⟨b, 0, none⟩ = some (.slice (some ⟨s, 0, none⟩) n n)) : Calls Try.prog 74 #[.pointer (some ⟨b, 0, none⟩)] w fun e w' => e = .returned (.int .i64 n) ∧ w = w' := by
  go_enter Try.func74, Try.ntmps74
  go_wp2
  go_ret
  exact ⟨rfl, rfl⟩

theorem len_zero (w : World) (b : Nat) (hc : w.cell? ⟨b, 0, none⟩ = some (.slice none 0 0)) : Calls Try.prog 74 #[.pointer (some ⟨b, 0, none⟩)] w fun e w' => e = .returned (.int .i64 0) ∧ w = w' := by
  go_enter Try.func74, Try.ntmps74
  go_wp2
  go_ret
  exact ⟨rfl, rfl⟩

theorem at_in (w : World) (s n : Nat) (i : Int) (h0 : 0 ≤ i) (hi : i < n) : Calls Try.prog 75 #[.agg #[.slice (some ⟨s, 0, none⟩) n n], .int .i64 i] w fun e w' => e = .returned (.pointer (some ⟨s, i.toNat, none⟩)) ∧ Only [] w w' := by
  obtain ⟨j, rfl⟩ := Int.eq_ofNat_of_zero_le h0
  go_enter Try.func75, Try.ntmps75
  go_wp2
  go_ret
  exact ⟨rfl, (Only.refl _ _).alloc _⟩

theorem at_out (w : World) (s n : Nat) (i : Int) (h : i < 0 ∨ n ≤ i) : Calls Try.prog 75 #[.agg #[.slice (some ⟨s, 0, none⟩) n n], .int .i64 i] w fun e w' => e = .returned (.pointer none) ∧ Only [] w w' := by
  rcases h with h | h
  · go_enter Try.func75, Try.ntmps75
    go_wp2
    go_ret
    exact ⟨rfl, (Only.refl _ _).alloc _⟩
  · have h2 : ¬ i < 0 := by omega
    go_enter Try.func75, Try.ntmps75
    go_wp2
    go_ret
    exact ⟨rfl, (Only.refl _ _).alloc _⟩

theorem word_in (w : World) (b s : Nat) (L : List Int) (c l i : Int) (hm : MemAt w b s L c l) (h0 : 0 ≤ i) (hi : i < L.length) :
    Calls Try.prog 53 #[.pointer (some ⟨b, 0, none⟩), .int .i64 i] w fun e w' => e = .returned (.tuple #[.pointer (some ⟨s, i.toNat, none⟩), .int .i64 0]) ∧ Only [b] w w' ∧ MemAt w' b s L (wrap64 (c + 1)) l := by
  have h1 : ((L.length : Int) == 0) = false := by have := hm.len; simp; intro e; simp [e] at this
  have c0 := hm.c0
  have HM := Lib.hid hm
  clear hm
  go_enter Try.func53, Try.ntmps53
  go_wp2_with fail
  refine (len_at _ _ s L.length c0).mono ?_
  rintro e w' ⟨rfl, rfl⟩
  go_wp2_with fail
  refine (at_in _ _ _ _ h0 hi).mono ?_
  rintro e w' ⟨rfl, ho⟩
  have hm := HM.out.only ho (by simp) (by simp)
  have c1 := hm.c1
  have f1 := hm.obj.frozen 1
  go_wp2
  go_ret2
  exact ⟨rfl, (ho.sub (by simp)).setCell (by simp) _, hm.counted _⟩

theorem word_out (w : World) (b s : Nat) (L : List Int) (c l i : Int) (hm : MemAt w b s L c l) (h : i < 0 ∨ L.length ≤ i) :
    Calls Try.prog 53 #[.pointer (some ⟨b, 0, none⟩), .int .i64 i] w fun e w' => e = .returned (.tuple #[.pointer none, .int .i64 2]) ∧ Only [] w w' := by
  have h1 : ((L.length : Int) == 0) = false := by have := hm.len; simp; intro e; simp [e] at this
  have c0 := hm.c0
  clear hm
  have H := Lib.hid h
  clear h
  go_enter Try.func53, Try.ntmps53
  go_wp2_with fail
  refine (len_at _ _ s L.length c0).mono ?_
  rintro e w' ⟨rfl, rfl⟩
  go_wp2_with fail
  refine (at_out _ _ _ _ H.out).mono ?_
  rintro e w' ⟨rfl, ho⟩
  go_wp2
  go_ret2
  exact ⟨rfl, ho⟩

theorem word_zero (w : World) (b : Nat) (i : Int) (hc : w.cell? ⟨b, 0, none⟩ = some (.slice none 0 0)) :
    Calls Try.prog 53 #[.pointer (some ⟨b, 0, none⟩), .int .i64 i] w fun e w' => e = .returned (.tuple #[.pointer none, .int .i64 10]) ∧ w = w' := by
  go_enter Try.func53, Try.ntmps53
  go_wp2_with fail
  refine (len_zero _ _ hc).mono ?_
  rintro e w' ⟨rfl, rfl⟩
  go_wp2
  go_ret2
  exact ⟨rfl, rfl⟩

theorem word_nil (w : World) (i : Int) :
    Calls Try.prog 53 #[.pointer none, .int .i64 i] w fun e w' => e = .returned (.tuple #[.pointer none, .int .i64 10]) ∧ w = w' := by
  go_enter Try.func53, Try.ntmps53
  go_wp2_with fail
  refine (len_nil _).mono ?_
  rintro e w' ⟨rfl, rfl⟩
  go_wp2
  go_ret2
  exact ⟨rfl, rfl⟩

theorem load_in (w : World) (b s : Nat) (L : List Int) (c l i : Int) (hm : MemAt w b s L c l) (h0 : 0 ≤ i) (hi : i < L.length) :
    Calls Try.prog 21 #[.pointer (some ⟨b, 0, none⟩), .int .i64 i] w fun e w' => e = .returned (.tuple #[.int .u64 (nth L i.toNat), .int .i64 0]) ∧ Only [b] w w' ∧ MemAt w' b s L (wrap64 (c + 1)) l := by
  go_enter Try.func21, Try.ntmps21
  go_wp2_with fail
  refine (word_in _ _ _ _ _ _ _ hm h0 hi).mono ?_
  rintro e w' ⟨rfl, ho, hm'⟩
  clear hm
  have c1 := hm'.cell (i := i.toNat) (by omega)
  have HM := Lib.hid hm'
  clear hm'
  go_wp2
  go_ret2
  exact ⟨rfl, ho, HM.out⟩

theorem load_out (w : World) (b s : Nat) (L : List Int) (c l i : Int) (hm : MemAt w b s L c l) (h : i < 0 ∨ L.length ≤ i) :
    Calls Try.prog 21 #[.pointer (some ⟨b, 0, none⟩), .int .i64 i] w fun e w' => e = .returned (.tuple #[.int .u64 0, .int .i64 2]) ∧ Only [] w w' := by
  go_enter Try.func21, Try.ntmps21
  go_wp2_with fail
  refine (word_out _ _ _ _ _ _ _ hm h).mono ?_
  rintro e w' ⟨rfl, ho⟩
  clear hm h
  go_wp2
  go_ret2
  exact ⟨rfl, ho⟩

theorem store_in (w : World) (b s : Nat) (L : List Int) (c l i v : Int) (hm : MemAt w b s L c l) (h0 : 0 ≤ i) (hi : i < L.length) :
    Calls Try.prog 51 #[.pointer (some ⟨b, 0, none⟩), .int .i64 i, .int .u64 v] w fun e w' => e = .returned (.int .i64 0) ∧ Only [b, s] w w' ∧ MemAt w' b s (L.set i.toNat v) (wrap64 (c + 1)) (wrap64 (l + 1)) := by
  have hn := hm.ne
  go_enter Try.func51, Try.ntmps51
  go_wp2_with fail
  refine (word_in _ _ _ _ _ _ _ hm h0 hi).mono ?_
  rintro e w' ⟨rfl, ho, hm'⟩
  clear hm
  have c1 := hm'.cell (i := i.toNat) (by omega)
  have f1 := hm'.row.frozen i.toNat
  have hm2 := hm'.stored i.toNat v
  have c2 := hm2.c2
  have f2 := hm2.obj.frozen 2
  have HM := Lib.hid hm2
  clear hm' hm2
  go_wp2
  go_ret
  exact ⟨rfl, ((ho.sub (by simp)).setCell (by simp) _).setCell (by simp) _, HM.out.laid _⟩

theorem store_out (w : World) (b s : Nat) (L : List Int) (c l i v : Int) (hm : MemAt w b s L c l) (h : i < 0 ∨ L.length ≤ i) :
    Calls Try.prog 51 #[.pointer (some ⟨b, 0, none⟩), .int .i64 i, .int .u64 v] w fun e w' => e = .returned (.int .i64 2) ∧ Only [] w w' := by
  go_enter Try.func51, Try.ntmps51
  go_wp2_with fail
  refine (word_out _ _ _ _ _ _ _ hm h).mono ?_
  rintro e w' ⟨rfl, ho⟩
  clear hm h
  go_wp2
  go_ret
  exact ⟨rfl, ho⟩

theorem cas_yes (w : World) (b s : Nat) (L : List Int) (c l i x y : Int) (hm : MemAt w b s L c l) (h0 : 0 ≤ i) (hi : i < L.length) (hx : nth L i.toNat = x) :
    Calls Try.prog 87 #[.pointer (some ⟨b, 0, none⟩), .int .i64 i, .int .u64 x, .int .u64 y] w fun e w' => e = .returned (.tuple #[.bool true, .int .i64 0]) ∧ Only [b, s] w w' ∧ MemAt w' b s (L.set i.toNat y) (wrap64 (c + 1)) (wrap64 (l + 1)) := by
  subst hx
  go_enter Try.func87, Try.ntmps87
  go_wp2_with fail
  refine (word_in _ _ _ _ _ _ _ hm h0 hi).mono ?_
  rintro e w' ⟨rfl, ho, hm'⟩
  clear hm
  have c1 := hm'.cell (i := i.toNat) (by omega)
  have f1 := hm'.row.frozen i.toNat
  have hm2 := hm'.stored i.toNat y
  have c2 := hm2.c2
  have f2 := hm2.obj.frozen 2
  have HM := Lib.hid hm2
  clear hm' hm2
  go_wp2
  go_ret2
  exact ⟨rfl, ((ho.sub (by simp)).setCell (by simp) _).setCell (by simp) _, HM.out.laid _⟩

theorem cas_no (w : World) (b s : Nat) (L : List Int) (c l i x y : Int) (hm : MemAt w b s L c l) (h0 : 0 ≤ i) (hi : i < L.length) (hx : nth L i.toNat ≠ x) :
    Calls Try.prog 87 #[.pointer (some ⟨b, 0, none⟩), .int .i64 i, .int .u64 x, .int .u64 y] w fun e w' => e = .returned (.tuple #[.bool false, .int .i64 0]) ∧ Only [b] w w' ∧ MemAt w' b s L (wrap64 (c + 1)) l := by
  have hx1 : (nth L i.toNat != x) = true := by simpa using hx
  clear hx
  go_enter Try.func87, Try.ntmps87
  go_wp2_with fail
  refine (word_in _ _ _ _ _ _ _ hm h0 hi).mono ?_
  rintro e w' ⟨rfl, ho, hm'⟩
  clear hm
  have c1 := hm'.cell (i := i.toNat) (by omega)
  have HM := Lib.hid hm'
  clear hm'
  go_wp2
  go_ret2
  exact ⟨rfl, ho, HM.out⟩

theorem cas_out (w : World) (b s : Nat) (L : List Int) (c l i x y : Int) (hm : MemAt w b s L c l) (h : i < 0 ∨ L.length ≤ i) :
    Calls Try.prog 87 #[.pointer (some ⟨b, 0, none⟩), .int .i64 i, .int .u64 x, .int .u64 y] w fun e w' => e = .returned (.tuple #[.bool false, .int .i64 2]) ∧ Only [] w w' := by
  go_enter Try.func87, Try.ntmps87
  go_wp2_with fail
  refine (word_out _ _ _ _ _ _ _ hm h).mono ?_
  rintro e w' ⟨rfl, ho⟩
  clear hm h
  go_wp2
  go_ret2
  exact ⟨rfl, ho⟩

theorem add_in (w : World) (b s : Nat) (L : List Int) (c l i v : Int) (hm : MemAt w b s L c l) (h0 : 0 ≤ i) (hi : i < L.length) :
    Calls Try.prog 88 #[.pointer (some ⟨b, 0, none⟩), .int .i64 i, .int .u64 v] w fun e w' => e = .returned (.tuple #[.int .u64 (nth L i.toNat), .int .i64 0]) ∧ Only [b, s] w w' ∧
      MemAt w' b s (L.set i.toNat (IntKind.u64.wrap (nth L i.toNat + v))) (wrap64 (c + 1)) (wrap64 (l + 1)) := by
  go_enter Try.func88, Try.ntmps88
  go_wp2_with fail
  refine (word_in _ _ _ _ _ _ _ hm h0 hi).mono ?_
  rintro e w' ⟨rfl, ho, hm'⟩
  clear hm
  have c1 := hm'.cell (i := i.toNat) (by omega)
  have f1 := hm'.row.frozen i.toNat
  have hm2 := hm'.stored i.toNat (IntKind.u64.wrap (nth L i.toNat + v))
  have c2 := hm2.c2
  have f2 := hm2.obj.frozen 2
  have HM := Lib.hid hm2
  clear hm' hm2
  go_wp2
  go_ret2
  exact ⟨rfl, ((ho.sub (by simp)).setCell (by simp) _).setCell (by simp) _, HM.out.laid _⟩

theorem add_out (w : World) (b s : Nat) (L : List Int) (c l i v : Int) (hm : MemAt w b s L c l) (h : i < 0 ∨ L.length ≤ i) :
    Calls Try.prog 88 #[.pointer (some ⟨b, 0, none⟩), .int .i64 i, .int .u64 v] w fun e w' => e = .returned (.tuple #[.int .u64 0, .int .i64 2]) ∧ Only [] w w' := by
  go_enter Try.func88, Try.ntmps88
  go_wp2_with fail
  refine (word_out _ _ _ _ _ _ _ hm h).mono ?_
  rintro e w' ⟨rfl, ho⟩
  clear hm h
  go_wp2
  go_ret2
  exact ⟨rfl, ho⟩

end Go.Proofs.Ytoecoijmkjhkgaa
