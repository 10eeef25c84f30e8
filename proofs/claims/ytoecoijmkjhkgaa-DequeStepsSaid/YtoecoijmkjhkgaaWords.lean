/- The walk of words.Words: are two lists of words alike? -/
import Derived.Test.YtoecoijmkjhkgaaMem2
import Derived.Outline
namespace Go.Proofs.Ytoecoijmkjhkgaa
open Go.RowKit

/-- The cells behind a slice's address are these words. -/
def Reads (w : World) (A : Option Addr) (L : List Int) : Prop :=
  L = [] ∨ ∃ g o, g < w.heap.size ∧ A = some ⟨g, o, none⟩ ∧ ∀ i, i < L.length → w.cell? ⟨g, o + i, none⟩ = some (.int .u64 (nth L i))

theorem Reads.nil (w : World) (A : Option Addr) : Reads w A [] := .inl rfl

theorem Reads.blk {w : World} {g : Nat} {L : List Int} (h : Blk w g 38 (cellsOf L)) : Reads w (some ⟨g, 0, none⟩) L :=
  .inr ⟨g, 0, h.lt, rfl, fun i hi => by
    rw [Nat.zero_add, h.cell]
    simp [cellsOf, nth, hi]⟩

theorem Reads.only {w w' : World} {S : List Nat} {A : Option Addr} {L : List Int} (h : Reads w A L) (o : Only S w w') (hn : ∀ ad, A = some ad → ad.block ∉ S) : Reads w' A L := by
  rcases h with h | ⟨g, o', hg, rfl, hc⟩
  · exact .inl h
  · exact .inr ⟨g, o', Nat.lt_of_lt_of_le hg o.size, rfl, fun i hi => (o.cell (p := ⟨g, o' + i, none⟩) hg (hn ⟨g, o', none⟩ rfl)).trans (hc i hi)⟩

/-- A slice that reads as a list of words. -/
def IsRow (w : World) (v : Value) (L : List Int) : Prop := ∃ A c, v = .slice A L.length c ∧ Reads w A L ∧ L.length ≤ 9223372036854775807

theorem IsRow.alloc {w : World} {v : Value} {L : List Int} (h : IsRow w v L) (o : Obj) : IsRow (w.alloc o) v L := by
  obtain ⟨A, c, rfl, hr, hm⟩ := h
  refine ⟨A, c, rfl, ?_, hm⟩
  rcases hr with h | ⟨g, o', hg, rfl, hc⟩
  · exact .inl h
  · exact .inr ⟨g, o', by simp; omega, rfl, fun i hi => (((Only.refl [] w).alloc o).cell (p := ⟨g, o' + i, none⟩) hg (by simp)).trans (hc i hi)⟩

theorem IsRow.only {w w' : World} {v : Value} {L : List Int} {S : List Nat} (h : IsRow w v L) (o : Only S w w') (hn : ∀ k ∈ S, w.heap.size ≤ k) : IsRow w' v L := by
  obtain ⟨A, c, rfl, hr, hm⟩ := h
  refine ⟨A, c, rfl, ?_, hm⟩
  rcases hr with h | ⟨g, o', hg, rfl, hc⟩
  · exact .inl h
  · exact .inr ⟨g, o', Nat.lt_of_lt_of_le hg o.size, rfl, fun i hi => (o.cell (p := ⟨g, o' + i, none⟩) hg (fun hm => by have := hn _ hm; simp at this; omega)).trans (hc i hi)⟩

theorem IsRow.of_blk {w : World} {g : Nat} {L : List Int} {cs : Array Value} (h : Blk w g 38 cs) (hc : cs = cellsOf L) (n : Nat) (hn : n = L.length) (hl : L.length ≤ 9223372036854775807) : IsRow w (.slice (some ⟨g, 0, none⟩) n n) L := by
  subst hc hn
  exact ⟨_, _, rfl, .blk h, hl⟩

theorem NewWords.isRow {w w' : World} {v : Value} {L : List Int} (h : NewWords w w' v L) (hl : L.length ≤ 9223372036854775807) : IsRow w' v L := by
  rcases h with ⟨rfl, rfl⟩ | ⟨_, g, _, rfl, hb⟩
  · exact ⟨none, 0, rfl, .nil _ _, hl⟩
  · exact ⟨_, _, rfl, .blk hb, hl⟩

theorem eqw_len (w : World) (A B : Option Addr) (n m ca cb : Nat) (h : n ≠ m) : Calls Try.prog 44 #[.slice A n ca, .slice B m cb] w fun e w' => e = .returned (.bool false) ∧ w = w' := by
  have h1 : ((n : Int) != (m : Int)) = true := by simp; omega
  clear h
  go_enter Try.func44, Try.ntmps44
  go_wp2
  go_ret
  exact ⟨rfl, rfl⟩

theorem eqw_loop (w : World) (g g' o o' ca cb : Nat) (L M : List Int) (hlen : L.length = M.length) (hg : g < w.heap.size) (hg' : g' < w.heap.size) (hmax : L.length ≤ 9223372036854775807)
    (hc : ∀ i, i < L.length → w.cell? ⟨g, o + i, none⟩ = some (.int .u64 (nth L i))) (hc' : ∀ i, i < M.length → w.cell? ⟨g', o' + i, none⟩ = some (.int .u64 (nth M i))) :
    Calls Try.prog 44 #[.slice (some ⟨g, o, none⟩) L.length ca, .slice (some ⟨g', o', none⟩) M.length cb] w fun e w' => e = .returned (.bool (decide (∀ j, j < L.length → nth L j = nth M j))) ∧ Only [] w w' := by
  rw [← hlen]
  have HL := Lib.hid hlen
  have HC := Lib.hid hc
  have HC' := Lib.hid hc'
  have HG := Lib.hid hg
  have HG' := Lib.hid hg'
  clear hlen hc hc' hg hg'
  go_enter Try.func44, Try.ntmps44
  go_wp2
  go_loopw [5] (fun i wr => ∃ k : Nat, k ≤ L.length ∧ i = .int .i64 k ∧ Only [] w wr ∧ Hid (∀ j, j < k → nth L j = nth M j)) (fun i _ => L.length - (intOf i).toNat)
  case atStart => exact ⟨0, Nat.zero_le _, rfl, Only.refl _ _, fun j hj => absurd hj (by omega)⟩
  case round =>
    obtain ⟨k, hk, rfl, ho, hj⟩ := hrel
    by_cases hlt : k < L.length
    · have c1 := (ho.cell (p := ⟨g, o + k, none⟩) HG.out (by simp)).trans (HC.out k hlt)
      have c2 := (ho.cell (p := ⟨g', o' + k, none⟩) HG'.out (by simp)).trans (HC'.out k (by rw [← HL.out]; exact hlt))
      have HO := Lib.hid ho
      clear ho
      by_cases he : nth L k = nth M k
      · have he1 : (nth L k != nth M k) = false := by simpa using he
        clear he
        go_wp2
        go_region
        all_goals go_wp2
        all_goals
          refine ⟨⟨k + 1, by omega, by go_num, HO.out.drew, ?_⟩, by simp [intOf]; omega⟩
          intro j hj'
          rcases Nat.lt_or_ge j k with h | h
          · exact hj.out j h
          · obtain rfl : j = k := by omega
            simpa using he1
      · have he1 : (nth L k != nth M k) = true := by simpa using he
        have HE := Lib.hid he
        clear he
        go_wp2
        go_region
        all_goals go_wp2
        all_goals go_ret
        all_goals exact ⟨by rw [show decide (∀ j, j < L.length → nth L j = nth M j) = false from decide_eq_false fun h => HE.out (h k hlt)]; rfl, HO.out.drew⟩
    · have hkl : k = L.length := by omega
      have HO := Lib.hid ho
      have HK := Lib.hid hkl
      clear ho hkl
      go_wp2
      go_ret
      exact ⟨by rw [show decide (∀ j, j < L.length → nth L j = nth M j) = true from decide_eq_true fun j h => hj.out j (by rw [HK.out]; exact h)]; rfl, HO.out⟩

theorem ext_nth (L M : List Int) (hl : L.length = M.length) (h : ∀ j, j < L.length → nth L j = nth M j) : L = M := by
  apply List.ext_getElem hl
  intro i h1 h2
  have := h i h1
  simpa [nth, h1, h2] using this

theorem eqw_any (w : World) (v v' : Value) (L M : List Int) (h : IsRow w v L) (h' : IsRow w v' M) : Calls Try.prog 44 #[v, v'] w fun e w' => e = .returned (.bool (decide (L = M))) ∧ Only [] w w' := by
  obtain ⟨A, c, rfl, hr, hm⟩ := h
  obtain ⟨B, c', rfl, hr', hm'⟩ := h'
  by_cases hl : L.length = M.length
  · have key : decide (L = M) = decide (∀ j, j < L.length → nth L j = nth M j) := by
      by_cases e : L = M
      · subst e; simp
      · rw [decide_eq_false e, decide_eq_false fun h => e (ext_nth L M hl h)]
    rw [key]
    rcases hr with rfl | ⟨g, o, hg, rfl, hc⟩
    · obtain rfl : M = [] := List.eq_nil_of_length_eq_zero (by simpa using hl.symm)
      go_enter Try.func44, Try.ntmps44
      go_wp2
      go_loopw [5] (fun i wr => i = .int .i64 0 ∧ w = wr) (fun _ _ => 0)
      case atStart => exact ⟨rfl, rfl⟩
      case round =>
        obtain ⟨rfl, rfl⟩ := hrel
        go_wp2
        go_ret
        exact ⟨by simp, Only.refl _ _⟩
    · rcases hr' with rfl | ⟨g', o', hg', rfl, hc'⟩
      · obtain rfl : L = [] := List.eq_nil_of_length_eq_zero (by simpa using hl)
        go_enter Try.func44, Try.ntmps44
        go_wp2
        go_loopw [5] (fun i wr => i = .int .i64 0 ∧ w = wr) (fun _ _ => 0)
        case atStart => exact ⟨rfl, rfl⟩
        case round =>
          obtain ⟨rfl, rfl⟩ := hrel
          go_wp2
          go_ret
          exact ⟨by simp, Only.refl _ _⟩
      · exact eqw_loop w g g' o o' c c' L M hl hg hg' hm hc hc'
  · refine (eqw_len w A B _ _ c c' hl).mono ?_
    rintro e w' ⟨rfl, rfl⟩
    exact ⟨by rw [decide_eq_false fun e => hl (by rw [e])], Only.refl _ _⟩

end Go.Proofs.Ytoecoijmkjhkgaa
