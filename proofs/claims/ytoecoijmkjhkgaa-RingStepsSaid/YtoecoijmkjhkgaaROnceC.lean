/- What the walk of RingOnce wants: counts in a slice of numbers, the ring's beginning. -/
import Derived.Test.YtoecoijmkjhkgaaPRow
import Derived.Test.YtoecoijmkjhkgaaKnown6W
import Derived.Test.YtoecoijmkjhkgaaShell4
namespace Go.Proofs.Ytoecoijmkjhkgaa
open Go.RowKit

theorem Try.infoPu : (Try.prog.info? 36).map (fun i => (i.zero, i.size, i.bytes)) = some (some (.pointer none), 1, 8) := by kernel_rfl
theorem Try.infoPo : (Try.prog.info? 39).map (fun i => (i.zero, i.size, i.bytes)) = some (some (.pointer none), 1, 8) := by kernel_rfl
theorem Try.infoI : (Try.prog.info? 3).map (fun i => (i.zero, i.size, i.bytes)) = some (some (.int .i64 0), 1, 8) := by kernel_rfl

def icells (L : List Int) : Array Value := (L.map (Value.int .i64)).toArray
theorem icells_set (L : List Int) (k : Nat) (v : Int) : (icells L).setIfInBounds k (.int .i64 v) = icells (L.set k v) := by
  unfold icells
  rw [List.setIfInBounds_toArray, List.map_set]
theorem icells_zero (n : Nat) : madeCells (Value.int .i64 0).cells n = icells (List.replicate n 0) := by
  apply Array.ext'
  show (madeCells #[Value.int .i64 0] n).toList = _
  rw [toList_madeCells_one]
  simp [icells]
theorem icells_at (L : List Int) (i : Nat) (h : i < L.length) : (icells L)[i]? = some (.int .i64 (nth L i)) := by simp [icells, nth, h]

theorem mkI (n : Nat) (h : n ≤ 65536) (W : World) : (Instr.makeSlice 44 (.int .i64 (n : Int)) (.int .i64 (n : Int))).run Try.prog W =
    .ok (.slice (some ⟨W.heap.size, 0, none⟩) n n) (W.alloc (.cells (icells (List.replicate n 0)) 3)) := by
  obtain ⟨i0, hi, hz0, hz1, hz2⟩ := info_parts Try.infoI
  rw [run_make W 44 3 i0 _ Try.underlying44 hi hz0 .i64 .i64 n n (by omega) (Int.le_refl _) (by rw [hz2]; omega) (by omega), hz1, Nat.mul_one, Int.toNat_natCast, icells_zero]

/-- One who popped value 100 + i. -/
def Got (s : RQ) (i : Nat) : Prop := s.st = 5 ∧ s.has = true ∧ s.v = 100 + (i : Int)
/-- How often each value was popped by the first q. -/
def Had (G : Nat → RQ) (N q : Nat) (H : List Int) : Prop := H.length = N ∧ ∀ i, i < N → (nth H i = 0 ∧ ∀ k, k < q → ¬ Got (G k) i) ∨ (nth H i = 1 ∧ ∃ k, k < q ∧ Got (G k) i)

section
variable {N M n q i : Nat} {P G : Nat → RQ} {L H : List Int} {I O : Nat} {pu po : Nat → Nat} {t : Nat}
theorem Had.none (G : Nat → RQ) (N : Nat) : Had G N 0 (List.replicate N 0) := ⟨List.length_replicate, fun i hi => .inl ⟨by simp [nth, hi], fun _ h => absurd h (by omega)⟩⟩
theorem Had.skip (h : Had G N q H) (hn : ¬ ((G q).st = 5 ∧ (G q).has = true)) : Had G N (q + 1) H := ⟨h.1, fun i hi => by
  rcases h.2 i hi with ⟨h1, h2⟩ | ⟨h1, k, hk, h2⟩
  · refine .inl ⟨h1, fun k hk => ?_⟩
    by_cases e : k = q
    · subst e; exact fun hg => hn ⟨hg.1, hg.2.1⟩
    · exact h2 k (by omega)
  · exact .inr ⟨h1, k, by omega, h2⟩⟩
theorem Had.more (o : OSt N M n P G L I O pu po t) (h : Had G N q H) (hq : q < M) (hg : Got (G q) i) (hi : i < N) : nth H i = 0 ∧ Had G N (q + 1) (H.set i 1) := by
  obtain ⟨i', hi', hv, _, hu⟩ := o.popped hq hg.1 hg.2.1
  obtain rfl : i' = i := by have := hg.2.2; omega
  have h0 : nth H i' = 0 := by
    rcases h.2 i' hi with ⟨h1, _⟩ | ⟨_, k, hk, h2⟩
    · exact h1
    · have := hu k (by omega) h2.1 h2.2.1 h2.2.2
      omega
  refine ⟨h0, by rw [List.length_set]; exact h.1, fun j hj => ?_⟩
  rw [nth_set _ _ _ _ (by rw [h.1]; exact hi)]
  by_cases e : i' = j
  · subst e
    rw [if_pos rfl]
    exact .inr ⟨rfl, q, by omega, hg⟩
  · rw [if_neg e]
    rcases h.2 j hj with ⟨h1, h2⟩ | ⟨h1, k, hk, h2⟩
    · refine .inl ⟨h1, fun k hk => ?_⟩
      by_cases ek : k = q
      · subst ek
        intro h3
        have := h3.2.2
        have := hg.2.2
        omega
      · exact h2 k (by omega)
    · exact .inr ⟨h1, k, by omega, h2⟩
theorem Had.end_ (o : OSt N M n P G L I O pu po t) (h : Had G N M H) (hi : i < N) : nth H i = 0 ∨ nth H i = 1 ∧ ((P i).st = 5 → (P i).has = true) := by
  rcases h.2 i hi with ⟨h1, _⟩ | ⟨h1, k, hk, h2⟩
  · exact .inl h1
  · obtain ⟨i', hi', hv, hp, _⟩ := o.popped hk h2.1 h2.2.1
    obtain rfl : i' = i := by have := h2.2.2; omega
    exact .inr ⟨h1, hp⟩

theorem once_start {m : MS} (r : RingAt m.L 2 n 0 []) (hP : ∀ i, i < N → P i = ⟨2, n, 0, 0, false, 100 + (i : Int)⟩) (hG : ∀ j, j < M → G j = ⟨2, n, 0, 0, false, 0⟩) : OSt N M n P G m.L 0 0 (fun _ => 0) (fun _ => 0) 0 := by
  obtain ⟨len, n2, le, small, inn, out, full, free⟩ := r
  refine ⟨by omega, inn, out, by omega, ⟨n2, fun p q e => tu_mod e, by omega, by omega, fun _ _ h => absurd h (by omega), fun _ h => absurd h (by omega), fun _ _ h => absurd h (by omega), fun p _ h => .inl ?_⟩, fun i hi => ?_, fun j hj => ?_⟩
  · have := free p (by simp) (by omega)
    rw [Nat.zero_add] at this
    exact this
  · rw [hP i hi]; exact .s0 0 fun _ h => absurd h (by omega)
  · rw [hG j hj]; exact .s0 0 0
end

section
variable {w wr w1 w2 w' : World} {mb ms lb : Nat} {a n : Int} {cs : Array Value} {m m' : MS} {ps ps' gs gs' : Value} {N M : Nat} {BP BG : Nat → Nat} {P G : Nat → RQ}
theorem RoSt.load (h : RoSt w wr mb ms lb a n cs m ps N BP P gs M BG G) (k : Nat) {x : Int} (hk : k < m.L.length) (hx : nth m.L k = x) :
    Calls Try.prog 21 #[.pointer (some ⟨mb, 0, none⟩), .int .i64 k] wr fun e w' => e = .returned (.tuple #[.int .u64 x, .int .i64 0]) ∧ RoSt w w' mb ms lb a n cs ⟨m.L, wrap64 (m.c + 1), m.l⟩ ps N BP P gs M BG G := by
  have hld : m.load k = (⟨m.L, wrap64 (m.c + 1), m.l⟩, x, 0) := by
    have := congrArg (fun x => (x.1, x.2.v, x.2.e)) (qload m k hk)
    rw [act1] at this
    rw [← hx]
    exact this
  refine (load_to h.mem hld).mono ?_
  rintro e w' ⟨rfl, o, hm⟩
  exact ⟨rfl, h.touch o hm h.rng⟩

/-- The slice of counts lies above. -/
structure Hd (w wr : World) (mb ms lb : Nat) (a n : Int) (cs : Array Value) (m : MS) (ps : Value) (N : Nat) (BP : Nat → Nat) (P : Nat → RQ) (gs : Value) (M : Nat) (BG : Nat → Nat) (G : Nat → RQ) (hb : Nat) (H : List Int) : Prop where
  st : RoSt w wr mb ms lb a n cs m ps N BP P gs M BG G
  had : Blk wr hb 3 (icells H)
  lo : w.heap.size ≤ hb
theorem Hd.quiet {hb : Nat} {H : List Int} (h : Hd w wr mb ms lb a n cs m ps N BP P gs M BG G hb H) (o : Only [] wr w') : Hd w w' mb ms lb a n cs m ps N BP P gs M BG G hb H := ⟨h.st.quiet o, h.had.only o (by simp), h.lo⟩
theorem Hd.set {hb : Nat} {H : List Int} (h : Hd w wr mb ms lb a n cs m ps N BP P gs M BG G hb H) (i : Nat) (v : Int) : Hd w (wr.setCell ⟨hb, i, none⟩ (.int .i64 v)) mb ms lb a n cs m ps N BP P gs M BG G hb (H.set i v) := by
  refine ⟨h.st.far (T := [hb]) ((Only.refl _ _).setCell (by simp) _) (fun x hx => ?_), by rw [← icells_set]; exact h.had.set i _, h.lo⟩
  simp at hx
  subst hx
  exact ⟨h.lo, h.had.ne h.st.mem.obj (by decide), h.had.ne h.st.mem.row (by decide), _, _, h.had, by decide, by decide, by decide, by decide, by decide, by decide⟩
end

end Go.Proofs.Ytoecoijmkjhkgaa
