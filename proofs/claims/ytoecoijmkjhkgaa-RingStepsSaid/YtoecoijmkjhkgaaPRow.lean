/- Rows of pointers to things, each thing its own block; those who push and pop on one ring. -/
import Derived.Test.YtoecoijmkjhkgaaOnceP
import Derived.Test.YtoecoijmkjhkgaaOwn
namespace Go.Proofs.Ytoecoijmkjhkgaa
open Go.RowKit

def ptrs (B : Nat → Nat) (N : Nat) : List Value := (List.range N).map fun k => Value.pointer (some ⟨B k, 0, none⟩)
theorem ptrs_ext (B : Nat → Nat) (n b : Nat) : ptrs B n ++ [.pointer (some ⟨b, 0, none⟩)] = ptrs (ext B n b) (n + 1) := by
  unfold ptrs
  rw [List.range_succ, List.map_append]
  congr 1
  · refine List.map_congr_left fun j hj => ?_
    rw [ext_far _ _ _ _ (by have := List.mem_range.1 hj; omega)]
  · simp [ext_same]

theorem row_block {w : World} {b0 e n : Nat} {sl : Value} {xs : List Value} (h : w.ownsRow b0 e 1 sl n xs) : ∀ x ∈ sl.ownBlock.toList, b0 ≤ x ∧ ∃ cs, Blk w x e cs := fun x hx => by
  rcases h.2 with ⟨rfl, _⟩ | ⟨g, cap, cur, rfl, hb, hh, _⟩
  · simp [Value.ownBlock] at hx
  · simp [Value.ownBlock] at hx
    subst hx
    exact ⟨hb, cur, hh⟩
theorem row_rest {w w' : World} {base e sz : Nat} {v : Value} {n : Nat} {xs : List Value} {S : List Nat} (h : w.ownsRow base e sz v n xs) (o : Only S w w') (hS : ∀ x ∈ S, v.ownBlock ≠ some x) : w'.ownsRow base e sz v n xs := by
  refine ⟨h.1, ?_⟩
  rcases h.2 with h2 | ⟨g, cap, cur, rfl, hg, hh, r⟩
  · exact .inl h2
  · refine .inr ⟨g, cap, cur, rfl, hg, ?_, r⟩
    have hb : Blk w g e cur := hh
    exact hb.only o fun hm => hS g hm rfl
theorem row_based {w : World} {b e sz n : Nat} {v : Value} {xs : List Value} (h : w.ownsRow 0 e sz v n xs) (hb : ∀ x, v.ownBlock = some x → b ≤ x) : w.ownsRow b e sz v n xs := by
  refine ⟨h.1, ?_⟩
  rcases h.2 with h2 | ⟨g, cap, cur, rfl, _, r⟩
  · exact .inl h2
  · exact .inr ⟨g, cap, cur, rfl, hb g rfl, r⟩
theorem row_any {w : World} {b e sz n : Nat} {v : Value} {xs : List Value} (h : w.ownsRow b e sz v n xs) : w.ownsRow 0 e sz v n xs ∧ ∀ x, v.ownBlock = some x → b ≤ x := by
  refine ⟨⟨h.1, ?_⟩, fun x hx => ?_⟩
  · rcases h.2 with h2 | ⟨g, cap, cur, rfl, _, r⟩
    · exact .inl h2
    · exact .inr ⟨g, cap, cur, rfl, Nat.zero_le _, r⟩
  · rcases h.2 with ⟨rfl, _⟩ | ⟨g, cap, cur, rfl, hb, _⟩
    · cases hx
    · have : g = x := by simpa [Value.ownBlock] using hx
      omega

/-- A kind of thing: a block of type t. -/
structure Thing {σ : Type} (t : TypeId) (Is : World → Nat → σ → Prop) : Prop where
  blk : ∀ {w : World} {b : Nat} {s : σ}, Is w b s → ∃ cs, Blk w b t cs
  only : ∀ {w w' : World} {b : Nat} {s : σ} {T : List Nat}, Is w b s → Only T w w' → b ∉ T → Is w' b s

/-- A row of pointers to N things, each its own block; all of it lies above z. -/
structure Many {σ : Type} (e : TypeId) (Is : World → Nat → σ → Prop) (z : Nat) (wr : World) (sl : Value) (N : Nat) (B : Nat → Nat) (S : Nat → σ) : Prop where
  row : wr.ownsRow 0 e 1 sl N (ptrs B N)
  inj : ∀ i j, i < N → j < N → B i = B j → i = j
  lo : ∀ j, j < N → z ≤ B j
  los : ∀ x, sl.ownBlock = some x → z ≤ x
  is : ∀ j, j < N → Is wr (B j) (S j)

section
variable {σ : Type} {e t : TypeId} {Is : World → Nat → σ → Prop} {z : Nat} {wr w1 w2 w' : World} {sl sl' : Value} {N : Nat} {B : Nat → Nat} {S : Nat → σ} {T : List Nat}

theorem Many.nil (e : TypeId) (Is : World → Nat → σ → Prop) (z : Nat) (w : World) (B : Nat → Nat) (S : Nat → σ) : Many e Is z w (.slice none 0 0) 0 B S :=
  ⟨World.ownsRow_nil _ _ _ _, fun _ _ h => absurd h (by omega), fun _ h => absurd h (by omega), fun x hx => (by cases hx), fun _ h => absurd h (by omega)⟩

theorem Many.form (h : Many e Is z wr sl N B S) : ∃ A cap, sl = .slice A N cap := row_form h.row

theorem Many.row_ne (h : Many e Is z wr sl N B S) {x : Nat} {t' : TypeId} {cs : Array Value} (hb : Blk wr x t' cs) (ht : t' ≠ e) : sl.ownBlock ≠ some x := fun hx => by
  obtain ⟨_, cs', hb'⟩ := row_block h.row x (by rw [hx]; simp)
  exact ht (Blk.inj hb hb').1

theorem Many.cell {A : Option Addr} {cap : Nat} (h : Many e Is z wr (.slice A N cap) N B S) {k : Nat} (hk : k < N) : ∃ g, A = some ⟨g, 0, none⟩ ∧ wr.cell? ⟨g, k, none⟩ = some (.pointer (some ⟨B k, 0, none⟩)) := by
  obtain ⟨g', cap', cur, e, _, hb, hc⟩ := row_cells h.row (by omega)
  simp only [Value.slice.injEq] at e
  obtain ⟨rfl, _⟩ := e
  refine ⟨g', rfl, hb.at k ?_⟩
  rw [hc k (by omega)]
  simp [ptrs, hk]

theorem Many.step (th : Thing t Is) (h : Many e Is z wr sl N B S) (hte : t ≠ e) {k : Nat} (hk : k < N) (o : Only T wr w') (hT : ∀ x ∈ T, x = B k ∨ ∃ t' cs, Blk wr x t' cs ∧ t' ≠ e ∧ t' ≠ t) {s' : σ} (hs : Is w' (B k) s') : Many e Is z w' sl N B (ext S k s') := by
  refine ⟨row_rest h.row o fun x hx => ?_, h.inj, h.lo, h.los, fun j hj => ?_⟩
  · rcases hT x hx with rfl | ⟨t', cs, hb, h1, _⟩
    · obtain ⟨cs, hb⟩ := th.blk (h.is k hk)
      exact h.row_ne hb hte
    · exact h.row_ne hb h1
  · by_cases e1 : j = k
    · rw [e1, ext_same]; exact hs
    · rw [ext_far _ _ _ _ e1]
      refine th.only (h.is j hj) o fun hx => ?_
      rcases hT _ hx with e2 | ⟨t', cs, hb, _, h1⟩
      · exact e1 (h.inj j k hj hk e2)
      · obtain ⟨cs', hb'⟩ := th.blk (h.is j hj)
        exact h1 (Blk.inj hb hb').1

theorem Many.other (th : Thing t Is) (h : Many e Is z wr sl N B S) (o : Only T wr w') (hT : ∀ x ∈ T, ∃ t' cs, Blk wr x t' cs ∧ t' ≠ e ∧ t' ≠ t) : Many e Is z w' sl N B S := by
  refine ⟨row_rest h.row o fun x hx => ?_, h.inj, h.lo, h.los, fun j hj => ?_⟩
  · obtain ⟨t', cs, hb, h1, _⟩ := hT x hx
    exact h.row_ne hb h1
  · refine th.only (h.is j hj) o fun hx => ?_
    obtain ⟨t', cs, hb, _, h1⟩ := hT _ hx
    obtain ⟨cs', hb'⟩ := th.blk (h.is j hj)
    exact h1 (Blk.inj hb hb').1

theorem Many.quiet (th : Thing t Is) (h : Many e Is z wr sl N B S) (o : Only [] wr w') : Many e Is z w' sl N B S := h.other th o (by simp)

/-- One more: w1 is the world with the new thing and the word that is appended. -/
theorem Many.add (th : Thing t Is) (h : Many e Is z wr sl N B S) (hte : t ≠ e) (o : Only [] wr w1) {b : Nat} {s : σ} (hs : Is w1 b s) (hb : wr.heap.size ≤ b) (hz : z ≤ wr.heap.size)
    (hown : w2.ownsRow z e 1 sl' (N + 1) (ptrs B N ++ [.pointer (some ⟨b, 0, none⟩)])) (hg : w1.grownBy w2 sl.ownBlock) : Many e Is z w2 sl' (N + 1) (ext B N b) (ext S N s) := by
  have h1 := h.quiet th o
  have o2 := grown_only hg
  rw [ptrs_ext] at hown
  obtain ⟨r1, r2⟩ := row_any hown
  have far : ∀ {x : Nat} {s : σ}, Is w1 x s → Is w2 x s := fun hx => th.only hx o2 fun hm => by
    obtain ⟨_, cs, hb1⟩ := row_block h1.row _ hm
    obtain ⟨cs', hb2⟩ := th.blk hx
    exact hte (Blk.inj hb2 hb1).1
  have lt : ∀ j, j < N → B j < wr.heap.size := fun j hj => by
    obtain ⟨cs, hb⟩ := th.blk (h.is j hj)
    exact hb.lt
  refine ⟨r1, fun i j hi hj e => ?_, fun j hj => ?_, r2, fun j hj => ?_⟩
  · by_cases e1 : i = N <;> by_cases e2 : j = N
    · omega
    · rw [e1, ext_same, ext_far _ _ _ _ e2] at e
      have := lt j (by omega)
      omega
    · rw [e2, ext_same, ext_far _ _ _ _ e1] at e
      have := lt i (by omega)
      omega
    · rw [ext_far _ _ _ _ e1, ext_far _ _ _ _ e2] at e
      exact h.inj i j (by omega) (by omega) e
  · by_cases e1 : j = N
    · rw [e1, ext_same]; omega
    · rw [ext_far _ _ _ _ e1]; exact h.lo j (by omega)
  · by_cases e1 : j = N
    · rw [e1, ext_same, ext_same]; exact far hs
    · rw [ext_far _ _ _ _ e1, ext_far _ _ _ _ e1]; exact far (h1.is j (by omega))
end

def IsPu (w : World) (b : Nat) (s : RQ) : Prop := IsQ w b false s
def IsPo (w : World) (b : Nat) (s : RQ) : Prop := IsQ w b true s
theorem thing_pu : Thing 107 IsPu := ⟨fun h => ⟨_, h.obj⟩, fun h o hb => IsQ.only h o hb⟩
theorem thing_po : Thing 108 IsPo := ⟨fun h => ⟨_, h.obj⟩, fun h o hb => IsQ.only h o hb⟩

/-- Those who push and pop on one ring, and what lies about them. -/
structure RoSt (w wr : World) (mb ms lb : Nat) (a n : Int) (cs : Array Value) (m : MS) (ps : Value) (N : Nat) (BP : Nat → Nat) (P : Nat → RQ) (gs : Value) (M : Nat) (BG : Nat → Nat) (G : Nat → RQ) : Prop where
  out : Only [] w wr
  lo : w.heap.size ≤ mb ∧ w.heap.size ≤ ms
  mem : IsMem wr mb ms m
  rng : m.rng
  lock : Blk wr lb 32 #[.int .i64 a, .int .i64 n]
  case_ : Blk wr w.heap.size 25 cs
  mp : Many 36 IsPu w.heap.size wr ps N BP P
  mg : Many 39 IsPo w.heap.size wr gs M BG G

/-- A block that is none of those. -/
def Foreign (wr : World) (mb ms x : Nat) : Prop := x ≠ mb ∧ x ≠ ms ∧ ∃ t cs, Blk wr x t cs ∧ t ≠ 32 ∧ t ≠ 25 ∧ t ≠ 36 ∧ t ≠ 39 ∧ t ≠ 107 ∧ t ≠ 108

section
variable {w wr w1 w2 w' : World} {mb ms lb : Nat} {a n : Int} {cs : Array Value} {m m' : MS} {ps ps' gs gs' : Value} {N M : Nat} {BP BG : Nat → Nat} {P G : Nat → RQ}

theorem RoSt.lt (h : RoSt w wr mb ms lb a n cs m ps N BP P gs M BG G) : mb < wr.heap.size ∧ ms < wr.heap.size ∧ lb < wr.heap.size ∧ w.heap.size < wr.heap.size := ⟨h.mem.obj.lt, h.mem.row.lt, h.lock.lt, h.case_.lt⟩

theorem RoSt.far (h : RoSt w wr mb ms lb a n cs m ps N BP P gs M BG G) {T : List Nat} (o : Only T wr w') (hT : ∀ x ∈ T, w.heap.size ≤ x ∧ Foreign wr mb ms x) : RoSt w w' mb ms lb a n cs m ps N BP P gs M BG G := by
  refine ⟨h.out.then o fun x hx => .inr (hT x hx).1, h.lo, h.mem.only o (fun hx => (hT _ hx).2.1 rfl) (fun hx => (hT _ hx).2.2.1 rfl), h.rng, h.lock.only o (fun hx => ?_), h.case_.only o (fun hx => ?_), h.mp.other thing_pu o fun x hx => ?_, h.mg.other thing_po o fun x hx => ?_⟩
  · obtain ⟨_, _, _, t, cs, hb, h1, _⟩ := hT _ hx
    exact h1 (Blk.inj hb h.lock).1
  · obtain ⟨_, _, _, t, cs, hb, _, h1, _⟩ := hT _ hx
    exact h1 (Blk.inj hb h.case_).1
  · obtain ⟨_, _, _, t, cs, hb, _, _, h1, _, h2, _⟩ := hT _ hx
    exact ⟨t, cs, hb, h1, h2⟩
  · obtain ⟨_, _, _, t, cs, hb, _, _, _, h1, _, h2⟩ := hT _ hx
    exact ⟨t, cs, hb, h1, h2⟩
theorem RoSt.quiet (h : RoSt w wr mb ms lb a n cs m ps N BP P gs M BG G) (o : Only [] wr w') : RoSt w w' mb ms lb a n cs m ps N BP P gs M BG G := h.far o (by simp)

theorem RoSt.touch (h : RoSt w wr mb ms lb a n cs m ps N BP P gs M BG G) (o : Only [mb, ms] wr w') (hm : IsMem w' mb ms m') (hr : m'.rng) : RoSt w w' mb ms lb a n cs m' ps N BP P gs M BG G := by
  have h1 := h.mem.obj
  have h2 := h.mem.row
  have h3 := h.lo
  refine ⟨h.out.then o (by simp; omega), h.lo, hm, hr, h.lock.only o ?_, h.case_.only o ?_, h.mp.other thing_pu o fun x hx => ?_, h.mg.other thing_po o fun x hx => ?_⟩
  · have := h.lock.ne h1 (by decide)
    have := h.lock.ne h2 (by decide)
    simp; omega
  · have := h.case_.ne h1 (by decide)
    have := h.case_.ne h2 (by decide)
    simp; omega
  · simp at hx
    rcases hx with rfl | rfl
    · exact ⟨_, _, h1, by decide, by decide⟩
    · exact ⟨_, _, h2, by decide, by decide⟩
  · simp at hx
    rcases hx with rfl | rfl
    · exact ⟨_, _, h1, by decide, by decide⟩
    · exact ⟨_, _, h2, by decide, by decide⟩

theorem RoSt.pstep (h : RoSt w wr mb ms lb a n cs m ps N BP P gs M BG G) {k : Nat} (hk : k < N) {s' : RQ} (o : Only [BP k, mb, ms] wr w') (hm : IsMem w' mb ms m') (hr : m'.rng) (hq : IsQ w' (BP k) false s') : RoSt w w' mb ms lb a n cs m' ps N BP (ext P k s') gs M BG G := by
  have h1 := h.mem.obj
  have h2 := h.mem.row
  have h3 := h.lo
  have h4 := h.mp.lo k hk
  have h5 : IsQ wr (BP k) false (P k) := h.mp.is k hk
  refine ⟨h.out.then o (by simp; omega), h.lo, hm, hr, h.lock.only o ?_, h.case_.only o ?_, h.mp.step thing_pu (by decide) hk o (fun x hx => ?_) hq, h.mg.other thing_po o fun x hx => ?_⟩
  · have := h.lock.ne h1 (by decide)
    have := h.lock.ne h2 (by decide)
    have := h.lock.ne h5.obj (by decide)
    simp; omega
  · have := h.case_.ne h1 (by decide)
    have := h.case_.ne h2 (by decide)
    have := h.case_.ne h5.obj (by decide)
    simp; omega
  · simp at hx
    rcases hx with rfl | rfl | rfl
    · exact .inl rfl
    · exact .inr ⟨_, _, h1, by decide, by decide⟩
    · exact .inr ⟨_, _, h2, by decide, by decide⟩
  · simp at hx
    rcases hx with rfl | rfl | rfl
    · exact ⟨_, _, h5.obj, by decide, by decide⟩
    · exact ⟨_, _, h1, by decide, by decide⟩
    · exact ⟨_, _, h2, by decide, by decide⟩

theorem RoSt.gstep (h : RoSt w wr mb ms lb a n cs m ps N BP P gs M BG G) {k : Nat} (hk : k < M) {s' : RQ} (o : Only [BG k, mb, ms] wr w') (hm : IsMem w' mb ms m') (hr : m'.rng) (hq : IsQ w' (BG k) true s') : RoSt w w' mb ms lb a n cs m' ps N BP P gs M BG (ext G k s') := by
  have h1 := h.mem.obj
  have h2 := h.mem.row
  have h3 := h.lo
  have h4 := h.mg.lo k hk
  have h5 : IsQ wr (BG k) true (G k) := h.mg.is k hk
  refine ⟨h.out.then o (by simp; omega), h.lo, hm, hr, h.lock.only o ?_, h.case_.only o ?_, h.mp.other thing_pu o (fun x hx => ?_), h.mg.step thing_po (by decide) hk o (fun x hx => ?_) hq⟩
  · have := h.lock.ne h1 (by decide)
    have := h.lock.ne h2 (by decide)
    have := h.lock.ne h5.obj (by decide)
    simp; omega
  · have := h.case_.ne h1 (by decide)
    have := h.case_.ne h2 (by decide)
    have := h.case_.ne h5.obj (by decide)
    simp; omega
  · simp at hx
    rcases hx with rfl | rfl | rfl
    · exact ⟨_, _, h5.obj, by decide, by decide⟩
    · exact ⟨_, _, h1, by decide, by decide⟩
    · exact ⟨_, _, h2, by decide, by decide⟩
  · simp at hx
    rcases hx with rfl | rfl | rfl
    · exact .inl rfl
    · exact .inr ⟨_, _, h1, by decide, by decide⟩
    · exact .inr ⟨_, _, h2, by decide, by decide⟩

/-- A row grows: its block is none of the rest. -/
theorem RoSt.addp (h : RoSt w wr mb ms lb a n cs m ps N BP P gs M BG G) (o : Only [] wr w1) {b : Nat} {s : RQ} (hq : IsQ w1 b false s) (hb : wr.heap.size ≤ b)
    (hown : w2.ownsRow w.heap.size 36 1 ps' (N + 1) (ptrs BP N ++ [.pointer (some ⟨b, 0, none⟩)])) (hg : w1.grownBy w2 ps.ownBlock) : RoSt w w2 mb ms lb a n cs m ps' (N + 1) (ext BP N b) (ext P N s) gs M BG G := by
  have h1 := h.quiet o
  have o2 := grown_only hg
  have hz : w.heap.size ≤ wr.heap.size := h.out.size
  have hT := row_block (row_based h1.mp.row h1.mp.los)
  refine ⟨h1.out.then o2 fun x hx => .inr (hT x hx).1, h.lo, h1.mem.only o2 (fun hx => ?_) (fun hx => ?_), h.rng, h1.lock.only o2 (fun hx => ?_), h1.case_.only o2 (fun hx => ?_), h.mp.add thing_pu (by decide) o hq hb hz hown hg, h1.mg.other thing_po o2 fun x hx => ?_⟩
  · obtain ⟨_, cs, hb⟩ := hT _ hx
    exact absurd (Blk.inj hb h1.mem.obj).1 (by decide)
  · obtain ⟨_, cs, hb⟩ := hT _ hx
    exact absurd (Blk.inj hb h1.mem.row).1 (by decide)
  · obtain ⟨_, cs, hb⟩ := hT _ hx
    exact absurd (Blk.inj hb h1.lock).1 (by decide)
  · obtain ⟨_, cs, hb⟩ := hT _ hx
    exact absurd (Blk.inj hb h1.case_).1 (by decide)
  · obtain ⟨_, cs, hb⟩ := hT _ hx
    exact ⟨_, _, hb, by decide, by decide⟩
theorem RoSt.addg (h : RoSt w wr mb ms lb a n cs m ps N BP P gs M BG G) (o : Only [] wr w1) {b : Nat} {s : RQ} (hq : IsQ w1 b true s) (hb : wr.heap.size ≤ b)
    (hown : w2.ownsRow w.heap.size 39 1 gs' (M + 1) (ptrs BG M ++ [.pointer (some ⟨b, 0, none⟩)])) (hg : w1.grownBy w2 gs.ownBlock) : RoSt w w2 mb ms lb a n cs m ps N BP P gs' (M + 1) (ext BG M b) (ext G M s) := by
  have h1 := h.quiet o
  have o2 := grown_only hg
  have hz : w.heap.size ≤ wr.heap.size := h.out.size
  have hT := row_block (row_based h1.mg.row h1.mg.los)
  refine ⟨h1.out.then o2 fun x hx => .inr (hT x hx).1, h.lo, h1.mem.only o2 (fun hx => ?_) (fun hx => ?_), h.rng, h1.lock.only o2 (fun hx => ?_), h1.case_.only o2 (fun hx => ?_), h1.mp.other thing_pu o2 (fun x hx => ?_), h.mg.add thing_po (by decide) o hq hb hz hown hg⟩
  · obtain ⟨_, cs, hb⟩ := hT _ hx
    exact absurd (Blk.inj hb h1.mem.obj).1 (by decide)
  · obtain ⟨_, cs, hb⟩ := hT _ hx
    exact absurd (Blk.inj hb h1.mem.row).1 (by decide)
  · obtain ⟨_, cs, hb⟩ := hT _ hx
    exact absurd (Blk.inj hb h1.lock).1 (by decide)
  · obtain ⟨_, cs, hb⟩ := hT _ hx
    exact absurd (Blk.inj hb h1.case_).1 (by decide)
  · obtain ⟨_, cs, hb⟩ := hT _ hx
    exact ⟨_, _, hb, by decide, by decide⟩

theorem RoSt.pcall (h : RoSt w wr mb ms lb a n cs m ps N BP P gs M BG G) {k : Nat} (hk : k < N) :
    Calls Try.prog 19 #[.pointer (some ⟨BP k, 0, none⟩), .pointer (some ⟨mb, 0, none⟩)] wr fun e w' => e = .returned (.bool (decide (((P k).go false m).1.st = 5))) ∧ RoSt w w' mb ms lb a n cs ((P k).go false m).2 ps N BP (ext P k ((P k).go false m).1) gs M BG G := by
  have hq : IsQ wr (BP k) false (P k) := h.mp.is k hk
  refine (pustep_go hq h.mem h.rng).mono ?_
  rintro e w' ⟨rfl, o, hm, hq'⟩
  exact ⟨rfl, h.pstep hk o hm (go_rng false _ m hq.ok h.rng).1 hq'⟩
theorem RoSt.gcall (h : RoSt w wr mb ms lb a n cs m ps N BP P gs M BG G) {k : Nat} (hk : k < M) :
    Calls Try.prog 20 #[.pointer (some ⟨BG k, 0, none⟩), .pointer (some ⟨mb, 0, none⟩)] wr fun e w' => e = .returned (.bool (decide (((G k).go true m).1.st = 5))) ∧ RoSt w w' mb ms lb a n cs ((G k).go true m).2 ps N BP P gs M BG (ext G k ((G k).go true m).1) := by
  have hq : IsQ wr (BG k) true (G k) := h.mg.is k hk
  refine (postep_go hq h.mem h.rng).mono ?_
  rintro e w' ⟨rfl, o, hm, hq'⟩
  exact ⟨rfl, h.gstep hk o hm (go_rng true _ m hq.ok h.rng).1 hq'⟩
end

end Go.Proofs.Ytoecoijmkjhkgaa
