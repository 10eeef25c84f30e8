/- Writers and two readers on one lock: what lies in a world of law SeqlockWhole, and what its calls do to it. -/
import Derived.Test.YtnoplfjodedijaaSeqSt
import Derived.Test.YtnoplfjodedijaaWholeP
import Derived.Test.YtnoplfjodedijaaWholeF
namespace Go.Proofs.Ytnoplfjodedijaa
open Go.RowKit

/-- Two readers, above z. -/
structure TwoR (z : Nat) (wr : World) (rb sb : Nat) (sl tl : Value) (r s : RS) : Prop where
  hr : IsR wr rb sl r
  hs : IsR wr sb tl s
  lo : z ≤ rb ∧ z ≤ sb ∧ rb ≠ sb
  lsl : ∀ x, sl.ownBlock = some x → z ≤ x
  ltl : ∀ x, tl.ownBlock = some x → z ≤ x
  dis : ∀ x, sl.ownBlock = some x → tl.ownBlock ≠ some x

theorem IsR.sl_ne {w : World} {b : Nat} {sl : Value} {s : RS} (h : IsR w b sl s) {x t : Nat} {cs : Array Value} (hx : Blk w x t cs) (ht : t ≠ 22) : sl.ownBlock ≠ some x := fun e => by
  rcases h.row.2 with ⟨hsl, _⟩ | ⟨g, cap, cur, hsl, _, hh, _⟩
  · rw [hsl] at e; cases e
  · rw [hsl] at e
    have : g = x := by simpa [Value.ownBlock] using e
    subst this
    exact ht (Blk.inj hx (show Blk w g 22 cur from hh)).1

theorem IsR.sl_lt {w : World} {b : Nat} {sl : Value} {s : RS} (h : IsR w b sl s) {x : Nat} (hx : sl.ownBlock = some x) : x < w.heap.size := by
  rcases h.row.2 with ⟨hsl, _⟩ | ⟨g, cap, cur, hsl, _, hh, _⟩
  · rw [hsl] at hx; cases hx
  · rw [hsl] at hx
    have : g = x := by simpa [Value.ownBlock] using hx
    subst this
    exact (show Blk w g 22 cur from hh).lt

theorem TwoR.swap {z : Nat} {wr : World} {rb sb : Nat} {sl tl : Value} {r s : RS} (h : TwoR z wr rb sb sl tl r s) : TwoR z wr sb rb tl sl s r :=
  ⟨h.hs, h.hr, ⟨h.lo.2.1, h.lo.1, fun e => h.lo.2.2 e.symm⟩, h.ltl, h.lsl, fun x h1 h2 => h.dis x h2 h1⟩

theorem TwoR.far {z : Nat} {wr w' : World} {rb sb : Nat} {sl tl : Value} {r s : RS} {T : List Nat} (h : TwoR z wr rb sb sl tl r s) (o : Only T wr w') (hT : ∀ x ∈ T, x < z) : TwoR z w' rb sb sl tl r s := by
  have h1 := h.lo
  refine ⟨h.hr.only o (fun hx => by have := hT _ hx; omega) (fun x hx e => by have := hT x hx; have := h.lsl x e; omega), h.hs.only o (fun hx => by have := hT _ hx; omega) (fun x hx e => by have := hT x hx; have := h.ltl x e; omega), h.lo, h.lsl, h.ltl, h.dis⟩

/-- The first of them steps. -/
theorem TwoR.step {z : Nat} {wr w' : World} {rb sb mb ms : Nat} {sl sl' tl : Value} {r r' s : RS} (h : TwoR z wr rb sb sl tl r s) (hlt : mb < z ∧ ms < z) (hz : z ≤ wr.heap.size) (o : Only (rb :: mb :: ms :: sl.ownBlock.toList) wr w') (hr : IsR w' rb sl' r') (hx : ∀ x, sl'.ownBlock = some x → sl.ownBlock = some x ∨ wr.heap.size ≤ x) : TwoR z w' rb sb sl' tl r' s := by
  have h1 := h.lo
  refine ⟨hr, h.hs.only o ?_ ?_, h.lo, fun x e => ?_, h.ltl, fun x e1 e2 => ?_⟩
  · have h2 := h.hr.sl_ne h.hs.obj (by decide)
    simp
    exact ⟨fun e => h1.2.2 e.symm, by omega, by omega, h2⟩
  · intro x hx e
    have h2 := h.ltl x e
    have h3 := h.hs.sl_ne h.hr.obj (by decide)
    simp at hx
    rcases hx with rfl | rfl | rfl | hx
    · exact h3 e
    · omega
    · omega
    · exact h.dis x hx e
  · rcases hx x e with h2 | h2
    · exact h.lsl x h2
    · omega
  · rcases hx x e1 with h2 | h2
    · exact h.dis x h2 e2
    · have := h.hs.sl_lt e2
      omega

/-- What lies in a world; c is the number. -/
def WhSt (w : World) (z mb ms lb rb sb n : Nat) (cs : Array Value) (sl : Value) (N : Nat) (B V C : Nat → Nat) (c : Int) (t : Nat) (wr : World) : Prop :=
  ∃ (m : MS) (S : Nat → WS) (own : Option Nat) (x : Int) (tl ul : Value) (r s : RS), SeqSt w wr mb ms lb 5 n cs m sl N B V C S ∧ WInv N n S m.L t own x ∧ TwoR z wr rb sb tl ul r s ∧ RInv N n m.L r ∧ RInv N n m.L s ∧ nth m.L 5 = c ∧ z ≤ wr.heap.size

section
variable {w wr : World} {z mb ms lb rb sb n : Nat} {cs : Array Value} {sl : Value} {N : Nat} {B V C : Nat → Nat} {c : Int} {t : Nat}

theorem WInv.later {S : Nat → WS} {L : List Int} {own : Option Nat} {x : Int} (h : WInv N n S L t own x) : WInv N n S L (t + 1) own x :=
  ⟨h.len, h.c0, by have := h.c1; omega, h.x0, h.x1, h.rng, h.ws, h.free, h.held⟩

theorem WhSt.quiet {w' : World} (h : WhSt w z mb ms lb rb sb n cs sl N B V C c t wr) (o : Only [] wr w') : WhSt w z mb ms lb rb sb n cs sl N B V C c t w' := by
  obtain ⟨m, S, own, x, tl, ul, r, s, h1, h2, h3, h4, h5, h6, h7⟩ := h
  exact ⟨m, S, own, x, tl, ul, r, s, h1.quiet o, h2, h3.far o (by simp), h4, h5, h6, Nat.le_trans h7 o.size⟩

theorem WhSt.load (h : WhSt w z mb ms lb rb sb n cs sl N B V C c t wr) (hz : SeqLow z mb ms lb w.heap.size sl N B V) :
    Calls Try.prog 35 #[.pointer (some ⟨mb, 0, none⟩), .int .i64 5] wr fun e w' => e = .returned (.tuple #[.int .u64 c, .int .i64 0]) ∧ WhSt w z mb ms lb rb sb n cs sl N B V C c t w' := by
  obtain ⟨m, S, own, x, tl, ul, r, s, h1, h2, h3, h4, h5, rfl, h7⟩ := h
  have hl := h2.len
  have hld : m.load 5 = (⟨m.L, wrap64 (m.c + 1), m.l⟩, nth m.L 5, 0) := by
    have := congrArg (fun x => (x.1, x.2.v, x.2.e)) (qload m 5 (by omega) (by omega))
    rw [act1] at this
    exact this
  refine (load_to h1.mem hld).mono ?_
  rintro e w' ⟨rfl, o, hm⟩
  exact ⟨rfl, _, S, own, x, tl, ul, r, s, h1.touch o hm (by simp), h2, h3.far o (by have := hz.m; simp; omega), h4, h5, rfl, Nat.le_trans h7 o.size⟩

theorem WhSt.wstep (h : WhSt w z mb ms lb rb sb n cs sl N B V C c t wr) (hz : SeqLow z mb ms lb w.heap.size sl N B V) (n1 : 1 ≤ n) (n16 : n ≤ 16) (hN : N ≤ 6) (ht : t ≤ 300) {k : Nat} (hk : k < N) :
    Calls Try.prog 36 #[.pointer (some ⟨B k, 0, none⟩), .pointer (some ⟨mb, 0, none⟩)] wr fun e w' => ∃ q c', e = .returned (.bool q) ∧ c ≤ c' ∧ c' ≤ c + 1 ∧ WhSt w z mb ms lb rb sb n cs sl N B V C c' (t + 1) w' := by
  obtain ⟨m, S, own, x, tl, ul, r, s, h1, h2, h3, h4, h5, rfl, h7⟩ := h
  obtain ⟨r0, r1, own', x', i1, i2, i3, i4⟩ := whole_w N n S m t k own x n1 n16 hN hk ht h2
  refine (wgo_any wr (B k) (V k) (C k) mb ms (S k) m (h1.ws.at_ k hk) h1.mem (h1.vms k hk) r0 r1).mono ?_
  rintro e w' ⟨rfl, o, hm, hw⟩
  exact ⟨_, _, rfl, i2, i3, _, _, own', x', tl, ul, r, s, h1.step hk o hm hw, i1, h3.far o (by have := hz.m; have := hz.b k hk; simp; omega), i4 r h4, i4 s h5, rfl, Nat.le_trans h7 o.size⟩

theorem WhSt.rstep (h : WhSt w z mb ms lb rb sb n cs sl N B V C c t wr) (hz : SeqLow z mb ms lb w.heap.size sl N B V) (n1 : 1 ≤ n) (n16 : n ≤ 16) (ht : t ≤ 300) :
    Calls Try.prog 37 #[.pointer (some ⟨rb, 0, none⟩), .pointer (some ⟨mb, 0, none⟩)] wr fun e w' => ∃ q, e = .returned (.bool q) ∧ WhSt w z mb ms lb rb sb n cs sl N B V C c (t + 1) w' := by
  obtain ⟨m, S, own, x, tl, ul, r, s, h1, h2, h3, h4, h5, rfl, h7⟩ := h
  obtain ⟨r0, r1, r2, r3, r4⟩ := whole_r N n S m t own x r n1 n16 ht h2 h4
  refine (rgo_any wr rb mb ms tl r m h3.hr h1.mem (fun x hx e => by have := h3.lsl x e; have := hz.m; simp at hx; omega) r0 r1 r2).mono ?_
  rintro e w' ⟨tl', rfl, o, hm, hr, hx⟩
  refine ⟨_, rfl, _, S, own, x, tl', ul, _, s, h1.touchz hz o hm (fun x hx => ?_), by rw [r3]; exact h2.later, h3.step hz.m h7 o hr hx, by rw [r3]; exact r4, by rw [r3]; exact h5, by rw [r3], Nat.le_trans h7 o.size⟩
  have := h3.lo
  simp at hx
  rcases hx with rfl | rfl | rfl | hx
  · exact .inr (.inr h3.lo.1)
  · exact .inl rfl
  · exact .inr (.inl rfl)
  · exact .inr (.inr (h3.lsl x hx))

theorem WhSt.swap (h : WhSt w z mb ms lb rb sb n cs sl N B V C c t wr) : WhSt w z mb ms lb sb rb n cs sl N B V C c t wr := by
  obtain ⟨m, S, own, x, tl, ul, r, s, h1, h2, h3, h4, h5, h6, h7⟩ := h
  exact ⟨m, S, own, x, ul, tl, s, r, h1, h2, h3.swap, h5, h4, h6, h7⟩

theorem WhSt.sstep (h : WhSt w z mb ms lb rb sb n cs sl N B V C c t wr) (hz : SeqLow z mb ms lb w.heap.size sl N B V) (n1 : 1 ≤ n) (n16 : n ≤ 16) (ht : t ≤ 300) :
    Calls Try.prog 37 #[.pointer (some ⟨sb, 0, none⟩), .pointer (some ⟨mb, 0, none⟩)] wr fun e w' => ∃ q, e = .returned (.bool q) ∧ WhSt w z mb ms lb rb sb n cs sl N B V C c (t + 1) w' := by
  refine (h.swap.rstep hz n1 n16 ht).mono ?_
  rintro e w' ⟨q, rfl, h⟩
  exact ⟨q, rfl, h.swap⟩

theorem WhSt.rwhole (h : WhSt w z mb ms lb rb sb n cs sl N B V C c t wr) (n1 : 1 ≤ n) (n16 : n ≤ 16) (hN : N ≤ 6) :
    Calls Try.prog 38 #[.pointer (some ⟨rb, 0, none⟩), .int .i64 n, .int .i64 N] wr fun e w' => e = .returned (.bool true) ∧ WhSt w z mb ms lb rb sb n cs sl N B V C c t w' := by
  have h0 := h
  obtain ⟨m, S, own, x, tl, ul, r, s, h1, h2, h3, h4, h5, rfl, h7⟩ := h
  by_cases hd : r.turn = r.n + 2
  · obtain ⟨d1, y, d2, d3, d4⟩ := h4.done (by rw [hd, h4.sz])
    refine (whole_done wr rb tl r n N y h3.hr hd h4.ok d1 n1 n16 hN d2 d3 d4).mono ?_
    rintro e w' ⟨rfl, o⟩
    exact ⟨rfl, h0.quiet o⟩
  · refine (whole_wait wr rb tl r n N h3.hr hd).mono ?_
    rintro e w' ⟨rfl, o⟩
    exact ⟨rfl, h0.quiet o⟩

theorem WhSt.swhole (h : WhSt w z mb ms lb rb sb n cs sl N B V C c t wr) (n1 : 1 ≤ n) (n16 : n ≤ 16) (hN : N ≤ 6) :
    Calls Try.prog 38 #[.pointer (some ⟨sb, 0, none⟩), .int .i64 n, .int .i64 N] wr fun e w' => e = .returned (.bool true) ∧ WhSt w z mb ms lb rb sb n cs sl N B V C c t w' := by
  refine (h.swap.rwhole n1 n16 hN).mono ?_
  rintro e w' ⟨rfl, h⟩
  exact ⟨rfl, h.swap⟩

theorem WhSt.case_ (h : WhSt w z mb ms lb rb sb n cs sl N B V C c t wr) : Blk wr w.heap.size 63 cs := by
  obtain ⟨m, S, own, x, tl, ul, r, s, h1, _⟩ := h
  exact h1.case_
theorem WhSt.only (h : WhSt w z mb ms lb rb sb n cs sl N B V C c t wr) : Only [] w wr := by
  obtain ⟨m, S, own, x, tl, ul, r, s, h1, _⟩ := h
  exact h1.out
theorem WhSt.bounds (h : WhSt w z mb ms lb rb sb n cs sl N B V C c t wr) : 0 ≤ c ∧ c ≤ t := by
  obtain ⟨m, S, own, x, tl, ul, r, s, _, h2, _, _, _, rfl, _⟩ := h
  exact ⟨h2.c0, h2.c1⟩
theorem WhSt.addr {A : Option Addr} {cap : Nat} (h : WhSt w z mb ms lb rb sb n cs (.slice A N cap) N B V C c t wr) (hN : 0 < N) : ∃ g, A = some ⟨g, 0, none⟩ := by
  obtain ⟨m, S, own, x, tl, ul, r, s, h1, _⟩ := h
  obtain ⟨g, cap', cur, e, _⟩ := row_cells h1.ws.row hN
  injection e with e1
  exact ⟨g, e1⟩
theorem WhSt.cell {g cap : Nat} (h : WhSt w z mb ms lb rb sb n cs (.slice (some ⟨g, 0, none⟩) N cap) N B V C c t wr) {k : Nat} (hk : k < N) : wr.cell? ⟨g, k, none⟩ = some (.pointer (some ⟨B k, 0, none⟩)) := by
  obtain ⟨m, S, own, x, tl, ul, r, s, h1, _⟩ := h
  exact h1.ws.cell hk
end

theorem whole_start (N n : Nat) (S : Nat → WS) (h : ∀ j, j < N → S j = ⟨5, n, 0, 0, List.replicate n ((j : Int) + 1)⟩) : WInv N n S (MS.new 40).L 0 none 0 := by
  have hz : ∀ i, nth (MS.new 40).L i = 0 := fun i => by
    show nth (List.replicate 40 0) i = 0
    by_cases h : i < 40
    · exact nth_rep 40 0 i h
    · simp [nth, h]
  refine ⟨rfl, by rw [hz]; omega, by rw [hz]; omega, by omega, by omega, fun i => by rw [hz]; omega, fun j hj => ?_, fun _ => ⟨by rw [hz]; rfl, fun i _ => hz _⟩, by simp⟩
  rw [h j hj]
  exact ⟨rfl, rfl, rfl, by dsimp only; omega, by dsimp only; omega, fun h => by dsimp only at h; omega, fun _ h => by dsimp only at h; omega⟩

theorem reader_start (N n : Nat) (L : List Int) : RInv N n L ⟨5, n, 0, 0, [], 0, false⟩ :=
  ⟨rfl, rfl, rfl, by dsimp only; omega, by dsimp only; omega, fun h => by dsimp only at h; omega, fun h => by dsimp only at h; omega⟩

end Go.Proofs.Ytnoplfjodedijaa
