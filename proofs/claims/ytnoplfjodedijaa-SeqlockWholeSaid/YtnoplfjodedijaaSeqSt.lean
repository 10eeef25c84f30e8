/- What lies in a world where writers stand on one lock: one fact for it all. -/
import Derived.Test.YtnoplfjodedijaaOddP
namespace Go.Proofs.Ytnoplfjodedijaa
open Go.RowKit

structure SeqSt (w wr : World) (mb ms lb : Nat) (a n : Int) (cs : Array Value) (m : MS) (sl : Value) (N : Nat) (B V C : Nat → Nat) (S : Nat → WS) : Prop where
  out : Only [] w wr
  mem : IsMem wr mb ms m
  lock : Blk wr lb 66 #[.int .i64 a, .int .i64 n]
  case_ : Blk wr w.heap.size 63 cs
  ws : WsAt wr sl N B V C S
  vms : ∀ j, j < N → V j ≠ ms
  lo : w.heap.size ≤ mb ∧ w.heap.size ≤ ms
  loB : ∀ j, j < N → w.heap.size ≤ B j
  loS : ∀ x, sl.ownBlock = some x → w.heap.size ≤ x

section
variable {w wr w' : World} {mb ms lb : Nat} {a n : Int} {cs : Array Value} {m : MS} {sl : Value} {N : Nat} {B V C : Nat → Nat} {S : Nat → WS}

/-- All blocks of it lie below z. -/
structure SeqLow (z mb ms lb cb : Nat) (sl : Value) (N : Nat) (B V : Nat → Nat) : Prop where
  m : mb < z ∧ ms < z
  l : lb < z
  c : cb < z
  s : ∀ x, sl.ownBlock = some x → x < z
  b : ∀ j, j < N → B j < z ∧ V j < z

theorem SeqSt.low (h : SeqSt w wr mb ms lb a n cs m sl N B V C S) : SeqLow wr.heap.size mb ms lb w.heap.size sl N B V := by
  refine ⟨h.mem.lt, h.lock.lt, h.case_.lt, fun x hx => ?_, fun j hj => ?_⟩
  · rcases h.ws.row.2 with ⟨hsl, _⟩ | ⟨g, cap, cur, hsl, _, hg, _⟩
    · rw [hsl] at hx; cases hx
    · rw [hsl] at hx
      have : g = x := by simpa [Value.ownBlock] using hx
      subst this
      exact (show Blk wr g 68 cur from hg).lt
  · have hw := h.ws.at_ j hj
    obtain ⟨cur, hv, _⟩ := hw.row
    exact ⟨hw.obj.lt, hv.lt⟩

theorem SeqSt.touchz {T : List Nat} {z : Nat} (h : SeqSt w wr mb ms lb a n cs m sl N B V C S) (hz : SeqLow z mb ms lb w.heap.size sl N B V) {m' : MS} (o : Only T wr w') (hm : IsMem w' mb ms m') (hT : ∀ x ∈ T, x = mb ∨ x = ms ∨ z ≤ x) :
    SeqSt w w' mb ms lb a n cs m' sl N B V C S := by
  have nT : ∀ x, x < z → x ≠ mb → x ≠ ms → x ∉ T := fun x h1 h2 h3 hx => by
    rcases hT x hx with h | h | h
    · exact h2 h
    · exact h3 h
    · omega
  refine ⟨h.out.then o (fun x hx => .inr ?_), hm, h.lock.only o (nT _ hz.l (h.lock.ne h.mem.obj (by decide)) (h.lock.ne h.mem.row (by decide))), h.case_.only o (nT _ hz.c (h.case_.ne h.mem.obj (by decide)) (h.case_.ne h.mem.row (by decide))),
    ⟨row_other h.ws.row o (fun x hx => ?_), fun j hj => ?_, h.ws.inj, h.ws.vne⟩, h.vms, h.lo, h.loB, h.loS⟩
  · have h1 := hz.c
    have h2 := h.lo
    rcases hT x hx with e | e | e <;> omega
  · rcases hT x hx with rfl | rfl | e
    · exact ptr_row_ne h.ws.row h.mem.obj (by decide)
    · exact ptr_row_ne h.ws.row h.mem.row (by decide)
    · intro hh
      have := hz.s x hh
      omega
  · have hw := h.ws.at_ j hj
    have hne := wne hw h.mem (h.vms j hj)
    exact hw.only o (nT _ (hz.b j hj).1 hne.1 hne.2.1) (nT _ (hz.b j hj).2 hne.2.2.1 (h.vms j hj))

theorem SeqSt.touch {T : List Nat} (h : SeqSt w wr mb ms lb a n cs m sl N B V C S) {m' : MS} (o : Only T wr w') (hm : IsMem w' mb ms m') (hT : ∀ x ∈ T, x = mb ∨ x = ms ∨ wr.heap.size ≤ x) :
    SeqSt w w' mb ms lb a n cs m' sl N B V C S := h.touchz h.low o hm hT

theorem SeqSt.quiet (h : SeqSt w wr mb ms lb a n cs m sl N B V C S) (o : Only [] wr w') : SeqSt w w' mb ms lb a n cs m sl N B V C S :=
  h.touch o (h.mem.same o) (by simp)

theorem SeqSt.step (h : SeqSt w wr mb ms lb a n cs m sl N B V C S) {k : Nat} (hk : k < N) {m' : MS} {s' : WS} (o : Only [B k, mb, ms] wr w') (hm : IsMem w' mb ms m') (hw : IsW w' (B k) (V k) (C k) s') :
    SeqSt w w' mb ms lb a n cs m' sl N B V C (updW S k s') := by
  have hlb := h.loB k hk
  have hlo := h.lo
  refine ⟨h.out.then o (fun x hx => .inr ?_), hm, h.lock.only o ?_, h.case_.only o ?_, h.ws.step hk h.mem h.vms o hw, h.vms, h.lo, h.loB, h.loS⟩
  · simp at hx; omega
  · have h1 := h.lock.ne h.mem.obj (by decide)
    have h2 := h.lock.ne h.mem.row (by decide)
    have h3 := h.lock.ne (h.ws.at_ k hk).obj (by decide)
    simp; omega
  · have h1 := h.case_.ne h.mem.obj (by decide)
    have h2 := h.case_.ne h.mem.row (by decide)
    have h3 := h.case_.ne (h.ws.at_ k hk).obj (by decide)
    simp; omega
end

theorem row_based {w : World} {b e sz n : Nat} {v : Value} {xs : List Value} (h : w.ownsRow 0 e sz v n xs) (hb : ∀ x, v.ownBlock = some x → b ≤ x) : w.ownsRow b e sz v n xs := by
  refine ⟨h.1, ?_⟩
  rcases h.2 with h2 | ⟨g, cap, cur, rfl, _, r⟩
  · exact .inl h2
  · exact .inr ⟨g, cap, cur, rfl, hb g rfl, r⟩
theorem row_any {w : World} {b e sz n : Nat} {v : Value} {xs : List Value} (h : w.ownsRow b e sz v n xs) : w.ownsRow 0 e sz v n xs ∧ ∀ x, v.ownBlock = some x → b ≤ x := by
  refine ⟨⟨h.1, ?_⟩, fun x hx => ?_⟩
  · rcases h.2 with h2 | ⟨g, cap, cur, rfl, _, r⟩
    · exact .inl h2
    · exact .inr ⟨g, cap, cur, rfl, Nat.zero_le _, r⟩
  · rcases h.2 with ⟨rfl, _⟩ | ⟨g, cap, cur, rfl, hb, _⟩
    · cases hx
    · have : g = x := by simpa [Value.ownBlock] using hx
      omega

def ext {α : Type} (B : Nat → α) (n : Nat) (b : α) : Nat → α := fun j => if j = n then b else B j
theorem ext_same {α : Type} (B : Nat → α) (n : Nat) (b : α) : ext B n b n = b := by unfold ext; rw [if_pos rfl]
theorem ext_far {α : Type} (B : Nat → α) (n j : Nat) (b : α) (h : j ≠ n) : ext B n b j = B j := by unfold ext; rw [if_neg h]
theorem ext_row (B : Nat → Nat) (n b : Nat) : (List.range n).map (fun k => Value.pointer (some ⟨B k, 0, none⟩)) ++ [.pointer (some ⟨b, 0, none⟩)] = (List.range (n + 1)).map fun k => Value.pointer (some ⟨ext B n b k, 0, none⟩) := by
  rw [List.range_succ, List.map_append]
  congr 1
  · refine List.map_congr_left fun j hj => ?_
    rw [ext_far _ _ _ _ (by have := List.mem_range.1 hj; omega)]
  · simp [ext_same]

/-- One more writer. -/
theorem SeqSt.add {w wr w1 w2 : World} {mb ms lb : Nat} {a n : Int} {cs : Array Value} {m : MS} {sl sl' : Value} {N : Nat} {B V C : Nat → Nat} {S : Nat → WS} (h : SeqSt w wr mb ms lb a n cs m sl N B V C S) {b v c : Nat} {s : WS} (o : Only [] wr w1) (hw : IsW w1 b v c s) (hb : wr.heap.size ≤ b) (hv : wr.heap.size ≤ v) (hbv : b ≠ v) {X : Obj}
    (hown : w2.ownsRow w.heap.size 68 1 sl' (N + 1) ((List.range N).map (fun k => Value.pointer (some ⟨B k, 0, none⟩)) ++ [.pointer (some ⟨b, 0, none⟩)])) (hg : (w1.alloc X).grownBy w2 sl.ownBlock) :
    SeqSt w w2 mb ms lb a n cs m sl' (N + 1) (ext B N b) (ext V N v) (ext C N c) (ext S N s) := by
  have o2 : Only [] wr (w1.alloc X) := o.alloc _
  have hrow : (w1.alloc X).ownsRow 0 68 1 sl N ((List.range N).map fun k => .pointer (some ⟨B k, 0, none⟩)) := row_other h.ws.row o2 (by simp)
  have kp : ∀ {x t : Nat} {cs : Array Value}, Blk wr x t cs → t ≠ 68 → Blk w2 x t cs := fun hx ht => row_keeps hrow hg (hx.only o2 (by simp)) ht
  have kp1 : ∀ {x t : Nat} {cs : Array Value}, Blk w1 x t cs → t ≠ 68 → Blk w2 x t cs := fun hx ht => row_keeps hrow hg (hx.alloc _) ht
  have hlt := h.mem.lt
  have hBlt : ∀ j, j < N → B j < wr.heap.size := fun j hj => (h.ws.at_ j hj).obj.lt
  have hVlt : ∀ j, j < N → V j < wr.heap.size := fun j hj => by obtain ⟨cur, hr, _⟩ := (h.ws.at_ j hj).row; exact hr.lt
  obtain ⟨r1, r2⟩ := row_any hown
  rw [ext_row] at r1
  refine ⟨(h.out.trans o2).grown hg (fun x hx => .inr (h.loS x hx)), ⟨kp h.mem.obj (by decide), kp h.mem.row (by decide), h.mem.len, h.mem.max⟩, kp h.lock (by decide), kp h.case_ (by decide), ⟨r1, fun j hj => ?_, fun i j hi hj => ?_, fun i j hi hj => ?_⟩, fun j hj => ?_, h.lo, fun j hj => ?_, r2⟩
  · by_cases e : j = N
    · subst e
      rw [ext_same, ext_same, ext_same, ext_same]
      obtain ⟨cur, hr, hc⟩ := hw.row
      exact ⟨kp1 hw.obj (by decide), ⟨cur, kp1 hr (by decide), hc⟩, hw.ok⟩
    · rw [ext_far _ _ _ _ e, ext_far _ _ _ _ e, ext_far _ _ _ _ e, ext_far _ _ _ _ e]
      have hj' := h.ws.at_ j (by omega)
      obtain ⟨cur, hr, hc⟩ := hj'.row
      exact ⟨kp hj'.obj (by decide), ⟨cur, kp hr (by decide), hc⟩, hj'.ok⟩
  · by_cases e1 : i = N <;> by_cases e2 : j = N
    · intro _; omega
    · subst e1
      rw [ext_same, ext_far _ _ _ _ e2]
      intro e
      have := hBlt j (by omega)
      omega
    · subst e2
      rw [ext_same, ext_far _ _ _ _ e1]
      intro e
      have := hBlt i (by omega)
      omega
    · rw [ext_far _ _ _ _ e1, ext_far _ _ _ _ e2]
      exact h.ws.inj i j (by omega) (by omega)
  · by_cases e1 : i = N <;> by_cases e2 : j = N
    · rw [e1, e2, ext_same, ext_same]
      exact hbv
    · subst e1
      rw [ext_same, ext_far _ _ _ _ e2]
      have := hVlt j (by omega)
      omega
    · subst e2
      rw [ext_same, ext_far _ _ _ _ e1]
      have := hBlt i (by omega)
      omega
    · rw [ext_far _ _ _ _ e1, ext_far _ _ _ _ e2]
      exact h.ws.vne i j (by omega) (by omega)
  · by_cases e : j = N
    · rw [e, ext_same]
      omega
    · rw [ext_far _ _ _ _ e]
      exact h.vms j (by omega)
  · by_cases e : j = N
    · rw [e, ext_same]
      have := h.out.size
      omega
    · rw [ext_far _ _ _ _ e]
      exact h.loB j (by omega)

/-- A place in the row of writers. -/
theorem WsAt.cell {w : World} {g n cap : Nat} {B V C : Nat → Nat} {S : Nat → WS} (h : WsAt w (.slice (some ⟨g, 0, none⟩) n cap) n B V C S) {k : Nat} (hk : k < n) : w.cell? ⟨g, k, none⟩ = some (.pointer (some ⟨B k, 0, none⟩)) := by
  obtain ⟨g', cap', cur, e, _, hb, hc⟩ := row_cells h.row (by omega)
  simp only [Value.slice.injEq, Option.some.injEq, Addr.mk.injEq] at e
  obtain ⟨⟨rfl, _⟩, _⟩ := e
  refine hb.at k ?_
  rw [hc k (by omega)]
  simp [hk]

theorem WsAt.nil (w : World) (B V C : Nat → Nat) (S : Nat → WS) : WsAt w (.slice none 0 0) 0 B V C S :=
  ⟨World.ownsRow_nil _ _ _ _, fun _ h => absurd h (by omega), fun _ _ h => absurd h (by omega), fun _ _ h => absurd h (by omega)⟩

end Go.Proofs.Ytnoplfjodedijaa
