/- What the walk of DequeSteps wants: the program's tasks and the document's side by side. -/
import Derived.Test.YtoecoijmkjhkgaaRT3
import Derived.Test.YtoecoijmkjhkgaaKnown7W
import Derived.Test.YtoecoijmkjhkgaaShell3
import Derived.Deep.RegionHeld3
namespace Go.Proofs.Ytoecoijmkjhkgaa
open Go.RowKit

def ext {α : Type} (B : Nat → α) (n : Nat) (b : α) : Nat → α := fun j => if j = n then b else B j
theorem ext_same {α : Type} (B : Nat → α) (n : Nat) (b : α) : ext B n b n = b := by unfold ext; rw [if_pos rfl]
theorem ext_far {α : Type} (B : Nat → α) (n j : Nat) (b : α) (h : j ≠ n) : ext B n b j = B j := by unfold ext; rw [if_neg h]


def ptrs (B : Nat → Nat) (N : Nat) : List Value := (List.range N).map fun k => Value.pointer (some ⟨B k, 0, none⟩)
theorem ptrs_ext (B : Nat → Nat) (n b : Nat) : ptrs B n ++ [.pointer (some ⟨b, 0, none⟩)] = ptrs (ext B n b) (n + 1) := by
  unfold ptrs
  rw [List.range_succ, List.map_append]
  congr 1
  · refine List.map_congr_left fun j hj => ?_
    rw [ext_far _ _ _ _ (by have := List.mem_range.1 hj; omega)]
  · simp [ext_same]

theorem row_block {w : World} {b0 e n : Nat} {sl : Value} {xs : List Value} (h : w.ownsRow b0 e 1 sl n xs) : ∀ x ∈ sl.ownBlock.toList, b0 ≤ x ∧ ∃ cs, Blk w x e cs := fun x hx => by
  rcases h.2 with ⟨rfl, _⟩ | ⟨g, cap, cur, rfl, hb, hh, _⟩
  · simp [Value.ownBlock] at hx
  · simp [Value.ownBlock] at hx
    subst hx
    exact ⟨hb, cur, hh⟩
theorem row_rest {w w' : World} {base e sz : Nat} {v : Value} {n : Nat} {xs : List Value} {S : List Nat} (h : w.ownsRow base e sz v n xs) (o : Only S w w') (hS : ∀ x ∈ S, v.ownBlock ≠ some x) : w'.ownsRow base e sz v n xs := by
  refine ⟨h.1, ?_⟩
  rcases h.2 with h2 | ⟨g, cap, cur, rfl, hg, hh, r⟩
  · exact .inl h2
  · refine .inr ⟨g, cap, cur, rfl, hg, ?_, r⟩
    have hb : Blk w g e cur := hh
    exact hb.only o fun hm => hS g hm rfl
theorem row_based {w : World} {b e sz n : Nat} {v : Value} {xs : List Value} (h : w.ownsRow 0 e sz v n xs) (hb : ∀ x, v.ownBlock = some x → b ≤ x) : w.ownsRow b e sz v n xs := by
  refine ⟨h.1, ?_⟩
  rcases h.2 with h2 | ⟨g, cap, cur, rfl, _, r⟩
  · exact .inl h2
  · exact .inr ⟨g, cap, cur, rfl, hb g rfl, r⟩
theorem row_any {w : World} {b e sz n : Nat} {v : Value} {xs : List Value} (h : w.ownsRow b e sz v n xs) : w.ownsRow 0 e sz v n xs ∧ ∀ x, v.ownBlock = some x → b ≤ x := by
  refine ⟨⟨h.1, ?_⟩, fun x hx => ?_⟩
  · rcases h.2 with h2 | ⟨g, cap, cur, rfl, _, r⟩
    · exact .inl h2
    · exact .inr ⟨g, cap, cur, rfl, Nat.zero_le _, r⟩
  · rcases h.2 with ⟨rfl, _⟩ | ⟨g, cap, cur, rfl, hb, _⟩
    · cases hx
    · have : g = x := by simpa [Value.ownBlock] using hx
      omega


theorem step_append_own {P : Program} {ops : Array Oper} {o : Oper} {a : Act} {w : World} {K : Act → World → Prop} {Q : Exit → Act → World → Prop} {E : Prop} (hgd : o.guard = none) (s x : Operand) (t : TypeId)
    (ho : o.op = .call { callee := .builtin .append, args := #[s, x], argTypes := #[t, t] })
    (base : Nat) (e : TypeId) (i : TypeInfo) (z : Value) (size bytes : Nat) (ht : P.underlying t = some (.slice e)) (hi : P.info? e = some i) (hz : i.zero = some z)
    (hsize : i.size = size) (hby : i.bytes = bytes) (hzs : z.cells.size = size) (hsz : 0 < size)
    (v : Value) (n : Nat) (xs : List Value) (hs : a.eval s = v) (hown : w.ownsRow base e size v n xs)
    (ad : Addr) (m c : Nat) (news : List Value) (hx : a.eval x = .slice (some ad) m c) (hl : news.length = m * size) (hnews : ∀ j u, news[j]? = some u → w.cell? (ad.add j) = some u) (h1 : ∀ u ∈ news, u.oneCell' = true)
    (h63 : n + m ≤ maxLen) (hbytes : (n + m) * bytes ≤ 140737488355328) (hbase : base ≤ w.heap.size)
    (hK : ∀ v' w', w'.ownsRow base e size v' (n + m) (xs ++ news) → w.grownBy w' v.ownBlock → K (a.put o.dst v') w') :
    if Region.wanted o (yielded ops a.tmps) = true then Oper.wp P o a w K Q else E := by
  rw [if_pos (by simp [Region.wanted, hgd])]
  exact wp_append_own w s x t ho base e i z size bytes ht hi hz hsize hby hzs hsz v n xs hs hown ad m c news hx hl hnews h1 h63 hbytes hbase fun v' w' h2 h3 _ => hK _ _ h2 h3

theorem pact_len (m : MS) (x : Act') : (m.act x).1.L.length = m.L.length := by
  have h1 : ∀ i, (m.load i).1.L.length = m.L.length := fun i => by unfold MS.load; split <;> rfl
  have h2 : ∀ i v, (m.store i v).1.L.length = m.L.length := fun i v => by unfold MS.store; split <;> simp
  have h3 : ∀ i x y, (m.cas i x y).1.L.length = m.L.length := fun i x y => by unfold MS.cas; split <;> (try split) <;> simp
  have h4 : ∀ i v, (m.add i v).1.L.length = m.L.length := fun i v => by unfold MS.add; split <;> simp
  unfold MS.act
  split
  · exact h1 _
  split
  · exact h2 _ _
  split
  · exact h3 _ _ _
  split
  · exact h4 _ _
  rfl
theorem eqw_alike (w : World) (v v' : Value) (L : List Int) (h : IsRow w v L) (h' : IsRow w v' L) : Calls Try.prog 44 #[v, v'] w fun e w' => e = .returned (.bool true) ∧ Only [] w w' :=
  (eqw_any w v v' L L h h').mono fun e w' ⟨he, ho⟩ => ⟨by rw [he]; simp, ho⟩
theorem cut_whole (L : List Int) (N : Nat) (hN : 1 ≤ N) (hl : L.length = N) : cutL L 0 N = L := by
  unfold cutL
  rw [if_pos (by omega)]
  simp [hl.symm]

theorem one_new (w : World) (x : Value) (t : TypeId) : ∀ j u, [x][j]? = some u → (w.alloc (.cells #[x] t)).cell? ((⟨w.heap.size, 0, none⟩ : Addr).add j) = some u := by
  intro j u hj
  match j, hj with
  | 0, hj => simp at hj; subst hj; simp [Addr.add]

theorem Try.infoTask : (Try.prog.info? 61).map (fun i => (i.zero, i.size, i.bytes)) = some (some (.pointer none), 1, 8) := by kernel_rfl
theorem Try.infoRT : (Try.prog.info? 84).map (fun i => (i.zero, i.size, i.bytes)) = some (some (.pointer none), 1, 8) := by kernel_rfl

theorem ptrs_far (B : Nat → Nat) (N k b : Nat) (h : N ≤ k) : ptrs (ext B k b) N = ptrs B N := by
  unfold ptrs
  refine List.map_congr_left fun j hj => ?_
  rw [ext_far _ _ _ _ (by have := List.mem_range.1 hj; omega)]

theorem dgo_len (s : DQ) (m : MS) : (s.go m).2.L.length = m.L.length := by
  unfold DQ.go
  split
  · rfl
  split
  · exact pact_len _ _
  · exact pact_len _ _

theorem dgo_hz (s : DQ) (m : MS) (h : s.done = false → s.has = false) : (s.go m).1.done = false → (s.go m).1.has = false := by
  unfold DQ.go
  split
  · exact h
  split
  · exact fun h => by simp at h
  · unfold DQ.took
    (repeat' split) <;> first | exact h | (intro h; simp at h)

theorem nin {w : World} {T L : List Nat} (hT : ∀ x ∈ T, ∃ t cs, Blk w x t cs ∧ t ∈ L) {y t' : Nat} {cs' : Array Value} (hb : Blk w y t' cs') (ht : t' ∉ L) : y ∉ T := fun hy => by
  obtain ⟨t, cs, h1, h2⟩ := hT y hy
  rw [(Blk.inj h1 hb).1] at h2
  exact ht h2

theorem dkT_mem (k : Nat) : dkT k = 122 ∨ dkT k = 116 ∨ dkT k = 119 := by
  unfold dkT
  split
  · exact .inl rfl
  split
  · exact .inr (.inl rfl)
  · exact .inr (.inr rfl)
theorem dkT_not {k t : Nat} (h1 : t ≠ 122) (h2 : t ≠ 116) (h3 : t ≠ 119) : t ≠ dkT k := by
  rcases dkT_mem k with e | e | e <;> rw [e] <;> assumption

structure Base7 (w wr : World) (lb : Nat) (a : Int) (n : Nat) (cs : Array Value) : Prop where
  out : Only [] w wr
  lock : Blk wr lb 59 #[.int .i64 a, .int .i64 n]
  case_ : Blk wr w.heap.size 58 cs
theorem Base7.quiet {w wr w' : World} {lb : Nat} {a : Int} {n : Nat} {cs : Array Value} (h : Base7 w wr lb a n cs) (o : Only [] wr w') : Base7 w w' lb a n cs := ⟨h.out.trans o, h.lock.only o (by simp), h.case_.only o (by simp)⟩

/-- The program's tasks (K of them, N in a row) and the document's (L, M in a row). -/
structure DSt (w wr : World) (mb ms lb rb rs : Nat) (a : Int) (n : Nat) (cs : Array Value) (m r : MS) (ts : Value) (N K : Nat) (B KB : Nat → Nat) (S : Nat → DQ) (xs : Value) (M L : Nat) (C : Nat → Nat) (R : Nat → DQ) : Prop where
  out : Only [] w wr
  lock : Blk wr lb 59 #[.int .i64 a, .int .i64 n]
  case_ : Blk wr w.heap.size 58 cs
  lo : w.heap.size ≤ mb ∧ w.heap.size ≤ ms ∧ w.heap.size ≤ rb ∧ w.heap.size ≤ rs ∧ ms ≠ rs
  mem : IsMem wr mb ms m
  rng : m.drng
  ref : IsRef wr rb rs r
  rt : wr.ownsRow w.heap.size 61 1 ts N (ptrs B N)
  rx : wr.ownsRow w.heap.size 84 1 xs M (ptrs C M)
  is : ∀ j, j < K → IsD wr (B j) (KB j) (S j)
  isr : ∀ j, j < L → IsRT wr (C j) (R j)
  inj : ∀ i j, i < K → j < K → B i = B j → i = j
  injk : ∀ i j, i < K → j < K → KB i = KB j → i = j
  injc : ∀ i j, i < L → j < L → C i = C j → i = j
  ls : ∀ j, j < K → w.heap.size ≤ B j ∧ w.heap.size ≤ KB j
  lx : ∀ j, j < L → w.heap.size ≤ C j
  hz : ∀ j, j < L → (R j).done = false → (R j).has = false

section
variable {w wr w1 w2 w' : World} {mb ms lb rb rs : Nat} {a : Int} {n : Nat} {cs : Array Value} {m m' r r' : MS} {ts ts' xs xs' : Value} {N K M L : Nat} {B KB C : Nat → Nat} {S R : Nat → DQ}

theorem DSt.base (h : DSt w wr mb ms lb rb rs a n cs m r ts N K B KB S xs M L C R) : Base7 w wr lb a n cs := ⟨h.out, h.lock, h.case_⟩

theorem row_out {T : List Nat} {base e n : Nat} {v : Value} {l : List Value} (h : wr.ownsRow base e 1 v n l) (o : Only T wr w') (hT : ∀ x ∈ T, ∃ t cs, Blk wr x t cs ∧ t ≠ e) : w'.ownsRow base e 1 v n l :=
  row_rest h o fun x hx e1 => by
    obtain ⟨_, cs, hb⟩ := row_block h x (by rw [e1]; simp)
    obtain ⟨t, cs', hb', ht⟩ := hT x hx
    exact ht (Blk.inj hb' hb).1

theorem DSt.quiet (h : DSt w wr mb ms lb rb rs a n cs m r ts N K B KB S xs M L C R) (o : Only [] wr w') : DSt w w' mb ms lb rb rs a n cs m r ts N K B KB S xs M L C R :=
  ⟨h.out.trans o, h.lock.only o (by simp), h.case_.only o (by simp), h.lo, h.mem.only o (by simp) (by simp), h.rng, h.ref.only o (by simp) (by simp), row_out h.rt o (by simp), row_out h.rx o (by simp),
    fun j hj => (h.is j hj).quiet o, fun j hj => (h.isr j hj).only o (by simp), h.inj, h.injk, h.injc, h.ls, h.lx, h.hz⟩

theorem DSt.tcall (h : DSt w wr mb ms lb rb rs a n cs m r ts N K B KB S xs M L C R) {k : Nat} (hk : k < K) :
    Calls Try.prog 35 #[.pointer (some ⟨B k, 0, none⟩), .pointer (some ⟨mb, 0, none⟩)] wr fun e w' => e = .returned (.bool ((S k).go m).1.done) ∧ ((S k).go m).1.ok ∧ DSt w w' mb ms lb rb rs a n cs ((S k).go m).2 r ts N K B KB (ext S k ((S k).go m).1) xs M L C R := by
  have hq := h.is k hk
  refine (dstep_go hq h.mem h.rng).mono ?_
  rintro e w' ⟨rfl, o, hm, hq'⟩
  have hl := h.lo
  have hlk := h.ls k hk
  have m1 := h.mem.obj
  have m2 := h.mem.row
  have hrs : rs ∉ [B k, KB k, mb, ms] := by
    have h1 := h.ref.row.ne hq.obj (by decide)
    have h2 := h.ref.row.ne hq.kind (dkT_not (by decide) (by decide) (by decide))
    have h3 := h.ref.row.ne m1 (by decide)
    simp; omega
  have hrb : rb ∉ [B k, KB k, mb, ms] := by
    have h1 := h.ref.obj.ne hq.obj (by decide)
    have h2 := h.ref.obj.ne hq.kind (dkT_not (by decide) (by decide) (by decide))
    have h3 := h.ref.obj.ne m1 (by decide)
    have h4 := h.ref.obj.ne m2 (by decide)
    simp; omega
  have far : ∀ {y t : Nat} {c : Array Value}, Blk wr y t c → t ≠ 126 → t ≠ 122 → t ≠ 116 → t ≠ 119 → t ≠ 102 → t ≠ 38 → y ∉ [B k, KB k, mb, ms] := fun hb e1 e2 e3 e4 e5 e6 => by
    have h1 := hb.ne hq.obj e1
    have h2 := hb.ne hq.kind (dkT_not e2 e3 e4)
    have h3 := hb.ne m1 e5
    have h4 := hb.ne m2 e6
    simp; omega
  have hT : ∀ e, e ≠ 126 → e ≠ 122 → e ≠ 116 → e ≠ 119 → e ≠ 102 → e ≠ 38 → ∀ x ∈ [B k, KB k, mb, ms], ∃ t cs, Blk wr x t cs ∧ t ≠ e := fun e e1 e2 e3 e4 e5 e6 x hx => by
    simp at hx
    rcases hx with rfl | rfl | rfl | rfl
    · exact ⟨_, _, hq.obj, fun h => e1 h.symm⟩
    · exact ⟨_, _, hq.kind, fun h => dkT_not e2 e3 e4 h.symm⟩
    · exact ⟨_, _, m1, fun h => e5 h.symm⟩
    · exact ⟨_, _, m2, fun h => e6 h.symm⟩
  refine ⟨rfl, hq'.ok, ⟨h.out.then o (by simp; omega), h.lock.only o (far h.lock (by decide) (by decide) (by decide) (by decide) (by decide) (by decide)), h.case_.only o (far h.case_ (by decide) (by decide) (by decide) (by decide) (by decide) (by decide)), h.lo, hm, (dgo_rng _ m hq.ok h.rng).1, h.ref.only o hrb hrs,
    row_out h.rt o (hT _ (by decide) (by decide) (by decide) (by decide) (by decide) (by decide)), row_out h.rx o (hT _ (by decide) (by decide) (by decide) (by decide) (by decide) (by decide)), fun j hj => ?_, fun j hj => ?_, h.inj, h.injk, h.injc, h.ls, h.lx, h.hz⟩⟩
  · by_cases e1 : j = k
    · rw [e1, ext_same]; exact hq'
    · rw [ext_far _ _ _ _ e1]
      have hj' := h.is j hj
      refine hj'.only o ?_ ?_
      · have h1 : B j ≠ B k := fun e => e1 (h.inj j k hj hk e)
        have h2 : B j ≠ KB k := hj'.obj.ne hq.kind (dkT_not (by decide) (by decide) (by decide))
        have h3 := hj'.obj.ne m1 (by decide)
        have h4 := hj'.obj.ne m2 (by decide)
        simp; omega
      · have h1 : KB j ≠ KB k := fun e => e1 (h.injk j k hj hk e)
        have h2 : B k ≠ KB j := hq.obj.ne hj'.kind (dkT_not (by decide) (by decide) (by decide))
        have h3 : mb ≠ KB j := m1.ne hj'.kind (dkT_not (by decide) (by decide) (by decide))
        have h4 : ms ≠ KB j := m2.ne hj'.kind (dkT_not (by decide) (by decide) (by decide))
        simp; omega
  · obtain ⟨t, hb, _⟩ := h.isr j hj
    exact (h.isr j hj).only o (far hb (by decide) (by decide) (by decide) (by decide) (by decide) (by decide))

theorem DSt.xcall (h : DSt w wr mb ms lb rb rs a n cs m r ts N K B KB S xs M L C R) {k : Nat} (hk : k < L) (hr : r.drng) (hok : ((R k).go r).1.ok) :
    Calls Try.prog 43 #[.pointer (some ⟨C k, 0, none⟩), .pointer (some ⟨rb, 0, none⟩)] wr fun e w' => e = .returned (.bool ((R k).go r).1.done) ∧ DSt w w' mb ms lb rb rs a n cs m ((R k).go r).2 ts N K B KB S xs M L C (ext R k ((R k).go r).1) := by
  have hq := h.isr k hk
  obtain ⟨t0, hb, _⟩ := h.isr k hk
  refine (rtstep_any hq h.ref hr hok ⟨hb.ne h.ref.obj (by decide), hb.ne h.ref.row (by decide)⟩).mono ?_
  rintro e w' ⟨rfl, o, hq', hm⟩
  have hl := h.lo
  have hlk := h.lx k hk
  have m1 := h.ref.obj
  have m2 := h.ref.row
  have hms : ms ∉ [C k, rb, rs] := by
    have h1 := h.mem.row.ne hb (by decide)
    have h2 := h.mem.row.ne m1 (by decide)
    simp; omega
  have far : ∀ {y t : Nat} {c : Array Value}, Blk wr y t c → t ≠ 86 → t ≠ 93 → t ≠ 38 → y ∉ [C k, rb, rs] := fun hb' e1 e2 e3 => by
    have h1 := hb'.ne hb e1
    have h2 := hb'.ne m1 e2
    have h3 := hb'.ne m2 e3
    simp; omega
  have hT : ∀ e, e ≠ 86 → e ≠ 93 → e ≠ 38 → ∀ x ∈ [C k, rb, rs], ∃ t cs, Blk wr x t cs ∧ t ≠ e := fun e e1 e2 e3 x hx => by
    simp at hx
    rcases hx with rfl | rfl | rfl
    · exact ⟨_, _, hb, fun h => e1 h.symm⟩
    · exact ⟨_, _, m1, fun h => e2 h.symm⟩
    · exact ⟨_, _, m2, fun h => e3 h.symm⟩
  have hkd : ∀ {j : Nat}, j < K → KB j ∉ [C k, rb, rs] := fun {j} hj => by
    have hj' := h.is j hj
    have h1 : C k ≠ KB j := hb.ne hj'.kind (dkT_not (by decide) (by decide) (by decide))
    have h2 : rb ≠ KB j := m1.ne hj'.kind (dkT_not (by decide) (by decide) (by decide))
    have h3 : rs ≠ KB j := m2.ne hj'.kind (dkT_not (by decide) (by decide) (by decide))
    simp; omega
  refine ⟨rfl, ⟨h.out.then o (by simp; omega), h.lock.only o (far h.lock (by decide) (by decide) (by decide)), h.case_.only o (far h.case_ (by decide) (by decide) (by decide)), h.lo, h.mem.only o (far h.mem.obj (by decide) (by decide) (by decide)) hms, h.rng, hm,
    row_out h.rt o (hT _ (by decide) (by decide) (by decide)), row_out h.rx o (hT _ (by decide) (by decide) (by decide)), fun j hj => (h.is j hj).only o (far (h.is j hj).obj (by decide) (by decide) (by decide)) (hkd hj), fun j hj => ?_, h.inj, h.injk, h.injc, h.ls, h.lx, fun j hj => ?_⟩⟩
  · by_cases e1 : j = k
    · rw [e1, ext_same]; exact hq'
    · rw [ext_far _ _ _ _ e1]
      obtain ⟨t1, hb1, _⟩ := h.isr j hj
      refine (h.isr j hj).only o ?_
      have h1 : C j ≠ C k := fun e => e1 (h.injc j k hj hk e)
      have h2 := hb1.ne m1 (by decide)
      have h3 := hb1.ne m2 (by decide)
      simp; omega
  · by_cases e1 : j = k
    · rw [e1, ext_same]; exact dgo_hz _ _ (h.hz k hk)
    · rw [ext_far _ _ _ _ e1]; exact h.hz j hj

/-- A row's own block turned: nothing else did. -/
theorem DSt.grow (h : DSt w wr mb ms lb rb rs a n cs m r ts N K B KB S xs M L C R) {T : List Nat} {e : Nat} (o : Only T wr w') (hT : ∀ x ∈ T, w.heap.size ≤ x ∧ ∃ cs, Blk wr x e cs) (he : e = 61 ∨ e = 84) :
    Only [] w w' ∧ Blk w' lb 59 #[.int .i64 a, .int .i64 n] ∧ Blk w' w.heap.size 58 cs ∧ IsMem w' mb ms m ∧ IsRef w' rb rs r ∧ (∀ j, j < K → IsD w' (B j) (KB j) (S j)) ∧ (∀ j, j < L → IsRT w' (C j) (R j)) := by
  have far : ∀ {y t : Nat} {c : Array Value}, Blk wr y t c → t ≠ 61 → t ≠ 84 → y ∉ T := fun hb e1 e2 hy => by
    obtain ⟨_, c', hb'⟩ := hT _ hy
    have := (Blk.inj hb hb').1
    rcases he with rfl | rfl
    · exact e1 this
    · exact e2 this
  have hk : ∀ {j : Nat}, j < K → KB j ∉ T := fun {j} hj hy => by
    obtain ⟨_, c', hb'⟩ := hT _ hy
    have := (Blk.inj hb' (h.is j hj).kind).1
    rcases he with rfl | rfl
    · exact dkT_not (by decide) (by decide) (by decide) this
    · exact dkT_not (by decide) (by decide) (by decide) this
  refine ⟨h.out.then o fun x hx => .inr (hT x hx).1, h.lock.only o (far h.lock (by decide) (by decide)), h.case_.only o (far h.case_ (by decide) (by decide)), h.mem.only o (far h.mem.obj (by decide) (by decide)) (far h.mem.row (by decide) (by decide)), h.ref.only o (far h.ref.obj (by decide) (by decide)) (far h.ref.row (by decide) (by decide)), fun j hj => ?_, fun j hj => ?_⟩
  · exact (h.is j hj).only o (far (h.is j hj).obj (by decide) (by decide)) (hk hj)
  · obtain ⟨t, hb, _⟩ := h.isr j hj
    exact (h.isr j hj).only o (far hb (by decide) (by decide))

/-- A new task of the program's, not in the row yet. -/
theorem DSt.newT (h : DSt w wr mb ms lb rb rs a n cs m r ts N K B KB S xs M L C R) (o : Only [] wr w1) {b kb k : Nat} {s : DQ} (hN : N ≤ k) (hk : k = K ∨ K = k + 1) (hq : IsD w1 b kb s) (hb : wr.heap.size ≤ b) (hkb : wr.heap.size ≤ kb) :
    DSt w w1 mb ms lb rb rs a n cs m r ts N (k + 1) (ext B k b) (ext KB k kb) (ext S k s) xs M L C R := by
  have h1 := h.quiet o
  have hz : w.heap.size ≤ wr.heap.size := h.out.size
  have lt : ∀ j, j < k → B j < wr.heap.size ∧ KB j < wr.heap.size := fun j hj => ⟨(h.is j (by omega)).obj.lt, (h.is j (by omega)).kind.lt⟩
  refine ⟨h1.out, h1.lock, h1.case_, h1.lo, h1.mem, h1.rng, h1.ref, by rw [ptrs_far _ _ _ _ hN]; exact h1.rt, h1.rx, fun j hj => ?_, h1.isr, fun i j hi hj e => ?_, fun i j hi hj e => ?_, h1.injc, fun j hj => ?_, h1.lx, h1.hz⟩
  · by_cases e1 : j = k
    · rw [e1, ext_same, ext_same, ext_same]; exact hq
    · rw [ext_far _ _ _ _ e1, ext_far _ _ _ _ e1, ext_far _ _ _ _ e1]; exact h1.is j (by omega)
  · by_cases e1 : i = k <;> by_cases e2 : j = k
    · omega
    · rw [e1, ext_same, ext_far _ _ _ _ e2] at e
      have := lt j (by omega)
      omega
    · rw [e2, ext_same, ext_far _ _ _ _ e1] at e
      have := lt i (by omega)
      omega
    · rw [ext_far _ _ _ _ e1, ext_far _ _ _ _ e2] at e
      exact h.inj i j (by omega) (by omega) e
  · by_cases e1 : i = k <;> by_cases e2 : j = k
    · omega
    · rw [e1, ext_same, ext_far _ _ _ _ e2] at e
      have := lt j (by omega)
      omega
    · rw [e2, ext_same, ext_far _ _ _ _ e1] at e
      have := lt i (by omega)
      omega
    · rw [ext_far _ _ _ _ e1, ext_far _ _ _ _ e2] at e
      exact h.injk i j (by omega) (by omega) e
  · by_cases e1 : j = k
    · rw [e1, ext_same, ext_same]; omega
    · rw [ext_far _ _ _ _ e1, ext_far _ _ _ _ e1]; exact h.ls j (by omega)
/-- A new task of the document's, not in the row yet. -/
theorem DSt.newX (h : DSt w wr mb ms lb rb rs a n cs m r ts N K B KB S xs M L C R) (o : Only [] wr w1) {c k : Nat} {s : DQ} (hN : M ≤ k) (hk : k = L ∨ L = k + 1) (hq : IsRT w1 c s) (hc : wr.heap.size ≤ c) (hs : s.done = false → s.has = false) :
    DSt w w1 mb ms lb rb rs a n cs m r ts N K B KB S xs M (k + 1) (ext C k c) (ext R k s) := by
  have h1 := h.quiet o
  have hz : w.heap.size ≤ wr.heap.size := h.out.size
  have lt : ∀ j, j < k → C j < wr.heap.size := fun j hj => by
    obtain ⟨t, hb, _⟩ := h.isr j (by omega)
    exact hb.lt
  refine ⟨h1.out, h1.lock, h1.case_, h1.lo, h1.mem, h1.rng, h1.ref, h1.rt, by rw [ptrs_far _ _ _ _ hN]; exact h1.rx, h1.is, fun j hj => ?_, h1.inj, h1.injk, fun i j hi hj e => ?_, h1.ls, fun j hj => ?_, fun j hj => ?_⟩
  · by_cases e1 : j = k
    · rw [e1, ext_same, ext_same]; exact hq
    · rw [ext_far _ _ _ _ e1, ext_far _ _ _ _ e1]; exact h1.isr j (by omega)
  · by_cases e1 : i = k <;> by_cases e2 : j = k
    · omega
    · rw [e1, ext_same, ext_far _ _ _ _ e2] at e
      have := lt j (by omega)
      omega
    · rw [e2, ext_same, ext_far _ _ _ _ e1] at e
      have := lt i (by omega)
      omega
    · rw [ext_far _ _ _ _ e1, ext_far _ _ _ _ e2] at e
      exact h.injc i j (by omega) (by omega) e
  · by_cases e1 : j = k
    · rw [e1, ext_same]; omega
    · rw [ext_far _ _ _ _ e1]; exact h.lx j (by omega)
  · by_cases e1 : j = k
    · rw [e1, ext_same]; exact hs
    · rw [ext_far _ _ _ _ e1]; exact h.hz j (by omega)

/-- The rows grow. -/
theorem DSt.rowT {b : Nat} (h : DSt w wr mb ms lb rb rs a n cs m r ts N K (ext B N b) KB S xs M L C R)
    (hown : w2.ownsRow w.heap.size 61 1 ts' (N + 1) (ptrs B N ++ [.pointer (some ⟨b, 0, none⟩)])) (o : Only [] wr w1) (hg : w1.grownBy w2 ts.ownBlock) : DSt w w2 mb ms lb rb rs a n cs m r ts' (N + 1) K (ext B N b) KB S xs M L C R := by
  have h1 := h.quiet o
  have o2 := grown_only hg
  have hT := row_block h1.rt
  obtain ⟨k1, k2, k3, k4, k5, k6, k7⟩ := h1.grow o2 hT (.inl rfl)
  rw [ptrs_ext] at hown
  exact ⟨k1, k2, k3, h.lo, k4, h.rng, k5, hown, row_out h1.rx o2 fun x hx => ⟨_, _, (hT x hx).2.choose_spec, by decide⟩, k6, k7, h.inj, h.injk, h.injc, h.ls, h.lx, h.hz⟩
theorem DSt.rowX {c : Nat} (h : DSt w wr mb ms lb rb rs a n cs m r ts N K B KB S xs M L (ext C M c) R)
    (hown : w2.ownsRow w.heap.size 84 1 xs' (M + 1) (ptrs C M ++ [.pointer (some ⟨c, 0, none⟩)])) (o : Only [] wr w1) (hg : w1.grownBy w2 xs.ownBlock) : DSt w w2 mb ms lb rb rs a n cs m r ts N K B KB S xs' (M + 1) L (ext C M c) R := by
  have h1 := h.quiet o
  have o2 := grown_only hg
  have hT := row_block h1.rx
  obtain ⟨k1, k2, k3, k4, k5, k6, k7⟩ := h1.grow o2 hT (.inr rfl)
  rw [ptrs_ext] at hown
  exact ⟨k1, k2, k3, h.lo, k4, h.rng, k5, row_out h1.rt o2 fun x hx => ⟨_, _, (hT x hx).2.choose_spec, by decide⟩, hown, k6, k7, h.inj, h.injk, h.injc, h.ls, h.lx, h.hz⟩

theorem row_at {base e : Nat} {v : Value} {D : Nat → Nat} (h : wr.ownsRow base e 1 v N (ptrs D N)) {A : Option Addr} {cap : Nat} (hv : v = .slice A N cap) {k : Nat} (hk : k < N) : ∃ g, A = some ⟨g, 0, none⟩ ∧ wr.cell? ⟨g, k, none⟩ = some (.pointer (some ⟨D k, 0, none⟩)) := by
  obtain ⟨g', cap', cur, e, _, hb, hc⟩ := row_cells h (by omega)
  rw [hv] at e
  simp only [Value.slice.injEq] at e
  obtain ⟨rfl, _⟩ := e
  refine ⟨g', rfl, hb.at k ?_⟩
  rw [hc k (by omega)]
  simp [ptrs, hk]
end

theorem eq_ext {K : Nat} {S R : Nat → DQ} (h : ∀ j, j < K → S j = R j) (k : Nat) (s : DQ) : ∀ j, j < K → ext S k s j = ext R k s j := fun j hj => by
  by_cases e : j = k
  · rw [e, ext_same, ext_same]
  · rw [ext_far _ _ _ _ e, ext_far _ _ _ _ e]; exact h j hj
theorem eq_ext' {K : Nat} {S R : Nat → DQ} (h : ∀ j, j < K → S j = R j) (s : DQ) : ∀ j, j < K + 1 → ext S K s j = ext R K s j := fun j hj => by
  by_cases e : j = K
  · rw [e, ext_same, ext_same]
  · rw [ext_far _ _ _ _ e, ext_far _ _ _ _ e]; exact h j (by omega)

theorem new_rt {w1 : World} {c : Nat} {a : Int} {n k : Nat} {v : Int} (h : Blk w1 c 86 (rtCells a n k v 0 0 0 false false false)) (hr : dequeRight a n) (hk : k ≤ 2) (v0 : 0 ≤ v) (v1 : v < 18446744073709551616) : IsRT w1 c ⟨a, n, k, 0, false, false, v, 0, 0, false⟩ :=
  ⟨0, h, dq_new_ok hr hk v0 v1, fun _ => rfl⟩

theorem rt_right (w : World) (a n : Int) : Calls Try.prog 40 #[.int .i64 a, .int .i64 n] w fun e w' => e = .returned (.bool (decide (dequeRight a n))) ∧ w = w' := by
  by_cases h1 : 0 ≤ a
  · by_cases h2 : a ≤ 65000
    · by_cases h3 : 1 ≤ n
      · by_cases h4 : n ≤ 64
        · rw [decide_eq_true (show dequeRight a n by unfold dequeRight; omega)]
          go_enter Try.func40, Try.ntmps40
          go_wp2
          go_ret
          exact ⟨rfl, rfl⟩
        · rw [decide_eq_false (show ¬ dequeRight a n by unfold dequeRight; omega)]
          go_enter Try.func40, Try.ntmps40
          go_wp2
          go_ret
          exact ⟨rfl, rfl⟩
      · rw [decide_eq_false (show ¬ dequeRight a n by unfold dequeRight; omega)]
        go_enter Try.func40, Try.ntmps40
        go_wp2
        go_ret
        exact ⟨rfl, rfl⟩
    · rw [decide_eq_false (show ¬ dequeRight a n by unfold dequeRight; omega)]
      go_enter Try.func40, Try.ntmps40
      go_wp2
      go_ret
      exact ⟨rfl, rfl⟩
  · rw [decide_eq_false (show ¬ dequeRight a n by unfold dequeRight; omega)]
    go_enter Try.func40, Try.ntmps40
    go_wp2
    go_ret
    exact ⟨rfl, rfl⟩

theorem dnext_done (w : World) (b : Nat) (c0 c1 c2 c3 c4 : Value) (hb' : Blk w b 126 #[c0, c1, c2, c3, c4, .bool true]) :
    Calls Try.prog 36 #[.pointer (some ⟨b, 0, none⟩)] w fun e w' => e = .returned (.agg #[.int .i64 0, .int .i64 0, .int .u64 0, .int .u64 0]) ∧ Only [] w w' := by
  have hb := hb'.alloc (.cells #[.int .i64 0, .int .i64 0, .int .u64 0, .int .u64 0] 74)
  have c5 := hb.at 5 (v := .bool true) rfl
  have hlt := hb'.lt
  clear hb hb'
  go_enter Try.func36, Try.ntmps36
  go_wp2_with fail
  refine bodyPost_ret (v := .agg #[.int .i64 0, .int .i64 0, .int .u64 0, .int .u64 0]) (by simp [results, Try.results36, go_sem]) rfl ⟨rfl, ?_⟩
  repeat (first | exact Only.refl _ _ | apply Only.alloc | apply Only.drew | refine Only.setCell ?_ (.inr (Nat.le_refl _)) _)

theorem dnext_ex (s : DQ) : ∃ k i x y, s.next = ⟨k, i, x, y⟩ := ⟨_, _, _, _, rfl⟩
theorem dgo_ex (s : DQ) (m : MS) : ∃ s' m' d, s.go m = (s', m') ∧ s'.done = d := ⟨_, _, _, rfl, rfl⟩
theorem dnext_to {w : World} {b kb : Nat} {s : DQ} {k i x y : Int} (h : IsD w b kb s) (hx : s.next = ⟨k, i, x, y⟩) :
    Calls Try.prog 36 #[.pointer (some ⟨b, 0, none⟩)] w fun e w' => e = .returned (.agg #[.int .i64 k, .int .i64 i, .int .u64 x, .int .u64 y]) ∧ Only [] w w' := by
  cases hd : s.done
  · have := dnext_any w b kb s h hd
    rwa [hx] at this
  · have hb := h.obj
    unfold dCells at hb
    rw [hd] at hb
    have := dnext_done w b _ _ _ _ _ hb
    have e : s.next = ⟨0, 0, 0, 0⟩ := by unfold DQ.next; rw [if_pos hd]
    rw [hx] at e
    injection e with e1 e2 e3 e4
    rw [e1, e2, e3, e4]
    exact this
theorem rtnext_to {w : World} {b : Nat} {s : DQ} {k i x y : Int} (h : IsRT w b s) (hx : s.next = ⟨k, i, x, y⟩) :
    Calls Try.prog 42 #[.pointer (some ⟨b, 0, none⟩)] w fun e w' => e = .returned (.agg #[.int .i64 k, .int .i64 i, .int .u64 x, .int .u64 y]) ∧ Only [] w w' := by
  have := rtnext_any w b s h
  rwa [hx] at this

theorem dres_ex {w : World} {b kb : Nat} {s : DQ} (c : Nat) (h : IsD w b kb s) (hz : s.done = false → s.has = false) : ∃ v hh d v', Calls Try.prog 34 #[.pointer (some ⟨b, 0, none⟩)] w (fun e w' => e = .returned (.tuple #[.int .u64 v, .bool hh, .bool d]) ∧ Only [] w w') ∧
    (∀ w', IsRT w' c s → w'.cell? ⟨c, 3, none⟩ = some (.int .u64 v') ∧ w'.cell? ⟨c, 8, none⟩ = some (.bool d) ∧ w'.cell? ⟨c, 9, none⟩ = some (.bool hh)) ∧ (hh = true ∧ v' = v ∨ hh = false ∧ v = 0) := by
  have h1 : ∀ w', IsRT w' c s → w'.cell? ⟨c, 3, none⟩ = some (.int .u64 s.v) ∧ w'.cell? ⟨c, 8, none⟩ = some (.bool s.done) ∧ w'.cell? ⟨c, 9, none⟩ = some (.bool s.has) := fun w' ⟨t, hb, _⟩ => ⟨hb.at 3 rfl, hb.at 8 rfl, hb.at 9 rfl⟩
  have hr := dresult_any w b kb s h
  unfold dVal at hr
  cases hd : s.done
  · rw [hd] at hr h1
    rw [hz hd] at h1
    exact ⟨_, _, _, _, hr, h1, .inr ⟨rfl, rfl⟩⟩
  · rw [hd] at hr h1
    cases hh : s.has
    · rw [hh] at hr h1
      exact ⟨_, _, _, _, hr, h1, .inr ⟨rfl, rfl⟩⟩
    · rw [hh] at hr h1
      exact ⟨_, _, _, _, hr, h1, .inl ⟨rfl, rfl⟩⟩

end Go.Proofs.Ytoecoijmkjhkgaa
