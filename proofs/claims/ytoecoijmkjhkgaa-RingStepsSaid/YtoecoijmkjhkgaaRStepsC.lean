/- What the walk of RingSteps wants: the ring's things and the document's side by side; append as a step of a region that draws. -/
import Derived.Test.YtoecoijmkjhkgaaROnceC
import Derived.Test.YtoecoijmkjhkgaaRUs5
import Derived.Test.YtoecoijmkjhkgaaShell3
import Derived.Deep.RegionHeld3
namespace Go.Proofs.Ytoecoijmkjhkgaa
open Go.RowKit

theorem step_append_own {P : Program} {ops : Array Oper} {o : Oper} {a : Act} {w : World} {K : Act → World → Prop} {Q : Exit → Act → World → Prop} {E : Prop} (hgd : o.guard = none) (s x : Operand) (t : TypeId)
    (ho : o.op = .call { callee := .builtin .append, args := #[s, x], argTypes := #[t, t] })
    (base : Nat) (e : TypeId) (i : TypeInfo) (z : Value) (size bytes : Nat) (ht : P.underlying t = some (.slice e)) (hi : P.info? e = some i) (hz : i.zero = some z)
    (hsize : i.size = size) (hby : i.bytes = bytes) (hzs : z.cells.size = size) (hsz : 0 < size)
    (v : Value) (n : Nat) (xs : List Value) (hs : a.eval s = v) (hown : w.ownsRow base e size v n xs)
    (ad : Addr) (m c : Nat) (news : List Value) (hx : a.eval x = .slice (some ad) m c) (hl : news.length = m * size) (hnews : ∀ j u, news[j]? = some u → w.cell? (ad.add j) = some u) (h1 : ∀ u ∈ news, u.oneCell' = true)
    (h63 : n + m ≤ maxLen) (hbytes : (n + m) * bytes ≤ 140737488355328) (hbase : base ≤ w.heap.size)
    (hK : ∀ v' w', w'.ownsRow base e size v' (n + m) (xs ++ news) → w.grownBy w' v.ownBlock → K (a.put o.dst v') w') :
    if Region.wanted o (yielded ops a.tmps) = true then Oper.wp P o a w K Q else E := by
  rw [if_pos (by simp [Region.wanted, hgd])]
  exact wp_append_own w s x t ho base e i z size bytes ht hi hz hsize hby hzs hsz v n xs hs hown ad m c news hx hl hnews h1 h63 hbytes hbase fun v' w' h2 h3 _ => hK _ _ h2 h3

theorem Try.infoUser : (Try.prog.info? 96).map (fun i => (i.zero, i.size, i.bytes)) = some (some (.pointer none), 1, 8) := by kernel_rfl

def IsUs (w : World) (b : Nat) (s : Bool × RQ) : Prop := IsU w b s.1 s.2
theorem thing_us : Thing 98 IsUs := ⟨fun h => ⟨_, h.choose_spec.choose_spec.1⟩, fun h o hb => IsU.only h o hb⟩

/-- The case and the ring's place, as they lie in any world of the walk. -/
structure Base6 (w wr : World) (lb : Nat) (a n : Int) (cs : Array Value) : Prop where
  out : Only [] w wr
  lock : Blk wr lb 32 #[.int .i64 a, .int .i64 n]
  case_ : Blk wr w.heap.size 25 cs
theorem Base6.quiet {w wr w' : World} {lb : Nat} {a n : Int} {cs : Array Value} (h : Base6 w wr lb a n cs) (o : Only [] wr w') : Base6 w w' lb a n cs := ⟨h.out.trans o, h.lock.only o (by simp), h.case_.only o (by simp)⟩

/-- The ring's things and the document's. -/
structure RtSt (w wr : World) (mb ms lb rb rs : Nat) (a n : Int) (cs : Array Value) (m r : MS) (ps : Value) (N : Nat) (BP : Nat → Nat) (P : Nat → RQ) (gs : Value) (M : Nat) (BG : Nat → Nat) (G : Nat → RQ) (us : Value) (K : Nat) (BU : Nat → Nat) (U : Nat → Bool × RQ) : Prop where
  ro : RoSt w wr mb ms lb a n cs m ps N BP P gs M BG G
  ref : IsRef wr rb rs r
  far : w.heap.size ≤ rb ∧ w.heap.size ≤ rs ∧ ms ≠ rs
  mu : Many 96 IsUs w.heap.size wr us K BU U

/-- Each user stands as its thing. -/
def Same (N M : Nat) (P G : Nat → RQ) (U : Nat → Bool × RQ) : Prop := (∀ j, j < N → U j = (false, P j)) ∧ ∀ j, j < M → U (N + j) = (true, G j)

section
variable {w wr w1 w2 w' : World} {mb ms lb rb rs : Nat} {a n : Int} {cs : Array Value} {m m' r r' : MS} {ps ps' gs gs' us us' : Value} {N M K : Nat} {BP BG BU : Nat → Nat} {P G : Nat → RQ} {U : Nat → Bool × RQ}

theorem RtSt.base (h : RtSt w wr mb ms lb rb rs a n cs m r ps N BP P gs M BG G us K BU U) : Base6 w wr lb a n cs := ⟨h.ro.out, h.ro.lock, h.ro.case_⟩

theorem RtSt.farR (h : RtSt w wr mb ms lb rb rs a n cs m r ps N BP P gs M BG G us K BU U) : Foreign wr mb ms rb ∧ Foreign wr mb ms rs := by
  have h1 := h.ref.obj
  have h2 := h.ref.row
  exact ⟨⟨h1.ne h.ro.mem.obj (by decide), h1.ne h.ro.mem.row (by decide), _, _, h1, by decide, by decide, by decide, by decide, by decide, by decide⟩,
    ⟨h2.ne h.ro.mem.obj (by decide), h.far.2.2.symm, _, _, h2, by decide, by decide, by decide, by decide, by decide, by decide⟩⟩

theorem RtSt.quiet (h : RtSt w wr mb ms lb rb rs a n cs m r ps N BP P gs M BG G us K BU U) (o : Only [] wr w') : RtSt w w' mb ms lb rb rs a n cs m r ps N BP P gs M BG G us K BU U :=
  ⟨h.ro.quiet o, h.ref.only o (by simp) (by simp), h.far, h.mu.quiet thing_us o⟩

/-- What the ring's things do does not touch the document's. -/
theorem RtSt.mine (h : RtSt w wr mb ms lb rb rs a n cs m r ps N BP P gs M BG G us K BU U) {T : List Nat} (o : Only T wr w') (hT : ∀ x ∈ T, x ≠ rs ∧ ∃ t cs, Blk wr x t cs ∧ t ≠ 93 ∧ t ≠ 96 ∧ t ≠ 98) :
    IsRef w' rb rs r ∧ Many 96 IsUs w.heap.size w' us K BU U := by
  refine ⟨h.ref.only o (fun hx => ?_) (fun hx => (hT _ hx).1 rfl), h.mu.other thing_us o fun x hx => ?_⟩
  · obtain ⟨_, t, cs, hb, h1, _⟩ := hT _ hx
    exact h1 (Blk.inj hb h.ref.obj).1
  · obtain ⟨_, t, cs, hb, _, h1, h2⟩ := hT _ hx
    exact ⟨t, cs, hb, h1, h2⟩

theorem RtSt.addp (h : RtSt w wr mb ms lb rb rs a n cs m r ps N BP P gs M BG G us K BU U) (o : Only [] wr w1) {b : Nat} {s : RQ} (hq : IsQ w1 b false s) (hb : wr.heap.size ≤ b)
    (hown : w2.ownsRow w.heap.size 36 1 ps' (N + 1) (ptrs BP N ++ [.pointer (some ⟨b, 0, none⟩)])) (hg : w1.grownBy w2 ps.ownBlock) : RtSt w w2 mb ms lb rb rs a n cs m r ps' (N + 1) (ext BP N b) (ext P N s) gs M BG G us K BU U := by
  have h1 := h.quiet o
  have hT := row_block (row_based h1.ro.mp.row h1.ro.mp.los)
  obtain ⟨k1, k2⟩ := h1.mine (grown_only hg) fun x hx => by
    obtain ⟨_, cs, hb⟩ := hT _ hx
    exact ⟨hb.ne h1.ref.row (by decide), _, _, hb, by decide, by decide, by decide⟩
  exact ⟨h.ro.addp o hq hb hown hg, k1, h.far, k2⟩
theorem RtSt.addg (h : RtSt w wr mb ms lb rb rs a n cs m r ps N BP P gs M BG G us K BU U) (o : Only [] wr w1) {b : Nat} {s : RQ} (hq : IsQ w1 b true s) (hb : wr.heap.size ≤ b)
    (hown : w2.ownsRow w.heap.size 39 1 gs' (M + 1) (ptrs BG M ++ [.pointer (some ⟨b, 0, none⟩)])) (hg : w1.grownBy w2 gs.ownBlock) : RtSt w w2 mb ms lb rb rs a n cs m r ps N BP P gs' (M + 1) (ext BG M b) (ext G M s) us K BU U := by
  have h1 := h.quiet o
  have hT := row_block (row_based h1.ro.mg.row h1.ro.mg.los)
  obtain ⟨k1, k2⟩ := h1.mine (grown_only hg) fun x hx => by
    obtain ⟨_, cs, hb⟩ := hT _ hx
    exact ⟨hb.ne h1.ref.row (by decide), _, _, hb, by decide, by decide, by decide⟩
  exact ⟨h.ro.addg o hq hb hown hg, k1, h.far, k2⟩
theorem RtSt.addu (h : RtSt w wr mb ms lb rb rs a n cs m r ps N BP P gs M BG G us K BU U) (o : Only [] wr w1) {b : Nat} {s : Bool × RQ} (hq : IsUs w1 b s) (hb : wr.heap.size ≤ b)
    (hown : w2.ownsRow w.heap.size 96 1 us' (K + 1) (ptrs BU K ++ [.pointer (some ⟨b, 0, none⟩)])) (hg : w1.grownBy w2 us.ownBlock) : RtSt w w2 mb ms lb rb rs a n cs m r ps N BP P gs M BG G us' (K + 1) (ext BU K b) (ext U K s) := by
  have h1 := h.quiet o
  have o2 := grown_only hg
  have hT := row_block (row_based h1.mu.row h1.mu.los)
  refine ⟨h1.ro.far o2 fun x hx => ⟨(hT x hx).1, ?_⟩, h1.ref.only o2 (fun hx => ?_) (fun hx => ?_), h.far, h.mu.add thing_us (by decide) o hq hb h.ro.out.size hown hg⟩
  · obtain ⟨_, cs, hb⟩ := hT _ hx
    exact ⟨hb.ne h1.ro.mem.obj (by decide), hb.ne h1.ro.mem.row (by decide), _, _, hb, by decide, by decide, by decide, by decide, by decide, by decide⟩
  · obtain ⟨_, cs, hb⟩ := hT _ hx
    exact absurd (Blk.inj hb h1.ref.obj).1 (by decide)
  · obtain ⟨_, cs, hb⟩ := hT _ hx
    exact absurd (Blk.inj hb h1.ref.row).1 (by decide)

theorem RtSt.pcall (h : RtSt w wr mb ms lb rb rs a n cs m r ps N BP P gs M BG G us K BU U) {k : Nat} (hk : k < N) :
    Calls Try.prog 19 #[.pointer (some ⟨BP k, 0, none⟩), .pointer (some ⟨mb, 0, none⟩)] wr fun e w' => e = .returned (.bool (decide (((P k).go false m).1.st = 5))) ∧ RtSt w w' mb ms lb rb rs a n cs ((P k).go false m).2 r ps N BP (ext P k ((P k).go false m).1) gs M BG G us K BU U := by
  have hq : IsQ wr (BP k) false (P k) := h.ro.mp.is k hk
  refine (pustep_go hq h.ro.mem h.ro.rng).mono ?_
  rintro e w' ⟨rfl, o, hm, hq'⟩
  obtain ⟨k1, k2⟩ := h.mine o fun x hx => by
    simp at hx
    rcases hx with rfl | rfl | rfl
    · exact ⟨hq.obj.ne h.ref.row (by decide), _, _, hq.obj, by decide, by decide, by decide⟩
    · exact ⟨h.ro.mem.obj.ne h.ref.row (by decide), _, _, h.ro.mem.obj, by decide, by decide, by decide⟩
    · exact ⟨h.far.2.2, _, _, h.ro.mem.row, by decide, by decide, by decide⟩
  exact ⟨rfl, h.ro.pstep hk o hm (go_rng false _ m hq.ok h.ro.rng).1 hq', k1, h.far, k2⟩
theorem RtSt.gcall (h : RtSt w wr mb ms lb rb rs a n cs m r ps N BP P gs M BG G us K BU U) {k : Nat} (hk : k < M) :
    Calls Try.prog 20 #[.pointer (some ⟨BG k, 0, none⟩), .pointer (some ⟨mb, 0, none⟩)] wr fun e w' => e = .returned (.bool (decide (((G k).go true m).1.st = 5))) ∧ RtSt w w' mb ms lb rb rs a n cs ((G k).go true m).2 r ps N BP P gs M BG (ext G k ((G k).go true m).1) us K BU U := by
  have hq : IsQ wr (BG k) true (G k) := h.ro.mg.is k hk
  refine (postep_go hq h.ro.mem h.ro.rng).mono ?_
  rintro e w' ⟨rfl, o, hm, hq'⟩
  obtain ⟨k1, k2⟩ := h.mine o fun x hx => by
    simp at hx
    rcases hx with rfl | rfl | rfl
    · exact ⟨hq.obj.ne h.ref.row (by decide), _, _, hq.obj, by decide, by decide, by decide⟩
    · exact ⟨h.ro.mem.obj.ne h.ref.row (by decide), _, _, h.ro.mem.obj, by decide, by decide, by decide⟩
    · exact ⟨h.far.2.2, _, _, h.ro.mem.row, by decide, by decide, by decide⟩
  exact ⟨rfl, h.ro.gstep hk o hm (go_rng true _ m hq.ok h.ro.rng).1 hq', k1, h.far, k2⟩
theorem RtSt.ucall (h : RtSt w wr mb ms lb rb rs a n cs m r ps N BP P gs M BG G us K BU U) {k : Nat} (hk : k < K) {p : Bool} {s : RQ} (hu : U k = (p, s)) (hr : r.rng) :
    Calls Try.prog 49 #[.pointer (some ⟨BU k, 0, none⟩), .pointer (some ⟨rb, 0, none⟩)] wr fun e w' => e = .returned (.bool (decide ((s.go p r).1.st = 5))) ∧ RtSt w w' mb ms lb rb rs a n cs m (s.go p r).2 ps N BP P gs M BG G us K BU (ext U k (p, (s.go p r).1)) := by
  have hq0 := h.mu.is k hk
  rw [hu] at hq0
  have hq : IsU wr (BU k) p s := hq0
  obtain ⟨cs1, hb⟩ := thing_us.blk hq0
  refine (ustep_any hq h.ref hr ⟨hb.ne h.ref.obj (by decide), hb.ne h.ref.row (by decide)⟩).mono ?_
  rintro e w' ⟨rfl, o, hq', hm⟩
  refine ⟨rfl, h.ro.far o (fun x hx => ?_), hm, h.far, h.mu.step thing_us (by decide) hk o (fun x hx => ?_) hq'⟩
  · simp at hx
    rcases hx with rfl | rfl | rfl
    · exact ⟨h.mu.lo k hk, hb.ne h.ro.mem.obj (by decide), hb.ne h.ro.mem.row (by decide), _, _, hb, by decide, by decide, by decide, by decide, by decide, by decide⟩
    · exact ⟨h.far.1, h.farR.1⟩
    · exact ⟨h.far.2.1, h.farR.2⟩
  · simp at hx
    rcases hx with rfl | rfl | rfl
    · exact .inl rfl
    · exact .inr ⟨_, _, h.ref.obj, by decide, by decide⟩
    · exact .inr ⟨_, _, h.ref.row, by decide, by decide⟩

theorem Same.stepP (h : Same N M P G U) {k : Nat} (hk : k < N) (s : RQ) : Same N M (ext P k s) G (ext U k (false, s)) := by
  refine ⟨fun j hj => ?_, fun j hj => ?_⟩
  · by_cases e : j = k
    · rw [e, ext_same, ext_same]
    · rw [ext_far _ _ _ _ e, ext_far _ _ _ _ e]; exact h.1 j hj
  · rw [ext_far _ _ _ _ (by omega)]; exact h.2 j hj
theorem Same.stepG (h : Same N M P G U) {k : Nat} (_hk : k < M) (s : RQ) : Same N M P (ext G k s) (ext U (N + k) (true, s)) := by
  refine ⟨fun j hj => ?_, fun j hj => ?_⟩
  · rw [ext_far _ _ _ _ (by omega)]; exact h.1 j hj
  · by_cases e : j = k
    · rw [e, ext_same, ext_same]
    · rw [ext_far _ _ _ _ e, ext_far _ _ _ _ (by omega)]; exact h.2 j hj
theorem Same.addP (h : Same N 0 P G U) (s : RQ) : Same (N + 1) 0 (ext P N s) G (ext U N (false, s)) := by
  refine ⟨fun j hj => ?_, fun j hj => absurd hj (by omega)⟩
  by_cases e : j = N
  · rw [e, ext_same, ext_same]
  · rw [ext_far _ _ _ _ e, ext_far _ _ _ _ e]; exact h.1 j (by omega)
theorem Same.addG (h : Same N M P G U) (s : RQ) : Same N (M + 1) P (ext G M s) (ext U (N + M) (true, s)) := by
  refine ⟨fun j hj => ?_, fun j hj => ?_⟩
  · rw [ext_far _ _ _ _ (by omega)]; exact h.1 j hj
  · by_cases e : j = M
    · rw [e, ext_same, ext_same]
    · rw [ext_far _ _ _ _ e, ext_far _ _ _ _ (by omega)]; exact h.2 j (by omega)

/-- A new user. -/
theorem new_user {w1 : World} {b : Nat} {a : Int} {n : Nat} {p : Bool} {v : Int} (h : Blk w1 b 98 (uCells a n p v 0 0 false false)) (hr : ringRight a n) (v0 : 0 ≤ v) (v1 : v < 18446744073709551616) : IsUs w1 b (p, ⟨a, n, 0, 0, false, v⟩) :=
  ⟨v, 0, h, ⟨hr.1.1, hr.1.2, by have := hr.2.1; dsimp only; omega, by have := hr.2.2; dsimp only; omega, by simp, by simp, by simp, by simp, v0, v1⟩, fun _ => ⟨rfl, rfl, rfl⟩, fun h => by simp at h⟩
end

end Go.Proofs.Ytoecoijmkjhkgaa
