/- What the walk of RingSteps wants, on: Next of those who push and pop; lengths and ranges of words. -/
import Derived.Test.YtoecoijmkjhkgaaRStepsC
namespace Go.Proofs.Ytoecoijmkjhkgaa
open Go.RowKit

theorem pact_len (m : MS) (x : Act') : (m.act x).1.L.length = m.L.length := by
  have h1 : ∀ i, (m.load i).1.L.length = m.L.length := fun i => by unfold MS.load; split <;> rfl
  have h2 : ∀ i v, (m.store i v).1.L.length = m.L.length := fun i v => by unfold MS.store; split <;> simp
  have h3 : ∀ i x y, (m.cas i x y).1.L.length = m.L.length := fun i x y => by unfold MS.cas; split <;> (try split) <;> simp
  have h4 : ∀ i v, (m.add i v).1.L.length = m.L.length := fun i v => by unfold MS.add; split <;> simp
  unfold MS.act
  split
  · exact h1 _
  split
  · exact h2 _ _
  split
  · exact h3 _ _ _
  split
  · exact h4 _ _
  rfl
theorem go_len (p : Bool) (s : RQ) (m : MS) : (s.go p m).2.L.length = m.L.length := by
  unfold RQ.go
  split
  · rfl
  · exact pact_len _ _
theorem store_len (m : MS) (i v : Int) : (m.store i v).1.L.length = m.L.length := by unfold MS.store; split <;> simp
theorem lay_keeps (l : List Int) : ∀ (m : MS) (a : Int), m.rng → (∀ x ∈ l, 0 ≤ x ∧ x < 18446744073709551616) → (m.lay a l).1.L.length = m.L.length ∧ (m.lay a l).1.rng := by
  induction l with
  | nil => exact fun m a h _ => ⟨rfl, h⟩
  | cons v l ih =>
    intro m a h hv
    have h0 := hv v (by simp)
    unfold MS.lay
    split
    · obtain ⟨i1, i2⟩ := ih (m.store a v).1 (a + 1) (store_rng h h0.1 h0.2) (fun x hx => hv x (by simp [hx]))
      exact ⟨i1.trans (store_len m a v), i2⟩
    · exact ⟨store_len m a v, store_rng h h0.1 h0.2⟩
theorem initL_mem (n : Nat) (h : n ≤ 1000) : ∀ x ∈ initL n, 0 ≤ x ∧ x < 18446744073709551616 := fun x hx => by
  obtain ⟨i, hi, rfl⟩ := List.getElem_of_mem hx
  have := initL_rng n h i
  simpa [nth, hi] using this

theorem eqw_alike (w : World) (v v' : Value) (L : List Int) (h : IsRow w v L) (h' : IsRow w v' L) : Calls Try.prog 44 #[v, v'] w fun e w' => e = .returned (.bool true) ∧ Only [] w w' :=
  (eqw_any w v v' L L h h').mono fun e w' ⟨he, ho⟩ => ⟨by rw [he]; simp, ho⟩
theorem cut_whole (L : List Int) (N : Nat) (hN : 1 ≤ N) (hl : L.length = N) : cutL L 0 N = L := by
  unfold cutL
  rw [if_pos (by omega)]
  simp [hl.symm]

theorem Reads.at {w : World} {A : Option Addr} {L : List Int} (h : Reads w A L) {k : Nat} (hk : k < L.length) : ∃ g o, g < w.heap.size ∧ A = some ⟨g, o, none⟩ ∧ ∀ i, i < L.length → w.cell? ⟨g, o + i, none⟩ = some (.int .u64 (nth L i)) := by
  rcases h with rfl | h
  · simp at hk
  · exact h

theorem next_ex (p : Bool) (s : RQ) : ∃ k i x y, s.next p = ⟨k, i, x, y⟩ := ⟨_, _, _, _, rfl⟩
theorem go_ex (p : Bool) (s : RQ) (m : MS) : ∃ s' m' d, s.go p m = (s', m') ∧ decide (s'.st = 5) = d := ⟨_, _, _, rfl, rfl⟩

theorem punext_to {w : World} {b : Nat} {s : RQ} {k i x y : Int} (h : IsQ w b false s) (hx : s.next false = ⟨k, i, x, y⟩) :
    Calls Try.prog 37 #[.pointer (some ⟨b, 0, none⟩)] w fun e w' => e = .returned (.agg #[.int .i64 k, .int .i64 i, .int .u64 x, .int .u64 y]) ∧ Only [] w w' := by
  have H1 := Lib.hid (h.quiet ((Only.refl [] w).alloc (.cells #[.int .i64 0, .int .i64 0, .int .u64 0, .int .u64 0] 74)))
  have HZ := Lib.hid (Blk.new w 74 #[.int .i64 0, .int .i64 0, .int .u64 0, .int .u64 0])
  have HO := Lib.hid ((Only.refl [] w).alloc (.cells #[.int .i64 0, .int .i64 0, .int .u64 0, .int .u64 0] 74))
  have HX := Lib.hid hx
  have c1 := H1.out.obj.at 1 (v := .int .i64 s.n) rfl
  have hn : (0 : Int) < s.n := by have := h.ok.n2; omega
  have hlt := h.obj.lt
  clear h hx
  go_enter Try.func37, Try.ntmps37
  go_wp2_with fail
  refine (rnext_any _ b false s H1.out).mono ?_
  rintro e w1 ⟨rfl, ho⟩
  rw [HX.out, show Act'.val ⟨k, i, x, y⟩ = .agg #[.int .i64 k, .int .i64 i, .int .u64 x, .int .u64 y] from rfl]
  have HZ := Lib.hid (HZ.out.only ho (by simp))
  have HO := Lib.hid (HO.out.trans ho)
  have f0 := HZ.out.frozen 0
  have f1 := HZ.out.frozen 1
  have f2 := HZ.out.frozen 2
  have f3 := HZ.out.frozen 3
  have z0 := HZ.out.at 0 (v := .int .i64 0) rfl
  have z1 := HZ.out.at 1 (v := .int .i64 0) rfl
  have z2 := HZ.out.at 2 (v := .int .u64 0) rfl
  have z3 := HZ.out.at 3 (v := .int .u64 0) rfl
  clear ho c1 hn
  go_wp2_with fail
  refine bodyPost_ret (v := .agg #[.int .i64 k, .int .i64 i, .int .u64 x, .int .u64 y]) (by simp [results, Try.results37, go_sem, *]) rfl ⟨rfl, ?_⟩
  repeat (first | exact HO.out | refine Only.setCell ?_ (.inr (Nat.le_refl _)) _)

theorem ponext_to {w : World} {b : Nat} {s : RQ} {k i x y : Int} (h : IsQ w b true s) (hx : s.next true = ⟨k, i, x, y⟩) :
    Calls Try.prog 38 #[.pointer (some ⟨b, 0, none⟩)] w fun e w' => e = .returned (.agg #[.int .i64 k, .int .i64 i, .int .u64 x, .int .u64 y]) ∧ Only [] w w' := by
  have H1 := Lib.hid (h.quiet ((Only.refl [] w).alloc (.cells #[.int .i64 0, .int .i64 0, .int .u64 0, .int .u64 0] 74)))
  have HZ := Lib.hid (Blk.new w 74 #[.int .i64 0, .int .i64 0, .int .u64 0, .int .u64 0])
  have HO := Lib.hid ((Only.refl [] w).alloc (.cells #[.int .i64 0, .int .i64 0, .int .u64 0, .int .u64 0] 74))
  have HX := Lib.hid hx
  have c1 := H1.out.obj.at 1 (v := .int .i64 s.n) rfl
  have hn : (0 : Int) < s.n := by have := h.ok.n2; omega
  have hlt := h.obj.lt
  clear h hx
  go_enter Try.func38, Try.ntmps38
  go_wp2_with fail
  refine (rnext_any _ b true s H1.out).mono ?_
  rintro e w1 ⟨rfl, ho⟩
  rw [HX.out, show Act'.val ⟨k, i, x, y⟩ = .agg #[.int .i64 k, .int .i64 i, .int .u64 x, .int .u64 y] from rfl]
  have HZ := Lib.hid (HZ.out.only ho (by simp))
  have HO := Lib.hid (HO.out.trans ho)
  have f0 := HZ.out.frozen 0
  have f1 := HZ.out.frozen 1
  have f2 := HZ.out.frozen 2
  have f3 := HZ.out.frozen 3
  have z0 := HZ.out.at 0 (v := .int .i64 0) rfl
  have z1 := HZ.out.at 1 (v := .int .i64 0) rfl
  have z2 := HZ.out.at 2 (v := .int .u64 0) rfl
  have z3 := HZ.out.at 3 (v := .int .u64 0) rfl
  clear ho c1 hn
  go_wp2_with fail
  refine bodyPost_ret (v := .agg #[.int .i64 k, .int .i64 i, .int .u64 x, .int .u64 y]) (by simp [results, Try.results38, go_sem, *]) rfl ⟨rfl, ?_⟩
  repeat (first | exact HO.out | refine Only.setCell ?_ (.inr (Nat.le_refl _)) _)

theorem unext_to {w : World} {b : Nat} {p : Bool} {s : RQ} {k i x y : Int} (h : IsU w b p s) (hx : s.next p = ⟨k, i, x, y⟩) :
    Calls Try.prog 48 #[.pointer (some ⟨b, 0, none⟩)] w fun e w' => e = .returned (.agg #[.int .i64 k, .int .i64 i, .int .u64 x, .int .u64 y]) ∧ Only [] w w' := by
  have := unext_any w b p s h
  rwa [hx] at this

theorem one_new (w : World) (x : Value) (t : TypeId) : ∀ j u, [x][j]? = some u → (w.alloc (.cells #[x] t)).cell? ((⟨w.heap.size, 0, none⟩ : Addr).add j) = some u := by
  intro j u hj
  match j, hj with
  | 0, hj => simp at hj; subst hj; simp [Addr.add]

theorem user_cells {w : World} {c : Nat} {p : Bool} {s : RQ} (h : IsU w c p s) : ∃ v', (∀ w', Only [] w w' → w'.cell? ⟨c, 3, none⟩ = some (.int .u64 v') ∧ w'.cell? ⟨c, 6, none⟩ = some (.bool (decide (s.st = 5))) ∧ w'.cell? ⟨c, 7, none⟩ = some (.bool s.has)) ∧ (¬ s.st = 5 → s.has = false) ∧ (s.has = true → v' = s.v) := by
  obtain ⟨v', turn, hb, _, h1, h2⟩ := h
  exact ⟨v', fun w' o => ⟨(hb.only o (by simp)).at 3 rfl, (hb.only o (by simp)).at 6 rfl, (hb.only o (by simp)).at 7 rfl⟩, fun h5 => (h1 h5).2.2, h2⟩

theorem pures_ex {w : World} {b c : Nat} {s : RQ} (h : IsQ w b false s) (hu : IsU w c false s) : ∃ hh d, Calls Try.prog 23 #[.pointer (some ⟨b, 0, none⟩)] w (fun e w' => e = .returned (.tuple #[.bool hh, .bool d]) ∧ Only [] w w') ∧
    ∀ w', Only [] w w' → w'.cell? ⟨c, 6, none⟩ = some (.bool d) ∧ w'.cell? ⟨c, 7, none⟩ = some (.bool hh) := by
  obtain ⟨v', h1, _⟩ := user_cells hu
  exact ⟨_, _, puresult_at w b s h, fun w' o => (h1 w' o).2⟩
theorem pores_ex {w : World} {b c : Nat} {s : RQ} (h : IsQ w b true s) (hu : IsU w c true s) : ∃ v hh d v', Calls Try.prog 22 #[.pointer (some ⟨b, 0, none⟩)] w (fun e w' => e = .returned (.tuple #[.int .u64 v, .bool hh, .bool d]) ∧ Only [] w w') ∧
    (∀ w', Only [] w w' → w'.cell? ⟨c, 3, none⟩ = some (.int .u64 v') ∧ w'.cell? ⟨c, 6, none⟩ = some (.bool d) ∧ w'.cell? ⟨c, 7, none⟩ = some (.bool hh)) ∧ (hh = true ∧ v' = v ∨ hh = false ∧ v = 0) := by
  obtain ⟨v', h1, h2, h3⟩ := user_cells hu
  have hr := poresult_at w b s h
  by_cases h5 : s.st = 5
  · rw [if_pos h5] at hr
    rw [decide_eq_true h5] at h1
    cases hh : s.has
    · rw [hh] at hr h1
      exact ⟨_, _, _, v', hr, h1, .inr ⟨rfl, rfl⟩⟩
    · rw [hh] at hr h1
      exact ⟨_, _, _, v', hr, h1, .inl ⟨rfl, h3 hh⟩⟩
  · rw [if_neg h5] at hr
    rw [decide_eq_false h5, h2 h5] at h1
    exact ⟨_, _, _, v', hr, h1, .inr ⟨rfl, rfl⟩⟩

section
variable {w wr : World} {mb ms lb rb rs : Nat} {a : Int} {n : Nat} {cs : Array Value} {m r : MS} {ps gs us : Value} {N M K : Nat} {BP BG BU : Nat → Nat} {P G : Nat → RQ} {U : Nat → Bool × RQ}
theorem RtSt.init (h : RtSt w wr mb ms lb rb rs a n cs m r ps N BP P gs M BG G us K BU U) (hr : ringRight a n) {m' : MS} {er : Int} (he : m.lay a (initL n) = (m', er)) :
    Calls Try.prog 16 #[.agg #[.int .i64 a, .int .i64 n], .pointer (some ⟨mb, 0, none⟩)] wr fun e w' => e = .returned (.int .i64 er) ∧ RtSt w w' mb ms lb rb rs a n cs m' r ps N BP P gs M BG G us K BU U := by
  have hk := (lay_keeps (initL n) m a h.ro.rng (initL_mem n (by have := hr.2.2; omega))).2
  have hc := init_some wr mb ms m a n h.ro.mem hr
  unfold Laid at hc
  rw [he] at hk hc
  refine hc.mono ?_
  rintro e w' ⟨rfl, o, hm⟩
  obtain ⟨k1, k2⟩ := h.mine o fun x hx => by
    simp at hx
    rcases hx with rfl | rfl
    · exact ⟨h.ro.mem.obj.ne h.ref.row (by decide), _, _, h.ro.mem.obj, by decide, by decide, by decide⟩
    · exact ⟨h.far.2.2, _, _, h.ro.mem.row, by decide, by decide, by decide⟩
  exact ⟨rfl, h.ro.touch o hm hk, k1, h.far, k2⟩
theorem RtSt.uinit (h : RtSt w wr mb ms lb rb rs a n cs m r ps N BP P gs M BG G us K BU U) (hr : ringRight a n) {r' : MS} {er : Int} (he : r.lay a (initL n) = (r', er)) :
    Calls Try.prog 46 #[.pointer (some ⟨rb, 0, none⟩), .int .i64 a, .int .i64 n] wr fun e w' => e = .returned (.int .i64 er) ∧ RtSt w w' mb ms lb rb rs a n cs m r' ps N BP P gs M BG G us K BU U := by
  have hc := u_init_some wr rb rs r a n h.ref hr
  rw [he] at hc
  refine hc.mono ?_
  rintro e w' ⟨rfl, o, hm⟩
  refine ⟨rfl, h.ro.far o (fun x hx => ?_), hm, h.far, h.mu.other thing_us o fun x hx => ?_⟩
  · simp at hx
    rcases hx with rfl | rfl
    · exact ⟨h.far.1, h.farR.1⟩
    · exact ⟨h.far.2.1, h.farR.2⟩
  · simp at hx
    rcases hx with rfl | rfl
    · exact ⟨_, _, h.ref.obj, by decide, by decide⟩
    · exact ⟨_, _, h.ref.row, by decide, by decide⟩
end

end Go.Proofs.Ytoecoijmkjhkgaa
