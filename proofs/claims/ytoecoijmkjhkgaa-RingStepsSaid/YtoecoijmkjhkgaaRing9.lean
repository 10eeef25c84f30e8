/- The ring at rest: what Init, a push and a pop do. -/
import Derived.Test.YtoecoijmkjhkgaaRing8
namespace Go.Proofs.Ytoecoijmkjhkgaa
open Go.RowKit

theorem store_put (m : MS) (k : Nat) (v : Int) (h : k < m.L.length) : m.store (k : Int) v = (⟨m.L.set k v, wrap64 (m.c + 1), wrap64 (m.l + 1)⟩, 0) := by
  unfold MS.store
  rw [if_pos (show m.has k = true from decide_eq_true ⟨by omega, by omega⟩)]
  rfl

theorem lay_ok (l : List Int) : ∀ (m : MS) (a : Nat), a + l.length ≤ m.L.length → (∀ i, 0 ≤ nth l i ∧ nth l i < 18446744073709551616) → m.rng →
    (m.lay a l).2 = 0 ∧ (m.lay a l).1.L.length = m.L.length ∧ (m.lay a l).1.rng ∧ ∀ k, nth (m.lay a l).1.L k = if a ≤ k ∧ k < a + l.length then nth l (k - a) else nth m.L k := by
  induction l with
  | nil => intro m a _ _ hr; exact ⟨rfl, rfl, hr, fun k => by rw [if_neg (by simp)]; rfl⟩
  | cons v l ih =>
    intro m a hl hv hr
    simp only [List.length_cons] at hl
    have hs := store_put m a v (by omega)
    have h0 := hv 0
    have e : MS.lay m a (v :: l) = MS.lay (m.store a v).1 ((a : Int) + 1) l := by
      show (if (m.store a v).2 = 0 then _ else _) = _
      rw [hs, if_pos rfl]
    have e1 : ((a : Int) + 1) = ((a + 1 : Nat) : Int) := by omega
    rw [e, e1, hs]
    obtain ⟨i1, i2, i3, i4⟩ := ih ⟨m.L.set a v, wrap64 (m.c + 1), wrap64 (m.l + 1)⟩ (a + 1) (by simp; omega) (fun i => by have := hv (i + 1); simpa [nth] using this) (rng_set hr (by omega) (by simpa [nth] using h0.1) (by simpa [nth] using h0.2))
    refine ⟨i1, by rw [i2]; simp, i3, fun k => ?_⟩
    rw [i4]
    by_cases h1 : a + 1 ≤ k ∧ k < a + 1 + l.length
    · rw [if_pos h1, if_pos (by simp; omega)]
      have : k - a = k - (a + 1) + 1 := by omega
      rw [this]
      simp [nth]
    · rw [if_neg h1]
      show nth (m.L.set a v) k = _
      rw [nth_set _ _ _ _ (by omega)]
      by_cases h2 : a = k
      · subst h2
        rw [if_pos rfl, if_pos (by simp)]
        simp [nth]
      · rw [if_neg h2, if_neg (by simp; omega)]

theorem nth_app (l l' : List Int) (i : Nat) (h : i < l.length) : nth (l ++ l') i = nth l i := by simp [nth, List.getElem?_append_left h]
theorem nth_app2 (l l' : List Int) (i : Nat) : nth (l ++ l') (l.length + i) = nth l' i := by simp [nth, List.getElem?_append_right]

theorem initL_turn (n : Nat) : ∀ i, i < n → nth (initL n) (2 + 2 * i) = (i : Int) := by
  induction n with
  | zero => intro i hi; omega
  | succ n ih =>
    intro i hi
    have hl := initL_length n
    unfold initL
    by_cases h : i < n
    · have : nth (initL n ++ [(n : Int), 0]) (2 + 2 * i) = nth (initL n) (2 + 2 * i) := by simp [nth, List.getElem?_append_left (show 2 + 2 * i < (initL n).length by omega)]
      rw [this]
      exact ih i h
    · have : i = n := by omega
      subst this
      have := nth_app2 (initL i) [(i : Int), 0] 0
      rw [hl] at this
      exact this
theorem initL_head (n : Nat) : nth (initL n) 0 = 0 ∧ nth (initL n) 1 = 0 := by
  induction n with
  | zero => exact ⟨rfl, rfl⟩
  | succ n ih =>
    have hl := initL_length n
    have h0 : nth (initL (n + 1)) 0 = nth (initL n) 0 := nth_app _ _ 0 (by omega)
    have h1 : nth (initL (n + 1)) 1 = nth (initL n) 1 := nth_app _ _ 1 (by omega)
    rw [h0, h1]
    exact ih

theorem ring_init (m : MS) (a n : Nat) (hl : a + 2 + 2 * n ≤ m.L.length) (hr : m.rng) (n2 : 2 ≤ n) (n64 : n ≤ 64) :
    (m.lay a (initL n)).2 = 0 ∧ (m.lay a (initL n)).1.rng ∧ RingAt (m.lay a (initL n)).1.L a n 0 [] ∧ (m.lay a (initL n)).1.L.length = m.L.length := by
  have hlen := initL_length n
  obtain ⟨h1, h2, h3, h4⟩ := lay_ok (initL n) m a (by omega) (initL_rng n (by omega)) hr
  obtain ⟨z0, z1⟩ := initL_head n
  refine ⟨h1, h3, ⟨by rw [h2]; exact hl, n2, by simp, by omega, ?_, ?_, fun i hi => by simp at hi, fun i _ hi => ?_⟩, h2⟩
  · rw [h4, if_pos (by omega), Nat.sub_self, z0]; rfl
  · rw [h4, if_pos (by omega), show a + 1 - a = 1 by omega, z1]; rfl
  · have hs := sl_lt a n (0 + i) (by omega)
    have e : sl a n (0 + i) - a = 2 + 2 * i := by
      unfold sl
      rw [Nat.zero_add, Nat.mod_eq_of_lt hi]
      omega
    rw [h4, if_pos (by omega), e, initL_turn n i hi]
    omega

/-- A ring at rest in a world. -/
def RgAt (w : World) (mb ms : Nat) (len a n h : Nat) (vs : List Int) : Prop := ∃ m, IsMem w mb ms m ∧ m.rng ∧ RingAt m.L a n h vs ∧ m.L.length = len

section
variable {w : World} {mb ms len a n h : Nat} {vs : List Int}

theorem RgAt.quiet {w' : World} (r : RgAt w mb ms len a n h vs) (o : Only [] w w') : RgAt w' mb ms len a n h vs := by
  obtain ⟨m, h1, h2, h3, h4⟩ := r
  exact ⟨m, h1.same' o, h2, h3, h4⟩

theorem rg_push (v : Int) (r : RgAt w mb ms len a n h vs) (ha : a ≤ 65000) (hn : n ≤ 64) (v0 : 0 ≤ v) (v1 : v < 18446744073709551616) (hv : vs.length < n) :
    Calls Try.prog 24 #[.pointer (some ⟨mb, 0, none⟩), .agg #[.int .i64 a, .int .i64 n], .int .u64 v] w fun e w' => e = .returned (.bool true) ∧ Only [mb, ms] w w' ∧ RgAt w' mb ms len a n h (vs ++ [v]) := by
  obtain ⟨m, h1, h2, h3, h4⟩ := r
  obtain ⟨m', g1, g2, g3⟩ := ring_push v h3 hv
  refine (push_run w mb ms m a n v h1 h2 ⟨⟨by omega, by omega⟩, by have := h3.n2; omega, by omega⟩ v0 v1).mono ?_
  rintro e w' ⟨rfl, o, hm, hr⟩
  rw [g1] at hm hr ⊢
  exact ⟨by simp, o, m', hm, hr, g2, g3.trans h4⟩

theorem rg_full (v : Int) (r : RgAt w mb ms len a n h vs) (ha : a ≤ 65000) (hn : n ≤ 64) (v0 : 0 ≤ v) (v1 : v < 18446744073709551616) (hv : vs.length = n) :
    Calls Try.prog 24 #[.pointer (some ⟨mb, 0, none⟩), .agg #[.int .i64 a, .int .i64 n], .int .u64 v] w fun e w' => e = .returned (.bool false) ∧ Only [mb, ms] w w' ∧ RgAt w' mb ms len a n h vs := by
  obtain ⟨m, h1, h2, h3, h4⟩ := r
  obtain ⟨m', g1, g2⟩ := ring_full v h3 hv
  refine (push_run w mb ms m a n v h1 h2 ⟨⟨by omega, by omega⟩, by have := h3.n2; omega, by omega⟩ v0 v1).mono ?_
  rintro e w' ⟨rfl, o, hm, hr⟩
  rw [g1] at hm hr ⊢
  exact ⟨by simp, o, m', hm, hr, by rw [g2]; exact h3, by rw [g2]; exact h4⟩

theorem rg_pop {v : Int} (r : RgAt w mb ms len a n h (v :: vs)) (ha : a ≤ 65000) (hn : n ≤ 64) (hh : h < 1000000) :
    Calls Try.prog 25 #[.pointer (some ⟨mb, 0, none⟩), .agg #[.int .i64 a, .int .i64 n]] w fun e w' => e = .returned (.tuple #[.int .u64 v, .bool true]) ∧ Only [mb, ms] w w' ∧ RgAt w' mb ms len a n (h + 1) vs := by
  obtain ⟨m, h1, h2, h3, h4⟩ := r
  obtain ⟨m', g1, g2, g3⟩ := ring_pop h3
  refine (pop_run w mb ms m a n h1 h2 ⟨⟨by omega, by omega⟩, by have := h3.n2; omega, by omega⟩).mono ?_
  rintro e w' ⟨rfl, o, hm, hr⟩
  rw [g1] at hm hr ⊢
  exact ⟨by simp [popVal], o, m', hm, hr, g2 (by omega), g3.trans h4⟩

theorem rg_empty (r : RgAt w mb ms len a n h []) (ha : a ≤ 65000) (hn : n ≤ 64) :
    Calls Try.prog 25 #[.pointer (some ⟨mb, 0, none⟩), .agg #[.int .i64 a, .int .i64 n]] w fun e w' => e = .returned (.tuple #[.int .u64 0, .bool false]) ∧ Only [mb, ms] w w' ∧ RgAt w' mb ms len a n h [] := by
  obtain ⟨m, h1, h2, h3, h4⟩ := r
  obtain ⟨m', g1, g2⟩ := ring_empty h3
  refine (pop_run w mb ms m a n h1 h2 ⟨⟨by omega, by omega⟩, by have := h3.n2; omega, by omega⟩).mono ?_
  rintro e w' ⟨rfl, o, hm, hr⟩
  rw [g1] at hm hr ⊢
  exact ⟨by simp [popVal], o, m', hm, hr, by rw [g2]; exact h3, by rw [g2]; exact h4⟩

theorem rg_init {m : MS} (hm : IsMem w mb ms m) (hr : m.rng) (hl : a + 2 + 2 * n ≤ m.L.length) (ha : a ≤ 65000) (n2 : 2 ≤ n) (n64 : n ≤ 64) :
    Calls Try.prog 16 #[.agg #[.int .i64 a, .int .i64 n], .pointer (some ⟨mb, 0, none⟩)] w fun e w' => e = .returned (.int .i64 0) ∧ Only [mb, ms] w w' ∧ RgAt w' mb ms m.L.length a n 0 [] := by
  obtain ⟨h1, h2, h3, h4⟩ := ring_init m a n hl hr n2 n64
  refine (init_some w mb ms m a n hm ⟨⟨by omega, by omega⟩, by omega, by omega⟩).mono ?_
  rintro e w' ⟨rfl, o, hm'⟩
  exact ⟨by rw [h1], o, _, hm', h2, h3, h4⟩
end

theorem new_rng (k : Nat) : (MS.new k).rng := fun i => by
  show 0 ≤ nth (List.replicate k 0) i ∧ nth (List.replicate k 0) i < 18446744073709551616
  by_cases h : i < k
  · simp [nth, h]
  · simp [nth, h]

end Go.Proofs.Ytoecoijmkjhkgaa
