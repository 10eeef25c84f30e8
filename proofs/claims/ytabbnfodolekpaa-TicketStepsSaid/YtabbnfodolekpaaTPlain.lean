/- The plain law of the ticket lock: what stays true whatever order the steps are in. No walk. -/
import Derived.Test.YtabbnfodolekpaaTick4
import Derived.Test.YtabbnfodolekpaaPlain02
namespace Go.Proofs.Ytabbnfodolekpaa
open Go.RowKit

/-- How many of the first n are so. -/
def cnt (p : HS → Bool) : Nat → (Nat → HS) → Nat
  | 0, _ => 0
  | n + 1, H => cnt p n H + if p (H n) then 1 else 0

def hasTk (h : HS) : Bool := h.st != 0
def isGone (h : HS) : Bool := h.st == 3

theorem cnt_congr (p : HS → Bool) (n : Nat) (H K : Nat → HS) (h : ∀ k, k < n → H k = K k) : cnt p n H = cnt p n K := by
  induction n with
  | zero => rfl
  | succ n ih => rw [cnt, cnt, ih fun k hk => h k (by omega), h n (by omega)]

theorem cnt_upd (p : HS → Bool) (n k : Nat) (H : Nat → HS) (h : HS) (hk : k < n) : cnt p n (upd H k h) + (if p (H k) then 1 else 0) = cnt p n H + (if p h then 1 else 0) := by
  induction n with
  | zero => omega
  | succ n ih =>
    rw [cnt, cnt]
    by_cases e : k = n
    · subst e
      have h1 : cnt p k (upd H k h) = cnt p k H := cnt_congr p k _ _ fun j hj => by unfold upd; rw [if_neg (by omega)]
      have h2 : upd H k h k = h := by simp [upd]
      rw [h1, h2]
      omega
    · have h2 : upd H k h n = H n := by unfold upd; rw [if_neg (by omega)]
      have := ih (by omega)
      rw [h2]
      omega

theorem cnt_le (p : HS → Bool) (n : Nat) (H : Nat → HS) : cnt p n H ≤ n := by
  induction n with
  | zero => exact Nat.le_refl _
  | succ n ih => rw [cnt]; split <;> omega

structure TInv (n a : Nat) (H : Nat → HS) (m : MS) : Prop where
  len : a + 1 < m.L.length
  pl : ∀ k, k < n → (H k).at_ = a
  nxt : nth m.L a = cnt hasTk n H
  srv : nth m.L (a + 1) = cnt isGone n H
  wait : ∀ k, k < n → (H k).st = 1 → (cnt isGone n H : Int) ≤ (H k).tk ∧ (H k).tk < cnt hasTk n H
  hold : ∀ k, k < n → (H k).st = 2 → (H k).tk = cnt isGone n H ∧ (H k).tk < cnt hasTk n H
  gone : ∀ k, k < n → (H k).st = 3 → 0 ≤ (H k).tk ∧ (H k).tk < cnt isGone n H
  dist : ∀ i j, i < n → j < n → i ≠ j → (H i).st ≠ 0 → (H j).st ≠ 0 → (H i).tk ≠ (H j).tk
  sts : ∀ k, k < n → (H k).st = 0 ∨ (H k).st = 1 ∨ (H k).st = 2 ∨ (H k).st = 3

theorem upd_same (H : Nat → HS) (k : Nat) (h : HS) : upd H k h k = h := by simp [upd]
theorem upd_other (H : Nat → HS) {k j : Nat} (h : HS) (hj : j ≠ k) : upd H k h j = H j := by simp [upd, hj]

theorem TInv.start (n a : Nat) (m : MS) (hl : a + 1 < m.L.length) (h0 : ∀ j, nth m.L j = 0) : TInv n a (fun _ => ⟨a, 0, 0, false⟩) m := by
  have h : ∀ n, cnt hasTk n (fun _ => (⟨a, 0, 0, false⟩ : HS)) = 0 := fun n => by
    induction n with
    | zero => rfl
    | succ n ih => rw [cnt, ih]; rfl
  have h' : ∀ n, cnt isGone n (fun _ => (⟨a, 0, 0, false⟩ : HS)) = 0 := fun n => by
    induction n with
    | zero => rfl
    | succ n ih => rw [cnt, ih]; rfl
  refine ⟨hl, fun _ _ => rfl, by rw [h0, h]; rfl, by rw [h0, h']; rfl, fun k _ e => ?_, fun k _ e => ?_, fun k _ e => ?_, fun i j _ _ _ e => absurd rfl e, fun k _ => .inl rfl⟩ <;> cases e

/-- Nothing but the wish, or nothing at all, has turned; the words read as they did. -/
theorem TInv.same {n a : Nat} {H : Nat → HS} {m m' : MS} (h : TInv n a H m) {k : Nat} (hk : k < n) {h' : HS} (e1 : h'.at_ = (H k).at_) (e2 : h'.st = (H k).st) (e3 : h'.tk = (H k).tk) (hm : m'.L = m.L) : TInv n a (upd H k h') m' := by
  have key : ∀ j, (upd H k h' j).at_ = (H j).at_ ∧ (upd H k h' j).st = (H j).st ∧ (upd H k h' j).tk = (H j).tk := fun j => by
    by_cases e : j = k
    · subst e; rw [upd_same]; exact ⟨e1, e2, e3⟩
    · rw [upd_other _ _ e]; exact ⟨rfl, rfl, rfl⟩
  have c1 : cnt hasTk n (upd H k h') = cnt hasTk n H := by
    have := cnt_upd hasTk n k H h' hk
    have e : hasTk h' = hasTk (H k) := by unfold hasTk; rw [e2]
    rw [e] at this
    omega
  have c2 : cnt isGone n (upd H k h') = cnt isGone n H := by
    have := cnt_upd isGone n k H h' hk
    have e : isGone h' = isGone (H k) := by unfold isGone; rw [e2]
    rw [e] at this
    omega
  refine ⟨by rw [hm]; exact h.len, fun j hj => by rw [(key j).1]; exact h.pl j hj, by rw [hm, c1]; exact h.nxt, by rw [hm, c2]; exact h.srv, fun j hj => ?_, fun j hj => ?_, fun j hj => ?_, fun i j hi hj hij => ?_, fun j hj => ?_⟩
  · rw [(key j).2.1, (key j).2.2, c1, c2]; exact h.wait j hj
  · rw [(key j).2.1, (key j).2.2, c1, c2]; exact h.hold j hj
  · rw [(key j).2.1, (key j).2.2, c2]; exact h.gone j hj
  · rw [(key i).2.1, (key i).2.2, (key j).2.1, (key j).2.2]; exact h.dist i j hi hj hij
  · rw [(key j).2.1]; exact h.sts j hj

theorem upd_self (H : Nat → HS) (k : Nat) : upd H k (H k) = H := by
  funext j
  by_cases e : j = k
  · subst e; rw [upd_same]
  · rw [upd_other _ _ e]

/-- How a step comes out, in each of the states. -/
theorem step_asks (a : Nat) (tk : Int) (wish : Bool) (m : MS) (hl : a + 1 < m.L.length) :
    HS.step ⟨a, 0, tk, wish⟩ m = (⟨a, 1, nth m.L a, wish⟩, ⟨m.L.set a (IntKind.u64.wrap (nth m.L a + 1)), wrap64 (m.c + 1), wrap64 (m.l + 1)⟩) := by
  have h : m.has (a : Int) = true := MS.has_of (by omega) (by omega)
  simp [HS.step, HS.next, MS.act, MS.add, h]

theorem step_waits (a : Nat) (tk : Int) (wish : Bool) (m : MS) (hl : a + 1 < m.L.length) :
    HS.step ⟨a, 1, tk, wish⟩ m = (if nth m.L (a + 1) = tk then ⟨a, 2, tk, wish⟩ else ⟨a, 1, tk, wish⟩, ⟨m.L, wrap64 (m.c + 1), m.l⟩) := by
  have h : m.has ((a : Int) + 1) = true := MS.has_of (by omega) (by omega)
  have e : ((a : Int) + 1).toNat = a + 1 := by omega
  by_cases hv : nth m.L (a + 1) = tk
  · simp [HS.step, HS.next, MS.act, MS.load, h, e, hv]
  · simp [HS.step, HS.next, MS.act, MS.load, h, e, hv]

theorem step_holds (a : Nat) (tk : Int) (m : MS) (hl : a + 1 < m.L.length) :
    HS.step ⟨a, 2, tk, true⟩ m = (⟨a, 3, tk, true⟩, ⟨m.L.set (a + 1) (IntKind.u64.wrap (tk + 1)), wrap64 (m.c + 1), wrap64 (m.l + 1)⟩) := by
  have h : m.has ((a : Int) + 1) = true := MS.has_of (by omega) (by omega)
  have e : ((a : Int) + 1).toNat = a + 1 := by omega
  simp [HS.step, HS.next, MS.act, MS.store, h, e]

theorem step_rests (h : HS) (m : MS) (h0 : h.st ≠ 0) (h1 : h.st ≠ 1) (h2 : ¬ (h.st = 2 ∧ h.wish = true)) : HS.step h m = (h, m) := by
  simp [HS.step, HS.next, h0, h1, h2]

theorem wrapu_small (x : Nat) (hx : x ≤ 100000) : IntKind.u64.wrap ((x : Int) + 1) = ((x + 1 : Nat) : Int) := by
  simp [IntKind.wrap, IntKind.signed, IntKind.bits]; omega

theorem cnt_mono (p q : HS → Bool) (h : ∀ x, p x = true → q x = true) (n : Nat) (H : Nat → HS) : cnt p n H ≤ cnt q n H := by
  induction n with
  | zero => exact Nat.le_refl _
  | succ n ih =>
    rw [cnt, cnt]
    by_cases e : p (H n) = true
    · rw [if_pos e, if_pos (h _ e)]; omega
    · rw [if_neg e]; omega

theorem gone_has (n : Nat) (H : Nat → HS) : cnt isGone n H ≤ cnt hasTk n H :=
  cnt_mono _ _ (fun x hx => by
    have : x.st = 3 := by simpa [isGone] using hx
    simp [hasTk, this]) n H

/-- Whoever has a ticket has one below the next. -/
theorem TInv.below {n a : Nat} {H : Nat → HS} {m : MS} (h : TInv n a H m) {j : Nat} (hj : j < n) (h0 : (H j).st ≠ 0) : (H j).tk < cnt hasTk n H := by
  have hg := gone_has n H
  rcases h.sts j hj with e | e | e | e
  · exact absurd e h0
  · exact (h.wait j hj e).2
  · exact (h.hold j hj e).2
  · have := (h.gone j hj e).2
    omega

theorem TInv.step {n a : Nat} {H : Nat → HS} {m : MS} (hn : n ≤ 1000) (h : TInv n a H m) {k : Nat} (hk : k < n) : TInv n a (upd H k ((H k).step m).1) ((H k).step m).2 := by
  have hl := h.len
  have hp := h.pl k hk
  have hg := gone_has n H
  have hle := cnt_le hasTk n H
  have hle2 := cnt_le isGone n H
  have he : H k = ⟨(a : Int), (H k).st, (H k).tk, (H k).wish⟩ := by rw [← hp]
  rcases h.sts k hk with e | e | e | e
  · have hs := (congrArg (HS.step · m) (he.trans (by rw [e]))).trans (step_asks a (H k).tk (H k).wish m hl)
    rw [hs, h.nxt]
    have c1 := cnt_upd hasTk n k H ⟨a, 1, (cnt hasTk n H : Int), (H k).wish⟩ hk
    have c2 := cnt_upd isGone n k H ⟨a, 1, (cnt hasTk n H : Int), (H k).wish⟩ hk
    have b1 : hasTk (H k) = false := by simp [hasTk, e]
    have b2 : isGone (H k) = false := by simp [isGone, e]
    rw [b1] at c1
    rw [b2] at c2
    have d1 : cnt hasTk n (upd H k ⟨a, 1, (cnt hasTk n H : Int), (H k).wish⟩) = cnt hasTk n H + 1 := by simpa [hasTk] using c1
    have d2 : cnt isGone n (upd H k ⟨a, 1, (cnt hasTk n H : Int), (H k).wish⟩) = cnt isGone n H := by simpa [isGone] using c2
    refine ⟨by simpa using hl, fun j hj => ?_, ?_, ?_, fun j hj hst => ?_, fun j hj hst => ?_, fun j hj hst => ?_, fun i j hi hj hij hsi hsj => ?_, fun j hj => ?_⟩
    · by_cases ej : j = k
      · subst ej; rw [upd_same]
      · rw [upd_other _ _ ej]; exact h.pl j hj
    · rw [d1, nth_set _ _ _ _ (by omega), if_pos rfl, wrapu_small _ (by omega)]
    · rw [d2, nth_set _ _ _ _ (by omega), if_neg (by omega)]; exact h.srv
    · rw [d1, d2]
      by_cases ej : j = k
      · subst ej; rw [upd_same]; dsimp only; omega
      · rw [upd_other _ _ ej] at hst ⊢
        have := h.wait j hj hst
        omega
    · rw [d1, d2]
      by_cases ej : j = k
      · subst ej; rw [upd_same] at hst; cases hst
      · rw [upd_other _ _ ej] at hst ⊢
        have := h.hold j hj hst
        omega
    · rw [d2]
      by_cases ej : j = k
      · subst ej; rw [upd_same] at hst; cases hst
      · rw [upd_other _ _ ej] at hst ⊢
        exact h.gone j hj hst
    · by_cases ei : i = k <;> by_cases ej : j = k
      · omega
      · subst ei
        rw [upd_same, upd_other _ _ ej]
        rw [upd_other _ _ ej] at hsj
        have := h.below hj hsj
        dsimp only; omega
      · subst ej
        rw [upd_same, upd_other _ _ ei]
        rw [upd_other _ _ ei] at hsi
        have := h.below hi hsi
        dsimp only; omega
      · rw [upd_other _ _ ei, upd_other _ _ ej]
        rw [upd_other _ _ ei] at hsi
        rw [upd_other _ _ ej] at hsj
        exact h.dist i j hi hj hij hsi hsj
    · by_cases ej : j = k
      · subst ej; rw [upd_same]; exact .inr (.inl rfl)
      · rw [upd_other _ _ ej]; exact h.sts j hj
  · have hs := (congrArg (HS.step · m) (he.trans (by rw [e]))).trans (step_waits a (H k).tk (H k).wish m hl)
    rw [hs]
    by_cases hv : nth m.L (a + 1) = (H k).tk
    · rw [if_pos hv]
      dsimp only
      have c1 := cnt_upd hasTk n k H ⟨a, 2, (H k).tk, (H k).wish⟩ hk
      have c2 := cnt_upd isGone n k H ⟨a, 2, (H k).tk, (H k).wish⟩ hk
      have b1 : hasTk (H k) = true := by simp [hasTk, e]
      have b2 : isGone (H k) = false := by simp [isGone, e]
      rw [b1] at c1
      rw [b2] at c2
      have d1 : cnt hasTk n (upd H k ⟨a, 2, (H k).tk, (H k).wish⟩) = cnt hasTk n H := by simpa [hasTk] using c1
      have d2 : cnt isGone n (upd H k ⟨a, 2, (H k).tk, (H k).wish⟩) = cnt isGone n H := by simpa [isGone] using c2
      have hw := h.wait k hk e
      have hsv := h.srv
      refine ⟨hl, fun j hj => ?_, by rw [d1]; exact h.nxt, by rw [d2]; exact h.srv, fun j hj hst => ?_, fun j hj hst => ?_, fun j hj hst => ?_, fun i j hi hj hij hsi hsj => ?_, fun j hj => ?_⟩
      · by_cases ej : j = k
        · subst ej; rw [upd_same]
        · rw [upd_other _ _ ej]; exact h.pl j hj
      · rw [d1, d2]
        by_cases ej : j = k
        · subst ej; rw [upd_same] at hst; cases hst
        · rw [upd_other _ _ ej] at hst ⊢; exact h.wait j hj hst
      · rw [d1, d2]
        by_cases ej : j = k
        · subst ej; rw [upd_same]; dsimp only; omega
        · rw [upd_other _ _ ej] at hst ⊢; exact h.hold j hj hst
      · rw [d2]
        by_cases ej : j = k
        · subst ej; rw [upd_same] at hst; cases hst
        · rw [upd_other _ _ ej] at hst ⊢; exact h.gone j hj hst
      · have t : ∀ x, (upd H k ⟨a, 2, (H k).tk, (H k).wish⟩ x).tk = (H x).tk := fun x => by
          by_cases ex : x = k
          · subst ex; rw [upd_same]
          · rw [upd_other _ _ ex]
        have u : ∀ x, (upd H k ⟨a, 2, (H k).tk, (H k).wish⟩ x).st ≠ 0 → (H x).st ≠ 0 := fun x hx => by
          by_cases ex : x = k
          · subst ex; rw [e]; decide
          · rwa [upd_other _ _ ex] at hx
        rw [t, t]
        exact h.dist i j hi hj hij (u i hsi) (u j hsj)
      · by_cases ej : j = k
        · subst ej; rw [upd_same]; exact .inr (.inr (.inl rfl))
        · rw [upd_other _ _ ej]; exact h.sts j hj
    · rw [if_neg hv]
      exact h.same hk hp.symm e.symm rfl rfl
  · by_cases hw : (H k).wish = true
    · have hs := (congrArg (HS.step · m) (he.trans (by rw [e, hw]))).trans (step_holds a (H k).tk m hl)
      rw [hs]
      dsimp only
      have c1 := cnt_upd hasTk n k H ⟨a, 3, (H k).tk, true⟩ hk
      have c2 := cnt_upd isGone n k H ⟨a, 3, (H k).tk, true⟩ hk
      have b1 : hasTk (H k) = true := by simp [hasTk, e]
      have b2 : isGone (H k) = false := by simp [isGone, e]
      rw [b1] at c1
      rw [b2] at c2
      have d1 : cnt hasTk n (upd H k ⟨a, 3, (H k).tk, true⟩) = cnt hasTk n H := by simpa [hasTk] using c1
      have d2 : cnt isGone n (upd H k ⟨a, 3, (H k).tk, true⟩) = cnt isGone n H + 1 := by simpa [isGone] using c2
      have hh := h.hold k hk e
      have kn : (H k).st ≠ 0 := by rw [e]; decide
      refine ⟨by simpa using hl, fun j hj => ?_, ?_, ?_, fun j hj hst => ?_, fun j hj hst => ?_, fun j hj hst => ?_, fun i j hi hj hij hsi hsj => ?_, fun j hj => ?_⟩
      · by_cases ej : j = k
        · subst ej; rw [upd_same]
        · rw [upd_other _ _ ej]; exact h.pl j hj
      · rw [d1, nth_set _ _ _ _ (by omega), if_neg (by omega)]; exact h.nxt
      · rw [d2, nth_set _ _ _ _ (by omega), if_pos rfl, hh.1, wrapu_small _ (by omega)]
      · rw [d1, d2]
        by_cases ej : j = k
        · subst ej; rw [upd_same] at hst; cases hst
        · rw [upd_other _ _ ej] at hst ⊢
          have := h.wait j hj hst
          have := h.dist j k hj hk ej (by rw [hst]; decide) kn
          omega
      · by_cases ej : j = k
        · subst ej; rw [upd_same] at hst; cases hst
        · rw [upd_other _ _ ej] at hst
          have := h.hold j hj hst
          have := h.dist j k hj hk ej (by rw [hst]; decide) kn
          omega
      · rw [d2]
        by_cases ej : j = k
        · subst ej; rw [upd_same]; dsimp only; omega
        · rw [upd_other _ _ ej] at hst ⊢
          have := h.gone j hj hst
          omega
      · have t : ∀ x, (upd H k ⟨a, 3, (H k).tk, true⟩ x).tk = (H x).tk := fun x => by
          by_cases ex : x = k
          · subst ex; rw [upd_same]
          · rw [upd_other _ _ ex]
        have u : ∀ x, (upd H k ⟨a, 3, (H k).tk, true⟩ x).st ≠ 0 → (H x).st ≠ 0 := fun x hx => by
          by_cases ex : x = k
          · subst ex; exact kn
          · rwa [upd_other _ _ ex] at hx
        rw [t, t]
        exact h.dist i j hi hj hij (u i hsi) (u j hsj)
      · by_cases ej : j = k
        · subst ej; rw [upd_same]; exact .inr (.inr (.inr rfl))
        · rw [upd_other _ _ ej]; exact h.sts j hj
    · rw [step_rests _ _ (by rw [e]; decide) (by rw [e]; decide) (fun hh => hw hh.2)]
      rw [upd_self]
      exact h
  · rw [step_rests _ _ (by rw [e]; decide) (by rw [e]; decide) (fun hh => by rw [e] at hh; exact absurd hh.1 (by decide))]
    rw [upd_self]
    exact h

theorem TInv.leave {n a : Nat} {H : Nat → HS} {m : MS} (h : TInv n a H m) {k : Nat} (hk : k < n) : TInv n a (upd H k (H k).leave.1) m := by
  unfold HS.leave
  split
  · exact h.same hk rfl rfl rfl rfl
  · rw [upd_self]; exact h

/-- Never do two hold at once. -/
theorem TInv.one {n a : Nat} {H : Nat → HS} {m : MS} (h : TInv n a H m) {i j : Nat} (hi : i < n) (hj : j < n) (ei : (H i).st = 2) (ej : (H j).st = 2) : i = j := by
  by_cases e : i = j
  · exact e
  · have h1 := (h.hold i hi ei).1
    have h2 := (h.hold j hj ej).1
    exact absurd (h1.trans h2.symm) (h.dist i j hi hj e (by rw [ei]; decide) (by rw [ej]; decide))

theorem TInv.load {n a : Nat} {H : Nat → HS} {m m' : MS} (h : TInv n a H m) (hm : m'.L = m.L) : TInv n a H m' :=
  ⟨by rw [hm]; exact h.len, h.pl, by rw [hm]; exact h.nxt, by rw [hm]; exact h.srv, h.wait, h.hold, h.gone, h.dist, h.sts⟩

end Go.Proofs.Ytabbnfodolekpaa
