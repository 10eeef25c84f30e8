/- Those who push and pop on one ring, in any order of steps: the plain law of RingOnce. -/
import Derived.Test.YtoecoijmkjhkgaaRing9
namespace Go.Proofs.Ytoecoijmkjhkgaa
open Go.RowKit

/-- A function that answers anew at one place. -/
def ext {α : Type} (B : Nat → α) (n : Nat) (b : α) : Nat → α := fun j => if j = n then b else B j
theorem ext_same {α : Type} (B : Nat → α) (n : Nat) (b : α) : ext B n b n = b := by unfold ext; rw [if_pos rfl]
theorem ext_far {α : Type} (B : Nat → α) (n j : Nat) (b : α) (h : j ≠ n) : ext B n b j = B j := by unfold ext; rw [if_neg h]

theorem mod_next {n p q : Nat} (h : 2 ≤ n) (e : p % n = q % n) : p ≠ q + 1 := fun h1 => by
  have := mod_inj e (by omega) (by omega)
  omega
theorem mod_back {n p q : Nat} (h : 2 ≤ n) (e : p % n = q % n) : q ≠ p + 1 := mod_next h e.symm

/-- A position's turn, and its value. -/
def tu (n : Nat) (L : List Int) (p : Nat) : Int := nth L (sl 2 n p)
def va (n : Nat) (L : List Int) (p : Nat) : Int := nth L (sl 2 n p + 1)

section
variable {n : Nat} {L : List Int} {x : Int}
theorem tu_mod {p q : Nat} (h : p % n = q % n) : tu n L p = tu n L q := by unfold tu sl; rw [h]
theorem tu_ct (hn : 2 ≤ n) (hl : 4 + 2 * n ≤ L.length) (k : Nat) (hk : k = 2 ∨ k = 3) : tu n (L.set k x) = tu n L := funext fun p => by
  have := sl_lt 2 n p (by omega)
  unfold tu
  rw [nth_set _ _ _ _ (by omega), if_neg (by omega)]
theorem va_ct (hn : 2 ≤ n) (hl : 4 + 2 * n ≤ L.length) (k : Nat) (hk : k = 2 ∨ k = 3) : va n (L.set k x) = va n L := funext fun p => by
  have := sl_lt 2 n p (by omega)
  unfold va
  rw [nth_set _ _ _ _ (by omega), if_neg (by omega)]
theorem tu_val (hn : 2 ≤ n) (hl : 4 + 2 * n ≤ L.length) (q : Nat) : tu n (L.set (sl 2 n q + 1) x) = tu n L := funext fun p => by
  have := sl_lt 2 n q (by omega)
  unfold tu
  rw [nth_set _ _ _ _ (by omega), if_neg (by unfold sl; omega)]
theorem va_turn (hn : 2 ≤ n) (hl : 4 + 2 * n ≤ L.length) (q : Nat) : va n (L.set (sl 2 n q) x) = va n L := funext fun p => by
  have := sl_lt 2 n q (by omega)
  unfold va
  rw [nth_set _ _ _ _ (by omega), if_neg (by unfold sl; omega)]
theorem va_val (hn : 2 ≤ n) (hl : 4 + 2 * n ≤ L.length) (q p : Nat) : va n (L.set (sl 2 n q + 1) x) p = if q % n = p % n then x else va n L p := by
  have := sl_lt 2 n q (by omega)
  unfold va
  rw [nth_set _ _ _ _ (by omega)]
  by_cases h : q % n = p % n
  · rw [if_pos h, if_pos (by unfold sl; omega)]
  · rw [if_neg h, if_neg (by unfold sl; omega)]
theorem tu_turn (hn : 2 ≤ n) (hl : 4 + 2 * n ≤ L.length) (q p : Nat) : tu n (L.set (sl 2 n q) x) p = if q % n = p % n then x else tu n L p := by
  have := sl_lt 2 n q (by omega)
  unfold tu
  rw [nth_set _ _ _ _ (by omega)]
  by_cases h : q % n = p % n
  · rw [if_pos h, if_pos (by unfold sl; omega)]
  · rw [if_neg h, if_neg (by unfold sl; omega)]
theorem ct_slot (hn : 2 ≤ n) (hl : 4 + 2 * n ≤ L.length) (q d k : Nat) (hd : d ≤ 1) (hk : k ≤ 3) : nth (L.set (sl 2 n q + d) x) k = nth L k := by
  have := sl_lt 2 n q (by omega)
  rw [nth_set _ _ _ _ (by omega), if_neg (by omega)]
end

/-- The positions that were given: I to those who push, O to those who pop; pu, po: to whom. -/
structure OB (N n : Nat) (T V : Nat → Int) (I : Nat) (pu : Nat → Nat) (O : Nat) : Prop where
  n2 : 2 ≤ n
  tm : ∀ p q, p % n = q % n → T p = T q
  ord : O ≤ I
  room : I ≤ O + n
  inj : ∀ p q, p < I → q < I → pu p = pu q → p = q
  pN : ∀ p, p < I → pu p < N
  full : ∀ p, O ≤ p → p < I → T p = p ∨ (T p = (p : Int) + 1 ∧ V p = 100 + (pu p : Int))
  free : ∀ p, I ≤ p → p < O + n → T p = p ∨ T p + n = (p : Int) + 1

inductive OPush (n : Nat) (T V : Nat → Int) (I : Nat) (pu : Nat → Nat) (i : Nat) : RQ → Prop
  | s0 (p : Nat) (h : ∀ q, q < I → pu q ≠ i) : OPush n T V I pu i ⟨(2 : Nat), n, 0, p, false, 100 + (i : Int)⟩
  | s1 (p : Nat) (h : ∀ q, q < I → pu q ≠ i) (hp : p ≤ I) : OPush n T V I pu i ⟨(2 : Nat), n, 1, p, false, 100 + (i : Int)⟩
  | s2 (p : Nat) (h : ∀ q, q < I → pu q ≠ i) (hp : p ≤ I) (ht : p = I → T p = p) : OPush n T V I pu i ⟨(2 : Nat), n, 2, p, false, 100 + (i : Int)⟩
  | s3 (p : Nat) (hp : p < I) (e : pu p = i) (ht : T p = p) : OPush n T V I pu i ⟨(2 : Nat), n, 3, p, false, 100 + (i : Int)⟩
  | s4 (p : Nat) (hp : p < I) (e : pu p = i) (ht : T p = p) (hv : V p = 100 + (i : Int)) : OPush n T V I pu i ⟨(2 : Nat), n, 4, p, false, 100 + (i : Int)⟩
  | no (p : Nat) (h : ∀ q, q < I → pu q ≠ i) : OPush n T V I pu i ⟨(2 : Nat), n, 5, p, false, 100 + (i : Int)⟩
  | yes (p : Nat) (hp : p < I) (e : pu p = i) : OPush n T V I pu i ⟨(2 : Nat), n, 5, p, true, 100 + (i : Int)⟩

inductive OPop (n : Nat) (T V : Nat → Int) (I : Nat) (pu : Nat → Nat) (O : Nat) (po : Nat → Nat) (j : Nat) : RQ → Prop
  | s0 (p : Nat) (v : Int) : OPop n T V I pu O po j ⟨(2 : Nat), n, 0, p, false, v⟩
  | s1 (p : Nat) (v : Int) (hp : p ≤ O) : OPop n T V I pu O po j ⟨(2 : Nat), n, 1, p, false, v⟩
  | s2 (p : Nat) (v : Int) (hp : p ≤ O) (ht : p = O → T p = (p : Int) + 1) : OPop n T V I pu O po j ⟨(2 : Nat), n, 2, p, false, v⟩
  | s3 (p : Nat) (v : Int) (hp : p < O) (e : po p = j) (hi : p < I) (ht : T p = (p : Int) + 1) (hv : V p = 100 + (pu p : Int)) : OPop n T V I pu O po j ⟨(2 : Nat), n, 3, p, false, v⟩
  | s4 (p : Nat) (hp : p < O) (e : po p = j) (hi : p < I) (ht : T p = (p : Int) + 1) : OPop n T V I pu O po j ⟨(2 : Nat), n, 4, p, false, 100 + (pu p : Int)⟩
  | no (p : Nat) (v : Int) : OPop n T V I pu O po j ⟨(2 : Nat), n, 5, p, false, v⟩
  | yes (p : Nat) (hp : p < O) (e : po p = j) (hi : p < I) : OPop n T V I pu O po j ⟨(2 : Nat), n, 5, p, true, 100 + (pu p : Int)⟩

section
variable {N n : Nat} {T V T' V' : Nat → Int} {I O : Nat} {pu po : Nat → Nat} {s : RQ}

/- One who pushes takes a position. -/
theorem OB.claim (h : OB N n T V I pu O) {i : Nat} (hi : i < N) (hn : ∀ q, q < I → pu q ≠ i) (ht : T I = I) : OB N n T V (I + 1) (ext pu I i) O := by
  have h2 := h.n2
  have h3 := h.ord
  have hr : I < O + n := by
    have h4 := h.room
    rcases Nat.lt_or_ge I (O + n) with h5 | h5
    · exact h5
    · have e1 : I = O + n := by omega
      have e2 := h.tm I O (by rw [e1, Nat.add_mod_right])
      rcases h.full O (by omega) (by omega) with h6 | ⟨h6, _⟩ <;> omega
  refine ⟨h2, h.tm, by omega, by omega, fun p q hp hq e => ?_, fun p hp => ?_, fun p h4 h5 => ?_, fun p h4 h5 => h.free p (by omega) h5⟩
  · by_cases e1 : p = I <;> by_cases e2 : q = I
    · omega
    · rw [e1, ext_same, ext_far _ _ _ _ e2] at e
      exact absurd e.symm (hn q (by omega))
    · rw [e2, ext_same, ext_far _ _ _ _ e1] at e
      exact absurd e (hn p (by omega))
    · rw [ext_far _ _ _ _ e1, ext_far _ _ _ _ e2] at e
      exact h.inj p q (by omega) (by omega) e
  · by_cases e1 : p = I
    · rw [e1, ext_same]; exact hi
    · rw [ext_far _ _ _ _ e1]; exact h.pN p (by omega)
  · by_cases e1 : p = I
    · rw [e1]; exact .inl ht
    · rw [ext_far _ _ _ _ e1]; exact h.full p h4 (by omega)
theorem OPush.claim {i k : Nat} (hk : k ≠ i) (h : OPush n T V I pu k s) : OPush n T V (I + 1) (ext pu I i) k s := by
  have ne : (∀ q, q < I → pu q ≠ k) → ∀ q, q < I + 1 → ext pu I i q ≠ k := fun h q hq => by
    by_cases e1 : q = I
    · rw [e1, ext_same]; exact fun e => hk e.symm
    · rw [ext_far _ _ _ _ e1]; exact h q (by omega)
  have keep : ∀ p, p < I → ext pu I i p = pu p := fun p hp => ext_far _ _ _ _ (by omega)
  cases h with
  | s0 p h => exact .s0 p (ne h)
  | s1 p h hp => exact .s1 p (ne h) (by omega)
  | s2 p h hp ht => exact .s2 p (ne h) (by omega) (fun e => by omega)
  | s3 p hp e ht => exact .s3 p (by omega) (by rw [keep p hp]; exact e) ht
  | s4 p hp e ht hv => exact .s4 p (by omega) (by rw [keep p hp]; exact e) ht hv
  | no p h => exact .no p (ne h)
  | yes p hp e => exact .yes p (by omega) (by rw [keep p hp]; exact e)
theorem OPop.claim {i k : Nat} (h : OPop n T V I pu O po k s) : OPop n T V (I + 1) (ext pu I i) O po k s := by
  have keep : ∀ p, p < I → ext pu I i p = pu p := fun p hp => ext_far _ _ _ _ (by omega)
  cases h with
  | s0 p v => exact .s0 p v
  | s1 p v hp => exact .s1 p v hp
  | s2 p v hp ht => exact .s2 p v hp ht
  | s3 p v hp e hi ht hv => exact .s3 p v hp e (by omega) ht (by rw [keep p hi]; exact hv)
  | s4 p hp e hi ht => rw [← keep p hi]; exact .s4 p hp e (by omega) ht
  | no p v => exact .no p v
  | yes p hp e hi => rw [← keep p hi]; exact .yes p hp e (by omega)

/- One who pushes lays its value. -/
theorem OB.put (h : OB N n T V I pu O) {p : Nat} {x : Int} (ht : T p = p) (hV : ∀ q, V' q = if p % n = q % n then x else V q) : OB N n T V' I pu O := by
  have h2 := h.n2
  refine ⟨h2, h.tm, h.ord, h.room, h.inj, h.pN, fun q h4 h5 => ?_, h.free⟩
  rcases h.full q h4 h5 with h6 | ⟨h6, h7⟩
  · exact .inl h6
  · refine .inr ⟨h6, ?_⟩
    by_cases e : p % n = q % n
    · have := h.tm p q e
      have := mod_next h2 e
      omega
    · rw [hV, if_neg e]; exact h7
theorem OPush.put (b : OB N n T V I pu O) {p i k : Nat} {x : Int} (hk : k ≠ i) (ht : T p = p) (hi : pu p = i) (hV : ∀ q, V' q = if p % n = q % n then x else V q) (h : OPush n T V I pu k s) : OPush n T V' I pu k s := by
  cases h with
  | s0 p h => exact .s0 p h
  | s1 p h hp => exact .s1 p h hp
  | s2 p h hp ht => exact .s2 p h hp ht
  | s3 p hp e ht => exact .s3 p hp e ht
  | s4 q hp e ht' hv =>
    refine .s4 q hp e ht' ?_
    by_cases e1 : p % n = q % n
    · have := b.tm p q e1
      have : p = q := by omega
      subst this
      exact absurd (e.symm.trans hi) hk
    · rw [hV, if_neg e1]; exact hv
  | no p h => exact .no p h
  | yes p hp e => exact .yes p hp e
theorem OPop.put (b : OB N n T V I pu O) {p k : Nat} {x : Int} (ht : T p = p) (hV : ∀ q, V' q = if p % n = q % n then x else V q) (h : OPop n T V I pu O po k s) : OPop n T V' I pu O po k s := by
  cases h with
  | s0 p v => exact .s0 p v
  | s1 p v hp => exact .s1 p v hp
  | s2 p v hp ht => exact .s2 p v hp ht
  | s3 q v hp e hi ht' hv =>
    refine .s3 q v hp e hi ht' ?_
    by_cases e1 : p % n = q % n
    · have := b.tm p q e1
      have := mod_next b.n2 e1
      omega
    · rw [hV, if_neg e1]; exact hv
  | s4 p hp e hi ht => exact .s4 p hp e hi ht
  | no p v => exact .no p v
  | yes p hp e hi => exact .yes p hp e hi

theorem turn_mod (h : ∀ p q, p % n = q % n → T p = T q) {p : Nat} {x : Int} (hT : ∀ q, T' q = if p % n = q % n then x else T q) : ∀ a b, a % n = b % n → T' a = T' b := fun a b e => by
  rw [hT, hT, e, h a b e]

/- One who pushes lays its turn. -/
theorem OB.gives (h : OB N n T V I pu O) {p : Nat} (hp : p < I) (ht : T p = p) (hv : V p = 100 + (pu p : Int)) (hT : ∀ q, T' q = if p % n = q % n then (p : Int) + 1 else T q) : OB N n T' V I pu O := by
  have h2 := h.n2
  refine ⟨h2, turn_mod h.tm hT, h.ord, h.room, h.inj, h.pN, fun q h4 h5 => ?_, fun q h4 h5 => ?_⟩
  · rw [hT]
    by_cases e : p % n = q % n
    · have h8 := h.tm p q e
      have := mod_next h2 e
      rw [if_pos e]
      rcases h.full q h4 h5 with h6 | ⟨h6, h7⟩
      · have : p = q := by omega
        subst this
        exact .inr ⟨rfl, hv⟩
      · omega
    · rw [if_neg e]; exact h.full q h4 h5
  · rw [hT]
    by_cases e : p % n = q % n
    · have h8 := h.tm p q e
      have h9 := mod_next (p := p + n) (q := q) h2 (by rw [Nat.add_mod_right]; exact e)
      rcases h.free q h4 h5 with h6 | h6 <;> omega
    · rw [if_neg e]; exact h.free q h4 h5
theorem OPush.gives (b : OB N n T V I pu O) {p i k : Nat} (hk : k ≠ i) (hpi : p < I) (ht : T p = p) (hi : pu p = i) (hT : ∀ q, T' q = if p % n = q % n then (p : Int) + 1 else T q) (h : OPush n T V I pu k s) : OPush n T' V I pu k s := by
  have key : ∀ q, T q = q → p % n = q % n → p = q := fun q h1 h2 => by have := b.tm p q h2; omega
  cases h with
  | s0 p h => exact .s0 p h
  | s1 p h hp => exact .s1 p h hp
  | s2 q h hp ht' =>
    refine .s2 q h hp fun e => ?_
    rw [hT]
    split
    · have := key q (ht' e) (by assumption); omega
    · exact ht' e
  | s3 q hp e ht' =>
    refine .s3 q hp e ?_
    rw [hT]
    split
    · have := key q ht' (by assumption); subst this; exact absurd (e.symm.trans hi) hk
    · exact ht'
  | s4 q hp e ht' hv =>
    refine .s4 q hp e ?_ hv
    rw [hT]
    split
    · have := key q ht' (by assumption); subst this; exact absurd (e.symm.trans hi) hk
    · exact ht'
  | no p h => exact .no p h
  | yes p hp e => exact .yes p hp e
theorem OPop.gives (b : OB N n T V I pu O) {p k : Nat} (ht : T p = p) (hT : ∀ q, T' q = if p % n = q % n then (p : Int) + 1 else T q) (h : OPop n T V I pu O po k s) : OPop n T' V I pu O po k s := by
  have key : ∀ q, T q = (q : Int) + 1 → T' q = (q : Int) + 1 := fun q h1 => by
    rw [hT]
    split
    · rename_i e; have h3 := b.tm p q e; have := mod_next b.n2 e; omega
    · exact h1
  cases h with
  | s0 p v => exact .s0 p v
  | s1 p v hp => exact .s1 p v hp
  | s2 q v hp ht => exact .s2 q v hp fun e => key q (ht e)
  | s3 q v hp e hi ht' hv => exact .s3 q v hp e hi (key q ht') hv
  | s4 q hp e hi ht => exact .s4 q hp e hi (key q ht)
  | no p v => exact .no p v
  | yes p hp e hi => exact .yes p hp e hi

/- One who pops takes a position. -/
theorem OB.take (h : OB N n T V I pu O) (ht : T O = (O : Int) + 1) : O < I ∧ V O = 100 + (pu O : Int) ∧ OB N n T V I pu (O + 1) := by
  have h2 := h.n2
  have h3 := h.ord
  have h4 := h.room
  have hlt : O < I := by
    rcases Nat.lt_or_ge O I with h5 | h5
    · exact h5
    · rcases h.free O h5 (by omega) with h6 | h6 <;> omega
  refine ⟨hlt, ?_, h2, h.tm, by omega, by omega, h.inj, h.pN, fun p h5 h6 => h.full p (by omega) h6, fun p h5 h6 => ?_⟩
  · rcases h.full O (by omega) hlt with h5 | h5
    · omega
    · exact h5.2
  · by_cases e : p = O + n
    · have := h.tm p O (by rw [e, Nat.add_mod_right])
      exact .inr (by omega)
    · exact h.free p h5 (by omega)
theorem OPop.take {j k : Nat} (h : OPop n T V I pu O po k s) : OPop n T V I pu (O + 1) (ext po O j) k s := by
  have keep : ∀ p, p < O → ext po O j p = po p := fun p hp => ext_far _ _ _ _ (by omega)
  cases h with
  | s0 p v => exact .s0 p v
  | s1 p v hp => exact .s1 p v (by omega)
  | s2 p v hp ht => exact .s2 p v (by omega) (fun e => by omega)
  | s3 p v hp e hi ht hv => exact .s3 p v (by omega) (by rw [keep p hp]; exact e) hi ht hv
  | s4 p hp e hi ht => exact .s4 p (by omega) (by rw [keep p hp]; exact e) hi ht
  | no p v => exact .no p v
  | yes p hp e hi => exact .yes p (by omega) (by rw [keep p hp]; exact e) hi

/- One who pops lays the turn. -/
theorem OB.frees (h : OB N n T V I pu O) {p : Nat} (hp : p < O) (ht : T p = (p : Int) + 1) (hT : ∀ q, T' q = if p % n = q % n then (p : Int) + n else T q) : OB N n T' V I pu O := by
  have h2 := h.n2
  refine ⟨h2, turn_mod h.tm hT, h.ord, h.room, h.inj, h.pN, fun q h4 h5 => ?_, fun q h4 h5 => ?_⟩
  · rw [hT]
    by_cases e : p % n = q % n
    · have h8 := h.tm p q e
      have := mod_back h2 e
      rcases h.full q h4 h5 with h6 | ⟨h6, h7⟩ <;> omega
    · rw [if_neg e]; exact h.full q h4 h5
  · rw [hT]
    by_cases e : p % n = q % n
    · have h8 := h.tm p q e
      have := mod_back h2 e
      rw [if_pos e]
      rcases h.free q h4 h5 with h6 | h6
      · omega
      · exact .inl (by omega)
    · rw [if_neg e]; exact h.free q h4 h5
theorem OPush.frees (b : OB N n T V I pu O) {p k : Nat} (ht : T p = (p : Int) + 1) (hT : ∀ q, T' q = if p % n = q % n then (p : Int) + n else T q) (h : OPush n T V I pu k s) : OPush n T' V I pu k s := by
  have key : ∀ q, T q = (q : Int) → T' q = (q : Int) := fun q h1 => by
    rw [hT]
    split
    · rename_i e; have h3 := b.tm p q e; have := mod_back b.n2 e; omega
    · exact h1
  cases h with
  | s0 p h => exact .s0 p h
  | s1 p h hp => exact .s1 p h hp
  | s2 q h hp ht' => exact .s2 q h hp fun e => key q (ht' e)
  | s3 q hp e ht' => exact .s3 q hp e (key q ht')
  | s4 q hp e ht' hv => exact .s4 q hp e (key q ht') hv
  | no p h => exact .no p h
  | yes p hp e => exact .yes p hp e
theorem OPop.frees (b : OB N n T V I pu O) {p j k : Nat} (hk : k ≠ j) (hp : p < O) (hj : po p = j) (ht : T p = (p : Int) + 1) (hT : ∀ q, T' q = if p % n = q % n then (p : Int) + n else T q) (h : OPop n T V I pu O po k s) : OPop n T' V I pu O po k s := by
  have key : ∀ q, T q = (q : Int) + 1 → p % n = q % n → p = q := fun q h1 h2 => by have := b.tm p q h2; omega
  cases h with
  | s0 p v => exact .s0 p v
  | s1 p v hp => exact .s1 p v hp
  | s2 q v hq ht' =>
    refine .s2 q v hq fun e => ?_
    rw [hT]
    split
    · have := key q (ht' e) (by assumption); omega
    · exact ht' e
  | s3 q v hq e hi ht' hv =>
    refine .s3 q v hq e hi ?_ hv
    rw [hT]
    split
    · have := key q ht' (by assumption); subst this; exact absurd (e.symm.trans hj) hk
    · exact ht'
  | s4 q hq e hi ht' =>
    refine .s4 q hq e hi ?_
    rw [hT]
    split
    · have := key q ht' (by assumption); subst this; exact absurd (e.symm.trans hj) hk
    · exact ht'
  | no p v => exact .no p v
  | yes p hp e hi => exact .yes p hp e hi
end

/-- All of them, and the words; t steps were done. -/
structure OSt (N M n : Nat) (P G : Nat → RQ) (L : List Int) (I O : Nat) (pu po : Nat → Nat) (t : Nat) : Prop where
  len : 4 + 2 * n ≤ L.length
  inn : nth L 2 = (I : Nat)
  out : nth L 3 = (O : Nat)
  small : I ≤ t
  ob : OB N n (tu n L) (va n L) I pu O
  ps : ∀ i, i < N → OPush n (tu n L) (va n L) I pu i (P i)
  gs : ∀ j, j < M → OPop n (tu n L) (va n L) I pu O po j (G j)

theorem looked_two {t a : Int} (h0 : 0 ≤ t) (h1 : t < 9223372036854775808) (h2 : 0 ≤ a) (h3 : a < 9223372036854775808) : t = a ∧ lookedTo t a = 2 ∨ t ≠ a ∧ (lookedTo t a = 0 ∨ lookedTo t a = 5) := by
  by_cases e : t = a
  · exact .inl ⟨e, by rw [e]; exact looked_eq a⟩
  · refine .inr ⟨e, ?_⟩
    rcases Int.lt_or_gt_of_ne e with h | h
    · exact .inr (looked_less t a h0 h h3)
    · exact .inl (looked_more t a h2 h h1)

section
variable {N M n : Nat} {P G : Nat → RQ} {L : List Int} {I O : Nat} {pu po : Nat → Nat} {t : Nat}

theorem OSt.same (h : OSt N M n P G L I O pu po t) {i : Nat} {s : RQ} (hs : OPush n (tu n L) (va n L) I pu i s) : OSt N M n (ext P i s) G L I O pu po (t + 1) :=
  ⟨h.len, h.inn, h.out, Nat.le_succ_of_le h.small, h.ob, fun k hk => by
    by_cases e : k = i
    · rw [e, ext_same]; exact hs
    · rw [ext_far _ _ _ _ e]; exact h.ps k hk, h.gs⟩
theorem OSt.same2 (h : OSt N M n P G L I O pu po t) {j : Nat} {s : RQ} (hs : OPop n (tu n L) (va n L) I pu O po j s) : OSt N M n P (ext G j s) L I O pu po (t + 1) :=
  ⟨h.len, h.inn, h.out, Nat.le_succ_of_le h.small, h.ob, h.ps, fun k hk => by
    by_cases e : k = j
    · rw [e, ext_same]; exact hs
    · rw [ext_far _ _ _ _ e]; exact h.gs k hk⟩

/-- One who pushes steps. -/
theorem once_push (h : OSt N M n P G L I O pu po t) (ht : t ≤ 1000) (hn : n ≤ 64) {i : Nat} (hi : i < N) (m : MS) (hm : m.L = L) (hr : m.rng) :
    ∃ I' pu', OSt N M n (ext P i ((P i).go false m).1) G ((P i).go false m).2.L I' O pu' po (t + 1) := by
  have hl := h.len
  have h2 := h.ob.n2
  have hI := h.small
  subst hm
  have hp := h.ps i hi
  generalize P i = s at hp ⊢
  have hp0 := hp
  cases hp with
  | s0 p hne =>
    obtain ⟨m', g, e⟩ := go_look false 2 n p (100 + (i : Int)) false m (I : Nat) (by omega) h.inn
    rw [g]; dsimp only; rw [e]
    exact ⟨_, _, h.same (.s1 I hne (Nat.le_refl _))⟩
  | s1 p hne hpi =>
    have hrr := hr (sl 2 n p)
    have hT : nth m.L (sl 2 n p) = tu n m.L p := rfl
    obtain ⟨m', g, e⟩ := go_turn false 2 n p (100 + (i : Int)) false m _ (by omega) (by omega) hT
    rw [g]; dsimp only; rw [e]
    refine ⟨_, _, h.same ?_⟩
    rw [show RQ.awaited false ⟨(2 : Nat), n, 1, (p : Int), false, 100 + (i : Int)⟩ = (p : Int) from rfl]
    by_cases e1 : tu n m.L p = p
    · rw [e1, looked_eq]
      exact .s2 p hne hpi fun _ => e1
    · have h0 : lookedTo (tu n m.L p) p = 0 ∨ lookedTo (tu n m.L p) p = 5 ∨ lookedTo (tu n m.L p) p = 2 := by
        unfold lookedTo
        split
        · exact .inr (.inr rfl)
        · split
          · exact .inr (.inl rfl)
          · exact .inl rfl
      rcases h0 with h0 | h0 | h0
      · rw [h0]; exact .s0 p hne
      · rw [h0]; exact .no p hne
      · exfalso
        unfold lookedTo at h0
        rw [IntKind.wrap_u64] at h0
        rw [← hT] at h0 e1
        split at h0
        · rename_i hw
          unfold wrap64 at hw
          omega
        · split at h0 <;> omega
  | s2 p hne hpi htp =>
    by_cases e1 : p = I
    · subst e1
      have hT := htp rfl
      obtain ⟨m', g, e⟩ := go_won false 2 n p (100 + (i : Int)) false m (by omega) (by omega) h.inn
      rw [g]; dsimp only; rw [e, show ct false 2 = 2 from rfl]
      refine ⟨p + 1, ext pu p i, by rw [List.length_set]; exact hl, by rw [nth_set _ _ _ _ (by omega), if_pos rfl]; omega, by rw [nth_set _ _ _ _ (by omega), if_neg (by omega)]; exact h.out, by omega, ?_, fun k hk => ?_, fun k hk => ?_⟩
      · rw [tu_ct h2 hl 2 (.inl rfl), va_ct h2 hl 2 (.inl rfl)]
        exact h.ob.claim hi hne hT
      · rw [tu_ct h2 hl 2 (.inl rfl), va_ct h2 hl 2 (.inl rfl)]
        by_cases e2 : k = i
        · rw [e2, ext_same]; exact .s3 p (by omega) (ext_same _ _ _) hT
        · rw [ext_far _ _ _ _ e2]; exact (h.ps k hk).claim e2
      · rw [tu_ct h2 hl 2 (.inl rfl), va_ct h2 hl 2 (.inl rfl)]
        exact (h.gs k hk).claim
    · obtain ⟨m', g, e⟩ := go_lost false 2 n p (100 + (i : Int)) false m (by omega) (by omega) (by rw [show ct false 2 = 2 from rfl, h.inn]; omega)
      rw [g]; dsimp only; rw [e]
      exact ⟨_, _, h.same (.s0 p hne)⟩
  | s3 p hpi hpu hT =>
    obtain ⟨m', g, e⟩ := go_put 2 n p (100 + (i : Int)) false m (by omega) (by omega)
    rw [g]; dsimp only; rw [e]
    have hV := fun q => va_val (x := 100 + (i : Int)) h2 hl p q
    refine ⟨I, pu, by rw [List.length_set]; exact hl, by rw [ct_slot h2 hl p 1 2 (by omega) (by omega)]; exact h.inn, by rw [ct_slot h2 hl p 1 3 (by omega) (by omega)]; exact h.out, by omega, ?_, fun k hk => ?_, fun k hk => ?_⟩
    · rw [tu_val h2 hl p]
      exact h.ob.put hT hV
    · rw [tu_val h2 hl p]
      by_cases e2 : k = i
      · rw [e2, ext_same]; exact .s4 p hpi hpu hT (by rw [hV, if_pos rfl])
      · rw [ext_far _ _ _ _ e2]; exact (h.ps k hk).put h.ob e2 hT hpu hV
    · rw [tu_val h2 hl p]
      exact (h.gs k hk).put h.ob hT hV
  | s4 p hpi hpu hT hv =>
    obtain ⟨m', g, e⟩ := go_free false 2 n p (100 + (i : Int)) false m (by omega) (by omega) (by omega)
    rw [g]; dsimp only; rw [e, show ld false n p = (p : Int) + 1 from rfl]
    have hT' := fun q => tu_turn (x := (p : Int) + 1) h2 hl p q
    refine ⟨I, pu, by rw [List.length_set]; exact hl, by rw [← Nat.add_zero (sl 2 n p), ct_slot h2 hl p 0 2 (by omega) (by omega)]; exact h.inn, by rw [← Nat.add_zero (sl 2 n p), ct_slot h2 hl p 0 3 (by omega) (by omega)]; exact h.out, by omega, ?_, fun k hk => ?_, fun k hk => ?_⟩
    · rw [va_turn h2 hl p]
      exact h.ob.gives hpi hT (by rw [hpu]; exact hv) hT'
    · rw [va_turn h2 hl p]
      by_cases e2 : k = i
      · rw [e2, ext_same]; exact .yes p hpi hpu
      · rw [ext_far _ _ _ _ e2]; exact (h.ps k hk).gives h.ob e2 hpi hT hpu hT'
    · rw [va_turn h2 hl p]
      exact (h.gs k hk).gives h.ob hT hT'
  | no p hne =>
    rw [show RQ.go false ⟨(2 : Nat), n, 5, (p : Int), false, 100 + (i : Int)⟩ m = (⟨(2 : Nat), n, 5, (p : Int), false, 100 + (i : Int)⟩, m) from by unfold RQ.go; rw [if_pos rfl]]
    exact ⟨_, _, h.same hp0⟩
  | yes p hpi hpu =>
    rw [show RQ.go false ⟨(2 : Nat), n, 5, (p : Int), true, 100 + (i : Int)⟩ m = (⟨(2 : Nat), n, 5, (p : Int), true, 100 + (i : Int)⟩, m) from by unfold RQ.go; rw [if_pos rfl]]
    exact ⟨_, _, h.same hp0⟩

/-- One who pops steps. -/
theorem once_pop (h : OSt N M n P G L I O pu po t) (ht : t ≤ 1000) (hn : n ≤ 64) {j : Nat} (hj : j < M) (m : MS) (hm : m.L = L) (hr : m.rng) :
    ∃ O' po', OSt N M n P (ext G j ((G j).go true m).1) ((G j).go true m).2.L I O' pu po' (t + 1) := by
  have hl := h.len
  have h2 := h.ob.n2
  have hI := h.small
  have hO := h.ob.ord
  subst hm
  have hp := h.gs j hj
  generalize G j = s at hp ⊢
  have hp0 := hp
  cases hp with
  | s0 p v =>
    obtain ⟨m', g, e⟩ := go_look true 2 n p v false m (O : Nat) (by omega) h.out
    rw [g]; dsimp only; rw [e]
    exact ⟨_, _, h.same2 (.s1 O v (Nat.le_refl _))⟩
  | s1 p v hpi =>
    have hrr := hr (sl 2 n p)
    have hT : nth m.L (sl 2 n p) = tu n m.L p := rfl
    obtain ⟨m', g, e⟩ := go_turn true 2 n p v false m _ (by omega) (by omega) hT
    rw [g]; dsimp only; rw [e]
    refine ⟨_, _, h.same2 ?_⟩
    have hw : RQ.awaited true ⟨(2 : Nat), n, 1, (p : Int), false, v⟩ = (p : Int) + 1 := by
      show IntKind.u64.wrap ((p : Int) + 1) = _
      rw [IntKind.wrap_u64]; omega
    rw [hw]
    by_cases e1 : tu n m.L p = (p : Int) + 1
    · rw [e1, looked_eq]
      exact .s2 p v hpi fun _ => e1
    · have h0 : lookedTo (tu n m.L p) ((p : Int) + 1) = 0 ∨ lookedTo (tu n m.L p) ((p : Int) + 1) = 5 ∨ lookedTo (tu n m.L p) ((p : Int) + 1) = 2 := by
        unfold lookedTo
        split
        · exact .inr (.inr rfl)
        · split
          · exact .inr (.inl rfl)
          · exact .inl rfl
      rcases h0 with h0 | h0 | h0
      · rw [h0]; exact .s0 p v
      · rw [h0]; exact .no p v
      · exfalso
        unfold lookedTo at h0
        rw [IntKind.wrap_u64] at h0
        rw [← hT] at h0 e1
        split at h0
        · rename_i hw
          unfold wrap64 at hw
          omega
        · split at h0 <;> omega
  | s2 p v hpi htp =>
    by_cases e1 : p = O
    · subst e1
      have hT := htp rfl
      obtain ⟨k1, k2, k3⟩ := h.ob.take hT
      obtain ⟨m', g, e⟩ := go_won true 2 n p v false m (by omega) (by omega) h.out
      rw [g]; dsimp only; rw [e, show ct true 2 = 3 from rfl]
      refine ⟨p + 1, ext po p j, by rw [List.length_set]; exact hl, by rw [nth_set _ _ _ _ (by omega), if_neg (by omega)]; exact h.inn, by rw [nth_set _ _ _ _ (by omega), if_pos rfl]; omega, by omega, ?_, fun k hk => ?_, fun k hk => ?_⟩
      · rw [tu_ct h2 hl 3 (.inr rfl), va_ct h2 hl 3 (.inr rfl)]
        exact k3
      · rw [tu_ct h2 hl 3 (.inr rfl), va_ct h2 hl 3 (.inr rfl)]
        exact h.ps k hk
      · rw [tu_ct h2 hl 3 (.inr rfl), va_ct h2 hl 3 (.inr rfl)]
        by_cases e2 : k = j
        · rw [e2, ext_same]; exact .s3 p v (by omega) (ext_same _ _ _) k1 hT k2
        · rw [ext_far _ _ _ _ e2]; exact (h.gs k hk).take
    · obtain ⟨m', g, e⟩ := go_lost true 2 n p v false m (by omega) (by omega) (by rw [show ct true 2 = 3 from rfl, h.out]; omega)
      rw [g]; dsimp only; rw [e]
      exact ⟨_, _, h.same2 (.s0 p v)⟩
  | s3 p v hpi hpo hi hT hv =>
    obtain ⟨m', g, e⟩ := go_get 2 n p v false m (100 + (pu p : Int)) (by omega) (by omega) hv
    rw [g]; dsimp only; rw [e]
    exact ⟨_, _, h.same2 (.s4 p hpi hpo hi hT)⟩
  | s4 p hpi hpo hi hT =>
    obtain ⟨m', g, e⟩ := go_free true 2 n p (100 + (pu p : Int)) false m (by omega) (by omega) (by omega)
    rw [g]; dsimp only; rw [e, show ld true n p = (p : Int) + n from rfl]
    have hT' := fun q => tu_turn (x := (p : Int) + n) h2 hl p q
    refine ⟨O, po, by rw [List.length_set]; exact hl, by rw [← Nat.add_zero (sl 2 n p), ct_slot h2 hl p 0 2 (by omega) (by omega)]; exact h.inn, by rw [← Nat.add_zero (sl 2 n p), ct_slot h2 hl p 0 3 (by omega) (by omega)]; exact h.out, by omega, ?_, fun k hk => ?_, fun k hk => ?_⟩
    · rw [va_turn h2 hl p]
      exact h.ob.frees hpi hT hT'
    · rw [va_turn h2 hl p]
      exact (h.ps k hk).frees h.ob hT hT'
    · rw [va_turn h2 hl p]
      by_cases e2 : k = j
      · rw [e2, ext_same]; exact .yes p hpi hpo hi
      · rw [ext_far _ _ _ _ e2]; exact (h.gs k hk).frees h.ob e2 hpi hpo hT hT'
  | no p v =>
    rw [show RQ.go true ⟨(2 : Nat), n, 5, (p : Int), false, v⟩ m = (⟨(2 : Nat), n, 5, (p : Int), false, v⟩, m) from by unfold RQ.go; rw [if_pos rfl]]
    exact ⟨_, _, h.same2 hp0⟩
  | yes p hpi hpo hi =>
    rw [show RQ.go true ⟨(2 : Nat), n, 5, (p : Int), true, 100 + (pu p : Int)⟩ m = (⟨(2 : Nat), n, 5, (p : Int), true, 100 + (pu p : Int)⟩, m) from by unfold RQ.go; rw [if_pos rfl]]
    exact ⟨_, _, h.same2 hp0⟩

/-- What was popped was pushed. -/
theorem OSt.popped (h : OSt N M n P G L I O pu po t) {j : Nat} (hj : j < M) (h5 : (G j).st = 5) (hh : (G j).has = true) : ∃ i, i < N ∧ (G j).v = 100 + (i : Int) ∧ ((P i).st = 5 → (P i).has = true) ∧ ∀ k, k < M → (G k).st = 5 → (G k).has = true → (G k).v = 100 + (i : Int) → k = j := by
  have hp := h.gs j hj
  generalize G j = s at hp h5 hh
  cases hp with
  | yes p hpi hpo hi =>
    refine ⟨pu p, h.ob.pN p hi, rfl, fun e5 => ?_, fun k hk k5 kh kv => ?_⟩
    · have hq := h.ps (pu p) (h.ob.pN p hi)
      generalize P (pu p) = s at hq e5
      cases hq with
      | no q hne => exact absurd rfl (hne p hi)
      | yes q _ _ => rfl
      | _ => simp at e5
    · have hq := h.gs k hk
      generalize G k = s at hq k5 kh kv
      cases hq with
      | yes q hqi hqo hqI =>
        have e : pu q = pu p := by
          have : (100 : Int) + (pu q : Int) = 100 + (pu p : Int) := kv
          omega
        have := h.ob.inj q p hqI hi e
        subst this
        exact hqo.symm.trans hpo
      | no q v => simp at kh
      | _ => simp at k5
  | no q v => simp at hh
  | _ => simp at h5
end

end Go.Proofs.Ytoecoijmkjhkgaa
