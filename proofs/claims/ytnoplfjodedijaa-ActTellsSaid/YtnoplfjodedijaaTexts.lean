/- The texts of acts, in plain lists of bytes: a number in digits, a text cut at its blanks, what a text says. No program. -/
import Derived.Test.YtnoplfjodedijaaBase
namespace Go.Proofs.Ytnoplfjodedijaa
open Go.RowKit

/-- A digit. -/
def digit (n : Nat) : UInt8 := UInt8.ofNat (48 + n)
theorem digit_nat {n : Nat} (h : n < 10) : (digit n).toNat = 48 + n := by
  unfold digit
  rw [UInt8.toNat_ofNat']
  omega

/-- A number in digits. -/
def digs (n : Nat) : List UInt8 := if n < 10 then [digit n] else digs (n / 10) ++ [digit (n % 10)]
termination_by n

theorem digs_one {n : Nat} (h : n < 10) : digs n = [digit n] := by rw [digs, if_pos h]
theorem digs_more {n : Nat} (h : ¬ n < 10) : digs n = digs (n / 10) ++ [digit (n % 10)] := by rw [digs, if_neg h]

theorem digs_all (n : Nat) : ∀ c ∈ digs n, 48 ≤ c.toNat ∧ c.toNat ≤ 57 := by
  induction n using Nat.strongRecOn with
  | ind n ih =>
    intro c hc
    by_cases h : n < 10
    · rw [digs_one h] at hc
      rw [List.mem_singleton.1 hc, digit_nat h]
      omega
    · rw [digs_more h] at hc
      rcases List.mem_append.1 hc with hc | hc
      · exact ih (n / 10) (by omega) c hc
      · rw [List.mem_singleton.1 hc, digit_nat (by omega)]
        omega

theorem digs_ne (n : Nat) : digs n ≠ [] := by
  by_cases h : n < 10
  · rw [digs_one h]; simp
  · rw [digs_more h]; simp

theorem digs_len (k n : Nat) (h : n < 10 ^ (k + 1)) : (digs n).length ≤ k + 1 := by
  induction k generalizing n with
  | zero => rw [digs_one (by simpa using h)]; simp
  | succ k ih =>
    by_cases h1 : n < 10
    · rw [digs_one h1]; simp
    · rw [digs_more h1]
      have := ih (n / 10) (by rw [Nat.pow_succ] at h; omega)
      simp
      omega

theorem digs_20 (n : Nat) (h : n < 18446744073709551616) : (digs n).length ≤ 20 := digs_len 19 n (by omega)

/-- Digits read one behind the other, modulo 2^64. -/
def rdOn (a : Nat) (l : List UInt8) : Nat := l.foldl (fun n c => (10 * n + (c.toNat - 48)) % 18446744073709551616) a
theorem rdOn_snoc (a : Nat) (l : List UInt8) (c : UInt8) : rdOn a (l ++ [c]) = (10 * rdOn a l + (c.toNat - 48)) % 18446744073709551616 := by simp [rdOn]
theorem rd_digs (n : Nat) (h : n < 18446744073709551616) : rdOn 0 (digs n) = n := by
  induction n using Nat.strongRecOn with
  | ind n ih =>
    by_cases h1 : n < 10
    · rw [digs_one h1]
      simp [rdOn, digit_nat h1]
      omega
    · rw [digs_more h1, rdOn_snoc, ih (n / 10) (by omega) (by omega), digit_nat (by omega)]
      omega
theorem rdOn_lt (l : List UInt8) : rdOn 0 l < 18446744073709551616 := by
  rcases List.eq_nil_or_concat l with rfl | ⟨l', c, rfl⟩
  · decide
  · rw [List.concat_eq_append, rdOn_snoc]; omega

/-- The document's reading: the same on digits. -/
def rdr (l : List UInt8) : Nat := l.foldl (fun n c => (10 * n + (c.toNat + 208) % 256) % 18446744073709551616) 0
theorem rdr_snoc (l : List UInt8) (c : UInt8) : rdr (l ++ [c]) = (10 * rdr l + (c.toNat + 208) % 256) % 18446744073709551616 := by simp [rdr]
theorem rdr_digs (n : Nat) (h : n < 18446744073709551616) : rdr (digs n) = n := by
  induction n using Nat.strongRecOn with
  | ind n ih =>
    by_cases h1 : n < 10
    · rw [digs_one h1]
      simp [rdr, digit_nat h1]
      omega
    · rw [digs_more h1, rdr_snoc, ih (n / 10) (by omega) (by omega), digit_nat (by omega)]
      omega
theorem rdr_lt (l : List UInt8) : rdr l < 18446744073709551616 := by
  rcases List.eq_nil_or_concat l with rfl | ⟨l', c, rfl⟩
  · decide
  · rw [List.concat_eq_append, rdr_snoc]; omega

/-- A text up to its first blank; behind it; whether there is one. -/
def hd (l : List UInt8) : List UInt8 := l.takeWhile (fun c => !(c == 32))
def tl (l : List UInt8) : List UInt8 := (l.dropWhile (fun c => !(c == 32))).drop 1
def mo (l : List UInt8) : Bool := l.any (fun c => c == 32)

theorem tcut_some (p t : List UInt8) (h : ∀ c ∈ p, c ≠ 32) : hd (p ++ 32 :: t) = p ∧ tl (p ++ 32 :: t) = t ∧ mo (p ++ 32 :: t) = true := by
  induction p with
  | nil => simp [hd, tl, mo]
  | cons c p ih =>
    have hc : c ≠ 32 := h c (by simp)
    obtain ⟨h1, h2, h3⟩ := ih fun x hx => h x (by simp [hx])
    unfold hd tl mo at *
    simp [hc] at h1 h2 h3 ⊢
    exact ⟨h1, h2⟩

theorem tcut_none (p : List UInt8) (h : ∀ c ∈ p, c ≠ 32) : hd p = p ∧ tl p = [] ∧ mo p = false := by
  induction p with
  | nil => simp [hd, tl, mo]
  | cons c p ih =>
    have hc : c ≠ 32 := h c (by simp)
    obtain ⟨h1, h2, h3⟩ := ih fun x hx => h x (by simp [hx])
    unfold hd tl mo at *
    simp [hc] at h1 h2 h3 ⊢
    exact ⟨h1, h2, h3⟩

theorem join (l : List UInt8) : (mo l = true → l = hd l ++ 32 :: tl l) ∧ (mo l = false → hd l = l) := by
  induction l with
  | nil => simp [hd, tl, mo]
  | cons c p ih =>
    unfold hd tl mo at *
    by_cases hc : c = 32
    · subst hc; simp
    · simp [hc] at ih ⊢
      exact ih
theorem hd_pure (l : List UInt8) : ∀ c ∈ hd l, c ≠ 32 := by
  induction l with
  | nil => simp [hd]
  | cons c p ih =>
    unfold hd at *
    by_cases hc : c = 32
    · subst hc; simp
    · simp [hc] at ih ⊢
      exact ih
theorem tl_less (l : List UInt8) (h : mo l = true) : (tl l).length < l.length := by
  have := (join l).1 h
  have h2 := congrArg List.length this
  simp at h2
  omega

/-- The kinds' names. -/
def nameOf (k : Int) : List UInt8 := if k = 1 then [108, 111, 97, 100] else if k = 2 then [115, 116, 111, 114, 101] else if k = 3 then [99, 97, 115] else if k = 4 then [97, 100, 100] else []
def kindOf (l : List UInt8) : Int := if l = [108, 111, 97, 100] then 1 else if l = [115, 116, 111, 114, 101] then 2 else if l = [99, 97, 115] then 3 else if l = [97, 100, 100] then 4 else 0

/-- An act as four numbers. -/
structure Four where
  k : Int
  i : Int
  a : Nat
  b : Nat
deriving DecidableEq

/-- It has a text. -/
def Four.good (x : Four) : Prop := 1 ≤ x.k ∧ x.k ≤ 4 ∧ 0 ≤ x.i ∧ (x.k = 1 → x.a = 0) ∧ (x.k ≠ 3 → x.b = 0)
instance (x : Four) : Decidable x.good := by unfold Four.good; infer_instance
/-- Its numbers fit. -/
def Four.fits (x : Four) : Prop := x.i < 9223372036854775808 ∧ x.a < 18446744073709551616 ∧ x.b < 18446744073709551616

/-- Its text. -/
def Four.text (x : Four) : List UInt8 :=
  nameOf x.k ++ 32 :: (digs x.i.toNat ++ (if x.k = 1 then [] else 32 :: (digs x.a ++ (if x.k = 3 then 32 :: digs x.b else []))))

/-- What is shown. -/
def Four.shown (x : Four) : List UInt8 := if x.good then x.text else []

/-- The numbers behind blanks, three at most, and whether there is more; none: one is no number. -/
def nums : Nat → List UInt8 → Bool → List Nat → Option (List Nat × Bool)
  | 0, _, m, acc => some (acc, m)
  | k + 1, r, m, acc => if m = true then (if digs (rdOn 0 (hd r)) = hd r then nums k (tl r) (mo r) (acc ++ [rdOn 0 (hd r)]) else none) else some (acc, m)

def need (k : Int) : Nat := if k = 1 then 1 else if k = 2 then 2 else if k = 3 then 3 else if k = 4 then 2 else 0

/-- What a text says. -/
def says (s : List UInt8) : Option Four :=
  match nums 3 (tl s) (mo s) [] with
  | none => none
  | some (l, m) =>
    if m = true ∨ need (kindOf (hd s)) = 0 ∨ l.length ≠ need (kindOf (hd s)) ∨ 9223372036854775807 < l.getD 0 0 then none
    else some ⟨kindOf (hd s), l.getD 0 0, l.getD 1 0, l.getD 2 0⟩

theorem no_blank (n : Nat) : ∀ c ∈ digs n, c ≠ 32 := fun c hc e => by
  have := (digs_all n c hc).1
  subst e
  revert this
  decide

theorem kind_name {k : Int} (h1 : 1 ≤ k) (h4 : k ≤ 4) : kindOf (nameOf k) = k := by
  have : k = 1 ∨ k = 2 ∨ k = 3 ∨ k = 4 := by omega
  rcases this with rfl | rfl | rfl | rfl <;> decide
theorem name_kind {l : List UInt8} (h : kindOf l ≠ 0) : nameOf (kindOf l) = l ∧ 1 ≤ kindOf l ∧ kindOf l ≤ 4 := by
  unfold kindOf at *
  split
  · subst l; decide
  split
  · subst l; decide
  split
  · subst l; decide
  split
  · subst l; decide
  · simp_all
theorem name_pure (k : Int) : ∀ c ∈ nameOf k, c ≠ 32 := by
  unfold nameOf
  repeat' split
  all_goals decide

/-- The text of a good act says it. -/
theorem says_text {x : Four} (h : x.good) (hf : x.fits) : says x.text = some x := by
  obtain ⟨k, i, a, b⟩ := x
  obtain ⟨h1, h4, h0, ha, hb⟩ := h
  obtain ⟨f1, f2, f3⟩ := hf
  dsimp only at h1 h4 h0 ha hb f1 f2 f3
  obtain ⟨j, rfl⟩ := Int.eq_ofNat_of_zero_le h0
  have fj : j < 18446744073709551616 := by omega
  have ri := rd_digs j fj
  have rA := rd_digs a f2
  have rB := rd_digs b f3
  have nk := name_pure k
  have kk := kind_name h1 h4
  unfold Four.text says
  simp only [Int.toNat_natCast]
  obtain ⟨e1, e2, e3⟩ := tcut_some (nameOf k) (digs j ++ (if k = 1 then [] else 32 :: (digs a ++ (if k = 3 then 32 :: digs b else [])))) nk
  rw [e1, e2, e3, kk]
  have : k = 1 ∨ k = 2 ∨ k = 3 ∨ k = 4 := by omega
  have c1 := tcut_none (digs j) (no_blank j)
  have c2 := tcut_none (digs a) (no_blank a)
  have c3 := tcut_none (digs b) (no_blank b)
  have d1 := tcut_some (digs j) (digs a) (no_blank j)
  have d2 := tcut_some (digs j) (digs a ++ 32 :: digs b) (no_blank j)
  have d3 := tcut_some (digs a) (digs b) (no_blank a)
  have hj : ¬ 9223372036854775807 < j := by omega
  rcases this with rfl | rfl | rfl | rfl
  · simp [nums, need, c1, ri, hj, ha, hb]
  · simp [nums, need, c2, d1, ri, rA, hj, hb]
  · simp [nums, need, d2, d3, c3, ri, rA, rB, hj]
  · simp [nums, need, c2, d1, ri, rA, hj, hb]

/-- What a text says has that text. -/
theorem text_says {s : List UInt8} {x : Four} (h : says s = some x) : x.good ∧ x.fits ∧ x.text = s := by
  unfold says at h
  cases hm : mo s with
  | false =>
    rw [hm] at h
    simp [nums] at h
    exact absurd h.1.2.symm h.1.1
  | true =>
    have js := (join s).1 hm
    rw [hm] at h
    generalize hd s = p at h js
    generalize tl s = t at h js
    subst js
    by_cases hk : kindOf p = 0
    · simp [hk, need] at h
      split at h <;> cases h
    obtain ⟨hn, hk1, hk4⟩ := name_kind hk
    generalize hK : kindOf p = k at *
    have j1 := join t
    have j2 := join (tl t)
    have j3 := join (tl (tl t))
    have l1 := rdOn_lt (hd t)
    have l2 := rdOn_lt (hd (tl t))
    have l3 := rdOn_lt (hd (tl (tl t)))
    have hkk : k = 1 ∨ k = 2 ∨ k = 3 ∨ k = 4 := by omega
    cases m1 : mo t with
    | false =>
      have e1 := j1.2 m1
      by_cases q1 : digs (rdOn 0 (hd t)) = hd t
      · rcases hkk with rfl | rfl | rfl | rfl
        all_goals simp [nums, q1, m1, need] at h
        obtain ⟨hle, rfl⟩ := h
        refine ⟨⟨by simp, by simp, by simp, by simp, by simp⟩, ⟨by simp; omega, by simp, by simp⟩, ?_⟩
        rw [e1] at q1
        simp only [Four.text, hn, e1, q1, Int.toNat_natCast, if_true, List.append_nil]
      · simp [nums, q1] at h
    | true =>
      have e1 := j1.1 m1
      by_cases q1 : digs (rdOn 0 (hd t)) = hd t
      · cases m2 : mo (tl t) with
        | false =>
          have e2 := j2.2 m2
          by_cases q2 : digs (rdOn 0 (hd (tl t))) = hd (tl t)
          · rcases hkk with rfl | rfl | rfl | rfl
            all_goals simp [nums, q1, q2, m1, m2, need] at h
            all_goals
              obtain ⟨hle, rfl⟩ := h
              refine ⟨⟨by simp, by simp, by simp, by simp, by simp⟩, ⟨by simp; omega, by simp; omega, by simp⟩, ?_⟩
              simp [Four.text, q1, q2, hn]
              rw [e2]
              exact e1.symm
          · simp [nums, q1, q2, m1] at h
        | true =>
          have e2 := j2.1 m2
          by_cases q2 : digs (rdOn 0 (hd (tl t))) = hd (tl t)
          · by_cases q3 : digs (rdOn 0 (hd (tl (tl t)))) = hd (tl (tl t))
            · cases m3 : mo (tl (tl t)) with
              | true => simp [nums, q1, q2, q3, m1, m2, m3] at h
              | false =>
                have e3 := j3.2 m3
                rcases hkk with rfl | rfl | rfl | rfl
                all_goals simp [nums, q1, q2, q3, m1, m2, m3, need] at h
                obtain ⟨hle, rfl⟩ := h
                refine ⟨⟨by simp, by simp, by simp, by simp, by simp⟩, ⟨by simp; omega, by simp; omega, by simp; omega⟩, ?_⟩
                simp [Four.text, q1, q2, q3, hn]
                rw [e3, ← e2]
                exact e1.symm
            · simp [nums, q1, q2, q3, m1, m2] at h
          · simp [nums, q1, q2, m1] at h
      · simp [nums, q1] at h

theorem says_iff (s : List UInt8) (x : Four) : says s = some x ↔ x.good ∧ x.fits ∧ x.text = s :=
  ⟨text_says, fun ⟨h, hf, e⟩ => e ▸ says_text h hf⟩

/-- A text's parts between blanks. -/
def parts (l : List UInt8) : List (List UInt8) := if _h : mo l = true then hd l :: parts (tl l) else [l]
termination_by l.length
decreasing_by exact tl_less l _h

theorem parts_some {l : List UInt8} (h : mo l = true) : parts l = hd l :: parts (tl l) := by rw [parts, dif_pos h]
theorem parts_none {l : List UInt8} (h : ¬ mo l = true) : parts l = [l] := by rw [parts, dif_neg h]
theorem parts_cons (p t : List UInt8) (h : ∀ c ∈ p, c ≠ 32) : parts (p ++ 32 :: t) = p :: parts t := by
  obtain ⟨h1, h2, h3⟩ := tcut_some p t h
  rw [parts_some h3, h1, h2]
theorem parts_last (p : List UInt8) (h : ∀ c ∈ p, c ≠ 32) : parts p = [p] := parts_none (by rw [(tcut_none p h).2.2]; simp)

/-- The act that the document reads first. -/
def guess (l : List (List UInt8)) : Four :=
  ⟨kindOf (l.getD 0 []), wrap64 (rdr (l.getD 1 [])), if 2 < l.length then rdr (l.getD 2 []) else 0, if 3 < l.length then rdr (l.getD 3 []) else 0⟩
/-- What the document says that a text says. -/
def saysR (s : List UInt8) : Option Four :=
  if 100 < s.length ∨ (parts s).length < 2 ∨ 4 < (parts s).length then none
  else if (guess (parts s)).shown = s then some (guess (parts s)) else none

theorem guess_text {x : Four} (h : x.good) (hf : x.fits) : guess (parts x.text) = x ∧ 2 ≤ (parts x.text).length ∧ (parts x.text).length ≤ 4 ∧ x.text.length ≤ 100 := by
  obtain ⟨k, i, a, b⟩ := x
  obtain ⟨h1, h4, h0, ha, hb⟩ := h
  obtain ⟨f1, f2, f3⟩ := hf
  dsimp only at h1 h4 h0 ha hb f1 f2 f3
  obtain ⟨j, rfl⟩ := Int.eq_ofNat_of_zero_le h0
  have fj : j < 18446744073709551616 := by omega
  have ri := rdr_digs j fj
  have rA := rdr_digs a f2
  have rB := rdr_digs b f3
  have di := digs_20 j fj
  have dA := digs_20 a f2
  have dB := digs_20 b f3
  have nk := name_pure k
  have kk := kind_name h1 h4
  have wj : wrap64 (j : Int) = j := by unfold wrap64; omega
  have p1 := parts_last (digs j) (no_blank j)
  have p2 := parts_cons (digs j) (digs a) (no_blank j)
  have p3 := parts_last (digs a) (no_blank a)
  have p4 := parts_cons (digs j) (digs a ++ 32 :: digs b) (no_blank j)
  have p5 := parts_cons (digs a) (digs b) (no_blank a)
  have p6 := parts_last (digs b) (no_blank b)
  have nl : (nameOf k).length ≤ 5 := by
    unfold nameOf
    repeat' split
    all_goals decide
  unfold Four.text
  simp only [Int.toNat_natCast]
  rw [parts_cons _ _ nk]
  have : k = 1 ∨ k = 2 ∨ k = 3 ∨ k = 4 := by omega
  rcases this with rfl | rfl | rfl | rfl
  · simp [p1, guess, kk, ri, wj, ha, hb]; omega
  · simp [p2, p3, guess, kk, ri, rA, wj, hb]; omega
  · simp [p4, p5, p6, guess, kk, ri, rA, rB, wj]; omega
  · simp [p2, p3, guess, kk, ri, rA, wj, hb]; omega

theorem guess_fits (l : List (List UInt8)) : (guess l).fits := by
  refine ⟨by unfold guess wrap64; dsimp only; omega, ?_, ?_⟩
  · unfold guess; dsimp only; split
    · exact rdr_lt _
    · decide
  · unfold guess; dsimp only; split
    · exact rdr_lt _
    · decide

theorem saysR_iff (s : List UInt8) (x : Four) : saysR s = some x ↔ x.good ∧ x.fits ∧ x.text = s := by
  constructor
  · intro h
    unfold saysR at h
    split at h
    · cases h
    split at h
    · rename_i hl hs
      injection h with h
      subst h
      refine ⟨?_, guess_fits _, ?_⟩
      · unfold Four.shown at hs
        split at hs
        · assumption
        · subst hs
          exact absurd (.inr (.inl (by rw [parts_none (by decide)]; decide))) hl
      · unfold Four.shown at hs
        split at hs
        · exact hs
        · subst hs
          exact absurd (.inr (.inl (by rw [parts_none (by decide)]; decide))) hl
    · cases h
  · rintro ⟨h, hf, rfl⟩
    obtain ⟨g, h2, h4, hl⟩ := guess_text h hf
    unfold saysR
    rw [if_neg (by omega), g, if_pos (by unfold Four.shown; rw [if_pos h])]

theorem says_same (s : List UInt8) : says s = saysR s := Option.ext fun x => by
  rw [says_iff, saysR_iff]

end Go.Proofs.Ytnoplfjodedijaa
