/- The plain law of DequeOnce: an owner and thieves, in any order of steps. -/
import Derived.Test.YtoecoijmkjhkgaaDqP
namespace Go.Proofs.Ytoecoijmkjhkgaa
open Go.RowKit

def upv {α : Type} (f : Nat → α) (p : Nat) (x : α) : Nat → α := fun j => if j = p then x else f j
theorem upv_same {α : Type} (f : Nat → α) (p : Nat) (x : α) : upv f p x p = x := by unfold upv; rw [if_pos rfl]
theorem upv_far {α : Type} (f : Nat → α) (p j : Nat) (x : α) (h : j ≠ p) : upv f p x j = f j := by unfold upv; rw [if_neg h]

theorem dgo_cas_no {s : DQ} {m : MS} (k : Nat) (x y : Int) (hd : s.done = false) (hn : s.next = ⟨3, k, x, y⟩) (hk : k < m.L.length) (he : ¬ nth m.L k = x) : ∃ m', s.go m = (s.took 0 false, m') ∧ m'.L = m.L := by
  have ha : m.act ⟨3, k, x, y⟩ = (⟨m.L, wrap64 (m.c + 1), m.l⟩, ⟨0, false, 0⟩) := by
    rw [act3, MS.cas, if_pos (show m.has k = true from decide_eq_true ⟨by omega, by omega⟩), if_neg (show ¬ nth m.L (k : Int).toNat = x from he)]
  unfold DQ.go
  rw [hd, if_neg (by simp), hn, ha]
  exact ⟨⟨m.L, wrap64 (m.c + 1), m.l⟩, by simp, rfl⟩

theorem dif_any (x y : Int) (h0 : -2000000000 < x - y) (h1 : x - y < 2000000000) : dif x y = x - y := by
  unfold dif
  rw [IntKind.wrap_u64]
  unfold wrap64
  omega
theorem dif_wrap (x y : Int) (h0 : -2000000000 < x - y) (h1 : x - y < 2000000000) : dif x (IntKind.u64.wrap y) = x - y := by
  unfold dif
  rw [IntKind.wrap_u64, IntKind.wrap_u64]
  unfold wrap64
  omega
theorem wrap_back (b : Nat) (h : b < 2000000000) : IntKind.u64.wrap (IntKind.u64.wrap ((b : Int) - 1) + 1) = b := by
  rw [IntKind.wrap_u64, IntKind.wrap_u64]
  omega
theorem wrap_pred (b : Nat) (h : b + 1 < 2000000000) : IntKind.u64.wrap (((b + 1 : Nat) : Int) - 1) = b := by
  rw [IntKind.wrap_u64]
  omega

/-- The words: T is stolen next, B is pushed next; the word of the end is bw. -/
structure DC (n : Nat) (L : List Int) (T B : Nat) (bw : Int) (vals : Nat → Nat) : Prop where
  n1 : 1 ≤ n
  n4 : n ≤ 4
  len : L.length = 20
  top : nth L 3 = (T : Nat)
  bot : nth L 4 = bw
  tb : T ≤ B
  bt : B ≤ T + n
  slots : ∀ p, T ≤ p → p < B → nth L (5 + p % n) = 100 + (vals p : Int)

/-- The accounts: hold is what the owner holds (a push under way, or what a pop has won). -/
structure DA (N T B : Nat) (vals : Nat → Nat) (had : List Int) (at_ : Nat) (hold : Option Nat) (pe q pushed taken : Nat) : Prop where
  hlen : had.length = N
  h01 : ∀ i, i < N → nth had i = 0 ∨ nth had i = 1
  atN : at_ ≤ N
  hz : ∀ i, at_ ≤ i → i < N → nth had i = 0
  win : ∀ p, T ≤ p → p < B → vals p < at_ ∧ nth had (vals p) = 0
  inj : ∀ p r, T ≤ p → p < B → T ≤ r → r < B → vals p = vals r → p = r
  ho : ∀ i, hold = some i → i < at_ ∧ nth had i = 0 ∧ ∀ p, T ≤ p → p < B → vals p ≠ i
  cnt : pushed = taken + (B - T) + pe
  bat : B + q ≤ at_
  pb : pushed + q ≤ at_

/-- Where the owner stands: the end's word, the end that thieves may reach, what it holds. -/
inductive DO (n T B : Nat) (L : List Int) (vals : Nat → Nat) : Int → Nat → Option Nat → Nat → Nat → Option DQ → Prop
  | none : DO n T B L vals B B none 0 0 none
  | p0 (i : Nat) (top bot : Int) : DO n T B L vals B B (some i) 0 1 (some ⟨3, n, 0, 0, false, false, 100 + (i : Int), top, bot, false⟩)
  | p1 (i : Nat) (top : Int) : DO n T B L vals B B (some i) 0 1 (some ⟨3, n, 0, 1, false, false, 100 + (i : Int), top, (B : Int), false⟩)
  | p2 (i : Nat) (top : Int) (h : B < T + n) : DO n T B L vals B B (some i) 0 1 (some ⟨3, n, 0, 2, false, false, 100 + (i : Int), top, (B : Int), false⟩)
  | p3 (i : Nat) (top : Int) (h : B < T + n) (hs : nth L (5 + B % n) = 100 + (i : Int)) : DO n T B L vals B B (some i) 0 1 (some ⟨3, n, 0, 3, false, false, 100 + (i : Int), top, (B : Int), false⟩)
  | q0 (v top bot : Int) : DO n T B L vals B B none 0 0 (some ⟨3, n, 1, 0, false, false, v, top, bot, false⟩)
  | q1 (v top : Int) : DO n T B L vals B B none 0 0 (some ⟨3, n, 1, 1, false, false, v, top, IntKind.u64.wrap ((B : Int) - 1), false⟩)
  | q2 (v top : Int) : DO n T B L vals (IntKind.u64.wrap ((B : Int) - 1)) B none 0 0 (some ⟨3, n, 1, 2, false, false, v, top, IntKind.u64.wrap ((B : Int) - 1), false⟩)
  | q3s (v : Int) (t b : Nat) (e : B = b + 1) (h : t < b) (ht : T ≤ b) : DO n T B L vals b b none 0 0 (some ⟨3, n, 1, 3, false, false, v, (t : Int), (b : Int), false⟩)
  | q3l (v : Int) (t : Nat) (e : B = t + 1) (h : t ≤ T) : DO n T B L vals t B none 0 0 (some ⟨3, n, 1, 3, false, false, v, (t : Int), (t : Int), false⟩)
  | q4 (v : Int) (t : Nat) (e : B = t + 1) (h : t ≤ T) (hv : t = T → v = 100 + (vals t : Int)) : DO n T B L vals t B none 0 0 (some ⟨3, n, 1, 4, false, false, v, (t : Int), (t : Int), false⟩)
  | q5n (v top : Int) (e : T = B) : DO n T B L vals (IntKind.u64.wrap ((B : Int) - 1)) B none 0 0 (some ⟨3, n, 1, 5, false, false, v, top, IntKind.u64.wrap ((B : Int) - 1), false⟩)
  | q5y (i : Nat) (top : Int) (e : T = B) : DO n T B L vals (IntKind.u64.wrap ((B : Int) - 1)) B (some i) 1 0 (some ⟨3, n, 1, 5, false, false, 100 + (i : Int), top, IntKind.u64.wrap ((B : Int) - 1), true⟩)

/-- Where a thief stands. -/
inductive DTh (n T E : Nat) (vals : Nat → Nat) : Option DQ → Prop
  | none : DTh n T E vals none
  | s0 (v top bot : Int) : DTh n T E vals (some ⟨3, n, 2, 0, false, false, v, top, bot, false⟩)
  | s1 (v bot : Int) (t : Nat) (h : t ≤ T) : DTh n T E vals (some ⟨3, n, 2, 1, false, false, v, (t : Int), bot, false⟩)
  | s2 (v bot : Int) (t : Nat) (h : t ≤ T) (hs : t = T → t < E) : DTh n T E vals (some ⟨3, n, 2, 2, false, false, v, (t : Int), bot, false⟩)
  | s3 (v bot : Int) (t : Nat) (h : t ≤ T) (hs : t = T → t < E ∧ v = 100 + (vals t : Int)) : DTh n T E vals (some ⟨3, n, 2, 3, false, false, v, (t : Int), bot, false⟩)

theorem DTh.keep {n T T' E E' : Nat} {vals vals' : Nat → Nat} {x : Option DQ} (h : DTh n T E vals x) (hT : T ≤ T') (hE : T' = T → T < E → T < E' ∧ vals' T = vals T) : DTh n T' E' vals' x := by
  cases h with
  | none => exact .none
  | s0 v top bot => exact .s0 v top bot
  | s1 v bot t h => exact .s1 v bot t (by omega)
  | s2 v bot t h hs =>
    refine .s2 v bot t (by omega) fun e => ?_
    have h1 : t = T := by omega
    subst h1
    exact (hE e.symm (hs rfl)).1
  | s3 v bot t h hs =>
    refine .s3 v bot t (by omega) fun e => ?_
    have h1 : t = T := by omega
    subst h1
    obtain ⟨h2, h3⟩ := hs rfl
    obtain ⟨h4, h5⟩ := hE e.symm h2
    exact ⟨h4, by rw [h5]; exact h3⟩

/-- All of it. -/
structure DI (n N : Nat) (L : List Int) (own : Option DQ) (at_ : Nat) (th : Nat → Option DQ) (had : List Int) (pushed taken T B : Nat) (bw : Int) (vals : Nat → Nat) (E : Nat) (hold : Option Nat) (pe q : Nat) : Prop where
  c : DC n L T B bw vals
  a : DA N T B vals had at_ hold pe q pushed taken
  o : DO n T B L vals bw E hold pe q own
  t : ∀ k, k < 3 → DTh n T E vals (th k)
  n20 : N ≤ 20

def DInv (n N : Nat) (L : List Int) (own : Option DQ) (at_ : Nat) (th : Nat → Option DQ) (had : List Int) (pushed taken : Nat) : Prop := ∃ T B bw vals E hold pe q, DI n N L own at_ th had pushed taken T B bw vals E hold pe q

section
variable {n N : Nat} {L : List Int} {own : Option DQ} {at_ : Nat} {th : Nat → Option DQ} {had : List Int} {pushed taken T B : Nat} {bw : Int} {vals : Nat → Nat} {E : Nat} {hold : Option Nat} {pe q : Nat}

theorem DO.ends (h : DO n T B L vals bw E hold pe q own) (ht : T ≤ B) : E ≤ B ∧ T ≤ E := by
  cases h with
  | q3s v t b e h ht => omega
  | _ => exact ⟨Nat.le_refl _, ht⟩

theorem DC.slot_ne (_c : DC n L T B bw vals) {p r : Nat} (h : p % n = r % n) (h1 : p < r + n) (h2 : r < p + n) : p = r := dmod_inj h h1 h2

/-- A thief steps. -/
theorem thief_go {m : MS} {k : Nat} {s : DQ} (h : DInv n N m.L own at_ th had pushed taken) (hk : k < 3) (hs : th k = some s) :
    ((s.go m).1.done = false ∧ DInv n N (s.go m).2.L own at_ (upv th k (some (s.go m).1)) had pushed taken) ∨
    ((s.go m).1.done = true ∧ (s.go m).1.has = false ∧ DInv n N (s.go m).2.L own at_ (upv th k none) had pushed taken) ∨
    ((s.go m).1.done = true ∧ (s.go m).1.has = true ∧ ∃ i, i < N ∧ (s.go m).1.v = 100 + (i : Int) ∧ nth had i = 0 ∧ DInv n N (s.go m).2.L own at_ (upv th k none) (had.set i 1) pushed (taken + 1)) := by
  obtain ⟨T, B, bw, vals, E, hold, pe, q, ⟨c, a, o, hth, n20⟩⟩ := h
  have hb := o.ends c.tb
  have hbat := a.bat
  have hat := a.atN
  have hlen := c.len
  have hts := hth k hk
  rw [hs] at hts
  have same : ∀ (m' : MS) (x : Option DQ), m'.L = m.L → DTh n T E vals x → DInv n N m'.L own at_ (upv th k x) had pushed taken := fun m' x e hx =>
    ⟨T, B, bw, vals, E, hold, pe, q, by rw [e]; exact c, a, by rw [e]; exact o, fun j hj => by
      by_cases e1 : j = k
      · rw [e1, upv_same]; exact hx
      · rw [upv_far _ _ _ _ e1]; exact hth j hj, n20⟩
  cases hts with
  | s0 v top bot =>
    obtain ⟨m1, g, e⟩ := dgo_load (s := ⟨3, n, 2, 0, false, false, v, top, bot, false⟩) (m := m) 3 rfl (by simp [DQ.next]) (by omega)
    rw [c.top, show DQ.took ⟨3, n, 2, 0, false, false, v, top, bot, false⟩ (T : Nat) false = ⟨3, n, 2, 1, false, false, v, (T : Nat), bot, false⟩ from rfl] at g
    rw [g]
    exact .inl ⟨rfl, same m1 _ e (.s1 v bot T (Nat.le_refl T))⟩
  | s1 v bot t1 ht =>
    obtain ⟨m1, g, e⟩ := dgo_load (s := ⟨3, n, 2, 1, false, false, v, (t1 : Int), bot, false⟩) (m := m) 4 rfl (by simp [DQ.next]) (by omega)
    rw [c.bot] at g
    by_cases hc : 0 ≤ dif (t1 : Int) bw
    · rw [show DQ.took ⟨3, n, 2, 1, false, false, v, (t1 : Int), bot, false⟩ bw false = ⟨3, n, 2, 2, false, true, v, (t1 : Int), bot, false⟩ by simp [DQ.took, hc]] at g
      rw [g]
      exact .inr (.inl ⟨rfl, rfl, same m1 _ e .none⟩)
    · rw [show DQ.took ⟨3, n, 2, 1, false, false, v, (t1 : Int), bot, false⟩ bw false = ⟨3, n, 2, 2, false, false, v, (t1 : Int), bot, false⟩ by simp [DQ.took, hc]] at g
      rw [g]
      refine .inl ⟨rfl, same m1 _ e (.s2 v bot t1 ht fun e1 => ?_)⟩
      subst e1
      cases o with
      | none => rw [dif_any _ _ (by omega) (by omega)] at hc; omega
      | p0 i top bot => rw [dif_any _ _ (by omega) (by omega)] at hc; omega
      | p1 i top => rw [dif_any _ _ (by omega) (by omega)] at hc; omega
      | p2 i top h => rw [dif_any _ _ (by omega) (by omega)] at hc; omega
      | p3 i top h hs => rw [dif_any _ _ (by omega) (by omega)] at hc; omega
      | q0 v top bot => rw [dif_any _ _ (by omega) (by omega)] at hc; omega
      | q1 v top => rw [dif_any _ _ (by omega) (by omega)] at hc; omega
      | q2 v top => rw [dif_wrap _ _ (by omega) (by omega)] at hc; omega
      | q3s v t b e h ht => rw [dif_any _ _ (by omega) (by omega)] at hc; omega
      | q3l v t e h => rw [dif_any _ _ (by omega) (by omega)] at hc; omega
      | q4 v t e h hv => rw [dif_any _ _ (by omega) (by omega)] at hc; omega
      | q5n v top e => rw [dif_wrap _ _ (by omega) (by omega)] at hc; omega
      | q5y i top e => rw [dif_wrap _ _ (by omega) (by omega)] at hc; omega
  | s2 v bot t1 ht hs2 =>
    have hm := Nat.mod_lt t1 (show n > 0 by have := c.n1; omega)
    obtain ⟨m1, g, e⟩ := dgo_load (s := ⟨3, n, 2, 2, false, false, v, (t1 : Int), bot, false⟩) (m := m) (3 + 2 + t1 % n) rfl (by rw [← dslot_nat]; simp [DQ.next]) (by have := c.n4; omega)
    rw [show DQ.took ⟨3, n, 2, 2, false, false, v, (t1 : Int), bot, false⟩ (nth m.L (3 + 2 + t1 % n)) false = ⟨3, n, 2, 3, false, false, nth m.L (3 + 2 + t1 % n), (t1 : Int), bot, false⟩ from rfl] at g
    rw [g]
    refine .inl ⟨rfl, same m1 _ e (.s3 _ bot t1 ht fun e1 => ⟨hs2 e1, ?_⟩)⟩
    exact c.slots t1 (by omega) (by have := hs2 e1; omega)
  | s3 v bot t1 ht hs3 =>
    by_cases e1 : t1 = T
    · obtain ⟨he, hv⟩ := hs3 e1
      subst e1
      obtain ⟨m1, g, e⟩ := dgo_cas (s := ⟨3, n, 2, 3, false, false, v, (t1 : Int), bot, false⟩) (m := m) 3 (t1 : Int) ((t1 + 1 : Nat) : Int) rfl (by rw [← wrap_small t1 (by omega)]; simp [DQ.next]) (by omega) c.top
      rw [show DQ.took ⟨3, n, 2, 3, false, false, v, (t1 : Int), bot, false⟩ 0 true = ⟨3, n, 2, 4, true, true, v, (t1 : Int), bot, false⟩ from rfl] at g
      rw [g]
      have hw := a.win t1 (Nat.le_refl t1) (by omega)
      have hiN : vals t1 < N := by omega
      have key : ∀ j, nth m1.L j = if 3 = j then ((t1 + 1 : Nat) : Int) else nth m.L j := fun j => by rw [e, nth_set _ _ _ _ (by omega)]
      have hset : ∀ i, nth (had.set (vals t1) 1) i = if vals t1 = i then 1 else nth had i := fun i => nth_set _ _ _ _ (by rw [a.hlen]; exact hiN)
      refine .inr (.inr ⟨rfl, rfl, vals t1, hiN, hv, hw.2, t1 + 1, B, bw, vals, E, hold, pe, q, ?_, ?_, ?_, fun j hj => ?_, n20⟩)
      · exact ⟨c.n1, c.n4, by rw [e]; simp [c.len], by rw [key, if_pos rfl], by rw [key, if_neg (by omega)]; exact c.bot, by omega, by have := c.bt; omega, fun p h1 h2 => by rw [key, if_neg (by omega)]; exact c.slots p (by omega) h2⟩
      · refine ⟨by simp [a.hlen], fun i hi => ?_, a.atN, fun i h1 h2 => ?_, fun p h1 h2 => ?_, fun p r h1 h2 h3 h4 h5 => a.inj p r (by omega) h2 (by omega) h4 h5, fun i hi => ?_, by have := a.cnt; omega, a.bat, a.pb⟩
        · rw [hset]
          by_cases e2 : vals t1 = i
          · rw [if_pos e2]; exact .inr rfl
          · rw [if_neg e2]; exact a.h01 i hi
        · rw [hset, if_neg (by omega)]
          exact a.hz i h1 h2
        · have h3 := a.win p (by omega) h2
          refine ⟨h3.1, ?_⟩
          rw [hset, if_neg (fun h => by have := a.inj t1 p (Nat.le_refl _) (by omega) (by omega) h2 h; omega)]
          exact h3.2
        · obtain ⟨h1, h2, h3⟩ := a.ho i hi
          refine ⟨h1, ?_, fun p h4 h5 => h3 p (by omega) h5⟩
          rw [hset, if_neg (h3 t1 (Nat.le_refl _) (by omega))]
          exact h2
      · cases o with
        | none => exact .none
        | p0 i top bot => exact .p0 i top bot
        | p1 i top => exact .p1 i top
        | p2 i top h => exact .p2 i top (by omega)
        | p3 i top h hs => exact .p3 i top (by omega) (by rw [key, if_neg (by omega)]; exact hs)
        | q0 v top bot => exact .q0 v top bot
        | q1 v top => exact .q1 v top
        | q2 v top => exact .q2 v top
        | q3s v t2 b2 e2 h2 ht2 => exact .q3s v t2 _ e2 h2 (by omega)
        | q3l v t2 e2 h2 => exact .q3l v t2 e2 (by omega)
        | q4 v t2 e2 h2 hv => exact .q4 v t2 e2 (by omega) (fun h => by omega)
        | q5n v top e => omega
        | q5y i top e => omega
      · by_cases e2 : j = k
        · rw [e2, upv_same]; exact .none
        · rw [upv_far _ _ _ _ e2]
          exact (hth j hj).keep (by omega) (fun h => by omega)
    · obtain ⟨m1, g, e⟩ := dgo_cas_no (s := ⟨3, n, 2, 3, false, false, v, (t1 : Int), bot, false⟩) (m := m) 3 (t1 : Int) ((t1 + 1 : Nat) : Int) rfl (by rw [← wrap_small t1 (by omega)]; simp [DQ.next]) (by omega) (by rw [c.top]; omega)
      rw [show DQ.took ⟨3, n, 2, 3, false, false, v, (t1 : Int), bot, false⟩ 0 false = ⟨3, n, 2, 4, false, true, v, (t1 : Int), bot, false⟩ from rfl] at g
      rw [g]
      exact .inr (.inl ⟨rfl, rfl, same m1 _ e .none⟩)
/-- The owner steps. -/
theorem own_go {m : MS} {s : DQ} (h : DInv n N m.L (some s) at_ th had pushed taken) :
    ((s.go m).1.done = false ∧ (s.go m).1.k = s.k ∧ (s.turn < (s.go m).1.turn ∧ (s.go m).1.turn ≤ 5) ∧ DInv n N (s.go m).2.L (some (s.go m).1) at_ th had pushed taken) ∨
    ((s.go m).1.done = true ∧ (s.go m).1.has = false ∧ DInv n N (s.go m).2.L none at_ th had pushed taken) ∨
    ((s.go m).1.done = true ∧ (s.go m).1.has = true ∧ s.k = 0 ∧ DInv n N (s.go m).2.L none at_ th had (pushed + 1) taken) ∨
    ((s.go m).1.done = true ∧ (s.go m).1.has = true ∧ s.k = 1 ∧ ∃ i, i < N ∧ (s.go m).1.v = 100 + (i : Int) ∧ nth had i = 0 ∧ DInv n N (s.go m).2.L none at_ th (had.set i 1) pushed (taken + 1)) := by
  obtain ⟨T, B, bw, vals, E, hold, pe, q, ⟨c, a, o, hth, n20⟩⟩ := h
  have hb := o.ends c.tb
  have hbat := a.bat
  have hat := a.atN
  have hlen := c.len
  have n1 := c.n1
  have n4 := c.n4
  have htb := c.tb
  have hbt := c.bt
  have nop : ∀ {x : Nat}, DA N T B vals had at_ (some x) 0 1 pushed taken → DA N T B vals had at_ none 0 0 pushed taken := fun a => ⟨a.hlen, a.h01, a.atN, a.hz, a.win, a.inj, fun i hi => (by cases hi), a.cnt, by have := a.bat; omega, by have := a.pb; omega⟩
  have hmB := Nat.mod_lt B (show n > 0 by omega)
  cases o with
  | p0 i top bot =>
    obtain ⟨m1, g, e⟩ := dgo_load (s := ⟨3, n, 0, 0, false, false, 100 + (i : Int), top, bot, false⟩) (m := m) 4 rfl (by simp [DQ.next]) (by omega)
    rw [c.bot, show DQ.took ⟨3, n, 0, 0, false, false, 100 + (i : Int), top, bot, false⟩ (B : Nat) false = ⟨3, n, 0, 1, false, false, 100 + (i : Int), top, (B : Nat), false⟩ from rfl] at g
    rw [g]
    exact .inl ⟨rfl, rfl, ⟨by dsimp only; omega, by dsimp only; omega⟩, T, B, _, vals, _, _, _, _, ⟨by rw [e]; exact c, a, .p1 i top, hth, n20⟩⟩
  | p1 i top =>
    obtain ⟨m1, g, e⟩ := dgo_load (s := ⟨3, n, 0, 1, false, false, 100 + (i : Int), top, (B : Int), false⟩) (m := m) 3 rfl (by simp [DQ.next]) (by omega)
    have hd := dif_any (B : Int) (T : Int) (by omega) (by omega)
    rw [c.top] at g
    by_cases hc : (n : Int) ≤ dif (B : Int) (T : Int)
    · rw [show DQ.took ⟨3, n, 0, 1, false, false, 100 + (i : Int), top, (B : Int), false⟩ (T : Nat) false = ⟨3, n, 0, 2, false, true, 100 + (i : Int), top, (B : Int), false⟩ by simp [DQ.took, hc]] at g
      rw [g]
      exact .inr (.inl ⟨rfl, rfl, T, B, _, vals, _, _, _, _, ⟨by rw [e]; exact c, nop a, .none, hth, n20⟩⟩)
    · rw [show DQ.took ⟨3, n, 0, 1, false, false, 100 + (i : Int), top, (B : Int), false⟩ (T : Nat) false = ⟨3, n, 0, 2, false, false, 100 + (i : Int), top, (B : Int), false⟩ by simp [DQ.took, hc]] at g
      rw [g]
      exact .inl ⟨rfl, rfl, ⟨by dsimp only; omega, by dsimp only; omega⟩, T, B, _, vals, _, _, _, _, ⟨by rw [e]; exact c, a, .p2 i top (by rw [hd] at hc; omega), hth, n20⟩⟩
  | p2 i top h =>
    obtain ⟨m1, g, e⟩ := dgo_store (s := ⟨3, n, 0, 2, false, false, 100 + (i : Int), top, (B : Int), false⟩) (m := m) (3 + 2 + B % n) (100 + (i : Int)) rfl (by rw [← dslot_nat]; simp [DQ.next]) (by omega)
    rw [show DQ.took ⟨3, n, 0, 2, false, false, 100 + (i : Int), top, (B : Int), false⟩ 0 false = ⟨3, n, 0, 3, false, false, 100 + (i : Int), top, (B : Int), false⟩ from rfl] at g
    rw [g]
    have key : ∀ j, nth m1.L j = if 3 + 2 + B % n = j then 100 + (i : Int) else nth m.L j := fun j => by rw [e, nth_set _ _ _ _ (by omega)]
    refine .inl ⟨rfl, rfl, ⟨by dsimp only; omega, by dsimp only; omega⟩, T, B, _, vals, _, _, _, _, ⟨⟨n1, n4, by rw [e]; simp [c.len], by rw [key, if_neg (by omega)]; exact c.top, by rw [key, if_neg (by omega)]; exact c.bot, htb, hbt, fun p h1 h2 => ?_⟩, a, .p3 i top h (by rw [key, if_pos rfl]), hth, n20⟩⟩
    rw [key, if_neg (fun hh => by have := dmod_inj (n := n) (i := p) (j := B) (by omega) (by omega) (by omega); omega)]
    exact c.slots p h1 h2
  | p3 i top h hs =>
    obtain ⟨m1, g, e⟩ := dgo_store (s := ⟨3, n, 0, 3, false, false, 100 + (i : Int), top, (B : Int), false⟩) (m := m) 4 ((B + 1 : Nat) : Int) rfl (by rw [← wrap_small B (by omega)]; simp [DQ.next]) (by omega)
    rw [show DQ.took ⟨3, n, 0, 3, false, false, 100 + (i : Int), top, (B : Int), false⟩ 0 false = ⟨3, n, 0, 4, true, true, 100 + (i : Int), top, (B : Int), false⟩ from rfl] at g
    rw [g]
    have key : ∀ j, nth m1.L j = if 4 = j then ((B + 1 : Nat) : Int) else nth m.L j := fun j => by rw [e, nth_set _ _ _ _ (by omega)]
    obtain ⟨i1, i2, i3⟩ := a.ho i rfl
    refine .inr (.inr (.inl ⟨rfl, rfl, rfl, T, B + 1, _, upv vals B i, _, _, _, _, ⟨⟨n1, n4, by rw [e]; simp [c.len], by rw [key, if_neg (by omega)]; exact c.top, by rw [key, if_pos rfl], by omega, by omega, fun p h1 h2 => ?_⟩, ⟨a.hlen, a.h01, a.atN, a.hz, fun p h1 h2 => ?_, fun p r h1 h2 h3 h4 h5 => ?_, fun i hi => (by cases hi), by have := a.cnt; omega, by omega, by have := a.pb; omega⟩, .none, fun k hk => (hth k hk).keep (Nat.le_refl T) (fun _ h1 => ⟨by omega, upv_far _ _ _ _ (by omega)⟩), n20⟩⟩))
    · rw [key, if_neg (by omega)]
      by_cases e1 : p = B
      · rw [e1, upv_same]; exact hs
      · rw [upv_far _ _ _ _ e1]; exact c.slots p h1 (by omega)
    · by_cases e1 : p = B
      · rw [e1, upv_same]; exact ⟨i1, i2⟩
      · rw [upv_far _ _ _ _ e1]; exact a.win p h1 (by omega)
    · by_cases e1 : p = B <;> by_cases e2 : r = B
      · omega
      · rw [e1, upv_same, upv_far _ _ _ _ e2] at h5
        exact absurd h5.symm (i3 r h3 (by omega))
      · rw [e2, upv_same, upv_far _ _ _ _ e1] at h5
        exact absurd h5 (i3 p h1 (by omega))
      · rw [upv_far _ _ _ _ e1, upv_far _ _ _ _ e2] at h5
        exact a.inj p r h1 (by omega) h3 (by omega) h5
  | q0 v top bot =>
    obtain ⟨m1, g, e⟩ := dgo_load (s := ⟨3, n, 1, 0, false, false, v, top, bot, false⟩) (m := m) 4 rfl (by simp [DQ.next]) (by omega)
    rw [c.bot, show DQ.took ⟨3, n, 1, 0, false, false, v, top, bot, false⟩ (B : Nat) false = ⟨3, n, 1, 1, false, false, v, top, IntKind.u64.wrap ((B : Int) - 1), false⟩ from rfl] at g
    rw [g]
    exact .inl ⟨rfl, rfl, ⟨by dsimp only; omega, by dsimp only; omega⟩, T, B, _, vals, _, _, _, _, ⟨by rw [e]; exact c, a, .q1 v top, hth, n20⟩⟩
  | q1 v top =>
    obtain ⟨m1, g, e⟩ := dgo_store (s := ⟨3, n, 1, 1, false, false, v, top, IntKind.u64.wrap ((B : Int) - 1), false⟩) (m := m) 4 (IntKind.u64.wrap ((B : Int) - 1)) rfl (by simp [DQ.next]) (by omega)
    rw [show DQ.took ⟨3, n, 1, 1, false, false, v, top, IntKind.u64.wrap ((B : Int) - 1), false⟩ 0 false = ⟨3, n, 1, 2, false, false, v, top, IntKind.u64.wrap ((B : Int) - 1), false⟩ from rfl] at g
    rw [g]
    have key : ∀ j, nth m1.L j = if 4 = j then IntKind.u64.wrap ((B : Int) - 1) else nth m.L j := fun j => by rw [e, nth_set _ _ _ _ (by omega)]
    exact .inl ⟨rfl, rfl, ⟨by dsimp only; omega, by dsimp only; omega⟩, T, B, _, vals, _, _, _, _, ⟨⟨n1, n4, by rw [e]; simp [c.len], by rw [key, if_neg (by omega)]; exact c.top, by rw [key, if_pos rfl], htb, hbt, fun p h1 h2 => by rw [key, if_neg (by omega)]; exact c.slots p h1 h2⟩, a, .q2 v top, hth, n20⟩⟩
  | q2 v top =>
    obtain ⟨m1, g, e⟩ := dgo_load (s := ⟨3, n, 1, 2, false, false, v, top, IntKind.u64.wrap ((B : Int) - 1), false⟩) (m := m) 3 rfl (by simp [DQ.next]) (by omega)
    have hd := dif_wrap (T : Int) ((B : Int) - 1) (by omega) (by omega)
    rw [c.top] at g
    by_cases hc : 0 < dif (T : Int) (IntKind.u64.wrap ((B : Int) - 1))
    · rw [show DQ.took ⟨3, n, 1, 2, false, false, v, top, IntKind.u64.wrap ((B : Int) - 1), false⟩ (T : Nat) false = ⟨3, n, 1, 5, false, false, v, (T : Nat), IntKind.u64.wrap ((B : Int) - 1), false⟩ by simp [DQ.took, hc]] at g
      rw [g]
      exact .inl ⟨rfl, rfl, ⟨by dsimp only; omega, by dsimp only; omega⟩, T, B, _, vals, _, _, _, _, ⟨by rw [e]; exact c, a, .q5n v _ (by rw [hd] at hc; omega), hth, n20⟩⟩
    · rw [show DQ.took ⟨3, n, 1, 2, false, false, v, top, IntKind.u64.wrap ((B : Int) - 1), false⟩ (T : Nat) false = ⟨3, n, 1, 3, false, false, v, (T : Nat), IntKind.u64.wrap ((B : Int) - 1), false⟩ by simp [DQ.took, hc]] at g
      rw [g]
      rw [hd] at hc
      obtain ⟨b, rfl⟩ : ∃ b, B = b + 1 := ⟨B - 1, by omega⟩
      have hw := wrap_pred b (by omega)
      rw [hw] at c ⊢
      by_cases h1 : T < b
      · exact .inl ⟨rfl, rfl, ⟨by dsimp only; omega, by dsimp only; omega⟩, T, b + 1, _, vals, _, _, _, _, ⟨by rw [e]; exact c, a, .q3s v T b rfl h1 (by omega), fun k hk => (hth k hk).keep (Nat.le_refl T) (fun _ _ => ⟨h1, rfl⟩), n20⟩⟩
      · obtain rfl : T = b := by omega
        exact .inl ⟨rfl, rfl, ⟨by dsimp only; omega, by dsimp only; omega⟩, T, T + 1, _, vals, _, _, _, _, ⟨by rw [e]; exact c, a, .q3l v T rfl (Nat.le_refl T), hth, n20⟩⟩
  | q3s v t b eB h ht =>
    subst eB
    have hmb := Nat.mod_lt E (show n > 0 by omega)
    obtain ⟨m1, g, e⟩ := dgo_load (s := ⟨3, n, 1, 3, false, false, v, (t : Int), (E : Int), false⟩) (m := m) (3 + 2 + E % n) rfl (by rw [← dslot_nat]; simp [DQ.next]) (by omega)
    have hd := dif_any (t : Int) (E : Int) (by omega) (by omega)
    have hc : dif (t : Int) (E : Int) < 0 := by rw [hd]; omega
    rw [show nth m.L (3 + 2 + E % n) = 100 + (vals E : Int) from c.slots E ht (by omega), show DQ.took ⟨3, n, 1, 3, false, false, v, (t : Int), (E : Int), false⟩ (100 + (vals E : Int)) false = ⟨3, n, 1, 4, true, true, 100 + (vals E : Int), (t : Int), (E : Int), false⟩ by simp [DQ.took, hc]] at g
    rw [g]
    have hw := a.win E ht (by omega)
    have hset : ∀ i, nth (had.set (vals E) 1) i = if vals E = i then 1 else nth had i := fun i => nth_set _ _ _ _ (by rw [a.hlen]; omega)
    refine .inr (.inr (.inr ⟨rfl, rfl, rfl, vals E, by omega, rfl, hw.2, T, E, _, vals, _, _, _, _, ⟨⟨n1, n4, by rw [e]; exact c.len, by rw [e]; exact c.top, by rw [e]; exact c.bot, ht, by omega, fun p h1 h2 => by rw [e]; exact c.slots p h1 (by omega)⟩, ⟨by simp [a.hlen], fun i hi => ?_, a.atN, fun i h1 h2 => ?_, fun p h1 h2 => ?_, fun p r h1 h2 h3 h4 h5 => a.inj p r h1 (by omega) h3 (by omega) h5, fun i hi => (by cases hi), by have := a.cnt; omega, by omega, by have := a.pb; omega⟩, .none, hth, n20⟩⟩))
    · rw [hset]
      by_cases e2 : vals E = i
      · rw [if_pos e2]; exact .inr rfl
      · rw [if_neg e2]; exact a.h01 i hi
    · rw [hset, if_neg (by omega)]
      exact a.hz i h1 h2
    · have h3 := a.win p h1 (by omega)
      refine ⟨h3.1, ?_⟩
      rw [hset, if_neg (fun hh => by have := a.inj E p ht (by omega) h1 (by omega) hh; omega)]
      exact h3.2
  | q3l v t eB h =>
    subst eB
    have hmb := Nat.mod_lt t (show n > 0 by omega)
    obtain ⟨m1, g, e⟩ := dgo_load (s := ⟨3, n, 1, 3, false, false, v, (t : Int), (t : Int), false⟩) (m := m) (3 + 2 + t % n) rfl (by rw [← dslot_nat]; simp [DQ.next]) (by omega)
    have hd := dif_any (t : Int) (t : Int) (by omega) (by omega)
    have hc : ¬ dif (t : Int) (t : Int) < 0 := by rw [hd]; omega
    rw [show DQ.took ⟨3, n, 1, 3, false, false, v, (t : Int), (t : Int), false⟩ (nth m.L (3 + 2 + t % n)) false = ⟨3, n, 1, 4, false, false, nth m.L (3 + 2 + t % n), (t : Int), (t : Int), false⟩ by simp [DQ.took, hc]] at g
    rw [g]
    exact .inl ⟨rfl, rfl, ⟨by dsimp only; omega, by dsimp only; omega⟩, T, t + 1, _, vals, _, _, _, _, ⟨by rw [e]; exact c, a, .q4 _ t rfl h (fun e1 => c.slots t (by omega) (by omega)), hth, n20⟩⟩
  | q4 v t eB h hv =>
    subst eB
    have hw := wrap_pred t (by omega)
    by_cases e1 : t = T
    · subst e1
      obtain ⟨m1, g, e⟩ := dgo_cas (s := ⟨3, n, 1, 4, false, false, v, (t : Int), (t : Int), false⟩) (m := m) 3 (t : Int) ((t + 1 : Nat) : Int) rfl (by rw [← wrap_small t (by omega)]; simp [DQ.next]) (by omega) c.top
      rw [hv rfl, show DQ.took ⟨3, n, 1, 4, false, false, 100 + (vals t : Int), (t : Int), (t : Int), false⟩ 0 true = ⟨3, n, 1, 5, false, false, 100 + (vals t : Int), (t : Int), (t : Int), true⟩ from rfl] at g
      rw [hv rfl, g]
      have key : ∀ j, nth m1.L j = if 3 = j then ((t + 1 : Nat) : Int) else nth m.L j := fun j => by rw [e, nth_set _ _ _ _ (by omega)]
      have hwin := a.win t (Nat.le_refl t) (by omega)
      have ho : DO n (t + 1) (t + 1) m1.L vals (IntKind.u64.wrap (((t + 1 : Nat) : Int) - 1)) (t + 1) (some (vals t)) 1 0 (some ⟨3, n, 1, 5, false, false, 100 + (vals t : Int), (t : Int), IntKind.u64.wrap (((t + 1 : Nat) : Int) - 1), true⟩) := .q5y (vals t) _ rfl
      rw [hw] at ho
      exact .inl ⟨rfl, rfl, ⟨by dsimp only; omega, by dsimp only; omega⟩, t + 1, t + 1, _, vals, _, _, _, _, ⟨⟨n1, n4, by rw [e]; simp [c.len], by rw [key, if_pos rfl], by rw [key, if_neg (by omega)]; exact c.bot, Nat.le_refl _, by omega, fun p h1 h2 => by omega⟩, ⟨a.hlen, a.h01, a.atN, a.hz, fun p h1 h2 => by omega, fun p r h1 h2 => by omega, fun i hi => by
        obtain rfl : vals t = i := by simpa using hi
        exact ⟨hwin.1, hwin.2, fun p h1 h2 => by omega⟩, by have := a.cnt; omega, by omega, by have := a.pb; omega⟩, ho, fun k hk => (hth k hk).keep (by omega) (fun h => by omega), n20⟩⟩
    · obtain ⟨m1, g, e⟩ := dgo_cas_no (s := ⟨3, n, 1, 4, false, false, v, (t : Int), (t : Int), false⟩) (m := m) 3 (t : Int) ((t + 1 : Nat) : Int) rfl (by rw [← wrap_small t (by omega)]; simp [DQ.next]) (by omega) (by rw [c.top]; omega)
      rw [show DQ.took ⟨3, n, 1, 4, false, false, v, (t : Int), (t : Int), false⟩ 0 false = ⟨3, n, 1, 5, false, false, v, (t : Int), (t : Int), false⟩ from rfl] at g
      rw [g]
      have ho : DO n T (t + 1) m1.L vals (IntKind.u64.wrap (((t + 1 : Nat) : Int) - 1)) (t + 1) none 0 0 (some ⟨3, n, 1, 5, false, false, v, (t : Int), IntKind.u64.wrap (((t + 1 : Nat) : Int) - 1), false⟩) := .q5n v _ (by omega)
      rw [hw] at ho
      exact .inl ⟨rfl, rfl, ⟨by dsimp only; omega, by dsimp only; omega⟩, T, t + 1, _, vals, _, _, _, _, ⟨by rw [e]; exact c, a, ho, hth, n20⟩⟩
  | q5n v top eT =>
    subst eT
    obtain ⟨m1, g, e⟩ := dgo_store (s := ⟨3, n, 1, 5, false, false, v, top, IntKind.u64.wrap ((T : Int) - 1), false⟩) (m := m) 4 (T : Int) rfl (by rw [← wrap_back T (by omega)]; simp [DQ.next, wrap_back T (show T < 2000000000 by omega)]) (by omega)
    rw [show DQ.took ⟨3, n, 1, 5, false, false, v, top, IntKind.u64.wrap ((T : Int) - 1), false⟩ 0 false = ⟨3, n, 1, 6, false, true, v, top, IntKind.u64.wrap ((T : Int) - 1), false⟩ from rfl] at g
    rw [g]
    have key : ∀ j, nth m1.L j = if 4 = j then (T : Int) else nth m.L j := fun j => by rw [e, nth_set _ _ _ _ (by omega)]
    exact .inr (.inl ⟨rfl, rfl, T, T, _, vals, _, _, _, _, ⟨⟨n1, n4, by rw [e]; simp [c.len], by rw [key, if_neg (by omega)]; exact c.top, by rw [key, if_pos rfl], Nat.le_refl _, by omega, fun p h1 h2 => by omega⟩, a, .none, hth, n20⟩⟩)
  | q5y i top eT =>
    subst eT
    obtain ⟨m1, g, e⟩ := dgo_store (s := ⟨3, n, 1, 5, false, false, 100 + (i : Int), top, IntKind.u64.wrap ((T : Int) - 1), true⟩) (m := m) 4 (T : Int) rfl (by rw [← wrap_back T (by omega)]; simp [DQ.next, wrap_back T (show T < 2000000000 by omega)]) (by omega)
    rw [show DQ.took ⟨3, n, 1, 5, false, false, 100 + (i : Int), top, IntKind.u64.wrap ((T : Int) - 1), true⟩ 0 false = ⟨3, n, 1, 6, true, true, 100 + (i : Int), top, IntKind.u64.wrap ((T : Int) - 1), true⟩ from rfl] at g
    rw [g]
    have key : ∀ j, nth m1.L j = if 4 = j then (T : Int) else nth m.L j := fun j => by rw [e, nth_set _ _ _ _ (by omega)]
    obtain ⟨i1, i2, _⟩ := a.ho i rfl
    have hset : ∀ j, nth (had.set i 1) j = if i = j then 1 else nth had j := fun j => nth_set _ _ _ _ (by rw [a.hlen]; omega)
    refine .inr (.inr (.inr ⟨rfl, rfl, rfl, i, by omega, rfl, i2, T, T, _, vals, _, _, _, _, ⟨⟨n1, n4, by rw [e]; simp [c.len], by rw [key, if_neg (by omega)]; exact c.top, by rw [key, if_pos rfl], Nat.le_refl _, by omega, fun p h1 h2 => by omega⟩, ⟨by simp [a.hlen], fun j hj => ?_, a.atN, fun j h1 h2 => ?_, fun p h1 h2 => by omega, fun p r h1 h2 => by omega, fun i hi => (by cases hi), by have := a.cnt; omega, by omega, by have := a.pb; omega⟩, .none, hth, n20⟩⟩))
    · rw [hset]
      by_cases e2 : i = j
      · rw [if_pos e2]; exact .inr rfl
      · rw [if_neg e2]; exact a.h01 j hj
    · rw [hset, if_neg (by omega)]
      exact a.hz j h1 h2

theorem new_push (h : DInv n N L none at_ th had pushed taken) (hN : at_ < N) : DInv n N L (some ⟨3, n, 0, 0, false, false, 100 + (at_ : Int), 0, 0, false⟩) (at_ + 1) th had pushed taken := by
  obtain ⟨T, B, bw, vals, E, hold, pe, q, ⟨c, a, o, hth, n20⟩⟩ := h
  cases o
  exact ⟨T, B, _, vals, _, _, _, _, ⟨c, ⟨a.hlen, a.h01, by omega, fun i h1 h2 => a.hz i (by omega) h2, fun p h1 h2 => ⟨by have := (a.win p h1 h2).1; omega, (a.win p h1 h2).2⟩, a.inj, fun i hi => by
    obtain rfl : at_ = i := by simpa using hi
    exact ⟨by omega, a.hz at_ (Nat.le_refl _) hN, fun p h1 h2 e => by have := (a.win p h1 h2).1; omega⟩, a.cnt, by have := a.bat; omega, by have := a.pb; omega⟩, .p0 at_ 0 0, hth, n20⟩⟩
theorem new_pop (h : DInv n N L none at_ th had pushed taken) (hN : at_ < N) : DInv n N L (some ⟨3, n, 1, 0, false, false, 0, 0, 0, false⟩) (at_ + 1) th had pushed taken := by
  obtain ⟨T, B, bw, vals, E, hold, pe, q, ⟨c, a, o, hth, n20⟩⟩ := h
  cases o
  exact ⟨T, B, _, vals, _, _, _, _, ⟨c, ⟨a.hlen, a.h01, by omega, fun i h1 h2 => a.hz i (by omega) h2, fun p h1 h2 => ⟨by have := (a.win p h1 h2).1; omega, (a.win p h1 h2).2⟩, a.inj, fun i hi => (by cases hi), a.cnt, by have := a.bat; omega, by have := a.pb; omega⟩, .q0 0 0 0, hth, n20⟩⟩
theorem new_thief (h : DInv n N L own at_ th had pushed taken) (k : Nat) : DInv n N L own at_ (upv th k (some ⟨3, n, 2, 0, false, false, 0, 0, 0, false⟩)) had pushed taken := by
  obtain ⟨T, B, bw, vals, E, hold, pe, q, ⟨c, a, o, hth, n20⟩⟩ := h
  refine ⟨T, B, bw, vals, E, hold, pe, q, ⟨c, a, o, fun j hj => ?_, n20⟩⟩
  by_cases e : j = k
  · rw [e, upv_same]; exact .s0 0 0 0
  · rw [upv_far _ _ _ _ e]; exact hth j hj

theorem DInv.bounds (h : DInv n N L own at_ th had pushed taken) : at_ ≤ N ∧ N ≤ 20 ∧ had.length = N ∧ (1 ≤ n ∧ n ≤ 4) ∧ pushed ≤ 20 ∧ taken ≤ 20 := by
  obtain ⟨T, B, bw, vals, E, hold, pe, q, ⟨c, a, o, hth, n20⟩⟩ := h
  have h1 := a.atN
  have h2 := a.pb
  have h3 := a.cnt
  exact ⟨a.atN, n20, a.hlen, ⟨c.n1, c.n4⟩, by omega, by omega⟩

/-- How many steps the owner's task may still take. -/
def rank : Option DQ → Nat
  | none => 0
  | some s => 7 - s.turn.toNat

theorem rank_none (h : DInv n N L own at_ th had pushed taken) (hr : rank own = 0) : own = none := by
  obtain ⟨T, B, bw, vals, E, hold, pe, q, ⟨c, a, o, hth, n20⟩⟩ := h
  cases o with
  | none => rfl
  | _ => simp [rank] at hr

/-- The deque at rest: what is in it was pushed, and not taken. -/
structure DRest (n N : Nat) (L : List Int) (had : List Int) (pushed taken : Nat) (h : Nat) (is : List Nat) : Prop where
  at_ : DqAt L 3 n h (is.map fun (i : Nat) => 100 + (i : Int))
  hlen : had.length = N
  h01 : ∀ i, i < N → nth had i = 0 ∨ nth had i = 1
  nod : is.Nodup
  inn : ∀ i ∈ is, i < N ∧ nth had i = 0
  cnt : pushed = taken + is.length

theorem DInv.rest (h : DInv n N L none at_ th had pushed taken) : ∃ t is, t ≤ 20 ∧ is.length ≤ 4 ∧ n ≤ 4 ∧ DRest n N L had pushed taken t is := by
  obtain ⟨T, B, bw, vals, E, hold, pe, q, ⟨c, a, o, hth, n20⟩⟩ := h
  cases o
  have htb := c.tb
  have hbt := c.bt
  have hat := a.atN
  have hbat := a.bat
  have n4 := c.n4
  have hlen := c.len
  refine ⟨T, (List.range (B - T)).map fun j => vals (T + j), by omega, by simp; omega, n4, ⟨⟨by omega, c.n1, by simp; omega, by omega, c.top, by rw [c.bot]; simp; omega, fun i hi => ?_⟩, a.hlen, a.h01, ?_, fun i hi => ?_, by have := a.cnt; simp; omega⟩⟩
  · simp at hi
    rw [show 3 + 2 + (T + i) % n = 5 + (T + i) % n from rfl, c.slots (T + i) (by omega) (by omega)]
    simp [nth, hi]
  · rw [List.nodup_iff_pairwise_ne, List.pairwise_map]
    refine List.Pairwise.imp_of_mem ?_ (List.nodup_range (n := B - T))
    intro x y hx hy hne he
    have hx' := List.mem_range.1 hx
    have hy' := List.mem_range.1 hy
    have := a.inj (T + x) (T + y) (by omega) (by omega) (by omega) (by omega) he
    omega
  · obtain ⟨j, hj, rfl⟩ := List.mem_map.1 hi
    have hj' := List.mem_range.1 hj
    have := a.win (T + j) (by omega) (by omega)
    exact ⟨by omega, this.2⟩

/-- A pop for itself, the deque at rest. -/
theorem DRest.pop {m : MS} {t : Nat} {is : List Nat} (h : DRest n N m.L had pushed taken t is) (ht : t ≤ 1000) (hn : n ≤ 4) :
    ∃ s' m', DQ.run 10 ⟨3, n, 1, 0, false, false, 0, 0, 0, false⟩ m = (s', m') ∧
      (is = [] ∧ dRun s' = .tuple #[.int .u64 0, .bool false] ∧ DRest n N m'.L had pushed taken t [] ∨
      ∃ (is' : List Nat) (i : Nat), is = is' ++ [i] ∧ dRun s' = .tuple #[.int .u64 (100 + (i : Int)), .bool true] ∧ i < N ∧ nth had i = 0 ∧ ∃ t', t' ≤ t + 1 ∧ DRest n N m'.L (had.set i 1) pushed (taken + 1) t' is') := by
  obtain ⟨hat, hlen, h01, nod, inn, cnt⟩ := h
  rcases List.eq_nil_or_concat is with rfl | ⟨is', i, rfl⟩
  · obtain ⟨s', m', g, r, d⟩ := dq_pop0 hat
    exact ⟨s', m', g, .inl ⟨rfl, r, ⟨d, hlen, h01, nod, inn, cnt⟩⟩⟩
  · rw [List.concat_eq_append] at *
    rw [List.map_append] at hat
    have hi := inn i (by simp)
    have hset : ∀ j, nth (had.set i 1) j = if i = j then 1 else nth had j := fun j => nth_set _ _ _ _ (by rw [hlen]; exact hi.1)
    have rest : ∀ {L : List Int} {t' : Nat}, DqAt L 3 n t' (is'.map fun (i : Nat) => 100 + (i : Int)) → DRest n N L (had.set i 1) pushed (taken + 1) t' is' := fun hd => by
      rw [List.nodup_append] at nod
      refine ⟨hd, by simp [hlen], fun j hj => ?_, nod.1, fun j hj => ⟨(inn j (by simp [hj])).1, ?_⟩, by simp at cnt; omega⟩
      · rw [hset]
        by_cases e : i = j
        · rw [if_pos e]; exact .inr rfl
        · rw [if_neg e]; exact h01 j hj
      · rw [hset, if_neg (fun e => nod.2.2 j hj i (by simp) e.symm)]
        exact (inn j (by simp [hj])).2
    by_cases h0 : is' = []
    · subst h0
      obtain ⟨s', m', g, r, d⟩ := dq_pop1 hat (by omega)
      exact ⟨s', m', g, .inr ⟨[], i, rfl, r, hi.1, hi.2, t + 1, Nat.le_refl _, rest d⟩⟩
    · have hp : 0 < (is'.map fun (i : Nat) => 100 + (i : Int)).length := by
        rw [List.length_map]
        exact List.length_pos_iff.2 h0
      obtain ⟨s', m', g, r, d⟩ := dq_pop2 hat hp
      exact ⟨s', m', g, .inr ⟨is', i, rfl, r, hi.1, hi.2, t, by omega, rest d⟩⟩
end

end Go.Proofs.Ytoecoijmkjhkgaa
