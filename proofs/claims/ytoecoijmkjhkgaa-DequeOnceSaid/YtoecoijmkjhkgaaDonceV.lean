/- The contracts of law 07's world on all that holds of it. -/
import Derived.Test.YtoecoijmkjhkgaaDonceU
namespace Go.Proofs.Ytoecoijmkjhkgaa
open Go.RowKit

section
variable {w wr : World} {mb ms xb hb lb n N : Nat} {cs : Array Value} {r : Nat}

theorem stOf_upv (t : Nat → Tk) (k : Nat) (x : Tk) : (fun j => stOf (upv t k x j)) = upv (fun j => stOf (t j)) k (stOf x) := funext fun j => by
  by_cases e : j = k
  · rw [e, upv_same, upv_same]
  · rw [upv_far _ _ _ _ e, upv_far _ _ _ _ e]

theorem owner7 (h : W7 w wr mb ms xb hb lb n N cs r) (A : Option Addr) (l : List Int) (cap : Nat) (hr : ReadsB w A l) (hl : l.length ≤ N) (hby : ∀ i, i < l.length → 0 ≤ nth l i ∧ nth l i ≤ 255) :
    Calls Try.prog 27 #[.pointer (some ⟨xb, 0, none⟩), .slice A l.length cap] wr fun e w' => e = .returned (.tuple #[]) ∧ ∃ r', W7 w w' mb ms xb hb lb n N cs r' ∧ (l = [] → r' + 1 ≤ r ∨ r' = 0) := by
  obtain ⟨m, t, pops, at_, had, pushed, taken, hw, hd, hp, hrk⟩ := h
  obtain ⟨b1, b2, b3, b4, b5, b6⟩ := hd.bounds
  have hR : dequeRight 3 n := ⟨⟨by omega, by omega⟩, by omega, by omega⟩
  cases ht : t 3 with
  | none =>
    rw [ht] at hd hrk
    by_cases hat : l.length ≤ at_
    · refine (owner_idle hw ht A l.length cap hat).mono ?_
      rintro e w' ⟨rfl, rfl⟩
      exact ⟨rfl, 0, ⟨m, t, pops, at_, had, pushed, taken, hw, by rw [ht]; exact hd, hp, by rw [ht]; rfl⟩, fun _ => .inr rfl⟩
    · have hx := hby at_ (by omega)
      have hne : l ≠ [] := fun e => by rw [e] at hat; simp at hat
      by_cases hm : nth l at_ % 2 = 1
      · refine (owner_pop hw ht hR A l cap hr (by omega) (by omega) hx.1 hx.2 hm).mono ?_
        rintro e w' ⟨rfl, b, kb, hw'⟩
        refine ⟨rfl, _, ⟨m, _, true, at_ + 1, had, pushed, taken, hw', ?_, fun b' kb' s' e => ?_, rfl⟩, fun e => absurd e hne⟩
        · rw [upv_same]
          exact (new_pop hd (by omega)).congr fun k hk => by rw [upv_far _ _ _ _ (by omega)]
        · rw [upv_same] at e
          obtain ⟨_, _, rfl⟩ : b = b' ∧ kb = kb' ∧ _ = s' := by simpa using e
          rfl
      · refine (owner_push hw ht hR A l cap hr (by omega) (by omega) hx.1 hx.2 hm).mono ?_
        rintro e w' ⟨rfl, b, kb, hw'⟩
        refine ⟨rfl, _, ⟨m, _, false, at_ + 1, had, pushed, taken, hw', ?_, fun b' kb' s' e => ?_, rfl⟩, fun e => absurd e hne⟩
        · rw [upv_same]
          exact (new_push hd (by omega)).congr fun k hk => by rw [upv_far _ _ _ _ (by omega)]
        · rw [upv_same] at e
          obtain ⟨_, _, rfl⟩ : b = b' ∧ kb = kb' ∧ _ = s' := by simpa using e
          rfl
  | some x =>
    obtain ⟨b, kb, s⟩ := x
    rw [ht] at hd hrk
    have hpp := hp b kb s ht
    have hok := (hw.is 3 (by decide) b kb s ht).1.ok
    obtain ⟨s', m', hgo⟩ : ∃ s' m', s.go m = (s', m') := ⟨_, _, rfl⟩
    have hstep := own_go hd
    rw [hgo] at hstep
    dsimp only at hstep
    have hs0 := hok.u0
    have cg : ∀ (x : Tk) {L : List Int} {own : Option DQ} {had : List Int} {pushed taken : Nat}, DInv n N L own at_ (fun k => stOf (t k)) had pushed taken → DInv n N L own at_ (fun k => stOf (upv t 3 x k)) had pushed taken := fun x _ _ _ _ _ h => h.congr fun k hk => by rw [upv_far _ _ _ _ (by omega)]
    rcases hstep with ⟨d1, d2, ⟨d3, d4⟩, hd'⟩ | ⟨d1, d2, hd'⟩ | ⟨d1, d2, d3, hd'⟩ | ⟨d1, d2, d3, i, hi, hv, h0, hd'⟩
    · refine (owner_go hw ht hgo d1 A l.length cap).mono ?_
      rintro e w' ⟨rfl, hw'⟩
      refine ⟨rfl, _, ⟨m', _, pops, at_, had, pushed, taken, hw', by rw [upv_same]; exact cg _ hd', fun b' kb' s2 e => ?_, rfl⟩, fun _ => .inl ?_⟩
      · rw [upv_same] at e
        obtain ⟨_, _, rfl⟩ : b = b' ∧ kb = kb' ∧ s' = s2 := by simpa using e
        rw [hpp, d2]
      · rw [upv_same]
        simp only [stOf, Option.map_some, rank] at hrk ⊢
        omega
    · refine (owner_no hw ht hgo d1 A l.length cap d2).mono ?_
      rintro e w' ⟨rfl, hw'⟩
      exact ⟨rfl, 0, ⟨m', _, pops, at_, had, pushed, taken, hw', by rw [upv_same]; exact cg _ hd', fun b' kb' s2 e => (by rw [upv_same] at e; cases e), by rw [upv_same]; rfl⟩, fun _ => .inr rfl⟩
    · have hpf : pops = false := by rw [hpp, d3]; rfl
      refine (owner_pushed (by omega) hw ht hgo d1 A l.length cap d2 hpf).mono ?_
      rintro e w' ⟨rfl, hw'⟩
      exact ⟨rfl, 0, ⟨m', _, pops, at_, had, pushed + 1, taken, hw', by rw [upv_same]; exact cg _ hd', fun b' kb' s2 e => (by rw [upv_same] at e; cases e), by rw [upv_same]; rfl⟩, fun _ => .inr rfl⟩
    · have hpt : pops = true := by rw [hpp, d3]; rfl
      refine (owner_popped hw ht hgo d1 A l.length cap d2 hpt hi h0 hv b3 b2 (by omega)).mono ?_
      rintro e w' ⟨rfl, hw'⟩
      exact ⟨rfl, 0, ⟨m', _, pops, at_, had.set i 1, pushed, taken + 1, hw', by rw [upv_same]; exact cg _ hd', fun b' kb' s2 e => (by rw [upv_same] at e; cases e), by rw [upv_same]; rfl⟩, fun _ => .inr rfl⟩

theorem thief7 (h : W7 w wr mb ms xb hb lb n N cs r) (k : Nat) (hk : k < 3) :
    Calls Try.prog 28 #[.pointer (some ⟨xb, 0, none⟩), .int .i64 k] wr fun e w' => e = .returned (.tuple #[]) ∧ W7 w w' mb ms xb hb lb n N cs r := by
  obtain ⟨m, t, pops, at_, had, pushed, taken, hw, hd, hp, hrk⟩ := h
  obtain ⟨b1, b2, b3, b4, b5, b6⟩ := hd.bounds
  have hR : dequeRight 3 n := ⟨⟨by omega, by omega⟩, by omega, by omega⟩
  have done : ∀ {w' : World} {m' : MS} {x : Tk} {had' : List Int} {taken' : Nat}, WSt w w' mb ms xb hb lb n N cs m' (upv t k x) pops at_ had' pushed taken' → DInv n N m'.L (stOf (t 3)) at_ (upv (fun j => stOf (t j)) k (stOf x)) had' pushed taken' → W7 w w' mb ms xb hb lb n N cs r := fun {w' m' x had' taken'} hw' hd' => by
    have e3 : upv t k x 3 = t 3 := upv_far _ _ _ _ (by omega)
    exact ⟨m', _, pops, at_, had', pushed, taken', hw', by rw [e3, stOf_upv]; exact hd', by rw [e3]; exact hp, by rw [e3]; exact hrk⟩
  cases ht : t k with
  | none =>
    have go : Calls Try.prog 28 #[.pointer (some ⟨xb, 0, none⟩), .int .i64 k] wr fun e w' => e = .returned (.tuple #[]) ∧ ∃ b kb, WSt w w' mb ms xb hb lb n N cs m (upv t k (some (b, kb, ⟨3, n, 2, 0, false, false, 0, 0, 0, false⟩))) pops at_ had pushed taken := by
      rcases (show k = 0 ∨ k = 1 ∨ k = 2 by omega) with rfl | rfl | rfl
      · exact thief_new0 hw ht hR
      · exact thief_new1 hw ht hR
      · exact thief_new2 hw ht hR
    refine go.mono ?_
    rintro e w' ⟨rfl, b, kb, hw'⟩
    exact ⟨rfl, done hw' (new_thief hd k)⟩
  | some x =>
    obtain ⟨b, kb, s⟩ := x
    obtain ⟨s', m', hgo⟩ : ∃ s' m', s.go m = (s', m') := ⟨_, _, rfl⟩
    have hstep := thief_go hd hk (show (fun j => stOf (t j)) k = some s by show stOf (t k) = _; rw [ht]; rfl)
    rw [hgo] at hstep
    dsimp only at hstep
    rcases hstep with ⟨d1, hd'⟩ | ⟨d1, d2, hd'⟩ | ⟨d1, d2, i, hi, hv, h0, hd'⟩
    · have go : Calls Try.prog 28 #[.pointer (some ⟨xb, 0, none⟩), .int .i64 k] wr fun e w' => e = .returned (.tuple #[]) ∧ WSt w w' mb ms xb hb lb n N cs m' (upv t k (some (b, kb, s'))) pops at_ had pushed taken := by
        rcases (show k = 0 ∨ k = 1 ∨ k = 2 by omega) with rfl | rfl | rfl
        · exact thief_go0 hw ht hgo d1
        · exact thief_go1 hw ht hgo d1
        · exact thief_go2 hw ht hgo d1
      refine go.mono ?_
      rintro e w' ⟨rfl, hw'⟩
      exact ⟨rfl, done hw' hd'⟩
    · have go : Calls Try.prog 28 #[.pointer (some ⟨xb, 0, none⟩), .int .i64 k] wr fun e w' => e = .returned (.tuple #[]) ∧ WSt w w' mb ms xb hb lb n N cs m' (upv t k none) pops at_ had pushed taken := by
        rcases (show k = 0 ∨ k = 1 ∨ k = 2 by omega) with rfl | rfl | rfl
        · exact thief_no0 hw ht hgo d1 d2
        · exact thief_no1 hw ht hgo d1 d2
        · exact thief_no2 hw ht hgo d1 d2
      refine go.mono ?_
      rintro e w' ⟨rfl, hw'⟩
      exact ⟨rfl, done hw' hd'⟩
    · have go : Calls Try.prog 28 #[.pointer (some ⟨xb, 0, none⟩), .int .i64 k] wr fun e w' => e = .returned (.tuple #[]) ∧ WSt w w' mb ms xb hb lb n N cs m' (upv t k none) pops at_ (had.set i 1) pushed (taken + 1) := by
        rcases (show k = 0 ∨ k = 1 ∨ k = 2 by omega) with rfl | rfl | rfl
        · exact thief_has0 hw ht hgo d1 d2 hi h0 hv b3 b2 (by omega)
        · exact thief_has1 hw ht hgo d1 d2 hi h0 hv b3 b2 (by omega)
        · exact thief_has2 hw ht hgo d1 d2 hi h0 hv b3 b2 (by omega)
      refine go.mono ?_
      rintro e w' ⟨rfl, hw'⟩
      exact ⟨rfl, done hw' hd'⟩
end

end Go.Proofs.Ytoecoijmkjhkgaa
