/- The walk of whole of law 04. -/
import Derived.Test.YtnoplfjodedijaaLight
namespace Go.Proofs.Ytnoplfjodedijaa
open Go.RowKit

set_option maxHeartbeats 2000000 in
set_option maxRecDepth 100000 in
theorem whole_wait (w : World) (b : Nat) (sl : Value) (s : RS) (n most : Int) (h : IsR w b sl s) (hd : ¬ s.turn = s.n + 2) :
    Calls Try.prog 38 #[.pointer (some ⟨b, 0, none⟩), .int .i64 n, .int .i64 most] w fun e w' => e = .returned (.bool true) ∧ Only [] w w' := by
  have H := Lib.hid h
  clear h
  go_enter Try.func38, Try.ntmps38
  go_wp2_with fail
  refine (values_wait _ b sl s H.out hd).mono ?_
  rintro e w1 ⟨rfl, ho⟩
  have HO := Lib.hid ho
  clear ho
  go_wp2_with fail
  go_ret
  exact ⟨rfl, HO.out⟩

set_option maxHeartbeats 2000000 in
set_option maxRecDepth 100000 in
theorem whole_done (w : World) (b : Nat) (sl : Value) (s : RS) (n : Nat) (N : Nat) (y : Int) (h : IsR w b sl s) (hd : s.turn = s.n + 2) (hb : s.bad = false) (hl : s.vals.length = n) (n1 : 1 ≤ n) (n16 : n ≤ 16) (hN : N ≤ 6) (y0 : 0 ≤ y) (y1 : y ≤ N) (hy : ∀ i, i < n → nth s.vals i = y) :
    Calls Try.prog 38 #[.pointer (some ⟨b, 0, none⟩), .int .i64 n, .int .i64 N] w fun e w' => e = .returned (.bool true) ∧ Only [] w w' := by
  subst hl
  have H := Lib.hid h
  have HY := Lib.hid hy
  clear h hy
  go_enter Try.func38, Try.ntmps38
  go_wp2_with fail
  refine (values_told _ b sl s H.out hd hb).mono ?_
  rintro e w1 ⟨v, rfl, ho, hv⟩
  have HO := Lib.hid ho
  obtain ⟨g, cap, cur, rfl, _, hblk, hc⟩ := row_cells hv (by omega)
  have HC : Hid (∀ i, i < s.vals.length → w1.cell? ⟨g, i, none⟩ = some (.int .u64 y)) := Lib.hid fun i hi => by
    refine hblk.at i ?_
    rw [hc i (by omega)]
    have := HY.out i hi
    simp [nth, hi] at this
    simp [hi, this]
  have p0 : w1.cell? ⟨g, 0, none⟩ = some (.int .u64 y) := HC.out 0 (by omega)
  clear ho hv hblk hc
  go_wp2_with fail
  go_loopw [9] (fun i wx => ∃ k : Nat, k ≤ s.vals.length ∧ i = .int .i64 k ∧ Only [] w1 wx) (fun i _ => s.vals.length - (intOf i).toNat)
  case atStart => exact ⟨0, by omega, rfl, Only.refl _ _⟩
  case round =>
    obtain ⟨k, hk, rfl, ho⟩ := hrel
    have HO2 := Lib.hid ho
    have HW := Lib.hid (HO.out.trans ho)
    clear p0
    have glt := (cell_lt (HC.out 0 (by omega))).1
    by_cases hlt : k < s.vals.length
    · have hlti : (k : Int) < s.vals.length := by omega
      have p0 := (ho.cell (p := ⟨g, 0, none⟩) glt (by simp)).trans (HC.out 0 (by omega))
      have pk := (ho.cell (p := ⟨g, k, none⟩) glt (by simp)).trans (HC.out k hlt)
      have hmost : ¬ (N : Int) < y := by omega
      have hwrap : IntKind.u64.wrap (N : Int) = N := by rw [IntKind.wrap_u64]; omega
      clear ho
      go_wp2_with fail
      go_region
      all_goals
        go_wp2_with fail
        exact ⟨⟨k + 1, by omega, by go_num, HO2.out.drew⟩, by simp [intOf]; omega⟩
    · have hlti : ¬ (k : Int) < s.vals.length := by omega
      clear ho
      go_wp2_with fail
      go_ret
      exact ⟨by simp, HW.out⟩

end Go.Proofs.Ytnoplfjodedijaa
