/- The walk of law RingRoom. -/
import Derived.Test.YtoecoijmkjhkgaaKnown6W
namespace Go.Proofs.Ytoecoijmkjhkgaa
open Go.RowKit

/-- c numbers from 100 k + lo on. -/
def rowQ (k lo c : Nat) : List Int := (List.range c).map fun j => 100 * (k : Int) + ((lo + j : Nat) : Int)
theorem rowQ_length (k lo c : Nat) : (rowQ k lo c).length = c := by simp [rowQ]
theorem rowQ_push (k c : Nat) : rowQ k 0 c ++ [100 * (k : Int) + (c : Int)] = rowQ k 0 (c + 1) := by
  unfold rowQ
  rw [List.range_succ, List.map_append]
  simp
theorem rowQ_pop (k lo c : Nat) : rowQ k lo (c + 1) = (100 * (k : Int) + (lo : Int)) :: rowQ k (lo + 1) c := by
  unfold rowQ
  rw [List.range_succ_eq_map, List.map_cons, List.map_map]
  congr 1
  refine List.map_congr_left fun j _ => ?_
  simp
  omega

set_option maxHeartbeats 4000000 in
set_option maxRecDepth 100000 in
theorem ringroom_walk (w : World) (a r : Int) (a0 : 0 ≤ a) (a1 : a ≤ 255) (r0 : 0 ≤ r) (r1 : r ≤ 255) : Calls Try.prog 5 #[.int .u8 a, .int .u8 r] w fun e w' => e = .returned (.bool true) ∧ Only [] w w' := by
  obtain ⟨n, hn⟩ : ∃ n : Nat, 2 + a % 63 = (n : Int) := ⟨(2 + a % 63).toNat, by omega⟩
  obtain ⟨K, hK⟩ : ∃ K : Nat, 1 + r % 4 = (K : Int) := ⟨(1 + r % 4).toNat, by omega⟩
  have n2 : 2 ≤ n := by omega
  have n64 : n ≤ 64 := by omega
  have K4 : K ≤ 4 := by omega
  go_enter Try.func5, Try.ntmps5
  go_wp2_with fail
  refine (new_any _ 200 (by omega) (by omega)).mono ?_
  rintro e w1 ⟨mb, ms, rfl, hb, hs, ho, hm⟩
  have HB := Lib.hid (And.intro hb hs)
  have HL := Lib.hid (Blk.new w1 32 #[.int .i64 5, .int .i64 n])
  have HM := Lib.hid (hm.same' ((Only.refl [] w1).alloc (.cells #[.int .i64 5, .int .i64 n] 32)))
  have HO := Lib.hid (ho.alloc (.cells #[.int .i64 5, .int .i64 n] 32))
  clear hb hs ho hm
  go_wp2_with fail
  refine (rg_init (a := 5) (n := n) HM.out (new_rng 200) (by simp [MS.new]; omega) (by omega) (by omega) (by omega)).mono ?_
  rintro e w2 ⟨rfl, ho, hr⟩
  have HR : Hid (Rg w w2 mb ms w1.heap.size 200 5 n (n * 0) []) := Lib.hid ⟨HO.out.then ho (fun x hx => by have := HB.out; simp at hx; omega), HB.out, HL.out.only ho (by have := HL.out.ne HM.out.obj (by decide); have := HL.out.ne HM.out.row (by decide); simp; omega), hr⟩
  clear ho hr HM HO HL
  go_wp2_with fail
  go_loopw [9] (fun i wr => ∃ k : Nat, k ≤ K ∧ i = .int .i64 k ∧ Rg w wr mb ms w1.heap.size 200 5 n (n * k) []) (fun i _ => K - (intOf i).toNat)
  case atStart => exact ⟨0, by omega, rfl, HR.out⟩
  case round =>
    clear HR
    obtain ⟨k, hk, rfl, hr⟩ := hrel
    have HR := Lib.hid hr
    clear hr
    by_cases hlt : k < K
    · have hlti : (k : Int) < K := by omega
      go_wp2_with fail
      go_loopw [10] (fun i wr => ∃ j : Nat, j ≤ n + 1 ∧ i = .int .i64 j ∧ Rg w wr mb ms w1.heap.size 200 5 n (n * k) (rowQ k 0 (min j n))) (fun i _ => n + 1 - (intOf i).toNat)
      case atStart => exact ⟨0, by omega, rfl, by rw [Nat.zero_min]; exact HR.out⟩
      case round =>
        clear HR
        obtain ⟨j, hj, rfl, hr⟩ := hrel
        have HR := Lib.hid hr
        have l0 := hr.lock.at 0 (v := .int .i64 5) rfl
        have l1 := hr.lock.at 1 (v := .int .i64 n) rfl
        clear hr
        by_cases hjn : j < n
        · have hjni : (j : Int) < n := by omega
          have hjle : (j : Int) ≤ n := by omega
          have hmin : min j n = j := by omega
          have hmin1 : min (j + 1) n = j + 1 := by omega
          rw [hmin] at HR
          have HM1 := Lib.hid hmin1
          clear hmin hmin1
          go_wp2_with fail
          refine (rg_push (100 * (k : Int) + (j : Int)) HR.out.ring (by omega) (by omega) (by omega) (by omega) (by rw [rowQ_length]; exact hjn)).mono ?_
          rintro e w3 ⟨rfl, ho, hr⟩
          rw [rowQ_push] at hr
          have HR := Lib.hid (HR.out.go ho hr)
          clear ho hr l0 l1
          go_wp2_with fail
          exact ⟨⟨j + 1, by omega, by go_num, by rw [HM1.out]; exact HR.out⟩, by simp [intOf]; omega⟩
        · have hjni : ¬ (j : Int) < n := by omega
          by_cases hje : j = n
          · have hjle : (j : Int) ≤ n := by omega
            have hmin : min j n = n := by omega
            have hmin1 : min (j + 1) n = n := by omega
            rw [hmin] at HR
            have HM1 := Lib.hid hmin1
            have hjb : ((j : Int) < n) = False := eq_false hjni
            clear hmin hmin1 hje
            go_wp2_with fail
            refine (rg_full (100 * (k : Int) + (j : Int)) HR.out.ring (by omega) (by omega) (by omega) (by omega) (by rw [rowQ_length])).mono ?_
            rintro e w3 ⟨rfl, ho, hr⟩
            have HR := Lib.hid (HR.out.go ho hr)
            clear ho hr l0 l1
            go_wp2_with fail
            exact ⟨⟨j + 1, by omega, by go_num, by rw [HM1.out]; exact HR.out⟩, by simp [intOf]; omega⟩
          · have hjle : ¬ (j : Int) ≤ n := by omega
            have hmin : min j n = n := by omega
            rw [hmin] at HR
            clear hmin l0 l1
            go_wp2_with fail
            go_loopw [11] (fun i wr => ∃ j : Nat, j ≤ n + 1 ∧ i = .int .i64 j ∧ Rg w wr mb ms w1.heap.size 200 5 n (n * k + min j n) (rowQ k (min j n) (n - min j n))) (fun i _ => n + 1 - (intOf i).toNat)
            case atStart => exact ⟨0, by omega, rfl, by rw [Nat.zero_min]; exact HR.out⟩
            case round =>
              clear HR hjni hje hjle
              obtain ⟨j, hj, rfl, hr⟩ := hrel
              have HR := Lib.hid hr
              have l0 := hr.lock.at 0 (v := .int .i64 5) rfl
              have l1 := hr.lock.at 1 (v := .int .i64 n) rfl
              clear hr
              by_cases hjn : j < n
              · have hjni : (j : Int) < n := by omega
                have hjle : (j : Int) ≤ n := by omega
                have HR2 : Hid (Rg w wr mb ms w1.heap.size 200 5 n (n * k + j) ((100 * (k : Int) + (j : Int)) :: rowQ k (j + 1) (n - (j + 1)))) := Lib.hid (by
                  have := HR.out
                  rw [show min j n = j by omega, show n - j = n - (j + 1) + 1 by omega, rowQ_pop] at this
                  exact this)
                have HM1 := Lib.hid (show min (j + 1) n = j + 1 by omega)
                have hnk : n * k ≤ 64 * 4 := Nat.mul_le_mul n64 (by omega)
                have HH := Lib.hid (show n * k + j < 1000000 by omega)
                clear hnk
                go_wp2_with fail
                refine (rg_pop HR2.out.ring (by omega) (by omega) HH.out).mono ?_
                rintro e w3 ⟨rfl, ho, hr⟩
                have HR := Lib.hid (HR2.out.go ho hr)
                clear ho hr l0 l1
                go_wp2_with fail
                exact ⟨⟨j + 1, by omega, by go_num, by rw [HM1.out]; exact HR.out⟩, by simp [intOf]; omega⟩
              · have hjni : ¬ (j : Int) < n := by omega
                by_cases hje : j = n
                · have hjle : (j : Int) ≤ n := by omega
                  have HR2 : Hid (Rg w wr mb ms w1.heap.size 200 5 n (n * k + n) []) := Lib.hid (by
                    have := HR.out
                    rw [show min j n = n by omega, Nat.sub_self] at this
                    exact this)
                  have HM1 := Lib.hid (show min (j + 1) n = n by omega)
                  have hjl := Lib.hid hje
                  clear hje
                  go_wp2_with fail
                  refine (rg_empty HR2.out.ring (by omega) (by omega)).mono ?_
                  rintro e w3 ⟨rfl, ho, hr⟩
                  have HR := Lib.hid (HR2.out.go ho hr)
                  clear ho hr l0 l1
                  go_wp2_with fail
                  exact ⟨⟨j + 1, by omega, by go_num, by rw [HM1.out, Nat.sub_self]; exact HR.out⟩, by simp [intOf]; omega⟩
                · have hjle : ¬ (j : Int) ≤ n := by omega
                  have HR2 : Hid (Rg w wr mb ms w1.heap.size 200 5 n (n * (k + 1)) []) := Lib.hid (by
                    have := HR.out
                    rw [show min j n = n by omega, Nat.sub_self] at this
                    exact this)
                  clear l0 l1
                  go_wp2_with fail
                  exact ⟨⟨k + 1, by omega, by go_num, HR2.out⟩, by simp [intOf]; omega⟩
    · have hlti : ¬ (k : Int) < K := by omega
      go_wp2_with fail
      refine (known06 _).mono ?_
      rintro e w5 ⟨rfl, ho⟩
      have HO := Lib.hid (HR.out.out.trans ho)
      clear ho
      go_wp2_with fail
      go_ret
      exact ⟨rfl, HO.out⟩

end Go.Proofs.Ytoecoijmkjhkgaa
