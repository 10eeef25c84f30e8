/- The walk of MemCas. -/
import Derived.Test.YtabbnfodolekpaaKnown02
import Derived.Test.YtabbnfodolekpaaPlain02
namespace Go.Proofs.Ytabbnfodolekpaa
open Go.RowKit

theorem wrapu (n : Int) (h0 : 0 ≤ n) (h1 : n < 18446744073709551616) : IntKind.u64.wrap n = n := by
  simp [IntKind.wrap, IntKind.signed, IntKind.bits]; omega

/-- What stands before the loop: of two that lay a word, one does. -/
theorem cas_two (v a b : Int) : ∃ c1 l1 c2 l2 c3 l3 c4 l4, (MS.new (Int.toNat 2)).store 0 v = (⟨[v, 0], c1, l1⟩, 0) ∧ (⟨[v, 0], c1, l1⟩ : MS).cas 0 v a = (⟨[a, 0], c2, l2⟩, true, 0) ∧
    (⟨[a, 0], c2, l2⟩ : MS).cas 0 v b = (⟨[if a = v then b else a, 0], c3, l3⟩, decide (a = v), 0) ∧ (⟨[if a = v then b else a, 0], c3, l3⟩ : MS).load 0 = (⟨[if a = v then b else a, 0], c4, l4⟩, if a = v then b else a, 0) := by
  have hn : (MS.new (Int.toNat 2)).L = [0, 0] := rfl
  have e1 : (MS.new (Int.toNat 2)).store 0 v = (⟨[v, 0], wrap64 (0 + 1), wrap64 (0 + 1)⟩, 0) := by simp [MS.store, MS.has, MS.new]
  by_cases h : a = v
  · exact ⟨_, _, _, _, _, _, _, _, e1, by simp [MS.cas, MS.has, nth]; exact ⟨rfl, rfl⟩, by simp [MS.cas, MS.has, nth, h]; exact ⟨rfl, rfl⟩, by simp [MS.load, MS.has, nth]; exact ⟨rfl, rfl⟩⟩
  · exact ⟨_, _, _, _, _, _, _, _, e1, by simp [MS.cas, MS.has, nth]; exact ⟨rfl, rfl⟩, by simp [MS.cas, MS.has, nth, h]; exact ⟨rfl, rfl⟩, by simp [MS.load, MS.has, nth]; exact ⟨rfl, rfl⟩⟩

theorem add_one (x c l : Int) (k : Nat) (hk : k ≤ 255) : (⟨[x, (k : Int)], c, l⟩ : MS).add 1 1 = (⟨[x, ((k + 1 : Nat) : Int)], wrap64 (c + 1), wrap64 (l + 1)⟩, (k : Int), 0) := by
  have h : IntKind.u64.wrap ((k : Int) + 1) = ((k + 1 : Nat) : Int) := by rw [wrapu _ (by omega) (by omega)]; simp
  simp [MS.add, MS.has, nth, h]

set_option maxHeartbeats 1000000 in
set_option maxRecDepth 100000 in
theorem memcas_walk (w : World) (v a b n : Int) (h0 : 0 ≤ n) (h1 : n ≤ 255) :
    Calls Try.prog 4 #[.agg #[.int .u64 v, .int .u64 a, .int .u64 b], .int .u8 n] w fun e w' => e = .returned (.bool true) ∧ Only [] w w' := by
  obtain ⟨c1, l1, c2, l2, c3, l3, c4, l4, e1, e2, e3, e4⟩ := cas_two v a b
  generalize hx : (if a = v then b else a) = x at *
  have HX := Lib.hid hx
  clear hx
  have E := Lib.hid (And.intro e1 (And.intro e2 (And.intro e3 e4)))
  clear e1 e2 e3 e4
  go_enter Try.func4, Try.ntmps4
  go_wp2_with fail
  refine (new_any _ 2 (by omega) (by omega)).mono ?_
  rintro e w1 ⟨bb, s, rfl, hb, hs, ho, hm⟩
  have hb' : w.heap.size ≤ bb ∧ w.heap.size ≤ s := by simp at hb hs; omega
  have HB := Lib.hid hb'
  have HO := Lib.hid (((Only.refl [] w).alloc _).trans ho)
  have HM := Lib.hid hm
  clear hb hs ho hm hb'
  go_wp2_with fail
  refine (store_to HM.out E.out.1).mono ?_
  rintro e w2 ⟨rfl, ho, hm⟩
  have HO2 := Lib.hid (HO.out.then ho (by simp; exact HB.out))
  have HM2 := Lib.hid hm
  clear ho hm HO HM
  go_wp2_with fail
  refine (cas_to HM2.out E.out.2.1).mono ?_
  rintro e w3 ⟨rfl, ho, hm⟩
  have HO3 := Lib.hid (HO2.out.then ho (by simp; exact HB.out))
  have HM3 := Lib.hid hm
  clear ho hm HO2 HM2
  go_wp2_with fail
  refine (cas_to HM3.out E.out.2.2.1).mono ?_
  rintro e w4 ⟨rfl, ho, hm⟩
  have HO4 := Lib.hid (HO3.out.then ho (by simp; exact HB.out))
  have HM4 := Lib.hid hm
  clear ho hm HO3 HM3
  go_wp2_with fail
  refine (load_to HM4.out E.out.2.2.2).mono ?_
  rintro e w5 ⟨rfl, ho, hm⟩
  have HO5 := Lib.hid (HO4.out.then ho (by simp; exact HB.out))
  have HM5 := Lib.hid hm
  clear ho hm HO4 HM4 E
  obtain ⟨ok, hok⟩ : ∃ ok, ok = decide (a = v) := ⟨_, rfl⟩
  have key : ok = (a == v) ∧ (ok = true → x = b) ∧ (ok = false → x = a) := by
    rw [hok, ← HX.out]
    by_cases h : a = v
    · simp [h]
    · simp [h]
  rw [← hok]
  clear hok
  cases ok
  · have t0 : (a == v) = false := key.1.symm
    have t2 : (x != a) = false := by simp [key.2.2 rfl]
    clear key
    go_wp2
    go_loopw [16] (fun i wr => ∃ (k : Nat) (y c l : Int), (k : Int) ≤ n ∧ i = .int .i64 k ∧ Only [] w wr ∧ IsMem wr bb s ⟨[y, (k : Int)], c, l⟩) (fun i _ => 256 - (intOf i).toNat)
    case atStart => exact ⟨0, _, _, _, h0, rfl, HO5.out, HM5.out⟩
    case round =>
      obtain ⟨k, y, c, l, hk, rfl, ho, hm⟩ := hrel
      by_cases hlt : (k : Int) < n
      · have hk0 : (0 : Int) ≤ (k : Int) := by omega
        have HO6 := Lib.hid ho
        have HM6 := Lib.hid hm
        clear ho hm
        go_wp2_with fail
        refine (add_to HM6.out (add_one y c l k (by omega))).mono ?_
        rintro e w6 ⟨rfl, ho6, hm6⟩
        have HO7 := Lib.hid (HO6.out.then ho6 (by simp; exact HB.out))
        have HM7 := Lib.hid hm6
        clear ho6 hm6
        go_wp2
        exact ⟨⟨k + 1, y, _, _, by omega, by go_num, HO7.out, HM7.out⟩, by simp [intOf]; omega⟩
      · have HO6 := Lib.hid ho
        clear ho hm
        go_wp2_with fail
        refine (known02 _).mono ?_
        rintro e w6 ⟨rfl, ho6⟩
        have HO7 := Lib.hid (HO6.out.trans ho6)
        clear ho6
        go_wp2
        go_ret
        exact ⟨rfl, HO7.out⟩
  · have t0 : (a == v) = true := key.1.symm
    have t2 : (x != b) = false := by simp [key.2.1 rfl]
    clear key
    go_wp2
    go_loopw [16] (fun i wr => ∃ (k : Nat) (y c l : Int), (k : Int) ≤ n ∧ i = .int .i64 k ∧ Only [] w wr ∧ IsMem wr bb s ⟨[y, (k : Int)], c, l⟩) (fun i _ => 256 - (intOf i).toNat)
    case atStart => exact ⟨0, _, _, _, h0, rfl, HO5.out, HM5.out⟩
    case round =>
      obtain ⟨k, y, c, l, hk, rfl, ho, hm⟩ := hrel
      by_cases hlt : (k : Int) < n
      · have hk0 : (0 : Int) ≤ (k : Int) := by omega
        have HO6 := Lib.hid ho
        have HM6 := Lib.hid hm
        clear ho hm
        go_wp2_with fail
        refine (add_to HM6.out (add_one y c l k (by omega))).mono ?_
        rintro e w6 ⟨rfl, ho6, hm6⟩
        have HO7 := Lib.hid (HO6.out.then ho6 (by simp; exact HB.out))
        have HM7 := Lib.hid hm6
        clear ho6 hm6
        go_wp2
        exact ⟨⟨k + 1, y, _, _, by omega, by go_num, HO7.out, HM7.out⟩, by simp [intOf]; omega⟩
      · have HO6 := Lib.hid ho
        clear ho hm
        go_wp2_with fail
        refine (known02 _).mono ?_
        rintro e w6 ⟨rfl, ho6⟩
        have HO7 := Lib.hid (HO6.out.trans ho6)
        clear ho6
        go_wp2
        go_ret
        exact ⟨rfl, HO7.out⟩

end Go.Proofs.Ytabbnfodolekpaa
