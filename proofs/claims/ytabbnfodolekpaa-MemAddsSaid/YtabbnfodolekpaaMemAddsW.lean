/- MemAdds: its plain law, and its walk. -/
import Derived.Test.YtabbnfodolekpaaKnown02
import Derived.Test.YtabbnfodolekpaaPlain02
namespace Go.Proofs.Ytabbnfodolekpaa
open Go.RowKit

theorem wrapu_def (n : Int) : IntKind.u64.wrap n = n % 18446744073709551616 := by
  simp [IntKind.wrap, IntKind.signed, IntKind.bits]

theorem wrapu_add (a b : Int) : IntKind.u64.wrap (IntKind.u64.wrap a + b) = IntKind.u64.wrap (a + b) := by
  simp only [wrapu_def]; omega

/-- The sum of the first n numbers whose place is j, by fours. -/
def part (l : List Int) : Nat → Nat → Int
  | 0, _ => 0
  | n + 1, j => part l n j + if n % 4 = j then nth l n else 0

/-- Where both stand when i numbers have been added to each, from the one end and from the other. -/
def AddsAt (l : List Int) (i : Nat) (m k : MS) : Prop :=
  m.L.length = 4 ∧ k.L.length = 4 ∧ ∀ j, j < 4 → nth m.L j = IntKind.u64.wrap (part l i j) ∧ nth k.L j = IntKind.u64.wrap (part l l.length j - part l (l.length - i) j)

theorem adds_start (l : List Int) : AddsAt l 0 (MS.new 4) (MS.new 4) := by
  refine ⟨rfl, rfl, fun j _ => ?_⟩
  rw [nth_new, Nat.sub_zero, Int.sub_self]
  exact ⟨rfl, rfl⟩

theorem add_nth (m : MS) (t : Nat) (v : Int) (ht : t < m.L.length) (j : Nat) : (m.add t v).1.L.length = m.L.length ∧ nth (m.add t v).1.L j = if t = j then IntKind.u64.wrap (nth m.L t + v) else nth m.L j := by
  rw [MS.add, if_pos (MS.has_of (by omega) (by omega))]
  exact ⟨by simp, by simp only [Int.toNat_natCast]; exact nth_set _ _ _ _ ht⟩

theorem adds_step (l : List Int) (i : Nat) (hi : i < l.length) (m k : MS) (h : AddsAt l i m k) :
    AddsAt l (i + 1) (m.add ((i % 4 : Nat) : Int) (nth l i)).1 (k.add (((l.length - 1 - i) % 4 : Nat) : Int) (nth l (l.length - 1 - i))).1 := by
  obtain ⟨h1, h2, h3⟩ := h
  refine ⟨((add_nth m (i % 4) _ (by omega) 0).1).trans h1, ((add_nth k ((l.length - 1 - i) % 4) _ (by omega) 0).1).trans h2, fun j hj => ⟨?_, ?_⟩⟩
  · rw [(add_nth m (i % 4) _ (by omega) j).2]
    show _ = IntKind.u64.wrap (part l i j + if i % 4 = j then nth l i else 0)
    by_cases e : i % 4 = j
    · rw [if_pos e, if_pos e, e, (h3 j hj).1, wrapu_add]
    · rw [if_neg e, if_neg e, (h3 j hj).1, Int.add_zero]
  · rw [(add_nth k ((l.length - 1 - i) % 4) _ (by omega) j).2]
    have e1 : l.length - i = (l.length - 1 - i) + 1 := by omega
    have e2 : l.length - (i + 1) = l.length - 1 - i := by omega
    have e3 : part l (l.length - i) j = part l (l.length - 1 - i) j + if (l.length - 1 - i) % 4 = j then nth l (l.length - 1 - i) else 0 := by rw [e1]; rfl
    rw [e2]
    have h4 := (h3 j hj).2
    rw [e3] at h4
    by_cases e : (l.length - 1 - i) % 4 = j
    · rw [if_pos e] at h4 ⊢
      rw [e, h4, wrapu_add]
      congr 1
      omega
    · rw [if_neg e] at h4 ⊢
      rw [h4, Int.add_zero]

theorem adds_step' (l : List Int) (i : Nat) (hi : i < l.length) (m k : MS) (x y : Int) (hx : x = (i : Int) % 4) (hy : y = ((l.length : Int) - 1 - i) % 4) (h : AddsAt l i m k) :
    AddsAt l (i + 1) (m.add x (nth l i)).1 (k.add y (nth l (l.length - 1 - i))).1 := by
  have e1 : x = ((i % 4 : Nat) : Int) := by omega
  have e2 : y = (((l.length - 1 - i) % 4 : Nat) : Int) := by omega
  rw [e1, e2]
  exact adds_step l i hi m k h

theorem adds_end (l : List Int) (m k : MS) (h : AddsAt l l.length m k) : m.L = k.L := by
  obtain ⟨h1, h2, h3⟩ := h
  refine ext_nth _ _ (h1.trans h2.symm) fun j hj => ?_
  rw [(h3 j (by omega)).1, (h3 j (by omega)).2, Nat.sub_self]
  show _ = IntKind.u64.wrap (part l l.length j - 0)
  rw [Int.sub_zero]

theorem Reads.at {w : World} {A : Option Addr} {L : List Int} (h : Reads w A L) {k : Nat} (hk : k < L.length) : ∃ g o, g < w.heap.size ∧ A = some ⟨g, o, none⟩ ∧ ∀ i, i < L.length → w.cell? ⟨g, o + i, none⟩ = some (.int .u64 (nth L i)) := by
  rcases h with rfl | h
  · simp at hk
  · exact h

set_option maxHeartbeats 2000000 in
set_option maxRecDepth 100000 in
theorem memadds_walk (w : World) (A : Option Addr) (cap : Nat) (l : List Int) (hr : Reads w A l) (_hl : l.length ≤ 9223372036854775807) :
    Calls Try.prog 5 #[.slice A l.length cap] w fun e w' => e = .returned (.bool true) ∧ Only [] w w' := by
  have HR := Lib.hid hr
  clear hr
  by_cases hbig : 100 < l.length
  · go_enter Try.func5, Try.ntmps5
    go_wp2_with fail
    refine (new_any _ 4 (by omega) (by omega)).mono ?_
    rintro e w1 ⟨b, s, rfl, hb, hs, ho, hm⟩
    have HO := Lib.hid ho
    clear hb hs ho hm
    go_wp2_with fail
    refine (new_any _ 4 (by omega) (by omega)).mono ?_
    rintro e w2 ⟨b', s', rfl, hb, hs, ho, hm⟩
    have HO2 := Lib.hid (HO.out.trans ho)
    clear hb hs ho hm
    go_wp2_with fail
    refine (known02 _).mono ?_
    rintro e w5 ⟨rfl, ho5⟩
    have HO5 := Lib.hid (HO2.out.trans ho5)
    clear ho5
    go_wp2
    go_ret
    exact ⟨rfl, HO5.out⟩
  · go_enter Try.func5, Try.ntmps5
    go_wp2_with fail
    refine (new_any _ 4 (by omega) (by omega)).mono ?_
    rintro e w1 ⟨b, s, rfl, hb, hs, ho, hm⟩
    have HB := Lib.hid (And.intro hb hs)
    have HO := Lib.hid ho
    have HM := Lib.hid hm
    clear hb hs ho hm
    go_wp2_with fail
    refine (new_any _ 4 (by omega) (by omega)).mono ?_
    rintro e w2 ⟨b', s', rfl, hb, hs, ho, hm⟩
    have HB2 := Lib.hid (And.intro (Nat.le_trans HO.out.size hb) (Nat.le_trans HO.out.size hs))
    have HD := Lib.hid (show b ∉ [b', s'] ∧ s ∉ [b', s'] by have := HM.out.lt; simp; omega)
    have HM1 := Lib.hid (HM.out.only ho (by simp) (by simp))
    have HO2 := Lib.hid (HO.out.trans ho)
    have HM2 := Lib.hid hm
    clear hb hs ho hm HM HO
    go_wp2
    go_loopw [7] (fun v wr => ∃ (i : Nat) (m k : MS), i ≤ l.length ∧ v = .int .i64 i ∧ Only [] w wr ∧ IsMem wr b s m ∧ IsMem wr b' s' k ∧ AddsAt l i m k) (fun v _ => l.length - (intOf v).toNat)
    case atStart => exact ⟨0, _, _, Nat.zero_le _, rfl, HO2.out, HM1.out, HM2.out, adds_start l⟩
    case round =>
      obtain ⟨i, m, k, hi, rfl, ho, hm, hk, hat⟩ := hrel
      have HAT := Lib.hid hat
      have HO3 := Lib.hid ho
      have HM3 := Lib.hid hm
      have HK3 := Lib.hid hk
      by_cases hlt : i < l.length
      · obtain ⟨g, o, hg, rfl, hc⟩ := HR.out.at hlt
        have d1 := (ho.cell (p := ⟨g, o + i, none⟩) hg (by simp)).trans (hc i hlt)
        have d2 := (ho.cell (p := ⟨g, o + (l.length - 1 - i), none⟩) hg (by simp)).trans (hc (l.length - 1 - i) (by omega))
        have HG := Lib.hid hg
        clear hat ho hm hk hc hg
        go_wp2_with fail
        refine (add_any _ b s m _ _ HM3.out).mono ?_
        rintro e w4 ⟨rfl, ho4, hm4⟩
        have d3 := (ho4.cell (p := ⟨g, o + (l.length - 1 - i), none⟩) (Nat.lt_of_lt_of_le HG.out HO3.out.size) (by have := HB.out; have := HG.out; simp; omega)).trans d2
        have HO4 := Lib.hid (HO3.out.then ho4 (by simp; exact HB.out))
        have HM4 := Lib.hid hm4
        have HK4 := Lib.hid (HK3.out.only ho4 (by have := HD.out; simp at this ⊢; omega) (by have := HD.out; simp at this ⊢; omega))
        clear ho4 hm4 d1 d2
        go_wp2_with fail
        refine (add_any _ b' s' k _ _ HK4.out).mono ?_
        rintro e w5 ⟨rfl, ho5, hk5⟩
        have HO5 := Lib.hid (HO4.out.then ho5 (by simp; exact HB2.out))
        have HK5 := Lib.hid hk5
        have HM5 := Lib.hid (HM4.out.only ho5 HD.out.1 HD.out.2)
        clear ho5 hk5
        go_wp2
        exact ⟨⟨i + 1, _, _, by omega, by go_num, HO5.out, HM5.out, HK5.out, adds_step' l i hlt m k _ _ rfl rfl HAT.out⟩, by simp [intOf]; omega⟩
      · have hil : i = l.length := by omega
        have HE := Lib.hid (adds_end l m k (hil ▸ hat))
        have HMX := Lib.hid hat.1
        clear hat ho hm hk hil
        go_wp2_with fail
        refine (words_any _ b s _ _ _ _ _ HM3.out).mono ?_
        rintro e w4 ⟨v1, rfl, ho4, hv1⟩
        have HO4 := Lib.hid (HO3.out.trans ho4)
        have HK4 := Lib.hid (HK3.out.only ho4 (by simp) (by simp))
        have hc1 : cutL m.L 0 4 = m.L := by
          have := HMX.out
          unfold cutL
          rw [if_pos ⟨by omega, by omega, by omega, by omega⟩]
          exact List.take_of_length_le (by simp; omega)
        have HV1 := Lib.hid ((hc1 ▸ hv1).isRow (by rw [HMX.out]; decide))
        clear ho4 hv1 hc1
        go_wp2_with fail
        refine (words_any _ b' s' _ _ _ _ _ HK4.out).mono ?_
        rintro e w5 ⟨v2, rfl, ho5, hv2⟩
        have HO5 := Lib.hid (HO4.out.trans ho5)
        have hc2 : cutL k.L 0 4 = m.L := by
          have := HMX.out
          rw [← HE.out]
          unfold cutL
          rw [if_pos ⟨by omega, by omega, by omega, by omega⟩]
          exact List.take_of_length_le (by simp; omega)
        have HV2 := Lib.hid ((hc2 ▸ hv2).isRow (by rw [HMX.out]; decide))
        have HV3 := Lib.hid (HV1.out.only ho5 (by simp))
        clear ho5 hv2 hc2
        go_wp2_with fail
        refine (eqw_any _ _ _ _ _ HV3.out HV2.out).mono ?_
        rintro e w6 ⟨rfl, ho6⟩
        have HO6 := Lib.hid (HO5.out.trans ho6)
        clear ho6
        simp only [decide_true]
        go_wp2_with fail
        refine (known02 _).mono ?_
        rintro e w7 ⟨rfl, ho7⟩
        have HO7 := Lib.hid (HO6.out.trans ho7)
        clear ho7
        go_wp2
        go_ret
        exact ⟨rfl, HO7.out⟩

end Go.Proofs.Ytabbnfodolekpaa
