/- MemCounts: its plain law, and its walk. -/
import Derived.Test.YtabbnfodolekpaaKnown02
import Derived.Test.YtabbnfodolekpaaPlain02
namespace Go.Proofs.Ytabbnfodolekpaa
open Go.RowKit

theorem w64s (n : Int) (h0 : 0 ≤ n) (h1 : n ≤ 1000) : wrap64 (n + 1) = n + 1 := by unfold wrap64; omega

namespace MS
theorem load_counts (m : MS) (i : Int) (h : 0 ≤ m.c ∧ m.c ≤ 1000) : ∃ m' v er, m.load i = (m', v, er) ∧ m'.L.length = m.L.length ∧ ((er = 0 ∧ m'.c = m.c + 1 ∧ m'.l = m.l) ∨ (er = 2 ∧ m'.c = m.c ∧ m'.l = m.l)) := by
  by_cases hh : m.has i = true
  · exact ⟨⟨m.L, wrap64 (m.c + 1), m.l⟩, _, _, by rw [MS.load, if_pos hh], rfl, .inl ⟨rfl, w64s _ h.1 h.2, rfl⟩⟩
  · exact ⟨m, _, _, by rw [MS.load, if_neg hh], rfl, .inr ⟨rfl, rfl, rfl⟩⟩
theorem store_counts (m : MS) (i v : Int) (h : 0 ≤ m.c ∧ m.c ≤ 1000) (h' : 0 ≤ m.l ∧ m.l ≤ 1000) : ∃ m' er, m.store i v = (m', er) ∧ m'.L.length = m.L.length ∧ ((er = 0 ∧ m'.c = m.c + 1 ∧ m'.l = m.l + 1) ∨ (er = 2 ∧ m'.c = m.c ∧ m'.l = m.l)) := by
  by_cases hh : m.has i = true
  · exact ⟨⟨m.L.set i.toNat v, wrap64 (m.c + 1), wrap64 (m.l + 1)⟩, _, by rw [MS.store, if_pos hh], by simp, .inl ⟨rfl, w64s _ h.1 h.2, w64s _ h'.1 h'.2⟩⟩
  · exact ⟨m, _, by rw [MS.store, if_neg hh], rfl, .inr ⟨rfl, rfl, rfl⟩⟩
theorem cas_counts (m : MS) (i x y : Int) (h : 0 ≤ m.c ∧ m.c ≤ 1000) (h' : 0 ≤ m.l ∧ m.l ≤ 1000) : ∃ m' ok er, m.cas i x y = (m', ok, er) ∧ m'.L.length = m.L.length ∧ ((er = 0 ∧ ok = true ∧ m'.c = m.c + 1 ∧ m'.l = m.l + 1) ∨ (er = 0 ∧ ok = false ∧ m'.c = m.c + 1 ∧ m'.l = m.l) ∨ (er = 2 ∧ ok = false ∧ m'.c = m.c ∧ m'.l = m.l)) := by
  by_cases hh : m.has i = true
  · by_cases e : nth m.L i.toNat = x
    · exact ⟨⟨m.L.set i.toNat y, wrap64 (m.c + 1), wrap64 (m.l + 1)⟩, _, _, by rw [MS.cas, if_pos hh, if_pos e], by simp, .inl ⟨rfl, rfl, w64s _ h.1 h.2, w64s _ h'.1 h'.2⟩⟩
    · exact ⟨⟨m.L, wrap64 (m.c + 1), m.l⟩, _, _, by rw [MS.cas, if_pos hh, if_neg e], by simp, .inr (.inl ⟨rfl, rfl, w64s _ h.1 h.2, rfl⟩)⟩
  · exact ⟨m, _, _, by rw [MS.cas, if_neg hh], rfl, .inr (.inr ⟨rfl, rfl, rfl, rfl⟩)⟩
theorem add_counts (m : MS) (i v : Int) (h : 0 ≤ m.c ∧ m.c ≤ 1000) (h' : 0 ≤ m.l ∧ m.l ≤ 1000) : ∃ m' was er, m.add i v = (m', was, er) ∧ m'.L.length = m.L.length ∧ ((er = 0 ∧ m'.c = m.c + 1 ∧ m'.l = m.l + 1) ∨ (er = 2 ∧ m'.c = m.c ∧ m'.l = m.l)) := by
  by_cases hh : m.has i = true
  · exact ⟨⟨m.L.set i.toNat _, wrap64 (m.c + 1), wrap64 (m.l + 1)⟩, _, _, by rw [MS.add, if_pos hh], by simp, .inl ⟨rfl, w64s _ h.1 h.2, w64s _ h'.1 h'.2⟩⟩
  · exact ⟨m, _, _, by rw [MS.add, if_neg hh], rfl, .inr ⟨rfl, rfl, rfl⟩⟩
end MS

set_option maxHeartbeats 8000000 in
set_option maxRecDepth 100000 in
theorem memcounts_walk (w : World) (A : Option Addr) (cap : Nat) (l : List Act') (a : Int) (h0 : 0 ≤ a) (h1 : a ≤ 255) (hr : ReadsActs w A l) (_hl : l.length ≤ 9223372036854775807) :
    Calls Try.prog 8 #[.int .u8 a, .slice A l.length cap] w fun e w' => e = .returned (.bool true) ∧ Only [] w w' := by
  have HR := Lib.hid hr
  clear hr
  go_enter Try.func8, Try.ntmps8
  go_wp2_with fail
  refine (new_any _ (1 + a) (by omega) (by omega)).mono ?_
  rintro e w1 ⟨b, s, rfl, hb, hs, ho, hm⟩
  have HB := Lib.hid (And.intro hb hs)
  have HO := Lib.hid ho
  have HM := Lib.hid hm
  clear hb hs ho hm
  go_wp2
  go_loopw [7, 8, 9] (fun c d i wr => ∃ (k : Nat) (m : MS), k ≤ l.length ∧ k ≤ 80 ∧ i = .int .i64 k ∧ c = .int .i64 m.c ∧ d = .int .i64 m.l ∧ 0 ≤ m.c ∧ m.c ≤ k ∧ 0 ≤ m.l ∧ m.l ≤ k ∧ Only [] w wr ∧ IsMem wr b s m) (fun _ _ i _ => l.length - (intOf i).toNat)
  case atStart => exact ⟨0, _, Nat.zero_le _, by omega, rfl, rfl, rfl, Int.le_refl _, Int.le_refl _, Int.le_refl _, Int.le_refl _, HO.out, HM.out⟩
  case round =>
    obtain ⟨k, m, hk, hk8, rfl, rfl, rfl, hc0, hc1, hl0, hl1, ho, hm⟩ := hrel
    have b0 : m.c ≤ 80 := by omega
    have b1 : m.l ≤ 80 := by omega
    by_cases hlt : k < l.length
    · by_cases h80 : k < 80
      · obtain ⟨g, o, ⟨xk, xi, xa, xb⟩, hA, hg, c0, c1, c2, c3, -⟩ := HR.out.get hlt
        subst hA
        have d0 := (ho.cell (p := ⟨g, o + k * 4, none⟩) hg (by simp)).trans c0
        have d1 := (ho.cell (p := ⟨g, o + k * 4 + 1, none⟩) hg (by simp)).trans c1
        have d2 := (ho.cell (p := ⟨g, o + k * 4 + 2, none⟩) hg (by simp)).trans c2
        have d3 := (ho.cell (p := ⟨g, o + k * 4 + 3, none⟩) hg (by simp)).trans c3
        have HO2 := Lib.hid ho
        have HM2 := Lib.hid hm
        clear ho hm c0 c1 c2 c3 hg HR
        by_cases e1 : xk = 1
        · subst e1
          obtain ⟨m', v, er, hst, -, hc⟩ := MS.load_counts m xi ⟨hc0, by omega⟩
          have HST := Lib.hid hst
          clear hst
          have HC := Lib.hid hc
          clear hc
          go_wp2_with fail
          refine (load_to (HM2.out.only ((Only.refl [] wr).alloc _) (by simp) (by simp)) HST.out).mono ?_
          rintro e w2 ⟨rfl, ho2, hm2⟩
          have HO3 := Lib.hid (((HO2.out.alloc _)).then ho2 (by simp; exact HB.out))
          have HM3 := Lib.hid hm2
          clear ho2 hm2
          rcases HC.out with ⟨rfl, hce, hle⟩ | ⟨rfl, hce, hle⟩
          · have E := Lib.hid (And.intro hce hle)
            clear hce hle
            go_wp2_with fail
            have q1 := (HM3.out).c1
            have q2 := (HM3.out).c2
            rw [E.out.1] at q1
            rw [E.out.2] at q2
            refine (count_at _ _ _ _ q1 q2).mono ?_
            rintro e w5 ⟨rfl, ho5⟩
            have HO5 := Lib.hid ((HO3.out).trans ho5)
            have HM5 := Lib.hid ((HM3.out).only ho5 (by simp) (by simp))
            clear ho5 q1 q2
            go_wp2
            exact ⟨⟨k + 1, m', by omega, by omega, by go_num, by rw [E.out.1], by rw [E.out.2], by have := E.out; omega, by have := E.out; omega, by have := E.out; omega, by have := E.out; omega, HO5.out, HM5.out⟩, by simp [intOf]; omega⟩
          · have E := Lib.hid (And.intro hce hle)
            clear hce hle
            go_wp2_with fail
            have q1 := (HM3.out).c1
            have q2 := (HM3.out).c2
            rw [E.out.1] at q1
            rw [E.out.2] at q2
            refine (count_at _ _ _ _ q1 q2).mono ?_
            rintro e w5 ⟨rfl, ho5⟩
            have HO5 := Lib.hid ((HO3.out).trans ho5)
            have HM5 := Lib.hid ((HM3.out).only ho5 (by simp) (by simp))
            clear ho5 q1 q2
            go_wp2
            exact ⟨⟨k + 1, m', by omega, by omega, by go_num, by rw [E.out.1], by rw [E.out.2], by have := E.out; omega, by have := E.out; omega, by have := E.out; omega, by have := E.out; omega, HO5.out, HM5.out⟩, by simp [intOf]; omega⟩
        by_cases e2 : xk = 2
        · subst e2
          obtain ⟨m', er, hst, -, hc⟩ := MS.store_counts m xi xa ⟨hc0, by omega⟩ ⟨hl0, by omega⟩
          have HST := Lib.hid hst
          clear hst
          have HC := Lib.hid hc
          clear hc
          go_wp2_with fail
          refine (store_to (HM2.out.only ((Only.refl [] wr).alloc _) (by simp) (by simp)) HST.out).mono ?_
          rintro e w2 ⟨rfl, ho2, hm2⟩
          have HO3 := Lib.hid (((HO2.out.alloc _)).then ho2 (by simp; exact HB.out))
          have HM3 := Lib.hid hm2
          clear ho2 hm2
          rcases HC.out with ⟨rfl, hce, hle⟩ | ⟨rfl, hce, hle⟩
          · have E := Lib.hid (And.intro hce hle)
            clear hce hle
            go_wp2_with fail
            have q1 := (HM3.out).c1
            have q2 := (HM3.out).c2
            rw [E.out.1] at q1
            rw [E.out.2] at q2
            refine (count_at _ _ _ _ q1 q2).mono ?_
            rintro e w5 ⟨rfl, ho5⟩
            have HO5 := Lib.hid ((HO3.out).trans ho5)
            have HM5 := Lib.hid ((HM3.out).only ho5 (by simp) (by simp))
            clear ho5 q1 q2
            go_wp2
            exact ⟨⟨k + 1, m', by omega, by omega, by go_num, by rw [E.out.1], by rw [E.out.2], by have := E.out; omega, by have := E.out; omega, by have := E.out; omega, by have := E.out; omega, HO5.out, HM5.out⟩, by simp [intOf]; omega⟩
          · have E := Lib.hid (And.intro hce hle)
            clear hce hle
            go_wp2_with fail
            have q1 := (HM3.out).c1
            have q2 := (HM3.out).c2
            rw [E.out.1] at q1
            rw [E.out.2] at q2
            refine (count_at _ _ _ _ q1 q2).mono ?_
            rintro e w5 ⟨rfl, ho5⟩
            have HO5 := Lib.hid ((HO3.out).trans ho5)
            have HM5 := Lib.hid ((HM3.out).only ho5 (by simp) (by simp))
            clear ho5 q1 q2
            go_wp2
            exact ⟨⟨k + 1, m', by omega, by omega, by go_num, by rw [E.out.1], by rw [E.out.2], by have := E.out; omega, by have := E.out; omega, by have := E.out; omega, by have := E.out; omega, HO5.out, HM5.out⟩, by simp [intOf]; omega⟩
        by_cases e3 : xk = 3
        · subst e3
          obtain ⟨m', ok, er, hst, -, hc⟩ := MS.cas_counts m xi xa xb ⟨hc0, by omega⟩ ⟨hl0, by omega⟩
          have HST := Lib.hid hst
          clear hst
          have HC := Lib.hid hc
          clear hc
          go_wp2_with fail
          refine (cas_to (HM2.out.only ((Only.refl [] wr).alloc _) (by simp) (by simp)) HST.out).mono ?_
          rintro e w2 ⟨rfl, ho2, hm2⟩
          have HO3 := Lib.hid (((HO2.out.alloc _)).then ho2 (by simp; exact HB.out))
          have HM3 := Lib.hid hm2
          clear ho2 hm2
          rcases HC.out with ⟨rfl, rfl, hce, hle⟩ | ⟨rfl, rfl, hce, hle⟩ | ⟨rfl, rfl, hce, hle⟩
          · have E := Lib.hid (And.intro hce hle)
            clear hce hle
            go_wp2_with fail
            have q1 := (HM3.out).c1
            have q2 := (HM3.out).c2
            rw [E.out.1] at q1
            rw [E.out.2] at q2
            refine (count_at _ _ _ _ q1 q2).mono ?_
            rintro e w5 ⟨rfl, ho5⟩
            have HO5 := Lib.hid ((HO3.out).trans ho5)
            have HM5 := Lib.hid ((HM3.out).only ho5 (by simp) (by simp))
            clear ho5 q1 q2
            go_wp2
            exact ⟨⟨k + 1, m', by omega, by omega, by go_num, by rw [E.out.1], by rw [E.out.2], by have := E.out; omega, by have := E.out; omega, by have := E.out; omega, by have := E.out; omega, HO5.out, HM5.out⟩, by simp [intOf]; omega⟩
          · have E := Lib.hid (And.intro hce hle)
            clear hce hle
            go_wp2_with fail
            have q1 := (HM3.out).c1
            have q2 := (HM3.out).c2
            rw [E.out.1] at q1
            rw [E.out.2] at q2
            refine (count_at _ _ _ _ q1 q2).mono ?_
            rintro e w5 ⟨rfl, ho5⟩
            have HO5 := Lib.hid ((HO3.out).trans ho5)
            have HM5 := Lib.hid ((HM3.out).only ho5 (by simp) (by simp))
            clear ho5 q1 q2
            go_wp2
            exact ⟨⟨k + 1, m', by omega, by omega, by go_num, by rw [E.out.1], by rw [E.out.2], by have := E.out; omega, by have := E.out; omega, by have := E.out; omega, by have := E.out; omega, HO5.out, HM5.out⟩, by simp [intOf]; omega⟩
          · have E := Lib.hid (And.intro hce hle)
            clear hce hle
            go_wp2_with fail
            have q1 := (HM3.out).c1
            have q2 := (HM3.out).c2
            rw [E.out.1] at q1
            rw [E.out.2] at q2
            refine (count_at _ _ _ _ q1 q2).mono ?_
            rintro e w5 ⟨rfl, ho5⟩
            have HO5 := Lib.hid ((HO3.out).trans ho5)
            have HM5 := Lib.hid ((HM3.out).only ho5 (by simp) (by simp))
            clear ho5 q1 q2
            go_wp2
            exact ⟨⟨k + 1, m', by omega, by omega, by go_num, by rw [E.out.1], by rw [E.out.2], by have := E.out; omega, by have := E.out; omega, by have := E.out; omega, by have := E.out; omega, HO5.out, HM5.out⟩, by simp [intOf]; omega⟩
        by_cases e4 : xk = 4
        · subst e4
          obtain ⟨m', was, er, hst, -, hc⟩ := MS.add_counts m xi xa ⟨hc0, by omega⟩ ⟨hl0, by omega⟩
          have HST := Lib.hid hst
          clear hst
          have HC := Lib.hid hc
          clear hc
          go_wp2_with fail
          refine (add_to (HM2.out.only ((Only.refl [] wr).alloc _) (by simp) (by simp)) HST.out).mono ?_
          rintro e w2 ⟨rfl, ho2, hm2⟩
          have HO3 := Lib.hid (((HO2.out.alloc _)).then ho2 (by simp; exact HB.out))
          have HM3 := Lib.hid hm2
          clear ho2 hm2
          rcases HC.out with ⟨rfl, hce, hle⟩ | ⟨rfl, hce, hle⟩
          · have E := Lib.hid (And.intro hce hle)
            clear hce hle
            go_wp2_with fail
            have q1 := (HM3.out).c1
            have q2 := (HM3.out).c2
            rw [E.out.1] at q1
            rw [E.out.2] at q2
            refine (count_at _ _ _ _ q1 q2).mono ?_
            rintro e w5 ⟨rfl, ho5⟩
            have HO5 := Lib.hid ((HO3.out).trans ho5)
            have HM5 := Lib.hid ((HM3.out).only ho5 (by simp) (by simp))
            clear ho5 q1 q2
            go_wp2
            exact ⟨⟨k + 1, m', by omega, by omega, by go_num, by rw [E.out.1], by rw [E.out.2], by have := E.out; omega, by have := E.out; omega, by have := E.out; omega, by have := E.out; omega, HO5.out, HM5.out⟩, by simp [intOf]; omega⟩
          · have E := Lib.hid (And.intro hce hle)
            clear hce hle
            go_wp2_with fail
            have q1 := (HM3.out).c1
            have q2 := (HM3.out).c2
            rw [E.out.1] at q1
            rw [E.out.2] at q2
            refine (count_at _ _ _ _ q1 q2).mono ?_
            rintro e w5 ⟨rfl, ho5⟩
            have HO5 := Lib.hid ((HO3.out).trans ho5)
            have HM5 := Lib.hid ((HM3.out).only ho5 (by simp) (by simp))
            clear ho5 q1 q2
            go_wp2
            exact ⟨⟨k + 1, m', by omega, by omega, by go_num, by rw [E.out.1], by rw [E.out.2], by have := E.out; omega, by have := E.out; omega, by have := E.out; omega, by have := E.out; omega, HO5.out, HM5.out⟩, by simp [intOf]; omega⟩
        have g1 : (xk == 1) = false := by simpa using e1
        have g2 : (xk == 2) = false := by simpa using e2
        have g3 : (xk == 3) = false := by simpa using e3
        have g4 : (xk == 4) = false := by simpa using e4
        clear e1 e2 e3 e4
        have HM3 := Lib.hid (HM2.out.only ((Only.refl [] wr).alloc (Obj.cells #[.int .i64 xk, .int .i64 xi, .int .u64 xa, .int .u64 xb] 29)) (by simp) (by simp))
        have HO3 := Lib.hid (HO2.out.alloc (Obj.cells #[.int .i64 xk, .int .i64 xi, .int .u64 xa, .int .u64 xb] 29))
        go_wp2_with fail
        have q1 := (HM3.out).c1
        have q2 := (HM3.out).c2
        refine (count_at _ _ _ _ q1 q2).mono ?_
        rintro e w5 ⟨rfl, ho5⟩
        have HO5 := Lib.hid ((HO3.out).trans ho5)
        have HM5 := Lib.hid ((HM3.out).only ho5 (by simp) (by simp))
        clear ho5 q1 q2
        go_wp2
        exact ⟨⟨k + 1, m, by omega, by omega, by go_num, rfl, rfl, hc0, by omega, hl0, by omega, HO5.out, HM5.out⟩, by simp [intOf]; omega⟩
      · have HO2 := Lib.hid ho
        have HM2 := Lib.hid hm
        clear ho hm
        go_wp2_with fail
        refine (copy_at _ b s _ _ _ HM2.out).mono ?_
        rintro e w4 ⟨b', s', rfl, hb4, hs4, ho4, hm4⟩
        have HO4 := Lib.hid (HO2.out.trans ho4)
        have q1 := hm4.c1
        have q2 := hm4.c2
        clear ho4 hb4 hs4 hm4
        go_wp2_with fail
        refine (count_at _ _ _ _ q1 q2).mono ?_
        rintro e w5 ⟨rfl, ho5⟩
        have HO5 := Lib.hid (HO4.out.trans ho5)
        clear ho5 q1 q2
        go_wp2_with fail
        refine (known02 _).mono ?_
        rintro e w6 ⟨rfl, ho6⟩
        have HO6 := Lib.hid (HO5.out.trans ho6)
        clear ho6
        go_wp2
        go_ret
        exact ⟨rfl, HO6.out⟩
    · have HO2 := Lib.hid ho
      have HM2 := Lib.hid hm
      clear ho hm
      go_wp2_with fail
      refine (copy_at _ b s _ _ _ HM2.out).mono ?_
      rintro e w4 ⟨b', s', rfl, hb4, hs4, ho4, hm4⟩
      have HO4 := Lib.hid (HO2.out.trans ho4)
      have q1 := hm4.c1
      have q2 := hm4.c2
      clear ho4 hb4 hs4 hm4
      go_wp2_with fail
      refine (count_at _ _ _ _ q1 q2).mono ?_
      rintro e w5 ⟨rfl, ho5⟩
      have HO5 := Lib.hid (HO4.out.trans ho5)
      clear ho5 q1 q2
      go_wp2_with fail
      refine (known02 _).mono ?_
      rintro e w6 ⟨rfl, ho6⟩
      have HO6 := Lib.hid (HO5.out.trans ho6)
      clear ho6
      go_wp2
      go_ret
      exact ⟨rfl, HO6.out⟩

end Go.Proofs.Ytabbnfodolekpaa
