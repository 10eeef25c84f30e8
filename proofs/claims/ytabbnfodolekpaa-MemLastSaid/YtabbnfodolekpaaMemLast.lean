/- The walk of MemLast. -/
import Derived.Test.YtabbnfodolekpaaKnown02
import Derived.Test.YtabbnfodolekpaaPlain02
namespace Go.Proofs.Ytabbnfodolekpaa
open Go.RowKit

set_option maxHeartbeats 4000000 in
set_option maxRecDepth 100000 in
theorem memlast_walk (w : World) (A : Option Addr) (cap : Nat) (l : List Act') (a : Int) (h0 : 0 ≤ a) (h1 : a ≤ 255) (hr : ReadsActs w A l) (_hl : l.length ≤ 9223372036854775807) :
    Calls Try.prog 3 #[.slice A l.length cap, .int .u8 a] w fun e w' => e = .returned (.bool true) ∧ Only [] w w' := by
  have HR := Lib.hid hr
  clear hr
  go_enter Try.func3, Try.ntmps3
  go_wp2_with fail
  refine (new_any _ 16 (by omega) (by omega)).mono ?_
  rintro e w1 ⟨b, s, rfl, hb, hs, ho, hm⟩
  have HB := Lib.hid (And.intro hb hs)
  have HO := Lib.hid ho
  have HM := Lib.hid hm
  clear hb hs ho hm
  go_wp2
  go_loopw [8, 9] (fun v i wr => ∃ (k : Nat) (m : MS), k ≤ l.length ∧ i = .int .i64 k ∧ v = .int .u64 (nth m.L (a % 16).toNat) ∧ Only [] w wr ∧ IsMem wr b s m ∧ m.L.length = 16) (fun _ i _ => l.length - (intOf i).toNat)
  case atStart => exact ⟨0, MS.new 16, Nat.zero_le _, rfl, by rw [nth_new], HO.out, HM.out, rfl⟩
  case round =>
    obtain ⟨k, m, hk, rfl, rfl, ho, hm, hlen⟩ := hrel
    by_cases hlt : k < l.length
    · by_cases h80 : k < 80
      · obtain ⟨g, o, ⟨xk, xi, xa, xb⟩, hA, hg, c0, c1, c2, c3, -⟩ := HR.out.get hlt
        subst hA
        have d0 := (ho.cell (p := ⟨g, o + k * 4, none⟩) hg (by simp)).trans c0
        have d1 := (ho.cell (p := ⟨g, o + k * 4 + 1, none⟩) hg (by simp)).trans c1
        have d2 := (ho.cell (p := ⟨g, o + k * 4 + 2, none⟩) hg (by simp)).trans c2
        have d3 := (ho.cell (p := ⟨g, o + k * 4 + 3, none⟩) hg (by simp)).trans c3
        have HO2 := Lib.hid ho
        have HM2 := Lib.hid hm
        have HL := Lib.hid hlen
        clear ho hm hlen c0 c1 c2 c3 hg HR
        by_cases e2 : xk = 2
        · subst e2
          obtain ⟨m', er, hst, hl', hc⟩ := MS.store_cases m xi xa (a % 16) (by omega) (by rw [HL.out]; omega)
          have HST := Lib.hid hst
          clear hst
          have HC := Lib.hid hc
          clear hc
          go_wp2_with fail
          refine (store_to (HM2.out.only ((Only.refl [] wr).alloc _) (by simp) (by simp)) HST.out).mono ?_
          rintro e w2 ⟨rfl, ho2, hm2⟩
          have hlt2 := HM2.out.lt
          have hB := (Blk.new wr 29 #[.int .i64 2, .int .i64 xi, .int .u64 xa, .int .u64 xb]).only ho2 (by simp; omega)
          have p0 := hB.at 0 rfl
          have p1 := hB.at 1 rfl
          have p2 := hB.at 2 rfl
          have p3 := hB.at 3 rfl
          have HO3 := Lib.hid (((HO2.out.alloc _)).then ho2 (by simp; exact HB.out))
          have HM3 := Lib.hid hm2
          have HL3 := Lib.hid (hl'.trans HL.out)
          clear ho2 hm2 hB hl' hlt2
          rcases HC.out with ⟨rfl, rfl, hv⟩ | ⟨rfl, hne, hv⟩ | ⟨rfl, hne, hv⟩
          · have HV1 := Lib.hid hv
            clear hv
            go_wp2_with fail
            refine (load_to HM3.out (MS.load_at m' (a % 16) (by omega) (by rw [HL3.out]; omega))).mono ?_
            rintro e w5 ⟨rfl, ho5, hm5⟩
            have HO5 := Lib.hid (HO3.out.then ho5 (by simp; exact HB.out))
            have HM5 := Lib.hid hm5
            have HL5 := Lib.hid HL3.out
            clear ho5 hm5
            have HV := Lib.hid HV1.out
            rw [HV.out]
            go_wp2
            refine ⟨⟨k + 1, _, by omega, by go_num, by rw [← HV.out], HO5.out, HM5.out, HL5.out⟩, by simp [intOf]; omega⟩
          · have hne1 : (xi == a % 16) = false := by simpa using hne
            have HV1 := Lib.hid hv
            clear hv hne
            go_wp2_with fail
            refine (load_to HM3.out (MS.load_at m' (a % 16) (by omega) (by rw [HL3.out]; omega))).mono ?_
            rintro e w5 ⟨rfl, ho5, hm5⟩
            have HO5 := Lib.hid (HO3.out.then ho5 (by simp; exact HB.out))
            have HM5 := Lib.hid hm5
            have HL5 := Lib.hid HL3.out
            clear ho5 hm5
            have HV := Lib.hid HV1.out
            rw [HV.out]
            go_wp2
            refine ⟨⟨k + 1, _, by omega, by go_num, by rw [← HV.out], HO5.out, HM5.out, HL5.out⟩, by simp [intOf]; omega⟩
          · have hne1 : (xi == a % 16) = false := by simpa using hne
            have HV1 := Lib.hid hv
            clear hv hne
            go_wp2_with fail
            refine (load_to HM3.out (MS.load_at m' (a % 16) (by omega) (by rw [HL3.out]; omega))).mono ?_
            rintro e w5 ⟨rfl, ho5, hm5⟩
            have HO5 := Lib.hid (HO3.out.then ho5 (by simp; exact HB.out))
            have HM5 := Lib.hid hm5
            have HL5 := Lib.hid HL3.out
            clear ho5 hm5
            have HV := Lib.hid HV1.out
            rw [HV.out]
            go_wp2
            refine ⟨⟨k + 1, _, by omega, by go_num, by rw [← HV.out], HO5.out, HM5.out, HL5.out⟩, by simp [intOf]; omega⟩
        by_cases e3 : xk = 3
        · subst e3
          obtain ⟨m', ok, er, hst, hl', hc⟩ := MS.cas_cases m xi xa xb (a % 16) (by omega) (by rw [HL.out]; omega)
          have HST := Lib.hid hst
          clear hst
          have HC := Lib.hid hc
          clear hc
          go_wp2_with fail
          refine (cas_to (HM2.out.only ((Only.refl [] wr).alloc _) (by simp) (by simp)) HST.out).mono ?_
          rintro e w2 ⟨rfl, ho2, hm2⟩
          have hlt2 := HM2.out.lt
          have hB := (Blk.new wr 29 #[.int .i64 3, .int .i64 xi, .int .u64 xa, .int .u64 xb]).only ho2 (by simp; omega)
          have p0 := hB.at 0 rfl
          have p1 := hB.at 1 rfl
          have p2 := hB.at 2 rfl
          have p3 := hB.at 3 rfl
          have HO3 := Lib.hid (((HO2.out.alloc _)).then ho2 (by simp; exact HB.out))
          have HM3 := Lib.hid hm2
          have HL3 := Lib.hid (hl'.trans HL.out)
          clear ho2 hm2 hB hl' hlt2
          rcases HC.out with ⟨rfl, rfl, rfl, hv⟩ | ⟨rfl, rfl, hn, hv⟩ | ⟨hne, hv⟩
          · have HV1 := Lib.hid hv
            clear hv
            go_wp2_with fail
            refine (load_to HM3.out (MS.load_at m' (a % 16) (by omega) (by rw [HL3.out]; omega))).mono ?_
            rintro e w5 ⟨rfl, ho5, hm5⟩
            have HO5 := Lib.hid (HO3.out.then ho5 (by simp; exact HB.out))
            have HM5 := Lib.hid hm5
            have HL5 := Lib.hid HL3.out
            clear ho5 hm5
            have HV := Lib.hid HV1.out
            rw [HV.out]
            go_wp2
            refine ⟨⟨k + 1, _, by omega, by go_num, by rw [← HV.out], HO5.out, HM5.out, HL5.out⟩, by simp [intOf]; omega⟩
          · have hn1 : (nth m.L (a % 16).toNat == xa) = false := by simpa using hn
            have HV1 := Lib.hid hv
            clear hv hn
            go_wp2_with fail
            refine (load_to HM3.out (MS.load_at m' (a % 16) (by omega) (by rw [HL3.out]; omega))).mono ?_
            rintro e w5 ⟨rfl, ho5, hm5⟩
            have HO5 := Lib.hid (HO3.out.then ho5 (by simp; exact HB.out))
            have HM5 := Lib.hid hm5
            have HL5 := Lib.hid HL3.out
            clear ho5 hm5
            have HV := Lib.hid HV1.out
            rw [HV.out]
            go_wp2
            refine ⟨⟨k + 1, _, by omega, by go_num, by rw [← HV.out], HO5.out, HM5.out, HL5.out⟩, by simp [intOf]; omega⟩
          · have hne1 : (xi == a % 16) = false := by simpa using hne
            have HV1 := Lib.hid hv
            clear hv hne
            go_wp2_with fail
            refine (load_to HM3.out (MS.load_at m' (a % 16) (by omega) (by rw [HL3.out]; omega))).mono ?_
            rintro e w5 ⟨rfl, ho5, hm5⟩
            have HO5 := Lib.hid (HO3.out.then ho5 (by simp; exact HB.out))
            have HM5 := Lib.hid hm5
            have HL5 := Lib.hid HL3.out
            clear ho5 hm5
            have HV := Lib.hid HV1.out
            rw [HV.out]
            go_wp2
            refine ⟨⟨k + 1, _, by omega, by go_num, by rw [← HV.out], HO5.out, HM5.out, HL5.out⟩, by simp [intOf]; omega⟩
        by_cases e4 : xk = 4
        · subst e4
          obtain ⟨m', was, er, hst, hl', hc⟩ := MS.add_cases m xi xa (a % 16) (by omega) (by rw [HL.out]; omega)
          have HST := Lib.hid hst
          clear hst
          have HC := Lib.hid hc
          clear hc
          go_wp2_with fail
          refine (add_to (HM2.out.only ((Only.refl [] wr).alloc _) (by simp) (by simp)) HST.out).mono ?_
          rintro e w2 ⟨rfl, ho2, hm2⟩
          have hlt2 := HM2.out.lt
          have hB := (Blk.new wr 29 #[.int .i64 4, .int .i64 xi, .int .u64 xa, .int .u64 xb]).only ho2 (by simp; omega)
          have p0 := hB.at 0 rfl
          have p1 := hB.at 1 rfl
          have p2 := hB.at 2 rfl
          have p3 := hB.at 3 rfl
          have HO3 := Lib.hid (((HO2.out.alloc _)).then ho2 (by simp; exact HB.out))
          have HM3 := Lib.hid hm2
          have HL3 := Lib.hid (hl'.trans HL.out)
          clear ho2 hm2 hB hl' hlt2
          rcases HC.out with ⟨rfl, rfl, hv⟩ | ⟨hne, hv⟩
          · have HV1 := Lib.hid hv
            clear hv
            go_wp2_with fail
            refine (load_to HM3.out (MS.load_at m' (a % 16) (by omega) (by rw [HL3.out]; omega))).mono ?_
            rintro e w5 ⟨rfl, ho5, hm5⟩
            have HO5 := Lib.hid (HO3.out.then ho5 (by simp; exact HB.out))
            have HM5 := Lib.hid hm5
            have HL5 := Lib.hid HL3.out
            clear ho5 hm5
            have HV := Lib.hid HV1.out
            rw [HV.out]
            go_wp2
            refine ⟨⟨k + 1, _, by omega, by go_num, by rw [← HV.out], HO5.out, HM5.out, HL5.out⟩, by simp [intOf]; omega⟩
          · have hne1 : (xi == a % 16) = false := by simpa using hne
            have HV1 := Lib.hid hv
            clear hv hne
            go_wp2_with fail
            refine (load_to HM3.out (MS.load_at m' (a % 16) (by omega) (by rw [HL3.out]; omega))).mono ?_
            rintro e w5 ⟨rfl, ho5, hm5⟩
            have HO5 := Lib.hid (HO3.out.then ho5 (by simp; exact HB.out))
            have HM5 := Lib.hid hm5
            have HL5 := Lib.hid HL3.out
            clear ho5 hm5
            have HV := Lib.hid HV1.out
            rw [HV.out]
            go_wp2
            refine ⟨⟨k + 1, _, by omega, by go_num, by rw [← HV.out], HO5.out, HM5.out, HL5.out⟩, by simp [intOf]; omega⟩
        have g2 : (xk == 2) = false := by simpa using e2
        have g3 : (xk == 3) = false := by simpa using e3
        have g4 : (xk == 4) = false := by simpa using e4
        clear e2 e3 e4
        go_wp2_with fail
        refine (load_to (HM2.out.only ((Only.refl [] wr).alloc _) (by simp) (by simp)) (MS.load_at m (a % 16) (by omega) (by rw [HL.out]; omega))).mono ?_
        rintro e w5 ⟨rfl, ho5, hm5⟩
        have HO5 := Lib.hid ((HO2.out.alloc _).then ho5 (by simp; exact HB.out))
        have HM5 := Lib.hid hm5
        have HL5 := Lib.hid HL.out
        clear ho5 hm5
        go_wp2
        refine ⟨⟨k + 1, ⟨m.L, wrap64 (m.c + 1), m.l⟩, by omega, by go_num, rfl, HO5.out, HM5.out, HL5.out⟩, by simp [intOf]; omega⟩
      · have HO2 := Lib.hid ho
        clear ho
        go_wp2_with fail
        refine (known02 _).mono ?_
        rintro e w5 ⟨rfl, ho5⟩
        have HO5 := Lib.hid (HO2.out.trans ho5)
        clear ho5
        go_wp2
        go_ret
        exact ⟨rfl, HO5.out⟩
    · have HO2 := Lib.hid ho
      clear ho
      go_wp2_with fail
      refine (known02 _).mono ?_
      rintro e w5 ⟨rfl, ho5⟩
      have HO5 := Lib.hid (HO2.out.trans ho5)
      clear ho5
      go_wp2
      go_ret
      exact ⟨rfl, HO5.out⟩

end Go.Proofs.Ytabbnfodolekpaa
