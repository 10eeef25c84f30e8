/- The walk of law SeqlockWhole. -/
import Derived.Test.YtnoplfjodedijaaWholeC
namespace Go.Proofs.Ytnoplfjodedijaa
open Go.RowKit

theorem cellsOf_set (L : List Int) (k : Nat) (v : Int) : (cellsOf L).setIfInBounds k (.int .u64 v) = cellsOf (L.set k v) := by
  unfold cellsOf
  rw [List.setIfInBounds_toArray, List.map_set]

theorem mkn (n : Nat) (h : n ≤ 16) (W : World) : (Instr.makeSlice 52 (.int .i64 (n : Int)) (.int .i64 (n : Int))).run Try.prog W = .ok (.slice (some ⟨W.heap.size, 0, none⟩) n n) (W.alloc (.cells (cellsOf (List.replicate n 0)) 22)) := by
  have := mk40 n (by omega) (by omega) W
  rwa [Int.toNat_natCast] at this

set_option maxHeartbeats 4000000 in
set_option maxRecDepth 100000 in
theorem seqwhole_walk (w : World) (a s rd wd : Int) (A2 : Option Addr) (n2 cap2 : Nat) (A4 : Option Addr) (l : List Int) (cap4 : Nat) (s0 : 0 ≤ s) (s1 : s ≤ 255) (hr2 : ReadsRows w A2 n2) (hr4 : ReadsB w A4 l) (hby : ∀ i, i < l.length → 0 ≤ nth l i ∧ nth l i ≤ 255) :
    Calls Try.prog 9 #[.agg #[.int .u8 a, .int .u8 s, .slice A2 n2 cap2, .int .u8 rd, .slice A4 l.length cap4, .int .u8 wd]] w fun e w' => e = .returned (.bool true) ∧ Only [] w w' := by
  obtain ⟨i0, hi, hz0, hz1, hz2⟩ := info_parts Try.infoW4
  have HI0 := Lib.hid (And.intro hi (And.intro hz0 (And.intro hz1 hz2)))
  have HB := Lib.hid (Blk.new w 63 #[.int .u8 a, .int .u8 s, .slice A2 n2 cap2, .int .u8 rd, .slice A4 l.length cap4, .int .u8 wd])
  have HO := Lib.hid ((Only.refl [] w).alloc (.cells #[.int .u8 a, .int .u8 s, .slice A2 n2 cap2, .int .u8 rd, .slice A4 l.length cap4, .int .u8 wd] 63))
  have HR2 := Lib.hid hr2
  have HR4 := Lib.hid hr4
  have HBY := Lib.hid hby
  clear hr2 hr4 hby hi hz0 hz1 hz2
  obtain ⟨n, hq⟩ : ∃ n : Nat, 1 + s % 16 = (n : Int) := ⟨(1 + s % 16).toNat, by omega⟩
  have n1 : 1 ≤ n := by omega
  have n16 : n ≤ 16 := by omega
  go_enter Try.func9, Try.ntmps9
  go_wp2_with fail
  refine (light_any _ a s rd wd A2 A4 n2 cap2 l.length cap4 (HR2.out.only HO.out)).mono ?_
  rintro e w1 ⟨q, rfl, ho, hqq⟩
  have HO := Lib.hid (HO.out.trans ho)
  have HB := Lib.hid (HB.out.only ho (by simp))
  cases q
  · clear ho hqq
    go_wp2_with fail
    refine (known04 _).mono ?_
    rintro e w2 ⟨rfl, ho⟩
    have HO := Lib.hid (HO.out.trans ho)
    clear ho
    go_wp2_with fail
    go_ret
    exact ⟨rfl, HO.out⟩
  obtain ⟨hn2, hn4⟩ := hqq rfl
  clear ho hqq
  have c1 := HB.out.at 1 (v := .int .u8 s) rfl
  go_wp2_with fail
  refine (new_any _ 40 (by omega) (by omega)).mono ?_
  rintro e w2 ⟨mb, ms, rfl, hmb, hms, ho, hm⟩
  have HST : Hid (SeqSt w (w2.alloc (.cells #[.int .i64 5, .int .i64 n] 66)) mb ms w2.heap.size 5 n #[.int .u8 a, .int .u8 s, .slice A2 n2 cap2, .int .u8 rd, .slice A4 l.length cap4, .int .u8 wd] (MS.new 40) (.slice none 0 0) 0 (fun _ => 0) (fun _ => 0) (fun _ => 0) (fun _ => ⟨5, n, 0, 0, []⟩)) := by
    have h1 := HO.out.size
    exact Lib.hid ⟨(HO.out.trans ho).alloc _, hm.same ((Only.refl [] w2).alloc _), Blk.new _ _ _, (HB.out.only ho (by simp)).alloc _, .nil _ _ _ _ _, fun j hj => absurd hj (by omega), ⟨by omega, by omega⟩, fun j hj => absurd hj (by omega), fun x hx => by cases hx⟩
  clear hmb hms ho hm HO HB c1
  go_wp2_with fail
  go_loopw [7, 8] (fun v i wr => ∃ (k : Nat) (B V C : Nat → Nat) (S : Nat → WS), k ≤ n2 ∧ i = .int .i64 k ∧ SeqSt w wr mb ms w2.heap.size 5 n #[.int .u8 a, .int .u8 s, .slice A2 n2 cap2, .int .u8 rd, .slice A4 l.length cap4, .int .u8 wd] (MS.new 40) v k B V C S ∧ ∀ j, j < k → S j = ⟨5, n, 0, 0, List.replicate n ((j : Int) + 1)⟩) (fun _ i _ => n2 - (intOf i).toNat)
  case atStart => exact ⟨0, _, _, _, _, by omega, rfl, HST.out, fun j hj => absurd hj (by omega)⟩
  case round =>
    clear HST
    obtain ⟨wo, hwo⟩ : ∃ wo, wo = wr := ⟨_, rfl⟩
    subst hwo
    obtain ⟨k, B, V, C, S, hk, rfl, hst, hS⟩ := hrel
    have HST := Lib.hid hst
    have HS := Lib.hid hS
    have c2 := hst.case_.at 2 (v := .slice A2 n2 cap2) rfl
    clear hst hS
    by_cases hlt : k < n2
    · have hlti : (k : Int) < n2 := by omega
      have hmk := mkn n n16
      go_wp2_with fail
      go_loopw [10] (fun i wx => ∃ (q : Nat) (L : List Int), q ≤ n ∧ i = .int .i64 q ∧ L.length = n ∧ Blk wx wo.heap.size 22 (cellsOf L) ∧ (∀ j, j < q → nth L j = (k : Int) + 1) ∧ Only [] wo wx) (fun i _ => n - (intOf i).toNat)
      case atStart => exact ⟨0, _, by omega, rfl, List.length_replicate, Blk.new _ _ _, fun j hj => absurd hj (by omega), (Only.refl _ _).alloc _⟩
      case round =>
        obtain ⟨q, L, hq1, rfl, hL, hb, hn, ho⟩ := hrel
        have HL := Lib.hid (And.intro hL hn)
        have HBX := Lib.hid hb
        have HOX := Lib.hid ho
        by_cases hqn : q < n
        · have hqni : (q : Int) < n := by omega
          have hwr : IntKind.u64.wrap ((k : Int) + 1) = (k : Int) + 1 := by rw [IntKind.wrap_u64]; omega
          have p0 : wr.cell? ⟨wo.heap.size, q, none⟩ = some (.int .u64 (nth L q)) := hb.at q (by simp [cellsOf, nth, hL, hqn])
          have f0 := hb.frozen q
          clear hL hn hb ho
          go_wp2_with fail
          refine ⟨⟨q + 1, L.set q ((k : Int) + 1), by omega, by go_num, by rw [List.length_set]; exact HL.out.1, ?_, fun j hj => ?_, HOX.out.setCell (.inr (Nat.le_refl _)) _⟩, by simp [intOf]; omega⟩
          · rw [← cellsOf_set]
            exact HBX.out.set q _
          · rw [nth_set _ _ _ _ (by rw [HL.out.1]; exact hqn)]
            split
            · rfl
            · exact HL.out.2 j (by omega)
        · have hqni : ¬ (q : Int) < n := by omega
          obtain rfl : q = n := by omega
          have hLe : L = List.replicate q ((k : Int) + 1) := ext_nth _ _ (by rw [List.length_replicate]; exact hL) fun j hj => by rw [nth_rep _ _ _ (by omega)]; exact hn j (by omega)
          subst hLe
          have HRD := Lib.hid (Reads.blk hb)
          have HST := Lib.hid (HST.out.quiet ho)
          have l0 := HST.out.lock.at 0 (v := .int .i64 5) rfl
          have l1 := HST.out.lock.at 1 (v := .int .i64 q) rfl
          clear hL hn hb ho HBX
          go_wp2_with fail
          have hws := write_some wr 5 (some ⟨wo.heap.size, 0, none⟩) q (List.replicate q ((k : Int) + 1)) HRD.out (by omega) (by omega) (by rw [List.length_replicate]; exact n1) (by rw [List.length_replicate]; exact n16)
          rw [List.length_replicate] at hws
          refine hws.mono ?_
          rintro e w3 ⟨b, v, c, rfl, hb, hv, hbv, ho, hw⟩
          rw [List.length_replicate] at hw
          have HN := Lib.hid (And.intro hb (And.intro hv hbv))
          have HO3 := Lib.hid ho
          have HW := Lib.hid hw
          have HRW := Lib.hid (row_based (row_other HST.out.ws.row (HO3.out.alloc (.cells #[.pointer (some ⟨b, 0, none⟩)] 68)) (by simp)) HST.out.loS)
          clear hb hv hbv ho hw c2 l0 l1 hws
          obtain ⟨hi, hz0, hz1, hz2⟩ := HI0.out
          go_wp2_with (at_builtin; refine wpList_append_own _ rfl (.tmp 66) (.tmp 68) 67 rfl w.heap.size 68 i0 (.pointer none) 1 8 Try.underlying67 hi hz0 hz1 hz2 rfl (by decide) _ k _ rfl HRW.out ⟨w3.heap.size, 0, none⟩ 1 1 [.pointer (some ⟨b, 0, none⟩)] rfl rfl ?hn ?h1 ?h63 ?hb ?hbase ?_)
          case hn => intro j u hj; match j, hj with | 0, hj => simp at hj; subst hj; simp [Addr.add]
          case h1 => intro u hu; simp at hu; subst hu; rfl
          case h63 => unfold maxLen; omega
          case hb => omega
          case hbase => have := HST.out.out.size; have := HO3.out.size; simp; omega
          intro v' w4 hown hg _
          have HST := Lib.hid (HST.out.add HO3.out HW.out HN.out.1 HN.out.2.1 HN.out.2.2 hown hg)
          have HS : Hid (∀ j, j < k + 1 → ext S k ⟨5, q, 0, 0, List.replicate q ((k : Int) + 1)⟩ j = ⟨5, q, 0, 0, List.replicate q ((j : Int) + 1)⟩) := Lib.hid fun j hj => by
            by_cases e : j = k
            · rw [e, ext_same]
            · rw [ext_far _ _ _ _ e]
              exact HS.out j (by omega)
          clear hown hg hi hz0 hz1 hz2 HRW HO3 HW HN
          go_wp2_with fail
          exact ⟨⟨k + 1, _, _, _, _, by omega, by go_num, HST.out, HS.out⟩, by simp [intOf]; omega⟩
    · have hlti : ¬ (k : Int) < n2 := by omega
      obtain rfl : k = n2 := by omega
      have HINV := Lib.hid (whole_start k n S HS.out)
      clear HS
      have HLOW := Lib.hid HST.out.low
      have l0 := HST.out.lock.at 0 (v := .int .i64 5) rfl
      have l1 := HST.out.lock.at 1 (v := .int .i64 n) rfl
      obtain ⟨A, cap, rfl⟩ := row_form HST.out.ws.row
      go_wp2_with fail
      refine (read_some _ 5 n (by omega) (by omega) n1 n16).mono ?_
      rintro e w3 ⟨rb, rfl, hrb, ho, hr⟩
      have HST1 := Lib.hid (HST.out.quiet ho)
      have l0 := HST1.out.lock.at 0 (v := .int .i64 5) rfl
      have l1 := HST1.out.lock.at 1 (v := .int .i64 n) rfl
      have HRB := Lib.hid (And.intro hrb (And.intro ho.size hr))
      clear hrb ho hr c2 HST
      go_wp2_with fail
      refine (read_some _ 5 n (by omega) (by omega) n1 n16).mono ?_
      rintro e w4 ⟨sb, rfl, hsb, ho, hs⟩
      have HWH : Hid (WhSt w wo.heap.size mb ms w2.heap.size rb sb n #[.int .u8 a, .int .u8 s, .slice A2 k cap2, .int .u8 rd, .slice A4 l.length cap4, .int .u8 wd] (.slice A k cap) k B V C 0 0 w4) := by
        obtain ⟨h1, h2, h3⟩ := HRB.out
        have h4 := h3.obj.lt
        exact Lib.hid ⟨_, S, none, 0, _, _, _, _, HST1.out.quiet ho, HINV.out, ⟨h3.quiet ho, hs, ⟨h1, by omega, by omega⟩, fun x hx => (by cases hx), fun x hx => (by cases hx), fun x hx => (by cases hx)⟩, reader_start _ _ _, reader_start _ _ _, rfl, by have := ho.size; omega⟩
      clear hsb ho hs l0 l1 HST1 HRB HINV
      go_wp2_with fail
      go_loopw [14] (fun i wx => ∃ (t : Nat) (c : Int), t ≤ l.length ∧ i = .int .i64 t ∧ WhSt w wo.heap.size mb ms w2.heap.size rb sb n #[.int .u8 a, .int .u8 s, .slice A2 k cap2, .int .u8 rd, .slice A4 l.length cap4, .int .u8 wd] (.slice A k cap) k B V C c t wx) (fun i _ => l.length - (intOf i).toNat)
      case atStart => exact ⟨0, 0, by omega, rfl, HWH.out⟩
      case round =>
        clear HWH
        obtain ⟨t, c, ht, rfl, hw⟩ := hrel
        have HW := Lib.hid hw
        have c4 := hw.case_.at 4 (v := .slice A4 l.length cap4) rfl
        clear hw
        by_cases hlt : t < l.length
        · have hlti : (t : Int) < l.length := by omega
          obtain ⟨go, o, hgo, rfl, hc⟩ := HR4.out.at hlt
          have d1 := (HW.out.only.cell (p := ⟨go, o + t, none⟩) hgo (by simp)).trans (hc t hlt)
          have hb := HBY.out t hlt
          have p0 : 0 ≤ nth l t := hb.1
          have p1 : nth l t ≤ 255 := hb.2
          clear hb hc hgo
          obtain ⟨j, hj⟩ : ∃ j : Nat, nth l t % ((k : Int) + 2) = (j : Int) := ⟨(nth l t % ((k : Int) + 2)).toNat, by rw [Int.toNat_of_nonneg (Int.emod_nonneg _ (by omega))]⟩
          have hjk : j < k + 2 := by have := Int.emod_lt_of_pos (nth l t) (show (0 : Int) < (k : Int) + 2 by omega); omega
          go_wp2_with fail
          refine (HW.out.load HLOW.out).mono ?_
          rintro e w5 ⟨rfl, hw⟩
          rw [hj]
          have HW := Lib.hid hw
          have hcb := hw.bounds
          have hw1 : IntKind.u64.wrap (c + 1) = c + 1 := by rw [IntKind.wrap_u64]; omega
          clear hw d1 c4 hj
          by_cases h0 : j < k
          · obtain ⟨g, rfl⟩ : ∃ g, A = some ⟨g, 0, none⟩ := HW.out.addr (by omega)
            have h0i : (j : Int) < k := by omega
            have ck := HW.out.cell h0
            go_wp2_with fail
            refine (HW.out.wstep HLOW.out n1 n16 hn2 (by omega) h0).mono ?_
            rintro e w6 ⟨q, c', rfl, k1, k2, hw⟩
            have HW := Lib.hid hw
            have k1' : ¬ c' < c := by omega
            have k2' : ¬ c + 1 < c' := by omega
            clear hw ck k1 k2 hcb
            clear h0
            have c2 := HW.out.case_.at 2 (v := .slice A2 k cap2) rfl
            have c4 := HW.out.case_.at 4 (v := .slice (some ⟨go, o, none⟩) l.length cap4) rfl
            go_wp2_with fail
            refine (HW.out.load HLOW.out).mono ?_
            rintro e w7 ⟨rfl, hw⟩
            have HW := Lib.hid hw
            have c2 := HW.out.case_.at 2 (v := .slice A2 k cap2) rfl
            clear hw c4
            go_wp2_with fail
            refine (HW.out.rwhole n1 n16 hn2).mono ?_
            rintro e w8 ⟨rfl, hw⟩
            have HW := Lib.hid hw
            have c2 := HW.out.case_.at 2 (v := .slice A2 k cap2) rfl
            clear hw
            go_wp2_with fail
            refine (HW.out.swhole n1 n16 hn2).mono ?_
            rintro e w9 ⟨rfl, hw⟩
            have HW := Lib.hid hw
            clear hw
            go_wp2_with fail
            exact ⟨⟨t + 1, c', by omega, by go_num, HW.out⟩, by simp [intOf]; omega⟩
          · have h0i : ¬ (j : Int) < k := by omega
            have k1' : ¬ c < c := by omega
            have k2' : ¬ c + 1 < c := by omega
            by_cases hje : j = k
            · have h1 : ((j : Int) == (k : Int)) = true := by simp; omega
              clear hje
              go_wp2_with fail
              refine (HW.out.rstep HLOW.out n1 n16 (by omega)).mono ?_
              rintro e w6 ⟨q, rfl, hw⟩
              have HW := Lib.hid hw
              clear hw hcb
              clear h0
              have c2 := HW.out.case_.at 2 (v := .slice A2 k cap2) rfl
              have c4 := HW.out.case_.at 4 (v := .slice (some ⟨go, o, none⟩) l.length cap4) rfl
              go_wp2_with fail
              refine (HW.out.load HLOW.out).mono ?_
              rintro e w7 ⟨rfl, hw⟩
              have HW := Lib.hid hw
              have c2 := HW.out.case_.at 2 (v := .slice A2 k cap2) rfl
              clear hw c4
              go_wp2_with fail
              refine (HW.out.rwhole n1 n16 hn2).mono ?_
              rintro e w8 ⟨rfl, hw⟩
              have HW := Lib.hid hw
              have c2 := HW.out.case_.at 2 (v := .slice A2 k cap2) rfl
              clear hw
              go_wp2_with fail
              refine (HW.out.swhole n1 n16 hn2).mono ?_
              rintro e w9 ⟨rfl, hw⟩
              have HW := Lib.hid hw
              clear hw
              go_wp2_with fail
              exact ⟨⟨t + 1, c, by omega, by go_num, HW.out⟩, by simp [intOf]; omega⟩
            · have h1 : ((j : Int) == (k : Int)) = false := by simp; omega
              clear hje
              go_wp2_with fail
              refine (HW.out.sstep HLOW.out n1 n16 (by omega)).mono ?_
              rintro e w6 ⟨q, rfl, hw⟩
              have HW := Lib.hid hw
              clear hw hcb
              clear h0
              have c2 := HW.out.case_.at 2 (v := .slice A2 k cap2) rfl
              have c4 := HW.out.case_.at 4 (v := .slice (some ⟨go, o, none⟩) l.length cap4) rfl
              go_wp2_with fail
              refine (HW.out.load HLOW.out).mono ?_
              rintro e w7 ⟨rfl, hw⟩
              have HW := Lib.hid hw
              have c2 := HW.out.case_.at 2 (v := .slice A2 k cap2) rfl
              clear hw c4
              go_wp2_with fail
              refine (HW.out.rwhole n1 n16 hn2).mono ?_
              rintro e w8 ⟨rfl, hw⟩
              have HW := Lib.hid hw
              have c2 := HW.out.case_.at 2 (v := .slice A2 k cap2) rfl
              clear hw
              go_wp2_with fail
              refine (HW.out.swhole n1 n16 hn2).mono ?_
              rintro e w9 ⟨rfl, hw⟩
              have HW := Lib.hid hw
              clear hw
              go_wp2_with fail
              exact ⟨⟨t + 1, c, by omega, by go_num, HW.out⟩, by simp [intOf]; omega⟩
        · have hlti : ¬ (t : Int) < l.length := by omega
          go_wp2_with fail
          refine (known04 _).mono ?_
          rintro e w5 ⟨rfl, ho⟩
          have HO := Lib.hid (HW.out.only.trans ho)
          clear ho
          go_wp2_with fail
          go_ret
          exact ⟨rfl, HO.out⟩

end Go.Proofs.Ytnoplfjodedijaa
