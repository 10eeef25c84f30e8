/- The walk of the document's Parse. -/
import Derived.Test.YtnoplfjodedijaaRShow2
import Derived.Deep.DeepCutAuto
import Derived.Deep.CutBlock
namespace Go.Proofs.Ytnoplfjodedijaa
open Go.RowKit

/-- What the document's Parse answers. -/
def RParsed (w : World) (r : Option Four) (e : Ending) (w' : World) : Prop := e = .returned (.tuple #[sayVal r, .bool r.isSome]) ∧ Only [] w w'

theorem saysR_short {s : List UInt8} (h : 100 < s.length ∨ (parts s).length < 2 ∨ 4 < (parts s).length) : saysR s = none := by
  unfold saysR
  rw [if_pos h]

theorem parts_len (n : Nat) : ∀ l : List UInt8, l.length ≤ n → ∀ p ∈ parts l, p.length ≤ l.length := by
  induction n with
  | zero =>
    intro l hl p hp
    have : l = [] := List.eq_nil_of_length_eq_zero (by omega)
    subst this
    rw [parts_none (by decide)] at hp
    rw [List.mem_singleton.1 hp]
    exact Nat.le_refl _
  | succ n ih =>
    intro l hl p hp
    by_cases h : mo l = true
    · rw [parts_some h] at hp
      have hj := congrArg List.length ((join l).1 h)
      simp at hj
      rcases List.mem_cons.1 hp with hp | hp
      · rw [hp]; omega
      · have := ih (tl l) (by omega) p hp
        omega
    · rw [parts_none h] at hp
      rw [List.mem_singleton.1 hp]
      exact Nat.le_refl _

/-- The kind that is found among the first names. -/
def kindTo (p : List UInt8) (k : Nat) : Int := if kindOf p < k then kindOf p else 0
def nameRow : Array Value := #[.string ⟨#[]⟩, .string ⟨#[108, 111, 97, 100]⟩, .string ⟨#[115, 116, 111, 114, 101]⟩, .string ⟨#[99, 97, 115]⟩, .string ⟨#[97, 100, 100]⟩]
theorem kindOf_le (p : List UInt8) : 0 ≤ kindOf p ∧ kindOf p ≤ 4 := by
  unfold kindOf
  repeat' split
  all_goals omega
theorem kindTo_one (p : List UInt8) : kindTo p 1 = 0 := by
  have := kindOf_le p
  unfold kindTo
  split <;> omega
theorem kindTo_five (p : List UInt8) : kindTo p 5 = kindOf p := by
  have := kindOf_le p
  unfold kindTo
  rw [if_pos (by omega)]
theorem kindTo_hit (p : List UInt8) (k : Nat) (h : kindOf p = k) : kindTo p (k + 1) = k := by
  unfold kindTo
  rw [if_pos (by omega), h]
theorem kindTo_miss (p : List UInt8) (k : Nat) (h : ¬ kindOf p = k) : kindTo p (k + 1) = kindTo p k := by
  unfold kindTo
  by_cases h1 : kindOf p < k
  · rw [if_pos (by omega), if_pos h1]
  · rw [if_neg (by omega), if_neg h1]
theorem kind_is (p : List UInt8) (k : Int) (h1 : 1 ≤ k) (h4 : k ≤ 4) : kindOf p = k ↔ nameOf k = p := by
  constructor
  · intro h
    have := (name_kind (l := p) (by omega)).1
    rw [h] at this
    exact this
  · intro h
    rw [← h]
    exact kind_name h1 h4

set_option maxHeartbeats 4000000 in
set_option maxRecDepth 100000 in
theorem rparse_any (w : World) (l : List UInt8) (hl : l.length ≤ 1000) : Calls Try.prog 15 #[.string (bs l)] w (RParsed w (saysR l)) := by
  have hsz := bs_size l
  have HA := Lib.hid (Blk.new w 24 zeroAct)
  have HLL := Lib.hid hl
  go_enter Try.func15, Try.ntmps15
  go_wp2_with fail
  refine (rwords_any _ l hl).mono ?_
  rintro e w1 ⟨v, rfl, ho, hown⟩
  have HO := Lib.hid (((Only.refl [] w).alloc _).trans ho)
  have HA := Lib.hid (HA.out.only ho (by simp))
  have HA1 := Lib.hid HA.out.lt
  obtain ⟨P, hP⟩ : ∃ P, parts l = P := ⟨_, rfl⟩
  rw [hP] at hown
  have HP := Lib.hid hP
  have HW := Lib.hid hown
  obtain ⟨A, cp, rfl⟩ := row_form hown
  have hlen0 : l.length ≤ 9223372036854775807 := by omega
  clear ho hown hP hl
  have q0 := HA.out.at 0 (v := .int .i64 0) rfl
  have q1 := HA.out.at 1 (v := .int .i64 0) rfl
  have q2 := HA.out.at 2 (v := .int .u64 0) rfl
  have q3 := HA.out.at 3 (v := .int .u64 0) rfl
  have f0 := HA.out.frozen 0
  have f1 := HA.out.frozen 1
  have f2 := HA.out.frozen 2
  have f3 := HA.out.frozen 3
  by_cases hbad : 100 < l.length ∨ P.length < 2 ∨ 4 < P.length
  · have HS := Lib.hid (saysR_short (s := l) (by rw [HP.out]; exact hbad))
    have hZ := zero_four HA.out
    have p0 := hZ.at 0 (v := .int .i64 0) rfl
    have p1 := hZ.at 1 (v := .int .i64 0) rfl
    have p2 := hZ.at 2 (v := .int .u64 0) rfl
    have p3 := hZ.at 3 (v := .int .u64 0) rfl
    clear hZ
    by_cases b1 : (100 : Int) < l.length
    · go_wp2_with fail
      refine bodyPost_ret (v := .tuple #[.agg zeroAct, .bool false]) (by simp [results, Try.results15, go_sem, p0, p1, p2, p3, zeroAct]) rfl ⟨by rw [HS.out]; rfl, only_four HO.out (Nat.le_refl _) _ _ _ _⟩
    · by_cases b2 : (P.length : Int) < 2
      · go_wp2_with fail
        refine bodyPost_ret (v := .tuple #[.agg zeroAct, .bool false]) (by simp [results, Try.results15, go_sem, p0, p1, p2, p3, zeroAct]) rfl ⟨by rw [HS.out]; rfl, only_four HO.out (Nat.le_refl _) _ _ _ _⟩
      · have b3 : (4 : Int) < P.length := by omega
        go_wp2_with fail
        refine bodyPost_ret (v := .tuple #[.agg zeroAct, .bool false]) (by simp [results, Try.results15, go_sem, p0, p1, p2, p3, zeroAct]) rfl ⟨by rw [HS.out]; rfl, only_four HO.out (Nat.le_refl _) _ _ _ _⟩
  · have b1 : ¬ (100 : Int) < l.length := by omega
    have b2 : ¬ (P.length : Int) < 2 := by omega
    have b3 : ¬ (4 : Int) < P.length := by omega
    obtain ⟨g, c', cur, hv, hg, hb, hcur⟩ := row_cells HW.out (by omega)
    injection hv with e1 _ e2
    subst e1 e2
    have hlt1 : (1 : Int) < P.length := by omega
    have hlt0 : (0 : Int) < P.length := by omega
    obtain ⟨p0, hp0⟩ : ∃ p, P.getD 0 [] = p := ⟨_, rfl⟩
    obtain ⟨p1, hp1⟩ : ∃ p, P.getD 1 [] = p := ⟨_, rfl⟩
    have d1 : w1.cell? ⟨g, 1, none⟩ = some (.string (bs p1)) := hb.at 1 ((hcur 1 (by omega)).trans (by rw [← hp1]; simp [strs, List.getD, show 1 < P.length from by omega]))
    have d0c : cur[0]? = some (.string (bs p0)) := (hcur 0 (by omega)).trans (by rw [← hp0]; simp [strs, List.getD, show 0 < P.length from by omega])
    have hpl : ∀ p ∈ P, p.length ≤ 9223372036854775807 := fun p hp => by
      have := parts_len _ l (Nat.le_refl _) p (by rw [HP.out]; exact hp)
      omega
    have hm1 : p1 ∈ P := by
      rw [← hp1, List.getD_eq_getElem?_getD, List.getElem?_eq_getElem (show 1 < P.length from by omega)]
      exact List.getElem_mem _
    have HP0 := Lib.hid hp0
    have HP1 := Lib.hid hp1
    have HPL := Lib.hid hpl
    have HBK := Lib.hid (And.intro hg (And.intro hb hcur))
    have HD0 := Lib.hid d0c
    have hlen1 := hpl p1 hm1
    clear hg hb hcur hp0 hp1 hpl hm1 d0c
    go_wp2_with fail
    refine (rnumber_any _ p1 hlen1).mono ?_
    rintro e w1' ⟨rfl, rfl⟩
    go_upto_region 5 with fail
    generalize hix : wrap64 (rdr p1 : Int) = ix
    have HIX := Lib.hid hix
    clear hix
    have HC := Lib.hid ((Blk.new w1 24 #[.int .i64 0, .int .i64 ix, .int .u64 0, .int .u64 0]).alloc (.cells nameRow 9))
    have HNM := Lib.hid (Blk.new' (w1.alloc (.cells #[.int .i64 0, .int .i64 ix, .int .u64 0, .int .u64 0] 24)) 9 nameRow (g := w1.heap.size + 1) (by simp))
    have o2 := ((Only.refl [] w1).alloc (.cells #[.int .i64 0, .int .i64 ix, .int .u64 0, .int .u64 0] 24)).alloc (.cells nameRow 9)
    have HA := Lib.hid (HA.out.only o2 (by simp))
    have HO := Lib.hid (HO.out.trans o2)
    have HCW := Lib.hid (show w.heap.size < w1.heap.size ∧ g < w1.heap.size from ⟨by have := HA1.out; omega, HBK.out.2.1.lt⟩)
    have HROW := Lib.hid (Blk.only HBK.out.2.1 o2 (by simp))
    clear o2 d1 q0 q1 q2 q3 f0 f1 f2 f3
    go_wp2_with fail
    go_loopw [7] (fun i wr => ∃ k : Nat, 1 ≤ k ∧ k ≤ 5 ∧ i = .int .i64 k ∧ Blk wr w1.heap.size 24 #[.int .i64 (kindTo p0 k), .int .i64 ix, .int .u64 0, .int .u64 0] ∧ Blk wr (w1.heap.size + 1) 9 nameRow ∧ Blk wr g 9 cur ∧ Blk wr w.heap.size 24 zeroAct ∧ Only [] w wr) (fun i _ => 5 - (intOf i).toNat)
    case atStart => exact ⟨1, by omega, by omega, rfl, by rw [kindTo_one]; exact HC.out, HNM.out, HROW.out, HA.out, HO.out⟩
    case round =>
      clear HC HNM HROW HA HO
      obtain ⟨k, hk1, hk5, rfl, hc, hnm, hrow, ha, ho⟩ := hrel
      have HC := Lib.hid hc
      have HNM := Lib.hid hnm
      have HROW := Lib.hid hrow
      have HA := Lib.hid ha
      have HO := Lib.hid ho
      have r0 := hrow.at 0 HD0.out
      have c0 := hc.at 0 (v := .int .i64 (kindTo p0 k)) rfl
      have cf0 := hc.frozen 0
      clear hc hnm hrow ha ho
      by_cases hk : k < 5
      · have hki : (k : Int) < 5 := by omega
        have : k = 1 ∨ k = 2 ∨ k = 3 ∨ k = 4 := by omega
        rcases this with rfl | rfl | rfl | rfl
        · have nk := HNM.out.at 1 (v := .string ⟨#[108, 111, 97, 100]⟩) rfl
          have hbp := bs_list p0
          by_cases hq : kindOf p0 = 1
          · have hn : [108, 111, 97, 100] = p0 := (kind_is p0 1 (by omega) (by omega)).1 hq
            have hcmp : ([108, 111, 97, 100] == (bs p0).toList) = true := by rw [hbp, hn]; simp
            have HQ := Lib.hid (show kindTo p0 (1 + 1) = 1 from kindTo_hit p0 1 hq)
            clear hq hn hbp
            go_wp2_with fail
            go_region
            all_goals
              go_wp2_with fail
              refine ⟨⟨1 + 1, by omega, by omega, by simp, ?_, ?_, ?_, ?_, ?_⟩, by simp [intOf]⟩
              · rw [HQ.out]; exact Blk.set HC.out.drew 0 (.int .i64 1)
              · exact Blk.far HNM.out.drew (by simp) _
              · exact Blk.far HROW.out.drew (by have := HCW.out; simp; omega) _
              · exact Blk.far HA.out.drew (by have := HCW.out; simp; omega) _
              · exact HO.out.drew.setCell (.inr (by have := HCW.out; simp; omega)) _
          · have hn : ¬ [108, 111, 97, 100] = p0 := fun h => hq ((kind_is p0 1 (by omega) (by omega)).2 h)
            have hcmp : ([108, 111, 97, 100] == (bs p0).toList) = false := by rw [hbp]; simpa using hn
            have HQ := Lib.hid (show kindTo p0 (1 + 1) = kindTo p0 1 from kindTo_miss p0 1 hq)
            clear hq hn hbp
            go_wp2_with fail
            go_region
            all_goals
              go_wp2_with fail
              exact ⟨⟨1 + 1, by omega, by omega, by simp, by rw [HQ.out]; exact HC.out.drew, HNM.out.drew, HROW.out.drew, HA.out.drew, HO.out.drew⟩, by simp [intOf]⟩
        · have nk := HNM.out.at 2 (v := .string ⟨#[115, 116, 111, 114, 101]⟩) rfl
          have hbp := bs_list p0
          by_cases hq : kindOf p0 = 2
          · have hn : [115, 116, 111, 114, 101] = p0 := (kind_is p0 2 (by omega) (by omega)).1 hq
            have hcmp : ([115, 116, 111, 114, 101] == (bs p0).toList) = true := by rw [hbp, hn]; simp
            have HQ := Lib.hid (show kindTo p0 (2 + 1) = 2 from kindTo_hit p0 2 hq)
            clear hq hn hbp
            go_wp2_with fail
            go_region
            all_goals
              go_wp2_with fail
              refine ⟨⟨2 + 1, by omega, by omega, by simp, ?_, ?_, ?_, ?_, ?_⟩, by simp [intOf]⟩
              · rw [HQ.out]; exact Blk.set HC.out.drew 0 (.int .i64 2)
              · exact Blk.far HNM.out.drew (by simp) _
              · exact Blk.far HROW.out.drew (by have := HCW.out; simp; omega) _
              · exact Blk.far HA.out.drew (by have := HCW.out; simp; omega) _
              · exact HO.out.drew.setCell (.inr (by have := HCW.out; simp; omega)) _
          · have hn : ¬ [115, 116, 111, 114, 101] = p0 := fun h => hq ((kind_is p0 2 (by omega) (by omega)).2 h)
            have hcmp : ([115, 116, 111, 114, 101] == (bs p0).toList) = false := by rw [hbp]; simpa using hn
            have HQ := Lib.hid (show kindTo p0 (2 + 1) = kindTo p0 2 from kindTo_miss p0 2 hq)
            clear hq hn hbp
            go_wp2_with fail
            go_region
            all_goals
              go_wp2_with fail
              exact ⟨⟨2 + 1, by omega, by omega, by simp, by rw [HQ.out]; exact HC.out.drew, HNM.out.drew, HROW.out.drew, HA.out.drew, HO.out.drew⟩, by simp [intOf]⟩
        · have nk := HNM.out.at 3 (v := .string ⟨#[99, 97, 115]⟩) rfl
          have hbp := bs_list p0
          by_cases hq : kindOf p0 = 3
          · have hn : [99, 97, 115] = p0 := (kind_is p0 3 (by omega) (by omega)).1 hq
            have hcmp : ([99, 97, 115] == (bs p0).toList) = true := by rw [hbp, hn]; simp
            have HQ := Lib.hid (show kindTo p0 (3 + 1) = 3 from kindTo_hit p0 3 hq)
            clear hq hn hbp
            go_wp2_with fail
            go_region
            all_goals
              go_wp2_with fail
              refine ⟨⟨3 + 1, by omega, by omega, by simp, ?_, ?_, ?_, ?_, ?_⟩, by simp [intOf]⟩
              · rw [HQ.out]; exact Blk.set HC.out.drew 0 (.int .i64 3)
              · exact Blk.far HNM.out.drew (by simp) _
              · exact Blk.far HROW.out.drew (by have := HCW.out; simp; omega) _
              · exact Blk.far HA.out.drew (by have := HCW.out; simp; omega) _
              · exact HO.out.drew.setCell (.inr (by have := HCW.out; simp; omega)) _
          · have hn : ¬ [99, 97, 115] = p0 := fun h => hq ((kind_is p0 3 (by omega) (by omega)).2 h)
            have hcmp : ([99, 97, 115] == (bs p0).toList) = false := by rw [hbp]; simpa using hn
            have HQ := Lib.hid (show kindTo p0 (3 + 1) = kindTo p0 3 from kindTo_miss p0 3 hq)
            clear hq hn hbp
            go_wp2_with fail
            go_region
            all_goals
              go_wp2_with fail
              exact ⟨⟨3 + 1, by omega, by omega, by simp, by rw [HQ.out]; exact HC.out.drew, HNM.out.drew, HROW.out.drew, HA.out.drew, HO.out.drew⟩, by simp [intOf]⟩
        · have nk := HNM.out.at 4 (v := .string ⟨#[97, 100, 100]⟩) rfl
          have hbp := bs_list p0
          by_cases hq : kindOf p0 = 4
          · have hn : [97, 100, 100] = p0 := (kind_is p0 4 (by omega) (by omega)).1 hq
            have hcmp : ([97, 100, 100] == (bs p0).toList) = true := by rw [hbp, hn]; simp
            have HQ := Lib.hid (show kindTo p0 (4 + 1) = 4 from kindTo_hit p0 4 hq)
            clear hq hn hbp
            go_wp2_with fail
            go_region
            all_goals
              go_wp2_with fail
              refine ⟨⟨4 + 1, by omega, by omega, by simp, ?_, ?_, ?_, ?_, ?_⟩, by simp [intOf]⟩
              · rw [HQ.out]; exact Blk.set HC.out.drew 0 (.int .i64 4)
              · exact Blk.far HNM.out.drew (by simp) _
              · exact Blk.far HROW.out.drew (by have := HCW.out; simp; omega) _
              · exact Blk.far HA.out.drew (by have := HCW.out; simp; omega) _
              · exact HO.out.drew.setCell (.inr (by have := HCW.out; simp; omega)) _
          · have hn : ¬ [97, 100, 100] = p0 := fun h => hq ((kind_is p0 4 (by omega) (by omega)).2 h)
            have hcmp : ([97, 100, 100] == (bs p0).toList) = false := by rw [hbp]; simpa using hn
            have HQ := Lib.hid (show kindTo p0 (4 + 1) = kindTo p0 4 from kindTo_miss p0 4 hq)
            clear hq hn hbp
            go_wp2_with fail
            go_region
            all_goals
              go_wp2_with fail
              exact ⟨⟨4 + 1, by omega, by omega, by simp, by rw [HQ.out]; exact HC.out.drew, HNM.out.drew, HROW.out.drew, HA.out.drew, HO.out.drew⟩, by simp [intOf]⟩
      · have hki : ¬ (k : Int) < 5 := by omega
        obtain rfl : k = 5 := by omega
        rw [kindTo_five] at HC
        clear c0 cf0 r0
        have hcase : P.length = 2 ∨ P.length = 3 ∨ P.length = 4 := by omega
        rcases hcase with hP2 | hP2 | hP2
        · have n2 : ¬ (2 : Int) < P.length := by omega
          have n3 : ¬ (3 : Int) < P.length := by omega
          have hx : guess P = ⟨kindOf p0, ix, 0, 0⟩ := by
            unfold guess
            rw [HP0.out, HP1.out, if_neg (by omega), if_neg (by omega), HIX.out]
          have HS := Lib.hid (show saysR l = if Four.shown ⟨kindOf p0, ix, 0, 0⟩ = l then some ⟨kindOf p0, ix, 0, 0⟩ else none from by
            unfold saysR
            rw [HP.out, if_neg hbad, hx])
          have hib : ix < 9223372036854775808 := by rw [← HIX.out]; unfold wrap64; omega
          have e0 := HC.out.at 0 (v := .int .i64 (kindOf p0)) rfl
          have e1 := HC.out.at 1 (v := .int .i64 ix) rfl
          have e2 := HC.out.at 2 (v := .int .u64 0) rfl
          have e3 := HC.out.at 3 (v := .int .u64 0) rfl
          clear hx
          go_wp2_with fail
          refine (rshow_any _ (kindOf p0) ix 0 0 hib (by first | exact rdr_lt _ | omega) (by first | exact rdr_lt _ | omega)).mono ?_
          rintro e w6 ⟨rfl, ho⟩
          have HC := Lib.hid (HC.out.only ho (by simp))
          have HA := Lib.hid (HA.out.only ho (by simp))
          have HO := Lib.hid (HO.out.trans ho)
          obtain ⟨t, ht⟩ : ∃ t, Four.shown ⟨kindOf p0, ix, 0, 0⟩ = t := ⟨_, rfl⟩
          rw [ht]
          have HS2 := Lib.hid (show saysR l = if t = l then some ⟨kindOf p0, ix, 0, 0⟩ else none from by rw [← ht]; exact HS.out)
          have g0 := HC.out.at 0 (v := .int .i64 (kindOf p0)) rfl
          have g1 := HC.out.at 1 (v := .int .i64 ix) rfl
          have g2 := HC.out.at 2 (v := .int .u64 0) rfl
          have g3 := HC.out.at 3 (v := .int .u64 0) rfl
          have q0 := HA.out.at 0 (v := .int .i64 0) rfl
          have q1 := HA.out.at 1 (v := .int .i64 0) rfl
          have q2 := HA.out.at 2 (v := .int .u64 0) rfl
          have q3 := HA.out.at 3 (v := .int .u64 0) rfl
          have f0 := HA.out.frozen 0
          have f1 := HA.out.frozen 1
          have f2 := HA.out.frozen 2
          have f3 := HA.out.frozen 3
          clear ho ht e0 e1 e2 e3
          by_cases hq : t = l
          · have HR := Lib.hid (show saysR l = some ⟨kindOf p0, ix, 0, 0⟩ from by rw [HS2.out, if_pos hq])
            have hcmp : ((bs t).toList == (bs l).toList) = true := by rw [hq]; simp
            have hcmp2 : ((bs t).toList = (bs l).toList) = True := eq_true (by rw [hq])
            have hcmp3 : ((bs t).toList != (bs l).toList) = false := by rw [hq]; simp
            clear hq
            have HF := Lib.hid ((((HA.out.set 0 (.int .i64 (kindOf p0))).set 1 (.int .i64 ix)).set 2 (.int .u64 0)).set 3 (.int .u64 0))
            have p0' := HF.out.at 0 (v := .int .i64 (kindOf p0)) rfl
            have p1' := HF.out.at 1 (v := .int .i64 ix) rfl
            have p2' := HF.out.at 2 (v := .int .u64 0) rfl
            have p3' := HF.out.at 3 (v := .int .u64 0) rfl
            go_wp2_with fail
            refine bodyPost_ret (v := .tuple #[.agg #[.int .i64 (kindOf p0), .int .i64 ix, .int .u64 0, .int .u64 0], .bool true]) (by simp [results, Try.results15, go_sem, p0', p1', p2', p3']) rfl ⟨by rw [HR.out]; rfl, only_four HO.out (Nat.le_refl _) _ _ _ _⟩
          · have HR := Lib.hid (show saysR l = none from by rw [HS2.out, if_neg hq])
            have hcmp : ((bs t).toList == (bs l).toList) = false := by rw [bs_list, bs_list]; simpa using hq
            have hcmp2 : ((bs t).toList = (bs l).toList) = False := eq_false (by rw [bs_list, bs_list]; exact hq)
            have hcmp3 : ((bs t).toList != (bs l).toList) = true := by rw [bs_list, bs_list]; simpa using hq
            clear hq
            have HF := Lib.hid (zero_four HA.out)
            have p0' := HF.out.at 0 (v := .int .i64 0) rfl
            have p1' := HF.out.at 1 (v := .int .i64 0) rfl
            have p2' := HF.out.at 2 (v := .int .u64 0) rfl
            have p3' := HF.out.at 3 (v := .int .u64 0) rfl
            go_wp2_with fail
            refine bodyPost_ret (v := .tuple #[.agg zeroAct, .bool false]) (by simp [results, Try.results15, go_sem, p0', p1', p2', p3', zeroAct]) rfl ⟨by rw [HR.out]; rfl, only_four HO.out (Nat.le_refl _) _ _ _ _⟩
        · have n2 : (2 : Int) < P.length := by omega
          have n3 : ¬ (3 : Int) < P.length := by omega
          have HP2 := Lib.hid hP2
          obtain ⟨p2, hp2⟩ : ∃ p, P.getD 2 [] = p := ⟨_, rfl⟩
          have d2 := HROW.out.at 2 (v := .string (bs p2)) ((HBK.out.2.2 2 (by omega)).trans (by rw [← hp2]; simp [strs, List.getD, show 2 < P.length from by omega]))
          have hlp2 := HPL.out p2 (by rw [← hp2, List.getD_eq_getElem?_getD, List.getElem?_eq_getElem (show 2 < P.length from by omega)]; exact List.getElem_mem _)
          have Hp2 := Lib.hid hp2
          have x2 := HC.out.at 2 (v := .int .u64 0) rfl
          have y2 := HC.out.frozen 2
          clear hp2
          go_wp2_with fail
          refine (rnumber_any _ p2 hlp2).mono ?_
          rintro e w5 ⟨rfl, rfl⟩
          have HC := Lib.hid (Blk.set HC.out 2 (.int .u64 (rdr p2)))
          have HROW := Lib.hid (Blk.far HROW.out (p := ⟨w1.heap.size, 2, none⟩) (by have := HCW.out; simp; omega) (.int .u64 (rdr p2)))
          have HA := Lib.hid (Blk.far HA.out (p := ⟨w1.heap.size, 2, none⟩) (by have := HCW.out; simp; omega) (.int .u64 (rdr p2)))
          have HO := Lib.hid (Only.setCell HO.out (p := ⟨w1.heap.size, 2, none⟩) (.inr (by have := HCW.out; simp; omega)) (.int .u64 (rdr p2)))
          have hx : guess P = ⟨kindOf p0, ix, (rdr p2), 0⟩ := by
            unfold guess
            rw [HP0.out, HP1.out, if_pos (by omega), if_neg (by omega), HIX.out, Hp2.out]
          have HS := Lib.hid (show saysR l = if Four.shown ⟨kindOf p0, ix, (rdr p2), 0⟩ = l then some ⟨kindOf p0, ix, (rdr p2), 0⟩ else none from by
            unfold saysR
            rw [HP.out, if_neg hbad, hx])
          have hib : ix < 9223372036854775808 := by rw [← HIX.out]; unfold wrap64; omega
          have e0 := HC.out.at 0 (v := .int .i64 (kindOf p0)) rfl
          have e1 := HC.out.at 1 (v := .int .i64 ix) rfl
          have e2 := HC.out.at 2 (v := .int .u64 ((rdr p2) : Nat)) rfl
          have e3 := HC.out.at 3 (v := .int .u64 0) rfl
          clear hx
          go_wp2_with fail
          refine (rshow_any _ (kindOf p0) ix (rdr p2) 0 hib (by first | exact rdr_lt _ | omega) (by first | exact rdr_lt _ | omega)).mono ?_
          rintro e w6 ⟨rfl, ho⟩
          have HC := Lib.hid (HC.out.only ho (by simp))
          have HA := Lib.hid (HA.out.only ho (by simp))
          have HO := Lib.hid (HO.out.trans ho)
          obtain ⟨t, ht⟩ : ∃ t, Four.shown ⟨kindOf p0, ix, (rdr p2), 0⟩ = t := ⟨_, rfl⟩
          rw [ht]
          have HS2 := Lib.hid (show saysR l = if t = l then some ⟨kindOf p0, ix, (rdr p2), 0⟩ else none from by rw [← ht]; exact HS.out)
          have g0 := HC.out.at 0 (v := .int .i64 (kindOf p0)) rfl
          have g1 := HC.out.at 1 (v := .int .i64 ix) rfl
          have g2 := HC.out.at 2 (v := .int .u64 ((rdr p2) : Nat)) rfl
          have g3 := HC.out.at 3 (v := .int .u64 0) rfl
          have q0 := HA.out.at 0 (v := .int .i64 0) rfl
          have q1 := HA.out.at 1 (v := .int .i64 0) rfl
          have q2 := HA.out.at 2 (v := .int .u64 0) rfl
          have q3 := HA.out.at 3 (v := .int .u64 0) rfl
          have f0 := HA.out.frozen 0
          have f1 := HA.out.frozen 1
          have f2 := HA.out.frozen 2
          have f3 := HA.out.frozen 3
          clear ho ht e0 e1 e2 e3
          by_cases hq : t = l
          · have HR := Lib.hid (show saysR l = some ⟨kindOf p0, ix, (rdr p2), 0⟩ from by rw [HS2.out, if_pos hq])
            have hcmp : ((bs t).toList == (bs l).toList) = true := by rw [hq]; simp
            have hcmp2 : ((bs t).toList = (bs l).toList) = True := eq_true (by rw [hq])
            have hcmp3 : ((bs t).toList != (bs l).toList) = false := by rw [hq]; simp
            clear hq
            have HF := Lib.hid ((((HA.out.set 0 (.int .i64 (kindOf p0))).set 1 (.int .i64 ix)).set 2 (.int .u64 ((rdr p2) : Nat))).set 3 (.int .u64 0))
            have p0' := HF.out.at 0 (v := .int .i64 (kindOf p0)) rfl
            have p1' := HF.out.at 1 (v := .int .i64 ix) rfl
            have p2' := HF.out.at 2 (v := .int .u64 ((rdr p2) : Nat)) rfl
            have p3' := HF.out.at 3 (v := .int .u64 0) rfl
            go_wp2_with fail
            refine bodyPost_ret (v := .tuple #[.agg #[.int .i64 (kindOf p0), .int .i64 ix, .int .u64 ((rdr p2) : Nat), .int .u64 0], .bool true]) (by simp [results, Try.results15, go_sem, p0', p1', p2', p3']) rfl ⟨by rw [HR.out]; rfl, only_four HO.out (Nat.le_refl _) _ _ _ _⟩
          · have HR := Lib.hid (show saysR l = none from by rw [HS2.out, if_neg hq])
            have hcmp : ((bs t).toList == (bs l).toList) = false := by rw [bs_list, bs_list]; simpa using hq
            have hcmp2 : ((bs t).toList = (bs l).toList) = False := eq_false (by rw [bs_list, bs_list]; exact hq)
            have hcmp3 : ((bs t).toList != (bs l).toList) = true := by rw [bs_list, bs_list]; simpa using hq
            clear hq
            have HF := Lib.hid (zero_four HA.out)
            have p0' := HF.out.at 0 (v := .int .i64 0) rfl
            have p1' := HF.out.at 1 (v := .int .i64 0) rfl
            have p2' := HF.out.at 2 (v := .int .u64 0) rfl
            have p3' := HF.out.at 3 (v := .int .u64 0) rfl
            go_wp2_with fail
            refine bodyPost_ret (v := .tuple #[.agg zeroAct, .bool false]) (by simp [results, Try.results15, go_sem, p0', p1', p2', p3', zeroAct]) rfl ⟨by rw [HR.out]; rfl, only_four HO.out (Nat.le_refl _) _ _ _ _⟩
        · have n2 : (2 : Int) < P.length := by omega
          have n3 : (3 : Int) < P.length := by omega
          have HP2 := Lib.hid hP2
          obtain ⟨p2, hp2⟩ : ∃ p, P.getD 2 [] = p := ⟨_, rfl⟩
          have d2 := HROW.out.at 2 (v := .string (bs p2)) ((HBK.out.2.2 2 (by omega)).trans (by rw [← hp2]; simp [strs, List.getD, show 2 < P.length from by omega]))
          have hlp2 := HPL.out p2 (by rw [← hp2, List.getD_eq_getElem?_getD, List.getElem?_eq_getElem (show 2 < P.length from by omega)]; exact List.getElem_mem _)
          have Hp2 := Lib.hid hp2
          have x2 := HC.out.at 2 (v := .int .u64 0) rfl
          have y2 := HC.out.frozen 2
          clear hp2
          go_wp2_with fail
          refine (rnumber_any _ p2 hlp2).mono ?_
          rintro e w5 ⟨rfl, rfl⟩
          have HC := Lib.hid (Blk.set HC.out 2 (.int .u64 (rdr p2)))
          have HROW := Lib.hid (Blk.far HROW.out (p := ⟨w1.heap.size, 2, none⟩) (by have := HCW.out; simp; omega) (.int .u64 (rdr p2)))
          have HA := Lib.hid (Blk.far HA.out (p := ⟨w1.heap.size, 2, none⟩) (by have := HCW.out; simp; omega) (.int .u64 (rdr p2)))
          have HO := Lib.hid (Only.setCell HO.out (p := ⟨w1.heap.size, 2, none⟩) (.inr (by have := HCW.out; simp; omega)) (.int .u64 (rdr p2)))
          obtain ⟨p3, hp3⟩ : ∃ p, P.getD 3 [] = p := ⟨_, rfl⟩
          have d3 := HROW.out.at 3 (v := .string (bs p3)) ((HBK.out.2.2 3 (by omega)).trans (by rw [← hp3]; simp [strs, List.getD, show 3 < P.length from by omega]))
          have hlp3 := HPL.out p3 (by rw [← hp3, List.getD_eq_getElem?_getD, List.getElem?_eq_getElem (show 3 < P.length from by omega)]; exact List.getElem_mem _)
          have Hp3 := Lib.hid hp3
          have x3 := HC.out.at 3 (v := .int .u64 0) rfl
          have y3 := HC.out.frozen 3
          clear hp3
          go_wp2_with fail
          refine (rnumber_any _ p3 hlp3).mono ?_
          rintro e w5 ⟨rfl, rfl⟩
          have HC := Lib.hid (Blk.set HC.out 3 (.int .u64 (rdr p3)))
          have HROW := Lib.hid (Blk.far HROW.out (p := ⟨w1.heap.size, 3, none⟩) (by have := HCW.out; simp; omega) (.int .u64 (rdr p3)))
          have HA := Lib.hid (Blk.far HA.out (p := ⟨w1.heap.size, 3, none⟩) (by have := HCW.out; simp; omega) (.int .u64 (rdr p3)))
          have HO := Lib.hid (Only.setCell HO.out (p := ⟨w1.heap.size, 3, none⟩) (.inr (by have := HCW.out; simp; omega)) (.int .u64 (rdr p3)))
          have hx : guess P = ⟨kindOf p0, ix, (rdr p2), (rdr p3)⟩ := by
            unfold guess
            rw [HP0.out, HP1.out, if_pos (by omega), if_pos (by omega), HIX.out, Hp2.out, Hp3.out]
          have HS := Lib.hid (show saysR l = if Four.shown ⟨kindOf p0, ix, (rdr p2), (rdr p3)⟩ = l then some ⟨kindOf p0, ix, (rdr p2), (rdr p3)⟩ else none from by
            unfold saysR
            rw [HP.out, if_neg hbad, hx])
          have hib : ix < 9223372036854775808 := by rw [← HIX.out]; unfold wrap64; omega
          have e0 := HC.out.at 0 (v := .int .i64 (kindOf p0)) rfl
          have e1 := HC.out.at 1 (v := .int .i64 ix) rfl
          have e2 := HC.out.at 2 (v := .int .u64 ((rdr p2) : Nat)) rfl
          have e3 := HC.out.at 3 (v := .int .u64 ((rdr p3) : Nat)) rfl
          clear hx
          go_wp2_with fail
          refine (rshow_any _ (kindOf p0) ix (rdr p2) (rdr p3) hib (by first | exact rdr_lt _ | omega) (by first | exact rdr_lt _ | omega)).mono ?_
          rintro e w6 ⟨rfl, ho⟩
          have HC := Lib.hid (HC.out.only ho (by simp))
          have HA := Lib.hid (HA.out.only ho (by simp))
          have HO := Lib.hid (HO.out.trans ho)
          obtain ⟨t, ht⟩ : ∃ t, Four.shown ⟨kindOf p0, ix, (rdr p2), (rdr p3)⟩ = t := ⟨_, rfl⟩
          rw [ht]
          have HS2 := Lib.hid (show saysR l = if t = l then some ⟨kindOf p0, ix, (rdr p2), (rdr p3)⟩ else none from by rw [← ht]; exact HS.out)
          have g0 := HC.out.at 0 (v := .int .i64 (kindOf p0)) rfl
          have g1 := HC.out.at 1 (v := .int .i64 ix) rfl
          have g2 := HC.out.at 2 (v := .int .u64 ((rdr p2) : Nat)) rfl
          have g3 := HC.out.at 3 (v := .int .u64 ((rdr p3) : Nat)) rfl
          have q0 := HA.out.at 0 (v := .int .i64 0) rfl
          have q1 := HA.out.at 1 (v := .int .i64 0) rfl
          have q2 := HA.out.at 2 (v := .int .u64 0) rfl
          have q3 := HA.out.at 3 (v := .int .u64 0) rfl
          have f0 := HA.out.frozen 0
          have f1 := HA.out.frozen 1
          have f2 := HA.out.frozen 2
          have f3 := HA.out.frozen 3
          clear ho ht e0 e1 e2 e3
          by_cases hq : t = l
          · have HR := Lib.hid (show saysR l = some ⟨kindOf p0, ix, (rdr p2), (rdr p3)⟩ from by rw [HS2.out, if_pos hq])
            have hcmp : ((bs t).toList == (bs l).toList) = true := by rw [hq]; simp
            have hcmp2 : ((bs t).toList = (bs l).toList) = True := eq_true (by rw [hq])
            have hcmp3 : ((bs t).toList != (bs l).toList) = false := by rw [hq]; simp
            clear hq
            have HF := Lib.hid ((((HA.out.set 0 (.int .i64 (kindOf p0))).set 1 (.int .i64 ix)).set 2 (.int .u64 ((rdr p2) : Nat))).set 3 (.int .u64 ((rdr p3) : Nat)))
            have p0' := HF.out.at 0 (v := .int .i64 (kindOf p0)) rfl
            have p1' := HF.out.at 1 (v := .int .i64 ix) rfl
            have p2' := HF.out.at 2 (v := .int .u64 ((rdr p2) : Nat)) rfl
            have p3' := HF.out.at 3 (v := .int .u64 ((rdr p3) : Nat)) rfl
            go_wp2_with fail
            refine bodyPost_ret (v := .tuple #[.agg #[.int .i64 (kindOf p0), .int .i64 ix, .int .u64 ((rdr p2) : Nat), .int .u64 ((rdr p3) : Nat)], .bool true]) (by simp [results, Try.results15, go_sem, p0', p1', p2', p3']) rfl ⟨by rw [HR.out]; rfl, only_four HO.out (Nat.le_refl _) _ _ _ _⟩
          · have HR := Lib.hid (show saysR l = none from by rw [HS2.out, if_neg hq])
            have hcmp : ((bs t).toList == (bs l).toList) = false := by rw [bs_list, bs_list]; simpa using hq
            have hcmp2 : ((bs t).toList = (bs l).toList) = False := eq_false (by rw [bs_list, bs_list]; exact hq)
            have hcmp3 : ((bs t).toList != (bs l).toList) = true := by rw [bs_list, bs_list]; simpa using hq
            clear hq
            have HF := Lib.hid (zero_four HA.out)
            have p0' := HF.out.at 0 (v := .int .i64 0) rfl
            have p1' := HF.out.at 1 (v := .int .i64 0) rfl
            have p2' := HF.out.at 2 (v := .int .u64 0) rfl
            have p3' := HF.out.at 3 (v := .int .u64 0) rfl
            go_wp2_with fail
            refine bodyPost_ret (v := .tuple #[.agg zeroAct, .bool false]) (by simp [results, Try.results15, go_sem, p0', p1', p2', p3', zeroAct]) rfl ⟨by rw [HR.out]; rfl, only_four HO.out (Nat.le_refl _) _ _ _ _⟩

end Go.Proofs.Ytnoplfjodedijaa
