/- The ring: Init. -/
import Derived.Test.YtoecoijmkjhkgaaRing7
namespace Go.Proofs.Ytoecoijmkjhkgaa
open Go.RowKit

/-- The words of an empty ring. -/
def initL : Nat → List Int
  | 0 => [0, 0]
  | k + 1 => initL k ++ [(k : Int), 0]
theorem initL_length (k : Nat) : (initL k).length = 2 + 2 * k := by
  induction k with
  | zero => rfl
  | succ k ih => simp [initL, ih]; omega
theorem initL_rng (k : Nat) (hk : k ≤ 1000) : ∀ i, 0 ≤ nth (initL k) i ∧ nth (initL k) i < 18446744073709551616 := by
  induction k with
  | zero => intro i; match i with | 0 => exact ⟨by decide, by decide⟩ | 1 => exact ⟨by decide, by decide⟩ | i + 2 => exact ⟨by simp [nth, initL], by simp [nth, initL]⟩
  | succ k ih =>
    intro i
    have h := ih (by omega)
    have hl := initL_length k
    unfold initL
    by_cases h1 : i < (initL k).length
    · have : nth (initL k ++ [(k : Int), 0]) i = nth (initL k) i := by simp [nth, List.getElem?_append_left h1]
      rw [this]
      exact h i
    · obtain ⟨j, hj⟩ : ∃ j, i - (initL k).length = j := ⟨_, rfl⟩
      have : nth (initL k ++ [(k : Int), 0]) i = nth [(k : Int), 0] j := by simp [nth, List.getElem?_append_right (show (initL k).length ≤ i by omega), hj]
      rw [this]
      match j with
      | 0 => simp [nth]; omega
      | 1 => simp [nth]
      | j + 2 => simp [nth]

theorem row_oth {w w' : World} {base e sz n : Nat} {v : Value} {xs : List Value} (h : w.ownsRow base e sz v n xs) (o : Only [] w w') : w'.ownsRow base e sz v n xs := by
  refine ⟨h.1, ?_⟩
  rcases h.2 with h2 | ⟨g, cap, cur, hv, hg, hh, r⟩
  · exact .inl h2
  · exact .inr ⟨g, cap, cur, hv, hg, (show Blk w g e cur from hh).only o (by simp), r⟩
theorem row_lo {w : World} {b e sz n : Nat} {v : Value} {xs : List Value} (h : w.ownsRow b e sz v n xs) : ∀ x, v.ownBlock = some x → b ≤ x := fun x hx => by
  rcases h.2 with ⟨rfl, _⟩ | ⟨g, cap, cur, rfl, hb, _⟩
  · cases hx
  · have : g = x := by simpa [Value.ownBlock] using hx
    omega

/-- Words are stored, one behind the other, till one fails. -/
def MS.lay (m : MS) (a : Int) : List Int → MS × Int
  | [] => (m, 0)
  | v :: l => if (m.store a v).2 = 0 then MS.lay (m.store a v).1 (a + 1) l else m.store a v

theorem init_none (w : World) (mv : Value) (a n : Int) (h : ¬ ringRight a n) : Calls Try.prog 16 #[.agg #[.int .i64 a, .int .i64 n], mv] w fun e w' => e = .returned (.int .i64 1) ∧ Only [] w w' := by
  have HO := Lib.hid ((Only.refl [] w).alloc (.cells #[.int .i64 a, .int .i64 n] 32))
  have HR := Lib.hid h
  clear h
  go_enter Try.func16, Try.ntmps16
  go_wp2_with fail
  refine (ringright_any _ a n).mono ?_
  rintro e w1 ⟨rfl, ho⟩
  rw [decide_eq_false HR.out]
  have HO := Lib.hid (HO.out.trans ho)
  clear ho
  go_wp2_with fail
  go_ret
  exact ⟨rfl, HO.out⟩

def Laid (w : World) (mb ms : Nat) (r : MS × Int) (e : Ending) (w' : World) : Prop := e = .returned (.int .i64 r.2) ∧ Only [mb, ms] w w' ∧ IsMem w' mb ms r.1

set_option maxHeartbeats 2000000 in
set_option maxRecDepth 100000 in
theorem init_some (w : World) (mb ms : Nat) (m : MS) (a : Int) (n : Nat) (hm : IsMem w mb ms m) (h : ringRight a n) : Calls Try.prog 16 #[.agg #[.int .i64 a, .int .i64 n], .pointer (some ⟨mb, 0, none⟩)] w (Laid w mb ms (m.lay a (initL n))) := by
  obtain ⟨i0, hi, hz0, hz1, hz2⟩ := info_parts Try.info38
  have HI0 := Lib.hid (And.intro hi (And.intro hz0 (And.intro hz1 hz2)))
  clear hi hz0 hz1 hz2
  obtain ⟨⟨a0, a1⟩, n2, n64⟩ := h
  have HR := Lib.hid (show ringRight a n from ⟨⟨a0, a1⟩, n2, n64⟩)
  have HB := Lib.hid (Blk.new w 32 #[.int .i64 a, .int .i64 n])
  have HO := Lib.hid ((Only.refl [] w).alloc (.cells #[.int .i64 a, .int .i64 n] 32))
  have HLT := Lib.hid hm.lt
  have HM := Lib.hid (hm.same' HO.out)
  obtain ⟨r, hrr⟩ : ∃ r, m.lay a (initL n) = r := ⟨_, rfl⟩
  rw [hrr]
  have HRR := Lib.hid hrr
  clear hrr hm
  unfold Laid
  go_enter Try.func16, Try.ntmps16
  go_wp2_with fail
  refine (ringright_any _ a n).mono ?_
  rintro e w1 ⟨rfl, ho⟩
  rw [decide_eq_true HR.out]
  have HO := Lib.hid (HO.out.trans ho)
  have HB := Lib.hid (HB.out.only ho (by simp))
  have HM := Lib.hid (HM.out.same' ho)
  have HRW : Hid ((w1.alloc (.cells #[.int .u64 0, .int .u64 0] 38)).ownsRow w.heap.size 38 1 (.slice (some ⟨w1.heap.size, 0, none⟩) 2 2) 2 ((initL 0).map (Value.int .u64))) :=
    Lib.hid ⟨rfl, .inr ⟨w1.heap.size, 2, #[.int .u64 0, .int .u64 0], rfl, HO.out.size, Blk.new w1 38 #[.int .u64 0, .int .u64 0], by omega, by unfold maxLen; omega, rfl, rfl⟩⟩
  have HO := Lib.hid (HO.out.alloc (.cells #[.int .u64 0, .int .u64 0] 38))
  have HB := Lib.hid (HB.out.alloc (.cells #[.int .u64 0, .int .u64 0] 38))
  have HM := Lib.hid (HM.out.same' ((Only.refl [] w1).alloc (.cells #[.int .u64 0, .int .u64 0] 38)))
  have q1 := HB.out.at 1 (v := .int .i64 n) rfl
  clear ho
  go_wp2_with fail
  go_loopw [5, 16] (fun v i wr => ∃ k : Nat, k ≤ n ∧ i = .int .i64 k ∧ Only [] w wr ∧ Blk wr w.heap.size 32 #[.int .i64 a, .int .i64 n] ∧ IsMem wr mb ms m ∧ wr.ownsRow w.heap.size 38 1 v (2 + 2 * k) ((initL k).map (Value.int .u64))) (fun _ i _ => n - (intOf i).toNat)
  case atStart => exact ⟨0, by omega, rfl, HO.out, HB.out, HM.out, HRW.out⟩
  case round =>
    clear HO HB HM HRW q1
    obtain ⟨wo, hwo⟩ : ∃ wo, wo = wr := ⟨_, rfl⟩
    subst hwo
    obtain ⟨k, hk, rfl, ho, hb, hm, hrw⟩ := hrel
    have HOr := Lib.hid ho
    have HBr := Lib.hid hb
    have HMr := Lib.hid hm
    have HRWr := Lib.hid hrw
    have q0 := hb.at 0 (v := .int .i64 a) rfl
    clear ho hb hm hrw
    by_cases hlt : k < n
    · have hlti : (k : Int) < n := by omega
      have HRX := Lib.hid (row_oth HRWr.out ((Only.refl [] wo).alloc (.cells #[.int .u64 k, .int .u64 0] 38)))
      have hwr : IntKind.u64.wrap (k : Int) = k := by rw [IntKind.wrap_u64]; omega
      clear q0
      obtain ⟨hi, hz0, hz1, hz2⟩ := HI0.out
      go_wp2_with (at_builtin; refine wpList_append_own _ rfl (.tmp 19) (.tmp 22) 22 rfl w.heap.size 38 i0 (.int .u64 0) 1 8 Try.underlying22 hi hz0 hz1 hz2 rfl (by decide) _ (2 + 2 * k) _ rfl HRX.out ⟨wo.heap.size, 0, none⟩ 2 2 [.int .u64 k, .int .u64 0] rfl rfl ?hn ?h1 ?h63 ?hb ?hbase ?_)
      case hn => intro j u hj; match j, hj with | 0, hj => simp at hj; subst hj; simp [Addr.add] | 1, hj => simp at hj; subst hj; simp [Addr.add]
      case h1 => intro u hu; simp at hu; rcases hu with rfl | rfl <;> rfl
      case h63 => unfold maxLen; omega
      case hb => omega
      case hbase => have := HOr.out.size; simp; omega
      intro v' w4 hown hg _
      have HX := Lib.hid (show w4.ownsRow w.heap.size 38 1 v' (2 + 2 * (k + 1)) ((initL (k + 1)).map (Value.int .u64)) from by
        have e : (initL (k + 1)).map (Value.int .u64) = (initL k).map (Value.int .u64) ++ [.int .u64 k, .int .u64 0] := by simp [initL]
        rw [e]
        exact hown)
      have hge := row_lo HRX.out
      have HO4 := Lib.hid (Only.grown (HOr.out.alloc (.cells #[.int .u64 k, .int .u64 0] 38)) hg (fun x hx => .inr (hge x hx)))
      have HB4 := Lib.hid (row_keeps HRX.out hg (HBr.out.alloc (.cells #[.int .u64 k, .int .u64 0] 38)) (by decide))
      have HM4 := Lib.hid (IsMem.only (HMr.out.same' ((Only.refl [] wo).alloc (.cells #[.int .u64 k, .int .u64 0] 38))) (grown_only hg) (by intro hx; have := HLT.out; have h2 := hge mb (by simpa using hx); omega) (by intro hx; have := HLT.out; have h2 := hge ms (by simpa using hx); omega))
      clear hown hg hge hi hz0 hz1 hz2 hwr HOr HBr HMr HRWr HRX
      go_wp2_with fail
      exact ⟨⟨k + 1, by omega, by go_num, HO4.out, HB4.out, HM4.out, HX.out⟩, by simp [intOf]; omega⟩
    · have hlti : ¬ (k : Int) < n := by omega
      obtain rfl : k = n := by omega
      obtain ⟨g, cap, cur, rfl, hgb, hblk, hcur⟩ := row_cells HRWr.out (by omega)
      have HC : Hid (∀ i, i < 2 + 2 * k → wo.cell? ⟨g, i, none⟩ = some (.int .u64 (nth (initL k) i))) := Lib.hid fun i hi => by
        refine hblk.at i ?_
        rw [hcur i (by omega)]
        have := initL_length k
        simp [nth, show i < (initL k).length by omega]
      have HG := Lib.hid (And.intro hgb (show g < wo.heap.size from hblk.lt))
      clear hblk hcur hgb HRWr
      go_wp2_with fail
      go_loopw [27] (fun i wx => ∃ (j : Nat) (m2 : MS), j ≤ 2 + 2 * k ∧ i = .int .i64 j ∧ Only [mb, ms] wo wx ∧ IsMem wx mb ms m2 ∧ m2.lay (a + j) ((initL k).drop j) = r) (fun i _ => (2 + 2 * k) - (intOf i).toNat)
      case atStart => exact ⟨0, m, by omega, rfl, Only.refl _ _, HMr.out, by simpa using HRR.out⟩
      case round =>
        obtain ⟨j, m2, hj, rfl, ho, hm, hlay⟩ := hrel
        have HOX := Lib.hid ho
        have HMX := Lib.hid hm
        have HLAY := Lib.hid hlay
        have q0 := (HBr.out.only ho (by have := HLT.out; simp; omega)).at 0 (v := .int .i64 a) rfl
        by_cases hjn : j < 2 + 2 * k
        · have hjni : (j : Int) < ((2 + 2 * k : Nat) : Int) := by omega
          have pj := (ho.cell (p := ⟨g, j, none⟩) HG.out.2 (by have := HLT.out; have := HG.out.1; simp; omega)).trans (HC.out j hjn)
          have hlen := initL_length k
          have hd : (initL k).drop j = nth (initL k) j :: (initL k).drop (j + 1) := by
            rw [List.drop_eq_getElem_cons (by omega)]
            simp [nth, show j < (initL k).length by omega]
          rw [hd] at hlay
          have HL2 := Lib.hid (show (if (m2.store (a + j) (nth (initL k) j)).2 = 0 then MS.lay (m2.store (a + j) (nth (initL k) j)).1 (a + j + 1) ((initL k).drop (j + 1)) else m2.store (a + j) (nth (initL k) j)) = r from hlay)
          have haj : IntKind.i64.wrap (a + j) = a + j := wrap_i64 _ (by omega) (by omega)
          clear hm hlay hd hlen ho
          go_wp2_with fail
          refine (store_any _ mb ms m2 (a + j) (nth (initL k) j) HMX.out).mono ?_
          rintro e w5 ⟨rfl, ho, hm⟩
          have HO5 := Lib.hid (HOX.out.trans ho)
          have HM5 := Lib.hid hm
          clear ho hm
          by_cases hz : (m2.store (a + j) (nth (initL k) j)).2 = 0
          · have hl := HL2.out
            rw [if_pos hz] at hl
            have HL3 := Lib.hid (show (m2.store (a + j) (nth (initL k) j)).1.lay (a + ((j + 1 : Nat) : Int)) ((initL k).drop (j + 1)) = r by rw [show a + ((j + 1 : Nat) : Int) = a + j + 1 by omega]; exact hl)
            rw [hz]
            clear hl hz q0 pj haj
            go_wp2_with fail
            exact ⟨⟨j + 1, _, by omega, by go_num, HO5.out, HM5.out, HL3.out⟩, by simp [intOf]; omega⟩
          · have hl := HL2.out
            rw [if_neg hz] at hl
            have hzb : ((m2.store (a + j) (nth (initL k) j)).2 != 0) = true := by simpa using hz
            have HFN := Lib.hid ((HOr.out.sub (T := [mb, ms]) (by simp)).trans HO5.out)
            have HL3 := Lib.hid hl
            clear hl hz q0 pj haj
            go_wp2_with fail
            go_ret
            exact ⟨by rw [← HL3.out]; rfl, HFN.out, by rw [← HL3.out]; exact HM5.out⟩
        · have hjni : ¬ (j : Int) < ((2 + 2 * k : Nat) : Int) := by omega
          have hlen := initL_length k
          rw [List.drop_eq_nil_of_le (by omega)] at hlay
          have HL3 := Lib.hid (show (m2, (0 : Int)) = r from hlay)
          have HFN := Lib.hid ((HOr.out.sub (T := [mb, ms]) (by simp)).trans ho)
          clear hm hlay hlen ho q0
          go_wp2_with fail
          go_ret
          exact ⟨by rw [← HL3.out]; rfl, HFN.out, by rw [← HL3.out]; exact HMX.out⟩

end Go.Proofs.Ytoecoijmkjhkgaa
