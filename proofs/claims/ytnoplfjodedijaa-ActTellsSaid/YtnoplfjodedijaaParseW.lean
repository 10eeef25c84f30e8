/- The walk of act.Parse. -/
import Derived.Test.YtnoplfjodedijaaParse
namespace Go.Proofs.Ytnoplfjodedijaa
open Go.RowKit

def zeroAct : Array Value := #[.int .i64 0, .int .i64 0, .int .u64 0, .int .u64 0]
/-- What a text says, as a value. -/
def sayVal : Option Four → Value
  | none => .agg zeroAct
  | some x => .agg #[.int .i64 x.k, .int .i64 x.i, .int .u64 x.a, .int .u64 x.b]
def Parsed (w : World) (r : Option Four) (e : Ending) (w' : World) : Prop := e = .returned (.tuple #[sayVal r, .bool r.isSome]) ∧ Only [] w w'
def u64s (l : List Nat) : List Value := l.map fun n : Nat => Value.int .u64 n

theorem nums_end {k : Nat} {r : List UInt8} {m : Bool} {acc : List Nat} (h : m = false ∨ k = 0) : nums k r m acc = some (acc, m) := by
  cases k with
  | zero => rfl
  | succ k =>
    rcases h with rfl | h
    · simp [nums]
    · omega

theorem tl_le (l : List UInt8) : (tl l).length ≤ l.length := by
  unfold tl
  rw [List.length_drop]
  have := (List.dropWhile_sublist (fun c => !(c == 32)) (l := l)).length_le
  omega

theorem nums_says {s : List UInt8} {acc : List Nat} {M : Bool} (h : nums 3 (tl s) (mo s) [] = some (acc, M)) :
    says s = if M = true ∨ need (kindOf (hd s)) = 0 ∨ acc.length ≠ need (kindOf (hd s)) ∨ 9223372036854775807 < acc.getD 0 0 then none
    else some ⟨kindOf (hd s), acc.getD 0 0, acc.getD 1 0, acc.getD 2 0⟩ := by
  unfold says
  rw [h]
theorem nums_none {s : List UInt8} (h : nums 3 (tl s) (mo s) [] = none) : says s = none := by
  unfold says
  rw [h]
theorem pad_at (acc : List Nat) (k : Nat) (h : k < acc.length + 2) : (u64s acc ++ [Value.int .u64 0, Value.int .u64 0])[k]? = some (.int .u64 (acc.getD k 0)) := by
  have hl : (u64s acc).length = acc.length := by simp [u64s]
  rcases Nat.lt_or_ge k acc.length with h1 | h1
  · rw [List.getElem?_append_left (by omega)]
    simp [u64s, List.getD, h1]
  · rw [List.getElem?_append_right (by omega), hl]
    have e : acc.getD k 0 = 0 := by simp [List.getD, List.getElem?_eq_none h1]
    rw [e]
    have : k - acc.length = 0 ∨ k - acc.length = 1 := by omega
    rcases this with h2 | h2 <;> rw [h2] <;> rfl
theorem zero_four {w : World} {c : Nat} (h : Blk w c 24 zeroAct) : Blk ((((w.setCell ⟨c, 0, none⟩ (.int .i64 0)).setCell ⟨c, 1, none⟩ (.int .i64 0)).setCell ⟨c, 2, none⟩ (.int .u64 0)).setCell ⟨c, 3, none⟩ (.int .u64 0)) c 24 zeroAct :=
  (((h.set 0 _).set 1 _).set 2 _).set 3 _
theorem only_four {w w' : World} {c : Nat} (h : Only [] w w') (hc : w.heap.size ≤ c) (a b d e : Value) : Only [] w ((((w'.setCell ⟨c, 0, none⟩ a).setCell ⟨c, 1, none⟩ b).setCell ⟨c, 2, none⟩ d).setCell ⟨c, 3, none⟩ e) :=
  (((h.setCell (.inr hc) _).setCell (.inr hc) _).setCell (.inr hc) _).setCell (.inr hc) _

set_option maxHeartbeats 4000000 in
set_option maxRecDepth 100000 in
theorem parse_any (w : World) (l : List UInt8) (hl : l.length ≤ 9223372036854775807) : Calls Try.prog 14 #[.string (bs l)] w (Parsed w (says l)) := by
  obtain ⟨i0, hi, hz0, hz1, hz2⟩ := info_parts Try.info22
  have HI0 := Lib.hid (And.intro hi (And.intro hz0 (And.intro hz1 hz2)))
  clear hi hz0 hz1 hz2
  have HA := Lib.hid (Blk.new w 24 zeroAct)
  have hmm := @run_makeMap Try.prog
  have HL := Lib.hid hl
  have HTL := Lib.hid (show (tl l).length ≤ 9223372036854775807 by have := tl_le l; omega)
  clear hl
  go_enter Try.func14, Try.ntmps14
  go_wp2_with fail
  refine (word_any _ l HL.out).mono ?_
  rintro e w1 ⟨rfl, ho⟩
  have HO := Lib.hid (((Only.refl [] w).alloc _).trans ho)
  have HA := Lib.hid (HA.out.only ho (by simp))
  have i1 := kins1 w1
  have i2 := kins2 w1
  have i3 := kins3 w1
  have i4 := kins4 w1
  have lk := klook w1 (hd l)
  have HA1 := Lib.hid (HA.out.alloc (.map kd4 4))
  have HO1 := Lib.hid (HO.out.alloc (.map kd4 4))
  clear ho
  go_wp2_with fail
  go_loopw [5, 6, 8] (fun r m v wr => ∃ (R : List UInt8) (M : Bool) (acc : List Nat) (A : Option Addr) (cap : Nat), r = .string (bs R) ∧ m = .bool M ∧ v = .slice A acc.length cap ∧ acc.length ≤ 3 ∧ R.length ≤ 9223372036854775807 ∧
    nums (3 - acc.length) R M acc = nums 3 (tl l) (mo l) [] ∧ Only [] w wr ∧ Blk wr w.heap.size 24 zeroAct ∧ wr.ownsRow w.heap.size 22 1 v acc.length (u64s acc) ∧ ∀ x ∈ acc, x < 18446744073709551616) (fun _ _ v _ => match v with | .slice _ n _ => 3 - n | _ => 0)
  case atStart => exact ⟨tl l, mo l, [], none, 0, rfl, rfl, rfl, by simp, by have := HTL.out; omega, rfl, HO1.out, HA1.out, World.ownsRow_nil _ _ _ _, by simp⟩
  case round =>
    obtain ⟨R, M, acc, A, cap, rfl, rfl, rfl, hacc, hR, hnum, ho, hb, hown, hx⟩ := hrel
    have HR := Lib.hid hR
    have HN := Lib.hid hnum
    have HW := Lib.hid hown
    have HX := Lib.hid hx
    have HO := Lib.hid ho
    have HA := Lib.hid hb
    clear hR hnum hown hx ho hb i1 i2 i3 i4 lk
    by_cases hgo : M = true ∧ acc.length < 3
    · obtain ⟨rfl, h3⟩ := hgo
      have h3i : (acc.length : Int) < 3 := by omega
      go_wp2_with fail
      refine (word_any _ R HR.out).mono ?_
      rintro e w2 ⟨rfl, ho⟩
      have HO := Lib.hid (HO.out.trans ho)
      have HA := Lib.hid (HA.out.only ho (by simp))
      have HW := Lib.hid (row_only HW.out ho (by simp))
      clear ho
      go_wp2_with fail
      refine (number_any _ (hd R)).mono ?_
      rintro e w3 ⟨v, rfl, hv, ho⟩
      have HO := Lib.hid (HO.out.trans ho)
      have HA := Lib.hid (HA.out.only ho (by simp))
      have HW := Lib.hid (row_only HW.out ho (by simp))
      clear ho
      by_cases hd : digs (rdOn 0 (hd R)) = hd R
      · rw [decide_eq_true hd]
        have hv := hv hd
        subst hv
        have HD := Lib.hid hd
        clear hd
        have HW := Lib.hid (HW.out.alloc (.cells #[.int .u64 (rdOn 0 (Ytnoplfjodedijaa.hd R))] 22))
        have HAl := Lib.hid (HA.out.alloc (.cells #[.int .u64 (rdOn 0 (Ytnoplfjodedijaa.hd R))] 22))
        go_wp2_with (at_builtin; refine wpList_append_own _ rfl (.tmp 43) (.tmp 45) 52 rfl w.heap.size 22 i0 (.int .u64 0) 1 8 Try.underlying52 HI0.out.1 HI0.out.2.1 HI0.out.2.2.1 HI0.out.2.2.2 rfl (by decide) _ acc.length _ rfl HW.out ⟨w3.heap.size, 0, none⟩ 1 1 [.int .u64 (rdOn 0 (Ytnoplfjodedijaa.hd R))] rfl rfl ?hn ?h1 ?h63 ?hb ?hbase ?_)
        case hn => intro j u hj; match j, hj with | 0, hj => simp at hj; subst hj; simp [Addr.add]
        case h1 => intro u hu; simp at hu; subst hu; rfl
        case h63 => unfold maxLen; omega
        case hb => omega
        case hbase => have := HO.out.size; simp; omega
        intro v' w4 hown4 hg4 _
        have HW4 := Lib.hid hown4
        have HG4 := Lib.hid hg4
        clear hown4 hg4
        go_wp2
        obtain ⟨A', cap', rfl⟩ := row_form HW4.out
        have hlen : (acc ++ [rdOn 0 (Ytnoplfjodedijaa.hd R)]).length = acc.length + 1 := by simp
        refine ⟨⟨tl R, mo R, acc ++ [rdOn 0 (Ytnoplfjodedijaa.hd R)], A', cap', rfl, rfl, by rw [hlen], by rw [hlen]; omega, by have := tl_le R; have := HR.out; omega, ?_, (HO.out.alloc _).grow1 HW.out HG4.out, row_keeps HW.out HG4.out HAl.out (by decide), ?_, ?_⟩, by simp; omega⟩
        · rw [← HN.out, hlen, show 3 - acc.length = (3 - (acc.length + 1)) + 1 from by omega]
          simp [nums, HD.out]
        · rw [hlen]
          simpa [u64s] using HW4.out
        · intro x hx
          rcases List.mem_append.1 hx with hx | hx
          · exact HX.out x hx
          · rw [List.mem_singleton.1 hx]
            exact rdOn_lt _
      · rw [decide_eq_false hd]
        have HS := Lib.hid (nums_none (s := l) (by
          rw [← HN.out, show 3 - acc.length = (3 - (acc.length + 1)) + 1 from by omega]
          simp [nums, hd]))
        have q0 := HA.out.at 0 rfl
        have q1 := HA.out.at 1 rfl
        have q2 := HA.out.at 2 rfl
        have q3 := HA.out.at 3 rfl
        have f0 := HA.out.frozen 0
        have f1 := HA.out.frozen 1
        have f2 := HA.out.frozen 2
        have f3 := HA.out.frozen 3
        clear hd hv
        have HZ := Lib.hid (zero_four HA.out)
        go_wp2
        have p0 := HZ.out.at 0 rfl
        have p1 := HZ.out.at 1 rfl
        have p2 := HZ.out.at 2 rfl
        have p3 := HZ.out.at 3 rfl
        refine bodyPost_ret (v := .tuple #[.agg zeroAct, .bool false]) (by simp [results, Try.results14, go_sem, p0, p1, p2, p3, zeroAct]) rfl ⟨by rw [HS.out]; rfl, only_four HO.out (Nat.le_refl _) _ _ _ _⟩
    · have hend : nums 3 (tl l) (mo l) [] = some (acc, M) := by
        rw [← HN.out]
        refine nums_end ?_
        cases M with
        | false => exact .inl rfl
        | true => exact .inr (by have : ¬ acc.length < 3 := fun h => hgo ⟨rfl, h⟩; omega)
      have hsay := nums_says hend
      have HSA := Lib.hid hsay
      have i1 := dins1 wr
      have i2 := dins2 wr
      have i3 := dins3 wr
      have i4 := dins4 wr
      have lk := dlook wr (kindOf (hd l))
      have HO := Lib.hid (HO.out.alloc (.map nd4 4))
      have HA := Lib.hid (HA.out.alloc (.map nd4 4))
      have HW := Lib.hid (HW.out.alloc (.map nd4 4))
      have q0 := HA.out.at 0 rfl
      have q1 := HA.out.at 1 rfl
      have q2 := HA.out.at 2 rfl
      have q3 := HA.out.at 3 rfl
      have f0 := HA.out.frozen 0
      have f1 := HA.out.frozen 1
      have f2 := HA.out.frozen 2
      have f3 := HA.out.frozen 3
      have HZ := Lib.hid (zero_four HA.out)
      clear hend hsay
      cases M with
      | true =>
        have h3 : ¬ (acc.length : Int) < 3 := fun h => hgo ⟨rfl, by omega⟩
        have h3' : (3 : Int) ≤ acc.length := by omega
        clear hgo
        have HS := Lib.hid (show says l = none by rw [HSA.out, if_pos (.inl rfl)])
        go_wp2
        have p0 := HZ.out.at 0 rfl
        have p1 := HZ.out.at 1 rfl
        have p2 := HZ.out.at 2 rfl
        have p3 := HZ.out.at 3 rfl
        refine bodyPost_ret (v := .tuple #[.agg zeroAct, .bool false]) (by simp [results, Try.results14, go_sem, p0, p1, p2, p3, zeroAct]) rfl ⟨by rw [HS.out]; rfl, only_four HO.out (Nat.le_refl _) _ _ _ _⟩
      | false =>
        clear hgo
        by_cases n0 : need (kindOf (hd l)) = 0
        · have n0' : (need (kindOf (hd l)) : Int) = 0 := by omega
          have HS := Lib.hid (show says l = none by rw [HSA.out, if_pos (.inr (.inl n0))])
          go_wp2
          have p0 := HZ.out.at 0 rfl
          have p1 := HZ.out.at 1 rfl
          have p2 := HZ.out.at 2 rfl
          have p3 := HZ.out.at 3 rfl
          refine bodyPost_ret (v := .tuple #[.agg zeroAct, .bool false]) (by simp [results, Try.results14, go_sem, p0, p1, p2, p3, zeroAct]) rfl ⟨by rw [HS.out]; rfl, only_four HO.out (Nat.le_refl _) _ _ _ _⟩
        by_cases nl : acc.length = need (kindOf (hd l))
        · have n0' : ((need (kindOf (hd l)) : Int) == 0) = false := by simp; omega
          have nl' : ((acc.length : Int) = (need (kindOf (hd l)) : Int)) = True := eq_true (by omega)
          have nl3 : ((acc.length : Int) != (need (kindOf (hd l)) : Int)) = false := by simp [bne]; omega
          have hpos : 0 < acc.length := by omega
          obtain ⟨g, cap', cur, hv, hg, hblk, hcur⟩ := row_cells HW.out hpos
          injection hv with hv1 hv2 hv3
          subst hv1 hv3
          have hx0 : (u64s acc)[0]? = some (.int .u64 (acc.getD 0 0)) := by simp [u64s, List.getD, hpos]
          have c0 := hblk.at 0 ((hcur 0 (by omega)).trans hx0)
          have NL := Lib.hid nl
          have N0 := Lib.hid n0
          obtain ⟨x0, hx0d⟩ : ∃ x, acc.getD 0 0 = x := ⟨_, rfl⟩
          rw [hx0d] at c0
          have hlpos : (0 : Int) < acc.length := by omega
          clear nl n0 hcur hx0
          by_cases hbig : 9223372036854775807 < x0
          · have hbig' : (9223372036854775807 : Int) < x0 := by omega
            have HS := Lib.hid (show says l = none by rw [HSA.out, if_pos (.inr (.inr (.inr (by rw [hx0d]; exact hbig))))])
            go_wp2
            have p0 := HZ.out.at 0 rfl
            have p1 := HZ.out.at 1 rfl
            have p2 := HZ.out.at 2 rfl
            have p3 := HZ.out.at 3 rfl
            refine bodyPost_ret (v := .tuple #[.agg zeroAct, .bool false]) (by simp [results, Try.results14, go_sem, p0, p1, p2, p3, zeroAct]) rfl ⟨by rw [HS.out]; rfl, only_four HO.out (Nat.le_refl _) _ _ _ _⟩
          · have hbig' : ¬ (9223372036854775807 : Int) < x0 := by omega
            have HW := Lib.hid (HW.out.alloc (.cells #[.int .u64 0, .int .u64 0] 22))
            have HAl := Lib.hid (HA.out.alloc (.cells #[.int .u64 0, .int .u64 0] 22))
            have HO := Lib.hid (HO.out.alloc (.cells #[.int .u64 0, .int .u64 0] 22))
            have hpl : acc.length + 2 ≤ 5 := by omega
            go_wp2_with (at_builtin; refine wpList_append_own _ rfl (.tmp 69) (.tmp 70) 52 rfl w.heap.size 22 i0 (.int .u64 0) 1 8 Try.underlying52 HI0.out.1 HI0.out.2.1 HI0.out.2.2.1 HI0.out.2.2.2 rfl (by decide) _ acc.length _ rfl HW.out ⟨wr.heap.size + 1, 0, none⟩ 2 2 [.int .u64 0, .int .u64 0] rfl rfl ?hn ?h1 ?h63 ?hb ?hbase ?_)
            case h1 => simp [Value.oneCell']
            case h63 => unfold maxLen; omega
            case hb => omega
            case hbase => have := HO.out.size; simp at this ⊢; omega
            intro v' w4 hown4 hg4 _
            have HO4 := Lib.hid (HO.out.grow1 HW.out hg4)
            have HA4 := Lib.hid (row_keeps HW.out hg4 HAl.out (by decide))
            obtain ⟨g2, cap2, cur2, rfl, _, hblk2, hcur2⟩ := row_cells hown4 (by omega)
            have d0 := hblk2.at 0 ((hcur2 0 (by omega)).trans (pad_at acc 0 (by omega)))
            have d1 := hblk2.at 1 ((hcur2 1 (by omega)).trans (pad_at acc 1 (by omega)))
            have d2 := hblk2.at 2 ((hcur2 2 (by omega)).trans (pad_at acc 2 (by omega)))
            rw [hx0d] at d0
            obtain ⟨x1, hx1d⟩ : ∃ x, acc.getD 1 0 = x := ⟨_, rfl⟩
            obtain ⟨x2, hx2d⟩ : ∃ x, acc.getD 2 0 = x := ⟨_, rfl⟩
            rw [hx1d] at d1
            rw [hx2d] at d2
            have a0 := HA4.out.at 0 rfl
            have a1 := HA4.out.at 1 rfl
            have a2 := HA4.out.at 2 rfl
            have a3 := HA4.out.at 3 rfl
            have b0 := HA4.out.frozen 0
            have b1 := HA4.out.frozen 1
            have b2 := HA4.out.frozen 2
            have b3 := HA4.out.frozen 3
            have h1 : (1 : Int) < ((acc.length + 2 : Nat) : Int) := by omega
            have h2 : (2 : Int) < ((acc.length + 2 : Nat) : Int) := by omega
            have h0 : (0 : Int) < ((acc.length + 2 : Nat) : Int) := by omega
            clear hblk2 hcur2 hown4 hg4 q0 q1 q2 q3 f0 f1 f2 f3
            go_wp2_with fail
            go_region
            all_goals
              have HZ2 := Lib.hid ((((HA4.out.set 0 (.int .i64 (kindOf (hd l)))).set 1 (.int .i64 x0)).set 2 (.int .u64 x1)).set 3 (.int .u64 x2))
              have p0 := HZ2.out.at 0 (v := .int .i64 (kindOf (hd l))) rfl
              have p1 := HZ2.out.at 1 (v := .int .i64 x0) rfl
              have p2 := HZ2.out.at 2 (v := .int .u64 x1) rfl
              have p3 := HZ2.out.at 3 (v := .int .u64 x2) rfl
              have HS := Lib.hid (show says l = some ⟨kindOf (hd l), x0, x1, x2⟩ by
                rw [HSA.out, if_neg (by rw [hx0d]; have := NL.out; have := N0.out; simp; omega), hx0d, hx1d, hx2d])
              clear d0 d1 d2 a0 a1 a2 a3 b0 b1 b2 b3
              go_wp2
              refine bodyPost_ret (v := .tuple #[.agg #[.int .i64 (kindOf (hd l)), .int .i64 x0, .int .u64 x1, .int .u64 x2], .bool true]) (by simp [results, Try.results14, go_sem, p0, p1, p2, p3]) rfl ⟨by rw [HS.out]; rfl, (only_four HO4.out (Nat.le_refl _) _ _ _ _).drew⟩
        · have n0' : ((need (kindOf (hd l)) : Int) == 0) = false := by simp; omega
          have nl' : ¬ (acc.length : Int) = (need (kindOf (hd l)) : Int) := by omega
          have HS := Lib.hid (show says l = none by rw [HSA.out, if_pos (.inr (.inr (.inl nl)))])
          go_wp2
          have p0 := HZ.out.at 0 rfl
          have p1 := HZ.out.at 1 rfl
          have p2 := HZ.out.at 2 rfl
          have p3 := HZ.out.at 3 rfl
          refine bodyPost_ret (v := .tuple #[.agg zeroAct, .bool false]) (by simp [results, Try.results14, go_sem, p0, p1, p2, p3, zeroAct]) rfl ⟨by rw [HS.out]; rfl, only_four HO.out (Nat.le_refl _) _ _ _ _⟩

end Go.Proofs.Ytnoplfjodedijaa
