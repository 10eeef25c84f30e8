/- A reader's step that reads a value. Written by seq8gen.py. -/
import Derived.Test.YtnoplfjodedijaaSeq7
import Derived.Deep.RegionLaw
import Derived.Deep.DeepCutAuto
import Derived.Deep.CutBlock
namespace Go.Proofs.Ytnoplfjodedijaa
open Go.RowKit

set_option maxHeartbeats 4000000 in
set_option maxRecDepth 100000 in
theorem srstep_on (w : World) (b mb ms n : Nat) (at_ was tries : Int) (vals : List Int) (bad : Bool) (sl : Value) (t : Int) (m m' : MS) (v : Int) (ok : Bool) (ht1 : 1 ≤ t) (htn : t < n + 1) (hl : vals.length < 16)
    (h : IsR w b sl ⟨at_, n, t, was, vals, tries, bad⟩) (hm : IsMem w mb ms m) (hact : m.act (RS.next ⟨at_, n, t, was, vals, tries, bad⟩) = (m', ⟨v, ok, 0⟩)) (hs : ∀ x ∈ [mb, ms], sl.ownBlock ≠ some x) :
    Calls Try.prog 37 #[.pointer (some ⟨b, 0, none⟩), .pointer (some ⟨mb, 0, none⟩)] w fun e w' => ∃ sl', e = .returned (.bool (decide (((t + 1) : Int) = n + 2))) ∧ Only (b :: mb :: ms :: sl.ownBlock.toList) w w' ∧ IsMem w' mb ms m' ∧ IsR w' b sl' ⟨at_, n, t + 1, was, vals ++ [v], tries, bad⟩ ∧ ∀ x, sl'.ownBlock = some x → sl.ownBlock = some x ∨ w.heap.size ≤ x := by
  obtain ⟨i0, hi, hz0, hz1, hz2⟩ := info_parts Try.info22
  have HI0 := Lib.hid (And.intro hi (And.intro hz0 (And.intro hz1 hz2)))
  clear hi hz0 hz1 hz2
  obtain ⟨k1, k2, k3, k4, k5, k6, k7, k8, k9⟩ := h.ok
  dsimp only at k1 k2 k3 k4 k5 k6 k7 k8 k9
  have q2 := h.obj.at 2 (v := .int .i64 (t)) rfl
  have q4 := h.obj.at 4 (v := .int .i64 (n + 2)) rfl
  have NB := Lib.hid (rne h hm)
  have HS := Lib.hid hs
  have H := Lib.hid h
  have HM := Lib.hid hm
  have HA := Lib.hid hact
  clear h hm hact hs
  go_enter Try.func37, Try.ntmps37
  go_wp2_with fail
  refine (over_at _ b (t) (n + 2) q2 q4).mono ?_
  rintro e w1 ⟨rfl, ho⟩
  rw [decide_eq_false (show ¬ (t : Int) = n + 2 by omega)]
  have HO := Lib.hid ho
  have HO1 := Lib.hid (show w.heap.size ≤ w1.heap.size from ho.size)
  have H := Lib.hid (H.out.quiet ho)
  have HM := Lib.hid (HM.out.only ho (by simp) (by simp))
  have HO := Lib.hid (ho.sub (T := b :: mb :: ms :: sl.ownBlock.toList) (by simp))
  have c2 := H.out.obj.at 2 (v := .int .i64 (t)) rfl
  clear ho q2 q4
  go_wp2_with fail
  refine (srnext_any _ b sl _ H.out).mono ?_
  rintro e w2 ⟨rfl, ho⟩
  have HO := Lib.hid (HO.out.trans (ho.sub (by simp)))
  have HO1 := Lib.hid (Nat.le_trans HO1.out ho.size)
  have H := Lib.hid (H.out.quiet ho)
  have HM := Lib.hid (HM.out.only ho (by simp) (by simp))
  clear ho c2
  go_wp2_with fail
  refine (do_act HM.out HA.out).mono ?_
  rintro e w3 ⟨rfl, ho, hm⟩
  have HO := Lib.hid (HO.out.trans (ho.sub (by simp)))
  have HO1 := Lib.hid (Nat.le_trans HO1.out (Nat.le_trans ho.size (Nat.le_succ _)))
  have H := Lib.hid ((H.out.only ho (by have := NB.out; simp; omega) (HS.out)).quiet ((Only.refl [] w3).alloc (.cells #[.int .u64 v, .bool ok, .int .i64 0] 42)))
  have HM := Lib.hid (IsMem.only hm ((Only.refl [] w3).alloc (.cells #[.int .u64 v, .bool ok, .int .i64 0] 42)) (by simp) (by simp))
  have HO := Lib.hid (HO.out.alloc (.cells #[.int .u64 v, .bool ok, .int .i64 0] 42))
  have HRS := Lib.hid (Blk.new w3 42 #[.int .u64 v, .bool ok, .int .i64 0])
  have c2 := H.out.obj.at 2 (v := .int .i64 (t)) rfl
  have c3 := H.out.obj.at 3 (v := .int .u64 was) rfl
  have c4 := H.out.obj.at 4 (v := .int .i64 (n + 2)) rfl
  have c7 := H.out.obj.at 7 (v := .bool bad) rfl
  have f2 := H.out.obj.frozen 2
  have f3 := H.out.obj.frozen 3
  have f7 := H.out.obj.frozen 7
  clear ho hm
  have r0 := HRS.out.at 0 (v := .int .u64 v) rfl
  have e0 : ¬ (t = 0) := by omega
  have e1 : t < n + 1 := by omega
  have ew : IntKind.i64.wrap ((n : Int) + 2 - 1) = n + 1 := by rw [IntKind.wrap_i64]; omega
  have ew1 : (t + 1 + 9223372036854775808) % 18446744073709551616 - 9223372036854775808 = t + 1 := by omega
  have c5 := H.out.obj.at 5 (v := sl) rfl
  have HOB : Hid (Blk (((w3.alloc (.cells #[.int .u64 v, .bool ok, .int .i64 0] 42)).alloc (.cells #[.int .u64 v] 22)).drew.drew) b 111 (rCells ⟨at_, n, t, was, vals, tries, bad⟩ sl)) := Lib.hid (Blk.drew (Blk.drew (H.out.obj.alloc _)))
  have HW : Hid (World.ownsRow (((w3.alloc (.cells #[.int .u64 v, .bool ok, .int .i64 0] 42)).alloc (.cells #[.int .u64 v] 22)).drew.drew) 0 22 1 sl vals.length (vals.map (Value.int .u64))) := Lib.hid (row_other (H.out.row.alloc _) ((Only.refl [] _).drew.drew) (by simp))
  have HN : Hid (∀ j u, [Value.int .u64 v][j]? = some u → World.cell? (((w3.alloc (.cells #[.int .u64 v, .bool ok, .int .i64 0] 42)).alloc (.cells #[.int .u64 v] 22)).drew.drew) ((⟨w3.heap.size + 1, 0, none⟩ : Addr).add j) = some u) := Lib.hid (fun j u hj => by
    match j, hj with
    | 0, hj =>
      simp at hj
      subst hj
      exact (Blk.new' (w3.alloc (.cells #[.int .u64 v, .bool ok, .int .i64 0] 42)) 22 #[.int .u64 v] (g := w3.heap.size + 1) (by simp)).at 0 rfl)
  have HOA : Hid (Only (b :: mb :: ms :: sl.ownBlock.toList) w (((w3.alloc (.cells #[.int .u64 v, .bool ok, .int .i64 0] 42)).alloc (.cells #[.int .u64 v] 22)).drew.drew)) := Lib.hid ((HO.out.alloc _).drew.drew)
  have c5A : World.cell? ((w3.alloc (.cells #[.int .u64 v, .bool ok, .int .i64 0] 42)).alloc (.cells #[.int .u64 v] 22)) ⟨b, 5, none⟩ = some sl := (H.out.obj.alloc (.cells #[.int .u64 v] 22)).at 5 rfl
  have HMA : Hid (IsMem (((w3.alloc (.cells #[.int .u64 v, .bool ok, .int .i64 0] 42)).alloc (.cells #[.int .u64 v] 22)).drew.drew) mb ms m') := Lib.hid (HM.out.only (((Only.refl [] _).alloc _).drew.drew) (by simp) (by simp))
  have HZ := Lib.hid (show w.heap.size ≤ ((((w3.alloc (.cells #[.int .u64 v, .bool ok, .int .i64 0] 42)).alloc (.cells #[.int .u64 v] 22)).drew.drew)).heap.size from HOA.out.size)
  go_wp2_with fail
  go_region
  all_goals
    go_upto_region 15 with fail
    go_region_law (refine step_append_lies _ rfl (.tmp 95) (.tmp 98) 52 rfl 0 22 i0 (.int .u64 0) 1 8 Try.underlying52 HI0.out.1 HI0.out.2.1 HI0.out.2.2.1 HI0.out.2.2.2 rfl (by decide) sl vals.length (vals.map (Value.int .u64)) rfl HW.out ⟨w3.heap.size + 1, 0, none⟩ 1 1 [.int .u64 v] rfl rfl HN.out (by intro u hu; simp at hu; subst hu; rfl) (by decide) (by unfold maxLen; omega) (by omega) (Nat.zero_le _) _ rfl ?_
                   intro g cp w7 hown hg hor hlt
                   have ho7 : Only sl.ownBlock.toList (((w3.alloc (.cells #[.int .u64 v, .bool ok, .int .i64 0] 42)).alloc (.cells #[.int .u64 v] 22)).drew.drew) w7 := grown_only hg
                   have HB7 := Lib.hid (Blk.only HOB.out ho7 (by have := NB.out.2.2; simpa using this))
                   have c5 := HB7.out.at 5 (v := sl) rfl
                   have f5 := HB7.out.frozen 5
                   have HO7 := Lib.hid (HOA.out.trans (ho7.sub (by intro x hx; simp; simp at hx; exact .inr (.inr (.inr hx)))))
                   have HM7 := Lib.hid (IsMem.only HMA.out ho7 (by have := HS.out mb (by simp); simpa using this) (by have := HS.out ms (by simp); simpa using this))
                   have HW7 := Lib.hid hown
                   have HOR := Lib.hid hor
                   clear ho7 hown hg hor hlt)
    all_goals
      have hgb : g ≠ b := fun e => by
        rcases HW7.out.2 with ⟨hs, _⟩ | ⟨g', cap', cur, hs, _, hh, _⟩
        · cases hs
        · injection hs with e1 _ _
          injection e1 with e1
          injection e1 with e1
          subst e1
          subst e
          exact absurd (Blk.inj HB7.out (show Blk w7 g 22 cur from hh)).1 (by decide)
      have o8 : Only [b] w7 (w7.setCell ⟨b, 5, none⟩ (.slice (some ⟨g, 0, none⟩) (vals.length + 1) cp)) := (Only.refl [b] w7).setCell (.inl (by simp)) _
      have H : Hid (IsR (w7.setCell ⟨b, 5, none⟩ (.slice (some ⟨g, 0, none⟩) (vals.length + 1) cp)) b (.slice (some ⟨g, 0, none⟩) (vals.length + 1) cp) ⟨at_, n, t, was, vals ++ [v], tries, bad⟩) := Lib.hid
        ⟨HB7.out.set 5 _, by
          have := row_other HW7.out o8 (by intro x hx e; rw [List.mem_singleton.1 hx] at e; exact hgb (by simpa [Value.ownBlock] using e))
          simpa using this, ⟨k1, k2, k3, k4, k5, k6, k7, k8, by simp; omega⟩⟩
      have HM := Lib.hid (HM7.out.only o8 (by have := NB.out; simp; omega) (by have := NB.out; simp; omega))
      have HO := Lib.hid (HO7.out.trans (o8.sub (by simp)))
      have c2 := H.out.obj.at 2 (v := .int .i64 t) rfl
      have c3 := H.out.obj.at 3 (v := .int .u64 was) rfl
      have c4 := H.out.obj.at 4 (v := .int .i64 (n + 2)) rfl
      have c7 := H.out.obj.at 7 (v := .bool bad) rfl
      have f2 := H.out.obj.frozen 2
      have f3 := H.out.obj.frozen 3
      have f7 := H.out.obj.frozen 7
      clear o8 hgb c5 f5
      go_wp2_with fail
      have HF := Lib.hid (H.out.obj.set 2 (.int .i64 (t + 1)))
      have d2 := HF.out.at 2 (v := .int .i64 (t + 1)) rfl
      have d4 := HF.out.at 4 (v := .int .i64 (n + 2)) rfl
      refine (over_at _ b (t + 1) (n + 2) d2 d4).mono ?_
      rintro e w5 ⟨rfl, ho⟩
      have HE := Lib.hid (r_end H.out HM.out NB.out ((Only.refl [b] _).setCell (.inl (by simp)) _) ho ⟨at_, n, t + 1, was, vals ++ [v], tries, bad⟩ HF.out rfl ⟨k1, k2, k3, k4, by dsimp only; omega, by dsimp only; omega, by dsimp only; omega, by dsimp only; omega, by simp; omega⟩)
      have HO5 := Lib.hid ((HO.out.trans (((Only.refl [b] _).setCell (.inl (by simp)) _).sub (T := b :: mb :: ms :: sl.ownBlock.toList) (by simp))).trans (ho.sub (by simp)))
      clear ho d2 d4 c2 c3 c4 c7 f2 f3 f7
      go_wp2_with fail
      go_ret
      refine ⟨.slice (some ⟨g, 0, none⟩) (vals.length + 1) cp, rfl, HO5.out, HE.out.1, HE.out.2, fun x hx => ?_⟩
      have hx : g = x := by simpa [Value.ownBlock] using hx
      subst hx
      rcases HOR.out with e | e
      · exact .inl e
      · exact .inr (by rw [e]; exact HZ.out)


end Go.Proofs.Ytnoplfjodedijaa
