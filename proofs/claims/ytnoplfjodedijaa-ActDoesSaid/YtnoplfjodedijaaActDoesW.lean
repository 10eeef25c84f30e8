/- The walk of law ActDoes. -/
import Derived.Test.YtnoplfjodedijaaActRunW
import Derived.Test.YtnoplfjodedijaaRef2
import Derived.Deep.RegionHeld3
import Derived.Deep.DeepCutAuto
import Derived.Deep.CutBlock
namespace Go.Proofs.Ytnoplfjodedijaa
open Go.RowKit

/-- A result's value. -/
theorem plain_any (w : World) (v e : Int) (ok : Bool) : Calls Try.prog 26 #[.agg #[.int .u64 v, .bool ok, .int .i64 e]] w fun r w' => r = .returned (.agg #[.int .u64 v, .bool ok, .int .i64 e]) ∧ Only [] w w' := by
  have HZ := Lib.hid (Blk.new' (w.alloc (.cells #[.int .u64 v, .bool ok, .int .i64 e] 42)) 48 #[.int .u64 0, .bool false, .int .i64 0] (g := w.heap.size + 1) (by simp))
  have HB := Lib.hid ((Blk.new w 42 #[.int .u64 v, .bool ok, .int .i64 e]).alloc (.cells #[.int .u64 0, .bool false, .int .i64 0] 48))
  go_enter Try.func26, Try.ntmps26
  go_wp2
  refine bodyPost_ret (v := .agg #[.int .u64 v, .bool ok, .int .i64 e]) (by simp [results, Try.results26, go_sem]) rfl ⟨rfl, ?_⟩
  exact ((Only.refl _ _).alloc _).alloc _

theorem run_at (m : MS) (l : List Act') (j : Nat) (x : Act') (hx : l[j]? = some x) : (m.run l).2[j]? = some ((m.run (l.take j)).1.act x).2 := by
  have hj := (List.getElem?_eq_some_iff.1 hx).1
  have h := MS.run_append m (l.take (j + 1)) (l.drop (j + 1))
  rw [List.take_append_drop] at h
  have e2 : l.take (j + 1) = l.take j ++ [x] := by rw [List.take_add_one, hx]; rfl
  have hl := MS.run_len m (l.take j)
  rw [List.length_take] at hl
  rw [h, e2, MS.run_snoc]
  simp only [List.append_assoc]
  rw [List.getElem?_append_right (by omega), show j - (m.run (l.take j)).2.length = 0 from by omega]
  simp

theorem refdo_to {w : World} {b s : Nat} {m m' : MS} {k i x y v er : Int} {ok : Bool} (hm : IsRef w b s m) (h : m.act ⟨k, i, x, y⟩ = (m', ⟨v, ok, er⟩)) :
    Calls Try.prog 27 #[.pointer (some ⟨b, 0, none⟩), .agg #[.int .i64 k, .int .i64 i, .int .u64 x, .int .u64 y]] w fun e w' => e = .returned (.agg #[.int .u64 v, .bool ok, .int .i64 er]) ∧ Only [b, s] w w' ∧ IsRef w' b s m' := by
  have := rdo_any w b s m ⟨k, i, x, y⟩ hm
  rw [h] at this
  exact this

/-- A result's cells and an act's cells. -/
def TwoAt (w : World) (g j : Nat) (rv : Int) (rok : Bool) (re : Int) (ga fa : Nat) (xk xi xa xb : Int) : Prop :=
  (w.cell? ⟨g, j * 3, none⟩ = some (.int .u64 rv) ∧ w.cell? ⟨g, j * 3 + 1, none⟩ = some (.bool rok) ∧ w.cell? ⟨g, j * 3 + 2, none⟩ = some (.int .i64 re)) ∧
  (w.cell? ⟨ga, fa + j * 4, none⟩ = some (.int .i64 xk) ∧ w.cell? ⟨ga, fa + j * 4 + 1, none⟩ = some (.int .i64 xi) ∧ w.cell? ⟨ga, fa + j * 4 + 2, none⟩ = some (.int .u64 xa) ∧ w.cell? ⟨ga, fa + j * 4 + 3, none⟩ = some (.int .u64 xb)) ∧ g < w.heap.size ∧ ga < w.heap.size

theorem TwoAt.only {w w' : World} {S : List Nat} {g j : Nat} {rv : Int} {rok : Bool} {re : Int} {ga fa : Nat} {xk xi xa xb : Int} (h : TwoAt w g j rv rok re ga fa xk xi xa xb) (o : Only S w w') (h1 : g ∉ S) (h2 : ga ∉ S) : TwoAt w' g j rv rok re ga fa xk xi xa xb := by
  obtain ⟨⟨p0, p1, p2⟩, ⟨a0, a1, a2, a3⟩, hg, hga⟩ := h
  have e1 : ∀ k, w'.cell? ⟨g, k, none⟩ = w.cell? ⟨g, k, none⟩ := fun k => by simp [World.cell?, o.block g hg h1]
  have e2 : ∀ k, w'.cell? ⟨ga, k, none⟩ = w.cell? ⟨ga, k, none⟩ := fun k => by simp [World.cell?, o.block ga hga h2]
  exact ⟨⟨by rw [e1]; exact p0, by rw [e1]; exact p1, by rw [e1]; exact p2⟩, ⟨by rw [e2]; exact a0, by rw [e2]; exact a1, by rw [e2]; exact a2, by rw [e2]; exact a3⟩, Nat.lt_of_lt_of_le hg o.size, Nat.lt_of_lt_of_le hga o.size⟩

/-- Where law ActDoes stands. -/
structure DW (w wr : World) (b s rb rs : Nat) (mm mr : MS) : Prop where
  only : Only [] w wr
  mem : IsMem wr b s mm
  ref : IsRef wr rb rs mr
  old : w.heap.size ≤ b ∧ w.heap.size ≤ s ∧ w.heap.size ≤ rb ∧ w.heap.size ≤ rs
  ne : b ≠ rb ∧ b ≠ rs ∧ s ≠ rb ∧ s ≠ rs

theorem DW.quiet {w wr w' : World} {b s rb rs : Nat} {mm mr : MS} (h : DW w wr b s rb rs mm mr) (o : Only [] wr w') : DW w w' b s rb rs mm mr :=
  ⟨h.only.trans o, h.mem.only o (by simp) (by simp), h.ref.only o (by simp) (by simp), h.old, h.ne⟩
theorem DW.refStep {w wr w' : World} {b s rb rs : Nat} {mm mr mr' : MS} (h : DW w wr b s rb rs mm mr) (o : Only [rb, rs] wr w') (hr : IsRef w' rb rs mr') : DW w w' b s rb rs mm mr' :=
  ⟨h.only.then o (by have := h.old; simp; omega), h.mem.only o (by have := h.ne; simp; omega) (by have := h.ne; simp; omega), hr, h.old, h.ne⟩
theorem DW.memStep {w wr w' : World} {b s rb rs : Nat} {mm mr mm' : MS} (h : DW w wr b s rb rs mm mr) (o : Only [b, s] wr w') (hm : IsMem w' b s mm') : DW w w' b s rb rs mm' mr :=
  ⟨h.only.then o (by have := h.old; simp; omega), hm, h.ref.only o (by have := h.ne; simp; omega) (by have := h.ne; simp; omega), h.old, h.ne⟩

theorem cutL_all (L : List Int) (n : Int) (h : (L.length : Int) = n) (h1 : 1 ≤ L.length) : cutL L 0 n = L := by
  unfold cutL
  rw [if_pos (by omega)]
  have : n.toNat = L.length := by omega
  simp [this]

set_option maxHeartbeats 4000000 in
set_option maxRecDepth 100000 in
theorem actdoes_walk (w : World) (A : Option Addr) (cap : Nat) (l : List Act') (a : Int) (h0 : 0 ≤ a) (h1 : a ≤ 255) (hr : ReadsActs w A l) (_hl : l.length ≤ 9223372036854775807) :
    Calls Try.prog 6 #[.int .u8 a, .slice A l.length cap] w fun e w' => e = .returned (.bool true) ∧ Only [] w w' := by
  have HR := Lib.hid hr
  clear hr
  go_enter Try.func6, Try.ntmps6
  by_cases hlen : l.length ≤ 100
  · have hl1 : (l.length : Int) ≤ 100 := by omega
    go_wp2_with fail
    refine (new_any _ (1 + a) (by omega) (by omega)).mono ?_
    rintro e w1 ⟨b, s, rfl, hb, hs, ho, hm⟩
    have HB := Lib.hid (And.intro hb hs)
    have HO := Lib.hid ho
    have HM := Lib.hid hm
    clear hb hs ho hm
    go_wp2_with fail
    refine (ref_new_in _ (1 + a) (by omega) (by omega)).mono ?_
    rintro e w2 ⟨rb, rs, rfl, hrb, hrs, ho, hr⟩
    have hD : DW w w2 b s rb rs (MS.new (1 + a).toNat) (MS.new (1 + a).toNat) :=
      ⟨HO.out.trans ho, HM.out.only ho (by simp) (by simp), hr, by have := HB.out; have := HO.out.size; omega, by have := HM.out.lt; omega⟩
    have HD := Lib.hid hD
    obtain ⟨N, hN⟩ : ∃ N, (1 + a).toNat = N := ⟨_, rfl⟩
    rw [hN] at HD
    have HNN := Lib.hid (show (N : Int) = 1 + a by omega)
    clear HO HM hrb hrs ho hr hD hN
    go_wp2_with fail
    refine (run_any _ b s (MS.new N) A cap l HD.out.mem (HR.out.only HD.out.only (fun _ _ _ => by simp)) (off_of HR.out (by have := HD.out.old; simp; omega)) (by omega)).mono ?_
    rintro e w3 ⟨v, rfl, ho, hm, hown⟩
    have HD0 := Lib.hid (HD.out.ref.lt)
    have HD := Lib.hid (HD.out.memStep ho hm)
    have HW := Lib.hid hown
    have HS0 := Lib.hid (show w2.heap.size ≤ w3.heap.size from ho.size)
    have hlen2 := MS.run_len (MS.new N) l
    have HL2 := Lib.hid hlen2
    obtain ⟨A1, c1, rfl⟩ := row_form hown
    clear ho hm hown hlen2
    go_wp2_with fail
    go_loopw [10] (fun i wr => ∃ j : Nat, j ≤ l.length ∧ i = .int .i64 j ∧ DW w wr b s rb rs ((MS.new N).run l).1 ((MS.new N).run (l.take j)).1 ∧ wr.ownsRow w2.heap.size 42 3 (.slice A1 l.length c1) l.length (ress ((MS.new N).run l).2)) (fun i _ => l.length - (intOf i).toNat)
    case atStart => exact ⟨0, Nat.zero_le _, rfl, HD.out, HW.out⟩
    case round =>
      clear HD HW
      obtain ⟨j, hj, rfl, hd, hw⟩ := hrel
      have HD := Lib.hid hd
      have HW := Lib.hid hw
      clear hd hw
      by_cases hlt : j < l.length
      · have hlt1 : (j : Int) < l.length := by omega
        obtain ⟨g1, d1, cur1, hv1, hg1, hb1, hc1⟩ := row_cells HW.out (by omega)
        injection hv1 with e1 _ e2
        subst e1 e2
        obtain ⟨ga, fa, x, rfl, hga, a0, a1, a2, a3, hx⟩ := (HR.out.only HD.out.only (fun _ _ _ => by simp)).get hlt
        obtain ⟨rv, rok, re, h1, h2, h3, h4⟩ := ress_at ((MS.new N).run l).2 j (by have := HL2.out; omega)
        have hrun := run_at (MS.new N) l j x hx
        rw [h4] at hrun
        obtain ⟨xk, xi, xa, xb⟩ := x
        dsimp only at a0 a1 a2 a3
        obtain ⟨m', rv', rok', re', hact⟩ := MS.act_ex ((MS.new N).run (l.take j)).1 ⟨xk, xi, xa, xb⟩
        rw [hact] at hrun
        injection hrun with hrun
        injection hrun with r1 r2 r3
        subst r1 r2 r3
        have p0 := hb1.at (j * 3) ((hc1 (j * 3) (by omega)).trans h1)
        have p1 := hb1.at (j * 3 + 1) ((hc1 (j * 3 + 1) (by omega)).trans h2)
        have p2 := hb1.at (j * 3 + 2) ((hc1 (j * 3 + 2) (by omega)).trans h3)
        have HAC := Lib.hid hact
        have HX := Lib.hid hx
        have HGA := Lib.hid (show ga < w.heap.size from by
          rcases HR.out with h | ⟨g', o', hg', h, _⟩
          · rw [h] at hlt; simp at hlt
          · injection h with h; injection h with h; omega)
        go_upto_region 13 with fail
        have HD : Hid (DW w wr.drew b s rb rs ((MS.new N).run l).1 ((MS.new N).run (l.take j)).1) := Lib.hid (HD.out.quiet (Only.refl [] wr).drew)
        have HT : Hid (TwoAt wr.drew g1 j rv rok re ga fa xk xi xa xb) := Lib.hid ⟨⟨p0, p1, p2⟩, ⟨a0, a1, a2, a3⟩, hb1.lt, hga⟩
        have HWL : Hid (wr.drew.ownsRow w2.heap.size 42 3 (.slice (some ⟨g1, 0, none⟩) l.length c1) l.length (ress ((MS.new N).run l).2)) := Lib.hid (row_only HW.out (Only.refl [] wr).drew (by simp))
        have HGS := Lib.hid (show rb < g1 ∧ rs < g1 from ⟨by have := HD0.out; omega, by have := HD0.out; omega⟩)
        clear p0 p1 p2 a0 a1 a2 a3 hb1 hc1 h1 h2 h3 h4 hact hx HW hg1 hga
        go_region_held3 (fun w' => w'.cell? ⟨g1, j * 3, none⟩ = some (.int .u64 rv) ∧ w'.cell? ⟨g1, j * 3 + 1, none⟩ = some (.bool rok) ∧ w'.cell? ⟨g1, j * 3 + 2, none⟩ = some (.int .i64 re) ∧ w'.cell? ⟨ga, fa + j * 4, none⟩ = some (.int .i64 xk) ∧ w'.cell? ⟨ga, fa + j * 4 + 1, none⟩ = some (.int .i64 xi) ∧ w'.cell? ⟨ga, fa + j * 4 + 2, none⟩ = some (.int .u64 xa) ∧ w'.cell? ⟨ga, fa + j * 4 + 3, none⟩ = some (.int .u64 xb))
          (exact ⟨HT.out.1.1, HT.out.1.2.1, HT.out.1.2.2, HT.out.2.1.1, HT.out.2.1.2.1, HT.out.2.1.2.2.1, HT.out.2.1.2.2.2⟩)
          (first
            | (go_at_call 26; refine (plain_any _ rv re rok).mono ?_; rintro e w7 ⟨rfl, ho⟩; have HT : Hid (TwoAt w7 g1 j rv rok re ga fa xk xi xa xb) := Lib.hid (TwoAt.only HT.out ho (by simp) (by simp)); have HWL : Hid (w7.ownsRow w2.heap.size 42 3 (.slice (some ⟨g1, 0, none⟩) l.length c1) l.length (ress ((MS.new N).run l).2)) := Lib.hid (row_only HWL.out ho (by simp)); have HD : Hid (DW w w7 b s rb rs ((MS.new N).run l).1 ((MS.new N).run (l.take j)).1) := Lib.hid (HD.out.quiet ho); clear ho)
            | (go_at_call 27; refine (refdo_to HD.out.ref HAC.out).mono ?_; rintro e w7 ⟨rfl, ho, hr⟩; have HT : Hid (TwoAt w7 g1 j rv rok re ga fa xk xi xa xb) := Lib.hid (TwoAt.only HT.out ho (by have := HGS.out; simp; omega) (by have := HGA.out; have := HD.out.old; simp; omega)); have HWL : Hid (w7.ownsRow w2.heap.size 42 3 (.slice (some ⟨g1, 0, none⟩) l.length c1) l.length (ress ((MS.new N).run l).2)) := Lib.hid (row_only HWL.out ho (by have := HD0.out; simp; omega)); have HD : Hid (DW w w7 b s rb rs ((MS.new N).run l).1 m') := Lib.hid (HD.out.refStep ho hr); clear ho hr))
        all_goals
          have hnext : ((MS.new N).run (l.take (j + 1))).1 = m' := by
            have e : l.take (j + 1) = l.take j ++ [⟨xk, xi, xa, xb⟩] := by rw [List.take_add_one, HX.out]; rfl
            rw [e, MS.run_snoc, HAC.out]
          have HN := Lib.hid hnext
          clear hnext
          go_wp2_with fail
          exact ⟨⟨j + 1, by omega, rfl, by rw [HN.out]; exact HD.out, HWL.out⟩, by simp [intOf]; omega⟩
      · have hlt1 : ¬ (j : Int) < l.length := by omega
        have hjl : j = l.length := by omega
        subst hjl
        have hd := HD.out
        rw [List.take_length] at hd
        have hL : ((MS.new N).run l).1.L.length = N := by rw [MS.run_keeps]; simp [MS.new]
        obtain ⟨mF, hmF⟩ : ∃ m, ((MS.new N).run l).1 = m := ⟨_, rfl⟩
        rw [hmF] at hd hL
        have hcut : cutL mF.L 0 (1 + a) = mF.L := cutL_all _ _ (by have := HNN.out; omega) (by have := HNN.out; omega)
        have HC := Lib.hid hcut
        have HLN := Lib.hid hL
        have HD := Lib.hid hd
        have hwa : IntKind.i64.wrap a = a := by rw [IntKind.wrap_i64]; omega
        have hw1 : IntKind.i64.wrap (1 + a) = 1 + a := by rw [IntKind.wrap_i64]; omega
        clear hd hL hmF hcut
        go_upto_region 15 with fail
        have HD : Hid (DW w wr.drew b s rb rs mF mF) := Lib.hid (HD.out.quiet (Only.refl [] wr).drew)
        go_region_held3 (fun w' => w'.cell? ⟨rb, 0, none⟩ = some (.slice (some ⟨rs, 0, none⟩) mF.L.length mF.L.length))
          (exact HD.out.ref.obj.at 0 rfl)
          (first
            | (go_at_call 29; refine (words_any _ b s mF.L mF.c mF.l 0 (1 + a) HD.out.mem).mono ?_; rintro e w7 ⟨v1, rfl, ho, hv⟩; rw [HC.out] at hv; have HV : Hid (IsRow w7 v1 mF.L) := Lib.hid (NewWords.isRow hv (by have := HD.out.mem.max; omega)); have HD : Hid (DW w w7 b s rb rs mF mF) := Lib.hid (HD.out.quiet ho); clear ho hv)
            | (go_at_call 28; refine (eqw_eq _ _ _ mF.L HV.out (IsRow.of_blk HD.out.ref.row rfl mF.L.length rfl (by have := HD.out.mem.max; omega))).mono ?_; rintro e w7 ⟨rfl, ho⟩; have HD : Hid (DW w w7 b s rb rs mF mF) := Lib.hid (HD.out.quiet ho); clear ho)
            | (go_at_call 13; refine (known03 _).mono ?_; rintro e w7 ⟨rfl, ho⟩; have HD : Hid (DW w w7 b s rb rs mF mF) := Lib.hid (HD.out.quiet ho); clear ho))
        all_goals
          go_wp2_with fail
          go_ret
          exact ⟨rfl, HD.out.only⟩
  · have hl1 : (100 : Int) < l.length := by omega
    go_wp2_with fail
    refine (known03 _).mono ?_
    rintro e w2 ⟨rfl, ho⟩
    have HO := Lib.hid ho
    clear ho
    go_wp2_with fail
    go_ret
    exact ⟨rfl, HO.out⟩

end Go.Proofs.Ytnoplfjodedijaa
