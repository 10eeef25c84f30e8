/- The walk of law ActRun. -/
import Derived.Test.YtnoplfjodedijaaKnown3W
import Derived.Test.YtnoplfjodedijaaOrder
import Derived.Laws.AppendOwnNone
import Derived.Deep.DeepCutAuto
import Derived.Deep.CutBlock
namespace Go.Proofs.Ytnoplfjodedijaa
open Go.RowKit

theorem MS.run_append (m : MS) (l l2 : List Act') : m.run (l ++ l2) = (((m.run l).1.run l2).1, (m.run l).2 ++ ((m.run l).1.run l2).2) := by
  have h : ∀ (l : List Act') (s : MS × List Res), l.foldl (fun s x => ((s.1.act x).1, s.2 ++ [(s.1.act x).2])) s = ((s.1.run l).1, s.2 ++ (s.1.run l).2) := fun l => by
    induction l with
    | nil => intro s; simp [MS.run]
    | cons x l ih =>
      intro s
      have e : s.1.run (x :: l) = (((s.1.act x).1.run l).1, [(s.1.act x).2] ++ ((s.1.act x).1.run l).2) := by
        show List.foldl _ _ (x :: l) = _
        rw [List.foldl_cons, ih]
        simp
      rw [List.foldl_cons, ih, e]
      simp
  show List.foldl _ _ (l ++ l2) = _
  rw [List.foldl_append]
  exact h l2 (m.run l)

theorem ReadsActs.take {w : World} {A : Option Addr} {l : List Act'} (h : ReadsActs w A l) (k : Nat) : ReadsActs w A (l.take k) := by
  rcases h with rfl | ⟨g, o, hg, rfl, hc⟩
  · exact .inl (by simp)
  · refine .inr ⟨g, o, hg, rfl, fun i x hi => hc i x ?_⟩
    have hlt := (List.getElem?_eq_some_iff.1 hi).1
    rw [List.getElem?_take_of_lt (by simp at hlt; omega)] at hi
    exact hi

theorem addr_add (g o n : Nat) : (⟨g, o, none⟩ : Addr).add n = ⟨g, o + n, none⟩ := by
  unfold Addr.add
  split
  · rename_i e; subst e; rfl
  · rfl
theorem ReadsActs.drop {w : World} {A : Option Addr} {l : List Act'} (h : ReadsActs w A l) (k : Nat) : ReadsActs w (Option.map (fun x => x.add (k * 4)) A) (l.drop k) := by
  rcases h with rfl | ⟨g, o, hg, rfl, hc⟩
  · exact .inl (by simp)
  · refine .inr ⟨g, o + k * 4, hg, by simp [addr_add], fun i x hi => ?_⟩
    rw [List.getElem?_drop] at hi
    have := hc (k + i) x hi
    rw [show o + (k + i) * 4 = o + k * 4 + i * 4 from by omega] at this
    exact this

theorem off_drop {w : World} {A : Option Addr} {l : List Act'} {S : List Nat} (h : ReadsActs w A l) (hS : ∀ x ∈ S, w.heap.size ≤ x) (k : Nat) : l.drop k ≠ [] → Off (Option.map (fun x => x.add (k * 4)) A) S := fun hne g o e hm => by
  rcases h with rfl | ⟨g', o', hg, rfl, _⟩
  · simp at hne
  · simp [addr_add] at e
    have := hS g hm
    omega

theorem ress_one (L : List Res) : ∀ u ∈ ress L, u.oneCell' = true := by
  intro u hu
  simp only [ress, List.mem_flatMap] at hu
  obtain ⟨r, _, hu⟩ := hu
  simp at hu
  rcases hu with rfl | rfl | rfl <;> rfl
theorem ress_len (L : List Res) : (ress L).length = L.length * 3 := by
  induction L with
  | nil => rfl
  | cons r L ih =>
    have : ress (r :: L) = [.int .u64 r.v, .bool r.ok, .int .i64 r.e] ++ ress L := rfl
    rw [this, List.length_append, ih]
    simp
    omega
theorem ress_append (L M : List Res) : ress (L ++ M) = ress L ++ ress M := by simp [ress]

theorem row_block {w : World} {base e sz : Nat} {v : Value} {n : Nat} {xs : List Value} (h : w.ownsRow base e sz v n xs) {x : Nat} (hx : v.ownBlock = some x) : base ≤ x ∧ x < w.heap.size := by
  rcases h.2 with ⟨rfl, _⟩ | ⟨g, cap, cur, rfl, hb, hh, _⟩
  · cases hx
  · have : g = x := by simpa [Value.ownBlock] using hx
    subst this
    exact ⟨hb, Blk.lt (show Blk w g e cur from hh)⟩
theorem row_other {w w' : World} {base e sz : Nat} {v : Value} {n : Nat} {xs : List Value} {S : List Nat} (h : w.ownsRow base e sz v n xs) (o : Only S w w') (hS : ∀ x ∈ S, v.ownBlock ≠ some x) : w'.ownsRow base e sz v n xs := by
  refine ⟨h.1, ?_⟩
  rcases h.2 with h2 | ⟨g, cap, cur, rfl, hg, hh, r⟩
  · exact .inl h2
  · refine .inr ⟨g, cap, cur, rfl, hg, ?_, r⟩
    have hb : Blk w g e cur := hh
    exact hb.only o fun hm => hS g hm rfl

/-- Two rows of the same results. -/
theorem ress_at (L : List Res) (k : Nat) (h : k < L.length) : ∃ v ok e, (ress L)[k * 3]? = some (.int .u64 v) ∧ (ress L)[k * 3 + 1]? = some (.bool ok) ∧ (ress L)[k * 3 + 2]? = some (.int .i64 e) ∧ L[k]? = some ⟨v, ok, e⟩ := by
  induction L generalizing k with
  | nil => simp at h
  | cons r L ih =>
    obtain ⟨v, ok, e⟩ := r
    cases k with
    | zero => exact ⟨v, ok, e, rfl, rfl, rfl, rfl⟩
    | succ k =>
      obtain ⟨v', ok', e', h1, h2, h3, h4⟩ := ih k (by simpa using h)
      refine ⟨v', ok', e', ?_, ?_, ?_, h4⟩
      · rw [show (k + 1) * 3 = k * 3 + 1 + 1 + 1 from by omega]; exact h1
      · rw [show (k + 1) * 3 + 1 = k * 3 + 1 + 1 + 1 + 1 from by omega]; exact h2
      · rw [show (k + 1) * 3 + 2 = k * 3 + 2 + 1 + 1 + 1 from by omega]; exact h3

set_option maxHeartbeats 4000000 in
set_option maxRecDepth 100000 in
theorem actrun_walk (w : World) (A : Option Addr) (cap : Nat) (l : List Act') (a : Int) (h0 : 0 ≤ a) (h1 : a ≤ 255) (hr : ReadsActs w A l) (hcap : l.length ≤ cap) (_hl : l.length ≤ 9223372036854775807) :
    Calls Try.prog 7 #[.slice A l.length cap, .int .u8 a] w fun e w' => e = .returned (.bool true) ∧ Only [] w w' := by
  have HR := Lib.hid hr
  clear hr
  obtain ⟨i0, hi, hz0, hz1, hz2⟩ := info_parts Try.info42
  have HI0 := Lib.hid (And.intro hi (And.intro hz0 (And.intro hz1 hz2)))
  clear hi hz0 hz1 hz2
  go_enter Try.func7, Try.ntmps7
  go_wp2_with fail
  refine (new_any _ 8 (by omega) (by omega)).mono ?_
  rintro e w1 ⟨b, s, rfl, hb, hs, ho, hm⟩
  have HB := Lib.hid (And.intro hb hs)
  have HO := Lib.hid ho
  have HO0 := Lib.hid ho
  have HM := Lib.hid hm
  clear hb hs ho hm
  go_wp2_with fail
  refine (new_any _ 8 (by omega) (by omega)).mono ?_
  rintro e w2 ⟨b', s', rfl, hb', hs', ho, hm'⟩
  have HO20 := Lib.hid (HO.out.trans ho)
  have HB2 := Lib.hid (And.intro hb' (And.intro hs' HM.out.lt))
  have HO := Lib.hid (HO.out.trans ho)
  have HM := Lib.hid (HM.out.only ho (by simp) (by simp))
  have HN := Lib.hid hm'
  have HN0 := Lib.hid hm'
  clear hb' hs' ho hm'
  by_cases hlen : l.length ≤ 60
  · have hl1 : (l.length : Int) ≤ 60 := by omega
    obtain ⟨k, hk⟩ : ∃ k : Nat, a % ((l.length : Int) + 1) = k := ⟨(a % ((l.length : Int) + 1)).toNat, by have := Int.emod_nonneg a (show (l.length : Int) + 1 ≠ 0 by omega); omega⟩
    have hkl : k ≤ l.length := by have := Int.emod_lt_of_pos a (show 0 < (l.length : Int) + 1 by omega); omega
    go_wp2_with fail
    rw [hk]
    clear hk
    refine (run_any _ b s (MS.new 8) A cap l HM.out (HR.out.only HO.out (fun _ _ _ => by simp)) (off_of HR.out (by have := HB.out; simp; omega)) (by omega)).mono ?_
    rintro e w3 ⟨v, rfl, ho, hm, hown⟩
    have HWa := Lib.hid hown
    have HBL := Lib.hid (fun x (hx : v.ownBlock = some x) => (row_block hown hx).2)
    have HN := Lib.hid (HN.out.only ho (by have := HB2.out; simp; omega) (by have := HB2.out; simp; omega))
    have HN3 := Lib.hid HN.out
    have HO := Lib.hid (HO.out.then ho (by have := HB.out; simp; omega))
    have HO30 := Lib.hid (show w2.heap.size ≤ w3.heap.size ∧ w.heap.size ≤ w2.heap.size from ⟨ho.size, HO20.out.size⟩)
    have HM := Lib.hid hm
    clear ho hm hown
    have k0 : (0 : Int) ≤ k := by omega
    have k1 : (k : Int) ≤ cap := by omega
    have k2 : (k : Int) ≤ l.length := by omega
    have kmn : min k l.length = k := by omega
    have lt1 : (l.take k).length = k := by rw [List.length_take]; omega
    go_wp2_with fail
    have R2 := run_any w3 b' s' (MS.new 8) A cap (l.take k) HN.out ((HR.out.only HO.out (fun _ _ _ => by simp)).take k) (fun hne => off_of HR.out (by have := HB.out; have := HB2.out; have := HO0.out.size; simp; omega) (fun e => hne (by rw [e]; simp))) (by omega)
    rw [lt1] at R2
    refine R2.mono ?_
    clear R2
    rintro e w4 ⟨v2, rfl, ho, hm, hown⟩
    have HWa := Lib.hid (row_only HWa.out ho (by have := HN0.out.lt; simp; omega))
    have HWb := Lib.hid hown
    rw [lt1] at HWb
    have HM := Lib.hid (HM.out.only ho (by have := HB2.out; simp; omega) (by have := HB2.out; simp; omega))
    have HO := Lib.hid (HO.out.then ho (by have := HB.out; have := HB2.out; have := HO0.out.size; simp; omega))
    have HN := Lib.hid hm
    have HO4 := Lib.hid (show w3.heap.size ≤ w4.heap.size from ho.size)
    have HO3 := Lib.hid HO30.out
    clear ho hm hown
    go_upto_region 8 with fail
    go_cut [11] (fun x wx => Only [] w wx ∧ wx.ownsRow w3.heap.size 42 3 x l.length (ress ((MS.new 8).run l).2) ∧ wx.ownsRow w2.heap.size 42 3 v l.length (ress ((MS.new 8).run l).2) ∧ IsMem wx b s ((MS.new 8).run l).1 ∧ IsMem wx b' s' ((MS.new 8).run l).1)
    case rest =>
      as_aux_lemma =>
        clear HWa HWb HM HN HO
        obtain ⟨ho, hrb, hra, hm, hn⟩ := hcut
        have hlen2 := MS.run_len (MS.new 8) l
        have hL8 : ((MS.new 8).run l).1.L.length = 8 := by rw [MS.run_keeps]; rfl
        obtain ⟨L, hL⟩ : ∃ L, ((MS.new 8).run l).2 = L := ⟨_, rfl⟩
        obtain ⟨mF, hmF⟩ : ∃ m, ((MS.new 8).run l).1 = m := ⟨_, rfl⟩
        rw [hmF] at hm hn hL8
        rw [hL] at hra hrb hlen2
        obtain ⟨A1, c1, rfl⟩ := row_form hra
        obtain ⟨A2, c2, rfl⟩ := row_form hrb
        have HO := Lib.hid ho
        have HA := Lib.hid hra
        have HB := Lib.hid hrb
        have HM := Lib.hid hm
        have HN := Lib.hid hn
        have HL2 := Lib.hid hlen2
        have HL8 := Lib.hid hL8
        clear ho hra hrb hm hn hlen2 hL8 hL hmF
        go_wp2_with fail
        go_loopw [12] (fun i wr => ∃ j : Nat, j ≤ l.length ∧ i = .int .i64 j ∧ Only [] wc wr) (fun i _ => l.length - (intOf i).toNat)
        case atStart => exact ⟨0, Nat.zero_le _, rfl, Only.refl _ _⟩
        case round =>
          obtain ⟨j, hj, rfl, hor⟩ := hrel
          have HOR := Lib.hid hor
          clear hor
          by_cases hlt : j < l.length
          · have hlt1 : (j : Int) < l.length := by omega
            obtain ⟨g1, d1, cur1, hv1, _, hb1, hc1⟩ := row_cells (row_only HA.out HOR.out (by simp)) (by omega)
            obtain ⟨g2, d2, cur2, hv2, _, hb2, hc2⟩ := row_cells (row_only HB.out HOR.out (by simp)) (by omega)
            injection hv1 with e1 _ e2
            injection hv2 with e3 _ e4
            subst e1 e2 e3 e4
            obtain ⟨rv, rok, re, h1, h2, h3, _⟩ := ress_at L j (by have := HL2.out; omega)
            have p0 := hb1.at (j * 3) ((hc1 (j * 3) (by omega)).trans h1)
            have p1 := hb1.at (j * 3 + 1) ((hc1 (j * 3 + 1) (by omega)).trans h2)
            have p2 := hb1.at (j * 3 + 2) ((hc1 (j * 3 + 2) (by omega)).trans h3)
            have q0 := hb2.at (j * 3) ((hc2 (j * 3) (by omega)).trans h1)
            have q1 := hb2.at (j * 3 + 1) ((hc2 (j * 3 + 1) (by omega)).trans h2)
            have q2 := hb2.at (j * 3 + 2) ((hc2 (j * 3 + 2) (by omega)).trans h3)
            clear hb1 hc1 hb2 hc2 h1 h2 h3
            go_wp2_with fail
            go_region
            all_goals
              go_wp2_with fail
              exact ⟨⟨j + 1, by omega, rfl, HOR.out.drew⟩, by simp [intOf]; omega⟩
          · have hlt1 : ¬ (j : Int) < l.length := by omega
            have HM := Lib.hid (HM.out.only HOR.out (by simp) (by simp))
            have HN := Lib.hid (HN.out.only HOR.out (by simp) (by simp))
            have HO := Lib.hid (HO.out.trans HOR.out)
            go_wp2_with fail
            refine (words_any _ b s mF.L mF.c mF.l 0 8 HM.out).mono ?_
            rintro e w8 ⟨v1, rfl, ho, hv⟩
            have HV1 := Lib.hid (NewWords.isRow hv (Nat.le_trans (cutL_le _ _ _) (by have := HL8.out; omega)))
            have HO := Lib.hid (HO.out.trans ho)
            have HN := Lib.hid (HN.out.only ho (by simp) (by simp))
            clear ho hv
            go_wp2_with fail
            refine (words_any _ b' s' mF.L mF.c mF.l 0 8 HN.out).mono ?_
            rintro e w9 ⟨v2, rfl, ho, hv⟩
            have HV2 := Lib.hid (NewWords.isRow hv (Nat.le_trans (cutL_le _ _ _) (by have := HL8.out; omega)))
            have HV1 := Lib.hid (IsRow.only HV1.out ho (by simp))
            have HO := Lib.hid (HO.out.trans ho)
            clear ho hv
            go_wp2_with fail
            refine (eqw_eq _ _ _ _ HV1.out HV2.out).mono ?_
            rintro e w10 ⟨rfl, ho⟩
            have HO := Lib.hid (HO.out.trans ho)
            clear ho
            go_wp2_with fail
            refine (known03 _).mono ?_
            rintro e w11 ⟨rfl, ho⟩
            have HO := Lib.hid (HO.out.trans ho)
            clear ho
            go_wp2_with fail
            go_ret
            exact ⟨rfl, HO.out⟩
    have lt2 : (l.drop k).length = l.length - k := by rw [List.length_drop]
    have hrun := MS.run_append (MS.new 8) (l.take k) (l.drop k)
    rw [List.take_append_drop] at hrun
    have HRUN := Lib.hid hrun
    have HLT2 := Lib.hid lt2
    have HLT1 := Lib.hid lt1
    clear hrun lt2 lt1
    by_cases hck : cap = k
    · have hdn : l.drop k = [] := List.drop_eq_nil_of_le (by omega)
      have hck2 : (cap = k) = True := eq_true hck
      have HCK := Lib.hid hck
      clear hck
      have R2 := run_any w4 b' s' _ A (cap - k) (l.drop k) HN.out (.inl hdn) (fun h => absurd hdn h) (by have := HLT2.out; omega)
      rw [HLT2.out] at R2
      go_wp2_with fail
      refine R2.mono ?_
      clear R2
      rintro e w5 ⟨v3, rfl, ho, hm, hown⟩
      have HWa := Lib.hid (row_only HWa.out ho (by have := HN0.out.lt; simp; omega))
      have HWb := Lib.hid (row_only HWb.out ho (by have := HN3.out.lt; simp; omega))
      have HM := Lib.hid (HM.out.only ho (by have := HB2.out; simp; omega) (by have := HB2.out; simp; omega))
      have HO := Lib.hid (HO.out.then ho (by have := HB.out; have := HB2.out; have := HO0.out.size; simp; omega))
      have HN := Lib.hid hm
      have HO5 := Lib.hid (show w3.heap.size ≤ w5.heap.size from Nat.le_trans HO4.out ho.size)
      obtain ⟨n2, hn2⟩ : ∃ n, (l.drop k).length = n := ⟨_, rfl⟩
      obtain ⟨r2, hr2⟩ : ∃ r, (((MS.new 8).run (l.take k)).1.run (l.drop k)).2 = r := ⟨_, rfl⟩
      have hfull : ((MS.new 8).run l).2 = ((MS.new 8).run (l.take k)).2 ++ r2 := by rw [← hr2, HRUN.out]
      have hlast : ((MS.new 8).run l).1 = (((MS.new 8).run (l.take k)).1.run (l.drop k)).1 := by rw [HRUN.out]
      have hnn : k + n2 = l.length := by have := HLT2.out; omega
      rw [hn2, hr2] at hown
      have hl3 := hown.1
      have HF := Lib.hid (And.intro hfull (And.intro hlast hnn))
      have HL3 := Lib.hid hl3
      have hn60 : n2 ≤ 60 := by omega
      have hk60 : k ≤ 60 := by omega
      rcases hown.2 with ⟨hv3, hn3⟩ | ⟨g, cap3, cur, hv3, hg, hh, _, _, _, ht⟩
      · subst hv3
        clear ho hm hown hl3 hfull hlast hnn hn2 hr2
        go_wp2_with (at_builtin; refine wpList_append_own_none rfl (.tmp 71) (.tmp 76) 39 rfl w3.heap.size 42 i0 3 Try.underlying39 HI0.out.1 _ k _ rfl HWb.out rfl ?_)
        go_wp2_with fail
        go_meet
        have hr0 : r2 = [] := List.eq_nil_of_length_eq_zero (by have := HL3.out; rw [ress_len, hn3] at this; omega)
        refine ⟨HO.out, ?_, HWa.out, HM.out, ?_⟩
        · rw [HF.out.1, hr0, List.append_nil]
          have e : l.length = k := by have := HF.out.2.2; omega
          rw [e]
          exact HWb.out
        · rw [HF.out.2.1]
          exact HN.out
      · subst hv3
        have HH := Lib.hid (And.intro (show Blk w5 g 42 cur from hh) ht)
        clear ho hm hown hl3 hfull hlast hnn hn2 hr2 hh ht
        go_wp2_with (at_builtin; refine wpList_append_own _ rfl (.tmp 71) (.tmp 76) 39 rfl w3.heap.size 42 i0 (.agg #[.int .u64 0, .bool false, .int .i64 0]) 3 24 Try.underlying39 HI0.out.1 HI0.out.2.1 HI0.out.2.2.1 HI0.out.2.2.2 rfl (by decide) _ k _ rfl HWb.out ⟨g, 0, none⟩ n2 cap3 (ress r2) rfl HL3.out ?hn ?h1 ?h63 ?hb ?hbase ?_)
        case hn =>
          intro j u hj
          have hjl := (List.getElem?_eq_some_iff.1 hj).1
          rw [addr_add, Nat.zero_add, HH.out.1.cell]
          rw [← HH.out.2] at hj
          rw [HL3.out] at hjl
          rw [List.getElem?_take_of_lt hjl] at hj
          simpa using hj
        case h1 => exact ress_one r2
        case h63 => unfold maxLen; omega
        case hb => omega
        case hbase => have := HO5.out; omega
        intro v' w6 hown6 hg6 _
        have HW6 := Lib.hid hown6
        have HG6 := Lib.hid hg6
        clear hown6 hg6
        go_wp2_with fail
        go_meet
        have hg3 := grown_only HG6.out
        have hb1 := HB.out
        have hb2 := HB2.out
        have hb3 := HN3.out.lt
        have hb4 := HO30.out
        have hb5 := HN0.out.lt
        refine ⟨HO.out.grown HG6.out (fun x hx => .inr ?_), ?_, row_other HWa.out hg3 ?_, HM.out.only hg3 (row_far HWb.out ?_) (row_far HWb.out ?_), ?_⟩
        · have := (row_block HWb.out hx).1
          omega
        · rw [HF.out.1, ress_append, ← HF.out.2.2]
          exact HW6.out
        · intro x hx e
          have h1 := (row_block HWb.out (by simpa using hx)).1
          have h2 := HBL.out x e
          omega
        · omega
        · omega
        · rw [HF.out.2.1]
          exact HN.out.only hg3 (row_far HWb.out (by omega)) (row_far HWb.out (by omega))
    · have R2 := run_any w4 b' s' _ (Option.map (fun x => x.add (k * 4)) A) (cap - k) (l.drop k) HN.out ((HR.out.only HO.out (fun _ _ _ => by simp)).drop k) (off_drop HR.out (by have := HB.out; have := HB2.out; have := HO0.out.size; simp; omega) k) (by have := HLT2.out; omega)
      rw [HLT2.out] at R2
      go_wp2_with fail
      refine R2.mono ?_
      clear R2
      rintro e w5 ⟨v3, rfl, ho, hm, hown⟩
      have HWa := Lib.hid (row_only HWa.out ho (by have := HN0.out.lt; simp; omega))
      have HWb := Lib.hid (row_only HWb.out ho (by have := HN3.out.lt; simp; omega))
      have HM := Lib.hid (HM.out.only ho (by have := HB2.out; simp; omega) (by have := HB2.out; simp; omega))
      have HO := Lib.hid (HO.out.then ho (by have := HB.out; have := HB2.out; have := HO0.out.size; simp; omega))
      have HN := Lib.hid hm
      have HO5 := Lib.hid (show w3.heap.size ≤ w5.heap.size from Nat.le_trans HO4.out ho.size)
      obtain ⟨n2, hn2⟩ : ∃ n, (l.drop k).length = n := ⟨_, rfl⟩
      obtain ⟨r2, hr2⟩ : ∃ r, (((MS.new 8).run (l.take k)).1.run (l.drop k)).2 = r := ⟨_, rfl⟩
      have hfull : ((MS.new 8).run l).2 = ((MS.new 8).run (l.take k)).2 ++ r2 := by rw [← hr2, HRUN.out]
      have hlast : ((MS.new 8).run l).1 = (((MS.new 8).run (l.take k)).1.run (l.drop k)).1 := by rw [HRUN.out]
      have hnn : k + n2 = l.length := by have := HLT2.out; omega
      rw [hn2, hr2] at hown
      have hl3 := hown.1
      have HF := Lib.hid (And.intro hfull (And.intro hlast hnn))
      have HL3 := Lib.hid hl3
      have hn60 : n2 ≤ 60 := by omega
      have hk60 : k ≤ 60 := by omega
      rcases hown.2 with ⟨hv3, hn3⟩ | ⟨g, cap3, cur, hv3, hg, hh, _, _, _, ht⟩
      · subst hv3
        clear ho hm hown hl3 hfull hlast hnn hn2 hr2
        go_wp2_with (at_builtin; refine wpList_append_own_none rfl (.tmp 71) (.tmp 76) 39 rfl w3.heap.size 42 i0 3 Try.underlying39 HI0.out.1 _ k _ rfl HWb.out rfl ?_)
        go_wp2_with fail
        go_meet
        have hr0 : r2 = [] := List.eq_nil_of_length_eq_zero (by have := HL3.out; rw [ress_len, hn3] at this; omega)
        refine ⟨HO.out, ?_, HWa.out, HM.out, ?_⟩
        · rw [HF.out.1, hr0, List.append_nil]
          have e : l.length = k := by have := HF.out.2.2; omega
          rw [e]
          exact HWb.out
        · rw [HF.out.2.1]
          exact HN.out
      · subst hv3
        have HH := Lib.hid (And.intro (show Blk w5 g 42 cur from hh) ht)
        clear ho hm hown hl3 hfull hlast hnn hn2 hr2 hh ht
        go_wp2_with (at_builtin; refine wpList_append_own _ rfl (.tmp 71) (.tmp 76) 39 rfl w3.heap.size 42 i0 (.agg #[.int .u64 0, .bool false, .int .i64 0]) 3 24 Try.underlying39 HI0.out.1 HI0.out.2.1 HI0.out.2.2.1 HI0.out.2.2.2 rfl (by decide) _ k _ rfl HWb.out ⟨g, 0, none⟩ n2 cap3 (ress r2) rfl HL3.out ?hn ?h1 ?h63 ?hb ?hbase ?_)
        case hn =>
          intro j u hj
          have hjl := (List.getElem?_eq_some_iff.1 hj).1
          rw [addr_add, Nat.zero_add, HH.out.1.cell]
          rw [← HH.out.2] at hj
          rw [HL3.out] at hjl
          rw [List.getElem?_take_of_lt hjl] at hj
          simpa using hj
        case h1 => exact ress_one r2
        case h63 => unfold maxLen; omega
        case hb => omega
        case hbase => have := HO5.out; omega
        intro v' w6 hown6 hg6 _
        have HW6 := Lib.hid hown6
        have HG6 := Lib.hid hg6
        clear hown6 hg6
        go_wp2_with fail
        go_meet
        have hg3 := grown_only HG6.out
        have hb1 := HB.out
        have hb2 := HB2.out
        have hb3 := HN3.out.lt
        have hb4 := HO30.out
        have hb5 := HN0.out.lt
        refine ⟨HO.out.grown HG6.out (fun x hx => .inr ?_), ?_, row_other HWa.out hg3 ?_, HM.out.only hg3 (row_far HWb.out ?_) (row_far HWb.out ?_), ?_⟩
        · have := (row_block HWb.out hx).1
          omega
        · rw [HF.out.1, ress_append, ← HF.out.2.2]
          exact HW6.out
        · intro x hx e
          have h1 := (row_block HWb.out (by simpa using hx)).1
          have h2 := HBL.out x e
          omega
        · omega
        · omega
        · rw [HF.out.2.1]
          exact HN.out.only hg3 (row_far HWb.out (by omega)) (row_far HWb.out (by omega))
  · have hl1 : (60 : Int) < l.length := by omega
    go_wp2_with fail
    refine (known03 _).mono ?_
    rintro e w2 ⟨rfl, ho⟩
    have HO := Lib.hid (HO.out.trans ho)
    clear ho
    go_wp2_with fail
    go_ret
    exact ⟨rfl, HO.out⟩

end Go.Proofs.Ytnoplfjodedijaa
