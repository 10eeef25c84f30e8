/- The step of a holder in one contract; the holders that start makes. -/
import Derived.Test.YtabbnfodolekpaaTick3
namespace Go.Proofs.Ytabbnfodolekpaa
open Go.RowKit

def HS.step (h : HS) (m : MS) : HS × MS :=
  if h.next.k = 0 then (h, m)
  else if (m.act h.next).2.e ≠ 0 then (⟨h.at_, 3, h.tk, h.wish⟩, (m.act h.next).1)
  else if h.st = 0 then (⟨h.at_, 1, (m.act h.next).2.v, h.wish⟩, (m.act h.next).1)
  else if h.st = 1 ∧ (m.act h.next).2.v ≠ h.tk then (h, (m.act h.next).1)
  else (⟨h.at_, h.st + 1, h.tk, h.wish⟩, (m.act h.next).1)

theorem tnext_any (w : World) (b : Nat) (h : HS) (h0 : 0 ≤ h.at_) (h1 : h.at_ ≤ 65000) (hb : IsH w b h) :
    Calls Try.prog 36 #[.pointer (some ⟨b, 0, none⟩)] w fun e w' => e = .returned h.next.val ∧ Only [] w w' := by
  obtain ⟨a, st, tk, wish⟩ := h
  by_cases e0 : st = 0
  · subst e0; exact tnext_0 w b a tk wish h0 h1 hb
  by_cases e1 : st = 1
  · subst e1; exact tnext_1 w b a tk wish h0 h1 hb
  by_cases e2 : st = 2
  · subst e2
    cases wish
    · exact tnext_2f w b a tk h0 h1 hb
    · exact tnext_2t w b a tk h0 h1 hb
  · have e : (HS.next ⟨a, st, tk, wish⟩) = ⟨0, 0, 0, 0⟩ := by simp [HS.next, e0, e1, e2]
    rw [e]
    exact tnext_x w b a st tk wish h0 h1 (by simpa using e0) (by simpa using e1) (by simpa using e2) hb

theorem tstep_any (w : World) (b mb ms : Nat) (h : HS) (m : MS) (h0 : 0 ≤ h.at_) (h1 : h.at_ ≤ 65000) (hd : b ≠ mb ∧ b ≠ ms) (hb : IsH w b h) (hm : IsMem w mb ms m) :
    Calls Try.prog 35 #[.pointer (some ⟨b, 0, none⟩), .pointer (some ⟨mb, 0, none⟩)] w fun e w' =>
      e = .returned (.int .i64 (h.step m).1.st) ∧ Only [b, mb, ms] w w' ∧ IsH w' b (h.step m).1 ∧ IsMem w' mb ms (h.step m).2 := by
  have hnx := tnext_any w b h h0 h1 hb
  by_cases hk : h.next.k = 0
  · have e1 : h.next = ⟨0, 0, 0, 0⟩ := by
      unfold HS.next at hk ⊢
      split at hk
      · cases hk
      · split at hk
        · cases hk
        · split at hk
          · cases hk
          · rename_i g0 g1 g2
            rw [if_neg g0, if_neg g1, if_neg g2]
    rw [e1] at hnx
    have := tstep_zero w b mb ms h m hb hm hnx
    unfold HS.step
    rw [if_pos hk]
    exact this
  · obtain ⟨a, st, tk, wish⟩ := h
    obtain ⟨m', v, ok, er, hact⟩ : ∃ m' v ok er, m.act (HS.next ⟨a, st, tk, wish⟩) = (m', ⟨v, ok, er⟩) := ⟨_, _, _, _, rfl⟩
    unfold HS.step
    rw [if_neg hk, hact]
    dsimp only at h0 h1
    by_cases e0 : st = 0
    · subst e0
      by_cases he : er = 0
      · subst he
        simpa using tstep_0 w b mb ms a tk v ok wish m m' h0 h1 hd hb hm hact
      · simpa [he] using tstep_0e w b mb ms a tk v er ok wish m m' h0 h1 hd hb hm hact (by simpa using he)
    by_cases e1 : st = 1
    · subst e1
      by_cases he : er = 0
      · subst he
        by_cases hv : v = tk
        · simpa [hv] using tstep_1y w b mb ms a tk v ok wish m m' h0 h1 hd hb hm hact (by simpa using hv)
        · simpa [hv] using tstep_1n w b mb ms a tk v ok wish m m' h0 h1 hd hb hm hact (by simpa using hv)
      · simpa [he] using tstep_1e w b mb ms a tk v er ok wish m m' h0 h1 hd hb hm hact (by simpa using he)
    by_cases e2 : st = 2 ∧ wish = true
    · obtain ⟨rfl, rfl⟩ := e2
      by_cases he : er = 0
      · subst he
        simpa using tstep_2 w b mb ms a tk v ok m m' h0 h1 hd hb hm hact
      · simpa [he] using tstep_2e w b mb ms a tk v er ok m m' h0 h1 hd hb hm hact (by simpa using he)
    · exact absurd (by unfold HS.next; rw [if_neg e0, if_neg e1, if_neg e2]) hk

/-- n holders: their places in a row at block g, and their states. -/
structure HsAt (w : World) (g n : Nat) (B : Nat → Nat) (H : Nat → HS) : Prop where
  row : ∃ cur, Blk w g 65 cur ∧ ∀ k, k < n → cur[k]? = some (.pointer (some ⟨B k, 0, none⟩))
  inj : ∀ i j, i < n → j < n → B i = B j → i = j
  at_ : ∀ k, k < n → IsH w (B k) (H k)

def upd (H : Nat → HS) (k : Nat) (h : HS) : Nat → HS := fun j => if j = k then h else H j

theorem HsAt.cell {w : World} {g n : Nat} {B : Nat → Nat} {H : Nat → HS} (h : HsAt w g n B H) {k : Nat} (hk : k < n) : w.cell? ⟨g, k, none⟩ = some (.pointer (some ⟨B k, 0, none⟩)) := by
  obtain ⟨cur, hb, hc⟩ := h.row
  exact hb.at k (hc k hk)

theorem HsAt.ne {w : World} {g n : Nat} {B : Nat → Nat} {H : Nat → HS} (h : HsAt w g n B H) {k : Nat} (hk : k < n) : g ≠ B k := by
  obtain ⟨cur, hb, _⟩ := h.row
  exact hb.ne (h.at_ k hk) (by decide)

theorem HsAt.lt {w : World} {g n : Nat} {B : Nat → Nat} {H : Nat → HS} (h : HsAt w g n B H) : g < w.heap.size := by
  obtain ⟨cur, hb, _⟩ := h.row
  exact hb.lt

theorem HsAt.only {w w' : World} {g n : Nat} {B : Nat → Nat} {H : Nat → HS} {S : List Nat} (h : HsAt w g n B H) (o : Only S w w') (hg : g ∉ S) (hB : ∀ k, k < n → B k ∉ S) : HsAt w' g n B H := by
  obtain ⟨cur, hb, hc⟩ := h.row
  exact ⟨⟨cur, hb.only o hg, hc⟩, h.inj, fun k hk => Blk.only (h.at_ k hk) o (hB k hk)⟩

/-- One of them did something, perhaps on the words. -/
theorem HsAt.step {w w' : World} {g n : Nat} {B : Nat → Nat} {H : Nat → HS} {S : List Nat} (h : HsAt w g n B H) {k : Nat} (hk : k < n) {h' : HS} (o : Only (B k :: S) w w') (hg : g ∉ S) (hB : ∀ j, j < n → B j ∉ S) (hh : IsH w' (B k) h') :
    HsAt w' g n B (upd H k h') := by
  obtain ⟨cur, hb, hc⟩ := h.row
  refine ⟨⟨cur, hb.only o (by have := h.ne hk; simp; exact ⟨this, hg⟩), hc⟩, h.inj, fun j hj => ?_⟩
  unfold upd
  split
  · rename_i e; subst e; exact hh
  · rename_i e
    refine Blk.only (h.at_ j hj) o ?_
    simp only [List.mem_cons, not_or]
    exact ⟨fun e' => e (h.inj j k hj hk e'), hB j hj⟩

theorem Only.grownBy {a b : World} (h : Only [] a b) : a.grownBy b none := ⟨h.os, h.tape, h.output, h.size, fun k hk _ => h.block k hk (by simp)⟩

theorem Try.infoH : (Try.prog.info? 65).map (fun i => (i.zero, i.size, i.bytes)) = some (some (.pointer none), 1, 8) := by kernel_rfl

theorem grown_keeps {W W2 : World} {base e : Nat} {v : Value} {n : Nat} {xs : List Value} (hown : W.ownsRow base e 1 v n xs) (hg : W.grownBy W2 v.ownBlock) {x t : Nat} {cs : Array Value} (hb : Blk W x t cs) (ht : t ≠ e) : Blk W2 x t cs := by
  refine (hg.block x hb.lt ?_).trans hb
  intro he
  rcases hown.2 with ⟨rfl, _⟩ | ⟨g, cap, cur, rfl, _, hh, _⟩
  · cases he
  · have : x = g := by simpa [Value.ownBlock] using he
    subst this
    exact ht (Blk.inj hb hh).1

theorem own_cells {w : World} {base e : Nat} {v : Value} {n : Nat} {f : Nat → Value} (h : w.ownsRow base e 1 v n ((List.range n).map f)) (hn : 0 < n) :
    ∃ g cap cur, v = .slice (some ⟨g, 0, none⟩) n cap ∧ base ≤ g ∧ Blk w g e cur ∧ ∀ k, k < n → cur[k]? = some (f k) := by
  rcases h.2 with ⟨_, h0⟩ | ⟨g, cap, cur, hv, hg, hh, _, _, _, ht⟩
  · omega
  · refine ⟨g, cap, cur, hv, hg, hh, fun k hk => ?_⟩
    have : (cur.toList.take (n * 1))[k]? = some (f k) := by rw [ht]; simp [hk]
    rw [List.getElem?_take_of_lt (by omega)] at this
    simpa using this

def Started (w : World) (a n : Int) (e : Ending) (w' : World) : Prop :=
  ∃ g cap B, e = .returned (.tuple #[.slice (some ⟨g, 0, none⟩) n.toNat cap, .bool true]) ∧ w.heap.size ≤ g ∧ (∀ k, k < n.toNat → w.heap.size ≤ B k) ∧ Only [] w w' ∧ HsAt w' g n.toNat B (fun _ => ⟨a, 0, 0, false⟩)

set_option maxHeartbeats 2000000 in
set_option maxRecDepth 100000 in
theorem start_at (w : World) (a n : Int) (h0 : 0 ≤ a) (h1 : a ≤ 65000) (n1 : 1 ≤ n) (n2 : n ≤ 1000) :
    Calls Try.prog 31 #[.int .i64 a, .int .i64 n] w fun e w' => Started w a n e w' := by
  obtain ⟨i0, hi, hz0, hz1, hz2⟩ := info_parts Try.infoH
  go_enter Try.func31, Try.ntmps31
  go_wp2
  go_loopw [7, 8] (fun v i wr => ∃ (k : Nat) (B : Nat → Nat), (k : Int) ≤ n ∧ i = .int .i64 k ∧ Only [] w wr ∧ Blk wr w.heap.size 83 #[.int .i64 a] ∧ wr.ownsRow w.heap.size 65 1 v k ((List.range k).map fun j => .pointer (some ⟨B j, 0, none⟩)) ∧
    (∀ j, j < k → w.heap.size ≤ B j) ∧ (∀ i j, i < k → j < k → B i = B j → i = j) ∧ (∀ j, j < k → IsH wr (B j) ⟨a, 0, 0, false⟩)) (fun _ i _ => n.toNat - (intOf i).toNat)
  case atStart => exact ⟨0, fun _ => 0, by omega, rfl, (Only.refl _ _).alloc _, Blk.new _ _ _, World.ownsRow_nil _ _ _ _, fun j hj => absurd hj (by omega), fun i j hi => absurd hi (by omega), fun j hj => absurd hj (by omega)⟩
  case round =>
    obtain ⟨k, B, hk, rfl, ho, hl, hown, hB, hinj, hH⟩ := hrel
    have HO := Lib.hid ho
    have HL := Lib.hid hl
    have HW := Lib.hid hown
    have HH := Lib.hid (And.intro hB (And.intro hinj hH))
    have cl := hl.at 0 rfl
    clear ho hl hown hB hinj hH
    by_cases hlt : (k : Int) < n
    · go_wp2_with fail
      refine (tholder_at _ a h0 h1).mono ?_
      rintro e w1 ⟨b, rfl, hb, ho, hh⟩
      have HO1 := Lib.hid ho
      have HB1 := Lib.hid (And.intro hb hh)
      clear ho hb hh cl
      have hown1 := (HW.out.kept HO1.out.grownBy (Classical.em _)).alloc (.cells #[.pointer (some ⟨b, 0, none⟩)] 65)
      have HW1 := Lib.hid hown1
      clear hown1
      go_wp2_with (at_builtin; refine wpList_append_own _ rfl (.tmp 21) (.tmp 23) 61 rfl w.heap.size 65 i0 (.pointer none) 1 8 Try.underlying61 hi hz0 hz1 hz2 rfl (by decide) _ k _ rfl HW1.out ⟨w1.heap.size, 0, none⟩ 1 1 [.pointer (some ⟨b, 0, none⟩)] rfl rfl ?hn ?h1 ?h63 ?hb ?hbase ?_)
      case hn => intro j u hj; match j, hj with | 0, hj => simp at hj; subst hj; simp [Addr.add]
      case h1 => intro u hu; simp at hu; subst hu; rfl
      case h63 => unfold maxLen; omega
      case hb => omega
      case hbase => have := HO.out.size; have := HO1.out.size; simp; omega
      intro v' w2 hown2 hg2 _
      have HW2 := Lib.hid hown2
      have HG2 := Lib.hid hg2
      clear hown2 hg2
      go_wp2
      have hG := HG2.out
      have hW1 := HW1.out
      have ho1 : Only [] w (w1.alloc (.cells #[.pointer (some ⟨b, 0, none⟩)] 65)) := (HO.out.trans HO1.out).alloc _
      obtain ⟨hB, hinj, hH⟩ := HH.out
      have hBlt : ∀ j, j < k → B j < wr.heap.size := fun j hj => Blk.lt (hH j hj)
      refine ⟨⟨k + 1, fun j => if j = k then b else B j, by omega, by go_num, ho1.grown hG (fun x hx => .inr (by have := hW1.lt x hx; exact this.1)), ?_, ?_, ?_, ?_, ?_⟩, by simp [intOf]; omega⟩
      · exact grown_keeps hW1 hG ((HL.out.only HO1.out (by simp)).alloc _) (by decide)
      · have e : (List.range (k + 1)).map (fun j => Value.pointer (some ⟨if j = k then b else B j, 0, none⟩)) = (List.range k).map (fun j => Value.pointer (some ⟨B j, 0, none⟩)) ++ [.pointer (some ⟨b, 0, none⟩)] := by
          rw [List.range_succ, List.map_append]
          congr 1
          · refine List.map_congr_left fun j hj => ?_
            rw [if_neg (by have := List.mem_range.1 hj; omega)]
          · simp
        rw [e]
        exact HW2.out
      · intro j hj
        by_cases e : j = k
        · simp only [e, if_true]
          exact Nat.le_trans HO.out.size HB1.out.1
        · simp only [e, if_false]
          exact hB j (by omega)
      · intro i j hi hj
        have hbb := HB1.out.1
        by_cases e1 : i = k <;> by_cases e2 : j = k <;> simp only [e1, e2, if_true, if_false]
        · exact fun _ => trivial
        · intro e
          have := hBlt j (by omega)
          omega
        · intro e
          have := hBlt i (by omega)
          omega
        · exact fun e => hinj i j (by omega) (by omega) e
      · intro j hj
        by_cases e : j = k
        · simp only [e, if_true]
          exact grown_keeps hW1 hG (Blk.alloc HB1.out.2 _) (by decide)
        · simp only [e, if_false]
          exact grown_keeps hW1 hG ((Blk.only (hH j (by omega)) HO1.out (by simp)).alloc _) (by decide)
    · have hkn : k = n.toNat := by omega
      have HN := Lib.hid hkn
      clear hkn cl
      go_wp2
      go_ret2
      obtain ⟨hB, hinj, hH⟩ := HH.out
      have hkn := HN.out
      subst hkn
      obtain ⟨g, cap, cur, rfl, hg, hblk, hc⟩ := own_cells HW.out (by omega)
      exact ⟨g, cap, B, rfl, hg, hB, HO.out, ⟨cur, hblk, hc⟩, hinj, hH⟩

end Go.Proofs.Ytabbnfodolekpaa
