/- What a reader tells; a writer's step. -/
import Derived.Test.YtnoplfjodedijaaSeq4
import Derived.Laws.AppendOwnNone
namespace Go.Proofs.Ytnoplfjodedijaa
open Go.RowKit

theorem IsRow.ofOwn {w : World} {base : Nat} {v : Value} {n : Nat} {L : List Int} (h : w.ownsRow base 22 1 v n (L.map (Value.int .u64))) (hl : L.length ≤ 9223372036854775807) : IsRow w v L := by
  have hn : n = L.length := by have := h.1; simp at this; omega
  rcases h.2 with ⟨rfl, h0⟩ | ⟨g, cap, cur, rfl, _, hg, _, _, _, ht⟩
  · have : L = [] := List.eq_nil_of_length_eq_zero (by omega)
    subst this
    exact ⟨none, 0, rfl, .nil _ _, hl⟩
  · rcases Nat.eq_zero_or_pos L.length with h0 | hp
    · have : L = [] := List.eq_nil_of_length_eq_zero h0
      subst this
      exact ⟨_, cap, by rw [hn], .nil _ _, hl⟩
    · refine ⟨some ⟨g, 0, none⟩, cap, by rw [hn], .inr ⟨g, 0, ?_, rfl, fun i hi => ?_⟩, hl⟩
      · rcases Nat.lt_or_ge g w.heap.size with h' | h'
        · exact h'
        · rw [Array.getElem?_eq_none h'] at hg; cases hg
      · rw [Nat.zero_add]
        have e : cur[i]? = some (.int .u64 (nth L i)) := by
          have : (cur.toList.take (n * 1))[i]? = some (.int .u64 (nth L i)) := by rw [ht]; simp [nth, hi]
          rw [List.getElem?_take_of_lt (by omega)] at this
          simpa using this
        simp [World.cell?, hg, e]

theorem srnext_any (w : World) (b : Nat) (sl : Value) (s : RS) (h : IsR w b sl s) : Calls Try.prog 42 #[.pointer (some ⟨b, 0, none⟩)] w fun e w' => e = .returned s.next.val ∧ Only [] w w' := by
  obtain ⟨at_, n, turn, was, vals, tries, bad⟩ := s
  obtain ⟨k1, k2, k3, k4, k5, k6, k7, k8, k9⟩ := h.ok
  dsimp only at k1 k2 k3 k4 k5 k6 k7 k8 k9
  unfold RS.next
  dsimp only
  by_cases h1 : turn = n + 2
  · rw [if_pos h1]
    subst h1
    exact srnext_done w b n at_ was tries vals bad sl h
  rw [if_neg h1]
  by_cases h2 : turn = n + 1
  · rw [if_pos h2]
    subst h2
    exact srnext_last w b n at_ was tries vals bad sl h
  rw [if_neg h2]
  obtain ⟨k, rfl⟩ : ∃ k : Nat, turn = k := ⟨turn.toNat, by omega⟩
  exact srnext_mid w b n at_ was tries vals bad sl k (by omega) h

set_option maxRecDepth 100000 in
theorem values_wait (w : World) (b : Nat) (sl : Value) (s : RS) (h : IsR w b sl s) (hd : ¬ s.turn = s.n + 2) :
    Calls Try.prog 39 #[.pointer (some ⟨b, 0, none⟩)] w fun e w' => e = .returned (.tuple #[.slice none 0 0, .bool false]) ∧ Only [] w w' := by
  have hn := h.ok.n1
  have c4 := h.obj.at 4 (v := .int .i64 (s.n + 2)) rfl
  have c2 := h.obj.at 2 (v := .int .i64 s.turn) rfl
  clear h
  go_enter Try.func39, Try.ntmps39
  go_wp2_with fail
  refine (over_at _ b s.turn (s.n + 2) c2 c4).mono ?_
  rintro e w1 ⟨rfl, ho⟩
  rw [decide_eq_false hd]
  have HO := Lib.hid ho
  clear ho c2 c4 hd
  go_wp2_with fail
  go_ret2
  exact ⟨rfl, HO.out⟩

set_option maxRecDepth 100000 in
theorem values_bad (w : World) (b : Nat) (sl : Value) (s : RS) (h : IsR w b sl s) (hd : s.turn = s.n + 2) (hb : s.bad = true) :
    Calls Try.prog 39 #[.pointer (some ⟨b, 0, none⟩)] w fun e w' => e = .returned (.tuple #[.slice none 0 0, .bool false]) ∧ Only [] w w' := by
  have hn := h.ok.n1
  have c4 := h.obj.at 4 (v := .int .i64 (s.n + 2)) rfl
  have c2 := h.obj.at 2 (v := .int .i64 s.turn) rfl
  have H := Lib.hid h
  have HB := Lib.hid hb
  clear h hb
  go_enter Try.func39, Try.ntmps39
  go_wp2_with fail
  refine (over_at _ b s.turn (s.n + 2) c2 c4).mono ?_
  rintro e w1 ⟨rfl, ho⟩
  rw [decide_eq_true hd]
  have HO := Lib.hid ho
  have H := Lib.hid (H.out.quiet ho)
  have c7 := H.out.obj.at 7 (v := .bool true) (by rw [← HB.out]; rfl)
  clear ho c2 c4 hd
  go_wp2_with fail
  go_ret2
  exact ⟨rfl, HO.out⟩

/-- Values told. -/
def Told (w : World) (L : List Int) (e : Ending) (w' : World) : Prop := ∃ v, e = .returned (.tuple #[v, .bool true]) ∧ Only [] w w' ∧ w'.ownsRow w.heap.size 22 1 v L.length (L.map (Value.int .u64))

set_option maxRecDepth 100000 in
theorem values_told (w : World) (b : Nat) (sl : Value) (s : RS) (h : IsR w b sl s) (hd : s.turn = s.n + 2) (hb : s.bad = false) :
    Calls Try.prog 39 #[.pointer (some ⟨b, 0, none⟩)] w (Told w s.vals) := by
  obtain ⟨i0, hi, hz0, hz1, hz2⟩ := info_parts Try.info22
  have HI0 := Lib.hid (And.intro hi (And.intro hz0 (And.intro hz1 hz2)))
  clear hi hz0 hz1 hz2
  have hn := h.ok.n1
  have c4 := h.obj.at 4 (v := .int .i64 (s.n + 2)) rfl
  have c2 := h.obj.at 2 (v := .int .i64 s.turn) rfl
  have hlen := h.ok.len
  have H := Lib.hid h
  have HB := Lib.hid hb
  clear h hb
  go_enter Try.func39, Try.ntmps39
  go_wp2_with fail
  refine (over_at _ b s.turn (s.n + 2) c2 c4).mono ?_
  rintro e w1 ⟨rfl, ho⟩
  rw [decide_eq_true hd]
  have HO := Lib.hid ho
  have H := Lib.hid (H.out.quiet ho)
  have c7 := H.out.obj.at 7 (v := .bool false) (by rw [← HB.out]; rfl)
  have c5 := H.out.obj.at 5 (v := sl) rfl
  clear ho c2 c4 hd
  rcases H.out.row.2 with ⟨rfl, hn0⟩ | ⟨g, cp, cur, rfl, _, hh, _, _, _, ht⟩
  · have hv : s.vals = [] := List.eq_nil_of_length_eq_zero hn0
    go_wp2_with (at_builtin; refine wpList_append_own_none rfl (.const (.slice none 0 0)) (.tmp 30) 52 rfl w.heap.size 22 i0 1 Try.underlying52 HI0.out.1 (.slice none 0 0) 0 [] rfl (World.ownsRow_nil _ _ _ _) rfl ?_)
    go_wp2_with fail
    go_ret2
    refine ⟨_, rfl, HO.out, ?_⟩
    rw [hv]
    exact World.ownsRow_nil _ _ _ _
  · have HH := Lib.hid (And.intro (show Blk w1 g 22 cur from hh) ht)
    clear hh ht
    go_wp2_with (at_builtin; refine wpList_append_own _ rfl (.const (.slice none 0 0)) (.tmp 30) 52 rfl w.heap.size 22 i0 (.int .u64 0) 1 8 Try.underlying52 HI0.out.1 HI0.out.2.1 HI0.out.2.2.1 HI0.out.2.2.2 rfl (by decide) (.slice none 0 0) 0 [] rfl (World.ownsRow_nil _ _ _ _) ⟨g, 0, none⟩ s.vals.length cp (s.vals.map (Value.int .u64)) rfl (by simp) ?hn (oneCell_cells _) ?h63 ?hb ?hbase ?_)
    case hn =>
      intro j u hj
      have hjl := (List.getElem?_eq_some_iff.1 hj).1
      have e : (⟨g, 0, none⟩ : Addr).add j = ⟨g, j, none⟩ := by
        unfold Addr.add
        split
        · rename_i e; subst e; rfl
        · simp
      rw [e, HH.out.1.cell]
      rw [← HH.out.2] at hj
      rw [List.length_map] at hjl
      rw [List.getElem?_take_of_lt (by omega)] at hj
      simpa using hj
    case h63 => unfold maxLen; omega
    case hb => omega
    case hbase => exact HO.out.size
    intro v' w2 hown hg _
    have HW := Lib.hid hown
    have HO2 := Lib.hid (HO.out.trans (show Only [] w1 w2 from grown_only hg))
    clear hown hg
    go_wp2_with fail
    go_ret2
    exact ⟨v', rfl, HO2.out, by simpa using HW.out⟩

end Go.Proofs.Ytnoplfjodedijaa
