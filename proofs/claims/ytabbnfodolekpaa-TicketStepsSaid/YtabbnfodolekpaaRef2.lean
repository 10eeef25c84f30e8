/- The document's words, each call in one contract; its Words; its Do. -/
import Derived.Test.YtabbnfodolekpaaAny
namespace Go.Proofs.Ytabbnfodolekpaa
open Go.RowKit

section
variable (w : World) (b s : Nat) (m : MS) (i : Int)
theorem ref_load_any (hm : IsRef w b s m) : Calls Try.prog 23 #[.pointer (some ⟨b, 0, none⟩), .int .i64 i] w fun e w' =>
    e = .returned (.tuple #[.int .u64 (m.load i).2.1, .int .i64 (m.load i).2.2]) ∧ Only [b, s] w w' ∧ IsRef w' b s (m.load i).1 := by
  unfold MS.load
  split
  · rename_i h
    exact (ref_load_in w b s m.L m.c m.l i hm (MS.yes h).1 (MS.yes h).2).mono fun e w' ⟨he, ho, h'⟩ => ⟨he, ho.sub (by simp), h'⟩
  · rename_i h
    exact (ref_load_out w b s m.L m.c m.l i hm (MS.no h)).mono fun e w' ⟨he, hw⟩ => ⟨he, hw ▸ Only.refl _ _, hw ▸ hm⟩

theorem ref_store_any (v : Int) (hm : IsRef w b s m) : Calls Try.prog 24 #[.pointer (some ⟨b, 0, none⟩), .int .i64 i, .int .u64 v] w fun e w' =>
    e = .returned (.int .i64 (m.store i v).2) ∧ Only [b, s] w w' ∧ IsRef w' b s (m.store i v).1 := by
  unfold MS.store
  split
  · rename_i h
    exact (ref_store_in w b s m.L m.c m.l i v hm (MS.yes h).1 (MS.yes h).2).mono fun e w' ⟨he, ho, h'⟩ => ⟨he, ho.sub (by simp), h'⟩
  · rename_i h
    exact (ref_store_out w b s m.L m.c m.l i v hm (MS.no h)).mono fun e w' ⟨he, hw⟩ => ⟨he, hw ▸ Only.refl _ _, hw ▸ hm⟩

theorem ref_cas_any (x y : Int) (hm : IsRef w b s m) : Calls Try.prog 25 #[.pointer (some ⟨b, 0, none⟩), .int .i64 i, .int .u64 x, .int .u64 y] w fun e w' =>
    e = .returned (.tuple #[.bool (m.cas i x y).2.1, .int .i64 (m.cas i x y).2.2]) ∧ Only [b, s] w w' ∧ IsRef w' b s (m.cas i x y).1 := by
  unfold MS.cas
  split
  · rename_i h
    split
    · rename_i hx
      exact (ref_cas_yes w b s m.L m.c m.l i x y hm (MS.yes h).1 (MS.yes h).2 hx).mono fun e w' ⟨he, ho, h'⟩ => ⟨he, ho.sub (by simp), h'⟩
    · rename_i hx
      exact (ref_cas_no w b s m.L m.c m.l i x y hm (MS.yes h).1 (MS.yes h).2 hx).mono fun e w' ⟨he, ho, h'⟩ => ⟨he, ho.sub (by simp), h'⟩
  · rename_i h
    exact (ref_cas_out w b s m.L m.c m.l i x y hm (MS.no h)).mono fun e w' ⟨he, hw⟩ => ⟨he, hw ▸ Only.refl _ _, hw ▸ hm⟩

theorem ref_add_any (v : Int) (hm : IsRef w b s m) : Calls Try.prog 26 #[.pointer (some ⟨b, 0, none⟩), .int .i64 i, .int .u64 v] w fun e w' =>
    e = .returned (.tuple #[.int .u64 (m.add i v).2.1, .int .i64 (m.add i v).2.2]) ∧ Only [b, s] w w' ∧ IsRef w' b s (m.add i v).1 := by
  unfold MS.add
  split
  · rename_i h
    exact (ref_add_in w b s m.L m.c m.l i v hm (MS.yes h).1 (MS.yes h).2).mono fun e w' ⟨he, ho, h'⟩ => ⟨he, ho.sub (by simp), h'⟩
  · rename_i h
    exact (ref_add_out w b s m.L m.c m.l i v hm (MS.no h)).mono fun e w' ⟨he, hw⟩ => ⟨he, hw ▸ Only.refl _ _, hw ▸ hm⟩
end

theorem three_new (w : World) (t u : TypeId) (x y : Array Value) : Only [] w ((w.alloc (.cells x t)).alloc (.cells y u)) ∧ Blk ((w.alloc (.cells x t)).alloc (.cells y u)) w.heap.size t x ∧ Blk ((w.alloc (.cells x t)).alloc (.cells y u)) (w.heap.size + 1) u y :=
  ⟨((Only.refl _ _).alloc _).alloc _, (Blk.new _ _ _).alloc _, Blk.new' _ _ _ (by simp)⟩

set_option maxHeartbeats 1000000 in
set_option maxRecDepth 100000 in
theorem rdo_other (w : World) (mv : Value) (k i x y : Int) (h1 : k ≠ 1) (h2 : k ≠ 2) (h3 : k ≠ 3) (h4 : k ≠ 4) :
    Calls Try.prog 45 #[mv, .agg #[.int .i64 k, .int .i64 i, .int .u64 x, .int .u64 y]] w fun e w' => e = .returned (.agg #[.int .u64 0, .bool false, .int .i64 1]) ∧ Only [] w w' := by
  have g1 : (k == 1) = false := by simpa using h1
  have g2 : (k == 2) = false := by simpa using h2
  have g3 : (k == 3) = false := by simpa using h3
  have g4 : (k == 4) = false := by simpa using h4
  clear h1 h2 h3 h4
  go_enter Try.func45, Try.ntmps45
  go_wp2
  refine bodyPost_ret (v := .agg #[.int .u64 0, .bool false, .int .i64 1]) (by simp [results, Try.results45, go_sem]) rfl ⟨rfl, ?_⟩
  exact ((Only.refl _ _).alloc _).alloc _

set_option maxHeartbeats 1000000 in
set_option maxRecDepth 100000 in
theorem rdo_load (w : World) (b s : Nat) (m : MS) (i x y : Int) (hm : IsRef w b s m) :
    Calls Try.prog 45 #[.pointer (some ⟨b, 0, none⟩), .agg #[.int .i64 1, .int .i64 i, .int .u64 x, .int .u64 y]] w fun e w' => e = .returned (.agg #[.int .u64 (m.load i).2.1, .bool false, .int .i64 (m.load i).2.2]) ∧ Only [b, s] w w' ∧ IsRef w' b s (m.load i).1 := by
  have H2 := Lib.hid (three_new w 70 90 #[.int .i64 1, .int .i64 i, .int .u64 x, .int .u64 y] #[.int .u64 0, .bool false, .int .i64 0])
  have HM := Lib.hid hm
  clear hm
  go_enter Try.func45, Try.ntmps45
  go_wp2_with fail
  refine (ref_load_any _ b s m i (HM.out.only H2.out.1 (by simp) (by simp))).mono ?_
  rintro e w' ⟨rfl, ho, hm'⟩
  have hlt := HM.out.lt
  have hr := H2.out.2.2.only ho (by simp; omega)
  have q0 := hr.at 0 rfl
  have q1 := hr.at 1 rfl
  have q2 := hr.at 2 rfl
  have f0 := hr.frozen 0
  have f1 := hr.frozen 1
  have f2 := hr.frozen 2
  have HO := Lib.hid ho
  have HM' := Lib.hid hm'
  clear hr ho hm'
  go_wp2
  refine bodyPost_ret (v := .agg #[.int .u64 (m.load i).2.1, .bool false, .int .i64 (m.load i).2.2]) (by simp [results, Try.results45, go_sem, q0, q1, q2]) rfl ⟨rfl, ?_, ?_⟩
  · exact ((((H2.out.1.sub (by simp)).trans HO.out).setCell (.inr (Nat.le_succ _)) _).setCell (.inr (Nat.le_succ _)) _).setCell (.inr (Nat.le_succ _)) _
  · exact HM'.out.only (((Only.refl [w.heap.size + 1] w').setCell (by simp) _).setCell (by simp) _ |>.setCell (by simp) _) (by simp; omega) (by simp; omega)

set_option maxHeartbeats 1000000 in
set_option maxRecDepth 100000 in
theorem rdo_store (w : World) (b s : Nat) (m : MS) (i x y : Int) (hm : IsRef w b s m) :
    Calls Try.prog 45 #[.pointer (some ⟨b, 0, none⟩), .agg #[.int .i64 2, .int .i64 i, .int .u64 x, .int .u64 y]] w fun e w' => e = .returned (.agg #[.int .u64 0, .bool false, .int .i64 (m.store i x).2]) ∧ Only [b, s] w w' ∧ IsRef w' b s (m.store i x).1 := by
  have H2 := Lib.hid (three_new w 70 90 #[.int .i64 2, .int .i64 i, .int .u64 x, .int .u64 y] #[.int .u64 0, .bool false, .int .i64 0])
  have HM := Lib.hid hm
  clear hm
  go_enter Try.func45, Try.ntmps45
  go_wp2_with fail
  refine (ref_store_any _ b s m i x (HM.out.only H2.out.1 (by simp) (by simp))).mono ?_
  rintro e w' ⟨rfl, ho, hm'⟩
  have hlt := HM.out.lt
  have hr := H2.out.2.2.only ho (by simp; omega)
  have q0 := hr.at 0 rfl
  have q1 := hr.at 1 rfl
  have q2 := hr.at 2 rfl
  have f0 := hr.frozen 0
  have f1 := hr.frozen 1
  have f2 := hr.frozen 2
  have HO := Lib.hid ho
  have HM' := Lib.hid hm'
  clear hr ho hm'
  go_wp2
  refine bodyPost_ret (v := .agg #[.int .u64 0, .bool false, .int .i64 (m.store i x).2]) (by simp [results, Try.results45, go_sem, q0, q1, q2]) rfl ⟨rfl, ?_, ?_⟩
  · exact ((((H2.out.1.sub (by simp)).trans HO.out).setCell (.inr (Nat.le_succ _)) _).setCell (.inr (Nat.le_succ _)) _).setCell (.inr (Nat.le_succ _)) _
  · exact HM'.out.only (((Only.refl [w.heap.size + 1] w').setCell (by simp) _).setCell (by simp) _ |>.setCell (by simp) _) (by simp; omega) (by simp; omega)

set_option maxHeartbeats 1000000 in
set_option maxRecDepth 100000 in
theorem rdo_cas (w : World) (b s : Nat) (m : MS) (i x y : Int) (hm : IsRef w b s m) :
    Calls Try.prog 45 #[.pointer (some ⟨b, 0, none⟩), .agg #[.int .i64 3, .int .i64 i, .int .u64 x, .int .u64 y]] w fun e w' => e = .returned (.agg #[.int .u64 0, .bool (m.cas i x y).2.1, .int .i64 (m.cas i x y).2.2]) ∧ Only [b, s] w w' ∧ IsRef w' b s (m.cas i x y).1 := by
  have H2 := Lib.hid (three_new w 70 90 #[.int .i64 3, .int .i64 i, .int .u64 x, .int .u64 y] #[.int .u64 0, .bool false, .int .i64 0])
  have HM := Lib.hid hm
  clear hm
  go_enter Try.func45, Try.ntmps45
  go_wp2_with fail
  refine (ref_cas_any _ b s m i x y (HM.out.only H2.out.1 (by simp) (by simp))).mono ?_
  rintro e w' ⟨rfl, ho, hm'⟩
  have hlt := HM.out.lt
  have hr := H2.out.2.2.only ho (by simp; omega)
  have q0 := hr.at 0 rfl
  have q1 := hr.at 1 rfl
  have q2 := hr.at 2 rfl
  have f0 := hr.frozen 0
  have f1 := hr.frozen 1
  have f2 := hr.frozen 2
  have HO := Lib.hid ho
  have HM' := Lib.hid hm'
  clear hr ho hm'
  go_wp2
  refine bodyPost_ret (v := .agg #[.int .u64 0, .bool (m.cas i x y).2.1, .int .i64 (m.cas i x y).2.2]) (by simp [results, Try.results45, go_sem, q0, q1, q2]) rfl ⟨rfl, ?_, ?_⟩
  · exact ((((H2.out.1.sub (by simp)).trans HO.out).setCell (.inr (Nat.le_succ _)) _).setCell (.inr (Nat.le_succ _)) _).setCell (.inr (Nat.le_succ _)) _
  · exact HM'.out.only (((Only.refl [w.heap.size + 1] w').setCell (by simp) _).setCell (by simp) _ |>.setCell (by simp) _) (by simp; omega) (by simp; omega)

set_option maxHeartbeats 1000000 in
set_option maxRecDepth 100000 in
theorem rdo_add (w : World) (b s : Nat) (m : MS) (i x y : Int) (hm : IsRef w b s m) :
    Calls Try.prog 45 #[.pointer (some ⟨b, 0, none⟩), .agg #[.int .i64 4, .int .i64 i, .int .u64 x, .int .u64 y]] w fun e w' => e = .returned (.agg #[.int .u64 (m.add i x).2.1, .bool false, .int .i64 (m.add i x).2.2]) ∧ Only [b, s] w w' ∧ IsRef w' b s (m.add i x).1 := by
  have H2 := Lib.hid (three_new w 70 90 #[.int .i64 4, .int .i64 i, .int .u64 x, .int .u64 y] #[.int .u64 0, .bool false, .int .i64 0])
  have HM := Lib.hid hm
  clear hm
  go_enter Try.func45, Try.ntmps45
  go_wp2_with fail
  refine (ref_add_any _ b s m i x (HM.out.only H2.out.1 (by simp) (by simp))).mono ?_
  rintro e w' ⟨rfl, ho, hm'⟩
  have hlt := HM.out.lt
  have hr := H2.out.2.2.only ho (by simp; omega)
  have q0 := hr.at 0 rfl
  have q1 := hr.at 1 rfl
  have q2 := hr.at 2 rfl
  have f0 := hr.frozen 0
  have f1 := hr.frozen 1
  have f2 := hr.frozen 2
  have HO := Lib.hid ho
  have HM' := Lib.hid hm'
  clear hr ho hm'
  go_wp2
  refine bodyPost_ret (v := .agg #[.int .u64 (m.add i x).2.1, .bool false, .int .i64 (m.add i x).2.2]) (by simp [results, Try.results45, go_sem, q0, q1, q2]) rfl ⟨rfl, ?_, ?_⟩
  · exact ((((H2.out.1.sub (by simp)).trans HO.out).setCell (.inr (Nat.le_succ _)) _).setCell (.inr (Nat.le_succ _)) _).setCell (.inr (Nat.le_succ _)) _
  · exact HM'.out.only (((Only.refl [w.heap.size + 1] w').setCell (by simp) _).setCell (by simp) _ |>.setCell (by simp) _) (by simp; omega) (by simp; omega)

theorem ract1 (m : MS) (i a b : Int) : m.act ⟨1, i, a, b⟩ = ((m.load i).1, ⟨(m.load i).2.1, false, (m.load i).2.2⟩) := by simp [MS.act]
theorem ract2 (m : MS) (i a b : Int) : m.act ⟨2, i, a, b⟩ = ((m.store i a).1, ⟨0, false, (m.store i a).2⟩) := by simp [MS.act]
theorem ract3 (m : MS) (i a b : Int) : m.act ⟨3, i, a, b⟩ = ((m.cas i a b).1, ⟨0, (m.cas i a b).2.1, (m.cas i a b).2.2⟩) := by simp [MS.act]
theorem ract4 (m : MS) (i a b : Int) : m.act ⟨4, i, a, b⟩ = ((m.add i a).1, ⟨(m.add i a).2.1, false, (m.add i a).2.2⟩) := by simp [MS.act]
theorem ract0 (m : MS) (k i a b : Int) (h1 : k ≠ 1) (h2 : k ≠ 2) (h3 : k ≠ 3) (h4 : k ≠ 4) : m.act ⟨k, i, a, b⟩ = (m, ⟨0, false, 1⟩) := by simp [MS.act, h1, h2, h3, h4]

theorem rdo_any (w : World) (b s : Nat) (m : MS) (x : Act') (hm : IsRef w b s m) :
    Calls Try.prog 45 #[.pointer (some ⟨b, 0, none⟩), x.val] w fun e w' => e = .returned (m.act x).2.val ∧ Only [b, s] w w' ∧ IsRef w' b s (m.act x).1 := by
  obtain ⟨k, i, a, b'⟩ := x
  by_cases h1 : k = 1
  · subst h1; rw [ract1]; exact rdo_load w b s m i a b' hm
  by_cases h2 : k = 2
  · subst h2; rw [ract2]; exact rdo_store w b s m i a b' hm
  by_cases h3 : k = 3
  · subst h3; rw [ract3]; exact rdo_cas w b s m i a b' hm
  by_cases h4 : k = 4
  · subst h4; rw [ract4]; exact rdo_add w b s m i a b' hm
  rw [ract0 m k i a b' h1 h2 h3 h4]
  exact (rdo_other w _ k i a b' h1 h2 h3 h4).mono fun e w' ⟨he, ho⟩ => ⟨he, ho.sub (by simp), hm.only ho (by simp) (by simp)⟩
theorem IsRow.of_own {w : World} {base : Nat} {v : Value} {n : Nat} {L : List Int} (h : w.ownsRow base 27 1 v n (L.map (Value.int .u64))) (hl : L.length ≤ 9223372036854775807) : IsRow w v L := by
  have hn : n = L.length := by have := h.1; simp at this; omega
  rcases h.2 with ⟨rfl, h0⟩ | ⟨g, cap, cur, rfl, _, hg, _, _, _, ht⟩
  · have : L = [] := List.eq_nil_of_length_eq_zero (by omega)
    subst this
    exact ⟨none, 0, rfl, .nil _ _, hl⟩
  · rcases Nat.eq_zero_or_pos L.length with h0 | hp
    · have : L = [] := List.eq_nil_of_length_eq_zero h0
      subst this
      exact ⟨_, cap, by rw [hn], .nil _ _, hl⟩
    · refine ⟨some ⟨g, 0, none⟩, cap, by rw [hn], .inr ⟨g, 0, ?_, rfl, fun i hi => ?_⟩, hl⟩
      · rcases Nat.lt_or_ge g w.heap.size with h' | h'
        · exact h'
        · rw [Array.getElem?_eq_none h'] at hg; cases hg
      · rw [Nat.zero_add]
        have e : cur[i]? = some (.int .u64 (nth L i)) := by
          have : (cur.toList.take (n * 1))[i]? = some (.int .u64 (nth L i)) := by rw [ht]; simp [nth, hi]
          rw [List.getElem?_take_of_lt (by omega)] at this
          simpa using this
        simp [World.cell?, hg, e]

theorem ref_words_none (w : World) (b s : Nat) (m : MS) (i n : Int) (hm : IsRef w b s m) (h : ¬ (1 ≤ n ∧ 0 ≤ i ∧ i ≤ m.L.length ∧ n ≤ m.L.length - i)) :
    Calls Try.prog 29 #[.pointer (some ⟨b, 0, none⟩), .int .i64 i, .int .i64 n] w fun e w' => e = .returned (.slice none 0 0) ∧ w = w' := by
  have c0 := hm.c0
  have hk : m.L.length ≤ 65536 := hm.max
  clear hm
  by_cases h1 : n < 1
  · clear h
    go_enter Try.func29, Try.ntmps29
    go_wp2
    go_ret
    exact ⟨rfl, rfl⟩
  by_cases h2 : i < 0
  · clear h
    go_enter Try.func29, Try.ntmps29
    go_wp2
    go_ret
    exact ⟨rfl, rfl⟩
  by_cases h3 : (m.L.length : Int) < i
  · clear h
    go_enter Try.func29, Try.ntmps29
    go_wp2
    go_ret
    exact ⟨rfl, rfl⟩
  have h4 : (m.L.length : Int) - i < n := by omega
  have h5 : 0 ≤ (m.L.length : Int) - i := by omega
  clear h
  go_enter Try.func29, Try.ntmps29
  go_wp2
  go_ret
  exact ⟨rfl, rfl⟩

set_option maxHeartbeats 1000000 in
set_option maxRecDepth 100000 in
theorem ref_words_some (w : World) (b s : Nat) (m : MS) (i n : Int) (hm : IsRef w b s m) (h1 : 1 ≤ n) (h2 : 0 ≤ i) (h3 : n ≤ m.L.length - i) :
    Calls Try.prog 29 #[.pointer (some ⟨b, 0, none⟩), .int .i64 i, .int .i64 n] w fun e w' => ∃ v, e = .returned v ∧ Only [] w w' ∧ IsRow w' v ((m.L.drop i.toNat).take n.toNat) := by
  have c0 := hm.c0
  have hk : m.L.length ≤ 65536 := hm.max
  have h4 : i < m.L.length := by omega
  have h5 : i + n ≤ m.L.length := by omega
  have hcs : ∀ j u, (((m.L.drop i.toNat).take n.toNat).map (Value.int .u64))[j]? = some u → w.cell? ((⟨s, i.toNat, none⟩ : Addr).add j) = some u := fun j u hj => by
    have hlt : j < n.toNat := by
      have := (List.getElem?_eq_some_iff.1 hj).1
      simp at this; omega
    have e : (⟨s, i.toNat, none⟩ : Addr).add j = ⟨s, i.toNat + j, none⟩ := by
      unfold Addr.add
      split
      · rename_i h0; subst h0; rfl
      · rfl
    rw [e, hm.row.cell]
    simp [cellsOf, hlt, show j < m.L.length - i.toNat from by omega] at hj ⊢
    exact ⟨_, List.getElem?_eq_getElem (by omega), hj⟩
  have HC := Lib.hid hcs
  clear hm hcs
  obtain ⟨i0, hi, hz0, hz1, hz2⟩ := info_parts Try.info27
  go_enter Try.func29, Try.ntmps29
  go_wp2_with (at_builtin; refine wpList_append_own _ rfl (.tmp 34) (.tmp 43) 40 rfl w.heap.size 27 i0 (.int .u64 0) 1 8 Try.underlying40 hi hz0 hz1 hz2 rfl (by decide) _ 0 [] rfl (World.ownsRow_nil _ _ _ _) ⟨s, i.toNat, none⟩ _ _ (((m.L.drop i.toNat).take n.toNat).map (Value.int .u64)) rfl ?hl ?hc ?h1 ?h63 ?hb (Nat.le_refl _) ?_)
  case hl => rw [List.length_map, List.length_take, List.length_drop]; omega
  case hc => exact HC.out
  case h1 => exact oneCell_cells _
  case h63 => unfold maxLen; omega
  case hb => omega
  intro v' w' hown hg _
  have HW := Lib.hid hown
  have HG := Lib.hid hg
  clear hown hg
  go_wp2
  go_ret
  refine ⟨v', rfl, (Only.refl [] w).grown HG.out (fun k hk => by cases hk), IsRow.of_own (base := w.heap.size) (n := _) (by simpa using HW.out) (by rw [List.length_take, List.length_drop]; omega)⟩

theorem ref_words_any (w : World) (b s : Nat) (m : MS) (i n : Int) (hm : IsRef w b s m) :
    Calls Try.prog 29 #[.pointer (some ⟨b, 0, none⟩), .int .i64 i, .int .i64 n] w fun e w' => ∃ v, e = .returned v ∧ Only [] w w' ∧ IsRow w' v (cutL m.L i n) := by
  by_cases h : 1 ≤ n ∧ 0 ≤ i ∧ i ≤ m.L.length ∧ n ≤ m.L.length - i
  · unfold cutL
    rw [if_pos h]
    exact ref_words_some w b s m i n hm h.1 h.2.1 h.2.2.2
  · unfold cutL
    rw [if_neg h]
    refine (ref_words_none w b s m i n hm h).mono ?_
    rintro e w' ⟨rfl, rfl⟩
    exact ⟨_, rfl, Only.refl _ _, none, 0, rfl, .nil _ _, by simp⟩

end Go.Proofs.Ytabbnfodolekpaa
