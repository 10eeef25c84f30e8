/- The document's one who pushes or pops on a ring: Step in one contract. Written by rus4gen.py. -/
import Derived.Test.YtoecoijmkjhkgaaRUs3
namespace Go.Proofs.Ytoecoijmkjhkgaa
open Go.RowKit

theorem go_ok (p : Bool) (s : RQ) (m : MS) (h : s.ok) (hm : m.rng) : (s.go p m).1.ok := by
  obtain ⟨_, r0, r1⟩ := go_rng p s m h hm
  unfold RQ.go
  split
  · exact h
  · obtain ⟨a0, a1, n2, n64, s0, s5, p0, p1, v0, v1⟩ := h
    have hl := lookedTo_range (m.act (s.next p)).2.v (s.awaited p)
    unfold RQ.after
    dsimp only
    split
    · exact ⟨a0, a1, n2, n64, by simp, by simp, p0, p1, v0, v1⟩
    split
    · exact ⟨a0, a1, n2, n64, by simp, by simp, r0, r1, v0, v1⟩
    split
    · exact ⟨a0, a1, n2, n64, hl.1, hl.2, p0, p1, v0, v1⟩
    split
    · exact ⟨a0, a1, n2, n64, by dsimp only; split <;> simp, by dsimp only; split <;> simp, p0, p1, v0, v1⟩
    split
    · exact ⟨a0, a1, n2, n64, by simp, by simp, p0, p1, by dsimp only; split <;> assumption, by dsimp only; split <;> assumption⟩
    · exact ⟨a0, a1, n2, n64, by simp, by simp, p0, p1, v0, v1⟩

theorem ustep_done (w : World) (b : Nat) (c0 c1 c2 c3 c4 c5 c7 mv : Value) (hb : Blk w b 98 #[c0, c1, c2, c3, c4, c5, .bool true, c7]) :
    Calls Try.prog 49 #[.pointer (some ⟨b, 0, none⟩), mv] w fun e w' => e = .returned (.bool true) ∧ w = w' := by
  have c6 := hb.at 6 (v := .bool true) rfl
  clear hb
  go_enter Try.func49, Try.ntmps49
  go_wp2_with fail
  go_ret
  exact ⟨rfl, rfl⟩

theorem ustep_any {w : World} {b rb rs : Nat} {p : Bool} {s : RQ} {m : MS} (h : IsU w b p s) (hm : IsRef w rb rs m) (hr : m.rng) (hd : b ≠ rb ∧ b ≠ rs) :
    Calls Try.prog 49 #[.pointer (some ⟨b, 0, none⟩), .pointer (some ⟨rb, 0, none⟩)] w fun e w' => e = .returned (.bool (decide ((s.go p m).1.st = 5))) ∧ Only [b, rb, rs] w w' ∧ IsU w' b p (s.go p m).1 ∧ IsRef w' rb rs (s.go p m).2 := by
  have hn := unext_any w b p s h
  have hok : s.ok := by obtain ⟨_, _, _, k, _⟩ := h; exact k
  have hgo := go_ok p s m hok hr
  obtain ⟨at_, n, st, pos, has, v⟩ := s
  have h' := h
  obtain ⟨v', turn, hb, _, h1, _⟩ := h
  have h0 := hok.s0
  have h5 := hok.s5
  dsimp only at h0 h5
  unfold RQ.go at hgo ⊢
  by_cases e5 : st = 5
  · subst e5
    rw [if_pos rfl]
    refine (ustep_done w b _ _ _ _ _ _ _ _ hb).mono ?_
    rintro e w' ⟨rfl, rfl⟩
    exact ⟨rfl, Only.refl _ _, h', hm⟩
  obtain ⟨e1, e2, h3⟩ := h1 e5
  dsimp only at e1 e2 h3 hb
  rw [e1, e2, h3, show decide (st = 5) = false from decide_eq_false e5] at hb
  clear h' h1 e1 e2
  subst h3
  dsimp only at hgo ⊢
  rw [if_neg e5] at hgo ⊢
  obtain ⟨m', y, ok, er, hact⟩ : ∃ m' y ok er, m.act (RQ.next p ⟨at_, n, st, pos, false, v⟩) = (m', ⟨y, ok, er⟩) := ⟨_, _, _, _, rfl⟩
  rw [hact] at hgo ⊢
  dsimp only at hgo ⊢
  by_cases he : er = 0
  · subst he
    rcases (show st = 0 ∨ st = 1 ∨ st = 2 ∨ st = 3 ∨ st = 4 by omega) with rfl | rfl | rfl | rfl | rfl
    · cases p
      · have ha : RQ.after false ⟨at_, n, 0, pos, false, v⟩ y ok 0 = ⟨at_, n, 1, y, false, v⟩ := by simp [RQ.after]
        rw [ha] at hgo ⊢
        refine (ustep_f0 w b rb rs n at_ pos v y ok _ m m' hd hb hm hn hact).mono ?_
        rintro e w' ⟨rfl, o, hb', hm'⟩
        exact ⟨rfl, o, ⟨_, _, hb', hgo, by simp, by simp⟩, hm'⟩
      · have ha : RQ.after true ⟨at_, n, 0, pos, false, v⟩ y ok 0 = ⟨at_, n, 1, y, false, v⟩ := by simp [RQ.after]
        rw [ha] at hgo ⊢
        refine (ustep_t0 w b rb rs n at_ pos v y ok _ m m' hd hb hm hn hact).mono ?_
        rintro e w' ⟨rfl, o, hb', hm'⟩
        exact ⟨rfl, o, ⟨_, _, hb', hgo, by simp, by simp⟩, hm'⟩
    · cases p
      · have haw : RQ.awaited false ⟨at_, n, 1, pos, false, v⟩ = pos := by simp [RQ.awaited]
        by_cases g1 : wrap64 (IntKind.u64.wrap (y - pos)) = 0
        · have hl : lookedTo y pos = 2 := by unfold lookedTo; rw [if_pos g1]
          have ha : RQ.after false ⟨at_, n, 1, pos, false, v⟩ y ok 0 = ⟨at_, n, 2, pos, false, v⟩ := by simp [RQ.after, haw, hl]
          rw [ha] at hgo ⊢
          refine (ustep_f1a w b rb rs n at_ pos v y ok _ m m' (by simpa using g1) hd hb hm hn hact).mono ?_
          rintro e w' ⟨rfl, o, hb', hm'⟩
          exact ⟨rfl, o, ⟨_, _, hb', hgo, by simp, by simp⟩, hm'⟩
        by_cases g2 : wrap64 (IntKind.u64.wrap (y - pos)) < 0
        · have hl : lookedTo y pos = 5 := by unfold lookedTo; rw [if_neg g1, if_pos g2]
          have ha : RQ.after false ⟨at_, n, 1, pos, false, v⟩ y ok 0 = ⟨at_, n, 5, pos, false, v⟩ := by simp [RQ.after, haw, hl]
          rw [ha] at hgo ⊢
          refine (ustep_f1b w b rb rs n at_ pos v y ok _ m m' (by simpa using g1) g2 hd hb hm hn hact).mono ?_
          rintro e w' ⟨rfl, o, hb', hm'⟩
          exact ⟨rfl, o, ⟨_, _, hb', hgo, by simp, by simp⟩, hm'⟩
        · have hl : lookedTo y pos = 0 := by unfold lookedTo; rw [if_neg g1, if_neg g2]
          have ha : RQ.after false ⟨at_, n, 1, pos, false, v⟩ y ok 0 = ⟨at_, n, 0, pos, false, v⟩ := by simp [RQ.after, haw, hl]
          rw [ha] at hgo ⊢
          refine (ustep_f1c w b rb rs n at_ pos v y ok _ m m' (by simpa using g1) g2 hd hb hm hn hact).mono ?_
          rintro e w' ⟨rfl, o, hb', hm'⟩
          exact ⟨rfl, o, ⟨_, _, hb', hgo, by simp, by simp⟩, hm'⟩
      · have haw : RQ.awaited true ⟨at_, n, 1, pos, false, v⟩ = (IntKind.u64.wrap (pos + 1)) := by simp [RQ.awaited]
        by_cases g1 : wrap64 (IntKind.u64.wrap (y - (IntKind.u64.wrap (pos + 1)))) = 0
        · have hl : lookedTo y (IntKind.u64.wrap (pos + 1)) = 2 := by unfold lookedTo; rw [if_pos g1]
          have ha : RQ.after true ⟨at_, n, 1, pos, false, v⟩ y ok 0 = ⟨at_, n, 2, pos, false, v⟩ := by simp [RQ.after, haw, hl]
          rw [ha] at hgo ⊢
          refine (ustep_t1a w b rb rs n at_ pos v y ok _ m m' (by simpa using g1) hd hb hm hn hact).mono ?_
          rintro e w' ⟨rfl, o, hb', hm'⟩
          exact ⟨rfl, o, ⟨_, _, hb', hgo, by simp, by simp⟩, hm'⟩
        by_cases g2 : wrap64 (IntKind.u64.wrap (y - (IntKind.u64.wrap (pos + 1)))) < 0
        · have hl : lookedTo y (IntKind.u64.wrap (pos + 1)) = 5 := by unfold lookedTo; rw [if_neg g1, if_pos g2]
          have ha : RQ.after true ⟨at_, n, 1, pos, false, v⟩ y ok 0 = ⟨at_, n, 5, pos, false, v⟩ := by simp [RQ.after, haw, hl]
          rw [ha] at hgo ⊢
          refine (ustep_t1b w b rb rs n at_ pos v y ok _ m m' (by simpa using g1) g2 hd hb hm hn hact).mono ?_
          rintro e w' ⟨rfl, o, hb', hm'⟩
          exact ⟨rfl, o, ⟨_, _, hb', hgo, by simp, by simp⟩, hm'⟩
        · have hl : lookedTo y (IntKind.u64.wrap (pos + 1)) = 0 := by unfold lookedTo; rw [if_neg g1, if_neg g2]
          have ha : RQ.after true ⟨at_, n, 1, pos, false, v⟩ y ok 0 = ⟨at_, n, 0, pos, false, v⟩ := by simp [RQ.after, haw, hl]
          rw [ha] at hgo ⊢
          refine (ustep_t1c w b rb rs n at_ pos v y ok _ m m' (by simpa using g1) g2 hd hb hm hn hact).mono ?_
          rintro e w' ⟨rfl, o, hb', hm'⟩
          exact ⟨rfl, o, ⟨_, _, hb', hgo, by simp, by simp⟩, hm'⟩
    · cases p <;> cases ok
      · have ha : RQ.after false ⟨at_, n, 2, pos, false, v⟩ y false 0 = ⟨at_, n, 0, pos, false, v⟩ := by simp [RQ.after]
        rw [ha] at hgo ⊢
        refine (ustep_f2n w b rb rs n at_ pos v y _ m m' hd hb hm hn hact).mono ?_
        rintro e w' ⟨rfl, o, hb', hm'⟩
        exact ⟨rfl, o, ⟨_, _, hb', hgo, by simp, by simp⟩, hm'⟩
      · have ha : RQ.after false ⟨at_, n, 2, pos, false, v⟩ y true 0 = ⟨at_, n, 3, pos, false, v⟩ := by simp [RQ.after]
        rw [ha] at hgo ⊢
        refine (ustep_f2y w b rb rs n at_ pos v y _ m m' hd hb hm hn hact).mono ?_
        rintro e w' ⟨rfl, o, hb', hm'⟩
        exact ⟨rfl, o, ⟨_, _, hb', hgo, by simp, by simp⟩, hm'⟩
      · have ha : RQ.after true ⟨at_, n, 2, pos, false, v⟩ y false 0 = ⟨at_, n, 0, pos, false, v⟩ := by simp [RQ.after]
        rw [ha] at hgo ⊢
        refine (ustep_t2n w b rb rs n at_ pos v y _ m m' hd hb hm hn hact).mono ?_
        rintro e w' ⟨rfl, o, hb', hm'⟩
        exact ⟨rfl, o, ⟨_, _, hb', hgo, by simp, by simp⟩, hm'⟩
      · have ha : RQ.after true ⟨at_, n, 2, pos, false, v⟩ y true 0 = ⟨at_, n, 3, pos, false, v⟩ := by simp [RQ.after]
        rw [ha] at hgo ⊢
        refine (ustep_t2y w b rb rs n at_ pos v y _ m m' hd hb hm hn hact).mono ?_
        rintro e w' ⟨rfl, o, hb', hm'⟩
        exact ⟨rfl, o, ⟨_, _, hb', hgo, by simp, by simp⟩, hm'⟩
    · cases p
      · have ha : RQ.after false ⟨at_, n, 3, pos, false, v⟩ y ok 0 = ⟨at_, n, 4, pos, false, v⟩ := by simp [RQ.after]
        rw [ha] at hgo ⊢
        refine (ustep_f3 w b rb rs n at_ pos v y ok _ m m' hd hb hm hn hact).mono ?_
        rintro e w' ⟨rfl, o, hb', hm'⟩
        exact ⟨rfl, o, ⟨_, _, hb', hgo, by simp, by simp⟩, hm'⟩
      · have ha : RQ.after true ⟨at_, n, 3, pos, false, v⟩ y ok 0 = ⟨at_, n, 4, pos, false, y⟩ := by simp [RQ.after]
        rw [ha] at hgo ⊢
        refine (ustep_t3 w b rb rs n at_ pos v y ok _ m m' hd hb hm hn hact).mono ?_
        rintro e w' ⟨rfl, o, hb', hm'⟩
        exact ⟨rfl, o, ⟨_, _, hb', hgo, by simp, by simp⟩, hm'⟩
    · cases p
      · have ha : RQ.after false ⟨at_, n, 4, pos, false, v⟩ y ok 0 = ⟨at_, n, 5, pos, true, v⟩ := by simp [RQ.after]
        rw [ha] at hgo ⊢
        refine (ustep_f4 w b rb rs n at_ pos v y ok _ m m' hd hb hm hn hact).mono ?_
        rintro e w' ⟨rfl, o, hb', hm'⟩
        exact ⟨rfl, o, ⟨_, _, hb', hgo, by simp, by simp⟩, hm'⟩
      · have ha : RQ.after true ⟨at_, n, 4, pos, false, v⟩ y ok 0 = ⟨at_, n, 5, pos, true, v⟩ := by simp [RQ.after]
        rw [ha] at hgo ⊢
        refine (ustep_t4 w b rb rs n at_ pos v y ok _ m m' hd hb hm hn hact).mono ?_
        rintro e w' ⟨rfl, o, hb', hm'⟩
        exact ⟨rfl, o, ⟨_, _, hb', hgo, by simp, by simp⟩, hm'⟩
  · have ha : RQ.after p ⟨at_, n, st, pos, false, v⟩ y ok er = ⟨at_, n, 5, pos, false, v⟩ := by simp [RQ.after, he]
    rw [ha] at hgo ⊢
    cases p
    · refine (ustep_fe w b rb rs n at_ pos v y er ok _ m m' st (by simpa using he) hd hb hm hn hact).mono ?_
      rintro e w' ⟨rfl, o, hb', hm'⟩
      exact ⟨rfl, o, ⟨_, _, hb', hgo, by simp, by simp⟩, hm'⟩
    · refine (ustep_te w b rb rs n at_ pos v y er ok _ m m' st (by simpa using he) hd hb hm hn hact).mono ?_
      rintro e w' ⟨rfl, o, hb', hm'⟩
      exact ⟨rfl, o, ⟨_, _, hb', hgo, by simp, by simp⟩, hm'⟩

end Go.Proofs.Ytoecoijmkjhkgaa
