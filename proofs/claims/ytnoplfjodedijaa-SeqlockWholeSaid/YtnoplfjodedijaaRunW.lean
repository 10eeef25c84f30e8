/- The walk of act.Run: acts, one behind the other. -/
import Derived.Test.YtnoplfjodedijaaAct2
import Derived.Test.YtnoplfjodedijaaOwn
namespace Go.Proofs.Ytnoplfjodedijaa
open Go.RowKit

/-- Acts one behind the other. -/
def MS.run (m : MS) (l : List Act') : MS × List Res := l.foldl (fun s x => ((s.1.act x).1, s.2 ++ [(s.1.act x).2])) (m, [])
theorem MS.run_nil (m : MS) : m.run [] = (m, []) := rfl
theorem MS.run_snoc (m : MS) (l : List Act') (x : Act') : m.run (l ++ [x]) = (((m.run l).1.act x).1, (m.run l).2 ++ [((m.run l).1.act x).2]) := by simp [MS.run]
theorem MS.run_len (m : MS) (l : List Act') : (m.run l).2.length = l.length := by
  have h : ∀ (l : List Act') (s : MS × List Res), (l.foldl (fun s x => ((s.1.act x).1, s.2 ++ [(s.1.act x).2])) s).2.length = s.2.length + l.length := fun l => by
    induction l with
    | nil => intro s; simp
    | cons x l ih => intro s; rw [List.foldl_cons, ih]; simp; omega
  simpa [MS.run] using h l (m, [])
theorem MS.act_ex (m : MS) (x : Act') : ∃ m' v ok er, m.act x = (m', ⟨v, ok, er⟩) := ⟨_, _, _, _, rfl⟩

/-- Results as cells. -/
def ress (l : List Res) : List Value := l.flatMap fun r => [.int .u64 r.v, .bool r.ok, .int .i64 r.e]
theorem ress_snoc (l : List Res) (v e : Int) (ok : Bool) : ress (l ++ [⟨v, ok, e⟩]) = ress l ++ [.int .u64 v, .bool ok, .int .i64 e] := by simp [ress]

/-- Where acts lie is none of these blocks. -/
def Off (A : Option Addr) (S : List Nat) : Prop := ∀ g o, A = some ⟨g, o, none⟩ → g ∉ S

theorem ReadsActs.only {w w' : World} {A : Option Addr} {l : List Act'} {S : List Nat} (h : ReadsActs w A l) (o : Only S w w') (hA : Off A S) : ReadsActs w' A l := by
  rcases h with rfl | ⟨g, f, hg, rfl, hc⟩
  · exact .inl rfl
  · refine .inr ⟨g, f, Nat.lt_of_lt_of_le hg o.size, rfl, fun i x hi => ?_⟩
    have he : w'.heap[g]? = w.heap[g]? := o.block g hg (hA g f rfl)
    have hcell : ∀ k, w'.cell? ⟨g, k, none⟩ = w.cell? ⟨g, k, none⟩ := fun k => by simp [World.cell?, he]
    obtain ⟨h0, h1, h2, h3⟩ := hc i x hi
    exact ⟨by rw [hcell]; exact h0, by rw [hcell]; exact h1, by rw [hcell]; exact h2, by rw [hcell]; exact h3⟩

theorem Try.info42 : (Try.prog.info? 42).map (fun i => (i.zero, i.size, i.bytes)) = some (some (.agg #[.int .u64 0, .bool false, .int .i64 0]), 3, 24) := by kernel_rfl

/-- What act.Run answers. -/
def Ran (w : World) (mb ms : Nat) (m : MS) (l : List Act') (e : Ending) (w' : World) : Prop :=
  ∃ v, e = .returned v ∧ Only [mb, ms] w w' ∧ IsMem w' mb ms (m.run l).1 ∧ w'.ownsRow w.heap.size 42 3 v l.length (ress (m.run l).2)

set_option maxHeartbeats 2000000 in
set_option maxRecDepth 100000 in
theorem run_any (w : World) (mb ms : Nat) (m : MS) (A : Option Addr) (cap : Nat) (l : List Act') (hm : IsMem w mb ms m) (hr : ReadsActs w A l) (hA : l ≠ [] → Off A [mb, ms]) (hl : l.length ≤ 1000) :
    Calls Try.prog 23 #[.pointer (some ⟨mb, 0, none⟩), .slice A l.length cap] w (Ran w mb ms m l) := by
  obtain ⟨i0, hi, hz0, hz1, hz2⟩ := info_parts Try.info42
  have HI0 := Lib.hid (And.intro hi (And.intro hz0 (And.intro hz1 hz2)))
  have HM := Lib.hid hm
  have HR := Lib.hid hr
  have HOF := Lib.hid hA
  clear hi hz0 hz1 hz2 hm hr hA
  go_enter Try.func23, Try.ntmps23
  go_wp2_with fail
  go_loopw [5, 10] (fun v i wr => ∃ k : Nat, k ≤ l.length ∧ i = .int .i64 k ∧ Only [mb, ms] w wr ∧ IsMem wr mb ms (m.run (l.take k)).1 ∧ wr.ownsRow w.heap.size 42 3 v k (ress (m.run (l.take k)).2)) (fun _ i _ => l.length - (intOf i).toNat)
  case atStart => exact ⟨0, Nat.zero_le _, rfl, Only.refl _ _, HM.out, World.ownsRow_nil _ _ _ _⟩
  case round =>
    obtain ⟨k, hk, rfl, ho, hm, hown⟩ := hrel
    have HO := Lib.hid ho
    have HM1 := Lib.hid hm
    have HW := Lib.hid hown
    clear ho hm hown
    by_cases hlt : k < l.length
    · have hlt1 : (k : Int) < l.length := by omega
      obtain ⟨g, f, x, rfl, hg, c0, c1, c2, c3, hx⟩ := (HR.out.only HO.out (HOF.out (fun e => by rw [e] at hlt; simp at hlt))).get hlt
      obtain ⟨xk, xi, xa, xb⟩ := x
      obtain ⟨m', v, ok, er, hact⟩ := MS.act_ex (m.run (l.take k)).1 ⟨xk, xi, xa, xb⟩
      have HX := Lib.hid hx
      have HAC := Lib.hid hact
      clear hx hact
      have hwl := HM.out.lt
      go_wp2_with fail
      refine (do_to (HM1.out.only ((Only.refl [] wr).alloc _) (by simp) (by simp)) HAC.out).mono ?_
      rintro e w2 ⟨rfl, ho, hm2⟩
      have HO2 := Lib.hid ((HO.out.alloc _).trans ho)
      have HM2 := Lib.hid hm2
      have HW := Lib.hid ((row_only (HW.out.alloc _) ho (by simp; omega)).alloc (.cells #[.int .u64 v, .bool ok, .int .i64 er] 42))
      clear ho hm2 c0 c1 c2 c3
      go_wp2_with (at_builtin; refine wpList_append_own _ rfl (.tmp 14) (.tmp 18) 39 rfl w.heap.size 42 i0 (.agg #[.int .u64 0, .bool false, .int .i64 0]) 3 24 Try.underlying39 HI0.out.1 HI0.out.2.1 HI0.out.2.2.1 HI0.out.2.2.2 rfl (by decide) _ k _ rfl HW.out ⟨w2.heap.size, 0, none⟩ 1 1 [.int .u64 v, .bool ok, .int .i64 er] rfl rfl ?hn ?h1 ?h63 ?hb ?hbase ?_)
      case hn => intro j u hj; match j, hj with
        | 0, hj => simp at hj; subst hj; simp [Addr.add]
        | 1, hj => simp at hj; subst hj; simp [Addr.add]
        | 2, hj => simp at hj; subst hj; simp [Addr.add]
      case h1 => intro u hu; simp at hu; rcases hu with rfl | rfl | rfl <;> rfl
      case h63 => unfold maxLen; omega
      case hb => omega
      case hbase => have := HO2.out.size; simp; omega
      intro v' w4 hown4 hg4 _
      have HW4 := Lib.hid hown4
      have HG4 := Lib.hid hg4
      clear hown4 hg4
      go_wp2
      have e : l.take (k + 1) = l.take k ++ [⟨xk, xi, xa, xb⟩] := by
        rw [List.take_add_one, HX.out]
        rfl
      have e2 : m.run (l.take (k + 1)) = (m', (m.run (l.take k)).2 ++ [⟨v, ok, er⟩]) := by rw [e, MS.run_snoc, HAC.out]
      refine ⟨⟨k + 1, by omega, rfl, (HO2.out.alloc _).grow1 HW.out HG4.out, ?_, ?_⟩, by simp [intOf]; omega⟩
      · rw [e2]
        exact (HM2.out.only ((Only.refl [] _).alloc _) (by simp) (by simp)).only (grown_only HG4.out) (row_far HW.out hwl.1) (row_far HW.out hwl.2)
      · rw [e2, ress_snoc]
        exact HW4.out
    · have hlt1 : ¬ (k : Int) < l.length := by omega
      have hk' : k = l.length := by omega
      subst hk'
      go_wp2
      go_ret
      have hm := HM1.out
      have hw := HW.out
      rw [List.take_length] at hm hw
      exact ⟨_, rfl, HO.out, hm, hw⟩

theorem MS.act_keeps (m : MS) (x : Act') : (m.act x).1.L.length = m.L.length := by
  unfold MS.act MS.load MS.store MS.cas MS.add
  repeat' split
  all_goals simp
theorem MS.run_keeps (m : MS) (l : List Act') : (m.run l).1.L.length = m.L.length := by
  have h : ∀ (l : List Act') (s : MS × List Res), (l.foldl (fun s x => ((s.1.act x).1, s.2 ++ [(s.1.act x).2])) s).1.L.length = s.1.L.length := fun l => by
    induction l with
    | nil => intro s; rfl
    | cons x l ih => intro s; rw [List.foldl_cons, ih]; exact MS.act_keeps _ _
  exact h l (m, [])

/-- Acts that came in lie in none of the blocks that were made since. -/
theorem off_of {w : World} {A : Option Addr} {l : List Act'} {S : List Nat} (h : ReadsActs w A l) (hS : ∀ x ∈ S, w.heap.size ≤ x) : l ≠ [] → Off A S := fun hl g o e hm => by
  rcases h with rfl | ⟨g', o', hg, rfl, _⟩
  · exact hl rfl
  · injection e with e
    injection e with e1
    have := hS g hm
    omega

end Go.Proofs.Ytnoplfjodedijaa
