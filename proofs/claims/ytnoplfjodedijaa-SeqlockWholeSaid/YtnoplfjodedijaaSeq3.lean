/- The seqlock's writer: it is made. -/
import Derived.Test.YtnoplfjodedijaaSeq2
import Derived.Test.YtnoplfjodedijaaRef2
import Derived.Deep.DeepCutAuto
import Derived.Deep.CutBlock
import Derived.Deep.DeepMust
namespace Go.Proofs.Ytnoplfjodedijaa
open Go.RowKit

theorem wnext_any (w : World) (b v cap : Nat) (s : WS) (h : IsW w b v cap s) : Calls Try.prog 40 #[.pointer (some ⟨b, 0, none⟩)] w fun e w' => e = .returned s.next.val ∧ Only [] w w' := by
  obtain ⟨at_, n, turn, was, vals⟩ := s
  have hk := h.ok
  obtain ⟨k1, k2, k3, k4, k5, k6, k7, k8, k9⟩ := hk
  dsimp only at k1 k2 k3 k4 k5 k6 k7 k8 k9
  unfold WS.next
  dsimp only
  by_cases h1 : turn = n + 3
  · rw [if_pos h1]
    subst h1
    exact wnext_done w b v cap n at_ was vals h
  rw [if_neg h1]
  by_cases h2 : turn = 0
  · rw [if_pos h2]
    subst h2
    exact wnext_load w b v cap n at_ was vals h
  rw [if_neg h2]
  by_cases h3 : turn = 1
  · rw [if_pos h3]
    subst h3
    exact wnext_cas w b v cap n at_ was vals h
  rw [if_neg h3]
  by_cases h4 : turn = n + 2
  · rw [if_pos h4]
    subst h4
    exact wnext_end w b v cap n at_ was vals h
  rw [if_neg h4]
  obtain ⟨k, rfl⟩ : ∃ k : Nat, turn = k + 2 := ⟨(turn - 2).toNat, by omega⟩
  have := wnext_mid w b v cap n at_ was vals k (by omega) h
  rw [show (k : Int) + 2 - 2 = k from by omega, Int.toNat_natCast, show at_ + ((k : Int) + 2) - 1 = at_ + k + 1 from by omega]
  exact this

/-- A new writer. -/
def NewW (w : World) (a : Int) (L : List Int) (e : Ending) (w' : World) : Prop :=
  ∃ b v cap, e = .returned (.pointer (some ⟨b, 0, none⟩)) ∧ w.heap.size ≤ b ∧ w.heap.size ≤ v ∧ b ≠ v ∧ Only [] w w' ∧ IsW w' b v cap ⟨a, L.length, 0, 0, L⟩

set_option maxHeartbeats 2000000 in
set_option maxRecDepth 100000 in
theorem write_some (w : World) (a : Int) (A : Option Addr) (cap : Nat) (L : List Int) (hr : Reads w A L) (a0 : 0 ≤ a) (a1 : a ≤ 65000) (n1 : 1 ≤ L.length) (n16 : L.length ≤ 16) :
    Calls Try.prog 33 #[.agg #[.int .i64 a, .int .i64 L.length], .slice A L.length cap] w (NewW w a L) := by
  obtain ⟨i0, hi, hz0, hz1, hz2⟩ := info_parts Try.info22
  have HI0 := Lib.hid (And.intro hi (And.intro hz0 (And.intro hz1 hz2)))
  clear hi hz0 hz1 hz2
  have HB := Lib.hid (Blk.new w 66 #[.int .i64 a, .int .i64 L.length])
  have HO := Lib.hid ((Only.refl [] w).alloc (.cells #[.int .i64 a, .int .i64 L.length] 66))
  rcases hr with rfl | ⟨g0, o0, hg0, rfl, hc⟩
  · simp at n1
  have HC := Lib.hid (And.intro hg0 hc)
  clear hg0 hc
  go_enter Try.func33, Try.ntmps33
  go_wp2_with fail
  refine (right_any _ a L.length).mono ?_
  rintro e w1 ⟨rfl, ho⟩
  rw [decide_eq_true ⟨⟨a0, a1⟩, by omega, by omega⟩]
  have HB := Lib.hid (HB.out.only ho (by simp))
  have HO := Lib.hid (HO.out.trans ho)
  have c1 := HB.out.at 1 (v := .int .i64 L.length) rfl
  clear ho
  go_upto_region 3 with fail
  have HB : Hid (Blk w1.drew w.heap.size 66 #[.int .i64 a, .int .i64 L.length]) := Lib.hid (Blk.drew HB.out)
  have HO : Hid (Only [] w w1.drew) := Lib.hid HO.out.drew
  have hn : ∀ j u, (L.map (Value.int .u64))[j]? = some u → w1.drew.cell? ((⟨g0, o0, none⟩ : Addr).add j) = some u := fun j u hj => by
    have hlt : j < L.length := by
      have := (List.getElem?_eq_some_iff.1 hj).1
      simpa using this
    have e : (⟨g0, o0, none⟩ : Addr).add j = ⟨g0, o0 + j, none⟩ := by
      unfold Addr.add
      split
      · rename_i e; subst e; rfl
      · rfl
    rw [e, HO.out.cell (p := ⟨g0, o0 + j, none⟩) HC.out.1 (by simp), HC.out.2 j hlt]
    simp [hlt] at hj
    rw [← hj]
    simp [nth, List.getD, hlt]
  have HN := Lib.hid hn
  clear hn
  have hw3 : IntKind.i64.wrap ((L.length : Int) + 3) = L.length + 3 := by rw [IntKind.wrap_i64]; omega
  clear c1
  go_region_held3 (fun w' => w'.cell? ⟨w.heap.size, 0, none⟩ = some (.int .i64 a) ∧ w'.cell? ⟨w.heap.size, 1, none⟩ = some (.int .i64 L.length))
    (first | exact ⟨HB.out.at 0 rfl, HB.out.at 1 rfl⟩ | exact ⟨(HB.out.alloc _).at 0 rfl, (HB.out.alloc _).at 1 rfl⟩)
    (first
      | (go_must (refine step_append_lies _ rfl (.const (.slice none 0 0)) (.tmp 20) 52 rfl w.heap.size 22 i0 (.int .u64 0) 1 8 Try.underlying52 HI0.out.1 HI0.out.2.1 HI0.out.2.2.1 HI0.out.2.2.2 rfl (by decide) _ 0 [] rfl (World.ownsRow_nil _ _ _ _) ⟨g0, o0, none⟩ L.length cap (L.map (Value.int .u64)) rfl (by simp) HN.out (oneCell_cells _) (by omega) (by unfold maxLen; omega) (by omega) (by have := HO.out.size; simpa using this) _ rfl ?_)
         intro g cp w7 hown hg _ hlt
         have ho7 : Only [] w1.drew w7 := grown_only hg
         have HB : Hid (Blk w7 w.heap.size 66 #[.int .i64 a, .int .i64 L.length]) := Lib.hid (Blk.only HB.out ho7 (by simp))
         have HO : Hid (Only [] w w7) := Lib.hid (HO.out.trans ho7)
         have HW := Lib.hid hown
         clear ho7 hown hg hlt))
  all_goals
    have hw := HW.out
    rw [Nat.zero_add, List.nil_append] at hw
    obtain ⟨g', c', cur, hv, hg, hb, hcur⟩ := row_cells hw (by omega)
    injection hv with e1 _ e2
    injection e1 with e1
    injection e1 with e1
    subst e1 e2
    have HR := Lib.hid (And.intro hg (And.intro hb hcur))
    clear hw hg hb hcur
    go_wp2
    go_ret
    refine ⟨w7.heap.size, g, cp, rfl, HO.out.size, HR.out.1, fun e => ?_, HO.out.alloc _, ⟨Blk.new w7 _ _, ⟨cur, HR.out.2.1.alloc _, fun k hk => ?_⟩, ⟨a0, a1, n1, n16, by show (0 : Int) ≤ 0; omega, by show (0 : Int) ≤ _; omega, by show (0 : Int) ≤ 0; omega, by show (0 : Int) < _; omega, rfl⟩⟩⟩
    · have := HR.out.2.1.lt
      omega
    · have hk' : k < L.length := hk
      rw [HR.out.2.2 k (by omega)]
      simp [nth, List.getD, hk']

end Go.Proofs.Ytnoplfjodedijaa
