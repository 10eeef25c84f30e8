/- The walk of law DequeEnds. -/
import Derived.Test.YtoecoijmkjhkgaaDqP
import Derived.Test.YtoecoijmkjhkgaaView
import Derived.Test.YtoecoijmkjhkgaaBytes
namespace Go.Proofs.Ytoecoijmkjhkgaa
open Go.RowKit

/-- A deque at rest, and a slice of what is in it; all of it lies above w. -/
structure De (w wr : World) (mb ms lb z n h : Nat) (v : Value) (vs : List Int) : Prop where
  dk : ∃ m, Dk w wr mb ms lb 0 n m ∧ DqAt m.L 0 n h vs
  lt : mb < z ∧ ms < z ∧ lb < z ∧ w.heap.size ≤ z ∧ z ≤ wr.heap.size
  view : View wr z v vs

section
variable {w wr w1 w2 : World} {mb ms lb z n h h' b kb : Nat} {v : Value} {vs vs' : List Int}
theorem De.out (r : De w wr mb ms lb z n h v vs) : Only [] w wr := by
  obtain ⟨⟨m, h1, _⟩, _⟩ := r
  exact h1.out
theorem De.lock (r : De w wr mb ms lb z n h v vs) : Blk wr lb 59 #[.int .i64 0, .int .i64 n] := by
  obtain ⟨⟨m, h1, _⟩, _⟩ := r
  exact h1.lock

/-- Between a run and what is done to the slice. -/
def Dg (w : World) (mb ms lb z n h : Nat) (vs : List Int) (v : Value) (us : List Int) (wr : World) : Prop :=
  (∃ m, Dk w wr mb ms lb 0 n m ∧ DqAt m.L 0 n h vs) ∧ (mb < z ∧ ms < z ∧ lb < z ∧ w.heap.size ≤ z ∧ z ≤ wr.heap.size) ∧ View wr z v us

/-- A task that begins, and runs alone. -/
theorem De.run {s : DQ} {t : Value} (r : De w wr mb ms lb z n h v vs) (hb : wr.heap.size ≤ b) (hk : wr.heap.size ≤ kb) (o : Only [] wr w1) (hd : IsD w1 b kb s) (hs : ∀ m : MS, DqAt m.L 0 n h vs → DEnd7 s m t 0 n h' vs') :
    Calls Try.prog 29 #[.pointer (some ⟨mb, 0, none⟩), .pointer (some ⟨b, 0, none⟩)] w1 fun e w2 => e = .returned t ∧ Dg w mb ms lb z n h' vs' v vs w2 ∧ ∃ T : List Nat, Only T wr w2 ∧ ∀ x ∈ T, x = mb ∨ x = ms := by
  obtain ⟨⟨m, h1, h2⟩, hlt, hv⟩ := r
  obtain ⟨s', m', g1, g2, g3⟩ := hs m h2
  refine (drun_any w1 b kb mb ms s m hd (h1.mem.dsame o) h1.rng).mono ?_
  rintro e w2 hr
  have hr2 := hr
  rw [g1] at hr hr2
  obtain ⟨rfl, o2, _⟩ := hr2
  have o3 : Only [mb, ms] wr w2 := (o.sub (by simp)).then o2 (by simp; omega)
  exact ⟨by rw [g2], ⟨⟨m', h1.ran hb hk o hr, g3⟩, ⟨hlt.1, hlt.2.1, hlt.2.2.1, hlt.2.2.2.1, Nat.le_trans hlt.2.2.2.2 o3.size⟩, hv.only o3 (by simp; omega)⟩, [mb, ms], o3, by simp⟩
end

set_option maxHeartbeats 8000000 in
set_option maxRecDepth 100000 in
theorem dequeends_walk (w : World) (a : Int) (A : Option Addr) (l : List Int) (cap : Nat) (a0 : 0 ≤ a) (a1 : a ≤ 255) (hr : ReadsB w A l) (hby : ∀ i, i < l.length → 0 ≤ nth l i ∧ nth l i ≤ 255) :
    Calls Try.prog 8 #[.int .u8 a, .slice A l.length cap] w fun e w' => e = .returned (.bool true) ∧ Only [] w w' := by
  have HRL := Lib.hid hr
  have HBY := Lib.hid hby
  clear hr hby
  obtain ⟨n, hn⟩ : ∃ n : Nat, 1 + a % 64 = (n : Int) := ⟨(1 + a % 64).toNat, by omega⟩
  have n1 : 1 ≤ n := by omega
  have n64 : n ≤ 64 := by omega
  have HR := Lib.hid (show dequeRight 0 n from ⟨⟨by decide, by decide⟩, by omega, by omega⟩)
  go_enter Try.func8, Try.ntmps8
  go_wp2_with fail
  refine (new_any _ 80 (by omega) (by omega)).mono ?_
  rintro e w1 ⟨mb, ms, rfl, hb, hs, ho, hm⟩
  have HE : Hid (De w (w1.alloc (.cells #[.int .i64 0, .int .i64 n] 59)) mb ms w1.heap.size (w1.heap.size + 1) n 0 (.slice none 0 0) []) := Lib.hid (by
    have h1 := hm.lt
    have h2 := ho.size
    have hz0 : ∀ (k i : Nat), nth (List.replicate k 0) i = 0 := fun k i => by by_cases h : i < k <;> simp [nth, h]
    have hz : ∀ i, nth (MS.new 80).L i = 0 := fun i => hz0 80 i
    exact ⟨⟨MS.new 80, ⟨ho.alloc _, ⟨hb, hs⟩, Blk.new _ _ _, hm.dsame ((Only.refl [] w1).alloc _), dnew_rng 80⟩, by simp [MS.new]; omega, n1, by simp, by omega, by rw [hz]; rfl, by rw [hz]; rfl, fun i hi => by simp at hi⟩, ⟨by omega, by omega, by omega, by omega, by simp⟩, .nil _ _⟩)
  clear hb hs ho hm
  by_cases hbig : 200 < l.length
  · have hbi : (200 : Int) < l.length := by omega
    go_wp2_with fail
    refine (known07 _).mono ?_
    rintro e w5 ⟨rfl, ho⟩
    have HO := Lib.hid (HE.out.out.trans ho)
    clear ho
    go_wp2_with fail
    go_ret
    exact ⟨rfl, HO.out⟩
  have hbi : ¬ (200 : Int) < l.length := by omega
  have hbn : l.length ≤ 200 := by omega
  clear hbig
  go_wp2_with fail
  go_loopw [9, 10] (fun v i wr => ∃ (t h : Nat) (vs : List Int), t ≤ l.length ∧ h ≤ t ∧ i = .int .i64 t ∧ De w wr mb ms w1.heap.size (w1.heap.size + 1) n h v vs) (fun _ i _ => l.length - (intOf i).toNat)
  case atStart => exact ⟨0, 0, [], by omega, by omega, rfl, HE.out⟩
  case round =>
    clear HE
    obtain ⟨t, h, vs, ht, hh, rfl, hd⟩ := hrel
    have HE := Lib.hid hd
    obtain ⟨B, bc, hv⟩ := hd.view.form
    have hvn : vs.length ≤ n := by obtain ⟨⟨m, _, r⟩, _⟩ := hd; exact r.le
    have l0 := hd.lock.at 0 (v := .int .i64 0) rfl
    have l1 := hd.lock.at 1 (v := .int .i64 n) rfl
    clear hd
    subst hv
    by_cases hlt : t < l.length
    · have hlti : (t : Int) < l.length := by omega
      obtain ⟨go, o, hgo, rfl, hc⟩ := HRL.out.at hlt
      have d1 := (HE.out.out.cell (p := ⟨go, o + t, none⟩) hgo (by simp)).trans (hc t hlt)
      have hb := HBY.out t hlt
      have p0 : 0 ≤ nth l t := hb.1
      have p1 : nth l t ≤ 255 := hb.2
      clear hb hc hgo
      by_cases h0 : nth l t % 4 = 0
      · have hp0 : (nth l t % 4 == 0) = true := by simpa using h0
        clear h0
        rcases List.eq_nil_or_concat vs with hvs | ⟨ws, x, hvs⟩
        · subst hvs
          have HE : Hid (De w wr mb ms w1.heap.size (w1.heap.size + 1) n h (.slice B 0 bc) []) := Lib.hid HE.out
          go_wp2_with fail
          refine (dpop_some _ 0 n HR.out).mono ?_
          rintro e w3 ⟨b, kb, rfl, hb, hk, ho, hd⟩
          have HN := Lib.hid (And.intro hb (And.intro hk (And.intro ho hd)))
          clear hb hk ho hd d1 l0 l1
          go_wp2_with fail
          refine (HE.out.run HN.out.1 HN.out.2.1 HN.out.2.2.1 HN.out.2.2.2 (fun m r => dq_pop0 r)).mono ?_
          rintro e w4 ⟨rfl, hg, T, oT, hT⟩
          have HG := Lib.hid hg
          clear hg oT hT HN
          go_wp2_with fail
          exact ⟨⟨t + 1, h, [], by omega, by omega, by go_num, HG.out.1, HG.out.2.1, HG.out.2.2⟩, by simp [intOf]; omega⟩
        · rw [List.concat_eq_append] at hvs
          subst hvs
          have hlen : (ws ++ [x]).length = ws.length + 1 := by simp
          have HE : Hid (De w wr mb ms w1.heap.size (w1.heap.size + 1) n h (.slice B (ws.length + 1) bc) (ws ++ [x])) := Lib.hid (by have := HE.out; rwa [hlen] at this)
          obtain ⟨g, off, bc', e, hbc, hglt, hgc⟩ := HE.out.view.cells (by simp)
          rw [hlen] at e hbc
          simp only [Value.slice.injEq] at e
          obtain ⟨rfl, _, rfl⟩ := e
          have HGC := Lib.hid (And.intro hglt (show wr.cell? ⟨g, off + ws.length, none⟩ = some (.int .u64 x) from by
            have := hgc ws.length (by simp)
            rwa [show nth (ws ++ [x]) ws.length = x by simp [nth]] at this))
          have HBC := Lib.hid hbc
          have HGZ := Lib.hid (HE.out.view.lo g rfl)
          have hwb : (ws.length : Int) ≤ 64 := by omega
          rw [hlen] at *
          clear hbc hglt hgc hvn hlen
          rcases Nat.eq_zero_or_pos ws.length with hw | hw
          · obtain rfl : ws = [] := List.eq_nil_of_length_eq_zero hw
            clear hw
            go_wp2_with fail
            refine (dpop_some _ 0 n HR.out).mono ?_
            rintro e w3 ⟨b, kb, rfl, hb, hk, ho, hd⟩
            have HN := Lib.hid (And.intro hb (And.intro hk (And.intro ho hd)))
            clear hb hk ho hd d1 l0 l1
            go_wp2_with fail
            refine (HE.out.run HN.out.1 HN.out.2.1 HN.out.2.2.1 HN.out.2.2.2 (fun m r => dq_pop1 r (by omega))).mono ?_
            rintro e w4 ⟨rfl, hg, T, oT, hT⟩
            have HG := Lib.hid hg
            have g0 : w4.cell? ⟨g, off + ([] : List Int).length, none⟩ = some (.int .u64 x) := (oT.cell (p := ⟨g, off + ([] : List Int).length, none⟩) HGC.out.1 (fun hx => by have h1 := hT g hx; have h2 := HGZ.out; have h3 := HE.out.lt; omega)).trans HGC.out.2
            have g1 : w4.cell? ⟨g, off, none⟩ = some (.int .u64 x) := by simpa using g0
            have hk0 : (0 : Int) < ((([] : List Int).length + 1 : Nat) : Int) := by omega
            have hk1 : (((([] : List Int).length + 1 : Nat) : Int) - 1) = (([] : List Int).length : Int) := by omega
            have hk2 : (0 : Int) ≤ (([] : List Int).length : Int) := by omega
            have HBC2 := HBC.out
            clear hg oT hT HN
            go_wp2_with fail
            refine ⟨⟨t + 1, h + 1, [], by omega, by omega, by go_num, HG.out.1, HG.out.2.1, ?_⟩, by simp [intOf]; omega⟩
            have HV := HG.out.2.2
            have := View.take (k := ([] : List Int).length) (xs := [] ++ [x]) (g := g) (off := off) (cap := bc) (lo := w1.heap.size + 1) (w := w4) (by simpa using HV) (by simp)
            simpa using this
          · go_wp2_with fail
            refine (dpop_some _ 0 n HR.out).mono ?_
            rintro e w3 ⟨b, kb, rfl, hb, hk, ho, hd⟩
            have HN := Lib.hid (And.intro hb (And.intro hk (And.intro ho hd)))
            clear hb hk ho hd d1 l0 l1
            go_wp2_with fail
            refine (HE.out.run HN.out.1 HN.out.2.1 HN.out.2.2.1 HN.out.2.2.2 (fun m r => dq_pop2 r hw)).mono ?_
            rintro e w4 ⟨rfl, hg, T, oT, hT⟩
            have HG := Lib.hid hg
            have g0 : w4.cell? ⟨g, off + ws.length, none⟩ = some (.int .u64 x) := (oT.cell (p := ⟨g, off + ws.length, none⟩) HGC.out.1 (fun hx => by have h1 := hT g hx; have h2 := HGZ.out; have h3 := HE.out.lt; omega)).trans HGC.out.2
            have hk0 : (0 : Int) < ((ws.length + 1 : Nat) : Int) := by omega
            have hk1 : (((ws.length + 1 : Nat) : Int) - 1) = (ws.length : Int) := by omega
            have hk2 : (0 : Int) ≤ (ws.length : Int) := by omega
            have HBC2 := HBC.out
            clear hg oT hT HN
            go_wp2_with fail
            refine ⟨⟨t + 1, h, ws, by omega, by omega, by go_num, HG.out.1, HG.out.2.1, ?_⟩, by simp [intOf]; omega⟩
            have HV := HG.out.2.2
            have := View.take (k := ws.length) (xs := ws ++ [x]) (g := g) (off := off) (cap := bc) (lo := w1.heap.size + 1) (w := w4) (by simpa using HV) (by simp)
            simpa using this
      by_cases h1 : nth l t % 4 = 1
      · have hp0 : (nth l t % 4 == 0) = false := by simpa using h0
        have hp1 : (nth l t % 4 == 1) = true := by simpa using h1
        clear h0 h1
        rcases vs with _ | ⟨x, vs⟩
        · have HE : Hid (De w wr mb ms w1.heap.size (w1.heap.size + 1) n h (.slice B 0 bc) []) := Lib.hid HE.out
          go_wp2_with fail
          refine (dsteal_some _ 0 n HR.out).mono ?_
          rintro e w3 ⟨b, kb, rfl, hb, hk, ho, hd⟩
          have HN := Lib.hid (And.intro hb (And.intro hk (And.intro ho hd)))
          clear hb hk ho hd d1 l0 l1
          go_wp2_with fail
          refine (HE.out.run HN.out.1 HN.out.2.1 HN.out.2.2.1 HN.out.2.2.2 (fun m r => dq_steal0 r)).mono ?_
          rintro e w4 ⟨rfl, hg, T, oT, hT⟩
          have HG := Lib.hid hg
          clear hg oT hT HN
          go_wp2_with fail
          exact ⟨⟨t + 1, h, [], by omega, by omega, by go_num, HG.out.1, HG.out.2.1, HG.out.2.2⟩, by simp [intOf]; omega⟩
        · have HE : Hid (De w wr mb ms w1.heap.size (w1.heap.size + 1) n h (.slice B (vs.length + 1) bc) (x :: vs)) := Lib.hid HE.out
          obtain ⟨g, off, bc', e, hbc, hglt, hgc⟩ := HE.out.view.cells (by simp)
          simp only [List.length_cons, Value.slice.injEq] at e
          obtain ⟨rfl, _, rfl⟩ := e
          have HGC := Lib.hid (And.intro hglt (show wr.cell? ⟨g, off, none⟩ = some (.int .u64 x) from hgc 0 (by simp)))
          have HBC := Lib.hid (show vs.length + 1 ≤ bc by simpa using hbc)
          have HGZ := Lib.hid (HE.out.view.lo g rfl)
          have hlen0 : (0 : Int) < ((vs.length + 1 : Nat) : Int) := by omega
          have hlen1 : (1 : Int) ≤ ((vs.length + 1 : Nat) : Int) := by omega
          clear hbc hglt hgc hvn
          go_wp2_with fail
          refine (dsteal_some _ 0 n HR.out).mono ?_
          rintro e w3 ⟨b, kb, rfl, hb, hk, ho, hd⟩
          have HN := Lib.hid (And.intro hb (And.intro hk (And.intro ho hd)))
          clear hb hk ho hd d1 l0 l1
          go_wp2_with fail
          refine (HE.out.run HN.out.1 HN.out.2.1 HN.out.2.2.1 HN.out.2.2.2 (fun m r => dq_steal r (by omega))).mono ?_
          rintro e w4 ⟨rfl, hg, T, oT, hT⟩
          have HG := Lib.hid hg
          have g0 : w4.cell? ⟨g, off, none⟩ = some (.int .u64 x) := (oT.cell (p := ⟨g, off, none⟩) HGC.out.1 (fun hx => by have h1 := hT g hx; have h2 := HGZ.out; have h3 := HE.out.lt; omega)).trans HGC.out.2
          clear hg oT hT HN
          by_cases hb1 : bc = 1
          · have HV := Lib.hid (HG.out.2.2.tail.1 hb1)
            subst hb1
            go_wp2_with fail
            refine ⟨⟨t + 1, h + 1, vs, by omega, by omega, by go_num, HG.out.1, HG.out.2.1, ?_⟩, by simp [intOf]; omega⟩
            simpa using HV.out
          · have HV := Lib.hid (HG.out.2.2.tail.2 hb1)
            have HBC2 := Lib.hid (show 2 ≤ bc by have := HBC.out; omega)
            go_wp2_with fail
            refine ⟨⟨t + 1, h + 1, vs, by omega, by omega, by go_num, HG.out.1, HG.out.2.1, ?_⟩, by simp [intOf]; omega⟩
            simpa using HV.out
      · have hp0 : (nth l t % 4 == 0) = false := by simpa using h0
        have hp1 : (nth l t % 4 == 1) = false := by simpa using h1
        clear h0 h1
        by_cases hfull : vs.length < n
        · have hfi : (vs.length : Int) < n := by omega
          go_wp2_with fail
          refine (dpush_some _ 0 (t : Int) n HR.out (by omega) (by omega)).mono ?_
          rintro e w3 ⟨b, kb, rfl, hb, hk, ho, hd⟩
          have HN := Lib.hid (And.intro hb (And.intro hk (And.intro ho hd)))
          clear hb hk ho hd d1 l0 l1
          go_wp2_with fail
          refine (HE.out.run HN.out.1 HN.out.2.1 HN.out.2.2.1 HN.out.2.2.2 (fun m r => dq_push (t : Int) r hfull)).mono ?_
          rintro e w4 ⟨rfl, hg, T, oT, hT⟩
          have HG := Lib.hid hg
          have HV := Lib.hid (hg.2.2.only ((Only.refl [] w4).alloc (.cells #[.int .u64 t] 38)) (by simp))
          have HC := Lib.hid ((Blk.new w4 38 #[.int .u64 t]).at 0 (v := .int .u64 t) rfl)
          clear hg oT hT HN
          go_wp2_with (at_builtin; refine wpList_append_view rfl (.tmp 76) (.tmp 79) rfl _ (w1.heap.size + 1) _ vs rfl HV.out ⟨w4.heap.size, 0, none⟩ 1 (t : Int) rfl HC.out (by omega) (by have := HG.out.2.1; simp; omega) ?_)
          intro v' w5 hA
          have HE2 : Hid (De w w5 mb ms w1.heap.size (w1.heap.size + 1) n h v' (vs ++ [(t : Int)])) := Lib.hid (by
            obtain ⟨⟨m, q1, q2⟩, hlt2, _⟩ := HG.out
            have hlo : ∀ x ∈ (Value.slice B vs.length bc).ownBlock.toList, w1.heap.size + 1 ≤ x := fun x hx => HV.out.lo x (by simpa using hx)
            have nT : ∀ x, x < w1.heap.size + 1 → x ∉ (Value.slice B vs.length bc).ownBlock.toList := fun x hx hh => by have := hlo x hh; omega
            have o2 : Only [] w4 (w4.alloc (.cells #[.int .u64 t] 38)) := (Only.refl [] w4).alloc _
            have q1' := q1.quiet o2
            have hsz := hA.2.size
            simp at hsz
            exact ⟨⟨m, ⟨q1'.out.then hA.2 (fun x hx => .inr (by have := hlo x hx; omega)), q1'.lo, q1'.lock.only hA.2 (nT _ hlt2.2.2.1), q1'.mem.only hA.2 (nT _ hlt2.1) (nT _ hlt2.2.1), q1'.rng⟩, q2⟩, ⟨hlt2.1, hlt2.2.1, hlt2.2.2.1, hlt2.2.2.2.1, by omega⟩, hA.1⟩)
          clear hA
          go_wp2_with fail
          exact ⟨⟨t + 1, h, _, by omega, by omega, by go_num, HE2.out⟩, by simp [intOf]; omega⟩
        · have hfi : ¬ (vs.length : Int) < n := by omega
          have HEN := Lib.hid (show vs.length = n by omega)
          go_wp2_with fail
          refine (dpush_some _ 0 (t : Int) n HR.out (by omega) (by omega)).mono ?_
          rintro e w3 ⟨b, kb, rfl, hb, hk, ho, hd⟩
          have HN := Lib.hid (And.intro hb (And.intro hk (And.intro ho hd)))
          clear hb hk ho hd d1 l0 l1
          go_wp2_with fail
          refine (HE.out.run HN.out.1 HN.out.2.1 HN.out.2.2.1 HN.out.2.2.2 (fun m r => dq_full (t : Int) r HEN.out)).mono ?_
          rintro e w4 ⟨rfl, hg, T, oT, hT⟩
          have HG := Lib.hid hg
          clear hg oT hT HN
          go_wp2_with fail
          exact ⟨⟨t + 1, h, vs, by omega, by omega, by go_num, HG.out.1, HG.out.2.1, HG.out.2.2⟩, by simp [intOf]; omega⟩
    · have hlti : ¬ (t : Int) < l.length := by omega
      go_wp2_with fail
      refine (known07 _).mono ?_
      rintro e w5 ⟨rfl, ho⟩
      have HO := Lib.hid (HE.out.out.trans ho)
      clear ho
      go_wp2_with fail
      go_ret
      exact ⟨rfl, HO.out⟩

end Go.Proofs.Ytoecoijmkjhkgaa
