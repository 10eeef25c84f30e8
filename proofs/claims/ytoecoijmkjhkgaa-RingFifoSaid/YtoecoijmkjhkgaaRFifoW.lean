/- The walk of law RingFifo. -/
import Derived.Test.YtoecoijmkjhkgaaKnown6W
import Derived.Test.YtoecoijmkjhkgaaView
import Derived.Test.YtoecoijmkjhkgaaShell4
import Derived.Deep.RegionWith
import Derived.Deep.DeepCutAuto
import Derived.Deep.CutBlock
namespace Go.Proofs.Ytoecoijmkjhkgaa
open Go.RowKit

/-- A ring, and a slice of what is in it; all of it lies above w. -/
structure Ff (w wr : World) (mb ms lb z : Nat) (n h : Nat) (v : Value) (vs : List Int) : Prop where
  rg : Rg w wr mb ms lb 200 0 n h vs
  lt : mb < z ∧ ms < z ∧ lb < z ∧ w.heap.size ≤ z ∧ z ≤ wr.heap.size
  view : View wr z v vs
  rngs : ∀ i, i < vs.length → 0 ≤ nth vs i ∧ nth vs i < 18446744073709551616

section
variable {w wr w' : World} {mb ms lb z n h h' : Nat} {v : Value} {vs vs' : List Int}
theorem Ff.quiet (r : Ff w wr mb ms lb z n h v vs) (o : Only [] wr w') : Ff w w' mb ms lb z n h v vs :=
  ⟨r.rg.quiet o, ⟨r.lt.1, r.lt.2.1, r.lt.2.2.1, r.lt.2.2.2.1, Nat.le_trans r.lt.2.2.2.2 o.size⟩, r.view.only o (by simp), r.rngs⟩
/-- The ring went on; the slice is still the old one. -/
structure Fg (w wr : World) (mb ms lb z : Nat) (n h : Nat) (vs : List Int) (v : Value) (us : List Int) : Prop where
  rg : Rg w wr mb ms lb 200 0 n h vs
  lt : mb < z ∧ ms < z ∧ lb < z ∧ w.heap.size ≤ z ∧ z ≤ wr.heap.size
  view : View wr z v us
theorem Ff.go (r : Ff w wr mb ms lb z n h v vs) (o : Only [mb, ms] wr w') (r' : RgAt w' mb ms 200 0 n h' vs') : Fg w w' mb ms lb z n h' vs' v vs :=
  ⟨r.rg.go o r', ⟨r.lt.1, r.lt.2.1, r.lt.2.2.1, r.lt.2.2.2.1, Nat.le_trans r.lt.2.2.2.2 o.size⟩, r.view.only o (by have := r.lt; simp; omega)⟩
theorem Rg.far {len a : Nat} {T : List Nat} (r : Rg w wr mb ms lb len a n h vs) (o : Only T wr w') (hT : ∀ x ∈ T, z ≤ x) (hz : mb < z ∧ ms < z ∧ lb < z ∧ w.heap.size ≤ z) : Rg w w' mb ms lb len a n h vs := by
  obtain ⟨m, h1, h2, h3, h4⟩ := r.ring
  have nT : ∀ x, x < z → x ∉ T := fun x hx hh => by have := hT x hh; omega
  exact ⟨r.out.then o (fun x hx => .inr (by have := hT x hx; omega)), r.lo, r.lock.only o (nT _ hz.2.2.1), ⟨m, h1.only o (nT _ hz.1) (nT _ hz.2.1), h2, h3, h4⟩⟩
end

set_option maxHeartbeats 4000000 in
set_option maxRecDepth 100000 in
theorem ringfifo_walk (w : World) (a : Int) (A : Option Addr) (l : List Int) (cap : Nat) (A2 : Option Addr) (ts : List Bool) (cap2 : Nat) (a0 : 0 ≤ a) (a1 : a ≤ 255) (hr : Reads w A l) (hl : ∀ x ∈ l, 0 ≤ x ∧ x < 18446744073709551616) (ht : ReadsT w A2 ts) :
    Calls Try.prog 4 #[.int .u8 a, .slice A l.length cap, .slice A2 ts.length cap2] w fun e w' => e = .returned (.bool true) ∧ Only [] w w' := by
  have HRL := Lib.hid hr
  have HRT := Lib.hid ht
  have HLV : Hid (∀ i, i < l.length → 0 ≤ nth l i ∧ nth l i < 18446744073709551616) := Lib.hid fun i hi => by
    have : nth l i = l[i] := by simp [nth, hi]
    rw [this]
    exact hl _ (List.getElem_mem hi)
  clear hr hl ht
  obtain ⟨n, hn⟩ : ∃ n : Nat, 2 + a % 63 = (n : Int) := ⟨(2 + a % 63).toNat, by omega⟩
  have n2 : 2 ≤ n := by omega
  have n64 : n ≤ 64 := by omega
  go_enter Try.func4, Try.ntmps4
  go_wp2_with fail
  refine (new_any _ 200 (by omega) (by omega)).mono ?_
  rintro e w1 ⟨mb, ms, rfl, hb, hs, ho, hm⟩
  have HB := Lib.hid (And.intro hb hs)
  have HL := Lib.hid (Blk.new w1 32 #[.int .i64 0, .int .i64 n])
  have HM := Lib.hid (hm.same' ((Only.refl [] w1).alloc (.cells #[.int .i64 0, .int .i64 n] 32)))
  have HO := Lib.hid (ho.alloc (.cells #[.int .i64 0, .int .i64 n] 32))
  clear hb hs ho hm
  go_wp2_with fail
  refine (rg_init (a := 0) (n := n) HM.out (new_rng 200) (by simp [MS.new]; omega) (by omega) (by omega) (by omega)).mono ?_
  rintro e w2 ⟨rfl, ho, hr⟩
  have HR : Hid (Rg w w2 mb ms w1.heap.size 200 0 n 0 []) := Lib.hid ⟨HO.out.then ho (fun x hx => by have := HB.out; simp at hx; omega), HB.out, HL.out.only ho (by have := HL.out.ne HM.out.obj (by decide); have := HL.out.ne HM.out.row (by decide); simp; omega), hr⟩
  have HF : Hid (Ff w w2 mb ms w1.heap.size w2.heap.size n 0 (.slice none 0 0) []) := Lib.hid (by
    have h1 := HM.out.lt
    have h2 := ho.size
    have h3 := HL.out.lt
    have h4 := HO.out.size
    exact ⟨HR.out, ⟨by omega, by omega, by omega, by omega, Nat.le_refl _⟩, .nil _ _, fun i hi => by simp at hi⟩)
  clear ho hr HM HO HL
  by_cases hbig : 100 < l.length ∨ 300 < ts.length
  · have hcase : (¬ l.length ≤ 100) ∨ (l.length ≤ 100 ∧ 300 < ts.length) := by omega
    clear hbig
    rcases hcase with h1 | ⟨h1, h2⟩
    · have h1i : (100 : Int) < l.length := by omega
      go_wp2_with fail
      refine (known06 _).mono ?_
      rintro e w5 ⟨rfl, ho⟩
      have HO := Lib.hid (HR.out.out.trans ho)
      clear ho
      go_wp2_with fail
      go_ret
      exact ⟨rfl, HO.out⟩
    · have h1i : ¬ (100 : Int) < l.length := by omega
      have h2i : (300 : Int) < ts.length := by omega
      go_wp2_with fail
      refine (known06 _).mono ?_
      rintro e w5 ⟨rfl, ho⟩
      have HO := Lib.hid (HR.out.out.trans ho)
      clear ho
      go_wp2_with fail
      go_ret
      exact ⟨rfl, HO.out⟩
  have h1i : ¬ (100 : Int) < l.length := by omega
  have h2i : ¬ (300 : Int) < ts.length := by omega
  have h1n : l.length ≤ 100 := by omega
  have h2n : ts.length ≤ 300 := by omega
  clear hbig HR
  go_wp2_with fail
  go_loopw [11, 12, 13] (fun v k i wr => ∃ (t kk h : Nat) (vs : List Int), t ≤ ts.length ∧ kk ≤ l.length ∧ h ≤ t ∧ i = .int .i64 t ∧ k = .int .i64 kk ∧ Ff w wr mb ms w1.heap.size w2.heap.size n h v vs) (fun _ _ i _ => ts.length - (intOf i).toNat)
  case atStart => exact ⟨0, 0, 0, [], by omega, by omega, by omega, rfl, rfl, HF.out⟩
  case round =>
    clear HF
    obtain ⟨t, kk, h, vs, ht, hkk, hh, rfl, rfl, hf⟩ := hrel
    have HF := Lib.hid hf
    obtain ⟨B, bc, hv⟩ := hf.view.form
    have hvn : vs.length ≤ n := by obtain ⟨m, _, _, r, _⟩ := hf.rg.ring; exact r.le
    have l0 := hf.rg.lock.at 0 (v := .int .i64 0) rfl
    have l1 := hf.rg.lock.at 1 (v := .int .i64 n) rfl
    clear hf
    subst hv
    by_cases hlt : t < ts.length
    · have hlti : (t : Int) < ts.length := by omega
      obtain ⟨gt, ot, hgt, rfl, hct⟩ := HRT.out.at hlt
      have d1 := (HF.out.rg.out.cell (p := ⟨gt, ot + t, none⟩) hgt (by simp)).trans (hct t hlt)
      obtain ⟨q, hq⟩ : ∃ q, nthb ts t = q := ⟨_, rfl⟩
      rw [hq] at d1
      clear hgt hct hq
      by_cases hpush : q = true ∧ kk < l.length
      · obtain ⟨rfl, hkl⟩ := hpush
        have hkli : (kk : Int) < l.length := by omega
        obtain ⟨gl, ol, hgl, rfl, hcl⟩ : ∃ g o, g < w.heap.size ∧ A = some ⟨g, o, none⟩ ∧ ∀ i, i < l.length → w.cell? ⟨g, o + i, none⟩ = some (.int .u64 (nth l i)) := by
          rcases HRL.out with e | h
          · rw [e] at hkl; simp at hkl
          · exact h
        have e1 := (HF.out.rg.out.cell (p := ⟨gl, ol + kk, none⟩) hgl (by simp)).trans (hcl kk hkl)
        have HGL := Lib.hid (And.intro hgl (hcl kk hkl))
        have HLK := Lib.hid (HLV.out kk hkl)
        clear hgl hcl
        by_cases hfull : vs.length < n
        · have hfi : (vs.length : Int) < n := by omega
          go_wp2_with fail
          go_region_with (go_at_call 24
                          refine (rg_push (a := 0) (n := n) (vs := vs) (nth l kk) (by first | exact HF.out.rg.ring | exact (HF.out.rg.quiet (Only.refl [] _).drew).ring) (by omega) n64 HLK.out.1 HLK.out.2 hfull).mono ?_
                          rintro e w3 ⟨rfl, ho, hr⟩
                          have HX : Hid (Fg w w3 mb ms w1.heap.size w2.heap.size n h (vs ++ [nth l kk]) (.slice B vs.length bc) vs) := Lib.hid (Ff.go (by first | exact HF.out | exact HF.out.quiet (Only.refl [] _).drew) ho hr)
                          clear ho hr)
          all_goals
            have HV := Lib.hid (HX.out.view.only ((Only.refl [] w3).alloc (.cells #[.int .u64 (nth l kk)] 38)) (by simp))
            have HC := Lib.hid ((Blk.new w3 38 #[.int .u64 (nth l kk)]).at 0 (v := .int .u64 (nth l kk)) rfl)
            have e3 := (HX.out.rg.out.cell (p := ⟨gl, ol + kk, none⟩) HGL.out.1 (by simp)).trans HGL.out.2
            clear d1 e1 l0 l1
            go_wp2_with (at_builtin; refine wpList_append_view rfl (.tmp 89) (.tmp 94) rfl _ w2.heap.size _ vs rfl HV.out ⟨w3.heap.size, 0, none⟩ 1 (nth l kk) rfl HC.out (by omega) (by have := HX.out.lt; simp; omega) ?_)
            intro v' w4 hA
            have HF2 : Hid (Ff w w4 mb ms w1.heap.size w2.heap.size n h v' (vs ++ [nth l kk])) := Lib.hid (by
              have hlt := HX.out.lt
              have hlo : ∀ x ∈ (Value.slice B vs.length bc).ownBlock.toList, w2.heap.size ≤ x := fun x hx => HV.out.lo x (by simpa using hx)
              refine ⟨(HX.out.rg.quiet ((Only.refl [] w3).alloc _)).far hA.2 hlo ⟨hlt.1, hlt.2.1, hlt.2.2.1, hlt.2.2.2.1⟩, ⟨hlt.1, hlt.2.1, hlt.2.2.1, hlt.2.2.2.1, ?_⟩, hA.1, fun i hi => ?_⟩
              · have := hA.2.size
                simp at this
                omega
              · have hr := HF.out.rngs
                simp at hi
                by_cases e : i < vs.length
                · have : nth (vs ++ [nth l kk]) i = nth vs i := by simp [nth, List.getElem?_append_left e]
                  rw [this]
                  exact hr i e
                · have : i = vs.length := by omega
                  subst this
                  have : nth (vs ++ [nth l kk]) vs.length = nth l kk := by simp [nth]
                  rw [this]
                  exact HLK.out)
            clear hA e3
            go_wp2_with fail
            exact ⟨⟨t + 1, kk + 1, h, _, by omega, by omega, by omega, by go_num, by go_num, HF2.out⟩, by simp [intOf]; omega⟩
        · have hfi : ¬ (vs.length : Int) < n := by omega
          have HEN := Lib.hid (show vs.length = n by omega)
          go_wp2_with fail
          go_region_with (go_at_call 24
                          refine (rg_full (a := 0) (n := n) (vs := vs) (nth l kk) (by first | exact HF.out.rg.ring | exact (HF.out.rg.quiet (Only.refl [] _).drew).ring) (by omega) n64 HLK.out.1 HLK.out.2 HEN.out).mono ?_
                          rintro e w3 ⟨rfl, ho, hr⟩
                          have HX : Hid (Fg w w3 mb ms w1.heap.size w2.heap.size n h vs (.slice B vs.length bc) vs) := Lib.hid (Ff.go (by first | exact HF.out | exact HF.out.quiet (Only.refl [] _).drew) ho hr)
                          clear ho hr)
          all_goals
            clear d1 e1 l0 l1
            go_wp2_with fail
            exact ⟨⟨t + 1, kk + 1, h, vs, by omega, by omega, by omega, by go_num, by go_num, HX.out.rg, HX.out.lt, HX.out.view, HF.out.rngs⟩, by simp [intOf]; omega⟩
      · have hcase : q = false ∨ q = true ∧ ¬ kk < l.length := by cases q <;> simp_all
        clear hpush
        rcases hcase with rfl | ⟨rfl, hkl⟩
        · rcases vs with _ | ⟨x, vs⟩
          · have HF : Hid (Ff w wr mb ms w1.heap.size w2.heap.size n h (.slice B 0 bc) []) := Lib.hid HF.out
            go_wp2_with fail
            refine (rg_empty HF.out.rg.ring (by omega) n64).mono ?_
            rintro e w3 ⟨rfl, ho, hr⟩
            have HX := Lib.hid (HF.out.go ho hr)
            clear ho hr d1 l0 l1
            go_wp2_with fail
            exact ⟨⟨t + 1, kk, h, [], by omega, by omega, by omega, by go_num, rfl, HX.out.rg, HX.out.lt, HX.out.view, HF.out.rngs⟩, by simp [intOf]; omega⟩
          · have HF : Hid (Ff w wr mb ms w1.heap.size w2.heap.size n h (.slice B (vs.length + 1) bc) (x :: vs)) := Lib.hid HF.out
            obtain ⟨g, off, bc', e, hbc, hglt, hgc⟩ := HF.out.view.cells (by simp)
            simp only [List.length_cons, Value.slice.injEq] at e
            obtain ⟨rfl, _, rfl⟩ := e
            have HGC := Lib.hid (And.intro hglt (show wr.cell? ⟨g, off, none⟩ = some (.int .u64 x) from hgc 0 (by simp)))
            have HBC := Lib.hid (show vs.length + 1 ≤ bc by simpa using hbc)
            have HGZ := Lib.hid (HF.out.view.lo g rfl)
            have hlen0 : (0 : Int) < ((vs.length + 1 : Nat) : Int) := by omega
            have hlen1 : (1 : Int) ≤ ((vs.length + 1 : Nat) : Int) := by omega
            clear hbc hglt hgc hvn
            go_wp2_with fail
            refine (rg_pop HF.out.rg.ring (by omega) n64 (by omega)).mono ?_
            rintro e w3 ⟨rfl, ho, hr⟩
            have HX := Lib.hid (HF.out.go ho hr)
            have g0 : w3.cell? ⟨g, off, none⟩ = some (.int .u64 x) := (ho.cell (p := ⟨g, off, none⟩) HGC.out.1 (by have := HGZ.out; have := HF.out.lt; simp; omega)).trans HGC.out.2
            have HRG : Hid (∀ i, i < vs.length → 0 ≤ nth vs i ∧ nth vs i < 18446744073709551616) := Lib.hid fun i hi => by
              have := HF.out.rngs (i + 1) (by simp; omega)
              simpa [nth] using this
            clear ho hr d1 l0 l1
            by_cases hb1 : bc = 1
            · have HV := Lib.hid (HX.out.view.tail.1 hb1)
              subst hb1
              go_wp2_with fail
              refine ⟨⟨t + 1, kk, h + 1, vs, by omega, by omega, by omega, by go_num, rfl, HX.out.rg, HX.out.lt, ?_, HRG.out⟩, by simp [intOf]; omega⟩
              simpa using HV.out
            · have HV := Lib.hid (HX.out.view.tail.2 hb1)
              have HBC2 := Lib.hid (show 2 ≤ bc by have := HBC.out; omega)
              go_wp2_with fail
              refine ⟨⟨t + 1, kk, h + 1, vs, by omega, by omega, by omega, by go_num, rfl, HX.out.rg, HX.out.lt, ?_, HRG.out⟩, by simp [intOf]; omega⟩
              simpa using HV.out
        · have hkli : ¬ (kk : Int) < l.length := by omega
          rcases vs with _ | ⟨x, vs⟩
          · have HF : Hid (Ff w wr mb ms w1.heap.size w2.heap.size n h (.slice B 0 bc) []) := Lib.hid HF.out
            go_wp2_with fail
            refine (rg_empty HF.out.rg.ring (by omega) n64).mono ?_
            rintro e w3 ⟨rfl, ho, hr⟩
            have HX := Lib.hid (HF.out.go ho hr)
            clear ho hr d1 l0 l1
            go_wp2_with fail
            exact ⟨⟨t + 1, kk, h, [], by omega, by omega, by omega, by go_num, rfl, HX.out.rg, HX.out.lt, HX.out.view, HF.out.rngs⟩, by simp [intOf]; omega⟩
          · have HF : Hid (Ff w wr mb ms w1.heap.size w2.heap.size n h (.slice B (vs.length + 1) bc) (x :: vs)) := Lib.hid HF.out
            obtain ⟨g, off, bc', e, hbc, hglt, hgc⟩ := HF.out.view.cells (by simp)
            simp only [List.length_cons, Value.slice.injEq] at e
            obtain ⟨rfl, _, rfl⟩ := e
            have HGC := Lib.hid (And.intro hglt (show wr.cell? ⟨g, off, none⟩ = some (.int .u64 x) from hgc 0 (by simp)))
            have HBC := Lib.hid (show vs.length + 1 ≤ bc by simpa using hbc)
            have HGZ := Lib.hid (HF.out.view.lo g rfl)
            have hlen0 : (0 : Int) < ((vs.length + 1 : Nat) : Int) := by omega
            have hlen1 : (1 : Int) ≤ ((vs.length + 1 : Nat) : Int) := by omega
            clear hbc hglt hgc hvn
            go_wp2_with fail
            refine (rg_pop HF.out.rg.ring (by omega) n64 (by omega)).mono ?_
            rintro e w3 ⟨rfl, ho, hr⟩
            have HX := Lib.hid (HF.out.go ho hr)
            have g0 : w3.cell? ⟨g, off, none⟩ = some (.int .u64 x) := (ho.cell (p := ⟨g, off, none⟩) HGC.out.1 (by have := HGZ.out; have := HF.out.lt; simp; omega)).trans HGC.out.2
            have HRG : Hid (∀ i, i < vs.length → 0 ≤ nth vs i ∧ nth vs i < 18446744073709551616) := Lib.hid fun i hi => by
              have := HF.out.rngs (i + 1) (by simp; omega)
              simpa [nth] using this
            clear ho hr d1 l0 l1
            by_cases hb1 : bc = 1
            · have HV := Lib.hid (HX.out.view.tail.1 hb1)
              subst hb1
              go_wp2_with fail
              refine ⟨⟨t + 1, kk, h + 1, vs, by omega, by omega, by omega, by go_num, rfl, HX.out.rg, HX.out.lt, ?_, HRG.out⟩, by simp [intOf]; omega⟩
              simpa using HV.out
            · have HV := Lib.hid (HX.out.view.tail.2 hb1)
              have HBC2 := Lib.hid (show 2 ≤ bc by have := HBC.out; omega)
              go_wp2_with fail
              refine ⟨⟨t + 1, kk, h + 1, vs, by omega, by omega, by omega, by go_num, rfl, HX.out.rg, HX.out.lt, ?_, HRG.out⟩, by simp [intOf]; omega⟩
              simpa using HV.out
    · have hlti : ¬ (t : Int) < ts.length := by omega
      go_wp2_with fail
      refine (known06 _).mono ?_
      rintro e w5 ⟨rfl, ho⟩
      have HO := Lib.hid (HF.out.rg.out.trans ho)
      clear ho
      go_wp2_with fail
      go_ret
      exact ⟨rfl, HO.out⟩

end Go.Proofs.Ytoecoijmkjhkgaa
