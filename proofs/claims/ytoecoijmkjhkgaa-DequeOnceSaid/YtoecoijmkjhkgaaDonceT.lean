/- The contracts of law 07's world: take, owner, thief. Written by donceg.py. -/
import Derived.Test.YtoecoijmkjhkgaaDonceC
namespace Go.Proofs.Ytoecoijmkjhkgaa
open Go.RowKit

theorem DInv.congr {n N : Nat} {L : List Int} {own : Option DQ} {at_ : Nat} {th th' : Nat → Option DQ} {had : List Int} {pushed taken : Nat} (h : DInv n N L own at_ th had pushed taken) (e : ∀ k, k < 3 → th' k = th k) : DInv n N L own at_ th' had pushed taken := by
  obtain ⟨T, B, bw, vals, E, hold, pe, q, ⟨c, a, o, hth, n20⟩⟩ := h
  exact ⟨T, B, bw, vals, E, hold, pe, q, ⟨c, a, o, fun k hk => by rw [e k hk]; exact hth k hk, n20⟩⟩

/-- The world, and what holds of it. -/
def W7 (w wr : World) (mb ms xb hb lb n N : Nat) (cs : Array Value) (r : Nat) : Prop := ∃ m t pops at_ had pushed taken, WSt w wr mb ms xb hb lb n N cs m t pops at_ had pushed taken ∧ DInv n N m.L (stOf (t 3)) at_ (fun k => stOf (t k)) had pushed taken ∧ (∀ b kb s, t 3 = some (b, kb, s) → pops = decide (s.k = 1)) ∧ rank (stOf (t 3)) = r

section
variable {w wr : World} {mb ms xb hb lb n N : Nat} {cs : Array Value} {m : MS} {t : Nat → Tk} {pops : Bool} {at_ : Nat} {had : List Int} {pushed taken : Nat}

set_option maxRecDepth 100000 in
theorem take_at (h : WSt w wr mb ms xb hb lb n N cs m t pops at_ had pushed taken) {i : Nat} (hi : i < N) (h0 : nth had i = 0) (hlen : had.length = N) (hN : N ≤ 20) (htk : taken ≤ 1000) :
    Calls Try.prog 31 #[.pointer (some ⟨xb, 0, none⟩), .int .u64 (100 + (i : Int))] wr fun e w' => e = .returned (.tuple #[]) ∧ WSt w w' mb ms xb hb lb n N cs m t pops at_ (had.set i 1) pushed (taken + 1) := by
  obtain ⟨x, hx⟩ : ∃ x : Int, 100 + (i : Int) = x := ⟨_, rfl⟩
  rw [hx]
  have HW := Lib.hid h
  have c9 := h.obj.at 9 (v := .slice (some ⟨hb, 0, none⟩) N N) rfl
  have c11 := h.obj.at 11 (v := .int .i64 taken) rfl
  have c12 := h.obj.at 12 (v := .bool false) rfl
  have r0 : wr.cell? ⟨hb, i, none⟩ = some (.int .i64 0) := by
    have := h.row.at i (icells_at had i (by rw [hlen]; exact hi))
    rwa [h0] at this
  have f9 := h.obj.frozen 9
  have f11 := h.obj.frozen 11
  have f12 := h.obj.frozen 12
  have g0 := h.row.frozen i
  have hne : xb ≠ hb := h.obj.ne h.row (by decide)
  have hne' : hb ≠ xb := fun e => hne e.symm
  have k4 : IntKind.i64.wrap x = x := by rw [IntKind.wrap_i64]; omega
  have k5 : x - 100 = i := by omega
  have k6 : 0 ≤ x := by omega
  have k7 : x ≤ 1000 := by omega
  have hii : (i : Int) < N := by omega
  have HI := Lib.hid hlen
  clear h hlen h0 hx
  go_enter Try.func31, Try.ntmps31
  go_wp2_with fail
  refine bodyPost_end (v := .tuple #[]) (by simp [results, Try.results31, go_sem]) rfl ⟨rfl, ?_⟩
  exact HW.out.put (Only.setCell (Only.setCell (Only.setCell (Only.refl [xb, hb] wr) (p := ⟨hb, i, none⟩) (by simp) (.int .i64 1)) (p := ⟨xb, 11, none⟩) (by simp) (.int .i64 ((taken : Int) + 1))) (p := ⟨xb, 12, none⟩) (by simp) (.bool false)) (fun k _ => .inr rfl)
    (((HW.out.obj.far (p := ⟨hb, i, none⟩) hne (.int .i64 1)).set 11 (.int .i64 ((taken : Int) + 1))).set 12 (.bool false))
    (by have := ((HW.out.row.set i (.int .i64 1)).far (p := ⟨xb, 11, none⟩) hne' (.int .i64 ((taken : Int) + 1))).far (p := ⟨xb, 12, none⟩) hne' (.bool false); rwa [icells_set] at this)
end

section
variable {w wr : World} {mb ms xb hb lb n N : Nat} {cs : Array Value} {m : MS} {t : Nat → Tk} {pops : Bool} {at_ : Nat} {had : List Int} {pushed taken : Nat}

set_option maxRecDepth 100000 in
theorem owner_idle (h : WSt w wr mb ms xb hb lb n N cs m t pops at_ had pushed taken) (hn : t 3 = none) (A : Option Addr) (l cap : Nat) (hl : l ≤ at_) :
    Calls Try.prog 27 #[.pointer (some ⟨xb, 0, none⟩), .slice A l cap] wr fun e w' => e = .returned (.tuple #[]) ∧ wr = w' := by
  have c3 := h.obj.at 3 (v := pt (t 3)) rfl
  rw [hn] at c3
  have c3' : wr.cell? ⟨xb, 3, none⟩ = some (.pointer none) := c3
  have c5 := h.obj.at 5 (v := .int .i64 at_) rfl
  have hli : (l : Int) ≤ at_ := by omega
  clear h hn c3
  go_enter Try.func27, Try.ntmps27
  go_wp2_with fail
  refine bodyPost_ret (v := .tuple #[]) (by simp [results, Try.results27, go_sem]) rfl ⟨rfl, rfl⟩

set_option maxRecDepth 100000 in
theorem owner_pop (h : WSt w wr mb ms xb hb lb n N cs m t pops at_ had pushed taken) (hn : t 3 = none) (hR : dequeRight 3 n) (A : Option Addr) (l : List Int) (cap : Nat) (hr : ReadsB w A l) (hl : at_ < l.length) (hl2 : l.length ≤ 1000) (x0 : 0 ≤ nth l at_) (x1 : nth l at_ ≤ 255) (hx : nth l at_ % 2 = 1) :
    Calls Try.prog 27 #[.pointer (some ⟨xb, 0, none⟩), .slice A l.length cap] wr fun e w' => e = .returned (.tuple #[]) ∧ ∃ b kb, WSt w w' mb ms xb hb lb n N cs m (upv t 3 (some (b, kb, ⟨3, n, 1, 0, false, false, 0, 0, 0, false⟩))) true (at_ + 1) had pushed taken := by
  obtain ⟨g, o, hg, rfl, hc⟩ := hr.at hl
  have d1 := (h.out.cell (p := ⟨g, o + at_, none⟩) hg (by simp)).trans (hc at_ hl)
  have c3 : wr.cell? ⟨xb, 3, none⟩ = some (.pointer none) := by have := h.obj.at 3 (v := pt (t 3)) rfl; rwa [hn] at this
  have c4 := h.obj.at 4 (v := .bool pops) rfl
  have c5 := h.obj.at 5 (v := .int .i64 at_) rfl
  have c1 := h.obj.at 1 (v := .int .i64 3) rfl
  have c2 := h.obj.at 2 (v := .int .i64 n) rfl
  have f4 := h.obj.frozen 4
  have hli : (at_ : Int) < l.length := by omega
  obtain ⟨x, hxx⟩ : ∃ x, nth l at_ = x := ⟨_, rfl⟩
  rw [hxx] at d1 x0 x1 hx
  have hb0 : (x % 2 == 1) = true := by simpa using hx
  have hne : hb ≠ xb := h.row.ne h.obj (by decide)
  have HW := Lib.hid (h.put (t' := t) (pops' := true) (at' := at_) (had' := had) (pushed' := pushed) (taken' := taken) (Only.setCell (Only.refl [xb, hb] wr) (p := ⟨xb, 4, none⟩) (by simp) (.bool true)) (fun k _ => .inr rfl) (h.obj.set 4 (.bool true)) (h.row.far (p := ⟨xb, 4, none⟩) hne (.bool true)))
  have HR := Lib.hid hR
  have HN := Lib.hid hn
  have hz := h.obj.lt
  clear h hn hR hc hg hxx hr hx
  go_enter Try.func27, Try.ntmps27
  go_wp2_with fail
  refine (dpop_some _ 3 n HR.out).mono ?_
  rintro e w1 ⟨b, kb, rfl, hb, hkb, ho, hd⟩
  have HB := Lib.hid (HW.out.quiet ho).obj
  have c3 : w1.cell? ⟨xb, 3, none⟩ = some (.pointer none) := by have := HB.out.at 3 (v := pt (t 3)) rfl; rwa [HN.out] at this
  have c5 := HB.out.at 5 (v := .int .i64 at_) rfl
  have c12 := HB.out.at 12 (v := .bool false) rfl
  have f3 := HB.out.frozen 3
  have f5 := HB.out.frozen 5
  have f12 := HB.out.frozen 12
  have HO := Lib.hid ho
  have HD := Lib.hid hd
  have HNB := Lib.hid (And.intro hb hkb)
  clear hb hkb ho hd d1 c4 c1 c2
  go_wp2_with fail
  refine bodyPost_ret (v := .tuple #[]) (by simp [results, Try.results27, go_sem]) rfl ⟨rfl, b, kb, ?_⟩
  exact HW.out.fresh HO.out (by omega) HN.out HD.out HNB.out.1 HNB.out.2 (Only.setCell (Only.setCell (Only.setCell (Only.refl [xb] w1) (p := ⟨xb, 3, none⟩) (by simp) (.pointer (some ⟨b, 0, none⟩))) (p := ⟨xb, 5, none⟩) (by simp) (.int .i64 ((at_ : Int) + 1))) (p := ⟨xb, 12, none⟩) (by simp) (.bool false))
    (((HB.out.set 3 (.pointer (some ⟨b, 0, none⟩))).set 5 (.int .i64 ((at_ : Int) + 1))).set 12 (.bool false))

set_option maxRecDepth 100000 in
theorem owner_push (h : WSt w wr mb ms xb hb lb n N cs m t pops at_ had pushed taken) (hn : t 3 = none) (hR : dequeRight 3 n) (A : Option Addr) (l : List Int) (cap : Nat) (hr : ReadsB w A l) (hl : at_ < l.length) (hl2 : l.length ≤ 1000) (x0 : 0 ≤ nth l at_) (x1 : nth l at_ ≤ 255) (hx : ¬ nth l at_ % 2 = 1) :
    Calls Try.prog 27 #[.pointer (some ⟨xb, 0, none⟩), .slice A l.length cap] wr fun e w' => e = .returned (.tuple #[]) ∧ ∃ b kb, WSt w w' mb ms xb hb lb n N cs m (upv t 3 (some (b, kb, ⟨3, n, 0, 0, false, false, 100 + (at_ : Int), 0, 0, false⟩))) false (at_ + 1) had pushed taken := by
  obtain ⟨g, o, hg, rfl, hc⟩ := hr.at hl
  have d1 := (h.out.cell (p := ⟨g, o + at_, none⟩) hg (by simp)).trans (hc at_ hl)
  have c3 : wr.cell? ⟨xb, 3, none⟩ = some (.pointer none) := by have := h.obj.at 3 (v := pt (t 3)) rfl; rwa [hn] at this
  have c4 := h.obj.at 4 (v := .bool pops) rfl
  have c5 := h.obj.at 5 (v := .int .i64 at_) rfl
  have f4 := h.obj.frozen 4
  have hli : (at_ : Int) < l.length := by omega
  obtain ⟨x, hxx⟩ : ∃ x, nth l at_ = x := ⟨_, rfl⟩
  rw [hxx] at d1 x0 x1 hx
  have hb0 : (x % 2 == 1) = false := by simpa using hx
  have hne : hb ≠ xb := h.row.ne h.obj (by decide)
  have HW := Lib.hid (h.put (t' := t) (pops' := false) (at' := at_) (had' := had) (pushed' := pushed) (taken' := taken) (Only.setCell (Only.refl [xb, hb] wr) (p := ⟨xb, 4, none⟩) (by simp) (.bool false)) (fun k _ => .inr rfl) (h.obj.set 4 (.bool false)) (h.row.far (p := ⟨xb, 4, none⟩) hne (.bool false)))
  have HR := Lib.hid hR
  have HN := Lib.hid hn
  have hz := h.obj.lt
  have hw1 : IntKind.i64.wrap (100 + (at_ : Int)) = 100 + (at_ : Int) := dwrap _ (by omega) (by omega)
  have hw2 : IntKind.u64.wrap (100 + (at_ : Int)) = 100 + (at_ : Int) := by rw [IntKind.wrap_u64]; omega
  clear h hn hR hc hg hxx hr hx
  go_enter Try.func27, Try.ntmps27
  go_upto_region 5 with fail
  have HW := Lib.hid (HW.out.quiet (Only.refl [] _).drew)
  have HF : Hid (∀ wx, Blk wx xb 64 (wCells mb n (pt (t 3)) false at_ (pt (t 0)) (pt (t 1)) (pt (t 2)) hb N pushed taken) → wx.cell? ⟨xb, 1, none⟩ = some (.int .i64 3) ∧ wx.cell? ⟨xb, 2, none⟩ = some (.int .i64 n) ∧ wx.cell? ⟨xb, 5, none⟩ = some (.int .i64 at_)) := Lib.hid fun wx h => ⟨h.at 1 rfl, h.at 2 rfl, h.at 5 rfl⟩
  have HB := Lib.hid HW.out.obj
  clear d1 c4 c3 c5 f4
  go_region_held3 (fun w' => w'.cell? ⟨xb, 1, none⟩ = some (.int .i64 3) ∧ w'.cell? ⟨xb, 2, none⟩ = some (.int .i64 n) ∧ w'.cell? ⟨xb, 5, none⟩ = some (.int .i64 at_))
    (first | exact HF.out _ HB.out | exact HFB.out)
    (first
      | (go_at_call 33; refine (dpush_some _ 3 (100 + (at_ : Int)) n HR.out (by omega) (by omega)).mono ?_
         rintro e w1 ⟨b, kb, rfl, hb, hkb, ho, hd⟩
         have HB := Lib.hid (HW.out.quiet ho).obj
         have c3 : w1.cell? ⟨xb, 3, none⟩ = some (.pointer none) := by have := HB.out.at 3 (v := pt (t 3)) rfl; rwa [HN.out] at this
         have f3 := HB.out.frozen 3
         have HO := Lib.hid ho
         have HD := Lib.hid hd
         have HNB := Lib.hid (And.intro hb hkb)
         have HB2 := Lib.hid (HB.out.set 3 (.pointer (some ⟨b, 0, none⟩)))
         have HFB : Hid ((w1.setCell ⟨xb, 3, none⟩ (.pointer (some ⟨b, 0, none⟩))).cell? ⟨xb, 1, none⟩ = some (.int .i64 3) ∧ (w1.setCell ⟨xb, 3, none⟩ (.pointer (some ⟨b, 0, none⟩))).cell? ⟨xb, 2, none⟩ = some (.int .i64 n) ∧ (w1.setCell ⟨xb, 3, none⟩ (.pointer (some ⟨b, 0, none⟩))).cell? ⟨xb, 5, none⟩ = some (.int .i64 at_)) := Lib.hid ⟨HB2.out.at 1 rfl, HB2.out.at 2 rfl, HB2.out.at 5 rfl⟩
         clear hb hkb ho hd))
  have c5 := HB.out.at 5 (v := .int .i64 at_) rfl
  have c12 := HB.out.at 12 (v := .bool false) rfl
  have f5 := HB.out.frozen 5
  have f12 := HB.out.frozen 12
  go_wp2_with fail
  refine bodyPost_ret (v := .tuple #[]) (by simp [results, Try.results27, go_sem]) rfl ⟨rfl, b, kb, ?_⟩
  exact HW.out.fresh HO.out (by omega) HN.out HD.out HNB.out.1 HNB.out.2 (Only.setCell (Only.setCell (Only.setCell (Only.refl [xb] w1) (p := ⟨xb, 3, none⟩) (by simp) (.pointer (some ⟨b, 0, none⟩))) (p := ⟨xb, 5, none⟩) (by simp) (.int .i64 ((at_ : Int) + 1))) (p := ⟨xb, 12, none⟩) (by simp) (.bool false))
    (((HB.out.set 3 (.pointer (some ⟨b, 0, none⟩))).set 5 (.int .i64 ((at_ : Int) + 1))).set 12 (.bool false))
end

section
variable {w wr : World} {mb ms xb hb lb n N : Nat} {cs : Array Value} {m : MS} {t : Nat → Tk} {pops : Bool} {at_ : Nat} {had : List Int} {pushed taken : Nat}

set_option maxHeartbeats 2000000 in
set_option maxRecDepth 100000 in
theorem owner_go (h : WSt w wr mb ms xb hb lb n N cs m t pops at_ had pushed taken) {b kb : Nat} {s s' : DQ} {m' : MS} (ht : t 3 = some (b, kb, s)) (hgo : s.go m = (s', m')) (hdd : s'.done = false) (A : Option Addr) (l cap : Nat) :
    Calls Try.prog 27 #[.pointer (some ⟨xb, 0, none⟩), .slice A l cap] wr fun e w' => e = .returned (.tuple #[]) ∧ WSt w w' mb ms xb hb lb n N cs m' (upv t 3 (some (b, kb, s'))) pops at_ had pushed taken := by
  obtain ⟨hq, l1, l2⟩ := h.is 3 (by decide) b kb s ht
  have c0 := h.obj.at 0 (v := .pointer (some ⟨mb, 0, none⟩)) rfl
  have c3 : wr.cell? ⟨xb, 3, none⟩ = some (.pointer (some ⟨b, 0, none⟩)) := by have := h.obj.at 3 (v := pt (t 3)) rfl; rwa [ht] at this
  have HW := Lib.hid h
  have HQ := Lib.hid hq
  have HT := Lib.hid ht
  have HGO := Lib.hid hgo
  have HDD := Lib.hid hdd
  have HRNG : Hid (m'.drng) := Lib.hid (by have := (dgo_rng s m hq.ok h.rng).1; rwa [hgo] at this)
  have HF : Hid (∀ wx (m2 : MS) (s2 : DQ), WSt w wx mb ms xb hb lb n N cs m2 (upv t 3 (some (b, kb, s2))) pops at_ had pushed taken → wx.cell? ⟨xb, 3, none⟩ = some (.pointer (some ⟨b, 0, none⟩)) ∧ wx.cell? ⟨xb, 0, none⟩ = some (.pointer (some ⟨mb, 0, none⟩))) := Lib.hid fun wx m2 s2 h => ⟨by
    have := h.obj.at 3 (v := pt (upv t 3 (some (b, kb, s2)) 3)) rfl
    rw [upv_same] at this
    exact this, h.obj.at 0 rfl⟩
  have hze := h.obj.lt
  clear h hq ht hgo hdd
  go_enter Try.func27, Try.ntmps27
  go_upto_region 8 with fail
  have HW := Lib.hid (HW.out.quiet (Only.refl [] _).drew)
  have HQ := Lib.hid (HQ.out.quiet (Only.refl [] _).drew)
  go_region_held3 (fun w' => w'.cell? ⟨xb, 3, none⟩ = some (.pointer (some ⟨b, 0, none⟩)) ∧ w'.cell? ⟨xb, 0, none⟩ = some (.pointer (some ⟨mb, 0, none⟩)))
    (first | exact ⟨c3, c0⟩ | exact HF.out _ _ _ HWN.out)
    (first
      | (go_at_call 35; refine (dstep_go HQ.out HW.out.mem HW.out.rng).mono ?_
         rintro e w5 ⟨he, ho, hm, hd⟩
         rw [HGO.out] at he hm hd
         dsimp only at he hm hd
         rw [HDD.out] at he
         subst he
         have HWN := Lib.hid (HW.out.step (by decide) HT.out ho hm HRNG.out hd)
         have HDN := Lib.hid hd
         clear ho hm hd))
  clear c0 c3
  go_wp2_with fail
  refine bodyPost_ret (v := .tuple #[]) (by simp [results, Try.results27, go_sem]) rfl ⟨rfl, HWN.out⟩

set_option maxHeartbeats 2000000 in
set_option maxRecDepth 100000 in
theorem owner_no (h : WSt w wr mb ms xb hb lb n N cs m t pops at_ had pushed taken) {b kb : Nat} {s s' : DQ} {m' : MS} (ht : t 3 = some (b, kb, s)) (hgo : s.go m = (s', m')) (hdd : s'.done = true) (A : Option Addr) (l cap : Nat) (hhs : s'.has = false) :
    Calls Try.prog 27 #[.pointer (some ⟨xb, 0, none⟩), .slice A l cap] wr fun e w' => e = .returned (.tuple #[]) ∧ WSt w w' mb ms xb hb lb n N cs m' (upv t 3 none) pops at_ had pushed taken := by
  obtain ⟨hq, l1, l2⟩ := h.is 3 (by decide) b kb s ht
  have c0 := h.obj.at 0 (v := .pointer (some ⟨mb, 0, none⟩)) rfl
  have c3 : wr.cell? ⟨xb, 3, none⟩ = some (.pointer (some ⟨b, 0, none⟩)) := by have := h.obj.at 3 (v := pt (t 3)) rfl; rwa [ht] at this
  have HW := Lib.hid h
  have HQ := Lib.hid hq
  have HT := Lib.hid ht
  have HGO := Lib.hid hgo
  have HDD := Lib.hid hdd
  have HRNG : Hid (m'.drng) := Lib.hid (by have := (dgo_rng s m hq.ok h.rng).1; rwa [hgo] at this)
  have HF : Hid (∀ wx (m2 : MS) (s2 : DQ), WSt w wx mb ms xb hb lb n N cs m2 (upv t 3 (some (b, kb, s2))) pops at_ had pushed taken → wx.cell? ⟨xb, 3, none⟩ = some (.pointer (some ⟨b, 0, none⟩)) ∧ wx.cell? ⟨xb, 0, none⟩ = some (.pointer (some ⟨mb, 0, none⟩))) := Lib.hid fun wx m2 s2 h => ⟨by
    have := h.obj.at 3 (v := pt (upv t 3 (some (b, kb, s2)) 3)) rfl
    rw [upv_same] at this
    exact this, h.obj.at 0 rfl⟩
  have hze := h.obj.lt
  have HHS := Lib.hid hhs
  clear hhs h hq ht hgo hdd
  go_enter Try.func27, Try.ntmps27
  go_upto_region 8 with fail
  have HW := Lib.hid (HW.out.quiet (Only.refl [] _).drew)
  have HQ := Lib.hid (HQ.out.quiet (Only.refl [] _).drew)
  go_region_held3 (fun w' => w'.cell? ⟨xb, 3, none⟩ = some (.pointer (some ⟨b, 0, none⟩)) ∧ w'.cell? ⟨xb, 0, none⟩ = some (.pointer (some ⟨mb, 0, none⟩)))
    (first | exact ⟨c3, c0⟩ | exact HF.out _ _ _ HWN.out)
    (first
      | (go_at_call 35; refine (dstep_go HQ.out HW.out.mem HW.out.rng).mono ?_
         rintro e w5 ⟨he, ho, hm, hd⟩
         rw [HGO.out] at he hm hd
         dsimp only at he hm hd
         rw [HDD.out] at he
         subst he
         have HWN := Lib.hid (HW.out.step (by decide) HT.out ho hm HRNG.out hd)
         have HDN := Lib.hid hd
         clear ho hm hd))
  clear c0 c3
  obtain ⟨c3, c0⟩ := HF.out _ _ _ HWN.out
  have hpr := dresult_any w5 b kb s' HDN.out
  unfold dVal at hpr
  rw [if_pos HDD.out, if_neg (by rw [HHS.out]; simp)] at hpr
  have HPR := Lib.hid hpr
  clear hpr
  go_wp2_with fail
  refine HPR.out.mono ?_
  rintro e w6 ⟨rfl, ho⟩
  have HWN := Lib.hid (HWN.out.quiet ho)
  clear ho c3 c0
  have HB := Lib.hid HWN.out.obj
  have c4 := HB.out.at 4 (v := .bool pops) rfl
  have c3 : w6.cell? ⟨xb, 3, none⟩ = some (.pointer (some ⟨b, 0, none⟩)) := (HF.out _ _ _ HWN.out).1
  have f3 := HB.out.frozen 3
  go_wp2_with fail
  refine bodyPost_end (v := .tuple #[]) (by simp [results, Try.results27, go_sem]) rfl ⟨rfl, HWN.out.put (Only.setCell (Only.refl [xb, hb] w6) (p := ⟨xb, 3, none⟩) (by simp) (.pointer none)) (fun k hk => by
    by_cases e : k = 3
    · rw [e, upv_same]; exact .inl rfl
    · rw [upv_far _ _ _ _ e, upv_far _ _ _ _ e]; exact .inr rfl) (HWN.out.obj.set 3 (.pointer none)) (HWN.out.row.far (p := ⟨xb, 3, none⟩) (HWN.out.row.ne HWN.out.obj (by decide)) (.pointer none))⟩

set_option maxHeartbeats 2000000 in
set_option maxRecDepth 100000 in
theorem owner_pushed (hpu : pushed ≤ 1000) (h : WSt w wr mb ms xb hb lb n N cs m t pops at_ had pushed taken) {b kb : Nat} {s s' : DQ} {m' : MS} (ht : t 3 = some (b, kb, s)) (hgo : s.go m = (s', m')) (hdd : s'.done = true) (A : Option Addr) (l cap : Nat) (hhs : s'.has = true) (hp : pops = false) :
    Calls Try.prog 27 #[.pointer (some ⟨xb, 0, none⟩), .slice A l cap] wr fun e w' => e = .returned (.tuple #[]) ∧ WSt w w' mb ms xb hb lb n N cs m' (upv t 3 none) pops at_ had (pushed + 1) taken := by
  obtain ⟨hq, l1, l2⟩ := h.is 3 (by decide) b kb s ht
  have c0 := h.obj.at 0 (v := .pointer (some ⟨mb, 0, none⟩)) rfl
  have c3 : wr.cell? ⟨xb, 3, none⟩ = some (.pointer (some ⟨b, 0, none⟩)) := by have := h.obj.at 3 (v := pt (t 3)) rfl; rwa [ht] at this
  have HW := Lib.hid h
  have HQ := Lib.hid hq
  have HT := Lib.hid ht
  have HGO := Lib.hid hgo
  have HDD := Lib.hid hdd
  have HRNG : Hid (m'.drng) := Lib.hid (by have := (dgo_rng s m hq.ok h.rng).1; rwa [hgo] at this)
  have HF : Hid (∀ wx (m2 : MS) (s2 : DQ), WSt w wx mb ms xb hb lb n N cs m2 (upv t 3 (some (b, kb, s2))) pops at_ had pushed taken → wx.cell? ⟨xb, 3, none⟩ = some (.pointer (some ⟨b, 0, none⟩)) ∧ wx.cell? ⟨xb, 0, none⟩ = some (.pointer (some ⟨mb, 0, none⟩))) := Lib.hid fun wx m2 s2 h => ⟨by
    have := h.obj.at 3 (v := pt (upv t 3 (some (b, kb, s2)) 3)) rfl
    rw [upv_same] at this
    exact this, h.obj.at 0 rfl⟩
  have hze := h.obj.lt
  have HHS := Lib.hid hhs
  subst hp
  clear hhs h hq ht hgo hdd
  go_enter Try.func27, Try.ntmps27
  go_upto_region 8 with fail
  have HW := Lib.hid (HW.out.quiet (Only.refl [] _).drew)
  have HQ := Lib.hid (HQ.out.quiet (Only.refl [] _).drew)
  go_region_held3 (fun w' => w'.cell? ⟨xb, 3, none⟩ = some (.pointer (some ⟨b, 0, none⟩)) ∧ w'.cell? ⟨xb, 0, none⟩ = some (.pointer (some ⟨mb, 0, none⟩)))
    (first | exact ⟨c3, c0⟩ | exact HF.out _ _ _ HWN.out)
    (first
      | (go_at_call 35; refine (dstep_go HQ.out HW.out.mem HW.out.rng).mono ?_
         rintro e w5 ⟨he, ho, hm, hd⟩
         rw [HGO.out] at he hm hd
         dsimp only at he hm hd
         rw [HDD.out] at he
         subst he
         have HWN := Lib.hid (HW.out.step (by decide) HT.out ho hm HRNG.out hd)
         have HDN := Lib.hid hd
         clear ho hm hd))
  clear c0 c3
  obtain ⟨c3, c0⟩ := HF.out _ _ _ HWN.out
  have hpr := dresult_any w5 b kb s' HDN.out
  unfold dVal at hpr
  rw [if_pos HDD.out, if_pos HHS.out] at hpr
  have HPR := Lib.hid hpr
  clear hpr
  go_wp2_with fail
  refine HPR.out.mono ?_
  rintro e w6 ⟨rfl, ho⟩
  have HWN := Lib.hid (HWN.out.quiet ho)
  clear ho c3 c0
  have HB := Lib.hid HWN.out.obj
  have c4 := HB.out.at 4 (v := .bool false) rfl
  have c3 : w6.cell? ⟨xb, 3, none⟩ = some (.pointer (some ⟨b, 0, none⟩)) := (HF.out _ _ _ HWN.out).1
  have f3 := HB.out.frozen 3
  have c10 := HB.out.at 10 (v := .int .i64 pushed) rfl
  have f10 := HB.out.frozen 10
  go_wp2_with fail
  refine bodyPost_end (v := .tuple #[]) (by simp [results, Try.results27, go_sem]) rfl ⟨rfl, HWN.out.put (Only.setCell (Only.setCell (Only.refl [xb, hb] w6) (p := ⟨xb, 10, none⟩) (by simp) (.int .i64 ((pushed : Int) + 1))) (p := ⟨xb, 3, none⟩) (by simp) (.pointer none)) (fun k hk => by
    by_cases e : k = 3
    · rw [e, upv_same]; exact .inl rfl
    · rw [upv_far _ _ _ _ e, upv_far _ _ _ _ e]; exact .inr rfl) ((HB.out.set 10 (.int .i64 ((pushed : Int) + 1))).set 3 (.pointer none)) ((HWN.out.row.far (p := ⟨xb, 10, none⟩) (HWN.out.row.ne HWN.out.obj (by decide)) (.int .i64 ((pushed : Int) + 1))).far (p := ⟨xb, 3, none⟩) (HWN.out.row.ne HWN.out.obj (by decide)) (.pointer none))⟩

set_option maxHeartbeats 2000000 in
set_option maxRecDepth 100000 in
theorem owner_popped (h : WSt w wr mb ms xb hb lb n N cs m t pops at_ had pushed taken) {b kb : Nat} {s s' : DQ} {m' : MS} (ht : t 3 = some (b, kb, s)) (hgo : s.go m = (s', m')) (hdd : s'.done = true) (A : Option Addr) (l cap : Nat) (hhs : s'.has = true) (hp : pops = true) {i : Nat} (hi : i < N) (h0 : nth had i = 0) (hv : s'.v = 100 + (i : Int)) (hlen : had.length = N) (hN : N ≤ 20) (htk : taken ≤ 1000) :
    Calls Try.prog 27 #[.pointer (some ⟨xb, 0, none⟩), .slice A l cap] wr fun e w' => e = .returned (.tuple #[]) ∧ WSt w w' mb ms xb hb lb n N cs m' (upv t 3 none) pops at_ (had.set i 1) pushed (taken + 1) := by
  obtain ⟨hq, l1, l2⟩ := h.is 3 (by decide) b kb s ht
  have c0 := h.obj.at 0 (v := .pointer (some ⟨mb, 0, none⟩)) rfl
  have c3 : wr.cell? ⟨xb, 3, none⟩ = some (.pointer (some ⟨b, 0, none⟩)) := by have := h.obj.at 3 (v := pt (t 3)) rfl; rwa [ht] at this
  have HW := Lib.hid h
  have HQ := Lib.hid hq
  have HT := Lib.hid ht
  have HGO := Lib.hid hgo
  have HDD := Lib.hid hdd
  have HRNG : Hid (m'.drng) := Lib.hid (by have := (dgo_rng s m hq.ok h.rng).1; rwa [hgo] at this)
  have HF : Hid (∀ wx (m2 : MS) (s2 : DQ), WSt w wx mb ms xb hb lb n N cs m2 (upv t 3 (some (b, kb, s2))) pops at_ had pushed taken → wx.cell? ⟨xb, 3, none⟩ = some (.pointer (some ⟨b, 0, none⟩)) ∧ wx.cell? ⟨xb, 0, none⟩ = some (.pointer (some ⟨mb, 0, none⟩))) := Lib.hid fun wx m2 s2 h => ⟨by
    have := h.obj.at 3 (v := pt (upv t 3 (some (b, kb, s2)) 3)) rfl
    rw [upv_same] at this
    exact this, h.obj.at 0 rfl⟩
  have hze := h.obj.lt
  have HHS := Lib.hid hhs
  subst hp
  have HI := Lib.hid (And.intro hi (And.intro h0 (And.intro hlen hN)))
  have HV := Lib.hid hv
  clear h0 hlen hv
  clear hhs h hq ht hgo hdd
  go_enter Try.func27, Try.ntmps27
  go_upto_region 8 with fail
  have HW := Lib.hid (HW.out.quiet (Only.refl [] _).drew)
  have HQ := Lib.hid (HQ.out.quiet (Only.refl [] _).drew)
  go_region_held3 (fun w' => w'.cell? ⟨xb, 3, none⟩ = some (.pointer (some ⟨b, 0, none⟩)) ∧ w'.cell? ⟨xb, 0, none⟩ = some (.pointer (some ⟨mb, 0, none⟩)))
    (first | exact ⟨c3, c0⟩ | exact HF.out _ _ _ HWN.out)
    (first
      | (go_at_call 35; refine (dstep_go HQ.out HW.out.mem HW.out.rng).mono ?_
         rintro e w5 ⟨he, ho, hm, hd⟩
         rw [HGO.out] at he hm hd
         dsimp only at he hm hd
         rw [HDD.out] at he
         subst he
         have HWN := Lib.hid (HW.out.step (by decide) HT.out ho hm HRNG.out hd)
         have HDN := Lib.hid hd
         clear ho hm hd))
  clear c0 c3
  obtain ⟨c3, c0⟩ := HF.out _ _ _ HWN.out
  have hpr := dresult_any w5 b kb s' HDN.out
  unfold dVal at hpr
  rw [if_pos HDD.out, if_pos HHS.out] at hpr
  rw [HV.out] at hpr
  have HPR := Lib.hid hpr
  clear hpr
  go_wp2_with fail
  refine HPR.out.mono ?_
  rintro e w6 ⟨rfl, ho⟩
  have HWN := Lib.hid (HWN.out.quiet ho)
  clear ho c3 c0
  have HB := Lib.hid HWN.out.obj
  have c4 := HB.out.at 4 (v := .bool true) rfl
  have c3 : w6.cell? ⟨xb, 3, none⟩ = some (.pointer (some ⟨b, 0, none⟩)) := (HF.out _ _ _ HWN.out).1
  have f3 := HB.out.frozen 3
  go_wp2_with fail
  refine (take_at HWN.out HI.out.1 HI.out.2.1 HI.out.2.2.1 HI.out.2.2.2 htk).mono ?_
  rintro e w7 ⟨rfl, hw⟩
  have HWN := Lib.hid hw
  have HB := Lib.hid hw.obj
  clear hw c3 c4 f3
  have c4 := HB.out.at 4 (v := .bool true) rfl
  have c3 : w7.cell? ⟨xb, 3, none⟩ = some (.pointer (some ⟨b, 0, none⟩)) := (by have := HB.out.at 3 (v := pt (upv t 3 (some (b, kb, s')) 3)) rfl; rw [upv_same] at this; exact this)
  have f3 := HB.out.frozen 3
  go_wp2_with fail
  refine bodyPost_end (v := .tuple #[]) (by simp [results, Try.results27, go_sem]) rfl ⟨rfl, HWN.out.put (Only.setCell (Only.refl [xb, hb] w7) (p := ⟨xb, 3, none⟩) (by simp) (.pointer none)) (fun k hk => by
    by_cases e : k = 3
    · rw [e, upv_same]; exact .inl rfl
    · rw [upv_far _ _ _ _ e, upv_far _ _ _ _ e]; exact .inr rfl) (HWN.out.obj.set 3 (.pointer none)) (HWN.out.row.far (p := ⟨xb, 3, none⟩) (HWN.out.row.ne HWN.out.obj (by decide)) (.pointer none))⟩

end

end Go.Proofs.Ytoecoijmkjhkgaa
