/- The contracts of law 07's world: thief. Written by donceg.py. -/
import Derived.Test.YtoecoijmkjhkgaaDonceT
namespace Go.Proofs.Ytoecoijmkjhkgaa
open Go.RowKit

section
variable {w wr : World} {mb ms xb hb lb n N : Nat} {cs : Array Value} {m : MS} {t : Nat → Tk} {pops : Bool} {at_ : Nat} {had : List Int} {pushed taken : Nat}

set_option maxRecDepth 100000 in
theorem thief_new0 (h : WSt w wr mb ms xb hb lb n N cs m t pops at_ had pushed taken) (hn : t 0 = none) (hR : dequeRight 3 n) :
    Calls Try.prog 28 #[.pointer (some ⟨xb, 0, none⟩), .int .i64 0] wr fun e w' => e = .returned (.tuple #[]) ∧ ∃ b kb, WSt w w' mb ms xb hb lb n N cs m (upv t 0 (some (b, kb, ⟨3, n, 2, 0, false, false, 0, 0, 0, false⟩))) pops at_ had pushed taken := by
  have c3 : wr.cell? ⟨xb, 6, none⟩ = some (.pointer none) := by have := h.obj.at 6 (v := pt (t 0)) rfl; rwa [hn] at this
  have HR := Lib.hid hR
  have HN := Lib.hid hn
  have HW := Lib.hid h
  have hz := h.obj.lt
  clear h hn hR
  go_enter Try.func28, Try.ntmps28
  go_upto_region 1 with fail
  have HW := Lib.hid (HW.out.quiet (Only.refl [] _).drew)
  have HF : Hid (∀ wx, Blk wx xb 64 (wCells mb n (pt (t 3)) pops at_ (pt (t 0)) (pt (t 1)) (pt (t 2)) hb N pushed taken) → wx.cell? ⟨xb, 1, none⟩ = some (.int .i64 3) ∧ wx.cell? ⟨xb, 2, none⟩ = some (.int .i64 n)) := Lib.hid fun wx h => ⟨h.at 1 rfl, h.at 2 rfl⟩
  have HB := Lib.hid HW.out.obj
  clear c3
  go_region_held3 (fun w' => w'.cell? ⟨xb, 1, none⟩ = some (.int .i64 3) ∧ w'.cell? ⟨xb, 2, none⟩ = some (.int .i64 n))
    (first | exact HF.out _ HB.out | exact HFB.out)
    (first
      | (go_at_call 32; refine (dsteal_some _ 3 n HR.out).mono ?_
         rintro e w1 ⟨b, kb, rfl, hb, hkb, ho, hd⟩
         have HB := Lib.hid (HW.out.quiet ho).obj
         have c3 : w1.cell? ⟨xb, 6, none⟩ = some (.pointer none) := by have := HB.out.at 6 (v := pt (t 0)) rfl; rwa [HN.out] at this
         have f3 := HB.out.frozen 6
         have HO := Lib.hid ho
         have HD := Lib.hid hd
         have HNB := Lib.hid (And.intro hb hkb)
         have HB2 := Lib.hid (HB.out.set 6 (.pointer (some ⟨b, 0, none⟩)))
         have HFB : Hid ((w1.setCell ⟨xb, 6, none⟩ (.pointer (some ⟨b, 0, none⟩))).cell? ⟨xb, 1, none⟩ = some (.int .i64 3) ∧ (w1.setCell ⟨xb, 6, none⟩ (.pointer (some ⟨b, 0, none⟩))).cell? ⟨xb, 2, none⟩ = some (.int .i64 n)) := Lib.hid ⟨HB2.out.at 1 rfl, HB2.out.at 2 rfl⟩
         clear hb hkb ho hd))
  have c12 := HB.out.at 12 (v := .bool false) rfl
  have f12 := HB.out.frozen 12
  go_wp2_with fail
  refine bodyPost_ret (v := .tuple #[]) (by simp [results, Try.results28, go_sem]) rfl ⟨rfl, b, kb, ?_⟩
  exact HW.out.fresh HO.out (by omega) HN.out HD.out HNB.out.1 HNB.out.2 (Only.setCell (Only.setCell (Only.refl [xb] w1) (p := ⟨xb, 6, none⟩) (by simp) (.pointer (some ⟨b, 0, none⟩))) (p := ⟨xb, 12, none⟩) (by simp) (.bool false))
    ((HB.out.set 6 (.pointer (some ⟨b, 0, none⟩))).set 12 (.bool false))

set_option maxHeartbeats 2000000 in
set_option maxRecDepth 100000 in
theorem thief_go0 (h : WSt w wr mb ms xb hb lb n N cs m t pops at_ had pushed taken) {b kb : Nat} {s s' : DQ} {m' : MS} (ht : t 0 = some (b, kb, s)) (hgo : s.go m = (s', m')) (hdd : s'.done = false) :
    Calls Try.prog 28 #[.pointer (some ⟨xb, 0, none⟩), .int .i64 0] wr fun e w' => e = .returned (.tuple #[]) ∧ WSt w w' mb ms xb hb lb n N cs m' (upv t 0 (some (b, kb, s'))) pops at_ had pushed taken := by
  obtain ⟨hq, l1, l2⟩ := h.is 0 (by decide) b kb s ht
  have c0 := h.obj.at 0 (v := .pointer (some ⟨mb, 0, none⟩)) rfl
  have c3 : wr.cell? ⟨xb, 6, none⟩ = some (.pointer (some ⟨b, 0, none⟩)) := by have := h.obj.at 6 (v := pt (t 0)) rfl; rwa [ht] at this
  have HW := Lib.hid h
  have HQ := Lib.hid hq
  have HT := Lib.hid ht
  have HGO := Lib.hid hgo
  have HDD := Lib.hid hdd
  have HRNG : Hid (m'.drng) := Lib.hid (by have := (dgo_rng s m hq.ok h.rng).1; rwa [hgo] at this)
  have HF : Hid (∀ wx (m2 : MS) (s2 : DQ), WSt w wx mb ms xb hb lb n N cs m2 (upv t 0 (some (b, kb, s2))) pops at_ had pushed taken → wx.cell? ⟨xb, 6, none⟩ = some (.pointer (some ⟨b, 0, none⟩)) ∧ wx.cell? ⟨xb, 0, none⟩ = some (.pointer (some ⟨mb, 0, none⟩))) := Lib.hid fun wx m2 s2 h => ⟨by
    have := h.obj.at 6 (v := pt (upv t 0 (some (b, kb, s2)) 0)) rfl
    rw [upv_same] at this
    exact this, h.obj.at 0 rfl⟩
  have hze := h.obj.lt
  clear h hq ht hgo hdd
  go_enter Try.func28, Try.ntmps28
  go_upto_region 3 with fail
  have HW := Lib.hid (HW.out.quiet (Only.refl [] _).drew)
  have HQ := Lib.hid (HQ.out.quiet (Only.refl [] _).drew)
  go_region_held3 (fun w' => w'.cell? ⟨xb, 6, none⟩ = some (.pointer (some ⟨b, 0, none⟩)) ∧ w'.cell? ⟨xb, 0, none⟩ = some (.pointer (some ⟨mb, 0, none⟩)))
    (first | exact ⟨c3, c0⟩ | exact HF.out _ _ _ HWN.out)
    (first
      | (go_at_call 35; refine (dstep_go HQ.out HW.out.mem HW.out.rng).mono ?_
         rintro e w5 ⟨he, ho, hm, hd⟩
         rw [HGO.out] at he hm hd
         dsimp only at he hm hd
         rw [HDD.out] at he
         subst he
         have HWN := Lib.hid (HW.out.step (by decide) HT.out ho hm HRNG.out hd)
         have HDN := Lib.hid hd
         clear ho hm hd))
  clear c0 c3
  go_wp2_with fail
  refine bodyPost_ret (v := .tuple #[]) (by simp [results, Try.results28, go_sem]) rfl ⟨rfl, HWN.out⟩

set_option maxHeartbeats 2000000 in
set_option maxRecDepth 100000 in
theorem thief_no0 (h : WSt w wr mb ms xb hb lb n N cs m t pops at_ had pushed taken) {b kb : Nat} {s s' : DQ} {m' : MS} (ht : t 0 = some (b, kb, s)) (hgo : s.go m = (s', m')) (hdd : s'.done = true) (hhs : s'.has = false) :
    Calls Try.prog 28 #[.pointer (some ⟨xb, 0, none⟩), .int .i64 0] wr fun e w' => e = .returned (.tuple #[]) ∧ WSt w w' mb ms xb hb lb n N cs m' (upv t 0 none) pops at_ had pushed taken := by
  obtain ⟨hq, l1, l2⟩ := h.is 0 (by decide) b kb s ht
  have c0 := h.obj.at 0 (v := .pointer (some ⟨mb, 0, none⟩)) rfl
  have c3 : wr.cell? ⟨xb, 6, none⟩ = some (.pointer (some ⟨b, 0, none⟩)) := by have := h.obj.at 6 (v := pt (t 0)) rfl; rwa [ht] at this
  have HW := Lib.hid h
  have HQ := Lib.hid hq
  have HT := Lib.hid ht
  have HGO := Lib.hid hgo
  have HDD := Lib.hid hdd
  have HRNG : Hid (m'.drng) := Lib.hid (by have := (dgo_rng s m hq.ok h.rng).1; rwa [hgo] at this)
  have HF : Hid (∀ wx (m2 : MS) (s2 : DQ), WSt w wx mb ms xb hb lb n N cs m2 (upv t 0 (some (b, kb, s2))) pops at_ had pushed taken → wx.cell? ⟨xb, 6, none⟩ = some (.pointer (some ⟨b, 0, none⟩)) ∧ wx.cell? ⟨xb, 0, none⟩ = some (.pointer (some ⟨mb, 0, none⟩))) := Lib.hid fun wx m2 s2 h => ⟨by
    have := h.obj.at 6 (v := pt (upv t 0 (some (b, kb, s2)) 0)) rfl
    rw [upv_same] at this
    exact this, h.obj.at 0 rfl⟩
  have hze := h.obj.lt
  have HHS := Lib.hid hhs
  clear hhs h hq ht hgo hdd
  go_enter Try.func28, Try.ntmps28
  go_upto_region 3 with fail
  have HW := Lib.hid (HW.out.quiet (Only.refl [] _).drew)
  have HQ := Lib.hid (HQ.out.quiet (Only.refl [] _).drew)
  go_region_held3 (fun w' => w'.cell? ⟨xb, 6, none⟩ = some (.pointer (some ⟨b, 0, none⟩)) ∧ w'.cell? ⟨xb, 0, none⟩ = some (.pointer (some ⟨mb, 0, none⟩)))
    (first | exact ⟨c3, c0⟩ | exact HF.out _ _ _ HWN.out)
    (first
      | (go_at_call 35; refine (dstep_go HQ.out HW.out.mem HW.out.rng).mono ?_
         rintro e w5 ⟨he, ho, hm, hd⟩
         rw [HGO.out] at he hm hd
         dsimp only at he hm hd
         rw [HDD.out] at he
         subst he
         have HWN := Lib.hid (HW.out.step (by decide) HT.out ho hm HRNG.out hd)
         have HDN := Lib.hid hd
         clear ho hm hd))
  clear c0 c3
  obtain ⟨c3, c0⟩ := HF.out _ _ _ HWN.out
  have hpr := dresult_any w5 b kb s' HDN.out
  unfold dVal at hpr
  rw [if_pos HDD.out, if_neg (by rw [HHS.out]; simp)] at hpr
  have HPR := Lib.hid hpr
  clear hpr
  go_wp2_with fail
  refine HPR.out.mono ?_
  rintro e w6 ⟨rfl, ho⟩
  have HWN := Lib.hid (HWN.out.quiet ho)
  clear ho c3 c0
  have HB := Lib.hid HWN.out.obj
  have c3 : w6.cell? ⟨xb, 6, none⟩ = some (.pointer (some ⟨b, 0, none⟩)) := (HF.out _ _ _ HWN.out).1
  have f3 := HB.out.frozen 6
  go_wp2_with fail
  refine bodyPost_end (v := .tuple #[]) (by simp [results, Try.results28, go_sem]) rfl ⟨rfl, HWN.out.put (Only.setCell (Only.refl [xb, hb] w6) (p := ⟨xb, 6, none⟩) (by simp) (.pointer none)) (fun k hk => by
    by_cases e : k = 0
    · rw [e, upv_same]; exact .inl rfl
    · rw [upv_far _ _ _ _ e, upv_far _ _ _ _ e]; exact .inr rfl) (HWN.out.obj.set 6 (.pointer none)) (HWN.out.row.far (p := ⟨xb, 6, none⟩) (HWN.out.row.ne HWN.out.obj (by decide)) (.pointer none))⟩

set_option maxHeartbeats 2000000 in
set_option maxRecDepth 100000 in
theorem thief_has0 (h : WSt w wr mb ms xb hb lb n N cs m t pops at_ had pushed taken) {b kb : Nat} {s s' : DQ} {m' : MS} (ht : t 0 = some (b, kb, s)) (hgo : s.go m = (s', m')) (hdd : s'.done = true) (hhs : s'.has = true) {i : Nat} (hi : i < N) (h0 : nth had i = 0) (hv : s'.v = 100 + (i : Int)) (hlen : had.length = N) (hN : N ≤ 20) (htk : taken ≤ 1000) :
    Calls Try.prog 28 #[.pointer (some ⟨xb, 0, none⟩), .int .i64 0] wr fun e w' => e = .returned (.tuple #[]) ∧ WSt w w' mb ms xb hb lb n N cs m' (upv t 0 none) pops at_ (had.set i 1) pushed (taken + 1) := by
  obtain ⟨hq, l1, l2⟩ := h.is 0 (by decide) b kb s ht
  have c0 := h.obj.at 0 (v := .pointer (some ⟨mb, 0, none⟩)) rfl
  have c3 : wr.cell? ⟨xb, 6, none⟩ = some (.pointer (some ⟨b, 0, none⟩)) := by have := h.obj.at 6 (v := pt (t 0)) rfl; rwa [ht] at this
  have HW := Lib.hid h
  have HQ := Lib.hid hq
  have HT := Lib.hid ht
  have HGO := Lib.hid hgo
  have HDD := Lib.hid hdd
  have HRNG : Hid (m'.drng) := Lib.hid (by have := (dgo_rng s m hq.ok h.rng).1; rwa [hgo] at this)
  have HF : Hid (∀ wx (m2 : MS) (s2 : DQ), WSt w wx mb ms xb hb lb n N cs m2 (upv t 0 (some (b, kb, s2))) pops at_ had pushed taken → wx.cell? ⟨xb, 6, none⟩ = some (.pointer (some ⟨b, 0, none⟩)) ∧ wx.cell? ⟨xb, 0, none⟩ = some (.pointer (some ⟨mb, 0, none⟩))) := Lib.hid fun wx m2 s2 h => ⟨by
    have := h.obj.at 6 (v := pt (upv t 0 (some (b, kb, s2)) 0)) rfl
    rw [upv_same] at this
    exact this, h.obj.at 0 rfl⟩
  have hze := h.obj.lt
  have HHS := Lib.hid hhs
  have HI := Lib.hid (And.intro hi (And.intro h0 (And.intro hlen hN)))
  have HV := Lib.hid hv
  clear h0 hlen hv
  clear hhs h hq ht hgo hdd
  go_enter Try.func28, Try.ntmps28
  go_upto_region 3 with fail
  have HW := Lib.hid (HW.out.quiet (Only.refl [] _).drew)
  have HQ := Lib.hid (HQ.out.quiet (Only.refl [] _).drew)
  go_region_held3 (fun w' => w'.cell? ⟨xb, 6, none⟩ = some (.pointer (some ⟨b, 0, none⟩)) ∧ w'.cell? ⟨xb, 0, none⟩ = some (.pointer (some ⟨mb, 0, none⟩)))
    (first | exact ⟨c3, c0⟩ | exact HF.out _ _ _ HWN.out)
    (first
      | (go_at_call 35; refine (dstep_go HQ.out HW.out.mem HW.out.rng).mono ?_
         rintro e w5 ⟨he, ho, hm, hd⟩
         rw [HGO.out] at he hm hd
         dsimp only at he hm hd
         rw [HDD.out] at he
         subst he
         have HWN := Lib.hid (HW.out.step (by decide) HT.out ho hm HRNG.out hd)
         have HDN := Lib.hid hd
         clear ho hm hd))
  clear c0 c3
  obtain ⟨c3, c0⟩ := HF.out _ _ _ HWN.out
  have hpr := dresult_any w5 b kb s' HDN.out
  unfold dVal at hpr
  rw [if_pos HDD.out, if_pos HHS.out] at hpr
  rw [HV.out] at hpr
  have HPR := Lib.hid hpr
  clear hpr
  go_wp2_with fail
  refine HPR.out.mono ?_
  rintro e w6 ⟨rfl, ho⟩
  have HWN := Lib.hid (HWN.out.quiet ho)
  clear ho c3 c0
  go_wp2_with fail
  refine (take_at HWN.out HI.out.1 HI.out.2.1 HI.out.2.2.1 HI.out.2.2.2 htk).mono ?_
  rintro e w7 ⟨rfl, hw⟩
  have HWN := Lib.hid hw
  have HB := Lib.hid hw.obj
  clear hw
  have c3 : w7.cell? ⟨xb, 6, none⟩ = some (.pointer (some ⟨b, 0, none⟩)) := by have := HB.out.at 6 (v := pt (upv t 0 (some (b, kb, s')) 0)) rfl; rw [upv_same] at this; exact this
  have f3 := HB.out.frozen 6
  go_wp2_with fail
  refine bodyPost_end (v := .tuple #[]) (by simp [results, Try.results28, go_sem]) rfl ⟨rfl, HWN.out.put (Only.setCell (Only.refl [xb, hb] w7) (p := ⟨xb, 6, none⟩) (by simp) (.pointer none)) (fun k hk => by
    by_cases e : k = 0
    · rw [e, upv_same]; exact .inl rfl
    · rw [upv_far _ _ _ _ e, upv_far _ _ _ _ e]; exact .inr rfl) (HWN.out.obj.set 6 (.pointer none)) (HWN.out.row.far (p := ⟨xb, 6, none⟩) (HWN.out.row.ne HWN.out.obj (by decide)) (.pointer none))⟩

set_option maxRecDepth 100000 in
theorem thief_new1 (h : WSt w wr mb ms xb hb lb n N cs m t pops at_ had pushed taken) (hn : t 1 = none) (hR : dequeRight 3 n) :
    Calls Try.prog 28 #[.pointer (some ⟨xb, 0, none⟩), .int .i64 1] wr fun e w' => e = .returned (.tuple #[]) ∧ ∃ b kb, WSt w w' mb ms xb hb lb n N cs m (upv t 1 (some (b, kb, ⟨3, n, 2, 0, false, false, 0, 0, 0, false⟩))) pops at_ had pushed taken := by
  have c3 : wr.cell? ⟨xb, 7, none⟩ = some (.pointer none) := by have := h.obj.at 7 (v := pt (t 1)) rfl; rwa [hn] at this
  have HR := Lib.hid hR
  have HN := Lib.hid hn
  have HW := Lib.hid h
  have hz := h.obj.lt
  clear h hn hR
  go_enter Try.func28, Try.ntmps28
  go_upto_region 1 with fail
  have HW := Lib.hid (HW.out.quiet (Only.refl [] _).drew)
  have HF : Hid (∀ wx, Blk wx xb 64 (wCells mb n (pt (t 3)) pops at_ (pt (t 0)) (pt (t 1)) (pt (t 2)) hb N pushed taken) → wx.cell? ⟨xb, 1, none⟩ = some (.int .i64 3) ∧ wx.cell? ⟨xb, 2, none⟩ = some (.int .i64 n)) := Lib.hid fun wx h => ⟨h.at 1 rfl, h.at 2 rfl⟩
  have HB := Lib.hid HW.out.obj
  clear c3
  go_region_held3 (fun w' => w'.cell? ⟨xb, 1, none⟩ = some (.int .i64 3) ∧ w'.cell? ⟨xb, 2, none⟩ = some (.int .i64 n))
    (first | exact HF.out _ HB.out | exact HFB.out)
    (first
      | (go_at_call 32; refine (dsteal_some _ 3 n HR.out).mono ?_
         rintro e w1 ⟨b, kb, rfl, hb, hkb, ho, hd⟩
         have HB := Lib.hid (HW.out.quiet ho).obj
         have c3 : w1.cell? ⟨xb, 7, none⟩ = some (.pointer none) := by have := HB.out.at 7 (v := pt (t 1)) rfl; rwa [HN.out] at this
         have f3 := HB.out.frozen 7
         have HO := Lib.hid ho
         have HD := Lib.hid hd
         have HNB := Lib.hid (And.intro hb hkb)
         have HB2 := Lib.hid (HB.out.set 7 (.pointer (some ⟨b, 0, none⟩)))
         have HFB : Hid ((w1.setCell ⟨xb, 7, none⟩ (.pointer (some ⟨b, 0, none⟩))).cell? ⟨xb, 1, none⟩ = some (.int .i64 3) ∧ (w1.setCell ⟨xb, 7, none⟩ (.pointer (some ⟨b, 0, none⟩))).cell? ⟨xb, 2, none⟩ = some (.int .i64 n)) := Lib.hid ⟨HB2.out.at 1 rfl, HB2.out.at 2 rfl⟩
         clear hb hkb ho hd))
  have c12 := HB.out.at 12 (v := .bool false) rfl
  have f12 := HB.out.frozen 12
  go_wp2_with fail
  refine bodyPost_ret (v := .tuple #[]) (by simp [results, Try.results28, go_sem]) rfl ⟨rfl, b, kb, ?_⟩
  exact HW.out.fresh HO.out (by omega) HN.out HD.out HNB.out.1 HNB.out.2 (Only.setCell (Only.setCell (Only.refl [xb] w1) (p := ⟨xb, 7, none⟩) (by simp) (.pointer (some ⟨b, 0, none⟩))) (p := ⟨xb, 12, none⟩) (by simp) (.bool false))
    ((HB.out.set 7 (.pointer (some ⟨b, 0, none⟩))).set 12 (.bool false))

set_option maxHeartbeats 2000000 in
set_option maxRecDepth 100000 in
theorem thief_go1 (h : WSt w wr mb ms xb hb lb n N cs m t pops at_ had pushed taken) {b kb : Nat} {s s' : DQ} {m' : MS} (ht : t 1 = some (b, kb, s)) (hgo : s.go m = (s', m')) (hdd : s'.done = false) :
    Calls Try.prog 28 #[.pointer (some ⟨xb, 0, none⟩), .int .i64 1] wr fun e w' => e = .returned (.tuple #[]) ∧ WSt w w' mb ms xb hb lb n N cs m' (upv t 1 (some (b, kb, s'))) pops at_ had pushed taken := by
  obtain ⟨hq, l1, l2⟩ := h.is 1 (by decide) b kb s ht
  have c0 := h.obj.at 0 (v := .pointer (some ⟨mb, 0, none⟩)) rfl
  have c3 : wr.cell? ⟨xb, 7, none⟩ = some (.pointer (some ⟨b, 0, none⟩)) := by have := h.obj.at 7 (v := pt (t 1)) rfl; rwa [ht] at this
  have HW := Lib.hid h
  have HQ := Lib.hid hq
  have HT := Lib.hid ht
  have HGO := Lib.hid hgo
  have HDD := Lib.hid hdd
  have HRNG : Hid (m'.drng) := Lib.hid (by have := (dgo_rng s m hq.ok h.rng).1; rwa [hgo] at this)
  have HF : Hid (∀ wx (m2 : MS) (s2 : DQ), WSt w wx mb ms xb hb lb n N cs m2 (upv t 1 (some (b, kb, s2))) pops at_ had pushed taken → wx.cell? ⟨xb, 7, none⟩ = some (.pointer (some ⟨b, 0, none⟩)) ∧ wx.cell? ⟨xb, 0, none⟩ = some (.pointer (some ⟨mb, 0, none⟩))) := Lib.hid fun wx m2 s2 h => ⟨by
    have := h.obj.at 7 (v := pt (upv t 1 (some (b, kb, s2)) 1)) rfl
    rw [upv_same] at this
    exact this, h.obj.at 0 rfl⟩
  have hze := h.obj.lt
  clear h hq ht hgo hdd
  go_enter Try.func28, Try.ntmps28
  go_upto_region 3 with fail
  have HW := Lib.hid (HW.out.quiet (Only.refl [] _).drew)
  have HQ := Lib.hid (HQ.out.quiet (Only.refl [] _).drew)
  go_region_held3 (fun w' => w'.cell? ⟨xb, 7, none⟩ = some (.pointer (some ⟨b, 0, none⟩)) ∧ w'.cell? ⟨xb, 0, none⟩ = some (.pointer (some ⟨mb, 0, none⟩)))
    (first | exact ⟨c3, c0⟩ | exact HF.out _ _ _ HWN.out)
    (first
      | (go_at_call 35; refine (dstep_go HQ.out HW.out.mem HW.out.rng).mono ?_
         rintro e w5 ⟨he, ho, hm, hd⟩
         rw [HGO.out] at he hm hd
         dsimp only at he hm hd
         rw [HDD.out] at he
         subst he
         have HWN := Lib.hid (HW.out.step (by decide) HT.out ho hm HRNG.out hd)
         have HDN := Lib.hid hd
         clear ho hm hd))
  clear c0 c3
  go_wp2_with fail
  refine bodyPost_ret (v := .tuple #[]) (by simp [results, Try.results28, go_sem]) rfl ⟨rfl, HWN.out⟩

set_option maxHeartbeats 2000000 in
set_option maxRecDepth 100000 in
theorem thief_no1 (h : WSt w wr mb ms xb hb lb n N cs m t pops at_ had pushed taken) {b kb : Nat} {s s' : DQ} {m' : MS} (ht : t 1 = some (b, kb, s)) (hgo : s.go m = (s', m')) (hdd : s'.done = true) (hhs : s'.has = false) :
    Calls Try.prog 28 #[.pointer (some ⟨xb, 0, none⟩), .int .i64 1] wr fun e w' => e = .returned (.tuple #[]) ∧ WSt w w' mb ms xb hb lb n N cs m' (upv t 1 none) pops at_ had pushed taken := by
  obtain ⟨hq, l1, l2⟩ := h.is 1 (by decide) b kb s ht
  have c0 := h.obj.at 0 (v := .pointer (some ⟨mb, 0, none⟩)) rfl
  have c3 : wr.cell? ⟨xb, 7, none⟩ = some (.pointer (some ⟨b, 0, none⟩)) := by have := h.obj.at 7 (v := pt (t 1)) rfl; rwa [ht] at this
  have HW := Lib.hid h
  have HQ := Lib.hid hq
  have HT := Lib.hid ht
  have HGO := Lib.hid hgo
  have HDD := Lib.hid hdd
  have HRNG : Hid (m'.drng) := Lib.hid (by have := (dgo_rng s m hq.ok h.rng).1; rwa [hgo] at this)
  have HF : Hid (∀ wx (m2 : MS) (s2 : DQ), WSt w wx mb ms xb hb lb n N cs m2 (upv t 1 (some (b, kb, s2))) pops at_ had pushed taken → wx.cell? ⟨xb, 7, none⟩ = some (.pointer (some ⟨b, 0, none⟩)) ∧ wx.cell? ⟨xb, 0, none⟩ = some (.pointer (some ⟨mb, 0, none⟩))) := Lib.hid fun wx m2 s2 h => ⟨by
    have := h.obj.at 7 (v := pt (upv t 1 (some (b, kb, s2)) 1)) rfl
    rw [upv_same] at this
    exact this, h.obj.at 0 rfl⟩
  have hze := h.obj.lt
  have HHS := Lib.hid hhs
  clear hhs h hq ht hgo hdd
  go_enter Try.func28, Try.ntmps28
  go_upto_region 3 with fail
  have HW := Lib.hid (HW.out.quiet (Only.refl [] _).drew)
  have HQ := Lib.hid (HQ.out.quiet (Only.refl [] _).drew)
  go_region_held3 (fun w' => w'.cell? ⟨xb, 7, none⟩ = some (.pointer (some ⟨b, 0, none⟩)) ∧ w'.cell? ⟨xb, 0, none⟩ = some (.pointer (some ⟨mb, 0, none⟩)))
    (first | exact ⟨c3, c0⟩ | exact HF.out _ _ _ HWN.out)
    (first
      | (go_at_call 35; refine (dstep_go HQ.out HW.out.mem HW.out.rng).mono ?_
         rintro e w5 ⟨he, ho, hm, hd⟩
         rw [HGO.out] at he hm hd
         dsimp only at he hm hd
         rw [HDD.out] at he
         subst he
         have HWN := Lib.hid (HW.out.step (by decide) HT.out ho hm HRNG.out hd)
         have HDN := Lib.hid hd
         clear ho hm hd))
  clear c0 c3
  obtain ⟨c3, c0⟩ := HF.out _ _ _ HWN.out
  have hpr := dresult_any w5 b kb s' HDN.out
  unfold dVal at hpr
  rw [if_pos HDD.out, if_neg (by rw [HHS.out]; simp)] at hpr
  have HPR := Lib.hid hpr
  clear hpr
  go_wp2_with fail
  refine HPR.out.mono ?_
  rintro e w6 ⟨rfl, ho⟩
  have HWN := Lib.hid (HWN.out.quiet ho)
  clear ho c3 c0
  have HB := Lib.hid HWN.out.obj
  have c3 : w6.cell? ⟨xb, 7, none⟩ = some (.pointer (some ⟨b, 0, none⟩)) := (HF.out _ _ _ HWN.out).1
  have f3 := HB.out.frozen 7
  go_wp2_with fail
  refine bodyPost_end (v := .tuple #[]) (by simp [results, Try.results28, go_sem]) rfl ⟨rfl, HWN.out.put (Only.setCell (Only.refl [xb, hb] w6) (p := ⟨xb, 7, none⟩) (by simp) (.pointer none)) (fun k hk => by
    by_cases e : k = 1
    · rw [e, upv_same]; exact .inl rfl
    · rw [upv_far _ _ _ _ e, upv_far _ _ _ _ e]; exact .inr rfl) (HWN.out.obj.set 7 (.pointer none)) (HWN.out.row.far (p := ⟨xb, 7, none⟩) (HWN.out.row.ne HWN.out.obj (by decide)) (.pointer none))⟩

set_option maxHeartbeats 2000000 in
set_option maxRecDepth 100000 in
theorem thief_has1 (h : WSt w wr mb ms xb hb lb n N cs m t pops at_ had pushed taken) {b kb : Nat} {s s' : DQ} {m' : MS} (ht : t 1 = some (b, kb, s)) (hgo : s.go m = (s', m')) (hdd : s'.done = true) (hhs : s'.has = true) {i : Nat} (hi : i < N) (h0 : nth had i = 0) (hv : s'.v = 100 + (i : Int)) (hlen : had.length = N) (hN : N ≤ 20) (htk : taken ≤ 1000) :
    Calls Try.prog 28 #[.pointer (some ⟨xb, 0, none⟩), .int .i64 1] wr fun e w' => e = .returned (.tuple #[]) ∧ WSt w w' mb ms xb hb lb n N cs m' (upv t 1 none) pops at_ (had.set i 1) pushed (taken + 1) := by
  obtain ⟨hq, l1, l2⟩ := h.is 1 (by decide) b kb s ht
  have c0 := h.obj.at 0 (v := .pointer (some ⟨mb, 0, none⟩)) rfl
  have c3 : wr.cell? ⟨xb, 7, none⟩ = some (.pointer (some ⟨b, 0, none⟩)) := by have := h.obj.at 7 (v := pt (t 1)) rfl; rwa [ht] at this
  have HW := Lib.hid h
  have HQ := Lib.hid hq
  have HT := Lib.hid ht
  have HGO := Lib.hid hgo
  have HDD := Lib.hid hdd
  have HRNG : Hid (m'.drng) := Lib.hid (by have := (dgo_rng s m hq.ok h.rng).1; rwa [hgo] at this)
  have HF : Hid (∀ wx (m2 : MS) (s2 : DQ), WSt w wx mb ms xb hb lb n N cs m2 (upv t 1 (some (b, kb, s2))) pops at_ had pushed taken → wx.cell? ⟨xb, 7, none⟩ = some (.pointer (some ⟨b, 0, none⟩)) ∧ wx.cell? ⟨xb, 0, none⟩ = some (.pointer (some ⟨mb, 0, none⟩))) := Lib.hid fun wx m2 s2 h => ⟨by
    have := h.obj.at 7 (v := pt (upv t 1 (some (b, kb, s2)) 1)) rfl
    rw [upv_same] at this
    exact this, h.obj.at 0 rfl⟩
  have hze := h.obj.lt
  have HHS := Lib.hid hhs
  have HI := Lib.hid (And.intro hi (And.intro h0 (And.intro hlen hN)))
  have HV := Lib.hid hv
  clear h0 hlen hv
  clear hhs h hq ht hgo hdd
  go_enter Try.func28, Try.ntmps28
  go_upto_region 3 with fail
  have HW := Lib.hid (HW.out.quiet (Only.refl [] _).drew)
  have HQ := Lib.hid (HQ.out.quiet (Only.refl [] _).drew)
  go_region_held3 (fun w' => w'.cell? ⟨xb, 7, none⟩ = some (.pointer (some ⟨b, 0, none⟩)) ∧ w'.cell? ⟨xb, 0, none⟩ = some (.pointer (some ⟨mb, 0, none⟩)))
    (first | exact ⟨c3, c0⟩ | exact HF.out _ _ _ HWN.out)
    (first
      | (go_at_call 35; refine (dstep_go HQ.out HW.out.mem HW.out.rng).mono ?_
         rintro e w5 ⟨he, ho, hm, hd⟩
         rw [HGO.out] at he hm hd
         dsimp only at he hm hd
         rw [HDD.out] at he
         subst he
         have HWN := Lib.hid (HW.out.step (by decide) HT.out ho hm HRNG.out hd)
         have HDN := Lib.hid hd
         clear ho hm hd))
  clear c0 c3
  obtain ⟨c3, c0⟩ := HF.out _ _ _ HWN.out
  have hpr := dresult_any w5 b kb s' HDN.out
  unfold dVal at hpr
  rw [if_pos HDD.out, if_pos HHS.out] at hpr
  rw [HV.out] at hpr
  have HPR := Lib.hid hpr
  clear hpr
  go_wp2_with fail
  refine HPR.out.mono ?_
  rintro e w6 ⟨rfl, ho⟩
  have HWN := Lib.hid (HWN.out.quiet ho)
  clear ho c3 c0
  go_wp2_with fail
  refine (take_at HWN.out HI.out.1 HI.out.2.1 HI.out.2.2.1 HI.out.2.2.2 htk).mono ?_
  rintro e w7 ⟨rfl, hw⟩
  have HWN := Lib.hid hw
  have HB := Lib.hid hw.obj
  clear hw
  have c3 : w7.cell? ⟨xb, 7, none⟩ = some (.pointer (some ⟨b, 0, none⟩)) := by have := HB.out.at 7 (v := pt (upv t 1 (some (b, kb, s')) 1)) rfl; rw [upv_same] at this; exact this
  have f3 := HB.out.frozen 7
  go_wp2_with fail
  refine bodyPost_end (v := .tuple #[]) (by simp [results, Try.results28, go_sem]) rfl ⟨rfl, HWN.out.put (Only.setCell (Only.refl [xb, hb] w7) (p := ⟨xb, 7, none⟩) (by simp) (.pointer none)) (fun k hk => by
    by_cases e : k = 1
    · rw [e, upv_same]; exact .inl rfl
    · rw [upv_far _ _ _ _ e, upv_far _ _ _ _ e]; exact .inr rfl) (HWN.out.obj.set 7 (.pointer none)) (HWN.out.row.far (p := ⟨xb, 7, none⟩) (HWN.out.row.ne HWN.out.obj (by decide)) (.pointer none))⟩

set_option maxRecDepth 100000 in
theorem thief_new2 (h : WSt w wr mb ms xb hb lb n N cs m t pops at_ had pushed taken) (hn : t 2 = none) (hR : dequeRight 3 n) :
    Calls Try.prog 28 #[.pointer (some ⟨xb, 0, none⟩), .int .i64 2] wr fun e w' => e = .returned (.tuple #[]) ∧ ∃ b kb, WSt w w' mb ms xb hb lb n N cs m (upv t 2 (some (b, kb, ⟨3, n, 2, 0, false, false, 0, 0, 0, false⟩))) pops at_ had pushed taken := by
  have c3 : wr.cell? ⟨xb, 8, none⟩ = some (.pointer none) := by have := h.obj.at 8 (v := pt (t 2)) rfl; rwa [hn] at this
  have HR := Lib.hid hR
  have HN := Lib.hid hn
  have HW := Lib.hid h
  have hz := h.obj.lt
  clear h hn hR
  go_enter Try.func28, Try.ntmps28
  go_upto_region 1 with fail
  have HW := Lib.hid (HW.out.quiet (Only.refl [] _).drew)
  have HF : Hid (∀ wx, Blk wx xb 64 (wCells mb n (pt (t 3)) pops at_ (pt (t 0)) (pt (t 1)) (pt (t 2)) hb N pushed taken) → wx.cell? ⟨xb, 1, none⟩ = some (.int .i64 3) ∧ wx.cell? ⟨xb, 2, none⟩ = some (.int .i64 n)) := Lib.hid fun wx h => ⟨h.at 1 rfl, h.at 2 rfl⟩
  have HB := Lib.hid HW.out.obj
  clear c3
  go_region_held3 (fun w' => w'.cell? ⟨xb, 1, none⟩ = some (.int .i64 3) ∧ w'.cell? ⟨xb, 2, none⟩ = some (.int .i64 n))
    (first | exact HF.out _ HB.out | exact HFB.out)
    (first
      | (go_at_call 32; refine (dsteal_some _ 3 n HR.out).mono ?_
         rintro e w1 ⟨b, kb, rfl, hb, hkb, ho, hd⟩
         have HB := Lib.hid (HW.out.quiet ho).obj
         have c3 : w1.cell? ⟨xb, 8, none⟩ = some (.pointer none) := by have := HB.out.at 8 (v := pt (t 2)) rfl; rwa [HN.out] at this
         have f3 := HB.out.frozen 8
         have HO := Lib.hid ho
         have HD := Lib.hid hd
         have HNB := Lib.hid (And.intro hb hkb)
         have HB2 := Lib.hid (HB.out.set 8 (.pointer (some ⟨b, 0, none⟩)))
         have HFB : Hid ((w1.setCell ⟨xb, 8, none⟩ (.pointer (some ⟨b, 0, none⟩))).cell? ⟨xb, 1, none⟩ = some (.int .i64 3) ∧ (w1.setCell ⟨xb, 8, none⟩ (.pointer (some ⟨b, 0, none⟩))).cell? ⟨xb, 2, none⟩ = some (.int .i64 n)) := Lib.hid ⟨HB2.out.at 1 rfl, HB2.out.at 2 rfl⟩
         clear hb hkb ho hd))
  have c12 := HB.out.at 12 (v := .bool false) rfl
  have f12 := HB.out.frozen 12
  go_wp2_with fail
  refine bodyPost_ret (v := .tuple #[]) (by simp [results, Try.results28, go_sem]) rfl ⟨rfl, b, kb, ?_⟩
  exact HW.out.fresh HO.out (by omega) HN.out HD.out HNB.out.1 HNB.out.2 (Only.setCell (Only.setCell (Only.refl [xb] w1) (p := ⟨xb, 8, none⟩) (by simp) (.pointer (some ⟨b, 0, none⟩))) (p := ⟨xb, 12, none⟩) (by simp) (.bool false))
    ((HB.out.set 8 (.pointer (some ⟨b, 0, none⟩))).set 12 (.bool false))

set_option maxHeartbeats 2000000 in
set_option maxRecDepth 100000 in
theorem thief_go2 (h : WSt w wr mb ms xb hb lb n N cs m t pops at_ had pushed taken) {b kb : Nat} {s s' : DQ} {m' : MS} (ht : t 2 = some (b, kb, s)) (hgo : s.go m = (s', m')) (hdd : s'.done = false) :
    Calls Try.prog 28 #[.pointer (some ⟨xb, 0, none⟩), .int .i64 2] wr fun e w' => e = .returned (.tuple #[]) ∧ WSt w w' mb ms xb hb lb n N cs m' (upv t 2 (some (b, kb, s'))) pops at_ had pushed taken := by
  obtain ⟨hq, l1, l2⟩ := h.is 2 (by decide) b kb s ht
  have c0 := h.obj.at 0 (v := .pointer (some ⟨mb, 0, none⟩)) rfl
  have c3 : wr.cell? ⟨xb, 8, none⟩ = some (.pointer (some ⟨b, 0, none⟩)) := by have := h.obj.at 8 (v := pt (t 2)) rfl; rwa [ht] at this
  have HW := Lib.hid h
  have HQ := Lib.hid hq
  have HT := Lib.hid ht
  have HGO := Lib.hid hgo
  have HDD := Lib.hid hdd
  have HRNG : Hid (m'.drng) := Lib.hid (by have := (dgo_rng s m hq.ok h.rng).1; rwa [hgo] at this)
  have HF : Hid (∀ wx (m2 : MS) (s2 : DQ), WSt w wx mb ms xb hb lb n N cs m2 (upv t 2 (some (b, kb, s2))) pops at_ had pushed taken → wx.cell? ⟨xb, 8, none⟩ = some (.pointer (some ⟨b, 0, none⟩)) ∧ wx.cell? ⟨xb, 0, none⟩ = some (.pointer (some ⟨mb, 0, none⟩))) := Lib.hid fun wx m2 s2 h => ⟨by
    have := h.obj.at 8 (v := pt (upv t 2 (some (b, kb, s2)) 2)) rfl
    rw [upv_same] at this
    exact this, h.obj.at 0 rfl⟩
  have hze := h.obj.lt
  clear h hq ht hgo hdd
  go_enter Try.func28, Try.ntmps28
  go_upto_region 3 with fail
  have HW := Lib.hid (HW.out.quiet (Only.refl [] _).drew)
  have HQ := Lib.hid (HQ.out.quiet (Only.refl [] _).drew)
  go_region_held3 (fun w' => w'.cell? ⟨xb, 8, none⟩ = some (.pointer (some ⟨b, 0, none⟩)) ∧ w'.cell? ⟨xb, 0, none⟩ = some (.pointer (some ⟨mb, 0, none⟩)))
    (first | exact ⟨c3, c0⟩ | exact HF.out _ _ _ HWN.out)
    (first
      | (go_at_call 35; refine (dstep_go HQ.out HW.out.mem HW.out.rng).mono ?_
         rintro e w5 ⟨he, ho, hm, hd⟩
         rw [HGO.out] at he hm hd
         dsimp only at he hm hd
         rw [HDD.out] at he
         subst he
         have HWN := Lib.hid (HW.out.step (by decide) HT.out ho hm HRNG.out hd)
         have HDN := Lib.hid hd
         clear ho hm hd))
  clear c0 c3
  go_wp2_with fail
  refine bodyPost_ret (v := .tuple #[]) (by simp [results, Try.results28, go_sem]) rfl ⟨rfl, HWN.out⟩

set_option maxHeartbeats 2000000 in
set_option maxRecDepth 100000 in
theorem thief_no2 (h : WSt w wr mb ms xb hb lb n N cs m t pops at_ had pushed taken) {b kb : Nat} {s s' : DQ} {m' : MS} (ht : t 2 = some (b, kb, s)) (hgo : s.go m = (s', m')) (hdd : s'.done = true) (hhs : s'.has = false) :
    Calls Try.prog 28 #[.pointer (some ⟨xb, 0, none⟩), .int .i64 2] wr fun e w' => e = .returned (.tuple #[]) ∧ WSt w w' mb ms xb hb lb n N cs m' (upv t 2 none) pops at_ had pushed taken := by
  obtain ⟨hq, l1, l2⟩ := h.is 2 (by decide) b kb s ht
  have c0 := h.obj.at 0 (v := .pointer (some ⟨mb, 0, none⟩)) rfl
  have c3 : wr.cell? ⟨xb, 8, none⟩ = some (.pointer (some ⟨b, 0, none⟩)) := by have := h.obj.at 8 (v := pt (t 2)) rfl; rwa [ht] at this
  have HW := Lib.hid h
  have HQ := Lib.hid hq
  have HT := Lib.hid ht
  have HGO := Lib.hid hgo
  have HDD := Lib.hid hdd
  have HRNG : Hid (m'.drng) := Lib.hid (by have := (dgo_rng s m hq.ok h.rng).1; rwa [hgo] at this)
  have HF : Hid (∀ wx (m2 : MS) (s2 : DQ), WSt w wx mb ms xb hb lb n N cs m2 (upv t 2 (some (b, kb, s2))) pops at_ had pushed taken → wx.cell? ⟨xb, 8, none⟩ = some (.pointer (some ⟨b, 0, none⟩)) ∧ wx.cell? ⟨xb, 0, none⟩ = some (.pointer (some ⟨mb, 0, none⟩))) := Lib.hid fun wx m2 s2 h => ⟨by
    have := h.obj.at 8 (v := pt (upv t 2 (some (b, kb, s2)) 2)) rfl
    rw [upv_same] at this
    exact this, h.obj.at 0 rfl⟩
  have hze := h.obj.lt
  have HHS := Lib.hid hhs
  clear hhs h hq ht hgo hdd
  go_enter Try.func28, Try.ntmps28
  go_upto_region 3 with fail
  have HW := Lib.hid (HW.out.quiet (Only.refl [] _).drew)
  have HQ := Lib.hid (HQ.out.quiet (Only.refl [] _).drew)
  go_region_held3 (fun w' => w'.cell? ⟨xb, 8, none⟩ = some (.pointer (some ⟨b, 0, none⟩)) ∧ w'.cell? ⟨xb, 0, none⟩ = some (.pointer (some ⟨mb, 0, none⟩)))
    (first | exact ⟨c3, c0⟩ | exact HF.out _ _ _ HWN.out)
    (first
      | (go_at_call 35; refine (dstep_go HQ.out HW.out.mem HW.out.rng).mono ?_
         rintro e w5 ⟨he, ho, hm, hd⟩
         rw [HGO.out] at he hm hd
         dsimp only at he hm hd
         rw [HDD.out] at he
         subst he
         have HWN := Lib.hid (HW.out.step (by decide) HT.out ho hm HRNG.out hd)
         have HDN := Lib.hid hd
         clear ho hm hd))
  clear c0 c3
  obtain ⟨c3, c0⟩ := HF.out _ _ _ HWN.out
  have hpr := dresult_any w5 b kb s' HDN.out
  unfold dVal at hpr
  rw [if_pos HDD.out, if_neg (by rw [HHS.out]; simp)] at hpr
  have HPR := Lib.hid hpr
  clear hpr
  go_wp2_with fail
  refine HPR.out.mono ?_
  rintro e w6 ⟨rfl, ho⟩
  have HWN := Lib.hid (HWN.out.quiet ho)
  clear ho c3 c0
  have HB := Lib.hid HWN.out.obj
  have c3 : w6.cell? ⟨xb, 8, none⟩ = some (.pointer (some ⟨b, 0, none⟩)) := (HF.out _ _ _ HWN.out).1
  have f3 := HB.out.frozen 8
  go_wp2_with fail
  refine bodyPost_end (v := .tuple #[]) (by simp [results, Try.results28, go_sem]) rfl ⟨rfl, HWN.out.put (Only.setCell (Only.refl [xb, hb] w6) (p := ⟨xb, 8, none⟩) (by simp) (.pointer none)) (fun k hk => by
    by_cases e : k = 2
    · rw [e, upv_same]; exact .inl rfl
    · rw [upv_far _ _ _ _ e, upv_far _ _ _ _ e]; exact .inr rfl) (HWN.out.obj.set 8 (.pointer none)) (HWN.out.row.far (p := ⟨xb, 8, none⟩) (HWN.out.row.ne HWN.out.obj (by decide)) (.pointer none))⟩

set_option maxHeartbeats 2000000 in
set_option maxRecDepth 100000 in
theorem thief_has2 (h : WSt w wr mb ms xb hb lb n N cs m t pops at_ had pushed taken) {b kb : Nat} {s s' : DQ} {m' : MS} (ht : t 2 = some (b, kb, s)) (hgo : s.go m = (s', m')) (hdd : s'.done = true) (hhs : s'.has = true) {i : Nat} (hi : i < N) (h0 : nth had i = 0) (hv : s'.v = 100 + (i : Int)) (hlen : had.length = N) (hN : N ≤ 20) (htk : taken ≤ 1000) :
    Calls Try.prog 28 #[.pointer (some ⟨xb, 0, none⟩), .int .i64 2] wr fun e w' => e = .returned (.tuple #[]) ∧ WSt w w' mb ms xb hb lb n N cs m' (upv t 2 none) pops at_ (had.set i 1) pushed (taken + 1) := by
  obtain ⟨hq, l1, l2⟩ := h.is 2 (by decide) b kb s ht
  have c0 := h.obj.at 0 (v := .pointer (some ⟨mb, 0, none⟩)) rfl
  have c3 : wr.cell? ⟨xb, 8, none⟩ = some (.pointer (some ⟨b, 0, none⟩)) := by have := h.obj.at 8 (v := pt (t 2)) rfl; rwa [ht] at this
  have HW := Lib.hid h
  have HQ := Lib.hid hq
  have HT := Lib.hid ht
  have HGO := Lib.hid hgo
  have HDD := Lib.hid hdd
  have HRNG : Hid (m'.drng) := Lib.hid (by have := (dgo_rng s m hq.ok h.rng).1; rwa [hgo] at this)
  have HF : Hid (∀ wx (m2 : MS) (s2 : DQ), WSt w wx mb ms xb hb lb n N cs m2 (upv t 2 (some (b, kb, s2))) pops at_ had pushed taken → wx.cell? ⟨xb, 8, none⟩ = some (.pointer (some ⟨b, 0, none⟩)) ∧ wx.cell? ⟨xb, 0, none⟩ = some (.pointer (some ⟨mb, 0, none⟩))) := Lib.hid fun wx m2 s2 h => ⟨by
    have := h.obj.at 8 (v := pt (upv t 2 (some (b, kb, s2)) 2)) rfl
    rw [upv_same] at this
    exact this, h.obj.at 0 rfl⟩
  have hze := h.obj.lt
  have HHS := Lib.hid hhs
  have HI := Lib.hid (And.intro hi (And.intro h0 (And.intro hlen hN)))
  have HV := Lib.hid hv
  clear h0 hlen hv
  clear hhs h hq ht hgo hdd
  go_enter Try.func28, Try.ntmps28
  go_upto_region 3 with fail
  have HW := Lib.hid (HW.out.quiet (Only.refl [] _).drew)
  have HQ := Lib.hid (HQ.out.quiet (Only.refl [] _).drew)
  go_region_held3 (fun w' => w'.cell? ⟨xb, 8, none⟩ = some (.pointer (some ⟨b, 0, none⟩)) ∧ w'.cell? ⟨xb, 0, none⟩ = some (.pointer (some ⟨mb, 0, none⟩)))
    (first | exact ⟨c3, c0⟩ | exact HF.out _ _ _ HWN.out)
    (first
      | (go_at_call 35; refine (dstep_go HQ.out HW.out.mem HW.out.rng).mono ?_
         rintro e w5 ⟨he, ho, hm, hd⟩
         rw [HGO.out] at he hm hd
         dsimp only at he hm hd
         rw [HDD.out] at he
         subst he
         have HWN := Lib.hid (HW.out.step (by decide) HT.out ho hm HRNG.out hd)
         have HDN := Lib.hid hd
         clear ho hm hd))
  clear c0 c3
  obtain ⟨c3, c0⟩ := HF.out _ _ _ HWN.out
  have hpr := dresult_any w5 b kb s' HDN.out
  unfold dVal at hpr
  rw [if_pos HDD.out, if_pos HHS.out] at hpr
  rw [HV.out] at hpr
  have HPR := Lib.hid hpr
  clear hpr
  go_wp2_with fail
  refine HPR.out.mono ?_
  rintro e w6 ⟨rfl, ho⟩
  have HWN := Lib.hid (HWN.out.quiet ho)
  clear ho c3 c0
  go_wp2_with fail
  refine (take_at HWN.out HI.out.1 HI.out.2.1 HI.out.2.2.1 HI.out.2.2.2 htk).mono ?_
  rintro e w7 ⟨rfl, hw⟩
  have HWN := Lib.hid hw
  have HB := Lib.hid hw.obj
  clear hw
  have c3 : w7.cell? ⟨xb, 8, none⟩ = some (.pointer (some ⟨b, 0, none⟩)) := by have := HB.out.at 8 (v := pt (upv t 2 (some (b, kb, s')) 2)) rfl; rw [upv_same] at this; exact this
  have f3 := HB.out.frozen 8
  go_wp2_with fail
  refine bodyPost_end (v := .tuple #[]) (by simp [results, Try.results28, go_sem]) rfl ⟨rfl, HWN.out.put (Only.setCell (Only.refl [xb, hb] w7) (p := ⟨xb, 8, none⟩) (by simp) (.pointer none)) (fun k hk => by
    by_cases e : k = 2
    · rw [e, upv_same]; exact .inl rfl
    · rw [upv_far _ _ _ _ e, upv_far _ _ _ _ e]; exact .inr rfl) (HWN.out.obj.set 8 (.pointer none)) (HWN.out.row.far (p := ⟨xb, 8, none⟩) (HWN.out.row.ne HWN.out.obj (by decide)) (.pointer none))⟩

end

end Go.Proofs.Ytoecoijmkjhkgaa
