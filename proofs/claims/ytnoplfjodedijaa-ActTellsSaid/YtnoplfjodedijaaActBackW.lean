/- The walk of law ActBack. -/
import Derived.Test.YtnoplfjodedijaaKnown3W
namespace Go.Proofs.Ytnoplfjodedijaa
open Go.RowKit

theorem shown_len {x : Four} (hf : x.fits) : x.shown.length ≤ 100 := by
  unfold Four.shown
  split
  · exact (guess_text (by assumption) hf).2.2.2
  · simp
theorem text_ne (x : Four) : x.text ≠ [] := by
  unfold Four.text
  simp
theorem says_nil : says [] = none := by
  cases hs : says [] with
  | none => rfl
  | some x => exact absurd (text_says hs).2.2 (text_ne x)

/-- Where law ActBack stands behind its three calls. -/
theorem parse_some (w : World) (l : List UInt8) (x : Four) (hl : l.length ≤ 9223372036854775807) (h : says l = some x) : Calls Try.prog 14 #[.string (bs l)] w fun e w' => e = .returned (.tuple #[.agg #[.int .i64 x.k, .int .i64 x.i, .int .u64 x.a, .int .u64 x.b], .bool true]) ∧ Only [] w w' :=
  (parse_any w l hl).mono fun e w' p => by
    unfold Parsed at p
    rw [h] at p
    exact p
theorem parse_none (w : World) (l : List UInt8) (hl : l.length ≤ 9223372036854775807) (h : says l = none) : Calls Try.prog 14 #[.string (bs l)] w fun e w' => e = .returned (.tuple #[.agg #[.int .i64 0, .int .i64 0, .int .u64 0, .int .u64 0], .bool false]) ∧ Only [] w w' :=
  (parse_any w l hl).mono fun e w' p => by
    unfold Parsed at p
    rw [h] at p
    exact p
theorem show_good (w : World) (x : Four) (hf : x.fits) (hg : x.good) : Calls Try.prog 20 #[.agg #[.int .i64 x.k, .int .i64 x.i, .int .u64 x.a, .int .u64 x.b]] w fun e w' => e = .returned (.string (bs x.text)) ∧ Only [] w w' :=
  (show_any w x.k x.i x.a x.b hf.1 hf.2.1 hf.2.2).mono fun e w' p => by
    have : Four.shown ⟨x.k, x.i, x.a, x.b⟩ = x.text := by show x.shown = _; rw [Four.shown, if_pos hg]
    rw [this] at p
    exact p

set_option maxHeartbeats 1000000 in
set_option maxRecDepth 100000 in
theorem back_gs (w : World) (k i : Int) (a b : Nat) (l : List UInt8) (y : Four) (hf : Four.fits ⟨k, i, a, b⟩) (hg : Four.good ⟨k, i, a, b⟩) (hl : l.length ≤ 200) (hs : says l = some y) :
    Calls Try.prog 4 #[.agg #[.int .i64 k, .int .i64 i, .int .u64 a, .int .u64 b], .string (bs l)] w fun e w' => e = .returned (.bool true) ∧ Only [] w w' := by
  have HA := Lib.hid (Blk.new w 24 #[.int .i64 k, .int .i64 i, .int .u64 a, .int .u64 b])
  have HO := Lib.hid ((Only.refl [] w).alloc (.cells #[.int .i64 k, .int .i64 i, .int .u64 a, .int .u64 b] 24))
  have hsz := bs_size l
  have hl1 : (l.length : Int) ≤ 200 := by omega
  have q0 := HA.out.at 0 (v := .int .i64 k) rfl
  have q1 := HA.out.at 1 (v := .int .i64 i) rfl
  have q2 := HA.out.at 2 (v := .int .u64 a) rfl
  have q3 := HA.out.at 3 (v := .int .u64 b) rfl
  have HF := Lib.hid hf
  have HG := Lib.hid hg
  have HS := Lib.hid hs
  clear hf hg hs
  go_enter Try.func4, Try.ntmps4
  go_wp2_with fail
  refine (show_any _ k i a b HF.out.1 HF.out.2.1 HF.out.2.2).mono ?_
  rintro e w1 ⟨rfl, ho⟩
  rw [show Four.shown ⟨k, i, a, b⟩ = (Four.text ⟨k, i, a, b⟩) by rw [Four.shown, if_pos HG.out]]
  have HA := Lib.hid (HA.out.only ho (by simp))
  have HO := Lib.hid (HO.out.trans ho)
  clear ho q0 q1 q2 q3
  go_wp2_with fail
  have HT := Lib.hid (guess_text HG.out HF.out).2.2.2
  obtain ⟨t, ht⟩ : ∃ t, Four.text ⟨k, i, a, b⟩ = t := ⟨_, rfl⟩
  rw [ht]
  have HTT := Lib.hid ht
  refine (parse_some _ t ⟨k, i, a, b⟩ (by rw [← HTT.out]; have := HT.out; omega) (by rw [← HTT.out]; exact says_text HG.out HF.out)).mono ?_
  rintro e w2 ⟨rfl, ho⟩
  have HA := Lib.hid ((HA.out.only ho (by simp)).alloc (.cells #[.int .i64 k, .int .i64 i, .int .u64 a, .int .u64 b] 24))
  have HB := Lib.hid (Blk.new w2 24 #[.int .i64 k, .int .i64 i, .int .u64 a, .int .u64 b])
  have HO := Lib.hid ((HO.out.trans ho).alloc (.cells #[.int .i64 k, .int .i64 i, .int .u64 a, .int .u64 b] 24))
  clear ho
  go_wp2_with fail
  refine (parse_some _ l y (by omega) HS.out).mono ?_
  rintro e w3 ⟨rfl, ho⟩
  have HA := Lib.hid ((HA.out.only ho (by simp)).alloc (.cells #[.int .i64 y.k, .int .i64 y.i, .int .u64 y.a, .int .u64 y.b] 24))
  have HB := Lib.hid ((HB.out.only ho (by simp)).alloc (.cells #[.int .i64 y.k, .int .i64 y.i, .int .u64 y.a, .int .u64 y.b] 24))
  have HC := Lib.hid (Blk.new w3 24 #[.int .i64 y.k, .int .i64 y.i, .int .u64 y.a, .int .u64 y.b])
  have HO := Lib.hid ((HO.out.trans ho).alloc (.cells #[.int .i64 y.k, .int .i64 y.i, .int .u64 y.a, .int .u64 y.b] 24))
  clear ho
  have q0 := HA.out.at 0 (v := .int .i64 k) rfl
  have q1 := HA.out.at 1 (v := .int .i64 i) rfl
  have q2 := HA.out.at 2 (v := .int .u64 a) rfl
  have q3 := HA.out.at 3 (v := .int .u64 b) rfl
  have r0 := HB.out.at 0 (v := .int .i64 k) rfl
  have r1 := HB.out.at 1 (v := .int .i64 i) rfl
  have r2 := HB.out.at 2 (v := .int .u64 a) rfl
  have r3 := HB.out.at 3 (v := .int .u64 b) rfl
  have s0 := HC.out.at 0 (v := .int .i64 y.k) rfl
  have s1 := HC.out.at 1 (v := .int .i64 y.i) rfl
  have s2 := HC.out.at 2 (v := .int .u64 y.a) rfl
  have s3 := HC.out.at 3 (v := .int .u64 y.b) rfl
  have htn : ¬ (bs t).toList = [] := by
    have := text_ne ⟨k, i, a, b⟩
    rw [HTT.out] at this
    rw [bs_list]
    exact this
  have hte : (bs t).toList.isEmpty = false := by simpa using htn
  go_wp2_with fail
  refine (show_good _ y (text_says HS.out).2.1 (text_says HS.out).1).mono ?_
  rintro e w4 ⟨rfl, ho⟩
  rw [(text_says HS.out).2.2]
  have HO := Lib.hid (HO.out.trans ho)
  clear ho q0 q1 q2 q3 r0 r1 r2 r3 s0 s1 s2 s3
  have hbb : ((bs l).toList == (bs l).toList) = true := by simp
  go_wp2_with fail
  refine (known03 _).mono ?_
  rintro e w5 ⟨rfl, ho⟩
  have HO := Lib.hid (HO.out.trans ho)
  clear ho
  go_wp2_with fail
  go_ret
  exact ⟨rfl, HO.out⟩

set_option maxHeartbeats 1000000 in
set_option maxRecDepth 100000 in
theorem back_gn (w : World) (k i : Int) (a b : Nat) (l : List UInt8) (hf : Four.fits ⟨k, i, a, b⟩) (hg : Four.good ⟨k, i, a, b⟩) (hl : l.length ≤ 200) (hs : says l = none) :
    Calls Try.prog 4 #[.agg #[.int .i64 k, .int .i64 i, .int .u64 a, .int .u64 b], .string (bs l)] w fun e w' => e = .returned (.bool true) ∧ Only [] w w' := by
  have HA := Lib.hid (Blk.new w 24 #[.int .i64 k, .int .i64 i, .int .u64 a, .int .u64 b])
  have HO := Lib.hid ((Only.refl [] w).alloc (.cells #[.int .i64 k, .int .i64 i, .int .u64 a, .int .u64 b] 24))
  have hsz := bs_size l
  have hl1 : (l.length : Int) ≤ 200 := by omega
  have q0 := HA.out.at 0 (v := .int .i64 k) rfl
  have q1 := HA.out.at 1 (v := .int .i64 i) rfl
  have q2 := HA.out.at 2 (v := .int .u64 a) rfl
  have q3 := HA.out.at 3 (v := .int .u64 b) rfl
  have HF := Lib.hid hf
  have HG := Lib.hid hg
  have HS := Lib.hid hs
  clear hf hg hs
  go_enter Try.func4, Try.ntmps4
  go_wp2_with fail
  refine (show_any _ k i a b HF.out.1 HF.out.2.1 HF.out.2.2).mono ?_
  rintro e w1 ⟨rfl, ho⟩
  rw [show Four.shown ⟨k, i, a, b⟩ = (Four.text ⟨k, i, a, b⟩) by rw [Four.shown, if_pos HG.out]]
  have HA := Lib.hid (HA.out.only ho (by simp))
  have HO := Lib.hid (HO.out.trans ho)
  clear ho q0 q1 q2 q3
  go_wp2_with fail
  have HT := Lib.hid (guess_text HG.out HF.out).2.2.2
  obtain ⟨t, ht⟩ : ∃ t, Four.text ⟨k, i, a, b⟩ = t := ⟨_, rfl⟩
  rw [ht]
  have HTT := Lib.hid ht
  refine (parse_some _ t ⟨k, i, a, b⟩ (by rw [← HTT.out]; have := HT.out; omega) (by rw [← HTT.out]; exact says_text HG.out HF.out)).mono ?_
  rintro e w2 ⟨rfl, ho⟩
  have HA := Lib.hid ((HA.out.only ho (by simp)).alloc (.cells #[.int .i64 k, .int .i64 i, .int .u64 a, .int .u64 b] 24))
  have HB := Lib.hid (Blk.new w2 24 #[.int .i64 k, .int .i64 i, .int .u64 a, .int .u64 b])
  have HO := Lib.hid ((HO.out.trans ho).alloc (.cells #[.int .i64 k, .int .i64 i, .int .u64 a, .int .u64 b] 24))
  clear ho
  go_wp2_with fail
  refine (parse_none _ l (by omega) HS.out).mono ?_
  rintro e w3 ⟨rfl, ho⟩
  have HA := Lib.hid ((HA.out.only ho (by simp)).alloc (.cells #[.int .i64 0, .int .i64 0, .int .u64 0, .int .u64 0] 24))
  have HB := Lib.hid ((HB.out.only ho (by simp)).alloc (.cells #[.int .i64 0, .int .i64 0, .int .u64 0, .int .u64 0] 24))
  have HC := Lib.hid (Blk.new w3 24 #[.int .i64 0, .int .i64 0, .int .u64 0, .int .u64 0])
  have HO := Lib.hid ((HO.out.trans ho).alloc (.cells #[.int .i64 0, .int .i64 0, .int .u64 0, .int .u64 0] 24))
  clear ho
  have q0 := HA.out.at 0 (v := .int .i64 k) rfl
  have q1 := HA.out.at 1 (v := .int .i64 i) rfl
  have q2 := HA.out.at 2 (v := .int .u64 a) rfl
  have q3 := HA.out.at 3 (v := .int .u64 b) rfl
  have r0 := HB.out.at 0 (v := .int .i64 k) rfl
  have r1 := HB.out.at 1 (v := .int .i64 i) rfl
  have r2 := HB.out.at 2 (v := .int .u64 a) rfl
  have r3 := HB.out.at 3 (v := .int .u64 b) rfl
  have s0 := HC.out.at 0 (v := .int .i64 0) rfl
  have s1 := HC.out.at 1 (v := .int .i64 0) rfl
  have s2 := HC.out.at 2 (v := .int .u64 0) rfl
  have s3 := HC.out.at 3 (v := .int .u64 0) rfl
  have htn : ¬ (bs t).toList = [] := by
    have := text_ne ⟨k, i, a, b⟩
    rw [HTT.out] at this
    rw [bs_list]
    exact this
  have hte : (bs t).toList.isEmpty = false := by simpa using htn
  go_wp2_with fail
  refine (known03 _).mono ?_
  rintro e w5 ⟨rfl, ho⟩
  have HO := Lib.hid (HO.out.trans ho)
  clear ho
  go_wp2_with fail
  go_ret
  exact ⟨rfl, HO.out⟩

set_option maxHeartbeats 1000000 in
set_option maxRecDepth 100000 in
theorem back_ns (w : World) (k i : Int) (a b : Nat) (l : List UInt8) (y : Four) (hf : Four.fits ⟨k, i, a, b⟩) (hg : ¬ Four.good ⟨k, i, a, b⟩) (hl : l.length ≤ 200) (hs : says l = some y) :
    Calls Try.prog 4 #[.agg #[.int .i64 k, .int .i64 i, .int .u64 a, .int .u64 b], .string (bs l)] w fun e w' => e = .returned (.bool true) ∧ Only [] w w' := by
  have HA := Lib.hid (Blk.new w 24 #[.int .i64 k, .int .i64 i, .int .u64 a, .int .u64 b])
  have HO := Lib.hid ((Only.refl [] w).alloc (.cells #[.int .i64 k, .int .i64 i, .int .u64 a, .int .u64 b] 24))
  have hsz := bs_size l
  have hl1 : (l.length : Int) ≤ 200 := by omega
  have q0 := HA.out.at 0 (v := .int .i64 k) rfl
  have q1 := HA.out.at 1 (v := .int .i64 i) rfl
  have q2 := HA.out.at 2 (v := .int .u64 a) rfl
  have q3 := HA.out.at 3 (v := .int .u64 b) rfl
  have HF := Lib.hid hf
  have HG := Lib.hid hg
  have HS := Lib.hid hs
  clear hf hg hs
  go_enter Try.func4, Try.ntmps4
  go_wp2_with fail
  refine (show_any _ k i a b HF.out.1 HF.out.2.1 HF.out.2.2).mono ?_
  rintro e w1 ⟨rfl, ho⟩
  rw [show Four.shown ⟨k, i, a, b⟩ = [] by rw [Four.shown, if_neg HG.out]]
  have HA := Lib.hid (HA.out.only ho (by simp))
  have HO := Lib.hid (HO.out.trans ho)
  clear ho q0 q1 q2 q3
  go_wp2_with fail
  refine (parse_none _ [] (by simp) says_nil).mono ?_
  rintro e w2 ⟨rfl, ho⟩
  have HA := Lib.hid ((HA.out.only ho (by simp)).alloc (.cells #[.int .i64 0, .int .i64 0, .int .u64 0, .int .u64 0] 24))
  have HB := Lib.hid (Blk.new w2 24 #[.int .i64 0, .int .i64 0, .int .u64 0, .int .u64 0])
  have HO := Lib.hid ((HO.out.trans ho).alloc (.cells #[.int .i64 0, .int .i64 0, .int .u64 0, .int .u64 0] 24))
  clear ho
  go_wp2_with fail
  refine (parse_some _ l y (by omega) HS.out).mono ?_
  rintro e w3 ⟨rfl, ho⟩
  have HA := Lib.hid ((HA.out.only ho (by simp)).alloc (.cells #[.int .i64 y.k, .int .i64 y.i, .int .u64 y.a, .int .u64 y.b] 24))
  have HB := Lib.hid ((HB.out.only ho (by simp)).alloc (.cells #[.int .i64 y.k, .int .i64 y.i, .int .u64 y.a, .int .u64 y.b] 24))
  have HC := Lib.hid (Blk.new w3 24 #[.int .i64 y.k, .int .i64 y.i, .int .u64 y.a, .int .u64 y.b])
  have HO := Lib.hid ((HO.out.trans ho).alloc (.cells #[.int .i64 y.k, .int .i64 y.i, .int .u64 y.a, .int .u64 y.b] 24))
  clear ho
  have q0 := HA.out.at 0 (v := .int .i64 k) rfl
  have q1 := HA.out.at 1 (v := .int .i64 i) rfl
  have q2 := HA.out.at 2 (v := .int .u64 a) rfl
  have q3 := HA.out.at 3 (v := .int .u64 b) rfl
  have r0 := HB.out.at 0 (v := .int .i64 0) rfl
  have r1 := HB.out.at 1 (v := .int .i64 0) rfl
  have r2 := HB.out.at 2 (v := .int .u64 0) rfl
  have r3 := HB.out.at 3 (v := .int .u64 0) rfl
  have s0 := HC.out.at 0 (v := .int .i64 y.k) rfl
  have s1 := HC.out.at 1 (v := .int .i64 y.i) rfl
  have s2 := HC.out.at 2 (v := .int .u64 y.a) rfl
  have s3 := HC.out.at 3 (v := .int .u64 y.b) rfl
  have htn : (bs []).toList = [] := bs_list []
  go_wp2_with fail
  refine (show_good _ y (text_says HS.out).2.1 (text_says HS.out).1).mono ?_
  rintro e w4 ⟨rfl, ho⟩
  rw [(text_says HS.out).2.2]
  have HO := Lib.hid (HO.out.trans ho)
  clear ho q0 q1 q2 q3 r0 r1 r2 r3 s0 s1 s2 s3
  have hbb : ((bs l).toList == (bs l).toList) = true := by simp
  go_wp2_with fail
  refine (known03 _).mono ?_
  rintro e w5 ⟨rfl, ho⟩
  have HO := Lib.hid (HO.out.trans ho)
  clear ho
  go_wp2_with fail
  go_ret
  exact ⟨rfl, HO.out⟩

set_option maxHeartbeats 1000000 in
set_option maxRecDepth 100000 in
theorem back_nn (w : World) (k i : Int) (a b : Nat) (l : List UInt8) (hf : Four.fits ⟨k, i, a, b⟩) (hg : ¬ Four.good ⟨k, i, a, b⟩) (hl : l.length ≤ 200) (hs : says l = none) :
    Calls Try.prog 4 #[.agg #[.int .i64 k, .int .i64 i, .int .u64 a, .int .u64 b], .string (bs l)] w fun e w' => e = .returned (.bool true) ∧ Only [] w w' := by
  have HA := Lib.hid (Blk.new w 24 #[.int .i64 k, .int .i64 i, .int .u64 a, .int .u64 b])
  have HO := Lib.hid ((Only.refl [] w).alloc (.cells #[.int .i64 k, .int .i64 i, .int .u64 a, .int .u64 b] 24))
  have hsz := bs_size l
  have hl1 : (l.length : Int) ≤ 200 := by omega
  have q0 := HA.out.at 0 (v := .int .i64 k) rfl
  have q1 := HA.out.at 1 (v := .int .i64 i) rfl
  have q2 := HA.out.at 2 (v := .int .u64 a) rfl
  have q3 := HA.out.at 3 (v := .int .u64 b) rfl
  have HF := Lib.hid hf
  have HG := Lib.hid hg
  have HS := Lib.hid hs
  clear hf hg hs
  go_enter Try.func4, Try.ntmps4
  go_wp2_with fail
  refine (show_any _ k i a b HF.out.1 HF.out.2.1 HF.out.2.2).mono ?_
  rintro e w1 ⟨rfl, ho⟩
  rw [show Four.shown ⟨k, i, a, b⟩ = [] by rw [Four.shown, if_neg HG.out]]
  have HA := Lib.hid (HA.out.only ho (by simp))
  have HO := Lib.hid (HO.out.trans ho)
  clear ho q0 q1 q2 q3
  go_wp2_with fail
  refine (parse_none _ [] (by simp) says_nil).mono ?_
  rintro e w2 ⟨rfl, ho⟩
  have HA := Lib.hid ((HA.out.only ho (by simp)).alloc (.cells #[.int .i64 0, .int .i64 0, .int .u64 0, .int .u64 0] 24))
  have HB := Lib.hid (Blk.new w2 24 #[.int .i64 0, .int .i64 0, .int .u64 0, .int .u64 0])
  have HO := Lib.hid ((HO.out.trans ho).alloc (.cells #[.int .i64 0, .int .i64 0, .int .u64 0, .int .u64 0] 24))
  clear ho
  go_wp2_with fail
  refine (parse_none _ l (by omega) HS.out).mono ?_
  rintro e w3 ⟨rfl, ho⟩
  have HA := Lib.hid ((HA.out.only ho (by simp)).alloc (.cells #[.int .i64 0, .int .i64 0, .int .u64 0, .int .u64 0] 24))
  have HB := Lib.hid ((HB.out.only ho (by simp)).alloc (.cells #[.int .i64 0, .int .i64 0, .int .u64 0, .int .u64 0] 24))
  have HC := Lib.hid (Blk.new w3 24 #[.int .i64 0, .int .i64 0, .int .u64 0, .int .u64 0])
  have HO := Lib.hid ((HO.out.trans ho).alloc (.cells #[.int .i64 0, .int .i64 0, .int .u64 0, .int .u64 0] 24))
  clear ho
  have q0 := HA.out.at 0 (v := .int .i64 k) rfl
  have q1 := HA.out.at 1 (v := .int .i64 i) rfl
  have q2 := HA.out.at 2 (v := .int .u64 a) rfl
  have q3 := HA.out.at 3 (v := .int .u64 b) rfl
  have r0 := HB.out.at 0 (v := .int .i64 0) rfl
  have r1 := HB.out.at 1 (v := .int .i64 0) rfl
  have r2 := HB.out.at 2 (v := .int .u64 0) rfl
  have r3 := HB.out.at 3 (v := .int .u64 0) rfl
  have s0 := HC.out.at 0 (v := .int .i64 0) rfl
  have s1 := HC.out.at 1 (v := .int .i64 0) rfl
  have s2 := HC.out.at 2 (v := .int .u64 0) rfl
  have s3 := HC.out.at 3 (v := .int .u64 0) rfl
  have htn : (bs []).toList = [] := bs_list []
  go_wp2_with fail
  refine (known03 _).mono ?_
  rintro e w5 ⟨rfl, ho⟩
  have HO := Lib.hid (HO.out.trans ho)
  clear ho
  go_wp2_with fail
  go_ret
  exact ⟨rfl, HO.out⟩

set_option maxRecDepth 100000 in
theorem back_long (w : World) (x : Value) (k i : Int) (a b : Nat) (hx : x = .agg #[.int .i64 k, .int .i64 i, .int .u64 a, .int .u64 b]) (l : List UInt8) (hl : 200 < l.length) :
    Calls Try.prog 4 #[x, .string (bs l)] w fun e w' => e = .returned (.bool true) ∧ Only [] w w' := by
  subst hx
  have hsz := bs_size l
  have hl1 : (200 : Int) < l.length := by omega
  have HO := Lib.hid ((Only.refl [] w).alloc (.cells #[.int .i64 k, .int .i64 i, .int .u64 a, .int .u64 b] 24))
  go_enter Try.func4, Try.ntmps4
  go_wp2_with fail
  refine (known03 _).mono ?_
  rintro e w5 ⟨rfl, ho⟩
  have HO := Lib.hid (HO.out.trans ho)
  clear ho
  go_wp2_with fail
  go_ret
  exact ⟨rfl, HO.out⟩

theorem actback_walk (w : World) (k i a b : Int) (s : ByteArray) (hi : i < 9223372036854775808) (ha0 : 0 ≤ a) (ha : a < 18446744073709551616) (hb0 : 0 ≤ b) (hb : b < 18446744073709551616) :
    Calls Try.prog 4 #[.agg #[.int .i64 k, .int .i64 i, .int .u64 a, .int .u64 b], .string s] w fun e w' => e = .returned (.bool true) ∧ Only [] w w' := by
  obtain ⟨a, rfl⟩ := Int.eq_ofNat_of_zero_le ha0
  obtain ⟨b, rfl⟩ := Int.eq_ofNat_of_zero_le hb0
  obtain ⟨l, rfl⟩ : ∃ l, s = bs l := ⟨s.data.toList, rfl⟩
  have hf : Four.fits ⟨k, i, a, b⟩ := ⟨hi, by show a < _; omega, by show b < _; omega⟩
  by_cases hl : l.length ≤ 200
  · by_cases hg : Four.good ⟨k, i, a, b⟩
    · cases hs : says l with
      | none => exact back_gn w k i a b l hf hg hl hs
      | some y => exact back_gs w k i a b l y hf hg hl hs
    · cases hs : says l with
      | none => exact back_nn w k i a b l hf hg hl hs
      | some y => exact back_ns w k i a b l y hf hg hl hs
  · exact back_long w _ k i a b rfl l (by omega)

end Go.Proofs.Ytnoplfjodedijaa
