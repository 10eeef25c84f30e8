/- The document's one who pushes or pops on a ring: Next. Written by rusgen.py. -/
import Derived.Test.YtoecoijmkjhkgaaRUs1
import Derived.Deep.RegionWith
namespace Go.Proofs.Ytoecoijmkjhkgaa
open Go.RowKit

set_option maxRecDepth 100000 in
theorem unext_f0 (w : World) (b n : Nat) (at_ pos v : Int) (h : RQ.ok ⟨at_, n, 0, pos, false, v⟩) (hb' : Blk w b 98 (uCells at_ n false v pos 0 false false)) :
    Calls Try.prog 48 #[.pointer (some ⟨b, 0, none⟩)] w fun e w' => e = .returned (.agg #[.int .i64 1, .int .i64 at_, .int .u64 0, .int .u64 0]) ∧ Only [] w w' := by
  have hb := hb'.alloc (.cells #[.int .i64 0, .int .i64 0, .int .u64 0, .int .u64 0] 74)
  have c0 := hb.at 0 (v := .int .i64 at_) rfl
  have c1 := hb.at 1 (v := .int .i64 n) rfl
  have c2 := hb.at 2 (v := .bool false) rfl
  have c3 := hb.at 3 (v := .int .u64 v) rfl
  have c4 := hb.at 4 (v := .int .u64 pos) rfl
  have c5 := hb.at 5 (v := .int .i64 0) rfl
  have c6 := hb.at 6 (v := .bool false) rfl
  have hlt := hb'.lt
  have a0 : 0 ≤ at_ := h.a0
  have a1 : at_ ≤ 65000 := h.a1
  have n2 : 2 ≤ n := h.n2
  have n64 : n ≤ 64 := h.n64
  have hw : IntKind.u64.wrap (n : Int) = n := by rw [IntKind.wrap_u64]; omega
  have hr := RQ.slot_range h
  have s0 : 2 ≤ slotOf at_ n pos := hr.2.2.1
  have s1 : slotOf at_ n pos ≤ 65130 := hr.2.2.2
  have h5 : IntKind.i64.wrap (slotOf at_ n pos + 1) = slotOf at_ n pos + 1 := wrap_i64 _ (by omega) (by omega)
  have h6 : IntKind.i64.wrap (at_ + 1) = at_ + 1 := wrap_i64 _ (by omega) (by omega)
  have HK := Lib.hid h
  clear hb hb' h hr
  go_enter Try.func48, Try.ntmps48
  go_wp2_with fail
  all_goals
    refine bodyPost_ret (v := .agg #[.int .i64 1, .int .i64 at_, .int .u64 0, .int .u64 0]) (by simp [results, Try.results48, go_sem]) rfl ⟨rfl, ?_⟩
    repeat (first | exact Only.refl _ _ | apply Only.alloc | apply Only.drew | refine Only.setCell ?_ (.inr (Nat.le_refl _)) _)

set_option maxRecDepth 100000 in
theorem unext_f1 (w : World) (b n : Nat) (at_ pos v : Int) (h : RQ.ok ⟨at_, n, 1, pos, false, v⟩) (hb' : Blk w b 98 (uCells at_ n false v pos 1 false false)) :
    Calls Try.prog 48 #[.pointer (some ⟨b, 0, none⟩)] w fun e w' => e = .returned (.agg #[.int .i64 1, .int .i64 (slotOf at_ n pos), .int .u64 0, .int .u64 0]) ∧ Only [] w w' := by
  have hb := hb'.alloc (.cells #[.int .i64 0, .int .i64 0, .int .u64 0, .int .u64 0] 74)
  have c0 := hb.at 0 (v := .int .i64 at_) rfl
  have c1 := hb.at 1 (v := .int .i64 n) rfl
  have c2 := hb.at 2 (v := .bool false) rfl
  have c3 := hb.at 3 (v := .int .u64 v) rfl
  have c4 := hb.at 4 (v := .int .u64 pos) rfl
  have c5 := hb.at 5 (v := .int .i64 1) rfl
  have c6 := hb.at 6 (v := .bool false) rfl
  have hlt := hb'.lt
  have a0 : 0 ≤ at_ := h.a0
  have a1 : at_ ≤ 65000 := h.a1
  have n2 : 2 ≤ n := h.n2
  have n64 : n ≤ 64 := h.n64
  have hw : IntKind.u64.wrap (n : Int) = n := by rw [IntKind.wrap_u64]; omega
  have hr := RQ.slot_range h
  have s0 : 2 ≤ slotOf at_ n pos := hr.2.2.1
  have s1 : slotOf at_ n pos ≤ 65130 := hr.2.2.2
  have h5 : IntKind.i64.wrap (slotOf at_ n pos + 1) = slotOf at_ n pos + 1 := wrap_i64 _ (by omega) (by omega)
  have h6 : IntKind.i64.wrap (at_ + 1) = at_ + 1 := wrap_i64 _ (by omega) (by omega)
  have HK := Lib.hid h
  clear hb hb' h hr
  go_enter Try.func48, Try.ntmps48
  go_wp2_with fail
  refine Calls.mono (uslot_at _ b at_ pos n _ v _ HK.out ?q0 ?q1 ?q4) ?_
  case q0 => exact c0
  case q1 => exact c1
  case q4 => exact c4
  rintro e w7 ⟨rfl, rfl⟩
  go_wp2_with fail
  all_goals
    refine bodyPost_ret (v := .agg #[.int .i64 1, .int .i64 (slotOf at_ n pos), .int .u64 0, .int .u64 0]) (by simp [results, Try.results48, go_sem]) rfl ⟨rfl, ?_⟩
    repeat (first | exact Only.refl _ _ | apply Only.alloc | apply Only.drew | refine Only.setCell ?_ (.inr (Nat.le_refl _)) _)

set_option maxRecDepth 100000 in
theorem unext_f2 (w : World) (b n : Nat) (at_ pos v : Int) (h : RQ.ok ⟨at_, n, 2, pos, false, v⟩) (hb' : Blk w b 98 (uCells at_ n false v pos 2 false false)) :
    Calls Try.prog 48 #[.pointer (some ⟨b, 0, none⟩)] w fun e w' => e = .returned (.agg #[.int .i64 3, .int .i64 at_, .int .u64 pos, .int .u64 (IntKind.u64.wrap (pos + 1))]) ∧ Only [] w w' := by
  have hb := hb'.alloc (.cells #[.int .i64 0, .int .i64 0, .int .u64 0, .int .u64 0] 74)
  have c0 := hb.at 0 (v := .int .i64 at_) rfl
  have c1 := hb.at 1 (v := .int .i64 n) rfl
  have c2 := hb.at 2 (v := .bool false) rfl
  have c3 := hb.at 3 (v := .int .u64 v) rfl
  have c4 := hb.at 4 (v := .int .u64 pos) rfl
  have c5 := hb.at 5 (v := .int .i64 2) rfl
  have c6 := hb.at 6 (v := .bool false) rfl
  have hlt := hb'.lt
  have a0 : 0 ≤ at_ := h.a0
  have a1 : at_ ≤ 65000 := h.a1
  have n2 : 2 ≤ n := h.n2
  have n64 : n ≤ 64 := h.n64
  have hw : IntKind.u64.wrap (n : Int) = n := by rw [IntKind.wrap_u64]; omega
  have hr := RQ.slot_range h
  have s0 : 2 ≤ slotOf at_ n pos := hr.2.2.1
  have s1 : slotOf at_ n pos ≤ 65130 := hr.2.2.2
  have h5 : IntKind.i64.wrap (slotOf at_ n pos + 1) = slotOf at_ n pos + 1 := wrap_i64 _ (by omega) (by omega)
  have h6 : IntKind.i64.wrap (at_ + 1) = at_ + 1 := wrap_i64 _ (by omega) (by omega)
  have HK := Lib.hid h
  clear hb hb' h hr
  go_enter Try.func48, Try.ntmps48
  go_wp2_with fail
  go_region
  all_goals
    go_wp2_with fail
  all_goals
    refine bodyPost_ret (v := .agg #[.int .i64 3, .int .i64 at_, .int .u64 pos, .int .u64 (IntKind.u64.wrap (pos + 1))]) (by simp [results, Try.results48, go_sem]) rfl ⟨rfl, ?_⟩
    repeat (first | exact Only.refl _ _ | apply Only.alloc | apply Only.drew | refine Only.setCell ?_ (.inr (Nat.le_refl _)) _)

set_option maxRecDepth 100000 in
theorem unext_f3 (w : World) (b n : Nat) (at_ pos v : Int) (h : RQ.ok ⟨at_, n, 3, pos, false, v⟩) (hb' : Blk w b 98 (uCells at_ n false v pos 3 false false)) :
    Calls Try.prog 48 #[.pointer (some ⟨b, 0, none⟩)] w fun e w' => e = .returned (.agg #[.int .i64 2, .int .i64 (slotOf at_ n pos + 1), .int .u64 v, .int .u64 0]) ∧ Only [] w w' := by
  have hb := hb'.alloc (.cells #[.int .i64 0, .int .i64 0, .int .u64 0, .int .u64 0] 74)
  have c0 := hb.at 0 (v := .int .i64 at_) rfl
  have c1 := hb.at 1 (v := .int .i64 n) rfl
  have c2 := hb.at 2 (v := .bool false) rfl
  have c3 := hb.at 3 (v := .int .u64 v) rfl
  have c4 := hb.at 4 (v := .int .u64 pos) rfl
  have c5 := hb.at 5 (v := .int .i64 3) rfl
  have c6 := hb.at 6 (v := .bool false) rfl
  have hlt := hb'.lt
  have a0 : 0 ≤ at_ := h.a0
  have a1 : at_ ≤ 65000 := h.a1
  have n2 : 2 ≤ n := h.n2
  have n64 : n ≤ 64 := h.n64
  have hw : IntKind.u64.wrap (n : Int) = n := by rw [IntKind.wrap_u64]; omega
  have hr := RQ.slot_range h
  have s0 : 2 ≤ slotOf at_ n pos := hr.2.2.1
  have s1 : slotOf at_ n pos ≤ 65130 := hr.2.2.2
  have h5 : IntKind.i64.wrap (slotOf at_ n pos + 1) = slotOf at_ n pos + 1 := wrap_i64 _ (by omega) (by omega)
  have h6 : IntKind.i64.wrap (at_ + 1) = at_ + 1 := wrap_i64 _ (by omega) (by omega)
  have HK := Lib.hid h
  clear hb hb' h hr
  go_enter Try.func48, Try.ntmps48
  go_wp2_with fail
  go_region_with (go_at_call 72; refine Calls.mono (uslot_at _ b at_ pos n _ v _ HK.out ?q0 ?q1 ?q4) ?_; (case q0 => exact c0); (case q1 => exact c1); (case q4 => exact c4); rintro e w7 ⟨rfl, rfl⟩)
  all_goals go_wp2_with fail
  all_goals
    refine bodyPost_ret (v := .agg #[.int .i64 2, .int .i64 (slotOf at_ n pos + 1), .int .u64 v, .int .u64 0]) (by simp [results, Try.results48, go_sem]) rfl ⟨rfl, ?_⟩
    repeat (first | exact Only.refl _ _ | apply Only.alloc | apply Only.drew | refine Only.setCell ?_ (.inr (Nat.le_refl _)) _)

set_option maxRecDepth 100000 in
theorem unext_f4 (w : World) (b n : Nat) (at_ pos v : Int) (h : RQ.ok ⟨at_, n, 4, pos, false, v⟩) (hb' : Blk w b 98 (uCells at_ n false v pos 4 false false)) :
    Calls Try.prog 48 #[.pointer (some ⟨b, 0, none⟩)] w fun e w' => e = .returned (.agg #[.int .i64 2, .int .i64 (slotOf at_ n pos), .int .u64 (IntKind.u64.wrap (pos + 1)), .int .u64 0]) ∧ Only [] w w' := by
  have hb := hb'.alloc (.cells #[.int .i64 0, .int .i64 0, .int .u64 0, .int .u64 0] 74)
  have c0 := hb.at 0 (v := .int .i64 at_) rfl
  have c1 := hb.at 1 (v := .int .i64 n) rfl
  have c2 := hb.at 2 (v := .bool false) rfl
  have c3 := hb.at 3 (v := .int .u64 v) rfl
  have c4 := hb.at 4 (v := .int .u64 pos) rfl
  have c5 := hb.at 5 (v := .int .i64 4) rfl
  have c6 := hb.at 6 (v := .bool false) rfl
  have hlt := hb'.lt
  have a0 : 0 ≤ at_ := h.a0
  have a1 : at_ ≤ 65000 := h.a1
  have n2 : 2 ≤ n := h.n2
  have n64 : n ≤ 64 := h.n64
  have hw : IntKind.u64.wrap (n : Int) = n := by rw [IntKind.wrap_u64]; omega
  have hr := RQ.slot_range h
  have s0 : 2 ≤ slotOf at_ n pos := hr.2.2.1
  have s1 : slotOf at_ n pos ≤ 65130 := hr.2.2.2
  have h5 : IntKind.i64.wrap (slotOf at_ n pos + 1) = slotOf at_ n pos + 1 := wrap_i64 _ (by omega) (by omega)
  have h6 : IntKind.i64.wrap (at_ + 1) = at_ + 1 := wrap_i64 _ (by omega) (by omega)
  have HK := Lib.hid h
  clear hb hb' h hr
  go_enter Try.func48, Try.ntmps48
  go_wp2_with fail
  refine Calls.mono (uslot_at _ b at_ pos n _ v _ HK.out ?q0 ?q1 ?q4) ?_
  case q0 => exact c0
  case q1 => exact c1
  case q4 => exact c4
  rintro e w7 ⟨rfl, rfl⟩
  go_wp2_with fail
  all_goals
    refine bodyPost_ret (v := .agg #[.int .i64 2, .int .i64 (slotOf at_ n pos), .int .u64 (IntKind.u64.wrap (pos + 1)), .int .u64 0]) (by simp [results, Try.results48, go_sem]) rfl ⟨rfl, ?_⟩
    repeat (first | exact Only.refl _ _ | apply Only.alloc | apply Only.drew | refine Only.setCell ?_ (.inr (Nat.le_refl _)) _)

set_option maxRecDepth 100000 in
theorem unext_t0 (w : World) (b n : Nat) (at_ pos v : Int) (h : RQ.ok ⟨at_, n, 0, pos, false, v⟩) (hb' : Blk w b 98 (uCells at_ n true v pos 0 false false)) :
    Calls Try.prog 48 #[.pointer (some ⟨b, 0, none⟩)] w fun e w' => e = .returned (.agg #[.int .i64 1, .int .i64 (at_ + 1), .int .u64 0, .int .u64 0]) ∧ Only [] w w' := by
  have hb := hb'.alloc (.cells #[.int .i64 0, .int .i64 0, .int .u64 0, .int .u64 0] 74)
  have c0 := hb.at 0 (v := .int .i64 at_) rfl
  have c1 := hb.at 1 (v := .int .i64 n) rfl
  have c2 := hb.at 2 (v := .bool true) rfl
  have c3 := hb.at 3 (v := .int .u64 v) rfl
  have c4 := hb.at 4 (v := .int .u64 pos) rfl
  have c5 := hb.at 5 (v := .int .i64 0) rfl
  have c6 := hb.at 6 (v := .bool false) rfl
  have hlt := hb'.lt
  have a0 : 0 ≤ at_ := h.a0
  have a1 : at_ ≤ 65000 := h.a1
  have n2 : 2 ≤ n := h.n2
  have n64 : n ≤ 64 := h.n64
  have hw : IntKind.u64.wrap (n : Int) = n := by rw [IntKind.wrap_u64]; omega
  have hr := RQ.slot_range h
  have s0 : 2 ≤ slotOf at_ n pos := hr.2.2.1
  have s1 : slotOf at_ n pos ≤ 65130 := hr.2.2.2
  have h5 : IntKind.i64.wrap (slotOf at_ n pos + 1) = slotOf at_ n pos + 1 := wrap_i64 _ (by omega) (by omega)
  have h6 : IntKind.i64.wrap (at_ + 1) = at_ + 1 := wrap_i64 _ (by omega) (by omega)
  have HK := Lib.hid h
  clear hb hb' h hr
  go_enter Try.func48, Try.ntmps48
  go_wp2_with fail
  go_region
  all_goals
    go_wp2_with fail
  all_goals
    refine bodyPost_ret (v := .agg #[.int .i64 1, .int .i64 (at_ + 1), .int .u64 0, .int .u64 0]) (by simp [results, Try.results48, go_sem]) rfl ⟨rfl, ?_⟩
    repeat (first | exact Only.refl _ _ | apply Only.alloc | apply Only.drew | refine Only.setCell ?_ (.inr (Nat.le_refl _)) _)

set_option maxRecDepth 100000 in
theorem unext_t1 (w : World) (b n : Nat) (at_ pos v : Int) (h : RQ.ok ⟨at_, n, 1, pos, false, v⟩) (hb' : Blk w b 98 (uCells at_ n true v pos 1 false false)) :
    Calls Try.prog 48 #[.pointer (some ⟨b, 0, none⟩)] w fun e w' => e = .returned (.agg #[.int .i64 1, .int .i64 (slotOf at_ n pos), .int .u64 0, .int .u64 0]) ∧ Only [] w w' := by
  have hb := hb'.alloc (.cells #[.int .i64 0, .int .i64 0, .int .u64 0, .int .u64 0] 74)
  have c0 := hb.at 0 (v := .int .i64 at_) rfl
  have c1 := hb.at 1 (v := .int .i64 n) rfl
  have c2 := hb.at 2 (v := .bool true) rfl
  have c3 := hb.at 3 (v := .int .u64 v) rfl
  have c4 := hb.at 4 (v := .int .u64 pos) rfl
  have c5 := hb.at 5 (v := .int .i64 1) rfl
  have c6 := hb.at 6 (v := .bool false) rfl
  have hlt := hb'.lt
  have a0 : 0 ≤ at_ := h.a0
  have a1 : at_ ≤ 65000 := h.a1
  have n2 : 2 ≤ n := h.n2
  have n64 : n ≤ 64 := h.n64
  have hw : IntKind.u64.wrap (n : Int) = n := by rw [IntKind.wrap_u64]; omega
  have hr := RQ.slot_range h
  have s0 : 2 ≤ slotOf at_ n pos := hr.2.2.1
  have s1 : slotOf at_ n pos ≤ 65130 := hr.2.2.2
  have h5 : IntKind.i64.wrap (slotOf at_ n pos + 1) = slotOf at_ n pos + 1 := wrap_i64 _ (by omega) (by omega)
  have h6 : IntKind.i64.wrap (at_ + 1) = at_ + 1 := wrap_i64 _ (by omega) (by omega)
  have HK := Lib.hid h
  clear hb hb' h hr
  go_enter Try.func48, Try.ntmps48
  go_wp2_with fail
  go_region
  all_goals
    go_wp2_with fail
    refine Calls.mono (uslot_at _ b at_ pos n _ v _ HK.out ?q0 ?q1 ?q4) ?_
    case q0 => exact c0
    case q1 => exact c1
    case q4 => exact c4
    rintro e w7 ⟨rfl, rfl⟩
    go_wp2_with fail
  all_goals
    refine bodyPost_ret (v := .agg #[.int .i64 1, .int .i64 (slotOf at_ n pos), .int .u64 0, .int .u64 0]) (by simp [results, Try.results48, go_sem]) rfl ⟨rfl, ?_⟩
    repeat (first | exact Only.refl _ _ | apply Only.alloc | apply Only.drew | refine Only.setCell ?_ (.inr (Nat.le_refl _)) _)

set_option maxRecDepth 100000 in
theorem unext_t2 (w : World) (b n : Nat) (at_ pos v : Int) (h : RQ.ok ⟨at_, n, 2, pos, false, v⟩) (hb' : Blk w b 98 (uCells at_ n true v pos 2 false false)) :
    Calls Try.prog 48 #[.pointer (some ⟨b, 0, none⟩)] w fun e w' => e = .returned (.agg #[.int .i64 3, .int .i64 (at_ + 1), .int .u64 pos, .int .u64 (IntKind.u64.wrap (pos + 1))]) ∧ Only [] w w' := by
  have hb := hb'.alloc (.cells #[.int .i64 0, .int .i64 0, .int .u64 0, .int .u64 0] 74)
  have c0 := hb.at 0 (v := .int .i64 at_) rfl
  have c1 := hb.at 1 (v := .int .i64 n) rfl
  have c2 := hb.at 2 (v := .bool true) rfl
  have c3 := hb.at 3 (v := .int .u64 v) rfl
  have c4 := hb.at 4 (v := .int .u64 pos) rfl
  have c5 := hb.at 5 (v := .int .i64 2) rfl
  have c6 := hb.at 6 (v := .bool false) rfl
  have hlt := hb'.lt
  have a0 : 0 ≤ at_ := h.a0
  have a1 : at_ ≤ 65000 := h.a1
  have n2 : 2 ≤ n := h.n2
  have n64 : n ≤ 64 := h.n64
  have hw : IntKind.u64.wrap (n : Int) = n := by rw [IntKind.wrap_u64]; omega
  have hr := RQ.slot_range h
  have s0 : 2 ≤ slotOf at_ n pos := hr.2.2.1
  have s1 : slotOf at_ n pos ≤ 65130 := hr.2.2.2
  have h5 : IntKind.i64.wrap (slotOf at_ n pos + 1) = slotOf at_ n pos + 1 := wrap_i64 _ (by omega) (by omega)
  have h6 : IntKind.i64.wrap (at_ + 1) = at_ + 1 := wrap_i64 _ (by omega) (by omega)
  have HK := Lib.hid h
  clear hb hb' h hr
  go_enter Try.func48, Try.ntmps48
  go_wp2_with fail
  go_region
  all_goals
    go_wp2_with fail
    go_region
    all_goals go_wp2_with fail
  all_goals
    refine bodyPost_ret (v := .agg #[.int .i64 3, .int .i64 (at_ + 1), .int .u64 pos, .int .u64 (IntKind.u64.wrap (pos + 1))]) (by simp [results, Try.results48, go_sem]) rfl ⟨rfl, ?_⟩
    repeat (first | exact Only.refl _ _ | apply Only.alloc | apply Only.drew | refine Only.setCell ?_ (.inr (Nat.le_refl _)) _)

set_option maxRecDepth 100000 in
theorem unext_t3 (w : World) (b n : Nat) (at_ pos v : Int) (h : RQ.ok ⟨at_, n, 3, pos, false, v⟩) (hb' : Blk w b 98 (uCells at_ n true v pos 3 false false)) :
    Calls Try.prog 48 #[.pointer (some ⟨b, 0, none⟩)] w fun e w' => e = .returned (.agg #[.int .i64 1, .int .i64 (slotOf at_ n pos + 1), .int .u64 0, .int .u64 0]) ∧ Only [] w w' := by
  have hb := hb'.alloc (.cells #[.int .i64 0, .int .i64 0, .int .u64 0, .int .u64 0] 74)
  have c0 := hb.at 0 (v := .int .i64 at_) rfl
  have c1 := hb.at 1 (v := .int .i64 n) rfl
  have c2 := hb.at 2 (v := .bool true) rfl
  have c3 := hb.at 3 (v := .int .u64 v) rfl
  have c4 := hb.at 4 (v := .int .u64 pos) rfl
  have c5 := hb.at 5 (v := .int .i64 3) rfl
  have c6 := hb.at 6 (v := .bool false) rfl
  have hlt := hb'.lt
  have a0 : 0 ≤ at_ := h.a0
  have a1 : at_ ≤ 65000 := h.a1
  have n2 : 2 ≤ n := h.n2
  have n64 : n ≤ 64 := h.n64
  have hw : IntKind.u64.wrap (n : Int) = n := by rw [IntKind.wrap_u64]; omega
  have hr := RQ.slot_range h
  have s0 : 2 ≤ slotOf at_ n pos := hr.2.2.1
  have s1 : slotOf at_ n pos ≤ 65130 := hr.2.2.2
  have h5 : IntKind.i64.wrap (slotOf at_ n pos + 1) = slotOf at_ n pos + 1 := wrap_i64 _ (by omega) (by omega)
  have h6 : IntKind.i64.wrap (at_ + 1) = at_ + 1 := wrap_i64 _ (by omega) (by omega)
  have HK := Lib.hid h
  clear hb hb' h hr
  go_enter Try.func48, Try.ntmps48
  go_wp2_with fail
  go_region
  all_goals
    go_wp2_with fail
    refine Calls.mono (uslot_at _ b at_ pos n _ v _ HK.out ?q0 ?q1 ?q4) ?_
    case q0 => exact c0
    case q1 => exact c1
    case q4 => exact c4
    rintro e w7 ⟨rfl, rfl⟩
    go_wp2_with fail
  all_goals
    refine bodyPost_ret (v := .agg #[.int .i64 1, .int .i64 (slotOf at_ n pos + 1), .int .u64 0, .int .u64 0]) (by simp [results, Try.results48, go_sem]) rfl ⟨rfl, ?_⟩
    repeat (first | exact Only.refl _ _ | apply Only.alloc | apply Only.drew | refine Only.setCell ?_ (.inr (Nat.le_refl _)) _)

set_option maxRecDepth 100000 in
theorem unext_t4 (w : World) (b n : Nat) (at_ pos v : Int) (h : RQ.ok ⟨at_, n, 4, pos, false, v⟩) (hb' : Blk w b 98 (uCells at_ n true v pos 4 false false)) :
    Calls Try.prog 48 #[.pointer (some ⟨b, 0, none⟩)] w fun e w' => e = .returned (.agg #[.int .i64 2, .int .i64 (slotOf at_ n pos), .int .u64 (IntKind.u64.wrap (pos + n)), .int .u64 0]) ∧ Only [] w w' := by
  have hb := hb'.alloc (.cells #[.int .i64 0, .int .i64 0, .int .u64 0, .int .u64 0] 74)
  have c0 := hb.at 0 (v := .int .i64 at_) rfl
  have c1 := hb.at 1 (v := .int .i64 n) rfl
  have c2 := hb.at 2 (v := .bool true) rfl
  have c3 := hb.at 3 (v := .int .u64 v) rfl
  have c4 := hb.at 4 (v := .int .u64 pos) rfl
  have c5 := hb.at 5 (v := .int .i64 4) rfl
  have c6 := hb.at 6 (v := .bool false) rfl
  have hlt := hb'.lt
  have a0 : 0 ≤ at_ := h.a0
  have a1 : at_ ≤ 65000 := h.a1
  have n2 : 2 ≤ n := h.n2
  have n64 : n ≤ 64 := h.n64
  have hw : IntKind.u64.wrap (n : Int) = n := by rw [IntKind.wrap_u64]; omega
  have hr := RQ.slot_range h
  have s0 : 2 ≤ slotOf at_ n pos := hr.2.2.1
  have s1 : slotOf at_ n pos ≤ 65130 := hr.2.2.2
  have h5 : IntKind.i64.wrap (slotOf at_ n pos + 1) = slotOf at_ n pos + 1 := wrap_i64 _ (by omega) (by omega)
  have h6 : IntKind.i64.wrap (at_ + 1) = at_ + 1 := wrap_i64 _ (by omega) (by omega)
  have HK := Lib.hid h
  clear hb hb' h hr
  go_enter Try.func48, Try.ntmps48
  go_wp2_with fail
  go_region
  all_goals
    go_wp2_with fail
    refine Calls.mono (uslot_at _ b at_ pos n _ v _ HK.out ?q0 ?q1 ?q4) ?_
    case q0 => exact c0
    case q1 => exact c1
    case q4 => exact c4
    rintro e w7 ⟨rfl, rfl⟩
    go_wp2_with fail
  all_goals
    refine bodyPost_ret (v := .agg #[.int .i64 2, .int .i64 (slotOf at_ n pos), .int .u64 (IntKind.u64.wrap (pos + n)), .int .u64 0]) (by simp [results, Try.results48, go_sem]) rfl ⟨rfl, ?_⟩
    repeat (first | exact Only.refl _ _ | apply Only.alloc | apply Only.drew | refine Only.setCell ?_ (.inr (Nat.le_refl _)) _)

theorem unext_done (w : World) (b : Nat) (c0 c1 c2 c3 c4 c5 c7 : Value) (hb' : Blk w b 98 #[c0, c1, c2, c3, c4, c5, .bool true, c7]) :
    Calls Try.prog 48 #[.pointer (some ⟨b, 0, none⟩)] w fun e w' => e = .returned (.agg #[.int .i64 0, .int .i64 0, .int .u64 0, .int .u64 0]) ∧ Only [] w w' := by
  have hb := hb'.alloc (.cells #[.int .i64 0, .int .i64 0, .int .u64 0, .int .u64 0] 74)
  have c6 := hb.at 6 (v := .bool true) rfl
  have hlt := hb'.lt
  clear hb hb'
  go_enter Try.func48, Try.ntmps48
  go_wp2_with fail
  refine bodyPost_ret (v := .agg #[.int .i64 0, .int .i64 0, .int .u64 0, .int .u64 0]) (by simp [results, Try.results48, go_sem]) rfl ⟨rfl, ?_⟩
  repeat (first | exact Only.refl _ _ | apply Only.alloc | apply Only.drew | refine Only.setCell ?_ (.inr (Nat.le_refl _)) _)

theorem unext_any (w : World) (b : Nat) (p : Bool) (s : RQ) (h : IsU w b p s) : Calls Try.prog 48 #[.pointer (some ⟨b, 0, none⟩)] w fun e w' => e = .returned (s.next p).val ∧ Only [] w w' := by
  obtain ⟨at_, n, st, pos, has, v⟩ := s
  obtain ⟨v', turn, hb, hok, h1, _⟩ := h
  have h0 := hok.s0
  have h5 := hok.s5
  dsimp only at h0 h5
  by_cases e5 : st = 5
  · subst e5
    exact unext_done w b _ _ _ _ _ _ _ hb
  · obtain ⟨e1, e2, h3⟩ := h1 e5
    dsimp only at e1 e2 h3 hb
    rw [e1, e2, h3] at hb
    subst h3
    rw [show decide (st = 5) = false from decide_eq_false e5] at hb
    rcases (show st = 0 ∨ st = 1 ∨ st = 2 ∨ st = 3 ∨ st = 4 by omega) with rfl | rfl | rfl | rfl | rfl
    all_goals
      cases p
      · first
          | exact unext_f0 w b n at_ pos _ hok hb
          | exact unext_f1 w b n at_ pos _ hok hb
          | exact unext_f2 w b n at_ pos _ hok hb
          | exact unext_f3 w b n at_ pos _ hok hb
          | exact unext_f4 w b n at_ pos _ hok hb
      · first
          | exact unext_t0 w b n at_ pos _ hok hb
          | exact unext_t1 w b n at_ pos _ hok hb
          | exact unext_t2 w b n at_ pos _ hok hb
          | exact unext_t3 w b n at_ pos _ hok hb
          | exact unext_t4 w b n at_ pos _ hok hb

end Go.Proofs.Ytoecoijmkjhkgaa
