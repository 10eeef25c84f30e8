/- The contract of law 07's task. Written by dstepst.py. -/
import Derived.Test.YtoecoijmkjhkgaaDStepsC
namespace Go.Proofs.Ytoecoijmkjhkgaa
open Go.RowKit

section
variable {w wr w1 : World} {mb ms lb rb rs : Nat} {a : Int} {n : Nat} {cs : Array Value} {m r : MS} {ts xs : Value} {N K M L : Nat} {B KB C : Nat → Nat} {S R : Nat → DQ}
/-- A new task of both sides. -/
theorem DSt.newTX (h : DSt w wr mb ms lb rb rs a n cs m r ts N K B KB S xs M L C R) (o : Only [] wr w1) {b kb c k : Nat} {s : DQ} (hN : N ≤ k) (hk : k = K ∨ K = k + 1) (hM : M ≤ k) (hl : k = L ∨ L = k + 1) (hq : IsD w1 b kb s) (hx : IsRT w1 c s) (hb : wr.heap.size ≤ b) (hkb : wr.heap.size ≤ kb) (hc : wr.heap.size ≤ c) (hs : s.done = false → s.has = false) :
    DSt w w1 mb ms lb rb rs a n cs m r ts N (k + 1) (ext B k b) (ext KB k kb) (ext S k s) xs M (k + 1) (ext C k c) (ext R k s) := by
  have h1 := h.newT o hN hk hq hb hkb
  have h2 := h.newX o hM hl hx hc hs
  exact ⟨h1.out, h1.lock, h1.case_, h1.lo, h1.mem, h1.rng, h1.ref, h1.rt, h2.rx, h1.is, h2.isr, h1.inj, h1.injk, h2.injc, h1.ls, h2.lx, h2.hz⟩
end

/-- What a new task is on both sides. -/
def NewTX (w : World) (e : Ending) (w' : World) : Prop := ∃ b kb c s, e = .returned (.tuple #[.pointer (some ⟨b, 0, none⟩), .pointer (some ⟨c, 0, none⟩)]) ∧ w.heap.size ≤ b ∧ w.heap.size ≤ kb ∧ w.heap.size ≤ c ∧ Only [] w w' ∧ IsD w' b kb s ∧ IsRT w' c s ∧ s.done = false ∧ s.has = false

set_option maxHeartbeats 2000000 in
set_option maxRecDepth 100000 in
theorem task_pop (w : World) (a x : Int) (n i : Nat) (hr : dequeRight a n) (_x0 : 0 ≤ x) (_x1 : x ≤ 255) (_i1 : i ≤ 100) (_h : x % 2 = 1) : Calls Try.prog 41 #[.agg #[.int .i64 a, .int .i64 n], .int .u8 x, .int .i64 i] w (NewTX w) := by
  have HR := Lib.hid hr
  have HB := Lib.hid (Blk.new w 59 #[.int .i64 a, .int .i64 n])
  have HF : Hid (∀ wx, Only [] (w.alloc (.cells #[.int .i64 a, .int .i64 n] 59)) wx → wx.cell? ⟨w.heap.size, 0, none⟩ = some (.int .i64 a) ∧ wx.cell? ⟨w.heap.size, 1, none⟩ = some (.int .i64 n)) := Lib.hid fun wx o => ⟨(HB.out.only o (by simp)).at 0 rfl, (HB.out.only o (by simp)).at 1 rfl⟩
  have HE := Lib.hid ((Only.refl [] (w.alloc (.cells #[.int .i64 a, .int .i64 n] 59))).drew)
  have hw1 : IntKind.i64.wrap (100 + (i : Int)) = 100 + (i : Int) := dwrap _ (by omega) (by omega)
  have hw2 : IntKind.u64.wrap (100 + (i : Int)) = 100 + (i : Int) := by rw [IntKind.wrap_u64]; omega
  clear hr
  go_enter Try.func41, Try.ntmps41
  go_wp2_with fail
  go_region_held3 (fun w' => w'.cell? ⟨w.heap.size, 0, none⟩ = some (.int .i64 a) ∧ w'.cell? ⟨w.heap.size, 1, none⟩ = some (.int .i64 n))
    (first | exact HF.out _ HE.out | exact HF.out _ (HE.out.alloc _))
    (first
      | (go_at_call 30; refine (dpop_some _ a n HR.out).mono ?_; rintro e w5 ⟨b, kb, rfl, hb, hkb, ho, hd⟩
         have HNB := Lib.hid (And.intro hb hkb)
         have HO5 := Lib.hid ho
         have HD := Lib.hid hd
         have HE0 := Lib.hid HE.out
         have HE := Lib.hid (HE.out.trans ho)
         clear hb hkb ho hd)
      | (go_at_call 30; refine (dpop_some _ a n HR.out).mono ?_; rintro e w5 ⟨b, kb, rfl, hb, hkb, ho, hd⟩
         have HNB := Lib.hid (And.intro hb hkb)
         have HO5 := Lib.hid ho
         have HD := Lib.hid hd
         have HE0 := Lib.hid (HE.out.alloc (.cells (rtCells a n 1 0 0 0 0 false false false) 86))
         have HE := Lib.hid ((HE.out.alloc (.cells (rtCells a n 1 0 0 0 0 false false false) 86)).trans ho)
         clear hb hkb ho hd))
  all_goals
    go_wp2_with fail
    go_ret2
    first
      | exact ⟨b, kb, w5.heap.size, _, rfl, by have h := HNB.out.1; have h2 := HE0.out.size; simp at h h2; omega, by have h := HNB.out.2; have h2 := HE0.out.size; simp at h h2; omega, by have h2 := HE.out.size; simp at h2; omega, (((Only.refl [] w).alloc _).trans HE.out).alloc _, HD.out.quiet ((Only.refl [] w5).alloc _), new_rt (Blk.new w5 86 (rtCells a n 1 0 0 0 0 false false false)) HR.out (by decide) (by omega) (by omega), rfl, rfl⟩
      | exact ⟨b, kb, w.heap.size + 1, _, rfl, by have h := HNB.out.1; have h2 := HE0.out.size; simp at h h2; omega, by have h := HNB.out.2; have h2 := HE0.out.size; simp at h h2; omega, by omega, ((Only.refl [] w).alloc _).trans HE.out, HD.out, new_rt ((Blk.new' (w.alloc (.cells #[.int .i64 a, .int .i64 n] 59)).drew 86 (rtCells a n 1 0 0 0 0 false false false) (g := w.heap.size + 1) (by simp)).only HO5.out (by simp)) HR.out (by decide) (by omega) (by omega), rfl, rfl⟩

set_option maxHeartbeats 2000000 in
set_option maxRecDepth 100000 in
theorem task_push (w : World) (a x : Int) (n i : Nat) (hr : dequeRight a n) (_x0 : 0 ≤ x) (_x1 : x ≤ 255) (_i1 : i ≤ 100) (_h : ¬ x % 2 = 1) : Calls Try.prog 41 #[.agg #[.int .i64 a, .int .i64 n], .int .u8 x, .int .i64 i] w (NewTX w) := by
  have HR := Lib.hid hr
  have HB := Lib.hid (Blk.new w 59 #[.int .i64 a, .int .i64 n])
  have HF : Hid (∀ wx, Only [] (w.alloc (.cells #[.int .i64 a, .int .i64 n] 59)) wx → wx.cell? ⟨w.heap.size, 0, none⟩ = some (.int .i64 a) ∧ wx.cell? ⟨w.heap.size, 1, none⟩ = some (.int .i64 n)) := Lib.hid fun wx o => ⟨(HB.out.only o (by simp)).at 0 rfl, (HB.out.only o (by simp)).at 1 rfl⟩
  have HE := Lib.hid ((Only.refl [] (w.alloc (.cells #[.int .i64 a, .int .i64 n] 59))).drew)
  have hw1 : IntKind.i64.wrap (100 + (i : Int)) = 100 + (i : Int) := dwrap _ (by omega) (by omega)
  have hw2 : IntKind.u64.wrap (100 + (i : Int)) = 100 + (i : Int) := by rw [IntKind.wrap_u64]; omega
  clear hr
  go_enter Try.func41, Try.ntmps41
  go_wp2_with fail
  go_region_held3 (fun w' => w'.cell? ⟨w.heap.size, 0, none⟩ = some (.int .i64 a) ∧ w'.cell? ⟨w.heap.size, 1, none⟩ = some (.int .i64 n))
    (first | exact HF.out _ HE.out | exact HF.out _ (HE.out.alloc _))
    (first
      | (go_at_call 33; refine (dpush_some _ a (100 + (i : Int)) n HR.out (by omega) (by omega)).mono ?_; rintro e w5 ⟨b, kb, rfl, hb, hkb, ho, hd⟩
         have HNB := Lib.hid (And.intro hb hkb)
         have HO5 := Lib.hid ho
         have HD := Lib.hid hd
         have HE0 := Lib.hid HE.out
         have HE := Lib.hid (HE.out.trans ho)
         clear hb hkb ho hd)
      | (go_at_call 33; refine (dpush_some _ a (100 + (i : Int)) n HR.out (by omega) (by omega)).mono ?_; rintro e w5 ⟨b, kb, rfl, hb, hkb, ho, hd⟩
         have HNB := Lib.hid (And.intro hb hkb)
         have HO5 := Lib.hid ho
         have HD := Lib.hid hd
         have HE0 := Lib.hid (HE.out.alloc (.cells (rtCells a n 0 (100 + (i : Int)) 0 0 0 false false false) 86))
         have HE := Lib.hid ((HE.out.alloc (.cells (rtCells a n 0 (100 + (i : Int)) 0 0 0 false false false) 86)).trans ho)
         clear hb hkb ho hd))
  all_goals
    go_wp2_with fail
    go_ret2
    first
      | exact ⟨b, kb, w5.heap.size, _, rfl, by have h := HNB.out.1; have h2 := HE0.out.size; simp at h h2; omega, by have h := HNB.out.2; have h2 := HE0.out.size; simp at h h2; omega, by have h2 := HE.out.size; simp at h2; omega, (((Only.refl [] w).alloc _).trans HE.out).alloc _, HD.out.quiet ((Only.refl [] w5).alloc _), new_rt (Blk.new w5 86 (rtCells a n 0 (100 + (i : Int)) 0 0 0 false false false)) HR.out (by decide) (by omega) (by omega), rfl, rfl⟩
      | exact ⟨b, kb, w.heap.size + 1, _, rfl, by have h := HNB.out.1; have h2 := HE0.out.size; simp at h h2; omega, by have h := HNB.out.2; have h2 := HE0.out.size; simp at h h2; omega, by omega, ((Only.refl [] w).alloc _).trans HE.out, HD.out, new_rt ((Blk.new' (w.alloc (.cells #[.int .i64 a, .int .i64 n] 59)).drew 86 (rtCells a n 0 (100 + (i : Int)) 0 0 0 false false false) (g := w.heap.size + 1) (by simp)).only HO5.out (by simp)) HR.out (by decide) (by omega) (by omega), rfl, rfl⟩

theorem task_any (w : World) (a x : Int) (n i : Nat) (hr : dequeRight a n) (x0 : 0 ≤ x) (x1 : x ≤ 255) (i1 : i ≤ 100) : Calls Try.prog 41 #[.agg #[.int .i64 a, .int .i64 n], .int .u8 x, .int .i64 i] w (NewTX w) := by
  by_cases h : x % 2 = 1
  · exact task_pop w a x n i hr x0 x1 i1 h
  · exact task_push w a x n i hr x0 x1 i1 h

end Go.Proofs.Ytoecoijmkjhkgaa
