/- The walk of the document's Show, one kind; written by rshowgen.py. -/
import Derived.Test.YtnoplfjodedijaaRStrs
import Derived.Deep.RegionWith
import Derived.Deep.DeepCutAuto
import Derived.Deep.CutBlock
namespace Go.Proofs.Ytnoplfjodedijaa
open Go.RowKit

set_option maxHeartbeats 4000000 in
set_option maxRecDepth 100000 in
theorem rshow_two (w : World) (j a : Nat) (hj : j < 9223372036854775808) (ha : a < 18446744073709551616) :
    Calls Try.prog 21 #[.agg #[.int .i64 2, .int .i64 j, .int .u64 a, .int .u64 0]] w fun e w' => e = .returned (.string (bs (Four.shown ⟨2, j, a, 0⟩))) ∧ Only [] w w' := by
  have HB := Lib.hid (Blk.new w 24 #[.int .i64 2, .int .i64 j, .int .u64 a, .int .u64 0])
  have q0 := HB.out.at 0 (v := .int .i64 2) rfl
  have q1 := HB.out.at 1 (v := .int .i64 j) rfl
  have q2 := HB.out.at 2 (v := .int .u64 a) rfl
  have q3 := HB.out.at 3 (v := .int .u64 0) rfl
  have r0 : World.cell? ((w.alloc (.cells #[.int .i64 2, .int .i64 j, .int .u64 a, .int .u64 0] 24)).alloc (.cells #[.string ⟨#[]⟩, .string ⟨#[108, 111, 97, 100]⟩, .string ⟨#[115, 116, 111, 114, 101]⟩, .string ⟨#[99, 97, 115]⟩, .string ⟨#[97, 100, 100]⟩] 9)) ⟨w.heap.size, 0, none⟩ = some (.int .i64 2) := (HB.out.alloc _).at 0 rfl
  have r1 : World.cell? ((w.alloc (.cells #[.int .i64 2, .int .i64 j, .int .u64 a, .int .u64 0] 24)).alloc (.cells #[.string ⟨#[]⟩, .string ⟨#[108, 111, 97, 100]⟩, .string ⟨#[115, 116, 111, 114, 101]⟩, .string ⟨#[99, 97, 115]⟩, .string ⟨#[97, 100, 100]⟩] 9)) ⟨w.heap.size, 1, none⟩ = some (.int .i64 j) := (HB.out.alloc _).at 1 rfl
  have s0 : World.cell? ((w.alloc (.cells #[.int .i64 2, .int .i64 j, .int .u64 a, .int .u64 0] 24)).alloc (.cells #[.string ⟨#[]⟩, .string ⟨#[108, 111, 97, 100]⟩, .string ⟨#[115, 116, 111, 114, 101]⟩, .string ⟨#[99, 97, 115]⟩, .string ⟨#[97, 100, 100]⟩] 9)) ⟨w.heap.size + 1, 2, none⟩ = some (.string ⟨#[115, 116, 111, 114, 101]⟩) := (Blk.new' (w.alloc (.cells #[.int .i64 2, .int .i64 j, .int .u64 a, .int .u64 0] 24)) 9 #[.string ⟨#[]⟩, .string ⟨#[108, 111, 97, 100]⟩, .string ⟨#[115, 116, 111, 114, 101]⟩, .string ⟨#[99, 97, 115]⟩, .string ⟨#[97, 100, 100]⟩] (g := w.heap.size + 1) (by simp)).at 2 rfl
  have lj := digs_20 j (by omega)
  have hwj : IntKind.u64.wrap (j : Int) = j := by rw [IntKind.wrap_u64]; omega
  have hj0 : ¬ (j : Int) < 0 := by omega
  have a1 : ∀ W, Sem.run Try.prog (Op.stringOp .add ⟨#[115, 116, 111, 114, 101]⟩ ⟨#[32]⟩) W = .ok (.string (bs [115, 116, 111, 114, 101, 32])) W := fun W => join_text W [115, 116, 111, 114, 101] [32] (by simp)
  obtain ⟨t1, ht1⟩ : ∃ t, t = [115, 116, 111, 114, 101, 32] ++ digs j := ⟨_, rfl⟩
  have l1 : t1.length ≤ 26 := by rw [ht1]; simp; omega
  have a2 : ∀ W, Sem.run Try.prog (Op.stringOp .add (bs [115, 116, 111, 114, 101, 32]) (bs (digs j))) W = .ok (.string (bs t1)) W := fun W => by rw [ht1]; exact join_text W _ _ (by simp; omega)
  have la := digs_20 a ha
  obtain ⟨t2, ht2⟩ : ∃ t, t = t1 ++ [32] := ⟨_, rfl⟩
  have l2 : t2.length ≤ 27 := by rw [ht2]; simp; omega
  have a3 : ∀ W, Sem.run Try.prog (Op.stringOp .add (bs t1) ⟨#[32]⟩) W = .ok (.string (bs t2)) W := fun W => by rw [ht2]; exact join_text W _ [32] (by simp; omega)
  obtain ⟨t3, ht3⟩ : ∃ t, t = t2 ++ digs a := ⟨_, rfl⟩
  have l3 : t3.length ≤ 47 := by rw [ht3]; simp; omega
  have a4 : ∀ W, Sem.run Try.prog (Op.stringOp .add (bs t2) (bs (digs a))) W = .ok (.string (bs t3)) W := fun W => by rw [ht3]; exact join_text W _ _ (by omega)
  have hT : Four.shown ⟨2, j, a, 0⟩ = t3 := by
    have hg : Four.good ⟨2, j, a, 0⟩ := by simp [Four.good]
    rw [ht3, ht2, ht1]
    simp [Four.shown, hg, Four.text, nameOf]
  have HT := Lib.hid hT
  clear hT ht1 ht2 ht3 l1 lj la l2 l3
  go_enter Try.func21, Try.ntmps21
  go_upto_region 3 with fail
  go_cut [3] (fun x wx => x = .string (bs t1) ∧ Only [] w wx ∧ Blk wx w.heap.size 24 #[.int .i64 2, .int .i64 j, .int .u64 a, .int .u64 0])
  case rest =>
    obtain ⟨rfl, ho, hb⟩ := hcut
    have HO := Lib.hid ho
    have HB := Lib.hid hb
    have p0 := HB.out.at 0 (v := .int .i64 2) rfl
    have p2 := HB.out.at 2 (v := .int .u64 a) rfl
    clear ho hb q0 q1 q2 q3 r0 r1 s0
    go_wp2_with fail
    refine (rdigits_any a ha _).mono ?_
    rintro e w5 ⟨rfl, ho⟩
    have HO := Lib.hid (HO.out.trans ho)
    have HB := Lib.hid (HB.out.only ho (by simp))
    have p0 := HB.out.at 0 (v := .int .i64 2) rfl
    have p3 := HB.out.at 3 (v := .int .u64 0) rfl
    clear ho
    go_wp2_with fail
    go_ret
    exact ⟨by rw [HT.out]; rfl, HO.out⟩
  go_region_with (first
    | (go_at_call 50
       refine (rdigits_any j (by omega) _).mono ?_
       rintro e w' ⟨rfl, ho⟩
       (try have hs : w'.cell? ⟨w.heap.size + 1, 2, none⟩ = some (.string ⟨#[115, 116, 111, 114, 101]⟩) := ((Blk.new' ((w.alloc (.cells #[.int .i64 2, .int .i64 j, .int .u64 a, .int .u64 0] 24)).drew) 9 #[.string ⟨#[]⟩, .string ⟨#[108, 111, 97, 100]⟩, .string ⟨#[115, 116, 111, 114, 101]⟩, .string ⟨#[99, 97, 115]⟩, .string ⟨#[97, 100, 100]⟩] (g := w.heap.size + 1) (by simp)).only ho (by simp)).at 2 rfl)
       (first
        | (have HB' := Lib.hid (Blk.only (Blk.alloc (Blk.drew HB.out) _) ho (by simp)); have HO' := Lib.hid ((((Only.refl [] w).alloc _).drew.alloc _).trans ho))
        | (have HB' := Lib.hid (Blk.only (Blk.drew HB.out) ho (by simp)); have HO' := Lib.hid ((((Only.refl [] w).alloc _).drew).trans ho)))
       have q0 := HB'.out.at 0 (v := .int .i64 2) rfl
       have r0 : World.cell? (w'.alloc (.cells #[.string ⟨#[]⟩, .string ⟨#[108, 111, 97, 100]⟩, .string ⟨#[115, 116, 111, 114, 101]⟩, .string ⟨#[99, 97, 115]⟩, .string ⟨#[97, 100, 100]⟩] 9)) ⟨w.heap.size, 0, none⟩ = some (.int .i64 2) := (Blk.alloc HB'.out _).at 0 rfl
       have s0 : World.cell? (w'.alloc (.cells #[.string ⟨#[]⟩, .string ⟨#[108, 111, 97, 100]⟩, .string ⟨#[115, 116, 111, 114, 101]⟩, .string ⟨#[99, 97, 115]⟩, .string ⟨#[97, 100, 100]⟩] 9)) ⟨w'.heap.size, 2, none⟩ = some (.string ⟨#[115, 116, 111, 114, 101]⟩) := (Blk.new w' 9 #[.string ⟨#[]⟩, .string ⟨#[108, 111, 97, 100]⟩, .string ⟨#[115, 116, 111, 114, 101]⟩, .string ⟨#[99, 97, 115]⟩, .string ⟨#[97, 100, 100]⟩]).at 2 rfl
       clear ho))
  all_goals
    go_wp2_with fail
    go_meet
    first
      | exact ⟨rfl, HO'.out, HB'.out⟩
      | exact ⟨rfl, HO'.out.alloc _, HB'.out.alloc _⟩

end Go.Proofs.Ytnoplfjodedijaa
