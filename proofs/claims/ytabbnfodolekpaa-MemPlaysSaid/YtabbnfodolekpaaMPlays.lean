/- MemPlays: its walk. -/
import Derived.Test.YtabbnfodolekpaaKnown02
import Derived.Test.YtabbnfodolekpaaRef2
import Derived.Deep.DeepCutAuto
import Derived.Deep.CutBlock
import Derived.Deep.RegionHeld3
namespace Go.Proofs.Ytabbnfodolekpaa
open Go.RowKit

namespace MS
theorem load_len (m : MS) (i : Int) : (m.load i).1.L.length = m.L.length := by unfold load; split <;> rfl
theorem store_len (m : MS) (i v : Int) : (m.store i v).1.L.length = m.L.length := by unfold store; split <;> simp
theorem cas_len (m : MS) (i x y : Int) : (m.cas i x y).1.L.length = m.L.length := by unfold cas; split <;> (try split) <;> simp
theorem add_len (m : MS) (i v : Int) : (m.add i v).1.L.length = m.L.length := by unfold add; split <;> simp
theorem load_ex (m : MS) (i : Int) : ∃ m' v er, m.load i = (m', v, er) ∧ m'.L.length = m.L.length := ⟨_, _, _, rfl, load_len m i⟩
theorem store_ex (m : MS) (i v : Int) : ∃ m' er, m.store i v = (m', er) ∧ m'.L.length = m.L.length := ⟨_, _, rfl, store_len m i v⟩
theorem cas_ex (m : MS) (i x y : Int) : ∃ m' ok er, m.cas i x y = (m', ok, er) ∧ m'.L.length = m.L.length := ⟨_, _, _, rfl, cas_len m i x y⟩
theorem add_ex (m : MS) (i v : Int) : ∃ m' was er, m.add i v = (m', was, er) ∧ m'.L.length = m.L.length := ⟨_, _, _, rfl, add_len m i v⟩
end MS

section
variable {w : World} {b s : Nat} {m m' : MS} {i : Int}
theorem ref_load_to {v er : Int} (hm : IsRef w b s m) (h : m.load i = (m', v, er)) : Calls Try.prog 23 #[.pointer (some ⟨b, 0, none⟩), .int .i64 i] w fun e w' =>
    e = .returned (.tuple #[.int .u64 v, .int .i64 er]) ∧ Only [b, s] w w' ∧ IsRef w' b s m' := by
  have := ref_load_any w b s m i hm
  rwa [h] at this
theorem ref_store_to {v er : Int} (hm : IsRef w b s m) (h : m.store i v = (m', er)) : Calls Try.prog 24 #[.pointer (some ⟨b, 0, none⟩), .int .i64 i, .int .u64 v] w fun e w' =>
    e = .returned (.int .i64 er) ∧ Only [b, s] w w' ∧ IsRef w' b s m' := by
  have := ref_store_any w b s m i v hm
  rwa [h] at this
theorem ref_cas_to {x y er : Int} {ok : Bool} (hm : IsRef w b s m) (h : m.cas i x y = (m', ok, er)) : Calls Try.prog 25 #[.pointer (some ⟨b, 0, none⟩), .int .i64 i, .int .u64 x, .int .u64 y] w fun e w' =>
    e = .returned (.tuple #[.bool ok, .int .i64 er]) ∧ Only [b, s] w w' ∧ IsRef w' b s m' := by
  have := ref_cas_any w b s m i x y hm
  rwa [h] at this
theorem ref_add_to {v was er : Int} (hm : IsRef w b s m) (h : m.add i v = (m', was, er)) : Calls Try.prog 26 #[.pointer (some ⟨b, 0, none⟩), .int .i64 i, .int .u64 v] w fun e w' =>
    e = .returned (.tuple #[.int .u64 was, .int .i64 er]) ∧ Only [b, s] w w' ∧ IsRef w' b s m' := by
  have := ref_add_any w b s m i v hm
  rwa [h] at this
end

/-- The program's words and the document's, side by side, in one state. -/
structure Pair (w0 w : World) (mb ms rb rs : Nat) (m : MS) (N : Nat) : Prop where
  only : Only [] w0 w
  mem : IsMem w mb ms m
  ref : IsRef w rb rs m
  len : m.L.length = N
  b0 : w0.heap.size ≤ mb
  b1 : w0.heap.size ≤ ms
  b2 : w0.heap.size ≤ rb
  b3 : w0.heap.size ≤ rs
  n0 : mb ≠ rb
  n1 : mb ≠ rs
  n2 : ms ≠ rb
  n3 : ms ≠ rs

section
variable {w0 w w' : World} {mb ms rb rs N : Nat} {m m' : MS}
theorem Pair.quiet (h : Pair w0 w mb ms rb rs m N) (o : Only [] w w') : Pair w0 w' mb ms rb rs m N :=
  { h with only := h.only.trans o, mem := h.mem.only o (by simp) (by simp), ref := h.ref.only o (by simp) (by simp) }
/-- The program's words have gone on; the document's not yet. -/
structure Half (w0 w : World) (mb ms rb rs : Nat) (m m' : MS) (N : Nat) : Prop where
  only : Only [] w0 w
  mem : IsMem w mb ms m
  ref : IsRef w rb rs m'
  len : m.L.length = N
  len' : m'.L.length = N
  b0 : w0.heap.size ≤ mb
  b1 : w0.heap.size ≤ ms
  b2 : w0.heap.size ≤ rb
  b3 : w0.heap.size ≤ rs
  n0 : mb ≠ rb
  n1 : mb ≠ rs
  n2 : ms ≠ rb
  n3 : ms ≠ rs
theorem Pair.half (h : Pair w0 w mb ms rb rs m N) : Half w0 w mb ms rb rs m m N := { h with len' := h.len }
theorem Half.pair (h : Half w0 w mb ms rb rs m m N) : Pair w0 w mb ms rb rs m N := { h with }
theorem Half.goMem {k : MS} (h : Half w0 w mb ms rb rs m m' N) (o : Only [mb, ms] w w') (hm : IsMem w' mb ms k) (hl : k.L.length = m.L.length) : Half w0 w' mb ms rb rs k m' N :=
  { h with only := h.only.then o (by have := h.b0; have := h.b1; simp; omega), mem := hm, ref := h.ref.only o (by have := h.n0; have := h.n2; simp; omega) (by have := h.n1; have := h.n3; simp; omega), len := hl.trans h.len }
theorem Half.goRef {k : MS} (h : Half w0 w mb ms rb rs m m' N) (o : Only [rb, rs] w w') (hm : IsRef w' rb rs k) (hl : k.L.length = m'.L.length) : Half w0 w' mb ms rb rs m k N :=
  { h with only := h.only.then o (by have := h.b2; have := h.b3; simp; omega), ref := hm, mem := h.mem.only o (by have := h.n0; have := h.n1; simp; omega) (by have := h.n2; have := h.n3; simp; omega), len' := hl.trans h.len' }
theorem Half.quiet (h : Half w0 w mb ms rb rs m m' N) (o : Only [] w w') : Half w0 w' mb ms rb rs m m' N :=
  { h with only := h.only.trans o, mem := h.mem.only o (by simp) (by simp), ref := h.ref.only o (by simp) (by simp) }
theorem Pair.r0 (h : Pair w0 w mb ms rb rs m N) : w.cell? ⟨rb, 0, none⟩ = some (.slice (some ⟨rs, 0, none⟩) N N) := by have := h.ref.c0; rw [h.len] at this; exact this
theorem Pair.m0 (h : Pair w0 w mb ms rb rs m N) : w.cell? ⟨mb, 0, none⟩ = some (.slice (some ⟨ms, 0, none⟩) N N) := by have := h.mem.c0; rw [h.len] at this; exact this
theorem Pair.scribble (h : Pair w0 w mb ms rb rs m N) {g : Nat} (hg : w0.heap.size ≤ g) (h0 : g ≠ mb) (h1 : g ≠ ms) (h2 : g ≠ rb) (h3 : g ≠ rs) (i : Nat) (v : Value) : Pair w0 (w.setCell ⟨g, i, none⟩ v) mb ms rb rs m N :=
  have o : Only [g] w (w.setCell ⟨g, i, none⟩ v) := (Only.refl _ _).setCell (by simp) _
  { h with only := h.only.then o (by simp; omega), mem := h.mem.only o (by simp; omega) (by simp; omega), ref := h.ref.only o (by simp; omega) (by simp; omega) }
theorem Pair.ofWords {w' : World} (h : Pair w0 w mb ms rb rs m N) (hN : 1 ≤ N) {v : Value} (hv : NewWords w w' v (cutL m.L 0 N)) :
    ∃ g, w.heap.size ≤ g ∧ v = .slice (some ⟨g, 0, none⟩) N N ∧ Blk w' g 27 (cellsOf m.L) := by
  have e : cutL m.L 0 N = m.L := by
    have := h.len
    unfold cutL
    rw [if_pos (by omega)]
    simp [this.symm]
  rw [e] at hv
  rcases hv with ⟨h0, _⟩ | ⟨_, g, hg, rfl, hb⟩
  · have := h.len; simp [h0] at this; omega
  · exact ⟨g, hg, by rw [h.len], hb⟩
theorem Pair.bound (h : Pair w0 w mb ms rb rs m N) : m.L.length ≤ 9223372036854775807 := by have := h.mem.max; omega
theorem eqw_same (w : World) (v v' : Value) (L : List Int) (h : IsRow w v L) (h' : IsRow w v' L) : Calls Try.prog 20 #[v, v'] w fun e w' => e = .returned (.bool true) ∧ Only [] w w' :=
  (eqw_any w v v' L L h h').mono fun e w' ⟨he, ho⟩ => ⟨by rw [he]; simp, ho⟩
theorem cutL_len (L : List Int) (i n : Int) : (cutL L i n).length ≤ L.length := by unfold cutL; split <;> simp; omega
end

/-- The cells of a call that lies in a variable. -/
def OpAt (w : World) (g : Nat) (x : Act') : Prop := Blk w g 29 #[.int .i64 x.k, .int .i64 x.i, .int .u64 x.a, .int .u64 x.b]
theorem OpAt.cells {w : World} {g : Nat} {x : Act'} (h : OpAt w g x) : w.cell? ⟨g, 0, none⟩ = some (.int .i64 x.k) ∧ w.cell? ⟨g, 1, none⟩ = some (.int .i64 x.i) ∧ w.cell? ⟨g, 2, none⟩ = some (.int .u64 x.a) ∧ w.cell? ⟨g, 3, none⟩ = some (.int .u64 x.b) :=
  ⟨Blk.at h 0 rfl, Blk.at h 1 rfl, Blk.at h 2 rfl, Blk.at h 3 rfl⟩

set_option maxHeartbeats 4000000 in
set_option maxRecDepth 100000 in
theorem memplays_out (w : World) (A : Option Addr) (cap : Nat) (l : List Act') (n a : Int) (h : n < 1 ∨ 65536 < n) :
    Calls Try.prog 6 #[.int .i64 n, .slice A l.length cap, .int .i64 a] w fun e w' => e = .returned (.bool true) ∧ Only [] w w' := by
  have HN := Lib.hid h
  rcases h with h | h
  all_goals
    go_enter Try.func6, Try.ntmps6
    go_wp2_with fail
    refine (new_out _ n HN.out).mono ?_
    rintro e w1 ⟨rfl, rfl⟩
    go_wp2_with fail
    refine (ref_new_out _ n HN.out).mono ?_
    rintro e w2 ⟨rfl, ho⟩
    have HO := Lib.hid ho
    clear ho
    go_wp2
    go_loopw [7, 11] (fun p i wr => p = .pointer none ∧ i = .int .i64 0 ∧ Only [] w wr) (fun _ _ _ => 0)
    case atStart => exact ⟨rfl, rfl, HO.out⟩
    case round =>
      clear HO
      obtain ⟨rfl, rfl, ho⟩ := hrel
      have HO := Lib.hid ho
      clear ho
      by_cases hlt : 0 < l.length
      · go_wp2_with fail
        refine (known02 _).mono ?_
        rintro e w3 ⟨rfl, ho⟩
        have HO := Lib.hid (HO.out.trans ho)
        clear ho
        go_wp2
        go_ret
        exact ⟨rfl, HO.out⟩
      · go_wp2_with fail
        refine (known02 _).mono ?_
        rintro e w3 ⟨rfl, ho⟩
        have HO := Lib.hid (HO.out.trans ho)
        clear ho
        go_wp2
        go_ret
        exact ⟨rfl, HO.out⟩

set_option maxHeartbeats 8000000 in
set_option maxRecDepth 100000 in
theorem memplays_walk (w : World) (A : Option Addr) (cap : Nat) (l : List Act') (n a : Int) (hr : ReadsActs w A l) (_hl : l.length ≤ 9223372036854775807) :
    Calls Try.prog 6 #[.int .i64 n, .slice A l.length cap, .int .i64 a] w fun e w' => e = .returned (.bool true) ∧ Only [] w w' := by
  have HR := Lib.hid hr
  clear hr
  by_cases hbig : n > 5000 ∧ n ≤ 65536
  · obtain ⟨h1, h2⟩ := hbig
    go_enter Try.func6, Try.ntmps6
    go_wp2_with fail
    refine (known02 _).mono ?_
    rintro e w1 ⟨rfl, ho⟩
    have HO := Lib.hid ho
    clear ho
    go_wp2
    go_ret
    exact ⟨rfl, HO.out⟩
  have hskip : n ≤ 5000 ∨ 65536 < n := by omega
  clear hbig
  by_cases hin : 1 ≤ n ∧ n ≤ 65536
  · obtain ⟨N, rfl⟩ : ∃ N : Nat, n = (N : Int) := ⟨n.toNat, by omega⟩
    have hN : (N : Int) ≤ 5000 := by omega
    have hN1 : 1 ≤ (N : Int) := by omega
    clear hskip hin
    go_enter Try.func6, Try.ntmps6
    go_wp2_with fail
    refine (new_any _ N (by omega) (by omega)).mono ?_
    rintro e w1 ⟨mb, ms, rfl, hmb, hms, ho, hm⟩
    have HF := Lib.hid (And.intro hmb hms)
    have HO := Lib.hid ho
    have HM := Lib.hid hm
    clear hmb hms ho hm
    go_wp2_with fail
    refine (ref_new_in _ N (by omega) (by omega)).mono ?_
    rintro e w2 ⟨rb, rs, rfl, hrb, hrs, ho, hm⟩
    have HP : Hid (Pair w w2 mb ms rb rs (MS.new N) N) := Lib.hid (by
      have h1 := HM.out.lt
      have h2 := HO.out.size
      have h3 := HF.out
      exact ⟨HO.out.trans ho, HM.out.only ho (by simp) (by simp), by rw [Int.toNat_natCast] at hm; exact hm, by simp [MS.new], by omega, by omega, by omega, by omega, by omega, by omega, by omega, by omega⟩)
    clear hrb hrs ho hm HO HM HF
    go_wp2
    go_loopw [7, 11] (fun p i wr => ∃ (k : Nat) (m : MS) (mb ms : Nat), k ≤ l.length ∧ k ≤ 80 ∧ i = .int .i64 k ∧ p = .pointer (some ⟨mb, 0, none⟩) ∧ Pair w wr mb ms rb rs m N) (fun _ i _ => l.length - (intOf i).toNat)
    case atStart => exact ⟨0, _, mb, ms, Nat.zero_le _, by omega, rfl, rfl, HP.out⟩
    case round =>
      clear HP
      obtain ⟨k, m, mb, ms, hk, hk8, rfl, rfl, hp⟩ := hrel
      have HP := Lib.hid hp
      clear hp
      by_cases hlt : k < l.length
      · by_cases h80 : k < 80
        · obtain ⟨g, o, ⟨xk, xi, xa, xb⟩, hA, hg, c0, c1, c2, c3, -⟩ := HR.out.get hlt
          subst hA
          have d0 := (HP.out.only.cell (p := ⟨g, o + k * 4, none⟩) hg (by simp)).trans c0
          have d1 := (HP.out.only.cell (p := ⟨g, o + k * 4 + 1, none⟩) hg (by simp)).trans c1
          have d2 := (HP.out.only.cell (p := ⟨g, o + k * 4 + 2, none⟩) hg (by simp)).trans c2
          have d3 := (HP.out.only.cell (p := ⟨g, o + k * 4 + 3, none⟩) hg (by simp)).trans c3
          clear c0 c1 c2 c3 hg HR
          go_upto_block 2 with fail
          go_cut [7] (fun p wx => ∃ (m : MS) (mb ms : Nat), p = .pointer (some ⟨mb, 0, none⟩) ∧ Pair w wx mb ms rb rs m N)
          case first =>
            have HX : Hid (OpAt (wr.alloc (Obj.cells #[.int .i64 xk, .int .i64 xi, .int .u64 xa, .int .u64 xb] 29)) wr.heap.size ⟨xk, xi, xa, xb⟩) := Lib.hid (Blk.new _ _ _)
            have HH := Lib.hid (HP.out.half.quiet ((Only.refl [] wr).alloc (Obj.cells #[.int .i64 xk, .int .i64 xi, .int .u64 xa, .int .u64 xb] 29)))
            by_cases e1 : xk = 1
            · as_aux_lemma =>
                subst e1
                obtain ⟨m', v, er, hst, hln⟩ := MS.load_ex m xi
                have HST := Lib.hid hst
                have HLN := Lib.hid hln
                clear hst hln
                go_wp2_with fail
                refine (load_to HH.out.mem HST.out).mono ?_
                rintro e w2 ⟨rfl, ho2, hm2⟩
                have HX2 : Hid (OpAt w2 wr.heap.size ⟨1, xi, xa, xb⟩) := Lib.hid (Blk.only HX.out ho2 (by have := HP.out.mem.lt; simp; omega))
                have HH2 := Lib.hid (HH.out.goMem ho2 hm2 HLN.out)
                clear ho2 hm2
                obtain ⟨x0, x1, x2, x3⟩ := HX2.out.cells
                go_wp2_with fail
                refine (ref_load_to HH2.out.ref HST.out).mono ?_
                rintro e w3 ⟨rfl, ho3, hm3⟩
                have HP3 := Lib.hid (HH2.out.goRef ho3 hm3 HLN.out).pair
                clear ho3 hm3 x0 x1 x2 x3
                go_wp2_with fail
                go_meet
                exact ⟨m', mb, ms, rfl, HP3.out⟩
            by_cases e2 : xk = 2
            · as_aux_lemma =>
                subst e2
                obtain ⟨m', er, hst, hln⟩ := MS.store_ex m xi xa
                have HST := Lib.hid hst
                have HLN := Lib.hid hln
                clear hst hln
                go_upto_region 23 with fail
                have HX : Hid (OpAt (wr.alloc (Obj.cells #[.int .i64 2, .int .i64 xi, .int .u64 xa, .int .u64 xb] 29)).drew wr.heap.size ⟨2, xi, xa, xb⟩) := Lib.hid (Blk.drew HX.out)
                have HH := Lib.hid (HH.out.quiet (Only.refl [] _).drew)
                go_region_held3 (fun w' => w'.cell? ⟨wr.heap.size, 1, none⟩ = some (.int .i64 xi) ∧ w'.cell? ⟨wr.heap.size, 2, none⟩ = some (.int .u64 xa)) (exact ⟨(OpAt.cells HX.out).2.1, (OpAt.cells HX.out).2.2.1⟩)
                  (first
                    | (go_at_call 15; refine (store_to HH.out.mem HST.out).mono ?_; rintro e w2 ⟨rfl, ho2, hm2⟩; have HX : Hid (OpAt w2 wr.heap.size ⟨2, xi, xa, xb⟩) := Lib.hid (Blk.only HX.out ho2 (by have := HP.out.mem.lt; simp; omega)); have HH := Lib.hid (HH.out.goMem ho2 hm2 HLN.out); clear ho2 hm2)
                    | (go_at_call 24; refine (ref_store_to HH.out.ref HST.out).mono ?_; rintro e w2 ⟨rfl, ho2, hm2⟩; have HX : Hid (OpAt w2 wr.heap.size ⟨2, xi, xa, xb⟩) := Lib.hid (Blk.only HX.out ho2 (by have := HP.out.ref.lt; simp; omega)); have HH := Lib.hid (HH.out.goRef ho2 hm2 HLN.out); clear ho2 hm2))
                all_goals (go_wp2_with fail; go_meet; exact ⟨m', mb, ms, rfl, HH.out.pair⟩)
            by_cases e3 : xk = 3
            · as_aux_lemma =>
                subst e3
                obtain ⟨m', ok, er, hst, hln⟩ := MS.cas_ex m xi xa xb
                have HST := Lib.hid hst
                have HLN := Lib.hid hln
                clear hst hln
                go_wp2_with fail
                refine (cas_to HH.out.mem HST.out).mono ?_
                rintro e w2 ⟨rfl, ho2, hm2⟩
                have HX2 : Hid (OpAt w2 wr.heap.size ⟨3, xi, xa, xb⟩) := Lib.hid (Blk.only HX.out ho2 (by have := HP.out.mem.lt; simp; omega))
                have HH2 := Lib.hid (HH.out.goMem ho2 hm2 HLN.out)
                clear ho2 hm2
                obtain ⟨x0, x1, x2, x3⟩ := HX2.out.cells
                go_wp2_with fail
                refine (ref_cas_to HH2.out.ref HST.out).mono ?_
                rintro e w3 ⟨rfl, ho3, hm3⟩
                have HP3 := Lib.hid (HH2.out.goRef ho3 hm3 HLN.out).pair
                clear ho3 hm3 x0 x1 x2 x3
                go_wp2_with fail
                go_meet
                exact ⟨m', mb, ms, rfl, HP3.out⟩
            by_cases e4 : xk = 4
            · as_aux_lemma =>
                subst e4
                obtain ⟨m', was, er, hst, hln⟩ := MS.add_ex m xi xa
                have HST := Lib.hid hst
                have HLN := Lib.hid hln
                clear hst hln
                go_wp2_with fail
                refine (add_to HH.out.mem HST.out).mono ?_
                rintro e w2 ⟨rfl, ho2, hm2⟩
                have HX2 : Hid (OpAt w2 wr.heap.size ⟨4, xi, xa, xb⟩) := Lib.hid (Blk.only HX.out ho2 (by have := HP.out.mem.lt; simp; omega))
                have HH2 := Lib.hid (HH.out.goMem ho2 hm2 HLN.out)
                clear ho2 hm2
                obtain ⟨x0, x1, x2, x3⟩ := HX2.out.cells
                go_wp2_with fail
                refine (ref_add_to HH2.out.ref HST.out).mono ?_
                rintro e w3 ⟨rfl, ho3, hm3⟩
                have HP3 := Lib.hid (HH2.out.goRef ho3 hm3 HLN.out).pair
                clear ho3 hm3 x0 x1 x2 x3
                go_wp2_with fail
                go_meet
                exact ⟨m', mb, ms, rfl, HP3.out⟩
            have g1 : (xk == 1) = false := by simpa using e1
            have g2 : (xk == 2) = false := by simpa using e2
            have g3 : (xk == 3) = false := by simpa using e3
            have g4 : (xk == 4) = false := by simpa using e4
            clear e1 e2 e3 e4
            go_wp2_with fail
            refine (copy_at _ mb ms _ _ _ HH.out.mem).mono ?_
            rintro e w2 ⟨b', s', rfl, hb4, hs4, ho2, hm2⟩
            have HF := Lib.hid (And.intro hb4 hs4)
            have HX2 : Hid (OpAt w2 wr.heap.size ⟨xk, xi, xa, xb⟩) := Lib.hid (Blk.only HX.out ho2 (by simp))
            have HH2 := Lib.hid (HH.out.quiet ho2)
            have HC : Hid (IsMem w2 b' s' m) := Lib.hid hm2
            clear ho2 hm2 hb4 hs4
            obtain ⟨x0, x1, x2, x3⟩ := HX2.out.cells
            go_wp2_with fail
            refine (store_any _ mb ms m xi 99 HH2.out.mem).mono ?_
            rintro e w3 ⟨rfl, ho3, hm3⟩
            have HP3 : Hid (Pair w w3 b' s' rb rs m N) := Lib.hid (by
              have h := HH2.out.goMem ho3 hm3 (MS.store_len _ _ _)
              have h1 := HH.out.mem.lt
              have h2 := HH.out.ref.lt
              have h3 := HF.out
              have h4 := HH.out.only.size
              have h5 := HC.out.lt
              exact ⟨h.only, HC.out.only ho3 (by simp; omega) (by simp; omega), h.ref, HP.out.len, by omega, by omega, HP.out.b2, HP.out.b3, by omega, by omega, by omega, by omega⟩)
            clear ho3 hm3 x0 x1 x2 x3
            go_wp2_with fail
            go_meet
            exact ⟨m, b', s', rfl, HP3.out⟩
          case rest =>
            as_aux_lemma =>
              clear HP
              obtain ⟨m, mb, ms, rfl, hp⟩ := hcut
              have HP := Lib.hid hp
              clear hp
              have q1 := HP.out.mem.c1
              have q2 := HP.out.mem.c2
              go_wp2_with fail
              refine (count_at _ _ _ _ q1 q2).mono ?_
              rintro e w5 ⟨rfl, ho⟩
              have HP := Lib.hid (HP.out.quiet ho)
              clear ho q1 q2
              go_wp2_with fail
              refine (words_any _ mb ms m.L m.c m.l 0 N HP.out.mem).mono ?_
              rintro e w6 ⟨v, rfl, ho, hv⟩
              obtain ⟨gl, hgl, rfl, hrow⟩ := HP.out.ofWords (by omega) hv
              have HGL := Lib.hid (show w.heap.size ≤ gl ∧ gl ≠ mb ∧ gl ≠ ms ∧ gl ≠ rb ∧ gl ≠ rs from by
                have h1 := HP.out.mem.lt
                have h2 := HP.out.ref.lt
                have h3 := HP.out.only.size
                omega)
              have HP := Lib.hid (HP.out.quiet ho)
              have HG := Lib.hid hrow
              clear ho hv hgl hrow
              go_upto_region 37 with fail
              have HP := Lib.hid (HP.out.quiet (Only.refl [] _).drew)
              have HG := Lib.hid (Blk.drew HG.out)
              go_region_held3 (fun w' => w'.cell? ⟨rb, 0, none⟩ = some (.slice (some ⟨rs, 0, none⟩) N N) ∧ w'.cell? ⟨rb, 1, none⟩ = some (.int .i64 m.c) ∧ w'.cell? ⟨rb, 2, none⟩ = some (.int .i64 m.l)) (exact ⟨HP.out.r0, HP.out.ref.c1, HP.out.ref.c2⟩)
                (first
                  | (go_at_call 21; refine (words_any _ mb ms m.L m.c m.l a 3 HP.out.mem).mono ?_; rintro e w7 ⟨v1, rfl, ho, hv⟩; have HR1 := Lib.hid (hv.isRow (Nat.le_trans (cutL_len _ _ _) HP.out.bound)); (try (have HR2 := Lib.hid (IsRow.only HR2.out ho (by simp)))); have HP := Lib.hid (HP.out.quiet ho); have HG := Lib.hid (Blk.only HG.out ho (by simp)); clear ho hv)
                  | (go_at_call 29; refine (ref_words_any _ rb rs m a 3 HP.out.ref).mono ?_; rintro e w7 ⟨v2, rfl, ho, hv⟩; have HR2 := Lib.hid hv; (try (have HR1 := Lib.hid (IsRow.only HR1.out ho (by simp)))); have HP := Lib.hid (HP.out.quiet ho); have HG := Lib.hid (Blk.only HG.out ho (by simp)); clear ho hv)
                  | (go_at_call 20; refine (eqw_same _ _ _ _ HR1.out HR2.out).mono ?_; rintro e w7 ⟨rfl, ho⟩; have HP := Lib.hid (HP.out.quiet ho); have HG := Lib.hid (Blk.only HG.out ho (by simp)); clear ho)
                  | (go_at_call 20; refine (eqw_same _ _ _ m.L (IsRow.of_blk HG.out rfl N HP.out.len.symm HP.out.bound) (IsRow.of_blk HP.out.ref.row rfl N HP.out.len.symm HP.out.bound)).mono ?_; rintro e w7 ⟨rfl, ho⟩; have HP := Lib.hid (HP.out.quiet ho); have HG := Lib.hid (Blk.only HG.out ho (by simp)); clear ho)
                  | (go_at_call 30; refine (len_at _ mb ms N HP.out.m0).mono ?_; rintro e w7 ⟨rfl, rfl⟩))
              all_goals
                have hgc := HG.out.at 0 (v := .int .u64 (nth m.L 0)) (by have := HP.out.len; simp [cellsOf, nth, show 0 < m.L.length from by omega])
                have hgf := HG.out.frozen 0
                go_wp2_with fail
                exact ⟨⟨k + 1, m, mb, ms, by omega, by omega, by go_num, rfl, HP.out.scribble HGL.out.1 HGL.out.2.1 HGL.out.2.2.1 HGL.out.2.2.2.1 HGL.out.2.2.2.2 _ _⟩, by simp [intOf]; omega⟩
        · go_wp2_with fail
          refine (known02 _).mono ?_
          rintro e w3 ⟨rfl, ho⟩
          have HO := Lib.hid (HP.out.only.trans ho)
          clear ho
          go_wp2
          go_ret
          exact ⟨rfl, HO.out⟩
      · go_wp2_with fail
        refine (known02 _).mono ?_
        rintro e w3 ⟨rfl, ho⟩
        have HO := Lib.hid (HP.out.only.trans ho)
        clear ho
        go_wp2
        go_ret
        exact ⟨rfl, HO.out⟩
  · exact memplays_out w A cap l n a (by omega)

end Go.Proofs.Ytabbnfodolekpaa
