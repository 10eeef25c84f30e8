/- TicketNil: its walk. -/
import Derived.Test.YtabbnfodolekpaaKnown05
namespace Go.Proofs.Ytabbnfodolekpaa
open Go.RowKit

/-- What stands when the step of nobody has been done, and is told. -/
def ToldNil (w : World) (a' : Act) (w' : World) : Prop := Only [] w w' ∧ ∃ u1 u2 u3 u4 u5 u6 u7 u8 u9 u10 u11 u12 u13 u14 u15 u16 u17 u18 u19 u20 u21 u22 u23 u24 u25 u26 u27 u28 u29 u30 u31 u32 u33 u34 u35 u36 u37 u38 u39 u40 u41 u42 u43 u44 u45 u46 u47 u48 u49 u50 u51 u52 u53 u54 u55 u56 u57 u58 u59 u60 u61 u62 : Value, a' = ⟨#[.pointer none, u1, u2, u3, u4, u5, u6, u7, u8, u9, u10, u11, u12, u13, u14, u15, u16, u17, u18, u19, u20, u21, u22, u23, u24, u25, u26, u27, u28, u29, u30, u31, u32, u33, u34, u35, u36, u37, u38, u39, u40, u41, u42, u43, u44, u45, u46, u47, u48, u49, u50, u51, u52, u53, u54, u55, u56, u57, u58, u59, u60, u61, u62], []⟩

set_option maxHeartbeats 4000000 in
set_option maxRecDepth 100000 in
theorem tstep_nil (w : World) (mv : Value) : Calls Try.prog 35 #[.pointer none, mv] w fun e w' => e = .returned (.int .i64 0) ∧ Only [] w w' := by
  go_enter Try.func35, Try.ntmps35
  go_wp2
  refine wp_scope_jumps 0 (ToldNil w) (fun _ _ => 0) rfl ?_ ?_
  · go_wp2_with fail
    refine (tnext_nil w).mono ?_
    rintro e w1 ⟨rfl, ho⟩
    have HO := Lib.hid ho
    clear ho
    go_wp2
    go_step3
    refine ⟨rfl, (HO.out.alloc _).alloc _, ?_⟩
    repeat (first | exact rfl | apply Exists.intro)
  · rintro a' w' ⟨ho, u1, u2, u3, u4, u5, u6, u7, u8, u9, u10, u11, u12, u13, u14, u15, u16, u17, u18, u19, u20, u21, u22, u23, u24, u25, u26, u27, u28, u29, u30, u31, u32, u33, u34, u35, u36, u37, u38, u39, u40, u41, u42, u43, u44, u45, u46, u47, u48, u49, u50, u51, u52, u53, u54, u55, u56, u57, u58, u59, u60, u61, u62, rfl⟩
    have HO := Lib.hid ho
    clear ho
    go_wp2_with fail
    refine (tstate_nil _).mono ?_
    rintro e w1 ⟨rfl, rfl⟩
    go_wp2
    simp only [Exit.jump]
    go_ret
    exact ⟨rfl, HO.out⟩

set_option maxHeartbeats 2000000 in
set_option maxRecDepth 100000 in
theorem ticketnil_walk (w : World) (n : Int) (h0 : 0 ≤ n) (h1 : n ≤ 255) : Calls Try.prog 11 #[.int .u8 n] w fun e w' => e = .returned (.bool true) ∧ Only [] w w' := by
  go_enter Try.func11, Try.ntmps11
  go_wp2_with fail
  refine (new_any _ (1 + n) (by omega) (by omega)).mono ?_
  rintro e w1 ⟨mb, ms, rfl, hmb, hms, ho, hm⟩
  have HO := Lib.hid ho
  clear ho hm hmb hms
  go_wp2_with fail
  refine (tstate_nil _).mono ?_
  rintro e w2 ⟨rfl, rfl⟩
  go_wp2_with fail
  refine (tstep_nil _ _).mono ?_
  rintro e w3 ⟨rfl, ho⟩
  have HO3 := Lib.hid (HO.out.trans ho)
  clear ho
  go_wp2_with fail
  refine (tnext_nil _).mono ?_
  rintro e w4 ⟨rfl, ho⟩
  have HO4 := Lib.hid (HO3.out.trans ho)
  clear ho
  go_wp2_with fail
  refine (tleave_nil _).mono ?_
  rintro e w5 ⟨rfl, rfl⟩
  go_wp2_with fail
  refine (known05 _).mono ?_
  rintro e w6 ⟨rfl, ho⟩
  have HO6 := Lib.hid (HO4.out.trans ho)
  clear ho
  go_wp2
  go_ret
  exact ⟨rfl, HO6.out⟩

end Go.Proofs.Ytabbnfodolekpaa
