import Derived.Test.YtadgpnoealegiaaGreatP37
namespace Go.Proofs.YtadgpnoealegiaaGreat
open Go.RowKit
open Go.Lib (hid)
set_option maxRecDepth 100000
set_option maxHeartbeats 20000000
section
variable {w:World} {a:HvP} {M:HS} {t:Nat} {vm:Int}
theorem hbind_any (h:IsHv w a M) (hi:HInv M t) (c:C) (hk:c.k=13) (hf:c.fits) (v:Nat) (hv:v < 16) :
 Calls Tryz.prog 103 #[ptr a.hb,.int .i64 ((v:Int)+1),c.val] w (HvTo w a M t ((v:Int)+1) c):=by
 have hA:=hf.1;have hB:=hf.2.1;have HRel:=hid (fun v' e' (hv':0≤v'∧v' < 18446744073709551616)=>DoRel.calm (c:=c) (vm:=(v:Int)+1) (v:=v') (e:=e') hi (by omega) (by omega) (by omega) (by omega) (by omega) (by omega) hv');clear hf hk;obtain ⟨k,A,B,D⟩:=c;obtain ⟨W0,hW0⟩:∃ W0,(w.alloc (.cells #[.int .i64 k,.int .u64 A,.int .u64 B,.int .u64 D] 30)).alloc (.cells #[.int .u64 0,.int .i64 0] 38)=W0:=⟨_,rfl⟩;have hF:=HvF.start h ⟨k,A,B,D⟩;dsimp only at hF;rw [hW0] at hF;have HF0:=hid hF;have HW0:=hid hW0;have hy:=hF.c;dsimp only at hy;have y0:=hy.at 0 (v:=.int .i64 k) rfl;have y1:=hy.at 1 (v:=.int .u64 A) rfl;have y2:=hy.at 2 (v:=.int .u64 B) rfl;have y3:=hy.at 3 (v:=.int .u64 D) rfl;have HBAD:=hid (fun W e=>hbad_any W e);clear hF hy hW0;rw [c_out];have hA:0≤A:=hA;have hB:0≤B:=hB;have HOT:=hid (hother_any HF0.out.h ((v:Int)+1) A hA);clear h;have HX:=hid (show ∀ n,n=1∨n=4∨n=(0:Int)→True from fun _ _=>trivial);go_enter Tryz.func103,Tryz.ntmps103;go_upto_region 1 with fail;rw [HW0.out];go_wp2_with fail;refine HOT.out.mono ?_;rintro e w1 ⟨hto,rfl⟩;rcases hto with rfl | rfl | ⟨rfl,h1,h2⟩
 ·skip;go_wp2_with fail;refine (HBAD.out _ _).mono ?_;rintro en wz ⟨rfl,hoz⟩;have HFZ:=hid (HF0.out.quiet hoz);clear hoz;have hr:=HFZ.out.r;have r0:=hr.at 0 (v:=.int .u64 0) rfl;have r1:=hr.at 1 (v:=.int .i64 0) rfl;have g0:=hr.frozen 0;have g1:=hr.frozen 1;go_wp2_with fail;obtain ⟨z1,z2,z3,_⟩:=HFZ.out.out (.int .u64 (0)) (.int .i64 (1));have q0:=z3.at 0 (v:=.int .u64 (0)) rfl;have q1:=z3.at 1 (v:=.int .i64 (1)) rfl;refine bodyPost_ret (v:=.agg #[.int .u64 (0),.int .i64 (1)]) (by simp [results,Tryz.results103,go_sem,q0,q1]) rfl ⟨a,_,0,1,rfl,z2,z1,HRel.out _ _ zero_range,rfl,fun x hx=>.inl hx⟩
 ·by_cases h4:4≤B
  ·have d4:decide (4≤B)=true:=decide_eq_true h4;go_wp2_with fail;refine (HBAD.out _ _).mono ?_;rintro en wz ⟨rfl,hoz⟩;have HFZ:=hid (HF0.out.quiet hoz);clear hoz;have hr:=HFZ.out.r;have r0:=hr.at 0 (v:=.int .u64 0) rfl;have r1:=hr.at 1 (v:=.int .i64 0) rfl;have g0:=hr.frozen 0;have g1:=hr.frozen 1;go_wp2_with fail;obtain ⟨z1,z2,z3,_⟩:=HFZ.out.out (.int .u64 (0)) (.int .i64 (1));have q0:=z3.at 0 (v:=.int .u64 (0)) rfl;have q1:=z3.at 1 (v:=.int .i64 (1)) rfl;refine bodyPost_ret (v:=.agg #[.int .u64 (0),.int .i64 (1)]) (by simp [results,Tryz.results103,go_sem,q0,q1]) rfl ⟨a,_,0,1,rfl,z2,z1,HRel.out _ _ zero_range,rfl,fun x hx=>.inl hx⟩
  ·have d4:decide (4≤B)=false:=decide_eq_false h4;go_wp2_with fail;refine (HBAD.out _ _).mono ?_;rintro en wz ⟨rfl,hoz⟩;have HFZ:=hid (HF0.out.quiet hoz);clear hoz;have hr:=HFZ.out.r;have r0:=hr.at 0 (v:=.int .u64 0) rfl;have r1:=hr.at 1 (v:=.int .i64 0) rfl;have g0:=hr.frozen 0;have g1:=hr.frozen 1;go_wp2_with fail;obtain ⟨z1,z2,z3,_⟩:=HFZ.out.out (.int .u64 (0)) (.int .i64 (4));have q0:=z3.at 0 (v:=.int .u64 (0)) rfl;have q1:=z3.at 1 (v:=.int .i64 (4)) rfl;refine bodyPost_ret (v:=.agg #[.int .u64 (0),.int .i64 (4)]) (by simp [results,Tryz.results103,go_sem,q0,q1]) rfl ⟨a,_,0,4,rfl,z2,z1,HRel.out _ _ zero_range,rfl,fun x hx=>.inl hx⟩
 ·by_cases h4:4≤B
  ·have d4:decide (4≤B)=true:=decide_eq_true h4;go_wp2_with fail;refine (HBAD.out _ _).mono ?_;rintro en wz ⟨rfl,hoz⟩;have HFZ:=hid (HF0.out.quiet hoz);clear hoz;have hr:=HFZ.out.r;have r0:=hr.at 0 (v:=.int .u64 0) rfl;have r1:=hr.at 1 (v:=.int .i64 0) rfl;have g0:=hr.frozen 0;have g1:=hr.frozen 1;go_wp2_with fail;obtain ⟨z1,z2,z3,_⟩:=HFZ.out.out (.int .u64 (0)) (.int .i64 (1));have q0:=z3.at 0 (v:=.int .u64 (0)) rfl;have q1:=z3.at 1 (v:=.int .i64 (1)) rfl;refine bodyPost_ret (v:=.agg #[.int .u64 (0),.int .i64 (1)]) (by simp [results,Tryz.results103,go_sem,q0,q1]) rfl ⟨a,_,0,1,rfl,z2,z1,HRel.out _ _ zero_range,rfl,fun x hx=>.inl hx⟩
  ·have d4:decide (4≤B)=false:=decide_eq_false h4;have ew:IntKind.i64.wrap A=A:=by rw [IntKind.wrap_i64]; omega
   have ew2:IntKind.i64.wrap B=B:=by rw [IntKind.wrap_i64]; omega
   go_upto_region 6 with fail;have x3:=HF0.out.h.c3;have q1:=(Only.refl [] W0).drew;have HF1:=hid (HF0.out.quiet q1);obtain ⟨P,hP⟩:=HF1.out.h.po;have HPO:=hid (pbind_any hP v hv A B);clear q1 hP;refine pBegin rfl ?_;obtain ⟨S,hS⟩:∃ S:World→Prop,S=fun w'=>w'.cell? ⟨a.hb,3,none⟩=some (ptr a.qb)∧w'.cell? ⟨w.heap.size,1,none⟩=some (.int .u64 A)∧w'.cell? ⟨w.heap.size,2,none⟩=some (.int .u64 B):=⟨_,rfl⟩;have HS:=hid hS;clear hS;refine pPhaseH S 99 (by rw [HS.out]; exact ⟨x3,y1,y2⟩) fun HSW=>?_;refine pPure (i:=0) rfl (by kernel_rfl) rfl HSW.out ?_;apply Exists.intro;refine ⟨fun w'=>?_,?_⟩
   ·go_simp;with_reducible rfl
   go_simp;refine pPure (i:=1) rfl (by kernel_rfl) rfl HSW.out ?_;apply Exists.intro;refine ⟨fun w'=>?_,?_⟩
   ·go_simp;with_reducible rfl
   go_simp;refine pPure (i:=2) rfl (by kernel_rfl) rfl HSW.out ?_;apply Exists.intro;refine ⟨fun w'=>?_,?_⟩
   ·go_simp;with_reducible rfl
   go_simp;refine pTake (i:=3) rfl (by kernel_rfl) rfl HSW.out ?_;apply Exists.intro;refine ⟨fun w' hw'=>?_,?_⟩
   ·rw [HS.out] at hw';obtain ⟨p0,p1,p2⟩:=hw';go_simp;with_reducible rfl
   go_simp;refine pPure (i:=4) rfl (by kernel_rfl) rfl HSW.out ?_;apply Exists.intro;refine ⟨fun w'=>?_,?_⟩
   ·go_simp;with_reducible rfl
   go_simp;refine pPure (i:=5) rfl (by kernel_rfl) rfl HSW.out ?_;apply Exists.intro;refine ⟨fun w'=>?_,?_⟩
   ·go_simp;with_reducible rfl
   go_simp;refine pTake (i:=6) rfl (by kernel_rfl) rfl HSW.out ?_;apply Exists.intro;refine ⟨fun w' hw'=>?_,?_⟩
   ·rw [HS.out] at hw';obtain ⟨p0,p1,p2⟩:=hw';go_simp;with_reducible rfl
   go_simp;refine pPure (i:=7) rfl (by kernel_rfl) rfl HSW.out ?_;apply Exists.intro;refine ⟨fun w'=>?_,?_⟩
   ·go_simp;with_reducible rfl
   go_simp;refine pPure (i:=8) rfl (by kernel_rfl) rfl HSW.out ?_;apply Exists.intro;refine ⟨fun w'=>?_,?_⟩
   ·go_simp;with_reducible rfl
   go_simp;refine pTake (i:=9) rfl (by kernel_rfl) rfl HSW.out ?_;apply Exists.intro;refine ⟨fun w' hw'=>?_,?_⟩
   ·rw [HS.out] at hw';obtain ⟨p0,p1,p2⟩:=hw';go_simp;with_reducible rfl
   go_simp;refine pPure (i:=10) rfl (by kernel_rfl) rfl HSW.out ?_;apply Exists.intro;refine ⟨fun w'=>?_,?_⟩
   ·go_simp;with_reducible rfl
   go_simp;refine pStep (i:=11) rfl (by kernel_rfl) (by kernel_rfl) rfl fun K hK=>?_;go_simp;go_at_call 151;refine HPO.out.mono ?_;rintro e w2 ⟨⟨n,er,rfl⟩,hpo⟩;have HF2:=hid (HF1.out.step hpo.1 (fp_sub (by simp)) (HF1.out.h.ports hpo));have hs2:S w2:=by
    rw [HS.out];have hc2:=HF2.out.c.at 1 (v:=.int .u64 A) rfl;have hc3:=HF2.out.c.at 2 (v:=.int .u64 B) rfl;exact ⟨HF2.out.h.c3,hc2,hc3⟩
   have HSW2:=hid hs2;refine hK _ _ hs2 ?_;clear hs2 hK K HSW hpo;refine pPure (i:=12) rfl (by kernel_rfl) rfl HSW2.out ?_;apply Exists.intro;refine ⟨fun w'=>?_,?_⟩
   ·go_simp;with_reducible rfl
   go_simp;refine pPure (i:=13) rfl (by kernel_rfl) rfl HSW2.out ?_;apply Exists.intro;refine ⟨fun w'=>?_,?_⟩
   ·go_simp;with_reducible rfl
   go_simp;refine pPure (i:=15) rfl (by kernel_rfl) rfl HSW2.out ?_;apply Exists.intro;refine ⟨fun w'=>?_,?_⟩
   ·go_simp;with_reducible rfl
   go_simp;refine pPure (i:=14) rfl (by kernel_rfl) rfl HSW2.out ?_;apply Exists.intro;refine ⟨fun w'=>?_,?_⟩
   ·go_simp;with_reducible rfl
   go_simp;refine pPure (i:=16) rfl (by kernel_rfl) rfl HSW2.out ?_;apply Exists.intro;refine ⟨fun w'=>?_,?_⟩
   ·go_simp;with_reducible rfl
   go_simp;refine pEnd (by kernel_rfl) ?_;have hr:=HF2.out.r;have r0:=hr.at 0 (v:=.int .u64 0) rfl;have r1:=hr.at 1 (v:=.int .i64 0) rfl;have g0:=hr.frozen 0;have g1:=hr.frozen 1;go_wp2_with fail;obtain ⟨z1,z2,z3,_⟩:=HF2.out.out (.int .u64 (IntKind.u64.wrap n)) (.int .i64 (er));have q0:=z3.at 0 (v:=.int .u64 (IntKind.u64.wrap n)) rfl;have q1:=z3.at 1 (v:=.int .i64 (er)) rfl;refine bodyPost_ret (v:=.agg #[.int .u64 (IntKind.u64.wrap n),.int .i64 (er)]) (by simp [results,Tryz.results103,go_sem,q0,q1]) rfl ⟨a,_,IntKind.u64.wrap n,er,rfl,z2,z1,HRel.out _ _ (u64_range n),rfl,fun x hx=>.inl hx⟩
theorem hpoll_any (h:IsHv w a M) (hi:HInv M t) (c:C) (hk:c.k=15) (v:Nat) (hv:v < 16) :
 Calls Tryz.prog 105 #[ptr a.hb,.int .i64 ((v:Int)+1),c.val] w (HvTo w a M t ((v:Int)+1) c):=by
 have HRel:=hid (fun v' e' (hv':0≤v'∧v' < 18446744073709551616)=>DoRel.calm (c:=c) (vm:=(v:Int)+1) (v:=v') (e:=e') hi (by omega) (by omega) (by omega) (by omega) (by omega) (by omega) hv');clear hk;obtain ⟨k,A,B,D⟩:=c;obtain ⟨W0,hW0⟩:∃ W0,(w.alloc (.cells #[.int .i64 k,.int .u64 A,.int .u64 B,.int .u64 D] 30)).alloc (.cells #[.int .u64 0,.int .i64 0] 38)=W0:=⟨_,rfl⟩;have hF:=HvF.start h ⟨k,A,B,D⟩;dsimp only at hF;rw [hW0] at hF;have HF0:=hid hF;have HW0:=hid hW0;have hy:=hF.c;dsimp only at hy;have y0:=hy.at 0 (v:=.int .i64 k) rfl;have y1:=hy.at 1 (v:=.int .u64 A) rfl;have y2:=hy.at 2 (v:=.int .u64 B) rfl;have y3:=hy.at 3 (v:=.int .u64 D) rfl;have HBAD:=hid (fun W e=>hbad_any W e);clear hF hy hW0;rw [c_out];obtain ⟨P,hP⟩:=HF0.out.h.po;have HPO:=hid (ptake_any hP v hv);have x3:=HF0.out.h.c3;clear h hP;go_enter Tryz.func105,Tryz.ntmps105;go_upto_region 1 with fail;rw [HW0.out];go_wp2_with fail;refine HPO.out.mono ?_;rintro e w2 ⟨⟨n,ok,rfl⟩,hpo⟩;have HF2:=hid (HF0.out.step hpo.1 (fp_sub (by simp)) (HF0.out.h.ports hpo));clear hpo x3 y0 y1 y2 y3;cases ok
 ·skip;have hr:=HF2.out.r;have r0:=hr.at 0 (v:=.int .u64 0) rfl;have r1:=hr.at 1 (v:=.int .i64 0) rfl;have g0:=hr.frozen 0;have g1:=hr.frozen 1;go_wp2_with fail;obtain ⟨z1,z2,z3,_⟩:=HF2.out.out (.int .u64 (0)) (.int .i64 (0));have q0:=z3.at 0 (v:=.int .u64 (0)) rfl;have q1:=z3.at 1 (v:=.int .i64 (0)) rfl;refine bodyPost_ret (v:=.agg #[.int .u64 (0),.int .i64 (0)]) (by simp [results,Tryz.results105,go_sem,q0,q1]) rfl ⟨a,_,0,0,rfl,z2,z1,HRel.out _ _ zero_range,rfl,fun x hx=>.inl hx⟩
 ·skip;have hr:=HF2.out.r;have r0:=hr.at 0 (v:=.int .u64 0) rfl;have r1:=hr.at 1 (v:=.int .i64 0) rfl;have g0:=hr.frozen 0;have g1:=hr.frozen 1;go_wp2_with fail;obtain ⟨z1,z2,z3,_⟩:=HF2.out.out (.int .u64 (IntKind.u64.wrap (wrap64 (n+1)))) (.int .i64 (0));have q0:=z3.at 0 (v:=.int .u64 (IntKind.u64.wrap (wrap64 (n+1)))) rfl;have q1:=z3.at 1 (v:=.int .i64 (0)) rfl;refine bodyPost_ret (v:=.agg #[.int .u64 (IntKind.u64.wrap (wrap64 (n+1))),.int .i64 (0)]) (by simp [results,Tryz.results105,go_sem,q0,q1]) rfl ⟨a,_,IntKind.u64.wrap (wrap64 (n+1)),0,rfl,z2,z1,HRel.out _ _ (u64_range _),rfl,fun x hx=>.inl hx⟩
theorem hword_out (w:World) (hb:Nat) (v x want:Int) (hx:1048576≤x):Calls Tryz.prog 143 #[ptr hb,.int .i64 v,.int .u64 x,.int .i64 want] w fun e w'=>e=.returned (.tuple #[.int .i64 0,.int .i64 2])∧w=w':=by
 have d1:decide (1048576≤x)=true:=decide_eq_true hx;go_enter Tryz.func143,Tryz.ntmps143;go_wp2_with fail;go_ret2;exact ⟨rfl,rfl⟩
theorem hload_out (h:IsHv w a M) (hi:HInv M t) (c:C) (hk:c.k=6) (hc:1048576≤c.a) (vm:Int) :
 Calls Tryz.prog 96 #[ptr a.hb,.int .i64 vm,c.val] w (HvTo w a M t vm c):=by
 have HRel:=hid (fun v' e' (hv':0≤v'∧v' < 18446744073709551616)=>DoRel.calm (c:=c) (vm:=vm) (v:=v') (e:=e') hi (by omega) (by omega) (by omega) (by omega) (by omega) (by omega) hv');clear hk;obtain ⟨k,A,B,D⟩:=c;obtain ⟨W0,hW0⟩:∃ W0,(w.alloc (.cells #[.int .i64 k,.int .u64 A,.int .u64 B,.int .u64 D] 30)).alloc (.cells #[.int .u64 0,.int .i64 0] 38)=W0:=⟨_,rfl⟩;have hF:=HvF.start h ⟨k,A,B,D⟩;dsimp only at hF;rw [hW0] at hF;have HF0:=hid hF;have HW0:=hid hW0;have hy:=hF.c;dsimp only at hy;have y0:=hy.at 0 (v:=.int .i64 k) rfl;have y1:=hy.at 1 (v:=.int .u64 A) rfl;have y2:=hy.at 2 (v:=.int .u64 B) rfl;have y3:=hy.at 3 (v:=.int .u64 D) rfl;have HBAD:=hid (fun W e=>hbad_any W e);clear hF hy hW0;rw [c_out];have HWO:=hid (fun W=>hword_out W a.hb vm A 1 hc);clear h hc;go_enter Tryz.func96,Tryz.ntmps96;go_upto_region 1 with fail;rw [HW0.out];go_wp2_with fail;refine (HWO.out _).mono ?_;rintro e w2 ⟨rfl,rfl⟩;go_wp2_with fail;refine (HBAD.out _ _).mono ?_;rintro en wz ⟨rfl,hoz⟩;have HFZ:=hid (HF0.out.quiet hoz);clear hoz;have hr:=HFZ.out.r;have r0:=hr.at 0 (v:=.int .u64 0) rfl;have r1:=hr.at 1 (v:=.int .i64 0) rfl;have g0:=hr.frozen 0;have g1:=hr.frozen 1;go_wp2_with fail;obtain ⟨z1,z2,z3,_⟩:=HFZ.out.out (.int .u64 (0)) (.int .i64 (2));have q0:=z3.at 0 (v:=.int .u64 (0)) rfl;have q1:=z3.at 1 (v:=.int .i64 (2)) rfl;refine bodyPost_ret (v:=.agg #[.int .u64 (0),.int .i64 (2)]) (by simp [results,Tryz.results96,go_sem,q0,q1]) rfl ⟨a,_,0,2,rfl,z2,z1,HRel.out _ _ zero_range,rfl,fun x hx=>.inl hx⟩
theorem hstore_out (h:IsHv w a M) (hi:HInv M t) (c:C) (hk:c.k=7) (hc:1048576≤c.a) (vm:Int) :
 Calls Tryz.prog 97 #[ptr a.hb,.int .i64 vm,c.val] w (HvTo w a M t vm c):=by
 have HRel:=hid (fun v' e' (hv':0≤v'∧v' < 18446744073709551616)=>DoRel.calm (c:=c) (vm:=vm) (v:=v') (e:=e') hi (by omega) (by omega) (by omega) (by omega) (by omega) (by omega) hv');clear hk;obtain ⟨k,A,B,D⟩:=c;obtain ⟨W0,hW0⟩:∃ W0,(w.alloc (.cells #[.int .i64 k,.int .u64 A,.int .u64 B,.int .u64 D] 30)).alloc (.cells #[.int .u64 0,.int .i64 0] 38)=W0:=⟨_,rfl⟩;have hF:=HvF.start h ⟨k,A,B,D⟩;dsimp only at hF;rw [hW0] at hF;have HF0:=hid hF;have HW0:=hid hW0;have hy:=hF.c;dsimp only at hy;have y0:=hy.at 0 (v:=.int .i64 k) rfl;have y1:=hy.at 1 (v:=.int .u64 A) rfl;have y2:=hy.at 2 (v:=.int .u64 B) rfl;have y3:=hy.at 3 (v:=.int .u64 D) rfl;have HBAD:=hid (fun W e=>hbad_any W e);clear hF hy hW0;rw [c_out];have HWO:=hid (fun W=>hword_out W a.hb vm A 2 hc);clear h hc;go_enter Tryz.func97,Tryz.ntmps97;go_upto_region 1 with fail;rw [HW0.out];go_wp2_with fail;refine (HWO.out _).mono ?_;rintro e w2 ⟨rfl,rfl⟩;go_wp2_with fail;refine (HBAD.out _ _).mono ?_;rintro en wz ⟨rfl,hoz⟩;have HFZ:=hid (HF0.out.quiet hoz);clear hoz;have hr:=HFZ.out.r;have r0:=hr.at 0 (v:=.int .u64 0) rfl;have r1:=hr.at 1 (v:=.int .i64 0) rfl;have g0:=hr.frozen 0;have g1:=hr.frozen 1;go_wp2_with fail;obtain ⟨z1,z2,z3,_⟩:=HFZ.out.out (.int .u64 (0)) (.int .i64 (2));have q0:=z3.at 0 (v:=.int .u64 (0)) rfl;have q1:=z3.at 1 (v:=.int .i64 (2)) rfl;refine bodyPost_ret (v:=.agg #[.int .u64 (0),.int .i64 (2)]) (by simp [results,Tryz.results97,go_sem,q0,q1]) rfl ⟨a,_,0,2,rfl,z2,z1,HRel.out _ _ zero_range,rfl,fun x hx=>.inl hx⟩
theorem hoffer_any (h:IsHv w a M) (hi:HInv M t) (c:C) (hk:c.k=8) (hf:c.fits) (v:Nat) {G:GS} (hg:M.g v=some G) :
 Calls Tryz.prog 98 #[ptr a.hb,.int .i64 v,c.val] w (HvTo w a M t v c):=by
 have hA:=hf.1;have hB:=hf.2.1;have HRel:=hid (fun v' e' (hv':0≤v'∧v' < 18446744073709551616)=>DoRel.calm (c:=c) (vm:=(v:Int)) (v:=v') (e:=e') hi (by omega) (by omega) (by omega) (by omega) (by omega) (by omega) hv');clear hf hk;obtain ⟨k,A,B,D⟩:=c;obtain ⟨W0,hW0⟩:∃ W0,(w.alloc (.cells #[.int .i64 k,.int .u64 A,.int .u64 B,.int .u64 D] 30)).alloc (.cells #[.int .u64 0,.int .i64 0] 38)=W0:=⟨_,rfl⟩;have hF:=HvF.start h ⟨k,A,B,D⟩;dsimp only at hF;rw [hW0] at hF;have HF0:=hid hF;have HW0:=hid hW0;have hy:=hF.c;dsimp only at hy;have y0:=hy.at 0 (v:=.int .i64 k) rfl;have y1:=hy.at 1 (v:=.int .u64 A) rfl;have y2:=hy.at 2 (v:=.int .u64 B) rfl;have y3:=hy.at 3 (v:=.int .u64 D) rfl;have HBAD:=hid (fun W e=>hbad_any W e);clear hF hy hW0;rw [c_out];have hA:0≤A:=hA;have hB:0≤B:=hB;have HOT:=hid (hother_any HF0.out.h (v:Int) B hB);have HQ:=hid (hquery_any HF0.out.h hi hg A);have HG:=hid hg;obtain ⟨Q,hQ⟩:∃ Q,queryN M.L G.root A=Q:=⟨_,rfl⟩;rw [hQ] at HQ;obtain ⟨Q1,Q2,Q3⟩:=Q;dsimp only at HQ;clear h hg hQ hi;go_enter Tryz.func98,Tryz.ntmps98;go_upto_region 1 with fail;rw [HW0.out];go_wp2_with fail;refine HOT.out.mono ?_;rintro e w1 ⟨hto,rfl⟩;obtain ⟨ot,hot,rfl⟩:∃ ot:Int,(ot=1∨ot=4∨ot=0)∧e=.returned (.int .i64 ot):=by
  rcases hto with rfl | rfl | ⟨rfl,_⟩
  ·exact ⟨1,by omega,rfl⟩
  ·exact ⟨4,by omega,rfl⟩
  ·exact ⟨0,by omega,rfl⟩
 clear hto;by_cases h4:65536≤A
 ·have d4:decide (65536≤A)=true:=decide_eq_true h4;go_wp2_with fail;refine (HBAD.out _ _).mono ?_;rintro en wz ⟨rfl,hoz⟩;have HFZ:=hid (HF0.out.quiet hoz);clear hoz;have hr:=HFZ.out.r;have r0:=hr.at 0 (v:=.int .u64 0) rfl;have r1:=hr.at 1 (v:=.int .i64 0) rfl;have g0:=hr.frozen 0;have g1:=hr.frozen 1;go_wp2_with fail;obtain ⟨z1,z2,z3,_⟩:=HFZ.out.out (.int .u64 (0)) (.int .i64 (2));have q0:=z3.at 0 (v:=.int .u64 (0)) rfl;have q1:=z3.at 1 (v:=.int .i64 (2)) rfl;refine bodyPost_ret (v:=.agg #[.int .u64 (0),.int .i64 (2)]) (by simp [results,Tryz.results98,go_sem,q0,q1]) rfl ⟨a,_,0,2,rfl,z2,z1,HRel.out _ _ zero_range,rfl,fun x hx=>.inl hx⟩
 have d4:decide (65536≤A)=false:=decide_eq_false h4;have ew:IntKind.i64.wrap A=A:=by rw [IntKind.wrap_i64]; omega
 cases h1:(ot == 1)
 case true=>
  go_wp2_with fail;refine (HBAD.out _ _).mono ?_;rintro en wz ⟨rfl,hoz⟩;have HFZ:=hid (HF0.out.quiet hoz);clear hoz;have hr:=HFZ.out.r;have r0:=hr.at 0 (v:=.int .u64 0) rfl;have r1:=hr.at 1 (v:=.int .i64 0) rfl;have g0:=hr.frozen 0;have g1:=hr.frozen 1;go_wp2_with fail;obtain ⟨z1,z2,z3,_⟩:=HFZ.out.out (.int .u64 (0)) (.int .i64 (1));have q0:=z3.at 0 (v:=.int .u64 (0)) rfl;have q1:=z3.at 1 (v:=.int .i64 (1)) rfl;refine bodyPost_ret (v:=.agg #[.int .u64 (0),.int .i64 (1)]) (by simp [results,Tryz.results98,go_sem,q0,q1]) rfl ⟨a,_,0,1,rfl,z2,z1,HRel.out _ _ zero_range,rfl,fun x hx=>.inl hx⟩
 cases h2:decide (1 < D)
 case true=>
  go_wp2_with fail;refine (HBAD.out _ _).mono ?_;rintro en wz ⟨rfl,hoz⟩;have HFZ:=hid (HF0.out.quiet hoz);clear hoz;have hr:=HFZ.out.r;have r0:=hr.at 0 (v:=.int .u64 0) rfl;have r1:=hr.at 1 (v:=.int .i64 0) rfl;have g0:=hr.frozen 0;have g1:=hr.frozen 1;go_wp2_with fail;obtain ⟨z1,z2,z3,_⟩:=HFZ.out.out (.int .u64 (0)) (.int .i64 (1));have q0:=z3.at 0 (v:=.int .u64 (0)) rfl;have q1:=z3.at 1 (v:=.int .i64 (1)) rfl;refine bodyPost_ret (v:=.agg #[.int .u64 (0),.int .i64 (1)]) (by simp [results,Tryz.results98,go_sem,q0,q1]) rfl ⟨a,_,0,1,rfl,z2,z1,HRel.out _ _ zero_range,rfl,fun x hx=>.inl hx⟩
 go_wp2_with fail;refine HQ.out.mono ?_;rintro e w1 ⟨rfl,ho,hh⟩;have HF1:=hid (HF0.out.step ho (fp_sub (by simp)) hh);have hy:=HF1.out.c;dsimp only at hy;have u0:=hy.at 0 (v:=.int .i64 k) rfl;have u1:=hy.at 1 (v:=.int .u64 A) rfl;have u2:=hy.at 2 (v:=.int .u64 B) rfl;have u3:=hy.at 3 (v:=.int .u64 D) rfl;have HTK:=hid (htaken_any HF1.out.h HG.out A);clear ho hh hy y0 y1 y2 y3;cases h3:(Q3 == 0)
 ·have h3':(Q3 != 0)=true:=by rw [bne,h3]; rfl
  go_wp2_with fail;refine (HBAD.out _ _).mono ?_;rintro en wz ⟨rfl,hoz⟩;have HFZ:=hid (HF1.out.quiet hoz);clear hoz;have hr:=HFZ.out.r;have r0:=hr.at 0 (v:=.int .u64 0) rfl;have r1:=hr.at 1 (v:=.int .i64 0) rfl;have g0:=hr.frozen 0;have g1:=hr.frozen 1;go_wp2_with fail;obtain ⟨z1,z2,z3,_⟩:=HFZ.out.out (.int .u64 (0)) (.int .i64 (4));have q0:=z3.at 0 (v:=.int .u64 (0)) rfl;have q1:=z3.at 1 (v:=.int .i64 (4)) rfl;refine bodyPost_ret (v:=.agg #[.int .u64 (0),.int .i64 (4)]) (by simp [results,Tryz.results98,go_sem,q0,q1]) rfl ⟨a,_,0,4,rfl,z2,z1,HRel.out _ _ zero_range,rfl,fun x hx=>.inl hx⟩
 have h3':(Q3 != 0)=false:=by rw [bne,h3]; rfl
 cases h5:(ot == 0)
 ·have h5':(ot != 0)=true:=by rw [bne,h5]; rfl
  go_wp2_with fail;refine (HBAD.out _ _).mono ?_;rintro en wz ⟨rfl,hoz⟩;have HFZ:=hid (HF1.out.quiet hoz);clear hoz;have hr:=HFZ.out.r;have r0:=hr.at 0 (v:=.int .u64 0) rfl;have r1:=hr.at 1 (v:=.int .i64 0) rfl;have g0:=hr.frozen 0;have g1:=hr.frozen 1;go_wp2_with fail;obtain ⟨z1,z2,z3,_⟩:=HFZ.out.out (.int .u64 (0)) (.int .i64 (4));have q0:=z3.at 0 (v:=.int .u64 (0)) rfl;have q1:=z3.at 1 (v:=.int .i64 (4)) rfl;refine bodyPost_ret (v:=.agg #[.int .u64 (0),.int .i64 (4)]) (by simp [results,Tryz.results98,go_sem,q0,q1]) rfl ⟨a,_,0,4,rfl,z2,z1,HRel.out _ _ zero_range,rfl,fun x hx=>.inl hx⟩
 have h5':(ot != 0)=false:=by rw [bne,h5]; rfl
 go_wp2_with fail;refine HTK.out.mono ?_;rintro e w2 ⟨rfl,ho⟩;have HF2:=hid (HF1.out.quiet ho);have hy:=HF2.out.c;dsimp only at hy;have y0:=hy.at 0 (v:=.int .i64 k) rfl;have y1:=hy.at 1 (v:=.int .u64 A) rfl;have y2:=hy.at 2 (v:=.int .u64 B) rfl;have y3:=hy.at 3 (v:=.int .u64 D) rfl;clear ho hy u0 u1 u2 u3;cases htk:(G.tk A).isSome
 case true=>
  go_wp2_with fail;refine (HBAD.out _ _).mono ?_;rintro en wz ⟨rfl,hoz⟩;have HFZ:=hid (HF2.out.quiet hoz);clear hoz;have hr:=HFZ.out.r;have r0:=hr.at 0 (v:=.int .u64 0) rfl;have r1:=hr.at 1 (v:=.int .i64 0) rfl;have g0:=hr.frozen 0;have g1:=hr.frozen 1;go_wp2_with fail;obtain ⟨z1,z2,z3,_⟩:=HFZ.out.out (.int .u64 (0)) (.int .i64 (7));have q0:=z3.at 0 (v:=.int .u64 (0)) rfl;have q1:=z3.at 1 (v:=.int .i64 (7)) rfl;refine bodyPost_ret (v:=.agg #[.int .u64 (0),.int .i64 (7)]) (by simp [results,Tryz.results98,go_sem,q0,q1]) rfl ⟨a,_,0,7,rfl,z2,z1,HRel.out _ _ zero_range,rfl,fun x hx=>.inl hx⟩
 go_upto_region 12 with fail;have x3:=HF2.out.h.c2;have q1:=(Only.refl [] w2).drew;have HF3:=hid (HF2.out.quiet q1);obtain ⟨P,hP⟩:=HF3.out.h.gr;have HPO:=hid (fun x wr=>goffer_any hP v A x wr);clear q1 hP;have ewB:∃ x,IntKind.i64.wrap B=x:=⟨_,rfl⟩;obtain ⟨xB,hxB⟩:=ewB;refine pBegin rfl ?_;obtain ⟨S,hS⟩:∃ S:World→Prop,S=fun w'=>w'.cell? ⟨a.hb,2,none⟩=some (ptr a.gb)∧w'.cell? ⟨w.heap.size,1,none⟩=some (.int .u64 A)∧w'.cell? ⟨w.heap.size,2,none⟩=some (.int .u64 B)∧w'.cell? ⟨w.heap.size,3,none⟩=some (.int .u64 D):=⟨_,rfl⟩;have HS:=hid hS;clear hS;refine pPhaseH S 99 (by rw [HS.out]; exact ⟨x3,y1,y2,y3⟩) fun HSW=>?_;refine pPure (i:=0) rfl (by kernel_rfl) rfl HSW.out ?_;apply Exists.intro;refine ⟨fun w'=>?_,?_⟩
 ·go_simp;with_reducible rfl
 go_simp;refine pPure (i:=1) rfl (by kernel_rfl) rfl HSW.out ?_;apply Exists.intro;refine ⟨fun w'=>?_,?_⟩
 ·go_simp;with_reducible rfl
 go_simp;refine pPure (i:=2) rfl (by kernel_rfl) rfl HSW.out ?_;apply Exists.intro;refine ⟨fun w'=>?_,?_⟩
 ·go_simp;with_reducible rfl
 go_simp;refine pTake (i:=3) rfl (by kernel_rfl) rfl HSW.out ?_;apply Exists.intro;refine ⟨fun w' hw'=>?_,?_⟩
 ·rw [HS.out] at hw';obtain ⟨p0,p1,p2,p3⟩:=hw';go_simp;with_reducible rfl
 go_simp;refine pPure (i:=4) rfl (by kernel_rfl) rfl HSW.out ?_;apply Exists.intro;refine ⟨fun w'=>?_,?_⟩
 ·go_simp;with_reducible rfl
 go_simp;refine pPure (i:=5) rfl (by kernel_rfl) rfl HSW.out ?_;apply Exists.intro;refine ⟨fun w'=>?_,?_⟩
 ·go_simp;with_reducible rfl
 go_simp;refine pTake (i:=6) rfl (by kernel_rfl) rfl HSW.out ?_;apply Exists.intro;refine ⟨fun w' hw'=>?_,?_⟩
 ·rw [HS.out] at hw';obtain ⟨p0,p1,p2,p3⟩:=hw';go_simp;with_reducible rfl
 go_simp;refine pPure (i:=7) rfl (by kernel_rfl) rfl HSW.out ?_;apply Exists.intro;refine ⟨fun w'=>?_,?_⟩
 ·go_simp;with_reducible rfl
 go_simp;refine pPure (i:=8) rfl (by kernel_rfl) rfl HSW.out ?_;apply Exists.intro;refine ⟨fun w'=>?_,?_⟩
 ·go_simp;with_reducible rfl
 go_simp;refine pTake (i:=9) rfl (by kernel_rfl) rfl HSW.out ?_;apply Exists.intro;refine ⟨fun w' hw'=>?_,?_⟩
 ·rw [HS.out] at hw';obtain ⟨p0,p1,p2,p3⟩:=hw';go_simp;with_reducible rfl
 go_simp;refine pPure (i:=10) rfl (by kernel_rfl) rfl HSW.out ?_;apply Exists.intro;refine ⟨fun w'=>?_,?_⟩
 ·go_simp;with_reducible rfl
 go_simp;refine pPure (i:=11) rfl (by kernel_rfl) rfl HSW.out ?_;apply Exists.intro;refine ⟨fun w'=>?_,?_⟩
 ·go_simp;with_reducible rfl
 go_simp;refine pTake (i:=12) rfl (by kernel_rfl) rfl HSW.out ?_;apply Exists.intro;refine ⟨fun w' hw'=>?_,?_⟩
 ·rw [HS.out] at hw';obtain ⟨p0,p1,p2,p3⟩:=hw';go_simp;with_reducible rfl
 go_simp;refine pPure (i:=13) rfl (by kernel_rfl) rfl HSW.out ?_;apply Exists.intro;refine ⟨fun w'=>?_,?_⟩
 ·go_simp;with_reducible rfl
 go_simp;refine pStep (i:=14) rfl (by kernel_rfl) (by kernel_rfl) rfl fun K hK=>?_;go_simp;go_at_call 145;refine (HPO.out _ _).mono ?_;rintro e w4 ⟨⟨n,er,rfl⟩,hpo⟩;have HF4:=hid (HF3.out.step hpo.1 (fp_sub (by simp)) (HF3.out.h.grants hpo));have hs2:S w4:=by
  rw [HS.out];have hc1:=HF4.out.c.at 1 (v:=.int .u64 A) rfl;have hc2:=HF4.out.c.at 2 (v:=.int .u64 B) rfl;have hc3:=HF4.out.c.at 3 (v:=.int .u64 D) rfl;exact ⟨HF4.out.h.c2,hc1,hc2,hc3⟩
 have HSW2:=hid hs2;refine hK _ _ hs2 ?_;clear hs2 hK K HSW hpo;refine pPure (i:=15) rfl (by kernel_rfl) rfl HSW2.out ?_;apply Exists.intro;refine ⟨fun w'=>?_,?_⟩
 ·go_simp;with_reducible rfl
 go_simp;refine pPure (i:=16) rfl (by kernel_rfl) rfl HSW2.out ?_;apply Exists.intro;refine ⟨fun w'=>?_,?_⟩
 ·go_simp;with_reducible rfl
 go_simp;refine pPure (i:=18) rfl (by kernel_rfl) rfl HSW2.out ?_;apply Exists.intro;refine ⟨fun w'=>?_,?_⟩
 ·go_simp;with_reducible rfl
 go_simp;refine pPure (i:=17) rfl (by kernel_rfl) rfl HSW2.out ?_;apply Exists.intro;refine ⟨fun w'=>?_,?_⟩
 ·go_simp;with_reducible rfl
 go_simp;refine pPure (i:=19) rfl (by kernel_rfl) rfl HSW2.out ?_;apply Exists.intro;refine ⟨fun w'=>?_,?_⟩
 ·go_simp;with_reducible rfl
 go_simp;refine pEnd (by kernel_rfl) ?_;have hr:=HF4.out.r;have r0:=hr.at 0 (v:=.int .u64 0) rfl;have r1:=hr.at 1 (v:=.int .i64 0) rfl;have g0:=hr.frozen 0;have g1:=hr.frozen 1;go_wp2_with fail;obtain ⟨z1,z2,z3,_⟩:=HF4.out.out (.int .u64 (IntKind.u64.wrap n)) (.int .i64 (er));have q0:=z3.at 0 (v:=.int .u64 (IntKind.u64.wrap n)) rfl;have q1:=z3.at 1 (v:=.int .i64 (er)) rfl;refine bodyPost_ret (v:=.agg #[.int .u64 (IntKind.u64.wrap n),.int .i64 (er)]) (by simp [results,Tryz.results98,go_sem,q0,q1]) rfl ⟨a,_,IntKind.u64.wrap n,er,rfl,z2,z1,HRel.out _ _ (u64_range n),rfl,fun x hx=>.inl hx⟩
end
end Go.Proofs.YtadgpnoealegiaaGreat
