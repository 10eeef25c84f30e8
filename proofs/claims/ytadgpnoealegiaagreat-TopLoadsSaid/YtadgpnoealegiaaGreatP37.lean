import Derived.Test.YtadgpnoealegiaaGreatP36
namespace Go.Proofs.YtadgpnoealegiaaGreat
open Go.RowKit
open Go.Lib (hid)
set_option maxRecDepth 100000
set_option maxHeartbeats 20000000
def doerN (k:Int):Option Nat:=if k=1 then some 90 else if k=2 then some 91 else if k=17 then some 92 else if k=3 then some 93 else if k=4 then some 94 else if k=5 then some 95 else if k=6 then some 96 else if k=7 then some 97 else if k=8 then some 98 else if k=9 then some 99 else if k=10 then some 100 else if k=11 then some 101 else if k=12 then some 102 else if k=13 then some 103 else if k=14 then some 104 else if k=15 then some 105 else if k=16 then some 106 else none
theorem Tryz.underlyingDoers : Tryz.prog.underlying 155=some (.map 3 154):=by kernel_rfl
theorem hkinds_any (w:World):Calls Tryz.prog 68 #[] w fun e w'=>∃ r f,e=.returned (.map (some r))∧IsMap w' r f∧(∀ k n,doerN k=some n→f k=some (.func (.func n) #[] #[]))∧Only [] w w'∧w.heap.size≤r:=by
 have hmm:=@run_makeMap Tryz.prog;have HM:=hid (IsMap.new w);have HO:=hid (show Only [w.heap.size] w (w.alloc (.map #[] 0)) from (Only.refl _ _).alloc _);go_enter Tryz.func68,Tryz.ntmps68;go_wp2_with (first
  | (with_reducible (refine wpList_ins Tryz.underlyingDoers Tryz.underlying3 HM.out (by with_unfolding_all rfl) (by with_unfolding_all rfl) (by with_unfolding_all rfl) ?_)
     intro w1 hm ho hs;clear hs;have HM:=hid hm;have HO:=hid (HO.out.trans ho);clear hm ho))
 go_ret;refine ⟨_,_,rfl,HM.out,?_,⟨HO.out.os,HO.out.tape,HO.out.output,HO.out.size,fun i hi _=>HO.out.block i hi (by simp; omega)⟩,Nat.le_refl _⟩;intro k n hk;unfold doerN at hk;by_cases h1:k=1
 ·subst h1;cases hk;rfl
 rw [if_neg h1] at hk;by_cases h2:k=2
 ·subst h2;cases hk;rfl
 rw [if_neg h2] at hk;by_cases h17:k=17
 ·subst h17;cases hk;rfl
 rw [if_neg h17] at hk;by_cases h3:k=3
 ·subst h3;cases hk;rfl
 rw [if_neg h3] at hk;by_cases h4:k=4
 ·subst h4;cases hk;rfl
 rw [if_neg h4] at hk;by_cases h5:k=5
 ·subst h5;cases hk;rfl
 rw [if_neg h5] at hk;by_cases h6:k=6
 ·subst h6;cases hk;rfl
 rw [if_neg h6] at hk;by_cases h7:k=7
 ·subst h7;cases hk;rfl
 rw [if_neg h7] at hk;by_cases h8:k=8
 ·subst h8;cases hk;rfl
 rw [if_neg h8] at hk;by_cases h9:k=9
 ·subst h9;cases hk;rfl
 rw [if_neg h9] at hk;by_cases h10:k=10
 ·subst h10;cases hk;rfl
 rw [if_neg h10] at hk;by_cases h11:k=11
 ·subst h11;cases hk;rfl
 rw [if_neg h11] at hk;by_cases h12:k=12
 ·subst h12;cases hk;rfl
 rw [if_neg h12] at hk;by_cases h13:k=13
 ·subst h13;cases hk;rfl
 rw [if_neg h13] at hk;by_cases h14:k=14
 ·subst h14;cases hk;rfl
 rw [if_neg h14] at hk;by_cases h15:k=15
 ·subst h15;cases hk;rfl
 rw [if_neg h15] at hk;by_cases h16:k=16
 ·subst h16;cases hk;rfl
 rw [if_neg h16] at hk;cases hk
section
variable {w:World} {a:HvP} {M:HS} {t:Nat} {vm:Int}
theorem hopen_any (h:IsHv w a M) (hi:HInv M t) (c:C) (hk:c.k=12) (hf:c.fits) (v:Nat) (hv:v < 16) :
 Calls Tryz.prog 102 #[ptr a.hb,.int .i64 ((v:Int)+1),c.val] w (HvTo w a M t ((v:Int)+1) c):=by
 have hA:=hf.1;have HRel:=hid (fun v' e' (hv':0≤v'∧v' < 18446744073709551616)=>DoRel.calm (c:=c) (vm:=(v:Int)+1) (v:=v') (e:=e') hi (by omega) (by omega) (by omega) (by omega) (by omega) (by omega) hv');clear hf hk;obtain ⟨k,A,B,D⟩:=c;obtain ⟨W0,hW0⟩:∃ W0,(w.alloc (.cells #[.int .i64 k,.int .u64 A,.int .u64 B,.int .u64 D] 30)).alloc (.cells #[.int .u64 0,.int .i64 0] 38)=W0:=⟨_,rfl⟩;have hF:=HvF.start h ⟨k,A,B,D⟩;dsimp only at hF;rw [hW0] at hF;have HF0:=hid hF;have HW0:=hid hW0;have hy:=hF.c;dsimp only at hy;have y0:=hy.at 0 (v:=.int .i64 k) rfl;have y1:=hy.at 1 (v:=.int .u64 A) rfl;have y2:=hy.at 2 (v:=.int .u64 B) rfl;have y3:=hy.at 3 (v:=.int .u64 D) rfl;have HBAD:=hid (fun W e=>hbad_any W e);clear hF hy hW0;rw [c_out];have HOT:=hid (hother_any HF0.out.h ((v:Int)+1) A hA);clear h;go_enter Tryz.func102,Tryz.ntmps102;go_upto_region 1 with fail;rw [HW0.out];go_wp2_with fail;refine HOT.out.mono ?_;rintro e w1 ⟨hto,rfl⟩;rcases hto with rfl | rfl | ⟨rfl,h1,h2⟩
 ·skip;go_wp2_with fail;refine (HBAD.out _ _).mono ?_;rintro en wz ⟨rfl,hoz⟩;have HFZ:=hid (HF0.out.quiet hoz);clear hoz;have hr:=HFZ.out.r;have r0:=hr.at 0 (v:=.int .u64 0) rfl;have r1:=hr.at 1 (v:=.int .i64 0) rfl;have g0:=hr.frozen 0;have g1:=hr.frozen 1;go_wp2_with fail;obtain ⟨z1,z2,z3,_⟩:=HFZ.out.out (.int .u64 (0)) (.int .i64 (1));have q0:=z3.at 0 (v:=.int .u64 (0)) rfl;have q1:=z3.at 1 (v:=.int .i64 (1)) rfl;refine bodyPost_ret (v:=.agg #[.int .u64 (0),.int .i64 (1)]) (by simp [results,Tryz.results102,go_sem,q0,q1]) rfl ⟨a,_,0,1,rfl,z2,z1,HRel.out _ _ zero_range,rfl,fun x hx=>.inl hx⟩
 ·skip;go_wp2_with fail;refine (HBAD.out _ _).mono ?_;rintro en wz ⟨rfl,hoz⟩;have HFZ:=hid (HF0.out.quiet hoz);clear hoz;have hr:=HFZ.out.r;have r0:=hr.at 0 (v:=.int .u64 0) rfl;have r1:=hr.at 1 (v:=.int .i64 0) rfl;have g0:=hr.frozen 0;have g1:=hr.frozen 1;go_wp2_with fail;obtain ⟨z1,z2,z3,_⟩:=HFZ.out.out (.int .u64 (0)) (.int .i64 (4));have q0:=z3.at 0 (v:=.int .u64 (0)) rfl;have q1:=z3.at 1 (v:=.int .i64 (4)) rfl;refine bodyPost_ret (v:=.agg #[.int .u64 (0),.int .i64 (4)]) (by simp [results,Tryz.results102,go_sem,q0,q1]) rfl ⟨a,_,0,4,rfl,z2,z1,HRel.out _ _ zero_range,rfl,fun x hx=>.inl hx⟩
 ·have ew:IntKind.i64.wrap A=A:=by rw [IntKind.wrap_i64]; omega
  go_upto_region 4 with fail;have x3:=HF0.out.h.c3;have q1:=(Only.refl [] W0).drew;have HF1:=hid (HF0.out.quiet q1);obtain ⟨P,hP⟩:=HF1.out.h.po;have HPO:=hid (popen_any hP v hv A);clear q1 hP;refine pBegin rfl ?_;obtain ⟨S,hS⟩:∃ S:World→Prop,S=fun w'=>w'.cell? ⟨a.hb,3,none⟩=some (ptr a.qb)∧w'.cell? ⟨w.heap.size,1,none⟩=some (.int .u64 A):=⟨_,rfl⟩;have HS:=hid hS;clear hS;refine pPhaseH S 99 (by rw [HS.out]; exact ⟨x3,y1⟩) fun HSW=>?_;refine pPure (i:=0) rfl (by kernel_rfl) rfl HSW.out ?_;apply Exists.intro;refine ⟨fun w'=>?_,?_⟩
  ·go_simp;with_reducible rfl
  go_simp;refine pPure (i:=1) rfl (by kernel_rfl) rfl HSW.out ?_;apply Exists.intro;refine ⟨fun w'=>?_,?_⟩
  ·go_simp;with_reducible rfl
  go_simp;refine pPure (i:=2) rfl (by kernel_rfl) rfl HSW.out ?_;apply Exists.intro;refine ⟨fun w'=>?_,?_⟩
  ·go_simp;with_reducible rfl
  go_simp;refine pTake (i:=3) rfl (by kernel_rfl) rfl HSW.out ?_;apply Exists.intro;refine ⟨fun w' hw'=>?_,?_⟩
  ·rw [HS.out] at hw';obtain ⟨p0,p1⟩:=hw';go_simp;with_reducible rfl
  go_simp;refine pPure (i:=4) rfl (by kernel_rfl) rfl HSW.out ?_;apply Exists.intro;refine ⟨fun w'=>?_,?_⟩
  ·go_simp;with_reducible rfl
  go_simp;refine pPure (i:=5) rfl (by kernel_rfl) rfl HSW.out ?_;apply Exists.intro;refine ⟨fun w'=>?_,?_⟩
  ·go_simp;with_reducible rfl
  go_simp;refine pTake (i:=6) rfl (by kernel_rfl) rfl HSW.out ?_;apply Exists.intro;refine ⟨fun w' hw'=>?_,?_⟩
  ·rw [HS.out] at hw';obtain ⟨p0,p1⟩:=hw';go_simp;with_reducible rfl
  go_simp;refine pPure (i:=7) rfl (by kernel_rfl) rfl HSW.out ?_;apply Exists.intro;refine ⟨fun w'=>?_,?_⟩
  ·go_simp;with_reducible rfl
  go_simp;refine pStep (i:=8) rfl (by kernel_rfl) (by kernel_rfl) rfl fun K hK=>?_;go_simp;go_at_call 150;refine HPO.out.mono ?_;rintro e w2 ⟨⟨n,er,rfl⟩,hpo⟩;have HF2:=hid (HF1.out.step hpo.1 (fp_sub (by simp)) (HF1.out.h.ports hpo));have hs2:S w2:=by
   rw [HS.out];have hc2:=HF2.out.c.at 1 (v:=.int .u64 A) rfl;exact ⟨HF2.out.h.c3,hc2⟩
  have HSW2:=hid hs2;refine hK _ _ hs2 ?_;clear hs2 hK K HSW hpo;refine pPure (i:=9) rfl (by kernel_rfl) rfl HSW2.out ?_;apply Exists.intro;refine ⟨fun w'=>?_,?_⟩
  ·go_simp;with_reducible rfl
  go_simp;refine pPure (i:=10) rfl (by kernel_rfl) rfl HSW2.out ?_;apply Exists.intro;refine ⟨fun w'=>?_,?_⟩
  ·go_simp;with_reducible rfl
  go_simp;refine pPure (i:=12) rfl (by kernel_rfl) rfl HSW2.out ?_;apply Exists.intro;refine ⟨fun w'=>?_,?_⟩
  ·go_simp;with_reducible rfl
  go_simp;refine pPure (i:=11) rfl (by kernel_rfl) rfl HSW2.out ?_;apply Exists.intro;refine ⟨fun w'=>?_,?_⟩
  ·go_simp;with_reducible rfl
  go_simp;refine pPure (i:=13) rfl (by kernel_rfl) rfl HSW2.out ?_;apply Exists.intro;refine ⟨fun w'=>?_,?_⟩
  ·go_simp;with_reducible rfl
  go_simp;refine pEnd (by kernel_rfl) ?_;have hr:=HF2.out.r;have r0:=hr.at 0 (v:=.int .u64 0) rfl;have r1:=hr.at 1 (v:=.int .i64 0) rfl;have g0:=hr.frozen 0;have g1:=hr.frozen 1;go_wp2_with fail;obtain ⟨z1,z2,z3,_⟩:=HF2.out.out (.int .u64 (IntKind.u64.wrap n)) (.int .i64 (er));have q0:=z3.at 0 (v:=.int .u64 (IntKind.u64.wrap n)) rfl;have q1:=z3.at 1 (v:=.int .i64 (er)) rfl;refine bodyPost_ret (v:=.agg #[.int .u64 (IntKind.u64.wrap n),.int .i64 (er)]) (by simp [results,Tryz.results102,go_sem,q0,q1]) rfl ⟨a,_,IntKind.u64.wrap n,er,rfl,z2,z1,HRel.out _ _ (u64_range n),rfl,fun x hx=>.inl hx⟩
theorem hsend_any (h:IsHv w a M) (hi:HInv M t) (c:C) (hk:c.k=14) (hf:c.fits) (vm:Int) :
 Calls Tryz.prog 104 #[ptr a.hb,.int .i64 vm,c.val] w (HvTo w a M t vm c):=by
 have hA:=hf.1;have HRel:=hid (fun v' e' (hv':0≤v'∧v' < 18446744073709551616)=>DoRel.calm (c:=c) (vm:=vm) (v:=v') (e:=e') hi (by omega) (by omega) (by omega) (by omega) (by omega) (by omega) hv');clear hf hk;obtain ⟨k,A,B,D⟩:=c;obtain ⟨W0,hW0⟩:∃ W0,(w.alloc (.cells #[.int .i64 k,.int .u64 A,.int .u64 B,.int .u64 D] 30)).alloc (.cells #[.int .u64 0,.int .i64 0] 38)=W0:=⟨_,rfl⟩;have hF:=HvF.start h ⟨k,A,B,D⟩;dsimp only at hF;rw [hW0] at hF;have HF0:=hid hF;have HW0:=hid hW0;have hy:=hF.c;dsimp only at hy;have y0:=hy.at 0 (v:=.int .i64 k) rfl;have y1:=hy.at 1 (v:=.int .u64 A) rfl;have y2:=hy.at 2 (v:=.int .u64 B) rfl;have y3:=hy.at 3 (v:=.int .u64 D) rfl;have HBAD:=hid (fun W e=>hbad_any W e);clear hF hy hW0;rw [c_out];have hA:0≤A:=hA;clear h;by_cases h4:4≤A
 ·have d4:decide (4≤A)=true:=decide_eq_true h4;go_enter Tryz.func104,Tryz.ntmps104;go_upto_region 1 with fail;rw [HW0.out];go_wp2_with fail;refine (HBAD.out _ _).mono ?_;rintro en wz ⟨rfl,hoz⟩;have HFZ:=hid (HF0.out.quiet hoz);clear hoz;have hr:=HFZ.out.r;have r0:=hr.at 0 (v:=.int .u64 0) rfl;have r1:=hr.at 1 (v:=.int .i64 0) rfl;have g0:=hr.frozen 0;have g1:=hr.frozen 1;go_wp2_with fail;obtain ⟨z1,z2,z3,_⟩:=HFZ.out.out (.int .u64 (0)) (.int .i64 (1));have q0:=z3.at 0 (v:=.int .u64 (0)) rfl;have q1:=z3.at 1 (v:=.int .i64 (1)) rfl;refine bodyPost_ret (v:=.agg #[.int .u64 (0),.int .i64 (1)]) (by simp [results,Tryz.results104,go_sem,q0,q1]) rfl ⟨a,_,0,1,rfl,z2,z1,HRel.out _ _ zero_range,rfl,fun x hx=>.inl hx⟩
 ·have d4:decide (4≤A)=false:=decide_eq_false h4;have ew:IntKind.i64.wrap A=A:=by rw [IntKind.wrap_i64]; omega
  go_enter Tryz.func104,Tryz.ntmps104;go_upto_region 1 with fail;rw [HW0.out];go_upto_region 3 with fail;have x3:=HF0.out.h.c3;have q1:=(Only.refl [] W0).drew;have HF1:=hid (HF0.out.quiet q1);obtain ⟨P,hP⟩:=HF1.out.h.po;have HPO:=hid (psend_any hP vm A);have HSF:=hid (fun (W:World) (M':HS) (hh:IsHv W a M') (hc:Blk W w.heap.size 30 #[.int .i64 k,.int .u64 A,.int .u64 B,.int .u64 D])=>show W.cell? ⟨a.hb,3,none⟩=some (ptr a.qb)∧W.cell? ⟨w.heap.size,1,none⟩=some (.int .u64 A) from ⟨hh.c3,hc.at 1 rfl⟩);clear q1 hP;refine pBegin rfl ?_;obtain ⟨S,hS⟩:∃ S:World→Prop,S=fun w'=>w'.cell? ⟨a.hb,3,none⟩=some (ptr a.qb)∧w'.cell? ⟨w.heap.size,1,none⟩=some (.int .u64 A):=⟨_,rfl⟩;have HS:=hid hS;clear hS;refine pPhaseH S 99 (by rw [HS.out]; exact ⟨x3,y1⟩) fun HSW=>?_;refine pPure (i:=0) rfl (by kernel_rfl) rfl HSW.out ?_;apply Exists.intro;refine ⟨fun w'=>?_,?_⟩
  ·go_simp;with_reducible rfl
  go_simp;refine pPure (i:=1) rfl (by kernel_rfl) rfl HSW.out ?_;apply Exists.intro;refine ⟨fun w'=>?_,?_⟩
  ·go_simp;with_reducible rfl
  go_simp;refine pPure (i:=2) rfl (by kernel_rfl) rfl HSW.out ?_;apply Exists.intro;refine ⟨fun w'=>?_,?_⟩
  ·go_simp;with_reducible rfl
  go_simp;refine pTake (i:=3) rfl (by kernel_rfl) rfl HSW.out ?_;apply Exists.intro;refine ⟨fun w' hw'=>?_,?_⟩
  ·rw [HS.out] at hw';obtain ⟨p0,p1⟩:=hw';go_simp;with_reducible rfl
  go_simp;refine pPure (i:=4) rfl (by kernel_rfl) rfl HSW.out ?_;apply Exists.intro;refine ⟨fun w'=>?_,?_⟩
  ·go_simp;with_reducible rfl
  go_simp;refine pPure (i:=5) rfl (by kernel_rfl) rfl HSW.out ?_;apply Exists.intro;refine ⟨fun w'=>?_,?_⟩
  ·go_simp;with_reducible rfl
  go_simp;refine pTake (i:=6) rfl (by kernel_rfl) rfl HSW.out ?_;apply Exists.intro;refine ⟨fun w' hw'=>?_,?_⟩
  ·rw [HS.out] at hw';obtain ⟨p0,p1⟩:=hw';go_simp;with_reducible rfl
  go_simp;refine pPure (i:=7) rfl (by kernel_rfl) rfl HSW.out ?_;apply Exists.intro;refine ⟨fun w'=>?_,?_⟩
  ·go_simp;with_reducible rfl
  go_simp;refine pStep (i:=8) rfl (by kernel_rfl) (by kernel_rfl) rfl fun K hK=>?_;go_simp;go_at_call 152;refine HPO.out.mono ?_;rintro e w2 ⟨⟨er,rfl⟩,hpo⟩;have HF2:=hid (HF1.out.step hpo.1 (fp_sub (by simp)) (HF1.out.h.ports hpo));have HSW2:=hid (show S w2 by rw [HS.out]; exact HSF.out w2 _ HF2.out.h HF2.out.c);refine hK _ _ HSW2.out ?_;clear hK K HSW hpo;refine pStep (i:=9) rfl (by kernel_rfl) (by kernel_rfl) rfl fun K hK=>?_;go_simp;go_at_call 66;refine (HBAD.out _ _).mono ?_;rintro en wz ⟨rfl,hoz⟩;have HFZ:=hid (HF2.out.quiet hoz);have hsz:=HSF.out wz _ HFZ.out.h HFZ.out.c;have HSWZ:=hid (show S wz by rw [HS.out]; exact hsz);refine hK _ _ HSWZ.out ?_;clear hK K hoz hsz;have hr:=HFZ.out.r;have r0:=hr.at 0 (v:=.int .u64 0) rfl;have r1:=hr.at 1 (v:=.int .i64 0) rfl;have g0:=hr.frozen 0;have g1:=hr.frozen 1;refine pStep (i:=10) rfl (by kernel_rfl) (by kernel_rfl) rfl fun K hK=>?_;go_simp;obtain ⟨z1,z2,z3,z4⟩:=HFZ.out.out (.int .u64 0) (.int .i64 (er));refine hK _ _ (by rw [HS.out]; exact HSF.out _ _ z1 z4) ?_;clear hK K;refine pEnd (by kernel_rfl) ?_;have q0:=z3.at 0 (v:=.int .u64 0) rfl;have q1:=z3.at 1 (v:=.int .i64 (er)) rfl;go_wp2_with fail;refine bodyPost_ret (v:=.agg #[.int .u64 0,.int .i64 (er)]) (by simp [results,Tryz.results104,go_sem,q0,q1]) rfl ⟨a,_,0,er,rfl,z2,z1,HRel.out _ _ zero_range,rfl,fun x hx=>.inl hx⟩
theorem hclose_any (h:IsHv w a M) (hi:HInv M t) (c:C) (hk:c.k=16) (hf:c.fits) (vm:Int) :
 Calls Tryz.prog 106 #[ptr a.hb,.int .i64 vm,c.val] w (HvTo w a M t vm c):=by
 have hA:=hf.1;have HRel:=hid (fun v' e' (hv':0≤v'∧v' < 18446744073709551616)=>DoRel.calm (c:=c) (vm:=vm) (v:=v') (e:=e') hi (by omega) (by omega) (by omega) (by omega) (by omega) (by omega) hv');clear hf hk;obtain ⟨k,A,B,D⟩:=c;obtain ⟨W0,hW0⟩:∃ W0,(w.alloc (.cells #[.int .i64 k,.int .u64 A,.int .u64 B,.int .u64 D] 30)).alloc (.cells #[.int .u64 0,.int .i64 0] 38)=W0:=⟨_,rfl⟩;have hF:=HvF.start h ⟨k,A,B,D⟩;dsimp only at hF;rw [hW0] at hF;have HF0:=hid hF;have HW0:=hid hW0;have hy:=hF.c;dsimp only at hy;have y0:=hy.at 0 (v:=.int .i64 k) rfl;have y1:=hy.at 1 (v:=.int .u64 A) rfl;have y2:=hy.at 2 (v:=.int .u64 B) rfl;have y3:=hy.at 3 (v:=.int .u64 D) rfl;have HBAD:=hid (fun W e=>hbad_any W e);clear hF hy hW0;rw [c_out];have hA:0≤A:=hA;clear h;by_cases h4:4≤A
 ·have d4:decide (4≤A)=true:=decide_eq_true h4;go_enter Tryz.func106,Tryz.ntmps106;go_upto_region 1 with fail;rw [HW0.out];go_wp2_with fail;refine (HBAD.out _ _).mono ?_;rintro en wz ⟨rfl,hoz⟩;have HFZ:=hid (HF0.out.quiet hoz);clear hoz;have hr:=HFZ.out.r;have r0:=hr.at 0 (v:=.int .u64 0) rfl;have r1:=hr.at 1 (v:=.int .i64 0) rfl;have g0:=hr.frozen 0;have g1:=hr.frozen 1;go_wp2_with fail;obtain ⟨z1,z2,z3,_⟩:=HFZ.out.out (.int .u64 (0)) (.int .i64 (1));have q0:=z3.at 0 (v:=.int .u64 (0)) rfl;have q1:=z3.at 1 (v:=.int .i64 (1)) rfl;refine bodyPost_ret (v:=.agg #[.int .u64 (0),.int .i64 (1)]) (by simp [results,Tryz.results106,go_sem,q0,q1]) rfl ⟨a,_,0,1,rfl,z2,z1,HRel.out _ _ zero_range,rfl,fun x hx=>.inl hx⟩
 ·have d4:decide (4≤A)=false:=decide_eq_false h4;have ew:IntKind.i64.wrap A=A:=by rw [IntKind.wrap_i64]; omega
  go_enter Tryz.func106,Tryz.ntmps106;go_upto_region 1 with fail;rw [HW0.out];go_upto_region 3 with fail;have x3:=HF0.out.h.c3;have q1:=(Only.refl [] W0).drew;have HF1:=hid (HF0.out.quiet q1);obtain ⟨P,hP⟩:=HF1.out.h.po;have HPO:=hid (pclose_any hP vm A);have HSF:=hid (fun (W:World) (M':HS) (hh:IsHv W a M') (hc:Blk W w.heap.size 30 #[.int .i64 k,.int .u64 A,.int .u64 B,.int .u64 D])=>show W.cell? ⟨a.hb,3,none⟩=some (ptr a.qb)∧W.cell? ⟨w.heap.size,1,none⟩=some (.int .u64 A) from ⟨hh.c3,hc.at 1 rfl⟩);clear q1 hP;refine pBegin rfl ?_;obtain ⟨S,hS⟩:∃ S:World→Prop,S=fun w'=>w'.cell? ⟨a.hb,3,none⟩=some (ptr a.qb)∧w'.cell? ⟨w.heap.size,1,none⟩=some (.int .u64 A):=⟨_,rfl⟩;have HS:=hid hS;clear hS;refine pPhaseH S 99 (by rw [HS.out]; exact ⟨x3,y1⟩) fun HSW=>?_;refine pPure (i:=0) rfl (by kernel_rfl) rfl HSW.out ?_;apply Exists.intro;refine ⟨fun w'=>?_,?_⟩
  ·go_simp;with_reducible rfl
  go_simp;refine pPure (i:=1) rfl (by kernel_rfl) rfl HSW.out ?_;apply Exists.intro;refine ⟨fun w'=>?_,?_⟩
  ·go_simp;with_reducible rfl
  go_simp;refine pPure (i:=2) rfl (by kernel_rfl) rfl HSW.out ?_;apply Exists.intro;refine ⟨fun w'=>?_,?_⟩
  ·go_simp;with_reducible rfl
  go_simp;refine pTake (i:=3) rfl (by kernel_rfl) rfl HSW.out ?_;apply Exists.intro;refine ⟨fun w' hw'=>?_,?_⟩
  ·rw [HS.out] at hw';obtain ⟨p0,p1⟩:=hw';go_simp;with_reducible rfl
  go_simp;refine pPure (i:=4) rfl (by kernel_rfl) rfl HSW.out ?_;apply Exists.intro;refine ⟨fun w'=>?_,?_⟩
  ·go_simp;with_reducible rfl
  go_simp;refine pPure (i:=5) rfl (by kernel_rfl) rfl HSW.out ?_;apply Exists.intro;refine ⟨fun w'=>?_,?_⟩
  ·go_simp;with_reducible rfl
  go_simp;refine pTake (i:=6) rfl (by kernel_rfl) rfl HSW.out ?_;apply Exists.intro;refine ⟨fun w' hw'=>?_,?_⟩
  ·rw [HS.out] at hw';obtain ⟨p0,p1⟩:=hw';go_simp;with_reducible rfl
  go_simp;refine pPure (i:=7) rfl (by kernel_rfl) rfl HSW.out ?_;apply Exists.intro;refine ⟨fun w'=>?_,?_⟩
  ·go_simp;with_reducible rfl
  go_simp;refine pStep (i:=8) rfl (by kernel_rfl) (by kernel_rfl) rfl fun K hK=>?_;go_simp;go_at_call 154;refine HPO.out.mono ?_;rintro e w2 ⟨⟨er,rfl⟩,ho2,P2,hp2,_⟩;have hpo:PoTo W0.drew w2 a.qb:=⟨ho2,P2,hp2⟩;clear ho2 hp2;have HF2:=hid (HF1.out.step hpo.1 (fp_sub (by simp)) (HF1.out.h.ports hpo));have HSW2:=hid (show S w2 by rw [HS.out]; exact HSF.out w2 _ HF2.out.h HF2.out.c);refine hK _ _ HSW2.out ?_;clear hK K HSW hpo;refine pStep (i:=9) rfl (by kernel_rfl) (by kernel_rfl) rfl fun K hK=>?_;go_simp;go_at_call 66;refine (HBAD.out _ _).mono ?_;rintro en wz ⟨rfl,hoz⟩;have HFZ:=hid (HF2.out.quiet hoz);have hsz:=HSF.out wz _ HFZ.out.h HFZ.out.c;have HSWZ:=hid (show S wz by rw [HS.out]; exact hsz);refine hK _ _ HSWZ.out ?_;clear hK K hoz hsz;have hr:=HFZ.out.r;have r0:=hr.at 0 (v:=.int .u64 0) rfl;have r1:=hr.at 1 (v:=.int .i64 0) rfl;have g0:=hr.frozen 0;have g1:=hr.frozen 1;refine pStep (i:=10) rfl (by kernel_rfl) (by kernel_rfl) rfl fun K hK=>?_;go_simp;obtain ⟨z1,z2,z3,z4⟩:=HFZ.out.out (.int .u64 0) (.int .i64 (er));refine hK _ _ (by rw [HS.out]; exact HSF.out _ _ z1 z4) ?_;clear hK K;refine pEnd (by kernel_rfl) ?_;have q0:=z3.at 0 (v:=.int .u64 0) rfl;have q1:=z3.at 1 (v:=.int .i64 (er)) rfl;go_wp2_with fail;refine bodyPost_ret (v:=.agg #[.int .u64 0,.int .i64 (er)]) (by simp [results,Tryz.results106,go_sem,q0,q1]) rfl ⟨a,_,0,er,rfl,z2,z1,HRel.out _ _ zero_range,rfl,fun x hx=>.inl hx⟩
theorem hrevoke_any (h:IsHv w a M) (hi:HInv M t) (c:C) (hk:c.k=11) (hf:c.fits) (vm:Int) :
 Calls Tryz.prog 101 #[ptr a.hb,.int .i64 vm,c.val] w (HvTo w a M t vm c):=by
 have hA:=hf.1;have HRel:=hid (fun v' e' (hv':0≤v'∧v' < 18446744073709551616)=>DoRel.calm (c:=c) (vm:=vm) (v:=v') (e:=e') hi (by omega) (by omega) (by omega) (by omega) (by omega) (by omega) hv');clear hf hk;obtain ⟨k,A,B,D⟩:=c;obtain ⟨W0,hW0⟩:∃ W0,(w.alloc (.cells #[.int .i64 k,.int .u64 A,.int .u64 B,.int .u64 D] 30)).alloc (.cells #[.int .u64 0,.int .i64 0] 38)=W0:=⟨_,rfl⟩;have hF:=HvF.start h ⟨k,A,B,D⟩;dsimp only at hF;rw [hW0] at hF;have HF0:=hid hF;have HW0:=hid hW0;have hy:=hF.c;dsimp only at hy;have y0:=hy.at 0 (v:=.int .i64 k) rfl;have y1:=hy.at 1 (v:=.int .u64 A) rfl;have y2:=hy.at 2 (v:=.int .u64 B) rfl;have y3:=hy.at 3 (v:=.int .u64 D) rfl;have HBAD:=hid (fun W e=>hbad_any W e);clear hF hy hW0;rw [c_out];have hA:0≤A:=hA;clear h;by_cases h4:16≤A
 ·have d4:decide (16≤A)=true:=decide_eq_true h4;go_enter Tryz.func101,Tryz.ntmps101;go_upto_region 1 with fail;rw [HW0.out];go_wp2_with fail;refine (HBAD.out _ _).mono ?_;rintro en wz ⟨rfl,hoz⟩;have HFZ:=hid (HF0.out.quiet hoz);clear hoz;have hr:=HFZ.out.r;have r0:=hr.at 0 (v:=.int .u64 0) rfl;have r1:=hr.at 1 (v:=.int .i64 0) rfl;have g0:=hr.frozen 0;have g1:=hr.frozen 1;go_wp2_with fail;obtain ⟨z1,z2,z3,_⟩:=HFZ.out.out (.int .u64 (0)) (.int .i64 (1));have q0:=z3.at 0 (v:=.int .u64 (0)) rfl;have q1:=z3.at 1 (v:=.int .i64 (1)) rfl;refine bodyPost_ret (v:=.agg #[.int .u64 (0),.int .i64 (1)]) (by simp [results,Tryz.results101,go_sem,q0,q1]) rfl ⟨a,_,0,1,rfl,z2,z1,HRel.out _ _ zero_range,rfl,fun x hx=>.inl hx⟩
 ·have d4:decide (16≤A)=false:=decide_eq_false h4;have ew:IntKind.i64.wrap A=A:=by rw [IntKind.wrap_i64]; omega
  go_enter Tryz.func101,Tryz.ntmps101;go_upto_region 1 with fail;rw [HW0.out];go_upto_region 3 with fail;have x3:=HF0.out.h.c2;have q1:=(Only.refl [] W0).drew;have HF1:=hid (HF0.out.quiet q1);obtain ⟨P,hP⟩:=HF1.out.h.gr;have HPO:=hid (grevoke_any hP A vm);have HSF:=hid (fun (W:World) (M':HS) (hh:IsHv W a M') (hc:Blk W w.heap.size 30 #[.int .i64 k,.int .u64 A,.int .u64 B,.int .u64 D])=>show W.cell? ⟨a.hb,2,none⟩=some (ptr a.gb)∧W.cell? ⟨w.heap.size,1,none⟩=some (.int .u64 A) from ⟨hh.c2,hc.at 1 rfl⟩);clear q1 hP;refine pBegin rfl ?_;obtain ⟨S,hS⟩:∃ S:World→Prop,S=fun w'=>w'.cell? ⟨a.hb,2,none⟩=some (ptr a.gb)∧w'.cell? ⟨w.heap.size,1,none⟩=some (.int .u64 A):=⟨_,rfl⟩;have HS:=hid hS;clear hS;refine pPhaseH S 99 (by rw [HS.out]; exact ⟨x3,y1⟩) fun HSW=>?_;refine pPure (i:=0) rfl (by kernel_rfl) rfl HSW.out ?_;apply Exists.intro;refine ⟨fun w'=>?_,?_⟩
  ·go_simp;with_reducible rfl
  go_simp;refine pPure (i:=1) rfl (by kernel_rfl) rfl HSW.out ?_;apply Exists.intro;refine ⟨fun w'=>?_,?_⟩
  ·go_simp;with_reducible rfl
  go_simp;refine pPure (i:=2) rfl (by kernel_rfl) rfl HSW.out ?_;apply Exists.intro;refine ⟨fun w'=>?_,?_⟩
  ·go_simp;with_reducible rfl
  go_simp;refine pTake (i:=3) rfl (by kernel_rfl) rfl HSW.out ?_;apply Exists.intro;refine ⟨fun w' hw'=>?_,?_⟩
  ·rw [HS.out] at hw';obtain ⟨p0,p1⟩:=hw';go_simp;with_reducible rfl
  go_simp;refine pPure (i:=4) rfl (by kernel_rfl) rfl HSW.out ?_;apply Exists.intro;refine ⟨fun w'=>?_,?_⟩
  ·go_simp;with_reducible rfl
  go_simp;refine pTake (i:=5) rfl (by kernel_rfl) rfl HSW.out ?_;apply Exists.intro;refine ⟨fun w' hw'=>?_,?_⟩
  ·rw [HS.out] at hw';obtain ⟨p0,p1⟩:=hw';go_simp;with_reducible rfl
  go_simp;refine pPure (i:=6) rfl (by kernel_rfl) rfl HSW.out ?_;apply Exists.intro;refine ⟨fun w'=>?_,?_⟩
  ·go_simp;with_reducible rfl
  go_simp;refine pPure (i:=7) rfl (by kernel_rfl) rfl HSW.out ?_;apply Exists.intro;refine ⟨fun w'=>?_,?_⟩
  ·go_simp;with_reducible rfl
  go_simp;refine pStep (i:=8) rfl (by kernel_rfl) (by kernel_rfl) rfl fun K hK=>?_;go_simp;go_at_call 149;refine HPO.out.mono ?_;rintro e w2 ⟨⟨er,rfl⟩,hpo⟩;have HF2:=hid (HF1.out.step hpo.1 (fp_sub (by simp)) (HF1.out.h.grants hpo));have HSW2:=hid (show S w2 by rw [HS.out]; exact HSF.out w2 _ HF2.out.h HF2.out.c);refine hK _ _ HSW2.out ?_;clear hK K HSW hpo;refine pStep (i:=9) rfl (by kernel_rfl) (by kernel_rfl) rfl fun K hK=>?_;go_simp;go_at_call 66;refine (HBAD.out _ _).mono ?_;rintro en wz ⟨rfl,hoz⟩;have HFZ:=hid (HF2.out.quiet hoz);have hsz:=HSF.out wz _ HFZ.out.h HFZ.out.c;have HSWZ:=hid (show S wz by rw [HS.out]; exact hsz);refine hK _ _ HSWZ.out ?_;clear hK K hoz hsz;have hr:=HFZ.out.r;have r0:=hr.at 0 (v:=.int .u64 0) rfl;have r1:=hr.at 1 (v:=.int .i64 0) rfl;have g0:=hr.frozen 0;have g1:=hr.frozen 1;refine pStep (i:=10) rfl (by kernel_rfl) (by kernel_rfl) rfl fun K hK=>?_;go_simp;obtain ⟨z1,z2,z3,z4⟩:=HFZ.out.out (.int .u64 0) (.int .i64 (er));refine hK _ _ (by rw [HS.out]; exact HSF.out _ _ z1 z4) ?_;clear hK K;refine pEnd (by kernel_rfl) ?_;have q0:=z3.at 0 (v:=.int .u64 0) rfl;have q1:=z3.at 1 (v:=.int .i64 (er)) rfl;go_wp2_with fail;refine bodyPost_ret (v:=.agg #[.int .u64 0,.int .i64 (er)]) (by simp [results,Tryz.results101,go_sem,q0,q1]) rfl ⟨a,_,0,er,rfl,z2,z1,HRel.out _ _ zero_range,rfl,fun x hx=>.inl hx⟩
end
end Go.Proofs.YtadgpnoealegiaaGreat
