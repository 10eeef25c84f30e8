import Derived.Test.YtadgpnoealegiaaGreatP31
namespace Go.Proofs.YtadgpnoealegiaaGreat
open Go.RowKit
open Go.Lib (hid)
set_option maxRecDepth 100000
set_option maxHeartbeats 20000000
section
variable {w:World} {a:HvP} {M:HS} {t:Nat} {vm:Int}
theorem dofail3 {c:C} {vm:Int} (hi:HInv M t) (hk:c.k=3)
 (h:∀ (u:Nat) G,vm=(u:Int)→M.g u=some G→c.a < 65536→1≤c.b→c.b≤7→∀ f l,freeN M.ps=f :: l→(mapN M.L (setP M.ps f ⟨4,vm,0,0⟩) vm G.root c.a f c.b).2.2=0→False):∀ e:Int,e≠0→DoRel M t vm c M 0 e:=fun e he=>by
 refine ⟨hi.up (Nat.le_succ _),?_,zero_range,fun h=>absurd h he,fun h=>absurd h he,fun _ hc=>?_,fun _ _ u G h1 h2 h3 h4 h5 f l h6 h7=>(h u G h1 h2 h3 h4 h5 f l h6 h7).elim⟩
 ·have:donD c 0 e=none:=by unfold donD; rw [if_neg (fun h=>he h.2)]
  rw [this];exact HStep.refl _ _ _
 ·rw [hc] at hk;cases hk
theorem hdonate_any (h:IsHv w a M) (hi:HInv M t) (c:C) (hk:c.k=3) (hf:c.fits) (v:Nat) {G:GS} (hg:M.g v=some G) :
 Calls Tryz.prog 93 #[ptr a.hb,.int .i64 v,c.val] w (HvTo w a M t v c):=by
 have hA:=hf.1;have hB:=hf.2.1;have HR3:=hid (fun hh=>dofail3 (c:=c) (vm:=(v:Int)) hi hk hh);have HK:=hid hk;clear hf hk;obtain ⟨k,A,B,D⟩:=c;obtain ⟨W0,hW0⟩:∃ W0,(w.alloc (.cells #[.int .i64 k,.int .u64 A,.int .u64 B,.int .u64 D] 30)).alloc (.cells #[.int .u64 0,.int .i64 0] 38)=W0:=⟨_,rfl⟩;have hF:=HvF.start h ⟨k,A,B,D⟩;dsimp only at hF;rw [hW0] at hF;have HF0:=hid hF;have HW0:=hid hW0;have hy:=hF.c;dsimp only at hy;have y0:=hy.at 0 (v:=.int .i64 k) rfl;have y1:=hy.at 1 (v:=.int .u64 A) rfl;have y2:=hy.at 2 (v:=.int .u64 B) rfl;have y3:=hy.at 3 (v:=.int .u64 D) rfl;have HBAD:=hid (fun W e=>hbad_any W e);clear hF hy hW0;rw [c_out];have hA:0≤A:=hA;have hB:0≤B:=hB;have HK:Hid (k=3):=hid HK.out;have HG:=hid hg;have HI:=hid hi;have hvr:=h.gs v G hg;have hv1:=hvr.1;have hv2:=hvr.2.1;have HTA:=hid (take_any 4 v HF0.out.h.pool (.inr rfl) (by omega) (by omega));clear h hg hi hvr;by_cases h4:65536≤A
 ·have d4:decide (65536≤A)=true:=decide_eq_true h4;have HRel:=hid (HR3.out (fun u G _ _ h1=>by dsimp only at h1; omega));go_enter Tryz.func93,Tryz.ntmps93;go_upto_region 1 with fail;rw [HW0.out];go_wp2_with fail;refine (HBAD.out _ _).mono ?_;rintro en wz ⟨rfl,hoz⟩;have HFZ:=hid (HF0.out.quiet hoz);clear hoz;have hr:=HFZ.out.r;have r0:=hr.at 0 (v:=.int .u64 0) rfl;have r1:=hr.at 1 (v:=.int .i64 0) rfl;have g0:=hr.frozen 0;have g1:=hr.frozen 1;go_wp2_with fail;obtain ⟨z1,z2,z3,_⟩:=HFZ.out.out (.int .u64 (0)) (.int .i64 (2));have q0:=z3.at 0 (v:=.int .u64 (0)) rfl;have q1:=z3.at 1 (v:=.int .i64 (2)) rfl;refine bodyPost_ret (v:=.agg #[.int .u64 (0),.int .i64 (2)]) (by simp [results,Tryz.results93,go_sem,q0,q1]) rfl ⟨a,_,0,2,rfl,z2,z1,HRel.out _ (by decide),rfl,fun x hx=>.inl hx⟩
 have d4:decide (65536≤A)=false:=decide_eq_false h4;have ew:IntKind.i64.wrap A=A:=by rw [IntKind.wrap_i64]; omega
 by_cases h5:B < 1
 ·have d5:decide (B < 1)=true:=decide_eq_true h5;have HRel:=hid (HR3.out (fun u G _ _ _ h1=>by dsimp only at h1; omega));go_enter Tryz.func93,Tryz.ntmps93;go_upto_region 1 with fail;rw [HW0.out];go_wp2_with fail;refine (HBAD.out _ _).mono ?_;rintro en wz ⟨rfl,hoz⟩;have HFZ:=hid (HF0.out.quiet hoz);clear hoz;have hr:=HFZ.out.r;have r0:=hr.at 0 (v:=.int .u64 0) rfl;have r1:=hr.at 1 (v:=.int .i64 0) rfl;have g0:=hr.frozen 0;have g1:=hr.frozen 1;go_wp2_with fail;obtain ⟨z1,z2,z3,_⟩:=HFZ.out.out (.int .u64 (0)) (.int .i64 (7));have q0:=z3.at 0 (v:=.int .u64 (0)) rfl;have q1:=z3.at 1 (v:=.int .i64 (7)) rfl;refine bodyPost_ret (v:=.agg #[.int .u64 (0),.int .i64 (7)]) (by simp [results,Tryz.results93,go_sem,q0,q1]) rfl ⟨a,_,0,7,rfl,z2,z1,HRel.out _ (by decide),rfl,fun x hx=>.inl hx⟩
 have d5:decide (B < 1)=false:=decide_eq_false h5;by_cases h6:7 < B
 ·have d6:decide (7 < B)=true:=decide_eq_true h6;have HRel:=hid (HR3.out (fun u G _ _ _ _ h1=>by dsimp only at h1; omega));go_enter Tryz.func93,Tryz.ntmps93;go_upto_region 1 with fail;rw [HW0.out];go_wp2_with fail;refine (HBAD.out _ _).mono ?_;rintro en wz ⟨rfl,hoz⟩;have HFZ:=hid (HF0.out.quiet hoz);clear hoz;have hr:=HFZ.out.r;have r0:=hr.at 0 (v:=.int .u64 0) rfl;have r1:=hr.at 1 (v:=.int .i64 0) rfl;have g0:=hr.frozen 0;have g1:=hr.frozen 1;go_wp2_with fail;obtain ⟨z1,z2,z3,_⟩:=HFZ.out.out (.int .u64 (0)) (.int .i64 (7));have q0:=z3.at 0 (v:=.int .u64 (0)) rfl;have q1:=z3.at 1 (v:=.int .i64 (7)) rfl;refine bodyPost_ret (v:=.agg #[.int .u64 (0),.int .i64 (7)]) (by simp [results,Tryz.results93,go_sem,q0,q1]) rfl ⟨a,_,0,7,rfl,z2,z1,HRel.out _ (by decide),rfl,fun x hx=>.inl hx⟩
 have d6:decide (7 < B)=false:=decide_eq_false h6;have ew2:IntKind.i64.wrap B=B:=by rw [IntKind.wrap_i64]; omega
 cases hfr:freeN M.ps with
 | nil=>
  have htn:takeN M.ps 4 v=(M.ps,0,12):=by unfold takeN; rw [hfr]
  have HRel:=hid (HR3.out (fun u G _ _ _ _ _ f l h1=>by rw [hfr] at h1; cases h1));rw [htn] at HTA;have x1:=HF0.out.h.c1;clear hfr htn;go_enter Tryz.func93,Tryz.ntmps93;go_upto_region 1 with fail;rw [HW0.out];go_wp2_with fail;refine HTA.out.mono ?_;rintro e w1 ⟨rfl,ho,hp⟩;have HF1:=hid (HF0.out.step ho (fp_sub (by simp)) (HF0.out.h.frames ho hp));clear ho hp y0 y1 y2 y3 x1;go_wp2_with fail;refine (HBAD.out _ _).mono ?_;rintro en wz ⟨rfl,hoz⟩;have HFZ:=hid (HF1.out.quiet hoz);clear hoz;have hr:=HFZ.out.r;have r0:=hr.at 0 (v:=.int .u64 0) rfl;have r1:=hr.at 1 (v:=.int .i64 0) rfl;have g0:=hr.frozen 0;have g1:=hr.frozen 1;go_wp2_with fail;obtain ⟨z1,z2,z3,_⟩:=HFZ.out.out (.int .u64 (0)) (.int .i64 (12));have q0:=z3.at 0 (v:=.int .u64 (0)) rfl;have q1:=z3.at 1 (v:=.int .i64 (12)) rfl;refine bodyPost_ret (v:=.agg #[.int .u64 (0),.int .i64 (12)]) (by simp [results,Tryz.results93,go_sem,q0,q1]) rfl ⟨a,_,0,12,rfl,z2,z1,HRel.out _ (by decide),rfl,fun x hx=>.inl hx⟩
 | cons f l=>
  have htn:takeN M.ps 4 v=(setP M.ps f ⟨4,v,0,0⟩,f,0):=by unfold takeN; rw [hfr]
  rw [htn] at HTA;have hfm:inR M.ps f∧kd M.ps f=0:=freeN_mem.1 (by rw [hfr]; exact .head _);have hps1:=HI.out.ps1;have hf0:=hfm.1.1;have hf1:f < 4096:=by have:=hfm.1.2; omega
  have HFR:=hid hfr;have x1:=HF0.out.h.c1;clear hfr htn hfm hps1;go_enter Tryz.func93,Tryz.ntmps93;go_upto_region 1 with fail;rw [HW0.out];go_upto_region 8 with (first
   | (go_at_call 136
      refine HTA.out.mono ?_;rintro e w1 ⟨rfl,ho,hp⟩;have HF1:=hid (HF0.out.step ho (fp_sub (by simp)) (HF0.out.h.frames ho hp));clear ho hp y0 y1 y2 y3 x1)
   | fail)
  have HF2:=hid HF1.out.drew;have hgx:=HF1.out.h.gs v G HG.out;have xg:=HF1.out.h.cg (v:=v) (by omega);rw [gp_some (S:={ M with ps:=setP M.ps f ⟨4,v,0,0⟩ }) HG.out] at xg;have xt:=hgx.2.2.1.at 0 (v:=ptr (a.tB v)) rfl;have hy:=HF1.out.c;dsimp only at hy;have u0:=hy.at 0 (v:=.int .i64 k) rfl;have u1:=hy.at 1 (v:=.int .u64 A) rfl;have u2:=hy.at 2 (v:=.int .u64 B) rfl;have u3:=hy.at 3 (v:=.int .u64 D) rfl;have i0:(0:Int)≤v:=by omega
  have i1:(v:Int) < 17:=by omega
  have HMP:=hid (nmap_any (page:=A) (HF2.out.h.tab (S:={ M with ps:=setP M.ps f ⟨4,v,0,0⟩ }) HG.out) (by omega) (by omega) (root_range HI.out HG.out).1 (root_range HI.out HG.out).2 f B);obtain ⟨⟨L',ps',er⟩,hR⟩:∃ R,mapN M.L (setP M.ps f ⟨4,v,0,0⟩) v G.root A f B=R:=⟨_,rfl⟩;dsimp only at HMP;rw [hR] at HMP;dsimp only at HMP;have HRR:=hid hR;have HSF:=hid (fun (W:World) (b:HvP) (hh:IsHv W b { M with L:=L',ps:=ps' }) (hc:Blk W w.heap.size 30 #[.int .i64 k,.int .u64 A,.int .u64 B,.int .u64 D])=>show W.cell? ⟨b.hb,4+v,none⟩=some (ptr (b.gB v))∧W.cell? ⟨b.gB v,0,none⟩=some (ptr (b.tB v))∧W.cell? ⟨w.heap.size,1,none⟩=some (.int .u64 A)∧W.cell? ⟨w.heap.size,2,none⟩=some (.int .u64 B) from
   ⟨by have:=hh.cg (v:=v) (by omega); rw [gp_some (S:={ M with L:=L',ps:=ps' }) HG.out] at this; exact this,(hh.gs v G HG.out).2.2.1.at 0 rfl,hc.at 1 rfl,hc.at 2 rfl⟩)
  clear hgx hy hR;refine pBegin rfl ?_;obtain ⟨S,hS⟩:∃ S:World→Prop,S=fun w'=>w'.cell? ⟨a.hb,4+v,none⟩=some (ptr (a.gB v))∧w'.cell? ⟨a.gB v,0,none⟩=some (ptr (a.tB v))∧w'.cell? ⟨w.heap.size,1,none⟩=some (.int .u64 A)∧w'.cell? ⟨w.heap.size,2,none⟩=some (.int .u64 B):=⟨_,rfl⟩;have HS:=hid hS;clear hS;refine pPhaseH S 99 (by rw [HS.out]; exact ⟨xg,xt,u1,u2⟩) fun HSW=>?_;refine pPure (i:=0) rfl (by kernel_rfl) rfl HSW.out ?_;apply Exists.intro;refine ⟨fun w'=>?_,?_⟩
  ·go_simp;with_reducible rfl
  go_simp;refine pPure (i:=1) rfl (by kernel_rfl) rfl HSW.out ?_;apply Exists.intro;refine ⟨fun w'=>?_,?_⟩
  ·go_simp;with_reducible rfl
  go_simp;refine pPure (i:=2) rfl (by kernel_rfl) rfl HSW.out ?_;apply Exists.intro;refine ⟨fun w'=>?_,?_⟩
  ·go_simp;with_reducible rfl
  go_simp;refine pPure (i:=3) rfl (by kernel_rfl) rfl HSW.out ?_;apply Exists.intro;refine ⟨fun w'=>?_,?_⟩
  ·go_simp;with_reducible rfl
  go_simp;refine pPure (i:=4) rfl (by kernel_rfl) rfl HSW.out ?_;apply Exists.intro;refine ⟨fun w'=>?_,?_⟩
  ·go_simp;with_reducible rfl
  go_simp;refine pTake (i:=5) rfl (by kernel_rfl) rfl HSW.out ?_;apply Exists.intro;refine ⟨fun w' hw'=>?_,?_⟩
  ·rw [HS.out] at hw';obtain ⟨p0,p1,p2,p3⟩:=hw';go_simp;with_reducible rfl
  go_simp;refine pPure (i:=6) rfl (by kernel_rfl) rfl HSW.out ?_;apply Exists.intro;refine ⟨fun w'=>?_,?_⟩
  ·go_simp;with_reducible rfl
  go_simp;refine pPure (i:=7) rfl (by kernel_rfl) rfl HSW.out ?_;apply Exists.intro;refine ⟨fun w'=>?_,?_⟩
  ·go_simp;with_reducible rfl
  go_simp;refine pTake (i:=8) rfl (by kernel_rfl) rfl HSW.out ?_;apply Exists.intro;refine ⟨fun w' hw'=>?_,?_⟩
  ·rw [HS.out] at hw';obtain ⟨p0,p1,p2,p3⟩:=hw';go_simp;with_reducible rfl
  go_simp;refine pPure (i:=9) rfl (by kernel_rfl) rfl HSW.out ?_;apply Exists.intro;refine ⟨fun w'=>?_,?_⟩
  ·go_simp;with_reducible rfl
  go_simp;refine pTake (i:=10) rfl (by kernel_rfl) rfl HSW.out ?_;apply Exists.intro;refine ⟨fun w' hw'=>?_,?_⟩
  ·rw [HS.out] at hw';obtain ⟨p0,p1,p2,p3⟩:=hw';go_simp;with_reducible rfl
  go_simp;refine pPure (i:=11) rfl (by kernel_rfl) rfl HSW.out ?_;apply Exists.intro;refine ⟨fun w'=>?_,?_⟩
  ·go_simp;with_reducible rfl
  go_simp;refine pPure (i:=12) rfl (by kernel_rfl) rfl HSW.out ?_;apply Exists.intro;refine ⟨fun w'=>?_,?_⟩
  ·go_simp;with_reducible rfl
  go_simp;refine pPure (i:=13) rfl (by kernel_rfl) rfl HSW.out ?_;apply Exists.intro;refine ⟨fun w'=>?_,?_⟩
  ·go_simp;with_reducible rfl
  go_simp;refine pTake (i:=14) rfl (by kernel_rfl) rfl HSW.out ?_;apply Exists.intro;refine ⟨fun w' hw'=>?_,?_⟩
  ·rw [HS.out] at hw';obtain ⟨p0,p1,p2,p3⟩:=hw';go_simp;with_reducible rfl
  go_simp;refine pPure (i:=15) rfl (by kernel_rfl) rfl HSW.out ?_;apply Exists.intro;refine ⟨fun w'=>?_,?_⟩
  ·go_simp;with_reducible rfl
  go_simp;refine pStep (i:=16) rfl (by kernel_rfl) (by kernel_rfl) rfl fun K hK=>?_;go_simp;go_at_call 137;refine HMP.out.mono ?_;rintro e w5 ⟨rfl,ho,ht⟩;have HF4:=hid (HF2.out.step ho (fp_sub (by simp)) (HF2.out.h.tables ho ht.mem ht.pool));have HSW2:=hid (show S w5 by rw [HS.out]; exact HSF.out w5 _ HF4.out.h HF4.out.c);refine hK _ _ HSW2.out ?_;clear hK K HSW ho ht xg xt u0 u1 u2 u3;refine pPure (i:=17) rfl (by kernel_rfl) rfl HSW2.out ?_;apply Exists.intro;refine ⟨fun w'=>?_,?_⟩
  ·go_simp;with_reducible rfl
  go_simp;refine pEnd (by kernel_rfl) ?_;clear HS HSW2;by_cases he:er=0
  case neg=>
   have he1:(er == 0)=false:=beq_eq_false_iff_ne.2 he;have he2:(er != 0)=true:=by rw [bne,he1]; rfl
   have hmf:=map_fail (L:=M.L) (ps:=setP M.ps f ⟨4,v,0,0⟩) (o:=v) (r:=G.root) (page:=A) (f:=f) (ri:=B) (by rw [HRR.out]; exact he);rw [HRR.out] at hmf;obtain ⟨e1,e2⟩:=hmf;dsimp only at e1 e2;subst e1 e2;have HRel:=hid (HR3.out (fun u G2 h1 h2 _ _ _ f2 l2 h3 h4=>by
    have hu:u=v:=by omega
    subst hu;rw [HG.out] at h2;cases h2;rw [HFR.out] at h3;cases h3;rw [HRR.out] at h4;exact he h4) er he)
   have x1:=HF4.out.h.c1;have HGV:=hid (give_any f HF4.out.h.pool);dsimp only at HGV;rw [give_back HI.out.wf HFR.out] at HGV;clear he he1;go_wp2_with fail;refine HGV.out.mono ?_;rintro e w6 ⟨rfl,ho,hp⟩;have HF5:=hid (HF4.out.step ho (fp_sub (by simp)) (HF4.out.h.frames ho hp));clear ho hp x1;have HF6:=hid (show HvF w a M ⟨k,A,B,D⟩ w.heap.size (w.heap.size+1) w6 from HF5.out);go_wp2_with fail;refine (HBAD.out _ _).mono ?_;rintro en wz ⟨rfl,hoz⟩;have HFZ:=hid (HF6.out.quiet hoz);clear hoz;have hr:=HFZ.out.r;have r0:=hr.at 0 (v:=.int .u64 0) rfl;have r1:=hr.at 1 (v:=.int .i64 0) rfl;have g0:=hr.frozen 0;have g1:=hr.frozen 1;go_wp2_with fail;obtain ⟨z1,z2,z3,_⟩:=HFZ.out.out (.int .u64 (0)) (.int .i64 (er));have q0:=z3.at 0 (v:=.int .u64 (0)) rfl;have q1:=z3.at 1 (v:=.int .i64 (er)) rfl;refine bodyPost_ret (v:=.agg #[.int .u64 (0),.int .i64 (er)]) (by simp [results,Tryz.results93,go_sem,q0,q1]) rfl ⟨a,_,0,er,rfl,z2,z1,HRel.out,rfl,fun x hx=>.inl hx⟩
  subst he;obtain ⟨G',j1,j2,j3,j4⟩:=donate_step (cov:=covD (v:Int) ⟨k,A,B,D⟩ 0) (dead:=deadD ⟨k,A,B,D⟩ 0) HI.out HG.out HFR.out (p:=A.toNat) (ri:=B) (by rw [Int.toNat_of_nonneg hA,HRR.out]);rw [Int.toNat_of_nonneg hA,HRR.out] at j1 j2;have HD:=hid (show DoRel M t v ⟨k,A,B,D⟩ { L:=zeros L' f 16,ps:=ps',g:=updG M.g v (some G'),T:=M.T } f 0 from ⟨j1.up (Nat.le_succ _),by
   have hdn:donD ⟨k,A,B,D⟩ f 0=some f:=by unfold donD; rw [if_pos ⟨HK.out,rfl⟩]
   rw [hdn];exact j2,by omega,fun _ h2=>by have:=HK.out; dsimp only at h2; omega,fun _ h2=>by have:=HK.out; dsimp only at h2; omega,fun _ hc=>by
    have:=congrArg C.k hc;have hk4:=HK.out;dsimp only at this;omega,fun _ _ u G2 h1 h2 _ _ _ f2 l2 h3 _=>by
    rw [HFR.out] at h3;cases h3;exact ⟨rfl,rfl⟩⟩)
  have HUP:=hid (And.intro j4 j3);have ewf:IntKind.u64.wrap f=f:=by rw [IntKind.wrap_u64]; omega
  have HZ0:=hid (show HvF w a { M with L:=zeros L' f 0,ps:=ps' } ⟨k,A,B,D⟩ w.heap.size (w.heap.size+1) w5 from HF4.out);clear j1 j2 j3 j4 HF4;go_wp2_with fail;go_loopg [66] 16 (fun q i wr=>∃ j:Nat,j+q=16∧i=.int .i64 j∧HvF w a { M with L:=zeros L' f j,ps:=ps' } ⟨k,A,B,D⟩ w.heap.size (w.heap.size+1) wr)
  case atStart=>exact ⟨0,rfl,rfl,HZ0.out⟩
  case round=>
   obtain ⟨j,hj,rfl,hff⟩:=hrel;have HFJ:=hid hff;clear hff HZ0;by_cases hlt:j < 16
   ·have hji:(j:Int) < 16:=by omega
    have x0:=HFJ.out.h.c0;have ew3:IntKind.i64.wrap (16 * f)=16 * f:=by rw [IntKind.wrap_i64]; omega
    have ew4:IntKind.i64.wrap (16 * f+(j:Int))=16 * f+(j:Int):=by rw [IntKind.wrap_i64]; omega
    have HST:=hid (sto_any HFJ.out.h.mem (16 * f+(j:Int)) 0 (by decide) (by decide));go_wp2_with fail;refine HST.out.mono ?_;rintro e w6 ⟨rfl,ho,hm⟩;have HF7:=hid (show HvF w a { M with L:=zeros L' f (j+1),ps:=ps' } ⟨k,A,B,D⟩ w.heap.size (w.heap.size+1) w6 from HFJ.out.step ho (fp_sub (by simp)) (HFJ.out.h.words ho hm));clear ho hm x0;go_wp2_with fail;go_roundg (gk - 1)
    case measure=>omega
    case rel=>exact ⟨j+1,by omega,by go_num,HF7.out⟩
   ·obtain rfl:j=16:=by omega
    have HF8:=hid (show HvF w a { L:=zeros L' f 16,ps:=ps',g:=updG M.g v (some G'),T:=M.T } ⟨k,A,B,D⟩ w.heap.size (w.heap.size+1) wr from by
     have fz:=HFJ.out;exact ⟨fz.h.upd (M:={ M with L:=zeros L' f 16,ps:=ps' }) HG.out HUP.out.1 HUP.out.2 M.T,fz.c,fz.r,fz.o,fz.lc,fz.lr,fz.la⟩)
    have hr:=HF8.out.r;have r0:=hr.at 0 (v:=.int .u64 0) rfl;have r1:=hr.at 1 (v:=.int .i64 0) rfl;have g0:=hr.frozen 0;have g1:=hr.frozen 1;go_wp2_with fail;obtain ⟨z1,z2,z3,_⟩:=HF8.out.out (.int .u64 (f)) (.int .i64 (0));have q0:=z3.at 0 (v:=.int .u64 (f)) rfl;have q1:=z3.at 1 (v:=.int .i64 (0)) rfl;refine bodyPost_ret (v:=.agg #[.int .u64 (f),.int .i64 (0)]) (by simp [results,Tryz.results93,go_sem,q0,q1]) rfl ⟨a,_,f,0,rfl,z2,z1,HD.out,rfl,fun x hx=>.inl hx⟩
end
section
variable {w:World} {a:HvP} {M:HS} {t:Nat} {vm:Int}
def HvP.add (a:HvP) (v g tb m:Nat):HvP:={ a with gB:=fun u=>if u=v then g else a.gB u,tB:=fun u=>if u=v then tb else a.tB u,mR:=fun u=>if u=v then m else a.mR u }
theorem add_fp {v g tb m x:Nat} (h:x ∈ (a.add v g tb m).fp):x ∈ a.fp∨x=g∨x=tb∨x=m:=by
 unfold HvP.fp at h;rcases List.mem_append.1 h with h | h
 ·exact .inl (List.mem_append_left _ h)
 ·obtain ⟨u,hu,hx⟩:=List.mem_flatMap.1 h;have hu2:=List.mem_range.1 hu;obtain ⟨m1,m2,m3⟩:=fp_guest (a:=a) hu2;unfold HvP.add at hx;simp only [List.mem_cons,List.not_mem_nil,or_false] at hx;by_cases e:u=v
  ·simp only [e,if_true] at hx;omega
  ·simp only [e,if_false] at hx;rcases hx with rfl | rfl | rfl
   ·exact .inl m1
   ·exact .inl m2
   ·exact .inl m3
theorem IsHv.add {W:World} (h:IsHv W a M) {v g tb m:Nat} (hv1:1≤v) (hv2:v≤16) (hg:M.g v=none) {f:Int} (b1:Blk W g 189 #[ptr tb,.map (some m)]) (b2:Blk W tb 211 #[ptr a.mb,ptr a.pb,.int .i64 v,.int .i64 f,.bool false]) (b3:IsMap W m (fun _=>none))
 (n1:g ∉ a.fp) (n2:tb ∉ a.fp) (n3:m ∉ a.fp) (T':List (Nat×Int×Int)):IsHv (W.setCell ⟨a.hb,4+v,none⟩ (ptr g)) (a.add v g tb m) { L:=M.L,ps:=M.ps,g:=updG M.g v (some (newG f)),T:=T' }:=by
 have o:Only [a.hb] W (W.setCell ⟨a.hb,4+v,none⟩ (ptr g)):=(Only.refl [a.hb] W).setCell (p:=⟨a.hb,4+v,none⟩) (.inl (.head _)) _;obtain ⟨cs,h1,h2,h3,h4,h5,h6,h7⟩:=h.obj;have nb:∀ {g t:Nat} {cs:Array Value},Blk W g t cs→t≠87→g ∉ [a.hb]:=fun {g t cs} hb ht hm=>by
  have hm:g=a.hb:=by simpa using hm
  subst hm;exact ht (hb.inj h1).1
 have nm:∀ {r:Nat} {f:Int→Option Value},IsMap W r f→r ∉ [a.hb]:=fun {r f} hm hx=>by
  have hx:r=a.hb:=by simpa using hx
  exact hm.ne_blk h1 hx
 obtain ⟨gs,hgr⟩:=h.gr;obtain ⟨P,hpo⟩:=h.po;obtain ⟨cs4,hpo4,_⟩:=hpo.blk;obtain ⟨_,_,m1,m2⟩:=h.mem.blk;refine ⟨⟨_,h1.set _ _,by simpa using h2,?_,?_,?_,?_,fun u hu=>?_⟩,h.mem.only o (nb m1 (by decide)) (nb m2 (by decide)),h.pool.only o (nb h.pool.obj (by decide)) (nb h.pool.row (by decide)),⟨gs,hgr.only o (nb hgr.obj (by decide)) (nb hgr.row (by decide))⟩,⟨P,hpo.only o (nb hpo4 (by decide))⟩,fun u G2 hg2=>?_,fun u u' G1 G2 e1 e2 hne=>?_,fun x hx=>?_⟩
 ·rw [Array.getElem?_setIfInBounds_ne (by omega)]; exact h3
 ·rw [Array.getElem?_setIfInBounds_ne (by omega)]; exact h4
 ·rw [Array.getElem?_setIfInBounds_ne (by omega)]; exact h5
 ·rw [Array.getElem?_setIfInBounds_ne (by omega)]; exact h6
 ·by_cases e:u=v
  ·subst e;rw [Array.getElem?_setIfInBounds_self_of_lt (by omega)];unfold HvP.gp;dsimp only;rw [updG_same];simp [HvP.add]
  ·rw [Array.getElem?_setIfInBounds_ne (by omega),h7 u hu];unfold HvP.gp;dsimp only;rw [updG_far _ _ e];simp [HvP.add,e]
 ·dsimp only at hg2;by_cases e:u=v
  ·subst e;rw [updG_same] at hg2;cases hg2;refine ⟨hv1,hv2,?_,?_,?_⟩
   ·simp only [HvP.add,if_true];exact b1.only o (nb b1 (by decide))
   ·simp only [HvP.add,if_true];exact b2.only o (nb b2 (by decide))
   ·simp only [HvP.add,if_true];have:tkV (newG f).tk=fun _=>none:=rfl;rw [this];exact b3.only o (nm b3)
  ·rw [updG_far _ _ e] at hg2;obtain ⟨v1,v2,q1,q2,q3⟩:=h.gs u G2 hg2;simp only [HvP.add,e,if_false];exact ⟨v1,v2,q1.only o (nb q1 (by decide)),q2.only o (nb q2 (by decide)),q3.only o (nm q3)⟩
 ·dsimp only at e1 e2;have old:∀ {u G1},u≠v→updG M.g v (some (newG f)) u=some G1→M.g u=some G1:=fun {u G1} hu e=>by rwa [updG_far _ _ hu] at e
  by_cases c1:u=v
  ·by_cases c2:u'=v
   ·exact absurd (c1.trans c2.symm) hne
   ·have hg2:=old c2 e2;have:=(h.gs u' G2 hg2).2.1;obtain ⟨k1,k2,k3⟩:=fp_guest (a:=a) (show u' < 17 by omega);simp only [HvP.add,c1,c2,if_true,if_false];exact ⟨fun e=>n1 (e ▸ k1),fun e=>n2 (e ▸ k2),fun e=>n3 (e ▸ k3)⟩
  ·have hg1:=old c1 e1;by_cases c2:u'=v
   ·have:=(h.gs u G1 hg1).2.1;obtain ⟨k1,k2,k3⟩:=fp_guest (a:=a) (show u < 17 by omega);simp only [HvP.add,c1,c2,if_true,if_false];exact ⟨fun e=>n1 (e ▸ k1),fun e=>n2 (e ▸ k2),fun e=>n3 (e ▸ k3)⟩
   ·simp only [HvP.add,c1,c2,if_false];exact h.inj u u' G1 G2 hg1 (old c2 e2) hne
 ·have hz:=o.size;rcases add_fp hx with hx | rfl | rfl | rfl
  ·exact Nat.lt_of_lt_of_le (h.lim x hx) hz
  ·exact Nat.lt_of_lt_of_le b1.lt hz
  ·exact Nat.lt_of_lt_of_le b2.lt hz
  ·exact Nat.lt_of_lt_of_le b3.lt hz
theorem hfull_rel {c:C} (hi:HInv M t) (hk:c.k=1) (h:∀ u,1≤u→u≤16→M.g u≠none):∀ e:Int,e≠0→DoRel M t 0 c M 0 e:=fun e he=>by
 refine ⟨hi.up (Nat.le_succ _),?_,zero_range,fun h=>absurd h he,fun h=>absurd h he,fun _ _ v0 h1 h2 _ h3=>absurd h3 (h v0 h1 h2),fun h3=>by omega⟩;have:donD c 0 e=none:=by unfold donD; rw [if_neg (fun h=>he h.2)]
 rw [this];exact HStep.refl _ _ _
theorem hnofree_rel {c:C} (hi:HInv M t) (hk:c.k=1) (h:freeN M.ps=[]) {v:Int} (hv:0≤v∧v < 18446744073709551616):∀ e:Int,e≠0→DoRel M t 0 c M v e:=fun e he=>by
 refine ⟨hi.up (Nat.le_succ _),?_,hv,fun h=>absurd h he,fun h=>absurd h he,fun _ _ v0 _ _ _ _ f l h3=>(by rw [h] at h3; cases h3),fun h3=>by omega⟩;have:donD c v e=none:=by unfold donD; rw [if_neg (fun h=>he h.2)]
 rw [this];exact HStep.refl _ _ _
theorem hmade_rel {c:C} (hi:HInv M t) (hk:c.k=1) {v:Nat} (hv1:1≤v) (hv2:v≤16) (hb:∀ u,1≤u→u < v→M.g u≠none) (hg:M.g v=none) {f:Int} {l:List Int} (hf:freeN M.ps=f :: l) :
 DoRel M t 0 c { L:=zeros M.L f 16,ps:=setP M.ps f ⟨3,v,0,0⟩,g:=updG M.g v (some (newG f)),T:=M.T } v 0:=by
 obtain ⟨j1,j2⟩:=create_step (cov:=covD 0 c 0) (dead:=deadD c 0) hi hv1 hv2 hg hf;refine ⟨j1.up (Nat.le_succ _),?_,by omega,fun _ h=>by omega,fun _ h=>by omega,fun _ _ v0 h1 h2 h3 h4 f2 l2 h5=>?_,fun h3=>by omega⟩
 ·have:donD c (v:Int) 0=none:=by unfold donD; rw [if_neg (fun h=>by omega)]
  rw [this];exact j2
 ·have hv0:v0=v:=by
   rcases Nat.lt_trichotomy v0 v with h | h | h
   ·exact absurd h4 (hb v0 h1 h)
   ·exact h
   ·exact absurd hg (h3 v hv1 h)
  subst hv0;rw [hf] at h5;cases h5;exact ⟨rfl,rfl,rfl⟩
theorem hcreate_any (h:IsHv w a M) (hi:HInv M t) (c:C) (hk:c.k=1) (x:Int) :
 Calls Tryz.prog 90 #[ptr a.hb,.int .i64 x,c.val] w (HvTo w a M t 0 c):=by
 have HK:=hid hk;have HI:=hid hi;clear hk;obtain ⟨k,A,B,D⟩:=c;obtain ⟨W0,hW0⟩:∃ W0,(w.alloc (.cells #[.int .i64 k,.int .u64 A,.int .u64 B,.int .u64 D] 30)).alloc (.cells #[.int .u64 0,.int .i64 0] 38)=W0:=⟨_,rfl⟩;have hF:=HvF.start h ⟨k,A,B,D⟩;dsimp only at hF;rw [hW0] at hF;have HF0:=hid hF;have HW0:=hid hW0;have hy:=hF.c;dsimp only at hy;have y0:=hy.at 0 (v:=.int .i64 k) rfl;have y1:=hy.at 1 (v:=.int .u64 A) rfl;have y2:=hy.at 2 (v:=.int .u64 B) rfl;have y3:=hy.at 3 (v:=.int .u64 D) rfl;have HBAD:=hid (fun W e=>hbad_any W e);clear hF hy hW0;rw [c_out];clear h hi;go_enter Tryz.func90,Tryz.ntmps90;go_upto_region 1 with fail;rw [HW0.out];go_wp2_with fail;clear y0 y1 y2 y3;go_loopg [7] 16 (fun q i wr=>∃ j:Nat,1≤j∧j+q=17∧i=.int .i64 j∧HvF w a M ⟨k,A,B,D⟩ w.heap.size (w.heap.size+1) wr∧∀ u,1≤u→u < j→M.g u≠none)
 case atStart=>exact ⟨1,Nat.le_refl _,rfl,rfl,HF0.out,fun u h1 h2=>by omega⟩
 case round=>
  obtain ⟨j,hj1,hj,rfl,hff,hbel⟩:=hrel;have HFJ:=hid hff;have HBEL:=hid hbel;clear hff hbel;by_cases hlt:j≤16
  ·have hji:(j:Int)≤16:=by omega
   have xg:=HFJ.out.h.cg (v:=j) (by omega);have i0:(0:Int)≤j:=by omega
   have i1:(j:Int) < 17:=by omega
   cases hg:M.g j with
   | some G=>
    rw [gp_some hg] at xg;have HBEL2:=hid (show ∀ u,1≤u→u < j+1→M.g u≠none from fun u h1 h2=>by
     by_cases e:u=j
     ·rw [e,hg]; simp
     ·exact HBEL.out u h1 (by omega))
    clear hg;go_wp2_with fail;go_roundg (gk - 1)
    case measure=>omega
    case rel=>exact ⟨j+1,by omega,by omega,by go_num,HFJ.out,HBEL2.out⟩
   | none=>
    rw [gp_none hg] at xg;have HG:=hid hg;clear hg;go_upto_region 5 with fail;have HF1:=hid HFJ.out.drew;have x0:=HFJ.out.h.c0;have x1:=HFJ.out.h.c1;have HNW:=hid (nnew_any (o:=j) HF1.out.h.mem HF1.out.h.pool HI.out.len (by omega) (by omega));refine pBegin rfl ?_;obtain ⟨S,hS⟩:∃ S:World→Prop,S=fun w'=>w'.cell? ⟨a.hb,0,none⟩=some (ptr a.mb)∧w'.cell? ⟨a.hb,1,none⟩=some (ptr a.pb):=⟨_,rfl⟩;have HS:=hid hS;clear hS;refine pPhaseH S 99 (by rw [HS.out]; exact ⟨x0,x1⟩) fun HSW=>?_;refine pPure (i:=0) rfl (by kernel_rfl) rfl HSW.out ?_;apply Exists.intro;refine ⟨fun w'=>?_,?_⟩
    ·go_simp;with_reducible rfl
    go_simp;refine pPure (i:=1) rfl (by kernel_rfl) rfl HSW.out ?_;apply Exists.intro;refine ⟨fun w'=>?_,?_⟩
    ·go_simp;with_reducible rfl
    go_simp;refine pPure (i:=2) rfl (by kernel_rfl) rfl HSW.out ?_;apply Exists.intro;refine ⟨fun w'=>?_,?_⟩
    ·go_simp;with_reducible rfl
    go_simp;refine pTake (i:=3) rfl (by kernel_rfl) rfl HSW.out ?_;apply Exists.intro;refine ⟨fun w' hw'=>?_,?_⟩
    ·rw [HS.out] at hw';obtain ⟨p0,p1⟩:=hw';go_simp;with_reducible rfl
    go_simp;refine pPure (i:=4) rfl (by kernel_rfl) rfl HSW.out ?_;apply Exists.intro;refine ⟨fun w'=>?_,?_⟩
    ·go_simp;with_reducible rfl
    go_simp;refine pPure (i:=5) rfl (by kernel_rfl) rfl HSW.out ?_;apply Exists.intro;refine ⟨fun w'=>?_,?_⟩
    ·go_simp;with_reducible rfl
    go_simp;refine pPure (i:=6) rfl (by kernel_rfl) rfl HSW.out ?_;apply Exists.intro;refine ⟨fun w'=>?_,?_⟩
    ·go_simp;with_reducible rfl
    go_simp;refine pTake (i:=7) rfl (by kernel_rfl) rfl HSW.out ?_;apply Exists.intro;refine ⟨fun w' hw'=>?_,?_⟩
    ·rw [HS.out] at hw';obtain ⟨p0,p1⟩:=hw';go_simp;with_reducible rfl
    go_simp;refine pPure (i:=8) rfl (by kernel_rfl) rfl HSW.out ?_;apply Exists.intro;refine ⟨fun w'=>?_,?_⟩
    ·go_simp;with_reducible rfl
    go_simp;refine pStep (i:=9) rfl (by kernel_rfl) (by kernel_rfl) rfl fun K hK=>?_;go_simp;go_at_call 128;refine HNW.out.mono ?_;rintro e w2 ⟨hto,ho⟩;unfold NewT at hto;cases hfr:freeN M.ps with
    | nil=>
     rw [hfr] at hto;obtain ⟨rfl,hm,hp⟩:=hto;have HF2:=hid (show HvF w a M ⟨k,A,B,D⟩ w.heap.size (w.heap.size+1) w2 from HF1.out.step ho (fp_sub (by simp)) (HF1.out.h.tables ho hm hp));have HFR:=hid hfr;have HSW2:=hid (show S w2 by rw [HS.out]; exact ⟨HF2.out.h.c0,HF2.out.h.c1⟩);refine hK _ _ HSW2.out ?_;clear hK K HSW ho hm hp hfr xg x0 x1;refine pPure (i:=10) rfl (by kernel_rfl) rfl HSW2.out ?_;apply Exists.intro;refine ⟨fun w'=>?_,?_⟩
     ·go_simp;with_reducible rfl
     go_simp;refine pPure (i:=11) rfl (by kernel_rfl) rfl HSW2.out ?_;apply Exists.intro;refine ⟨fun w'=>?_,?_⟩
     ·go_simp;with_reducible rfl
     go_simp;refine pPure (i:=13) rfl (by kernel_rfl) rfl HSW2.out ?_;apply Exists.intro;refine ⟨fun w'=>?_,?_⟩
     ·go_simp;with_reducible rfl
     go_simp;refine pPure (i:=12) rfl (by kernel_rfl) rfl HSW2.out ?_;apply Exists.intro;refine ⟨fun w'=>?_,?_⟩
     ·go_simp;with_reducible rfl
     go_simp;refine pPure (i:=14) rfl (by kernel_rfl) rfl HSW2.out ?_;apply Exists.intro;refine ⟨fun w'=>?_,?_⟩
     ·go_simp;with_reducible rfl
     go_simp;refine pEnd (by kernel_rfl) ?_;have ewj:IntKind.u64.wrap (j:Int)=(j:Int):=by rw [IntKind.wrap_u64]; omega
     have HR:=hid (hnofree_rel (c:=⟨k,A,B,D⟩) HI.out HK.out HFR.out (v:=(j:Int)) (by omega) 12 (by decide));clear HS HSW2;have hr:=HF2.out.r;have r0:=hr.at 0 (v:=.int .u64 0) rfl;have r1:=hr.at 1 (v:=.int .i64 0) rfl;have g0:=hr.frozen 0;have g1:=hr.frozen 1;go_wp2_with fail;obtain ⟨z1,z2,z3,_⟩:=HF2.out.out (.int .u64 ((j:Int))) (.int .i64 (12));have q0:=z3.at 0 (v:=.int .u64 ((j:Int))) rfl;have q1:=z3.at 1 (v:=.int .i64 (12)) rfl;refine bodyPost_ret (v:=.agg #[.int .u64 ((j:Int)),.int .i64 (12)]) (by simp [results,Tryz.results90,go_sem,q0,q1]) rfl ⟨a,_,(j:Int),12,rfl,z2,z1,HR.out,rfl,fun x hx=>.inl hx⟩
    | cons f l=>
     rw [hfr] at hto;obtain ⟨tb,rfl,htb,hT⟩:=hto;have HF2:=hid (show HvF w a { M with L:=zeros M.L f 16,ps:=setP M.ps f ⟨3,j,0,0⟩ } ⟨k,A,B,D⟩ w.heap.size (w.heap.size+1) w2 from HF1.out.step ho (fp_sub (by simp)) (HF1.out.h.tables ho hT.mem hT.pool));have HFR:=hid hfr;have HTB:=hid hT.obj;have hwsz:=HF1.out.o.size;have htbw:w.heap.size≤tb:=Nat.le_trans hwsz htb;have HSW2:=hid (show S w2 by rw [HS.out]; exact ⟨HF2.out.h.c0,HF2.out.h.c1⟩);refine hK _ _ HSW2.out ?_;clear hK K HSW ho hT hfr xg x0 x1 htb;refine pPure (i:=10) rfl (by kernel_rfl) rfl HSW2.out ?_;apply Exists.intro;refine ⟨fun w'=>?_,?_⟩
     ·go_simp;with_reducible rfl
     go_simp;refine pPure (i:=11) rfl (by kernel_rfl) rfl HSW2.out ?_;apply Exists.intro;refine ⟨fun w'=>?_,?_⟩
     ·go_simp;with_reducible rfl
     go_simp;refine pPure (i:=13) rfl (by kernel_rfl) rfl HSW2.out ?_;apply Exists.intro;refine ⟨fun w'=>?_,?_⟩
     ·go_simp;with_reducible rfl
     go_simp;refine pPure (i:=12) rfl (by kernel_rfl) rfl HSW2.out ?_;apply Exists.intro;refine ⟨fun w'=>?_,?_⟩
     ·go_simp;with_reducible rfl
     go_simp;refine pPure (i:=14) rfl (by kernel_rfl) rfl HSW2.out ?_;apply Exists.intro;refine ⟨fun w'=>?_,?_⟩
     ·go_simp;with_reducible rfl
     go_simp;refine pEnd (by kernel_rfl) ?_;have ewj:IntKind.u64.wrap (j:Int)=(j:Int):=by rw [IntKind.wrap_u64]; omega
     have HR:=hid (hmade_rel (c:=⟨k,A,B,D⟩) HI.out HK.out hj1 hlt HBEL.out HG.out HFR.out);have xg2:=HF2.out.h.cg (v:=j) (by omega);rw [gp_none (S:={ M with L:=zeros M.L f 16,ps:=setP M.ps f ⟨3,j,0,0⟩ }) HG.out] at xg2;obtain ⟨cs,hcs,_⟩:=HF2.out.h.obj;have fg:=hcs.frozen (4+j);have hcs2:=hcs;have hmm:=@run_makeMap Tryz.prog;clear HS HSW2 hcs;have hbl:=HF2.out.h.lt.1;go_upto_region 8 with fail;obtain ⟨W3,hW3⟩:∃ W3,(w2.alloc (Obj.map #[] 0)).alloc (.cells #[ptr tb,.map (some w2.heap.size)] 189)=W3:=⟨_,rfl⟩;have q3:Only [] w2 W3:=by rw [← hW3]; exact ((Only.refl [] w2).alloc _).alloc _
     have hgb:Blk W3 (w2.heap.size+1) 189 #[ptr tb,.map (some w2.heap.size)]:=by rw [← hW3]; exact Blk.new' _ _ _ (by simp)
     have hmp:IsMap W3 w2.heap.size (fun _=>none):=by rw [← hW3]; exact (IsMap.new w2).only ((Only.refl [] _).alloc _) (by simp)
     have HF3:=hid (HF2.out.quiet q3);have hw2:w.heap.size≤w2.heap.size:=HF2.out.o.size;have hla:=HF2.out.la;have hh4:=HF3.out.h.add (M:={ M with L:=zeros M.L f 16,ps:=setP M.ps f ⟨3,j,0,0⟩ }) (f:=f) hj1 hlt HG.out hgb (HTB.out.only q3 (by simp)) hmp (fun hm=>by have:=hla _ hm; omega) (fun hm=>by have:=hla _ hm; omega) (fun hm=>by have:=hla _ hm; omega) M.T;obtain ⟨W4,hW4⟩:∃ W4,W3.setCell ⟨a.hb,4+j,none⟩ (ptr (w2.heap.size+1))=W4:=⟨_,rfl⟩;have q4:Only [a.hb] W3 W4:=by rw [← hW4]; exact (Only.refl [a.hb] W3).setCell (p:=⟨a.hb,4+j,none⟩) (.inl (.head _)) _
     rw [hW4] at hh4;have hfp:a.hb ∈ a.fp:=fp_sub (l:=[a.hb]) (by simp) (.head _);have hbc:w.heap.size ∉ [a.hb]:=fun hm=>by
      have hm:w.heap.size=a.hb:=by simpa using hm
      have:=hla _ hfp;omega
     have hbr:w.heap.size+1 ∉ [a.hb]:=fun hm=>by
      have hm:w.heap.size+1=a.hb:=by simpa using hm
      have:=hla _ hfp;omega
     have HH4:=hid hh4;have HRB:=hid (HF3.out.r.only q4 hbr);have HO4:=hid (HF3.out.o.trans (q4.sub (by simpa using hfp)));have HLA:=hid hla;have HTB4:=hid ((HTB.out.only q3 (by simp)).only q4 (by simpa using fun e=>(HTB.out.ne hcs2 (by decide)) e));rw [show ((w2.setCell ⟨a.hb,4+j,none⟩ (.pointer (some ⟨w2.heap.size+1,0,none⟩))).alloc (Obj.map #[] 0)).alloc (.cells #[ptr tb,.map (some w2.heap.size)] 189)=W4 from by
      rw [← hW4,← hW3,World.setCell_alloc_past _ _ _ _ (by simp; omega),World.setCell_alloc_past _ _ _ _ hbl]]
     have hr:=HRB.out;have r0:=hr.at 0 (v:=.int .u64 0) rfl;have r1:=hr.at 1 (v:=.int .i64 0) rfl;have g0:=hr.frozen 0;have g1:=hr.frozen 1;clear hcs2 hW3 q3 hgb hmp hh4 hW4 q4 hfp hbc hbr xg2 fg hmm hr hla;go_wp2_with fail;have o5:Only [w.heap.size+1] W4 ((W4.setCell ⟨w.heap.size+1,0,none⟩ (.int .u64 j)).setCell ⟨w.heap.size+1,1,none⟩ (.int .i64 0)):=((Only.refl [w.heap.size+1] W4).setCell (p:=⟨w.heap.size+1,0,none⟩) (.inl (.head _)) _).setCell (p:=⟨w.heap.size+1,1,none⟩) (.inl (.head _)) _;have fresh:∀ y ∈ (a.add j (w2.heap.size+1) tb w2.heap.size).fp,y ∈ a.fp∨w.heap.size≤y:=fun y hy=>by
      rcases add_fp hy with h | h | h | h
      ·exact .inl h
      ·right; omega
      ·right; omega
      ·right; omega
     have hh6:=HH4.out.only o5 fun y hy hm=>by
      have hy:y=w.heap.size+1:=by simpa using hy
      subst hy;rcases add_fp hm with h | h | h | h
      ·have:=HLA.out _ h;omega
      ·have:=HF2.out.r.lt;omega
      ·exact absurd h (HRB.out.ne HTB4.out (by decide))
      ·have:=HF2.out.r.lt;omega
     have z3:Blk ((W4.setCell ⟨w.heap.size+1,0,none⟩ (.int .u64 j)).setCell ⟨w.heap.size+1,1,none⟩ (.int .i64 0)) (w.heap.size+1) 38 #[.int .u64 j,.int .i64 0]:=by simpa using (HRB.out.set 0 (.int .u64 j)).set 1 (.int .i64 0)
     have q0:=z3.at 0 (v:=.int .u64 (j:Int)) rfl;have q1:=z3.at 1 (v:=.int .i64 0) rfl;refine bodyPost_ret (v:=.agg #[.int .u64 (j:Int),.int .i64 0]) (by simp [results,Tryz.results90,go_sem,q0,q1]) rfl ⟨a.add j (w2.heap.size+1) tb w2.heap.size,_,(j:Int),0,rfl,?_,hh6,HR.out,rfl,fresh⟩
     exact HO4.out.then o5 fun y hy=>.inr (by have hy:y=w.heap.size+1:=by simpa using hy
                                              omega)
  ·obtain rfl:j=17:=by omega
   have HR:=hid (hfull_rel (c:=⟨k,A,B,D⟩) HI.out HK.out (fun u h1 h2=>HBEL.out u h1 (by omega)) 3 (by decide));go_wp2_with fail;refine (HBAD.out _ _).mono ?_;rintro en wz ⟨rfl,hoz⟩;have HFZ:=hid (HFJ.out.quiet hoz);clear hoz;have hr:=HFZ.out.r;have r0:=hr.at 0 (v:=.int .u64 0) rfl;have r1:=hr.at 1 (v:=.int .i64 0) rfl;have g0:=hr.frozen 0;have g1:=hr.frozen 1;go_wp2_with fail;obtain ⟨z1,z2,z3,_⟩:=HFZ.out.out (.int .u64 (0)) (.int .i64 (3));have q0:=z3.at 0 (v:=.int .u64 (0)) rfl;have q1:=z3.at 1 (v:=.int .i64 (3)) rfl;refine bodyPost_ret (v:=.agg #[.int .u64 (0),.int .i64 (3)]) (by simp [results,Tryz.results90,go_sem,q0,q1]) rfl ⟨a,_,0,3,rfl,z2,z1,HR.out,rfl,fun x hx=>.inl hx⟩
end
end Go.Proofs.YtadgpnoealegiaaGreat
