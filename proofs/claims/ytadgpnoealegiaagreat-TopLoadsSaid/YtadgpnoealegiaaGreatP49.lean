import Derived.Test.YtadgpnoealegiaaGreatP48
namespace Go.Proofs.YtadgpnoealegiaaGreat
open Go.RowKit
open Go.Lib (hid)
set_option maxRecDepth 100000
set_option maxHeartbeats 20000000
def phN (b:Nat) (n:Nat):Value:=.func (.func n) #[ptr b] #[]
def phV (b:Nat):Value:=.agg #[phN b 26,phN b 27,phN b 28,phN b 29,phN b 30]
def phF (ph:Int):Nat:=if ph=0 then 26 else if ph=1 then 27 else if ph=2 then 28 else if ph=3 then 29 else 30
theorem phF_en (ph:Int) (args:Array Value) (w:World):(callFunc (phF ph) args).run Tryz.prog w=.ok (.enter (phF ph) args) w:=by
 unfold phF;split
 ·exact enters_of Tryz.func26 (by kernel_rfl) rfl args w
 split
 ·exact enters_of Tryz.func27 (by kernel_rfl) rfl args w
 split
 ·exact enters_of Tryz.func28 (by kernel_rfl) rfl args w
 split
 ·exact enters_of Tryz.func29 (by kernel_rfl) rfl args w
 ·exact enters_of Tryz.func30 (by kernel_rfl) rfl args w
theorem pForkBar {P:Program} {ops:Array Oper} {Q:Exit→Act→World→Prop} {md:Region.Mode} {S:World→Prop} {z j:Nat} {oi oj:Oper} {fuel:Nat} {listed:Array Bool} {a:Act} {w:World} (hi:ops[z]?=some oi) (hj:ops[j]?=some oj) (hc:decide (Region.ready md ops listed=[z,j])=true) (hjz:decide (j≠z)=true)
 (hwi:Region.wanted oi (yielded ops a.tmps)=true) (hwj:Region.wanted oj (yielded ops a.tmps)=true)
 (h1:∀ K:Act→World→Prop,(∀ a' w',wpAny P md ops Q fuel (listed.setIfInBounds z true) a' w'→K a' w')→Oper.wp P oi a w K Q)
 (h2:∀ K:Act→World→Prop,(∀ a' w',S w'→wpB P md ops Q S z fuel (listed.setIfInBounds j true) a' w'→K a' w')→Oper.wp P oj a w K Q):wpB P md ops Q S z (fuel+1) listed a w:=by
 have hc:=of_decide_eq_true hc;refine ⟨fun h0=>(by rw [h0] at hc; cases hc),fun k hk=>?_⟩;rw [hc] at hk;have hk:k=z∨k=j:=by simpa using hk
 rcases hk with rfl | rfl
 ·unfold wpOp;simp only [hi];rw [if_pos hwi];exact .inl (h1 _ fun a' w' h2=>.inl ⟨trivial,h2⟩)
 ·unfold wpOp;simp only [hj];rw [if_pos hwj];exact .inl (h2 _ fun a' w' h1 h2=>.inr ⟨of_decide_eq_true hjz,h1,h2⟩)
theorem phV_0 (b:Nat) (W:World):(Instr.index 78 (phV b) (.int .i64 0)).run Tryz.prog W=.ok (.agg #[.func (.func (phF 0)) #[ptr b] #[]]) W:=by kernel_rfl
theorem phV_1 (b:Nat) (W:World):(Instr.index 78 (phV b) (.int .i64 1)).run Tryz.prog W=.ok (.agg #[.func (.func (phF 1)) #[ptr b] #[]]) W:=by kernel_rfl
theorem phV_2 (b:Nat) (W:World):(Instr.index 78 (phV b) (.int .i64 2)).run Tryz.prog W=.ok (.agg #[.func (.func (phF 2)) #[ptr b] #[]]) W:=by kernel_rfl
theorem phV_3 (b:Nat) (W:World):(Instr.index 78 (phV b) (.int .i64 3)).run Tryz.prog W=.ok (.agg #[.func (.func (phF 3)) #[ptr b] #[]]) W:=by kernel_rfl
theorem phV_4 (b:Nat) (W:World):(Instr.index 78 (phV b) (.int .i64 4)).run Tryz.prog W=.ok (.agg #[.func (.func (phF 4)) #[ptr b] #[]]) W:=by kernel_rfl
theorem phV_at (b:Nat) {ph:Int} (h0:0≤ph) (h4:ph≤4) (W:World):(Instr.index 78 (phV b) (.int .i64 ph)).run Tryz.prog W=.ok (.agg #[.func (.func (phF ph)) #[ptr b] #[]]) W:=by
 have:ph=0∨ph=1∨ph=2∨ph=3∨ph=4:=by omega
 rcases this with rfl | rfl | rfl | rfl | rfl
 ·exact phV_0 b W
 ·exact phV_1 b W
 ·exact phV_2 b W
 ·exact phV_3 b W
 ·exact phV_4 b W
theorem phV_f (b n:Nat) (W:World):(Instr.field 77 (.agg #[.func (.func n) #[ptr b] #[]]) 0).run Tryz.prog W=.ok (.func (.func n) #[ptr b] #[]) W:=by kernel_rfl
section
variable {w w':World} {p:MuP} {sz:Nat} {x:X}
theorem mphases_any (w:World) (b:Nat):Calls Tryz.prog 18 #[ptr b] w fun e w'=>e=.returned (phV b)∧Only [] w w':=by
 have hb:=Blk.new w 78 #[phN b 26,phN b 27,phN b 28,phN b 29,phN b 30];unfold phN at hb;have q0:=hb.at 0 (v:=.func (.func 26) #[ptr b] #[]) rfl;have q1:=hb.at 1 (v:=.func (.func 27) #[ptr b] #[]) rfl;have q2:=hb.at 2 (v:=.func (.func 28) #[ptr b] #[]) rfl;have q3:=hb.at 3 (v:=.func (.func 29) #[ptr b] #[]) rfl;have q4:=hb.at 4 (v:=.func (.func 30) #[ptr b] #[]) rfl;clear hb;go_enter Tryz.func18,Tryz.ntmps18;go_wp2_with fail;exact bodyPost_ret (v:=phV b) (by simp [results,Tryz.results18,go_sem,q0,q1,q2,q3,q4,phV,phN]) rfl ⟨rfl,(Only.refl _ _).alloc _⟩
theorem mphase_any {n t:Nat} {V:Int→Prop} {W:List Int} (h:IsMu w p sz x) (hx:XInv x n t V W) (ht:t < 60000) (hm:x.mks.length < 80000000) {i:Nat} {u:Cpu} (hu:x.cp[i]?=some u) (hq:u.ph≠3→x.bx.bs[i]?=some []):Calls Tryz.prog (phF u.ph) #[ptr p.b,ptr (p.q i).cb] w (PhTo t w p sz x i):=by
 have hr:=(h.cpu i u hu).vr.2;have hps:=hx.hi.ps1;have hnow:=hx.ti;by_cases h0:u.ph=0
 ·rw [h0];exact midle_any h hu h0 (by omega) (by omega)
 by_cases h1:u.ph=1
 ·rw [h1];exact mbegin_any h hx ht (by omega) hu h1 (hq (by omega))
 by_cases h2:u.ph=2
 ·rw [h2];exact mwalk_any h hx hu h2 (hq (by omega))
 by_cases h3:u.ph=3
 ·rw [h3];obtain ⟨hv,_⟩:=hx.re i u hu h3;obtain ⟨f0,f1⟩:=(hx.v1 _ hv).1;exact mreach_any h hu h3 f0 (by omega) (hx.ca i u hu) hx.el (by omega)
 ·have h4:u.ph=4:=by omega
  rw [h4];have hw:=hx.wa i u hu h4;exact mwait_any h hu h4 (hq h3) hw.r fun f hf=>by
   obtain ⟨f0,f1⟩:=(hw.f f hf).1;exact ⟨f0,by omega⟩
def StTo (t:Nat) (w:World) (p:MuP) (sz:Nat) (x:X) (i:Int) (e:Ending) (w':World):Prop:=
 ∃ v er en p' x' k,e=.returned (.tuple #[.agg #[.int .u64 v,.int .i64 er],.bool en])∧IsMu w' p' sz x'∧MuTo w w' p p' x.cp.length∧x'.cp.length=x.cp.length∧x'.mks.length≤x.mks.length+5000∧MStep t k x x' v er en∧(0≤i→(k:Int)=i)
structure StMid (t:Nat) (w:World) (p:MuP) (sz:Nat) (x:X) (j:Nat) (rb:Nat) (v er:Int) (en:Bool) (p1:MuP) (x1:X) (W:World):Prop where
 f:PhF w p sz x.cp.length w.heap.size W p1 x1
 b:Blk W rb 38 #[.int .u64 v,.int .i64 er]
 o:Off p1 x.cp.length rb
 d:rb≠w.heap.size
 m:x1.mks.length≤x.mks.length+5000
 s:(en=false∧MStep t j x x1 0 0 false)∨(en=true∧∃ u1,x1.cp[j]?=some u1∧MStep t j x { x1 with cp:=x1.cp.set j (Cpu.rest u1.ls) } v er true)
theorem StMid.mk' {t j rb:Nat} {v er v0 er0:Int} {en:Bool} {p1:MuP} {x1:X} {W:World} (f:PhF w p sz x.cp.length w.heap.size W p1 x1) (hb:Blk W rb 38 #[.int .u64 v0,.int .i64 er0]) (ho:Off p1 x.cp.length rb) (hd:w.heap.size < rb) (hm:x1.mks.length≤x.mks.length+5000)
 (hs:(en=false∧MStep t j x x1 0 0 false)∨(en=true∧∃ u1,x1.cp[j]?=some u1∧MStep t j x { x1 with cp:=x1.cp.set j (Cpu.rest u1.ls) } v er true)):StMid t w p sz x j rb v er en p1 x1 ((W.setCell ⟨rb,0,none⟩ (.int .u64 v)).setCell ⟨rb,1,none⟩ (.int .i64 er)):=by
 have o:Only [rb] W ((W.setCell ⟨rb,0,none⟩ (.int .u64 v)).setCell ⟨rb,1,none⟩ (.int .i64 er)):=((Only.refl [rb] W).setCell (p:=⟨rb,0,none⟩) (.inl (.head _)) _).setCell (p:=⟨rb,1,none⟩) (.inl (.head _)) _;refine ⟨⟨f.m.only o fun y hy i=>?_,f.len,⟨?_,f.k.f,f.k.b,f.k.hb,f.k.eb,f.k.xb,f.k.cpv,f.k.kr,f.k.cb,f.k.tb⟩,f.res.only o (by simp; omega),f.o,f.l⟩,by simpa using (hb.set 0 (.int .u64 v)).set 1 (.int .i64 er),ho,by omega,hm,hs⟩
 ·rw [List.mem_singleton.1 hy,f.len];exact ho i
 ·obtain ⟨T,o1,h1⟩:=f.k.o;exact ⟨T,o1.then o fun y hy=>.inr (by rw [List.mem_singleton.1 hy]; omega),h1⟩
theorem mstep_any {n t:Nat} {V:Int→Prop} {W:List Int} (h:IsMu w p sz x) (hx:XInv x n t V W) (ht:t < 60000) (hm:x.mks.length < 80000000) (i:Int):Calls Tryz.prog 10 #[ptr p.b,.int .i64 i] w (StTo t w p sz x i):=by
 obtain ⟨W0,hW0⟩:∃ W0,w.alloc (.cells #[.int .u64 0,.int .i64 0] 38)=W0:=⟨_,rfl⟩;have hF:=PhF.start h;rw [hW0] at hF;have HF0:=hid hF;have HW0:=hid hW0;have HAT:=hid (mat_any hF.m i);have HX:=hid hx;have HM:=hid (And.intro ht hm);by_cases hr:0≤i∧i < x.cp.length
 case neg=>
  rw [if_neg hr] at HAT;clear h hx ht hm hF hW0;go_enter Tryz.func10,Tryz.ntmps10;go_upto_region 1 with fail;rw [HW0.out];go_wp2_with fail;refine HAT.out.mono ?_;rintro e w1 ⟨rfl,rfl⟩;have hr:=HF0.out.res;have r0:=hr.at 0 (v:=.int .u64 0) rfl;have r1:=hr.at 1 (v:=.int .i64 0) rfl;have g0:=hr.frozen 0;have g1:=hr.frozen 1;go_wp2_with fail;obtain ⟨z1,z2,z3⟩:=HF0.out.out (.int .u64 (0)) (.int .i64 (0));have q0:=z3.at 0 (v:=.int .u64 (0)) rfl;have q1:=z3.at 1 (v:=.int .i64 (0)) rfl;refine bodyPost_ret (v:=.tuple #[.agg #[.int .u64 (0),.int .i64 (0)],.bool false]) (by simp [results,Tryz.results10,go_sem,q0,q1]) rfl ?_;refine ⟨0,0,false,p,x,if 0≤i then i.toNat else x.cp.length,rfl,z1,z2,rfl,by omega,.out ?_,fun h0=>?_⟩
  ·split <;> omega
  ·rw [if_pos h0];omega
 case pos=>
  obtain ⟨j,rfl⟩:=Int.eq_ofNat_of_zero_le hr.1;have hj:j < x.cp.length:=by omega
  obtain ⟨u,hu⟩:∃ u,x.cp[j]?=some u:=⟨x.cp[j]'hj,List.getElem?_eq_getElem _⟩;rw [if_pos hr,Int.toNat_natCast] at HAT;have HU:=hid hu;obtain ⟨ph,hph⟩:∃ ph,u.ph=ph:=⟨_,rfl⟩;have HPH:=hid hph;have c2:=(hF.cell hu).at 2 (v:=.int .i64 u.ph) rfl;rw [hph] at c2;obtain ⟨d3,hd3⟩:∃ d3,(ph != 3)=d3:=⟨_,rfl⟩;have HD3:=hid hd3;clear h hx ht hm hF hW0 hr hu hph;go_enter Tryz.func10,Tryz.ntmps10;go_upto_region 1 with fail;rw [HW0.out];go_wp2_with fail;refine HAT.out.mono ?_;rintro e w1 ⟨rfl,rfl⟩
  go_upto_if 21 with fail
  go_cut [7,8] (fun _ _ wc=>PhF w p sz x.cp.length w.heap.size wc p x∧(u.ph≠3→x.bx.bs[j]?=some []))
  case first=>
   cases d3 with
   | false=>
    clear hd3;go_wp2_with fail;go_meet;refine ⟨HF0.out,fun h=>?_⟩;have h3:ph=3:=by simpa using HD3.out
    exact absurd (HPH.out.trans h3) h
   | true=>
    clear hd3 c2;obtain ⟨q,hq⟩:∃ q,x.bx.bs[j]?=some q:=⟨x.bx.bs[j]'(by have:=HX.out.bl; omega),List.getElem?_eq_getElem _⟩;have hcs:j < p.cs.length:=by
     have h1:=HF0.out.m.bx.len;have h2:=HX.out.bl;omega
    have x2:=HF0.out.cells.at 2 (v:=ptr p.xb) rfl;have HQ:=hid hq;cases q with
    | nil=>
     have HTK:=hid (btake_none HF0.out.m.bx j hcs hq);clear hq;go_wp2_with fail;refine HTK.out.mono ?_;rintro e w2 ⟨rfl,ho⟩;have HF2:=hid (HF0.out.quiet (ho.alloc (.cells #[.int .i64 0,.int .i64 0,.int .i64 0] 71)));clear ho;go_wp2_with fail;go_meet;exact ⟨HF2.out,fun _=>HQ.out⟩
    | cons a q=>
     have hp3:u.ph≠3:=fun h=>by
      have h3:ph≠3:=by simpa using HD3.out
      exact h3 (HPH.out.symm.trans h)
     have HTK:=hid (btake_some HF0.out.m.bx j hcs a q hq (fun y hy=>by
      have h1:=HX.out.ops y hy;have h2:=HF0.out.m.cn.2;omega))
     have HP3:=hid hp3;obtain ⟨aid,at',ap⟩:=a;rw [ask_out] at HTK;clear hq hp3;go_wp2_with fail;refine HTK.out.mono ?_;rintro e w2 ⟨rfl,ho,hbx⟩;obtain ⟨h2,k2⟩:=HF0.out.m.bxTo ho (fun y hy=>by
      simp only [List.mem_cons,List.mem_append] at hy ⊢;rcases hy with h | h
      ·exact .inr (.inl (.inr h))
      ·exact .inr (.inr h)) hbx (.inl rfl)
     have hF2:=HF0.out.to h2 k2 rfl;obtain ⟨W3,hW3⟩:∃ W3,w2.alloc (.cells #[.int .i64 aid,.int .i64 at',.int .i64 ap] 71)=W3:=⟨_,rfl⟩;have q3:Only [] w2 W3:=by rw [← hW3]; exact (Only.refl [] w2).alloc _
     have hb3:Blk W3 w2.heap.size 71 #[.int .i64 aid,.int .i64 at',.int .i64 ap]:=by rw [← hW3]; exact Blk.new _ _ _
     have HF3:=hid (hF2.quiet q3);have y1:=hb3.at 1 (v:=.int .i64 at') rfl;have y2:=hb3.at 2 (v:=.int .i64 ap) rfl;have HFG:=hid (cforget_any (HF3.out.m.cpu j u HU.out) at' ap);have HW3:=hid hW3;clear h2 k2 hF2 q3 hb3 ho hbx hW3 x2;go_upto_region 7 with fail;rw [HW3.out];go_wp2_with fail;refine HFG.out.mono ?_;rintro e w4 ⟨rfl,hto⟩;obtain ⟨q4,h4,k4,_⟩:=HF3.out.m.cpTo hj hto;have HF4:=hid (HF3.out.to h4 k4 (by simp));clear h4 k4 hto y1 y2;have hr:=HF4.out.res;have r0:=hr.at 0 (v:=.int .u64 0) rfl;have r1:=hr.at 1 (v:=.int .i64 0) rfl;have g0:=hr.frozen 0;have g1:=hr.frozen 1;go_wp2_with fail;obtain ⟨z1,z2,z3⟩:=HF4.out.out (.int .u64 (0)) (.int .i64 (0));have q0:=z3.at 0 (v:=.int .u64 (0)) rfl;have q1:=z3.at 1 (v:=.int .i64 (0)) rfl;refine bodyPost_ret (v:=.tuple #[.agg #[.int .u64 (0),.int .i64 (0)],.bool false]) (by simp [results,Tryz.results10,go_sem,q0,q1]) rfl ?_;exact ⟨0,0,false,_,_,j,rfl,z1,z2,by simp,by simp,.take HU.out HP3.out HQ.out,fun _=>rfl⟩
  case rest=>
   obtain ⟨hF5,hq5⟩:=hcut;have HPC:=hid (fun W' (hW:IsMu W' p sz x)=>mphase_any hW HX.out HM.out.1 HM.out.2 HU.out hq5);have c2:=(hF5.cell HU.out).at 2 (v:=.int .i64 u.ph) rfl;rw [HPH.out] at c2 HPC;have HF5:=hid hF5;have hen:=phF_en ph;have hphr:=(hF5.m.cpu j u HU.out).vr.2;have hix:=phV_at p.b (ph:=ph) (by rw [← HPH.out]; exact hphr.1) (by rw [← HPH.out]; exact hphr.2);obtain ⟨nf,hnf⟩:∃ nf,phF ph=nf:=⟨_,rfl⟩;rw [hnf] at hen HPC hix;have hfi:=phV_f p.b nf;have HNF:=hid hnf;clear hF5 hq5 hnf hd3 hphr;go_upto_region 9 with fail;go_cut [9,10] (fun av bv wd=>∃ rb v er en p1 x1,av=ptr rb∧bv=.bool en∧StMid t w p sz x j rb v er en p1 x1 wd)
   case first=>
    refine pBegin rfl ?_;obtain ⟨S,hS⟩:∃ S:World→Prop,S=fun w'=>w'.cell? ⟨(p.q j).cb,2,none⟩=some (.int .i64 ph):=⟨_,rfl⟩;have HS:=hid hS;clear hS;refine pPhaseH S 6 (by rw [HS.out]; exact c2) fun HSW=>?_;have HFD:=hid (HF5.out.quiet ((Only.refl [] wc).drew));refine pPure (i:=0) rfl (by kernel_rfl) rfl HSW.out ?_;apply Exists.intro;refine ⟨fun w'=>?_,?_⟩
    ·go_simp;with_reducible rfl
    go_simp;refine pPure (i:=2) rfl (by kernel_rfl) rfl HSW.out ?_;apply Exists.intro;refine ⟨fun w'=>?_,?_⟩
    ·go_simp;with_reducible rfl
    go_simp;refine pPure (i:=3) rfl (by kernel_rfl) rfl HSW.out ?_;apply Exists.intro;refine ⟨fun w'=>?_,?_⟩
    ·go_simp;with_reducible rfl
    go_simp;refine pPure (i:=4) rfl (by kernel_rfl) rfl HSW.out ?_;apply Exists.intro;refine ⟨fun w'=>?_,?_⟩
    ·go_simp;with_reducible rfl
    go_simp;refine pTake (i:=5) rfl (by kernel_rfl) rfl HSW.out ?_;apply Exists.intro;refine ⟨fun w' hw'=>?_,?_⟩
    ·rw [HS.out] at hw';have p0:=hw';go_simp;with_reducible rfl
    go_simp;refine pPure (i:=8) rfl (by kernel_rfl) rfl HSW.out ?_;apply Exists.intro;refine ⟨fun w'=>?_,?_⟩
    ·go_simp;with_reducible rfl
    go_simp;clear c2;refine pFork (i:=1) (j:=13) rfl rfl (by kernel_rfl) (by kernel_rfl) (by kernel_rfl) rfl rfl (fun K hK=>?_) (fun K hK=>?_)
    ·skip;go_simp;go_at_call 18;refine (mphases_any _ _).mono ?_;rintro e w6 ⟨rfl,ho⟩;have HF6:=hid (HFD.out.quiet ho);have HSW6:=hid (show S w6 by rw [HS.out,← HPH.out]; exact (HF6.out.cell HU.out).at 2 rfl);refine hK _ _ HSW6.out ?_;clear hK K ho;refine pForkBar (j:=13) rfl rfl (by kernel_rfl) (by kernel_rfl) rfl rfl (fun K hK=>?_) (fun K hK=>?_)
     ·skip;go_simp;refine hK _ _ ?_;clear hK K;obtain ⟨S,hS⟩:∃ S:World→Prop,S=fun _=>True:=⟨_,rfl⟩;have HS:=hid hS;clear hS;refine pPhaseH S 99 (by rw [HS.out]; exact trivial) fun HT=>?_;refine pPure (i:=7) rfl (by kernel_rfl) rfl HT.out ?_;apply Exists.intro;refine ⟨fun w'=>?_,?_⟩
      ·go_simp;with_reducible rfl
      go_simp;refine pFork (i:=9) (j:=13) rfl rfl (by kernel_rfl) (by kernel_rfl) (by kernel_rfl) rfl rfl (fun K hK=>?_) (fun K hK=>?_)
      ·skip;have HCA:=hid (HPC.out _ HF6.out.m);go_simp;refine HCA.out.mono ?_;rintro e w8 ⟨v,er,en,p8,x8,rfl,h8,k8,hl8,hm8,hs8⟩;have HF8:=hid (HF6.out.to h8 k8 hl8);have HS8:=hid (And.intro hm8 hs8);have HT8:=hid (show S w8 by rw [HS.out]; trivial);refine hK _ _ HT8.out ?_;clear hK K h8 k8 hl8 hm8 hs8 HCA;refine pPure (i:=10) rfl (by kernel_rfl) rfl HT8.out ?_;apply Exists.intro;refine ⟨fun w'=>?_,?_⟩
       ·go_simp;with_reducible rfl
       go_simp;refine pPure (i:=11) rfl (by kernel_rfl) rfl HT8.out ?_;apply Exists.intro;refine ⟨fun w'=>?_,?_⟩
       ·go_simp;with_reducible rfl
       go_simp;refine pPure (i:=12) rfl (by kernel_rfl) rfl HT8.out ?_;apply Exists.intro;refine ⟨fun w'=>?_,?_⟩
       ·go_simp;with_reducible rfl
       go_simp;refine pStep (i:=13) rfl (by kernel_rfl) (by kernel_rfl) rfl fun K hK=>?_;obtain ⟨qb,hqb⟩:∃ qb,w8.heap.size=qb:=⟨_,rfl⟩;obtain ⟨WA,hWA⟩:∃ WA,w8.alloc (.cells #[.int .u64 0,.int .i64 0] 38)=WA:=⟨_,rfl⟩;have qa:Only [] w8 WA:=by rw [← hWA]; exact (Only.refl [] _).alloc _
       have HQ8:=hid (show Blk WA qb 38 #[.int .u64 0,.int .i64 0] by rw [← hWA,← hqb]; exact Blk.new _ _ _);have hql:w.heap.size < qb:=by rw [← hqb]; exact HF8.out.res.lt
       have HO8:=hid (show Off p8 x.cp.length qb by
        have h:=HF8.out.m.off (show w8.heap.size≤qb by omega);rw [HF8.out.len] at h;exact h)
       have HF9:=hid (HF8.out.quiet qa);go_simp
       try rw [hWA]
       try rw [hqb]
       have HTA:=hid (show S WA by rw [HS.out]; trivial);refine hK _ _ HTA.out ?_;clear hK K qa hWA hqb;have r0:=HQ8.out.at 0 (v:=.int .u64 0) rfl;have r1:=HQ8.out.at 1 (v:=.int .i64 0) rfl;have g0:=HQ8.out.frozen 0;have g1:=HQ8.out.frozen 1;have HMID:=hid (StMid.mk' HF9.out HQ8.out HO8.out hql HS8.out.1 HS8.out.2);refine pStep (i:=14) rfl (by kernel_rfl) (by kernel_rfl) rfl fun K hK=>?_;go_simp;have HT9:=hid (show S ((WA.setCell ⟨qb,0,none⟩ (.int .u64 v)).setCell ⟨qb,1,none⟩ (.int .i64 er)) by rw [HS.out]; trivial);refine hK _ _ HT9.out ?_;clear hK K r0 r1 g0 g1;refine pPure (i:=15) rfl (by kernel_rfl) rfl HT9.out ?_;apply Exists.intro;refine ⟨fun w'=>?_,?_⟩
       ·go_simp;with_reducible rfl
       go_simp;refine pEnd (by kernel_rfl) ?_;go_wp2_with fail;go_meet;exact ⟨_,_,_,_,_,_,rfl,rfl,HMID.out⟩
      ·skip;obtain ⟨qb,hqb⟩:∃ qb,w6.heap.size=qb:=⟨_,rfl⟩;obtain ⟨WA,hWA⟩:∃ WA,w6.alloc (.cells #[.int .u64 0,.int .i64 0] 38)=WA:=⟨_,rfl⟩;have qa:Only [] w6 WA:=by rw [← hWA]; exact (Only.refl [] _).alloc _
       have HQX:=hid (show Blk WA qb 38 #[.int .u64 0,.int .i64 0] by rw [← hWA,← hqb]; exact Blk.new _ _ _);have hql:w.heap.size < qb:=by rw [← hqb]; exact HF6.out.res.lt
       have HOX:=hid (show Off p x.cp.length qb from HF6.out.m.off (show w6.heap.size≤qb by omega));have HFX:=hid (HF6.out.quiet qa);go_simp
       try rw [hWA]
       try rw [hqb]
       have HTA:=hid (show S WA by rw [HS.out]; trivial);refine hK _ _ HTA.out ?_;clear hK K qa hWA hqb;refine pStep (i:=9) rfl (by kernel_rfl) (by kernel_rfl) rfl fun K hK=>?_;have HCA:=hid (HPC.out _ HFX.out.m);go_simp;refine HCA.out.mono ?_;rintro e w8 ⟨v,er,en,p8,x8,rfl,h8,k8,hl8,hm8,hs8⟩;have HF8:=hid (HFX.out.to h8 k8 hl8);have HS8:=hid (And.intro hm8 hs8);have HQ8:=hid (k8.blk HOX.out HQX.out);have HO8:=hid (k8.off HOX.out HQX.out.lt);have HF9:=HF8;obtain ⟨W8,hW8⟩:∃ W8,w8=W8:=⟨_,rfl⟩;have HT8:=hid (show S w8 by rw [HS.out]; trivial);refine hK _ _ HT8.out ?_;clear hK K h8 k8 hl8 hm8 hs8 HCA;subst hW8;refine pPure (i:=10) rfl (by kernel_rfl) rfl HT8.out ?_;apply Exists.intro;refine ⟨fun w'=>?_,?_⟩
       ·go_simp;with_reducible rfl
       go_simp;refine pPure (i:=11) rfl (by kernel_rfl) rfl HT8.out ?_;apply Exists.intro;refine ⟨fun w'=>?_,?_⟩
       ·go_simp;with_reducible rfl
       go_simp;refine pPure (i:=12) rfl (by kernel_rfl) rfl HT8.out ?_;apply Exists.intro;refine ⟨fun w'=>?_,?_⟩
       ·go_simp;with_reducible rfl
       go_simp;have r0:=HQ8.out.at 0 (v:=.int .u64 0) rfl;have r1:=HQ8.out.at 1 (v:=.int .i64 0) rfl;have g0:=HQ8.out.frozen 0;have g1:=HQ8.out.frozen 1;have HMID:=hid (StMid.mk' HF9.out HQ8.out HO8.out hql HS8.out.1 HS8.out.2);refine pStep (i:=14) rfl (by kernel_rfl) (by kernel_rfl) rfl fun K hK=>?_;go_simp;have HT9:=hid (show S ((w8.setCell ⟨qb,0,none⟩ (.int .u64 v)).setCell ⟨qb,1,none⟩ (.int .i64 er)) by rw [HS.out]; trivial);refine hK _ _ HT9.out ?_;clear hK K r0 r1 g0 g1;refine pPure (i:=15) rfl (by kernel_rfl) rfl HT9.out ?_;apply Exists.intro;refine ⟨fun w'=>?_,?_⟩
       ·go_simp;with_reducible rfl
       go_simp;refine pEnd (by kernel_rfl) ?_;go_wp2_with fail;go_meet;exact ⟨_,_,_,_,_,_,rfl,rfl,HMID.out⟩
     ·skip;obtain ⟨qb,hqb⟩:∃ qb,w6.heap.size=qb:=⟨_,rfl⟩;obtain ⟨WA,hWA⟩:∃ WA,w6.alloc (.cells #[.int .u64 0,.int .i64 0] 38)=WA:=⟨_,rfl⟩;have qa:Only [] w6 WA:=by rw [← hWA]; exact (Only.refl [] _).alloc _
      have HQX:=hid (show Blk WA qb 38 #[.int .u64 0,.int .i64 0] by rw [← hWA,← hqb]; exact Blk.new _ _ _);have hql:w.heap.size < qb:=by rw [← hqb]; exact HF6.out.res.lt
      have HOX:=hid (show Off p x.cp.length qb from HF6.out.m.off (show w6.heap.size≤qb by omega));have HFX:=hid (HF6.out.quiet qa);go_simp
      try rw [hWA]
      try rw [hqb]
      have HTA:=hid (show S WA by rw [HS.out,← HPH.out]; exact (HFX.out.cell HU.out).at 2 rfl);refine hK _ _ HTA.out ?_;clear hK K qa hWA hqb;refine pBar rfl (by kernel_rfl) rfl fun K hK=>?_;go_simp;refine hK _ _ ?_;clear hK K HS HTA;obtain ⟨S,hS⟩:∃ S:World→Prop,S=fun _=>True:=⟨_,rfl⟩;have HS:=hid hS;clear hS;refine pPhaseH S 99 (by rw [HS.out]; exact trivial) fun HT=>?_;refine pPure (i:=7) rfl (by kernel_rfl) rfl HT.out ?_;apply Exists.intro;refine ⟨fun w'=>?_,?_⟩
      ·go_simp;with_reducible rfl
      go_simp;refine pStep (i:=9) rfl (by kernel_rfl) (by kernel_rfl) rfl fun K hK=>?_;have HCA:=hid (HPC.out _ HFX.out.m);go_simp;refine HCA.out.mono ?_;rintro e w8 ⟨v,er,en,p8,x8,rfl,h8,k8,hl8,hm8,hs8⟩;have HF8:=hid (HFX.out.to h8 k8 hl8);have HS8:=hid (And.intro hm8 hs8);have HQ8:=hid (k8.blk HOX.out HQX.out);have HO8:=hid (k8.off HOX.out HQX.out.lt);have HF9:=HF8;obtain ⟨W8,hW8⟩:∃ W8,w8=W8:=⟨_,rfl⟩;have HT8:=hid (show S w8 by rw [HS.out]; trivial);refine hK _ _ HT8.out ?_;clear hK K h8 k8 hl8 hm8 hs8 HCA;subst hW8;refine pPure (i:=10) rfl (by kernel_rfl) rfl HT8.out ?_;apply Exists.intro;refine ⟨fun w'=>?_,?_⟩
      ·go_simp;with_reducible rfl
      go_simp;refine pPure (i:=11) rfl (by kernel_rfl) rfl HT8.out ?_;apply Exists.intro;refine ⟨fun w'=>?_,?_⟩
      ·go_simp;with_reducible rfl
      go_simp;refine pPure (i:=12) rfl (by kernel_rfl) rfl HT8.out ?_;apply Exists.intro;refine ⟨fun w'=>?_,?_⟩
      ·go_simp;with_reducible rfl
      go_simp;have r0:=HQ8.out.at 0 (v:=.int .u64 0) rfl;have r1:=HQ8.out.at 1 (v:=.int .i64 0) rfl;have g0:=HQ8.out.frozen 0;have g1:=HQ8.out.frozen 1;have HMID:=hid (StMid.mk' HF9.out HQ8.out HO8.out hql HS8.out.1 HS8.out.2);refine pStep (i:=14) rfl (by kernel_rfl) (by kernel_rfl) rfl fun K hK=>?_;go_simp;have HT9:=hid (show S ((w8.setCell ⟨qb,0,none⟩ (.int .u64 v)).setCell ⟨qb,1,none⟩ (.int .i64 er)) by rw [HS.out]; trivial);refine hK _ _ HT9.out ?_;clear hK K r0 r1 g0 g1;refine pPure (i:=15) rfl (by kernel_rfl) rfl HT9.out ?_;apply Exists.intro;refine ⟨fun w'=>?_,?_⟩
      ·go_simp;with_reducible rfl
      go_simp;refine pEnd (by kernel_rfl) ?_;go_wp2_with fail;go_meet;exact ⟨_,_,_,_,_,_,rfl,rfl,HMID.out⟩
    ·skip;obtain ⟨qb,hqb⟩:∃ qb,wc.drew.heap.size=qb:=⟨_,rfl⟩;obtain ⟨WA,hWA⟩:∃ WA,wc.drew.alloc (.cells #[.int .u64 0,.int .i64 0] 38)=WA:=⟨_,rfl⟩;have qa:Only [] wc.drew WA:=by rw [← hWA]; exact (Only.refl [] _).alloc _
     have HQX0:=hid (show Blk WA qb 38 #[.int .u64 0,.int .i64 0] by rw [← hWA,← hqb]; exact Blk.new _ _ _);have hql:w.heap.size < qb:=by rw [← hqb]; exact HFD.out.res.lt
     have HOX:=hid (show Off p x.cp.length qb from HFD.out.m.off (show wc.drew.heap.size≤qb by omega));have HFX0:=hid (HFD.out.quiet qa);have hqb2:wc.heap.size=qb:=hqb;have hWA2:(wc.alloc (.cells #[.int .u64 0,.int .i64 0] 38)).drew=WA:=hWA;go_simp
     try rw [hWA2]
     try rw [hqb2]
     have HTA:=hid (show S WA by rw [HS.out,← HPH.out]; exact (HFX0.out.cell HU.out).at 2 rfl);refine hK _ _ HTA.out ?_;clear hK K qa hWA hqb hWA2 hqb2;refine pStep (i:=1) rfl (by kernel_rfl) (by kernel_rfl) rfl fun K hK=>?_;go_simp;go_at_call 18;refine (mphases_any _ _).mono ?_;rintro e w6 ⟨rfl,ho⟩;have HFX:=hid (HFX0.out.quiet ho);have HQX:=hid (HQX0.out.only ho (by simp));have HTB:=hid (show S w6 by rw [HS.out,← HPH.out]; exact (HFX.out.cell HU.out).at 2 rfl);refine hK _ _ HTB.out ?_;clear hK K ho;refine pBar rfl (by kernel_rfl) rfl fun K hK=>?_;go_simp;refine hK _ _ ?_;clear hK K HS HTA HTB HSW;obtain ⟨S,hS⟩:∃ S:World→Prop,S=fun _=>True:=⟨_,rfl⟩;have HS:=hid hS;clear hS;refine pPhaseH S 99 (by rw [HS.out]; exact trivial) fun HT=>?_;refine pPure (i:=7) rfl (by kernel_rfl) rfl HT.out ?_;apply Exists.intro;refine ⟨fun w'=>?_,?_⟩
     ·go_simp;with_reducible rfl
     go_simp;refine pStep (i:=9) rfl (by kernel_rfl) (by kernel_rfl) rfl fun K hK=>?_;have HCA:=hid (HPC.out _ HFX.out.m);go_simp;refine HCA.out.mono ?_;rintro e w8 ⟨v,er,en,p8,x8,rfl,h8,k8,hl8,hm8,hs8⟩;have HF8:=hid (HFX.out.to h8 k8 hl8);have HS8:=hid (And.intro hm8 hs8);have HQ8:=hid (k8.blk HOX.out HQX.out);have HO8:=hid (k8.off HOX.out HQX.out.lt);have HF9:=HF8;obtain ⟨W8,hW8⟩:∃ W8,w8=W8:=⟨_,rfl⟩;have HT8:=hid (show S w8 by rw [HS.out]; trivial);refine hK _ _ HT8.out ?_;clear hK K h8 k8 hl8 hm8 hs8 HCA;subst hW8;refine pPure (i:=10) rfl (by kernel_rfl) rfl HT8.out ?_;apply Exists.intro;refine ⟨fun w'=>?_,?_⟩
     ·go_simp;with_reducible rfl
     go_simp;refine pPure (i:=11) rfl (by kernel_rfl) rfl HT8.out ?_;apply Exists.intro;refine ⟨fun w'=>?_,?_⟩
     ·go_simp;with_reducible rfl
     go_simp;refine pPure (i:=12) rfl (by kernel_rfl) rfl HT8.out ?_;apply Exists.intro;refine ⟨fun w'=>?_,?_⟩
     ·go_simp;with_reducible rfl
     go_simp;have r0:=HQ8.out.at 0 (v:=.int .u64 0) rfl;have r1:=HQ8.out.at 1 (v:=.int .i64 0) rfl;have g0:=HQ8.out.frozen 0;have g1:=HQ8.out.frozen 1;have HMID:=hid (StMid.mk' HF9.out HQ8.out HO8.out hql HS8.out.1 HS8.out.2);refine pStep (i:=14) rfl (by kernel_rfl) (by kernel_rfl) rfl fun K hK=>?_;go_simp;have HT9:=hid (show S ((w8.setCell ⟨qb,0,none⟩ (.int .u64 v)).setCell ⟨qb,1,none⟩ (.int .i64 er)) by rw [HS.out]; trivial);refine hK _ _ HT9.out ?_;clear hK K r0 r1 g0 g1;refine pPure (i:=15) rfl (by kernel_rfl) rfl HT9.out ?_;apply Exists.intro;refine ⟨fun w'=>?_,?_⟩
     ·go_simp;with_reducible rfl
     go_simp;refine pEnd (by kernel_rfl) ?_;go_wp2_with fail;go_meet;exact ⟨_,_,_,_,_,_,rfl,rfl,HMID.out⟩
   case rest=>
    obtain ⟨rb,v,er,en,p1,x1,rfl,rfl,hmid⟩:=hcut;have HMID:=hid hmid;clear hmid HPC hen hix hfi HNF;cases en with
    | false=>
     have HF9:=hid HMID.out.f;have hr:=HF9.out.res;have r0:=hr.at 0 (v:=.int .u64 0) rfl;have r1:=hr.at 1 (v:=.int .i64 0) rfl;have g0:=hr.frozen 0;have g1:=hr.frozen 1;go_wp2_with fail;obtain ⟨z1,z2,z3⟩:=HF9.out.out (.int .u64 (0)) (.int .i64 (0));have q0:=z3.at 0 (v:=.int .u64 (0)) rfl;have q1:=z3.at 1 (v:=.int .i64 (0)) rfl;refine bodyPost_ret (v:=.tuple #[.agg #[.int .u64 (0),.int .i64 (0)],.bool false]) (by simp [results,Tryz.results10,go_sem,q0,q1]) rfl ?_;rcases HMID.out.s with ⟨_,hs⟩ | ⟨h,_⟩
     ·exact ⟨0,0,false,_,_,j,rfl,z1,z2,HMID.out.f.len,HMID.out.m,hs,fun _=>rfl⟩
     ·cases h
    | true=>
     obtain ⟨u1,hu1,hs1⟩:∃ u1,x1.cp[j]?=some u1∧MStep t j x { x1 with cp:=x1.cp.set j (Cpu.rest u1.ls) } v er true:=by
      rcases HMID.out.s with ⟨h,_⟩ | ⟨_,h⟩
      ·cases h
      ·exact h
     have hj1:j < x1.cp.length:=by rw [HMID.out.f.len]; exact hj
     have hcl:=HMID.out.f.cell hu1;have HCL:=hid hcl;have c0:=hcl.at 0 (v:=.int .i64 j) rfl;have f0:=hcl.frozen 0;have c1:=hcl.at 1 (v:=ptr (p.q j).tb) rfl;have f1:=hcl.frozen 1;have c2:=hcl.at 2 (v:=.int .i64 u1.ph) rfl;have f2:=hcl.frozen 2;have c3:=hcl.at 3 (v:=.int .i64 u1.vm) rfl;have f3:=hcl.frozen 3;have c4:=hcl.at 4 (v:=.int .i64 u1.c.k) rfl;have f4:=hcl.frozen 4;have c5:=hcl.at 5 (v:=.int .u64 u1.c.a) rfl;have f5:=hcl.frozen 5;have c6:=hcl.at 6 (v:=.int .u64 u1.c.b) rfl;have f6:=hcl.frozen 6;have c7:=hcl.at 7 (v:=.int .u64 u1.c.c) rfl;have f7:=hcl.frozen 7;have c8:=hcl.at 8 (v:=(p1.q j).wpv) rfl;have f8:=hcl.frozen 8;have c9:=hcl.at 9 (v:=.int .i64 u1.fr) rfl;have f9:=hcl.frozen 9;have c10:=hcl.at 10 (v:=.int .u64 u1.rv) rfl;have f10:=hcl.frozen 10;have c11:=hcl.at 11 (v:=.int .i64 u1.re) rfl;have f11:=hcl.frozen 11;have c12:=hcl.at 12 (v:=.int .i64 u1.ask) rfl;have f12:=hcl.frozen 12;have c13:=hcl.at 13 (v:=(p1.q j).fv) rfl;have f13:=hcl.frozen 13;have hrb:rb≠(p.q j).cb:=fun e=>by
      refine HMID.out.o (j+4) ?_;rw [foot_cpu hj,e,← HMID.out.f.k.cb j];simp [CpP.fp]
     have HS1:=hid hs1;have HU1:=hid hu1;clear hcl hs1 hu1;go_upto_region 13 with fail;obtain ⟨W9,hW9⟩:∃ W9,((((((((((((((wc.setCell ⟨(p.q j).cb,0,none⟩ (.int .i64 j)).setCell ⟨(p.q j).cb,1,none⟩ (ptr (p.q j).tb)).setCell ⟨(p.q j).cb,2,none⟩ (.int .i64 0)).setCell ⟨(p.q j).cb,3,none⟩ (.int .i64 0)).setCell ⟨(p.q j).cb,4,none⟩ (.int .i64 0)).setCell ⟨(p.q j).cb,5,none⟩ (.int .u64 0)).setCell ⟨(p.q j).cb,6,none⟩ (.int .u64 0)).setCell ⟨(p.q j).cb,7,none⟩ (.int .u64 0)).setCell ⟨(p.q j).cb,8,none⟩ (.pointer none)).setCell ⟨(p.q j).cb,9,none⟩ (.int .i64 0)).setCell ⟨(p.q j).cb,10,none⟩ (.int .u64 0)).setCell ⟨(p.q j).cb,11,none⟩ (.int .i64 0)).setCell ⟨(p.q j).cb,12,none⟩ (.int .i64 0)).setCell ⟨(p.q j).cb,13,none⟩ (.slice none 0 0))=W9:=⟨_,rfl⟩;have hF9:PhF w p sz x.cp.length w.heap.size W9 (p1.setQ j { p1.q j with wp:=none,wv:=.slice none 0 0,fv:=.slice none 0 0 }) { x1 with cp:=x1.cp.set j (Cpu.rest u1.ls) }:=by
      have o:Only [(p.q j).cb] wc W9:=by
       rw [← hW9];exact ((((((((((((((Only.refl [(p.q j).cb] wc).setCell (p:=⟨(p.q j).cb,0,none⟩) (.inl (.head _)) _).setCell (p:=⟨(p.q j).cb,1,none⟩) (.inl (.head _)) _).setCell (p:=⟨(p.q j).cb,2,none⟩) (.inl (.head _)) _).setCell (p:=⟨(p.q j).cb,3,none⟩) (.inl (.head _)) _).setCell (p:=⟨(p.q j).cb,4,none⟩) (.inl (.head _)) _).setCell (p:=⟨(p.q j).cb,5,none⟩) (.inl (.head _)) _).setCell (p:=⟨(p.q j).cb,6,none⟩) (.inl (.head _)) _).setCell (p:=⟨(p.q j).cb,7,none⟩) (.inl (.head _)) _).setCell (p:=⟨(p.q j).cb,8,none⟩) (.inl (.head _)) _).setCell (p:=⟨(p.q j).cb,9,none⟩) (.inl (.head _)) _).setCell (p:=⟨(p.q j).cb,10,none⟩) (.inl (.head _)) _).setCell (p:=⟨(p.q j).cb,11,none⟩) (.inl (.head _)) _).setCell (p:=⟨(p.q j).cb,12,none⟩) (.inl (.head _)) _).setCell (p:=⟨(p.q j).cb,13,none⟩) (.inl (.head _)) _
      have hb:=((((((((((((((HCL.out.set 0 (.int .i64 j)).set 1 (ptr (p.q j).tb)).set 2 (.int .i64 0)).set 3 (.int .i64 0)).set 4 (.int .i64 0)).set 5 (.int .u64 0)).set 6 (.int .u64 0)).set 7 (.int .u64 0)).set 8 (.pointer none)).set 9 (.int .i64 0)).set 10 (.int .u64 0)).set 11 (.int .i64 0)).set 12 (.int .i64 0)).set 13 (.slice none 0 0));rw [hW9] at hb;have hq:=HMID.out.f.m.cpu j u1 HU1.out;rw [← HMID.out.f.k.cb j,← HMID.out.f.k.tb j] at hb;rw [← HMID.out.f.k.cb j] at o;have ht1:(p1.q j).cb≠(p1.q j).tb:=fun e=>absurd (hq.obj.inj (e ▸ hq.tlb.obj)).1 (by decide);have hic:IsCpu W9 { p1.q j with wp:=none,wv:=.slice none 0 0,fv:=.slice none 0 0 } j sz (Cpu.rest u1.ls):=by
       refine ⟨by simpa [CpP.wpv,Cpu.rest] using hb,hq.tlb.only o (by simpa using ht1.symm) (fun y hy e=>?_),fun h=>absurd h (show ¬ (0:Int)=2 by decide),RowR.nil _ _ _,fun y hy=>(by cases hy),by show (0:Int) < 9223372036854775808; decide,by show (0:Int)≤0; decide,by show (0:Int)≤4; decide⟩;rw [List.mem_singleton.1 hy] at e;exact hq.tlb.row.ne hq.obj (by decide) e
      obtain ⟨h9,k9⟩:=HMID.out.f.m.cpuNew hj1 o (fun y hy=>by rw [List.mem_singleton.1 hy]; simp [CpP.fp]) hic rfl rfl fun y hy=>by
       left;simp only [CpP.fp,List.mem_cons,List.mem_append,Option.mem_toList] at hy ⊢;rcases hy with h | h | (((h | h) | h) | h)
       ·exact .inl h
       ·exact .inr (.inl h)
       ·exact .inr (.inr (.inl (.inl (.inl h))))
       ·cases h
       ·cases h
       ·cases h
      exact HMID.out.f.to h9 k9 (by simpa using HMID.out.f.len)
     have hb9:Blk W9 rb 38 #[.int .u64 v,.int .i64 er]:=by
      refine HMID.out.b.only (S:=[(p.q j).cb]) ?_ (by simpa using hrb);rw [← hW9];exact ((((((((((((((Only.refl [(p.q j).cb] wc).setCell (p:=⟨(p.q j).cb,0,none⟩) (.inl (.head _)) _).setCell (p:=⟨(p.q j).cb,1,none⟩) (.inl (.head _)) _).setCell (p:=⟨(p.q j).cb,2,none⟩) (.inl (.head _)) _).setCell (p:=⟨(p.q j).cb,3,none⟩) (.inl (.head _)) _).setCell (p:=⟨(p.q j).cb,4,none⟩) (.inl (.head _)) _).setCell (p:=⟨(p.q j).cb,5,none⟩) (.inl (.head _)) _).setCell (p:=⟨(p.q j).cb,6,none⟩) (.inl (.head _)) _).setCell (p:=⟨(p.q j).cb,7,none⟩) (.inl (.head _)) _).setCell (p:=⟨(p.q j).cb,8,none⟩) (.inl (.head _)) _).setCell (p:=⟨(p.q j).cb,9,none⟩) (.inl (.head _)) _).setCell (p:=⟨(p.q j).cb,10,none⟩) (.inl (.head _)) _).setCell (p:=⟨(p.q j).cb,11,none⟩) (.inl (.head _)) _).setCell (p:=⟨(p.q j).cb,12,none⟩) (.inl (.head _)) _).setCell (p:=⟨(p.q j).cb,13,none⟩) (.inl (.head _)) _
     rw [hW9];have y0:=hb9.at 0 (v:=.int .u64 v) rfl;have y1:=hb9.at 1 (v:=.int .i64 er) rfl;have HF9:=hid hF9;clear hF9 hb9 hW9 HCL hrb c0 f0 c1 f1 c2 f2 c3 f3 c4 f4 c5 f5 c6 f6 c7 f7 c8 f8 c9 f9 c10 f10 c11 f11 c12 f12 c13 f13;have hr:=HF9.out.res;have r0:=hr.at 0 (v:=.int .u64 0) rfl;have r1:=hr.at 1 (v:=.int .i64 0) rfl;have g0:=hr.frozen 0;have g1:=hr.frozen 1;go_wp2_with fail;obtain ⟨z1,z2,z3⟩:=HF9.out.out (.int .u64 (v)) (.int .i64 (er));have q0:=z3.at 0 (v:=.int .u64 (v)) rfl;have q1:=z3.at 1 (v:=.int .i64 (er)) rfl;refine bodyPost_ret (v:=.tuple #[.agg #[.int .u64 (v),.int .i64 (er)],.bool true]) (by simp [results,Tryz.results10,go_sem,q0,q1]) rfl ?_;exact ⟨v,er,true,_,_,j,rfl,z1,z2,by simpa using HMID.out.f.len,HMID.out.m,HS1.out,fun _=>rfl⟩
end
end Go.Proofs.YtadgpnoealegiaaGreat
