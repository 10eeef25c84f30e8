import Derived.Test.YtadgpnoealegiaaGreatP47
import Derived.Laws.StructEq
import Derived.Deep.CutBlock
namespace Go.Proofs.YtadgpnoealegiaaGreat
open Go.RowKit
open Go.Lib (hid)
set_option maxRecDepth 100000
set_option maxHeartbeats 20000000
section
variable {w w':World} {p:MuP} {sz:Nat} {x:X}
theorem PhF.gets {n r:Nat} {W W':World} {p1:MuP} {x1:X} (f:PhF w p sz n r W p1 x1) {i:Nat} {u u':Cpu} (hu:x1.cp[i]?=some u) {fv:Value} (o:Only [(p.q i).cb] W W') (hr:W'=W.setCell ⟨(p.q i).cb,13,none⟩ fv) (hrow:RowR W 3 1 fv u'.fs.length (u'.fs.map (Value.int .i64)))
 (hown:∀ g,fv.ownBlock=some g→Off p1 n g∧w.heap.size≤g∧g≠r) (hph:u.ph≠2) (hu':u'={ u with fs:=u'.fs }):PhF w p sz n r W' (p1.setQ i { p1.q i with fv:=fv }) { x1 with cp:=x1.cp.set i u' }:=by
 have hi:=(List.getElem?_eq_some_iff.1 hu).1;have hq:=f.m.cpu i u hu;have o2:=o;rw [← f.k.cb i] at o2 hr;have ht1:(p1.q i).cb≠(p1.q i).tb:=fun e=>absurd (hq.obj.inj (e ▸ hq.tlb.obj)).1 (by decide);have hb:=hq.obj.set 13 fv;rw [← hr] at hb;have hic:IsCpu W' { p1.q i with fv:=fv } i sz u':=by
  rw [hu'];refine ⟨by simpa [CpP.wpv] using hb,hq.tlb.only o2 (by simpa using ht1.symm) (fun y hy e=>?_),fun h=>absurd h hph,hrow.only o2 (fun y hy e=>?_),fun y hy e=>?_,hq.vr⟩
  ·rw [List.mem_singleton.1 hy] at e;exact hq.tlb.row.ne hq.obj (by decide) e
  ·rw [List.mem_singleton.1 hy] at e;exact hrow.ne hq.obj (by decide) e
  ·refine (hown y e).1 (i+4) ?_;rw [← f.len,foot_cpu hi];have hy:(p1.q i).wv.ownBlock=some y:=hy;simp [CpP.fp,hy]
 have hff:∀ y ∈ ({ p1.q i with fv:=fv }:CpP).fp,y ∈ (p1.q i).fp∨fv.ownBlock=some y:=fun y hy=>by
  simp only [CpP.fp,List.mem_cons,List.mem_append,Option.mem_toList] at hy ⊢;rcases hy with h | h | (((h | h) | h) | h)
  ·exact .inl (.inl h)
  ·exact .inl (.inr (.inl h))
  ·exact .inl (.inr (.inr (.inl (.inl (.inl h)))))
  ·exact .inl (.inr (.inr (.inl (.inl (.inr h)))))
  ·exact .inl (.inr (.inr (.inl (.inr h))))
  ·exact .inr h
 have hm:=f.m.turn2 hi o2 (fun y hy=>by rw [List.mem_singleton.1 hy]; simp [CpP.fp]) hic rfl fun y hy=>(hff y hy).imp id fun h=>⟨fun j=>by rw [f.len]; exact (hown y h).1 j,Nat.lt_of_lt_of_le (hrow.lt y h).1 o.size⟩;have hqe:∀ j,(p1.setQ i { p1.q i with fv:=fv }).q j=if j=i then { p1.q i with fv:=fv } else p1.q j:=fun j=>rfl;have hof:∀ j y,y ∈ (p1.setQ i { p1.q i with fv:=fv }).foot n j→y ∈ p1.foot n j∨fv.ownBlock=some y:=fun j y hy=>by
  by_cases hj:j=i+4
  ·subst hj;have hin:i < n:=by rw [← f.len]; exact hi
   rw [foot_cpu hin] at hy ⊢;rw [hqe,if_pos rfl] at hy;exact hff y hy
  ·left
   match j with
   | 0=>exact hy
   | 1=>exact hy
   | 2=>exact hy
   | 3=>exact hy
   | j+4=>
    have e:(p1.setQ i { p1.q i with fv:=fv }).q j=p1.q j:=by rw [hqe,if_neg (show ¬ j=i by omega)]
    have hy:y ∈ (if j < n then ((p1.setQ i { p1.q i with fv:=fv }).q j).fp else []):=hy;rw [e] at hy;exact hy
 obtain ⟨T,oT,hT⟩:=f.k.o;refine ⟨hm,by simpa using f.len,⟨?_,fun j y hy=>?_,f.k.b,f.k.hb,f.k.eb,f.k.xb,f.k.cpv,f.k.kr,fun j=>?_,fun j=>?_⟩,?_,fun j hj=>?_,f.l⟩
 ·refine ⟨T ++ [(p.q i).cb].filter (fun y=>decide (y < w.heap.size)),(oT.sub (List.subset_append_left _ _)).then o fun y hy=>?_,fun y hy=>?_⟩
  ·by_cases hl:y < w.heap.size
   ·exact .inl (List.mem_append_right _ (List.mem_filter.2 ⟨hy,by simpa using hl⟩))
   ·exact .inr (by omega)
  ·rcases List.mem_append.1 hy with hy | hy
   ·exact hT y hy
   ·obtain ⟨hy,hl⟩:=List.mem_filter.1 hy;have hl:=of_decide_eq_true hl;rcases f.k.f (i+4) y (by rw [← f.len,foot_cpu hi,List.mem_singleton.1 hy,← f.k.cb i]; simp [CpP.fp]) with h | h
    ·exact h
    ·omega
 ·rcases hof j y hy with h | h
  ·exact f.k.f j y h
  ·exact .inr (hown y h).2.1
 ·rw [hqe];split
  ·rename_i e;rw [e];exact f.k.cb i
  ·exact f.k.cb j
 ·rw [hqe];split
  ·rename_i e;rw [e];exact f.k.tb i
  ·exact f.k.tb j
 ·refine f.res.only o2 fun hm=>?_;exact hq.obj.ne f.res (by decide) (List.mem_singleton.1 hm).symm
 ·rcases hof j r hj with h | h
  ·exact f.o j h
  ·exact (hown r h).2.2 rfl
theorem mbegin_any {n t:Nat} {V:Int→Prop} {W:List Int} (h:IsMu w p sz x) (hx:XInv x n t V W) (ht:t < 60000) (hm:x.mks.length < 90000000) {i:Nat} {u:Cpu} (hu:x.cp[i]?=some u) (hp:u.ph=1) (hq:x.bx.bs[i]?=some []):Calls Tryz.prog 27 #[ptr p.b,ptr (p.q i).cb] w (PhTo t w p sz x i):=by
 have hi:=(List.getElem?_eq_some_iff.1 hu).1;obtain ⟨W0,hW0⟩:∃ W0,w.alloc (.cells #[.int .u64 0,.int .i64 0] 38)=W0:=⟨_,rfl⟩;have hF:=PhF.start h;rw [hW0] at hF;have HF0:=hid hF;have HW0:=hid hW0;have HU:=hid (And.intro hu (And.intro hp hq));have HX:=hid hx;have HM:=hid (And.intro ht hm);have HAC:=hid (maccess_any hF.m hu);obtain ⟨ac,hac⟩:∃ ac,accN x.S u=ac:=⟨_,rfl⟩;rw [hac] at HAC;have HACE:=hid hac;clear h hx ht hm hu hp hq hF hW0 hac;go_enter Tryz.func27,Tryz.ntmps27;go_upto_region 1 with fail;rw [HW0.out];go_wp2_with fail;refine HAC.out.mono ?_;rintro e w1 ⟨rfl,ho⟩;have HF1:=hid (HF0.out.quiet ho);clear ho HAC HF0 HW0;cases ac with
 | true=>
  have HOP:=hid (mopen_any (t:=t) HF1.out.m HU.out.1 HU.out.2.1 HU.out.2.2 HACE.out (HX.out.ca i u HU.out.1) HX.out.el (fun v G hg=>root_range HX.out.hi hg));go_wp2_with fail;refine HOP.out.mono ?_;rintro e w2 ⟨p2,x2,rfl,h2,k2,hl2,hm2,hs2⟩;have HF2:=hid (HF1.out.to h2 k2 hl2);have HS2:=hid (And.intro hl2 (And.intro hm2 hs2));clear h2 k2 hl2 hm2 hs2;have hr:=HF2.out.res;have r0:=hr.at 0 (v:=.int .u64 0) rfl;have r1:=hr.at 1 (v:=.int .i64 0) rfl;have g0:=hr.frozen 0;have g1:=hr.frozen 1;go_wp2_with fail;obtain ⟨z1,z2,z3⟩:=HF2.out.out (.int .u64 (0)) (.int .i64 (0));have q0:=z3.at 0 (v:=.int .u64 (0)) rfl;have q1:=z3.at 1 (v:=.int .i64 (0)) rfl;refine bodyPost_ret (v:=.tuple #[.agg #[.int .u64 (0),.int .i64 (0)],.bool false]) (by simp [results,Tryz.results27,go_sem,q0,q1]) rfl ?_;exact ⟨0,0,false,_,_,rfl,z1,z2,HS2.out.1,by rw [HS2.out.2.1]; omega,.inl ⟨rfl,HS2.out.2.2⟩⟩
 | false=>
  have HBL:=hid (mblocked_any HF1.out.m HU.out.1);obtain ⟨bl,hbl⟩:∃ bl,blkN x.cp i u=bl:=⟨_,rfl⟩;rw [hbl] at HBL;have HBLE:=hid hbl;clear hbl;go_wp2_with fail;refine HBL.out.mono ?_;rintro e w2 ⟨rfl,ho⟩;have HF2:=hid (HF1.out.quiet ho);clear ho HBL HF1;cases bl with
  | true=>
   have hr:=HF2.out.res;have r0:=hr.at 0 (v:=.int .u64 0) rfl;have r1:=hr.at 1 (v:=.int .i64 0) rfl;have g0:=hr.frozen 0;have g1:=hr.frozen 1;go_wp2_with fail;obtain ⟨z1,z2,z3⟩:=HF2.out.out (.int .u64 (0)) (.int .i64 (9));have q0:=z3.at 0 (v:=.int .u64 (0)) rfl;have q1:=z3.at 1 (v:=.int .i64 (9)) rfl;refine bodyPost_ret (v:=.tuple #[.agg #[.int .u64 (0),.int .i64 (9)],.bool true]) (by simp [results,Tryz.results27,go_sem,q0,q1]) rfl ?_;exact ⟨0,9,true,_,_,rfl,z1,z2,rfl,by omega,.inr ⟨rfl,u,HU.out.1,.busy HU.out.1 HU.out.2.1 HU.out.2.2 HACE.out HBLE.out⟩⟩
  | false=>
   obtain ⟨⟨k,a,b,c⟩,hc⟩:∃ c,u.c=c:=⟨_,rfl⟩;obtain ⟨vm,hvm⟩:∃ vm,u.vm=vm:=⟨_,rfl⟩;have hcl:=HF2.out.cell HU.out.1;rw [hc,hvm] at hcl;dsimp only at hcl;have c3:=hcl.at 3 (v:=.int .i64 vm) rfl;have c4:=hcl.at 4 (v:=.int .i64 k) rfl;have c5:=hcl.at 5 (v:=.int .u64 a) rfl;have c6:=hcl.at 6 (v:=.int .u64 b) rfl;have c7:=hcl.at 7 (v:=.int .u64 c) rfl;have HC:=hid (And.intro hc hvm);clear hc hvm hcl;obtain ⟨sw,hsw⟩:∃ sw,(decide (vm=0) && (decide (k=17) && (decide (a=0) && (decide (b=0) && decide (c=0)))))=sw:=⟨_,rfl⟩;have HSW:=hid hsw;clear hsw;go_upto_region 6 with fail;go_cut [21] (fun v wc=>v=.bool sw∧w2=wc)
   case first=>
    by_cases hv0:vm=0
    ·subst hv0;go_wp2_with fail
     all_goals
      go_meet;refine ⟨?_,rfl⟩;rw [← HSW.out];simp [*]
    ·have dv:(vm == 0)=false:=by simpa using hv0
     go_wp2_with fail;go_meet;refine ⟨?_,rfl⟩;rw [← HSW.out];simp [hv0]
   case rest=>
    obtain ⟨rfl,rfl⟩:=hcut;clear c3 c4 c5 c6 c7;cases sw with
    | true=>
     have HFR:=hid (mfree_any HF2.out.m (by have:=HX.out.ti; have:=HM.out.1; omega) HM.out.2);rw [HF2.out.k.b] at HFR;go_wp2_with fail;refine HFR.out.mono ?_;rintro e w3 ⟨xs,mv,rfl,hl,hy,h3,k3⟩;have HF3:=hid (HF2.out.to h3 k3 rfl);have HY:=hid (And.intro hl hy);have ew:IntKind.u64.wrap (xs.length:Nat)=(xs.length:Nat):=by rw [IntKind.wrap_u64]; omega
     clear h3 k3 hl hy;have hr:=HF3.out.res;have r0:=hr.at 0 (v:=.int .u64 0) rfl;have r1:=hr.at 1 (v:=.int .i64 0) rfl;have g0:=hr.frozen 0;have g1:=hr.frozen 1;go_wp2_with fail;obtain ⟨z1,z2,z3⟩:=HF3.out.out (.int .u64 ((xs.length:Nat))) (.int .i64 (0));have q0:=z3.at 0 (v:=.int .u64 ((xs.length:Nat))) rfl;have q1:=z3.at 1 (v:=.int .i64 (0)) rfl;refine bodyPost_ret (v:=.tuple #[.agg #[.int .u64 ((xs.length:Nat)),.int .i64 (0)],.bool true]) (by simp [results,Tryz.results27,go_sem,q0,q1]) rfl ?_;refine ⟨(xs.length:Nat),0,true,_,_,rfl,z1,z2,rfl,?_,.inr ⟨rfl,u,HU.out.1,?_⟩⟩
     ·have:=HY.out.1;simp only [goFree,List.length_append,List.length_map];omega
     ·have h:=HSW.out;simp only [Bool.and_eq_true,decide_eq_true_eq] at h;exact MStep.sweep (t:=t) HU.out.1 HU.out.2.1 HU.out.2.2 HACE.out ⟨by rw [HC.out.2]; exact h.1,by rw [HC.out.1]; exact h.2.1⟩ HY.out.2
    | false=>
     obtain ⟨hacc,hsw⟩:(k=6∨k=7→liveN x.S vm=true→rightC ⟨k,a,b,c⟩=true→1048576≤a)∧¬ (vm=0∧k=17∧rightC ⟨k,a,b,c⟩=true):=by
      refine ⟨fun h1 h2 h3=>?_,fun ⟨h1,h2,h3⟩=>?_⟩
      ·have h:=HACE.out;unfold accN Cpu.want at h;rw [HC.out.1,HC.out.2] at h;dsimp only at h;rw [h2,h3] at h;rcases h1 with rfl | rfl
       ·simpa using h
       ·simpa using h
      ·have h:=HSW.out;subst h2;unfold rightC at h3;simp only [Bool.and_eq_true,decide_eq_true_eq] at h3;obtain ⟨_,r1,r2,r3⟩:=h3;have e0:argsN 17=0:=by decide
       rw [e0] at r1 r2 r3;rw [h1,r1 (by decide),r2 (by decide),r3 (by decide)] at h;revert h;decide
     have hfit:(⟨k,a,b,c⟩:C).fits:=by rw [← HC.out.1]; exact HX.out.ca i u HU.out.1
     have HFA:=hid (show ∀ wx,Only [] w2 wx→wx.cell? ⟨p.b,0,none⟩=some (ptr p.a.hb)∧wx.cell? ⟨(p.q i).cb,3,none⟩=some (.int .i64 vm)∧wx.cell? ⟨(p.q i).cb,4,none⟩=some (.int .i64 k)∧wx.cell? ⟨(p.q i).cb,5,none⟩=some (.int .u64 a)∧wx.cell? ⟨(p.q i).cb,6,none⟩=some (.int .u64 b)∧wx.cell? ⟨(p.q i).cb,7,none⟩=some (.int .u64 c) from fun wx hx=>by
      have hcl:=(HF2.out.quiet hx).cell HU.out.1;rw [HC.out.1,HC.out.2] at hcl;exact ⟨(HF2.out.quiet hx).cells.at 0 rfl,hcl.at 3 rfl,hcl.at 4 rfl,hcl.at 5 rfl,hcl.at 6 rfl,hcl.at 7 rfl⟩)
     have HDO:=hid (fun wx (hx:Only [] w2 wx)=>hDo_any (HF2.out.quiet hx).m.hv HX.out.hi HM.out.1 vm ⟨k,a,b,c⟩ hfit hacc hsw);rw [c_out] at HDO;clear hacc hsw hfit;go_wp2_with fail;have HQD:=hid ((Only.refl [] w2).drew);have HF3:=hid (HF2.out.quiet HQD.out);have HDO3:=hid (HDO.out _ HQD.out);have HFAD:=hid (HFA.out _ (Only.refl _ _));refine pBegin rfl ?_;obtain ⟨S,hS⟩:∃ S:World→Prop,S=fun w'=>w'.cell? ⟨p.b,0,none⟩=some (ptr p.a.hb)∧w'.cell? ⟨(p.q i).cb,3,none⟩=some (.int .i64 vm)∧w'.cell? ⟨(p.q i).cb,4,none⟩=some (.int .i64 k)∧w'.cell? ⟨(p.q i).cb,5,none⟩=some (.int .u64 a)∧w'.cell? ⟨(p.q i).cb,6,none⟩=some (.int .u64 b)∧w'.cell? ⟨(p.q i).cb,7,none⟩=some (.int .u64 c):=⟨_,rfl⟩;have HS:=hid hS;clear hS;refine pPhaseH S 99 (by rw [HS.out]; exact HFAD.out) fun HSW2=>?_;clear HDO HFA HF2 HFAD;refine pPure (i:=0) rfl (by kernel_rfl) rfl HSW2.out ?_;apply Exists.intro;refine ⟨fun w'=>?_,?_⟩
     ·go_simp;with_reducible rfl
     go_simp;refine pPure (i:=1) rfl (by kernel_rfl) rfl HSW2.out ?_;apply Exists.intro;refine ⟨fun w'=>?_,?_⟩
     ·go_simp;with_reducible rfl
     go_simp;refine pPure (i:=2) rfl (by kernel_rfl) rfl HSW2.out ?_;apply Exists.intro;refine ⟨fun w'=>?_,?_⟩
     ·go_simp;with_reducible rfl
     go_simp;refine pPure (i:=3) rfl (by kernel_rfl) rfl HSW2.out ?_;apply Exists.intro;refine ⟨fun w'=>?_,?_⟩
     ·go_simp;with_reducible rfl
     go_simp;refine pTake (i:=4) rfl (by kernel_rfl) rfl HSW2.out ?_;apply Exists.intro;refine ⟨fun w' hw'=>?_,?_⟩
     ·rw [HS.out] at hw';obtain ⟨p0,p1,p2,p3,p4,p5⟩:=hw';go_simp;with_reducible rfl
     go_simp;refine pPure (i:=5) rfl (by kernel_rfl) rfl HSW2.out ?_;apply Exists.intro;refine ⟨fun w'=>?_,?_⟩
     ·go_simp;with_reducible rfl
     go_simp;refine pPure (i:=6) rfl (by kernel_rfl) rfl HSW2.out ?_;apply Exists.intro;refine ⟨fun w'=>?_,?_⟩
     ·go_simp;with_reducible rfl
     go_simp;refine pPure (i:=7) rfl (by kernel_rfl) rfl HSW2.out ?_;apply Exists.intro;refine ⟨fun w'=>?_,?_⟩
     ·go_simp;with_reducible rfl
     go_simp;refine pTake (i:=8) rfl (by kernel_rfl) rfl HSW2.out ?_;apply Exists.intro;refine ⟨fun w' hw'=>?_,?_⟩
     ·rw [HS.out] at hw';obtain ⟨p0,p1,p2,p3,p4,p5⟩:=hw';go_simp;with_reducible rfl
     go_simp;refine pPure (i:=9) rfl (by kernel_rfl) rfl HSW2.out ?_;apply Exists.intro;refine ⟨fun w'=>?_,?_⟩
     ·go_simp;with_reducible rfl
     go_simp;refine pPure (i:=10) rfl (by kernel_rfl) rfl HSW2.out ?_;apply Exists.intro;refine ⟨fun w'=>?_,?_⟩
     ·go_simp;with_reducible rfl
     go_simp;refine pPure (i:=11) rfl (by kernel_rfl) rfl HSW2.out ?_;apply Exists.intro;refine ⟨fun w'=>?_,?_⟩
     ·go_simp;with_reducible rfl
     go_simp;refine pTake (i:=12) rfl (by kernel_rfl) rfl HSW2.out ?_;apply Exists.intro;refine ⟨fun w' hw'=>?_,?_⟩
     ·rw [HS.out] at hw';obtain ⟨p0,p1,p2,p3,p4,p5⟩:=hw';go_simp;with_reducible rfl
     go_simp;refine pStep (i:=13) rfl (by kernel_rfl) (by kernel_rfl) rfl fun K hK=>?_;go_simp;go_at_call 39;refine HDO3.out.mono ?_;rintro e w4 ⟨a',S',v,er,rfl,ho,hh,hd,hhb,hff⟩;obtain ⟨h4,k4⟩:=HF3.out.m.hvTo ho (fun y hy=>hy) hh hhb hff;have HF4:=hid (HF3.out.to h4 k4 rfl);have HD:=hid hd;have hcl:=HF4.out.cell HU.out.1;have hcm:=HF4.out.cells;have HCL:=hid hcl;have c10:=hcl.at 10 (v:=.int .u64 u.rv) rfl;have c11:=hcl.at 11 (v:=.int .i64 u.re) rfl;have f10:=hcl.frozen 10;have f11:=hcl.frozen 11;have hne:p.b≠(p.q i).cb:=hcm.ne hcl (by decide);have HSW4:=hid (show S w4 by
      have h:=hcl;rw [HC.out.1,HC.out.2] at h;rw [HS.out];exact ⟨hcm.at 0 rfl,h.at 3 rfl,h.at 4 rfl,h.at 5 rfl,h.at 6 rfl,h.at 7 rfl⟩)
     refine hK _ _ HSW4.out ?_;clear hK K h4 k4 ho hh hd hhb hff HDO3 HF3 hcl hcm HSW2;refine pPure (i:=14) rfl (by kernel_rfl) rfl HSW4.out ?_;apply Exists.intro;refine ⟨fun w'=>?_,?_⟩
     ·go_simp;with_reducible rfl
     go_simp;refine pPure (i:=15) rfl (by kernel_rfl) rfl HSW4.out ?_;apply Exists.intro;refine ⟨fun w'=>?_,?_⟩
     ·go_simp;with_reducible rfl
     go_simp;refine pStep (i:=16) rfl (by kernel_rfl) (by kernel_rfl) rfl fun K hK=>?_;go_simp;have HSW5:=hid (show S ((w4.setCell ⟨(p.q i).cb,10,none⟩ (.int .u64 v)).setCell ⟨(p.q i).cb,11,none⟩ (.int .i64 er)) by
      have hne2:=hne.symm;have h:=HSW4.out;rw [HS.out] at h ⊢;obtain ⟨q0,q3,q4,q5,q6,q7⟩:=h;exact ⟨by go_simp,by go_simp,by go_simp,by go_simp,by go_simp,by go_simp⟩)
     refine hK _ _ HSW5.out ?_;clear hK K;refine pEnd (by kernel_rfl) ?_;clear HSW5 HSW4 HS S hne;go_upto_region 9 with fail;obtain ⟨W5,hW5⟩:∃ W5,(w4.setCell ⟨(p.q i).cb,10,none⟩ (.int .u64 v)).setCell ⟨(p.q i).cb,11,none⟩ (.int .i64 er)=W5:=⟨_,rfl⟩;have hF5:PhF w p sz x.cp.length w.heap.size W5 { p with a:=a' } { x with S:=S',cp:=x.cp.set i { u with rv:=v,re:=er } }:=by
      have o:Only [(p.q i).cb] w4 W5:=by
       rw [← hW5];exact ((Only.refl [(p.q i).cb] w4).setCell (p:=⟨(p.q i).cb,10,none⟩) (.inl (.head _)) _).setCell (p:=⟨(p.q i).cb,11,none⟩) (.inl (.head _)) _
      have hb:=(HCL.out.set 10 (.int .u64 v)).set 11 (.int .i64 er);rw [hW5] at hb;obtain ⟨h5,k5⟩:=HF4.out.m.cpuTo (u':={ u with rv:=v,re:=er }) HU.out.1 o rfl rfl rfl id (HF4.out.m.cpu i _ HU.out.1).vr (by simpa using hb);exact HF4.out.to h5 k5 (by simp)
     rw [hW5];have HF5:=hid hF5;have hu5:(x.cp.set i { u with rv:=v,re:=er })[i]?=some { u with rv:=v,re:=er }:=by rw [List.getElem?_set_self hi]
     have HU5:=hid hu5;have HFB:=hid (show ∀ wx,Only [] W5 wx→wx.cell? ⟨(p.q i).cb,3,none⟩=some (.int .i64 vm)∧wx.cell? ⟨(p.q i).cb,4,none⟩=some (.int .i64 k)∧wx.cell? ⟨(p.q i).cb,5,none⟩=some (.int .u64 a)∧wx.cell? ⟨(p.q i).cb,6,none⟩=some (.int .u64 b)∧wx.cell? ⟨(p.q i).cb,7,none⟩=some (.int .u64 c)∧wx.cell? ⟨(p.q i).cb,10,none⟩=some (.int .u64 v)∧wx.cell? ⟨(p.q i).cb,11,none⟩=some (.int .i64 er) from fun wx hx=>by
      have hcl:=(HF5.out.quiet hx).cell HU5.out;rw [HC.out.1,HC.out.2] at hcl;exact ⟨hcl.at 3 rfl,hcl.at 4 rfl,hcl.at 5 rfl,hcl.at 6 rfl,hcl.at 7 rfl,hcl.at 10 rfl,hcl.at 11 rfl⟩)
     clear hW5 hF5 hu5 c10 c11 f10 f11 HCL HF4;refine wp_region_quiet_tail 14 (by kernel_rfl) (by kernel_rfl) (fun w'=>Only [] W5 w') ((Only.refl _ _).drew) ?_;simp only [List.take_succ_cons,List.take_zero,List.drop_succ_cons,List.drop_zero]
     repeat
      (refine qstep rfl ?_
       apply Exists.intro;refine ⟨fun w' hw'=>?_,?_⟩
       ·obtain ⟨p0,p1,p2,p3,p4,p5,p6⟩:=HFB.out w' hw';go_simp
        first
         | with_reducible rfl
         | exact quiet_val
       go_simp)
     refine wpQuiet_nil ?_;intro wf hwf;have HF6:=hid (HF5.out.quiet hwf);have HMK:=hid (mmark_any HF6.out.m ⟨1,vm,0,⟨k,a,b,c⟩,v,er⟩ (by have:=HM.out.2; show x.mks.length < 100000000; omega));rw [mk_out] at HMK;clear hwf HFB HF5;go_wp2_with fail;refine HMK.out.mono ?_;rintro e w7 ⟨rfl,mv,h7,k7⟩;have HF7:=hid (HF6.out.to h7 k7 (by simp));clear h7 k7 HF6 HMK;have HRT:=hid (mretired_any HF7.out.m (by have h:=HD.out.inv.ps1; exact h));go_wp2_with fail;refine HRT.out.mono ?_;rintro e w8 ⟨fv,rfl,hrow,hown,h8,k8⟩;obtain ⟨A8,cap8,rfl⟩:=hrow.form;have HF8:=hid (HF7.out.to h8 k8 (by simp));have HRW:=hid hrow;have HOW:=hid (show ∀ g,(Value.slice A8 (newR S'.ps x.kn).length cap8).ownBlock=some g→Off { p with a:=a',mv:=mv } x.cp.length g∧w.heap.size≤g∧g≠w.heap.size from fun g hg=>by
      have h1:=HF7.out.m.off (hown g hg);have h2:(x.cp.set i { u with rv:=v,re:=er }).length=x.cp.length:=by simp
      have h1:Off { p with a:=a',mv:=mv } (x.cp.set i { u with rv:=v,re:=er }).length g:=h1;rw [h2] at h1;have h3:=hown g hg;have h4:=HF7.out.res.lt;exact ⟨h1,by omega,by omega⟩)
     have hcl:=HF8.out.cell HU5.out;have c13:=hcl.at 13 (v:=(p.q i).fv) rfl;have f13:=hcl.frozen 13;clear hrow hown h8 k8 hcl HRT HF7;go_upto_region 11 with fail;obtain ⟨W9,hW9⟩:∃ W9,w8.setCell ⟨(p.q i).cb,13,none⟩ (.slice A8 (newR S'.ps x.kn).length cap8)=W9:=⟨_,rfl⟩;obtain ⟨u2,hu2⟩:∃ u2:Cpu,u2={ u with rv:=v,re:=er,fs:=newR S'.ps x.kn }:=⟨_,rfl⟩;have hF9:=HF8.out.gets (u':=u2) HU5.out (fv:=.slice A8 (newR S'.ps x.kn).length cap8) (W':=W9) (by rw [← hW9]; exact (Only.refl [(p.q i).cb] w8).setCell (p:=⟨(p.q i).cb,13,none⟩) (.inl (.head _)) _) hW9.symm (by rw [hu2]; exact HRW.out) HOW.out (by have:=HU.out.2.1; show u.ph≠2; omega) (by rw [hu2]);rw [hW9];obtain ⟨P9,hP9⟩:∃ P9,MuP.setQ { p with a:=a',mv:=mv } i { p.q i with fv:=.slice A8 (newR S'.ps x.kn).length cap8 }=P9:=⟨_,rfl⟩;have hF9:PhF w p sz x.cp.length w.heap.size W9 P9 { S:=S',ep:=x.ep,bx:=x.bx,cp:=(x.cp.set i { u with rv:=v,re:=er }).set i u2,kn:=knOr x.kn (newR S'.ps x.kn),mks:=x.mks ++ [⟨1,vm,0,⟨k,a,b,c⟩,v,er⟩] }:=by rw [← hP9]; exact hF9
     rw [List.set_set] at hF9;obtain ⟨X9,hX9⟩:∃ X9:X,X9={ S:=S',ep:=x.ep,bx:=x.bx,cp:=x.cp.set i u2,kn:=knOr x.kn (newR S'.ps x.kn),mks:=x.mks ++ [⟨1,vm,0,⟨k,a,b,c⟩,v,er⟩] }:=⟨_,rfl⟩;rw [← hX9] at hF9;have hu9:X9.cp[i]?=some u2:=by
      rw [hX9];show (x.cp.set i u2)[i]?=some u2;rw [List.getElem?_set_self hi]
     have HF9:=hid hF9;have HU9:=hid hu9;have HX9:=hid hX9;have HU2:=hid (And.intro hu2 (And.intro (show u2.vm=vm by rw [hu2]; exact HC.out.2) (And.intro (show u2.c=⟨k,a,b,c⟩ by rw [hu2]; exact HC.out.1) (And.intro (show u2.rv=v by rw [hu2]) (show u2.re=er by rw [hu2])))));have hcl:=HF9.out.cell hu9;rw [HU2.out.2.1,HU2.out.2.2.1,HU2.out.2.2.2.1,HU2.out.2.2.2.2] at hcl;have c3:=hcl.at 3 (v:=.int .i64 vm) rfl;have c4:=hcl.at 4 (v:=.int .i64 k) rfl;have c5:=hcl.at 5 (v:=.int .u64 a) rfl;have c10:=hcl.at 10 (v:=.int .u64 v) rfl;have c11:=hcl.at 11 (v:=.int .i64 er) rfl;obtain ⟨A,hA⟩:∃ A,IntKind.i64.wrap a=A:=⟨_,rfl⟩;clear hW9 hP9 hF9 hX9 hu9 hu2 hcl c13 f13 HRW HOW HF8 HU5;refine pBegin rfl ?_;obtain ⟨S,hS⟩:∃ S:World→Prop,S=fun w'=>w'.cell? ⟨(p.q i).cb,3,none⟩=some (.int .i64 vm)∧w'.cell? ⟨(p.q i).cb,5,none⟩=some (.int .u64 a):=⟨_,rfl⟩;have HS:=hid hS;clear hS;refine pPhaseH S 99 (by rw [HS.out]; exact ⟨c3,c5⟩) fun HSW2=>?_;refine pPure (i:=0) rfl (by kernel_rfl) rfl HSW2.out ?_;apply Exists.intro;refine ⟨fun w'=>?_,?_⟩
     ·go_simp;with_reducible rfl
     go_simp;refine pPure (i:=1) rfl (by kernel_rfl) rfl HSW2.out ?_;apply Exists.intro;refine ⟨fun w'=>?_,?_⟩
     ·go_simp;with_reducible rfl
     go_simp;refine pPure (i:=2) rfl (by kernel_rfl) rfl HSW2.out ?_;apply Exists.intro;refine ⟨fun w'=>?_,?_⟩
     ·go_simp;with_reducible rfl
     go_simp;refine pTake (i:=3) rfl (by kernel_rfl) rfl HSW2.out ?_;apply Exists.intro;refine ⟨fun w' hw'=>?_,?_⟩
     ·rw [HS.out] at hw';obtain ⟨p0,p1⟩:=hw';go_simp;with_reducible rfl
     go_simp;refine pPure (i:=4) rfl (by kernel_rfl) rfl HSW2.out ?_;apply Exists.intro;refine ⟨fun w'=>?_,?_⟩
     ·go_simp;with_reducible rfl
     go_simp;refine pPure (i:=5) rfl (by kernel_rfl) rfl HSW2.out ?_;apply Exists.intro;refine ⟨fun w'=>?_,?_⟩
     ·go_simp;with_reducible rfl
     go_simp;refine pPure (i:=6) rfl (by kernel_rfl) rfl HSW2.out ?_;apply Exists.intro;refine ⟨fun w'=>?_,?_⟩
     ·go_simp;with_reducible rfl
     go_simp;refine pPure (i:=7) rfl (by kernel_rfl) rfl HSW2.out ?_;apply Exists.intro;refine ⟨fun w'=>?_,?_⟩
     ·go_simp;with_reducible rfl
     go_simp;refine pTake (i:=8) rfl (by kernel_rfl) rfl HSW2.out ?_;apply Exists.intro;refine ⟨fun w' hw'=>?_,?_⟩
     ·rw [HS.out] at hw';obtain ⟨p0,p1⟩:=hw';go_simp;with_reducible rfl
     go_simp;refine pPure (i:=9) rfl (by kernel_rfl) rfl HSW2.out ?_;apply Exists.intro;refine ⟨fun w'=>?_,?_⟩
     ·go_simp;with_reducible rfl
     go_simp;refine pPure (i:=10) rfl (by kernel_rfl) rfl HSW2.out ?_;apply Exists.intro;refine ⟨fun w'=>?_,?_⟩
     ·go_simp;with_reducible rfl
     go_simp;refine pPure (i:=11) rfl (by kernel_rfl) rfl HSW2.out ?_;apply Exists.intro;refine ⟨fun w'=>?_,?_⟩
     ·go_simp;with_reducible rfl
     go_simp;refine pEnd (by kernel_rfl) ?_;clear HSW2 HS S;have hFD:=HF9.out.quiet ((Only.refl [] W9).drew);obtain ⟨WD,hWD⟩:∃ WD,W9.drew=WD:=⟨_,rfl⟩;rw [hWD] at hFD;have HFD:=hid hFD;clear HF9 c3 c4 c5 c10 c11 hFD;go_upto_region 12 with fail;rw [hWD];clear hWD;have HCE:=hid (show ∀ wx,Only [] WD wx→wx.cell? ⟨(p.q i).cb,4,none⟩=some (.int .i64 k)∧wx.cell? ⟨(p.q i).cb,5,none⟩=some (.int .u64 a)∧wx.cell? ⟨(p.q i).cb,10,none⟩=some (.int .u64 v)∧wx.cell? ⟨(p.q i).cb,11,none⟩=some (.int .i64 er) from fun wx hx=>by
      have hcl:=(HFD.out.quiet hx).cell HU9.out;rw [HU2.out.2.1,HU2.out.2.2.1,HU2.out.2.2.2.1,HU2.out.2.2.2.2] at hcl;exact ⟨hcl.at 4 rfl,hcl.at 5 rfl,hcl.at 10 rfl,hcl.at 11 rfl⟩)
     have HCALL:=hid (show (posts k=false∨er≠0)→MStep t i x { X9 with cp:=X9.cp.set i (Cpu.rest u2.ls) } v er true from fun hn=>by
      have hd:=HD.out;rw [← HC.out.1,← HC.out.2] at hd;have hs:=MStep.call (t:=t) HU.out.1 HU.out.2.1 HU.out.2.2 HACE.out HBLE.out hd (by rw [HC.out.1]; exact hn);rw [HX9.out,HU2.out.1];dsimp only;rw [List.set_set];rw [HC.out.1,HC.out.2] at hs;exact hs)
     have HLM:=hid (show X9.cp.length=x.cp.length∧X9.mks.length≤x.mks.length+5000 from ⟨by rw [HX9.out]; simp,by rw [HX9.out]; simp⟩);obtain ⟨c4,c5,c10,c11⟩:=HCE.out WD (Only.refl _ _)
     go_upto_block 1 with fail
     go_cut [6,7] (fun tv gv wc=>∃ tag pg:Int,tv=.int .i64 tag∧gv=.int .i64 pg∧WD=wc∧posts k=true∧((k=2∧tag=A∧pg=-1)∨(k≠2∧tag=vm∧pg=A)))
     case first=>
      by_cases k2:k=2
      ·have d2:(k == 2)=true:=by simpa using k2
       have K2:=hid k2;clear k2;go_wp2_with fail;go_meet;exact ⟨A,-1,rfl,rfl,rfl,by rw [K2.out]; rfl,.inl ⟨K2.out,rfl,rfl⟩⟩
      have d2:(k == 2)=false:=by simpa using k2
      have K2:=hid k2;clear k2;by_cases k4:k=4
      ·have d4:(k == 4)=true:=by simpa using k4
       have K4:=hid k4;clear k4;go_wp2_with fail;go_meet;exact ⟨vm,A,rfl,rfl,rfl,by rw [K4.out]; rfl,.inr ⟨K2.out,rfl,rfl⟩⟩
      have d4:(k == 4)=false:=by simpa using k4
      by_cases k5:k=5
      ·have d5:(k == 5)=true:=by simpa using k5
       have K5:=hid k5;clear k5;go_wp2_with fail;go_meet;exact ⟨vm,A,rfl,rfl,rfl,by rw [K5.out]; rfl,.inr ⟨K2.out,rfl,rfl⟩⟩
      have d5:(k == 5)=false:=by simpa using k5
      by_cases k10:k=10
      ·have d10:(k == 10)=true:=by simpa using k10
       have K10:=hid k10;clear k10;go_wp2_with fail;go_meet;exact ⟨vm,A,rfl,rfl,rfl,by rw [K10.out]; rfl,.inr ⟨K2.out,rfl,rfl⟩⟩
      have d10:(k == 10)=false:=by simpa using k10
      have HPO:=hid (show posts k=false by unfold posts; rw [d2,d4,d5,d10]; rfl);have hr:=HFD.out.res;have r0:=hr.at 0 (v:=.int .u64 0) rfl;have r1:=hr.at 1 (v:=.int .i64 0) rfl;have g0:=hr.frozen 0;have g1:=hr.frozen 1;go_wp2_with fail;obtain ⟨z1,z2,z3⟩:=HFD.out.out (.int .u64 (v)) (.int .i64 (er));have q0:=z3.at 0 (v:=.int .u64 (v)) rfl;have q1:=z3.at 1 (v:=.int .i64 (er)) rfl;refine bodyPost_ret (v:=.tuple #[.agg #[.int .u64 (v),.int .i64 (er)],.bool true]) (by simp [results,Tryz.results27,go_sem,q0,q1]) rfl ?_;exact ⟨v,er,true,_,_,rfl,z1,z2,HLM.out.1,HLM.out.2,.inr ⟨rfl,u2,HU9.out,HCALL.out (.inl HPO.out)⟩⟩
     case rest=>
      obtain ⟨tag,pg,rfl,rfl,rfl,hpo,htp⟩:=hcut;by_cases h0:er=0
      case neg=>
       have dE:(er != 0)=true:=by simpa using h0
       clear c4 c5;have hr:=HFD.out.res;have r0:=hr.at 0 (v:=.int .u64 0) rfl;have r1:=hr.at 1 (v:=.int .i64 0) rfl;have g0:=hr.frozen 0;have g1:=hr.frozen 1;go_wp2_with fail;obtain ⟨z1,z2,z3⟩:=HFD.out.out (.int .u64 (v)) (.int .i64 (er));have q0:=z3.at 0 (v:=.int .u64 (v)) rfl;have q1:=z3.at 1 (v:=.int .i64 (er)) rfl;refine bodyPost_ret (v:=.tuple #[.agg #[.int .u64 (v),.int .i64 (er)],.bool true]) (by simp [results,Tryz.results27,go_sem,q0,q1]) rfl ?_;exact ⟨v,er,true,_,_,rfl,z1,z2,HLM.out.1,HLM.out.2,.inr ⟨rfl,u2,HU9.out,HCALL.out (.inr h0)⟩⟩
      case pos=>
       subst h0;obtain ⟨ht1,ht2,hp1,hp2,htp2⟩:1≤tag∧tag≤16∧-1≤pg∧pg < 65536∧((k=2∧tag=a∧pg=-1)∨(k≠2∧tag=vm∧pg=a)):=by
        rw [IntKind.wrap_i64] at hA;rcases htp with ⟨h1,h2,h3⟩ | ⟨h1,h2,h3⟩
        ·obtain ⟨_,d1,d2⟩:=HD.out.dst rfl h1;have d1:1≤a:=d1;have d2:a≤16:=d2;have e:A=a:=by omega
         exact ⟨by omega,by omega,by omega,by omega,.inl ⟨h1,by omega,h3⟩⟩
        ·have hk:k=4∨k=5∨k=10:=by
          unfold posts at hpo;simp at hpo;omega
         obtain ⟨d1,d2,d3,d4⟩:=HD.out.pag rfl hk;have d3:0≤a:=d3;have d4:a < 65536:=d4;have e:A=a:=by omega
         exact ⟨by omega,by omega,by omega,by omega,.inr ⟨h1,h2,by omega⟩⟩
       have HTP:=hid (And.intro ht1 (And.intro ht2 (And.intro hp1 (And.intro hp2 (And.intro htp2 hpo)))));have HFG:=hid (cforget_any (HFD.out.m.cpu i _ HU9.out) tag pg);rw [HFD.out.k.cb i] at HFG;clear c4 c5 c10 hA hpo htp ht1 ht2 hp1 hp2 htp2 hF9 HCALL;go_wp2_with fail;refine HFG.out.mono ?_;rintro e w12 ⟨rfl,hto⟩;have hi9:i < X9.cp.length:=by rw [HLM.out.1]; exact hi
       obtain ⟨q12,h12,k12,_⟩:=HFD.out.m.cpTo hi9 hto;obtain ⟨P12,hP12⟩:∃ P12,P9.setQ i q12=P12:=⟨_,rfl⟩;rw [hP12] at h12 k12;have hF12:=HFD.out.to h12 k12 (by simpa using HLM.out.1);obtain ⟨u3,hu3⟩:∃ u3:Cpu,u3={ u2 with ls:=fgt u2.ls tag pg }:=⟨_,rfl⟩;rw [← hu3] at hF12;have hu12:(X9.cp.set i u3)[i]?=some u3:=by rw [List.getElem?_set_self hi9]
       have HU12:=hid hu12;have HU3:=hid hu3;obtain ⟨WE,hWE⟩:∃ WE,w12.drew=WE:=⟨_,rfl⟩;have hFE:=hF12.quiet ((Only.refl [] w12).drew);rw [hWE] at hFE;have HFE:=hid hFE;have HWE:=hid hWE;have HSF:=hid (show ∀ wx (p1:MuP) (x1:X) (u1:Cpu),PhF w p sz x.cp.length w.heap.size wx p1 x1→x1.cp[i]?=some u1→wx.cell? ⟨p.b,2,none⟩=some (ptr p.xb)∧wx.cell? ⟨(p.q i).cb,0,none⟩=some (.int .i64 i) from fun wx p1 x1 u1 h1 h2=>⟨h1.cells.at 2 rfl,(h1.cell h2).at 0 rfl⟩);have hbl:P12.cs.length=x.cp.length:=by
        have h1:=hFE.m.bx.len;have h2:=HX.out.bl;rw [HX9.out] at h1;exact h1.trans h2
       have HPO:=hid (bpost_any hFE.m.bx i (by rw [hbl]; exact hi) tag pg HTP.out.1 HTP.out.2.1 HTP.out.2.2.1 HTP.out.2.2.2.1 (fun c' q hne hq=>by
        have hq:X9.bx.bs[c']?=some q:=hq;rw [HX9.out] at hq;have h1:=HX.out.room hq;have h2:=hFE.m.cn.2;have h3:=hFE.len;rw [h3] at h2;omega) (by
        have h1:X9.bx=x.bx:=by rw [HX9.out]
        show X9.bx.op.length < 1000000;rw [h1];have:=HX.out.ti;have:=HM.out.1;omega))
       rw [HFE.out.k.xb] at HPO;clear h12 k12 hP12 hF12 hu3 hu12 hFE hWE hto HFD HFG c11 hbl;have hz:=HSF.out WE _ _ _ HFE.out HU12.out;go_upto_region 22 with fail;refine pBegin rfl ?_;rw [HWE.out];obtain ⟨S,hS⟩:∃ S:World→Prop,S=fun w'=>w'.cell? ⟨p.b,2,none⟩=some (ptr p.xb)∧w'.cell? ⟨(p.q i).cb,0,none⟩=some (.int .i64 i):=⟨_,rfl⟩;have HS:=hid hS;clear hS;refine pPhaseH S 99 (by rw [HS.out]; exact hz) fun HSW2=>?_;refine pPure (i:=0) rfl (by kernel_rfl) rfl HSW2.out ?_;apply Exists.intro;refine ⟨fun w'=>?_,?_⟩
       ·go_simp;with_reducible rfl
       go_simp;refine pPure (i:=1) rfl (by kernel_rfl) rfl HSW2.out ?_;apply Exists.intro;refine ⟨fun w'=>?_,?_⟩
       ·go_simp;with_reducible rfl
       go_simp;refine pPure (i:=2) rfl (by kernel_rfl) rfl HSW2.out ?_;apply Exists.intro;refine ⟨fun w'=>?_,?_⟩
       ·go_simp;with_reducible rfl
       go_simp;refine pPure (i:=3) rfl (by kernel_rfl) rfl HSW2.out ?_;apply Exists.intro;refine ⟨fun w'=>?_,?_⟩
       ·go_simp;with_reducible rfl
       go_simp;refine pTake (i:=4) rfl (by kernel_rfl) rfl HSW2.out ?_;apply Exists.intro;refine ⟨fun w' hw'=>?_,?_⟩
       ·rw [HS.out] at hw';obtain ⟨p0,p1⟩:=hw';go_simp;with_reducible rfl
       go_simp;refine pPure (i:=5) rfl (by kernel_rfl) rfl HSW2.out ?_;apply Exists.intro;refine ⟨fun w'=>?_,?_⟩
       ·go_simp;with_reducible rfl
       go_simp;refine pPure (i:=6) rfl (by kernel_rfl) rfl HSW2.out ?_;apply Exists.intro;refine ⟨fun w'=>?_,?_⟩
       ·go_simp;with_reducible rfl
       go_simp;refine pPure (i:=7) rfl (by kernel_rfl) rfl HSW2.out ?_;apply Exists.intro;refine ⟨fun w'=>?_,?_⟩
       ·go_simp;with_reducible rfl
       go_simp;refine pTake (i:=8) rfl (by kernel_rfl) rfl HSW2.out ?_;apply Exists.intro;refine ⟨fun w' hw'=>?_,?_⟩
       ·rw [HS.out] at hw';obtain ⟨p0,p1⟩:=hw';go_simp;with_reducible rfl
       go_simp;refine pPure (i:=9) rfl (by kernel_rfl) rfl HSW2.out ?_;apply Exists.intro;refine ⟨fun w'=>?_,?_⟩
       ·go_simp;with_reducible rfl
       go_simp;refine pPure (i:=10) rfl (by kernel_rfl) rfl HSW2.out ?_;apply Exists.intro;refine ⟨fun w'=>?_,?_⟩
       ·go_simp;with_reducible rfl
       go_simp;refine pStep (i:=11) rfl (by kernel_rfl) (by kernel_rfl) rfl fun K hK=>?_;go_simp;go_at_call 42;refine HPO.out.mono ?_;rintro e w13 ⟨rfl,ho,ov,hbx,hov⟩;rw [← HFE.out.k.xb] at ho hbx;obtain ⟨h13,k13⟩:=HFE.out.m.bxTo ho (fun y hy=>by
        simp only [List.mem_cons,List.mem_append,List.cons_append] at hy ⊢;rcases hy with h | h | h
        ·exact .inl h
        ·exact .inr (.inl (.inr h))
        ·exact .inr (.inr h)) hbx hov
       have HF13:=hid (HFE.out.to h13 k13 (by simpa using HLM.out.1));have hz13:=HSF.out w13 _ _ _ HF13.out HU12.out;have HSW3:=hid (show S w13 by rw [HS.out]; exact hz13);refine hK _ _ HSW3.out ?_;clear hK K ho hbx hov h13 k13 hz HPO;refine pPure (i:=12) rfl (by kernel_rfl) rfl HSW3.out ?_;apply Exists.intro;refine ⟨fun w'=>?_,?_⟩
       ·go_simp;with_reducible rfl
       go_simp;refine pPure (i:=13) rfl (by kernel_rfl) rfl HSW3.out ?_;apply Exists.intro;refine ⟨fun w'=>?_,?_⟩
       ·go_simp;with_reducible rfl
       go_simp;refine pPure (i:=14) rfl (by kernel_rfl) rfl HSW3.out ?_;apply Exists.intro;refine ⟨fun w'=>?_,?_⟩
       ·go_simp;with_reducible rfl
       go_simp;refine pPure (i:=15) rfl (by kernel_rfl) rfl HSW3.out ?_;apply Exists.intro;refine ⟨fun w'=>?_,?_⟩
       ·go_simp;with_reducible rfl
       go_simp;refine pPure (i:=16) rfl (by kernel_rfl) rfl HSW3.out ?_;apply Exists.intro;refine ⟨fun w'=>?_,?_⟩
       ·go_simp;with_reducible rfl
       go_simp;have hcl:=HF13.out.cell HU12.out;have HCL:=hid hcl;have c12:=hcl.at 12 (v:=.int .i64 u3.ask) rfl;have f12:=hcl.frozen 12;obtain ⟨z2,z0⟩:=hz13;have hnb:p.b≠(p.q i).cb:=HF13.out.cells.ne hcl (by decide);have hnb2:=hnb.symm;have f2:=hcl.frozen 2;have c2:=hcl.at 2 (v:=.int .i64 u3.ph) rfl;obtain ⟨N,hN⟩:∃ N:Int,(X9.bx.op.length:Int)+1=N:=⟨_,rfl⟩;rw [hN];have HNE:=hid hN;clear hcl hN;refine pStep (i:=17) rfl (by kernel_rfl) (by kernel_rfl) rfl fun K hK=>?_;go_simp;have HSW4:=hid (show S (w13.setCell ⟨(p.q i).cb,12,none⟩ (.int .i64 N)) by rw [HS.out]; exact ⟨by go_simp,by go_simp⟩);refine hK _ _ HSW4.out ?_;clear hK K;refine pEnd (by kernel_rfl) ?_;go_upto_region 24 with fail;obtain ⟨W15,hW15⟩:∃ W15,(w13.setCell ⟨(p.q i).cb,12,none⟩ (.int .i64 N)).setCell ⟨(p.q i).cb,2,none⟩ (.int .i64 4)=W15:=⟨_,rfl⟩;rw [hW15];have hF15:PhF w p sz x.cp.length w.heap.size W15 { P12 with ov:=ov } { X9 with bx:=X9.bx.post i tag pg,cp:=X9.cp.set i { u3 with ask:=N,ph:=4 } }:=by
        have o:Only [(p.q i).cb] w13 W15:=by
         rw [← hW15];exact ((Only.refl [(p.q i).cb] w13).setCell (p:=⟨(p.q i).cb,12,none⟩) (.inl (.head _)) _).setCell (p:=⟨(p.q i).cb,2,none⟩) (.inl (.head _)) _
        have o2:=o;rw [← HF13.out.k.cb i] at o2;have hb:=(HCL.out.set 12 (.int .i64 N)).set 2 (.int .i64 4);rw [hW15,← HF13.out.k.cb i,← HF13.out.k.tb i] at hb;obtain ⟨h15,k15⟩:=HF13.out.m.cpuTo (u':={ u3 with ask:=N,ph:=4 }) HU12.out o2 rfl rfl rfl (fun h=>absurd h (show ¬ (4:Int)=2 by decide)) ⟨(HF13.out.m.cpu i _ HU12.out).vr.1,by show (0:Int)≤4; decide,by show (4:Int)≤4; decide⟩ (by simpa using hb);have:=HF13.out.to h15 k15 (by simpa using HLM.out.1);dsimp only at this;rw [List.set_set] at this;exact this
       have HF15:=hid hF15;clear hF15 hW15 HSW2 HSW3 HSW4 c12 f12 c2 f2 z2 z0 HF13 HCL hnb hnb2 HS S;have hr:=HF15.out.res;have r0:=hr.at 0 (v:=.int .u64 0) rfl;have r1:=hr.at 1 (v:=.int .i64 0) rfl;have g0:=hr.frozen 0;have g1:=hr.frozen 1;go_wp2_with fail;obtain ⟨z1,z2,z3⟩:=HF15.out.out (.int .u64 (0)) (.int .i64 (0));have q0:=z3.at 0 (v:=.int .u64 (0)) rfl;have q1:=z3.at 1 (v:=.int .i64 (0)) rfl;refine bodyPost_ret (v:=.tuple #[.agg #[.int .u64 (0),.int .i64 (0)],.bool false]) (by simp [results,Tryz.results27,go_sem,q0,q1]) rfl ?_;refine ⟨0,0,false,_,_,rfl,z1,z2,by simpa using HLM.out.1,HLM.out.2,.inl ⟨rfl,?_⟩⟩;have hd:=HD.out;rw [← HC.out.1,← HC.out.2] at hd;have hs:=MStep.post (t:=t) (tag:=tag) (page:=pg) HU.out.1 HU.out.2.1 HU.out.2.2 HACE.out HBLE.out hd (by rw [HC.out.1]; exact HTP.out.2.2.2.2.2) rfl (by rw [HC.out.1,HC.out.2]; exact HTP.out.2.2.2.2.1);rw [HU3.out,HX9.out,HU2.out.1,← HNE.out,HX9.out];dsimp only;rw [List.set_set];rw [HC.out.1,HC.out.2] at hs ⊢;exact hs
end
end Go.Proofs.YtadgpnoealegiaaGreat
