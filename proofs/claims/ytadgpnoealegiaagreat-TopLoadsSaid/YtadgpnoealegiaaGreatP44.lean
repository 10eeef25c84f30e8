import Derived.Test.YtadgpnoealegiaaGreatP43
namespace Go.Proofs.YtadgpnoealegiaaGreat
open Go.RowKit
open Go.Lib (hid)
set_option maxRecDepth 100000
set_option maxHeartbeats 20000000
section
attribute [local irreducible] wpQuiet
section
variable {w w':World} {p:MuP} {sz:Nat} {x:X}
theorem maccess_any (h:IsMu w p sz x) {i:Nat} {u:Cpu} (hu:x.cp[i]?=some u):Calls Tryz.prog 36 #[ptr p.b,ptr (p.q i).cb] w fun e w'=>e=.returned (.bool (accN x.S u))∧Only [] w w':=by
 have hacc:accN x.S u=(decide (0 < u.want) && liveN x.S u.vm && rightC u.c && decide (u.c.a < 1048576)):=rfl;obtain ⟨wv,hwv⟩:∃ wv,u.want=wv:=⟨_,rfl⟩;obtain ⟨lv,hlv⟩:∃ lv,liveN x.S u.vm=lv:=⟨_,rfl⟩;obtain ⟨rv,hrv⟩:∃ rv,rightC u.c=rv:=⟨_,rfl⟩;have HW:=hid (fun wx (hx:Only [] w wx)=>cwant_any ((h.quiet hx).cpu i u hu));have HL:=hid (fun wx (hx:Only [] w wx)=>hlive_any (h.quiet hx).hv u.vm);have HR:=hid (fun wx=>right_any' wx u.c);rw [hwv] at HW;rw [hlv] at HL;rw [hrv] at HR;rw [hacc,hwv,hlv,hrv];obtain ⟨⟨k,a,b,c⟩,hc⟩:∃ c,u.c=c:=⟨_,rfl⟩;obtain ⟨vm,hvm⟩:∃ vm,u.vm=vm:=⟨_,rfl⟩;rw [hc,c_out] at HR;rw [hvm] at HL;rw [hc];dsimp only;have HFA:=hid (show ∀ wx,Only [] w wx→wx.cell? ⟨p.b,0,none⟩=some (ptr p.a.hb)∧wx.cell? ⟨(p.q i).cb,3,none⟩=some (.int .i64 vm)∧wx.cell? ⟨(p.q i).cb,4,none⟩=some (.int .i64 k)∧wx.cell? ⟨(p.q i).cb,5,none⟩=some (.int .u64 a)∧wx.cell? ⟨(p.q i).cb,6,none⟩=some (.int .u64 b)∧wx.cell? ⟨(p.q i).cb,7,none⟩=some (.int .u64 c) from fun wx hx=>by
  have hm:=h.quiet hx;have hq:=(hm.cpu i u hu).obj;rw [hc,hvm] at hq;exact ⟨hm.obj.at 0 rfl,hq.at 3 rfl,hq.at 4 rfl,hq.at 5 rfl,hq.at 6 rfl,hq.at 7 rfl⟩)
 obtain ⟨d1,hd1⟩:∃ d1,decide (0 < wv)=d1:=⟨_,rfl⟩;obtain ⟨d2,hd2⟩:∃ d2,decide (a < 1048576)=d2:=⟨_,rfl⟩;rw [hd1,hd2];clear h hu hacc hwv hlv hrv hc hvm;cases d1
 ·skip;go_enter Tryz.func36,Tryz.ntmps36;go_upto_region 1 with fail;refine wp_region_quiet_tailG 29 (by kernel_rfl) (by kernel_rfl) (fun w'=>Only [] w w') ((Only.refl _ _).drew) ?_;simp only [List.take_succ_cons,List.take_zero,List.drop_succ_cons,List.drop_zero]
  repeat
   (first
    | (refine qskip (by rfl) ?_
       go_simp)
    | (refine qstepG (by rfl) ?_
       apply Exists.intro;refine ⟨fun w' hw'=>?_,?_⟩
       ·obtain ⟨p0,p1,p2,p3,p4,p5⟩:=HFA.out w' hw';go_simp
        first
         | with_reducible rfl
         | exact quiet_val
         | (first
          | exact (HW.out w' hw').mono fun e w'' ⟨he,ho⟩=>⟨he,hw'.trans ho⟩
          | exact (HL.out w' hw').mono fun e w'' ⟨he,hw⟩=>⟨he,hw ▸ hw'⟩
          | exact (HR.out w').mono fun e w'' ⟨he,ho⟩=>⟨he,hw'.trans ho⟩)
         | (apply quiet_call
            first
             | exact (HW.out w' hw').mono fun e w'' ⟨he,ho⟩=>⟨he,hw'.trans ho⟩
             | exact (HL.out w' hw').mono fun e w'' ⟨he,hw⟩=>⟨he,hw ▸ hw'⟩
             | exact (HR.out w').mono fun e w'' ⟨he,ho⟩=>⟨he,hw'.trans ho⟩)
       go_simp))
  refine wpQuiet_nil ?_;intro wf hwf;have HQ:=hid hwf;clear hwf;go_wp2_with fail;go_ret;exact ⟨rfl,HQ.out⟩
 cases lv
 ·skip;go_enter Tryz.func36,Tryz.ntmps36;go_upto_region 1 with fail;refine wp_region_quiet_tailG 29 (by kernel_rfl) (by kernel_rfl) (fun w'=>Only [] w w') ((Only.refl _ _).drew) ?_;simp only [List.take_succ_cons,List.take_zero,List.drop_succ_cons,List.drop_zero]
  repeat
   (first
    | (refine qskip (by rfl) ?_
       go_simp)
    | (refine qstepG (by rfl) ?_
       apply Exists.intro;refine ⟨fun w' hw'=>?_,?_⟩
       ·obtain ⟨p0,p1,p2,p3,p4,p5⟩:=HFA.out w' hw';go_simp
        first
         | with_reducible rfl
         | exact quiet_val
         | (first
          | exact (HW.out w' hw').mono fun e w'' ⟨he,ho⟩=>⟨he,hw'.trans ho⟩
          | exact (HL.out w' hw').mono fun e w'' ⟨he,hw⟩=>⟨he,hw ▸ hw'⟩
          | exact (HR.out w').mono fun e w'' ⟨he,ho⟩=>⟨he,hw'.trans ho⟩)
         | (apply quiet_call
            first
             | exact (HW.out w' hw').mono fun e w'' ⟨he,ho⟩=>⟨he,hw'.trans ho⟩
             | exact (HL.out w' hw').mono fun e w'' ⟨he,hw⟩=>⟨he,hw ▸ hw'⟩
             | exact (HR.out w').mono fun e w'' ⟨he,ho⟩=>⟨he,hw'.trans ho⟩)
       go_simp))
  refine wpQuiet_nil ?_;intro wf hwf;have HQ:=hid hwf;clear hwf;go_wp2_with fail;go_ret;exact ⟨rfl,HQ.out⟩
 cases rv
 ·skip;go_enter Tryz.func36,Tryz.ntmps36;go_upto_region 1 with fail;refine wp_region_quiet_tailG 29 (by kernel_rfl) (by kernel_rfl) (fun w'=>Only [] w w') ((Only.refl _ _).drew) ?_;simp only [List.take_succ_cons,List.take_zero,List.drop_succ_cons,List.drop_zero]
  repeat
   (first
    | (refine qskip (by rfl) ?_
       go_simp)
    | (refine qstepG (by rfl) ?_
       apply Exists.intro;refine ⟨fun w' hw'=>?_,?_⟩
       ·obtain ⟨p0,p1,p2,p3,p4,p5⟩:=HFA.out w' hw';go_simp
        first
         | with_reducible rfl
         | exact quiet_val
         | (first
          | exact (HW.out w' hw').mono fun e w'' ⟨he,ho⟩=>⟨he,hw'.trans ho⟩
          | exact (HL.out w' hw').mono fun e w'' ⟨he,hw⟩=>⟨he,hw ▸ hw'⟩
          | exact (HR.out w').mono fun e w'' ⟨he,ho⟩=>⟨he,hw'.trans ho⟩)
         | (apply quiet_call
            first
             | exact (HW.out w' hw').mono fun e w'' ⟨he,ho⟩=>⟨he,hw'.trans ho⟩
             | exact (HL.out w' hw').mono fun e w'' ⟨he,hw⟩=>⟨he,hw ▸ hw'⟩
             | exact (HR.out w').mono fun e w'' ⟨he,ho⟩=>⟨he,hw'.trans ho⟩)
       go_simp))
  refine wpQuiet_nil ?_;intro wf hwf;have HQ:=hid hwf;clear hwf;go_wp2_with fail;go_ret;exact ⟨rfl,HQ.out⟩
 cases d2
 ·skip;go_enter Tryz.func36,Tryz.ntmps36;go_upto_region 1 with fail;refine wp_region_quiet_tailG 29 (by kernel_rfl) (by kernel_rfl) (fun w'=>Only [] w w') ((Only.refl _ _).drew) ?_;simp only [List.take_succ_cons,List.take_zero,List.drop_succ_cons,List.drop_zero]
  repeat
   (first
    | (refine qskip (by rfl) ?_
       go_simp)
    | (refine qstepG (by rfl) ?_
       apply Exists.intro;refine ⟨fun w' hw'=>?_,?_⟩
       ·obtain ⟨p0,p1,p2,p3,p4,p5⟩:=HFA.out w' hw';go_simp
        first
         | with_reducible rfl
         | exact quiet_val
         | (first
          | exact (HW.out w' hw').mono fun e w'' ⟨he,ho⟩=>⟨he,hw'.trans ho⟩
          | exact (HL.out w' hw').mono fun e w'' ⟨he,hw⟩=>⟨he,hw ▸ hw'⟩
          | exact (HR.out w').mono fun e w'' ⟨he,ho⟩=>⟨he,hw'.trans ho⟩)
         | (apply quiet_call
            first
             | exact (HW.out w' hw').mono fun e w'' ⟨he,ho⟩=>⟨he,hw'.trans ho⟩
             | exact (HL.out w' hw').mono fun e w'' ⟨he,hw⟩=>⟨he,hw ▸ hw'⟩
             | exact (HR.out w').mono fun e w'' ⟨he,ho⟩=>⟨he,hw'.trans ho⟩)
       go_simp))
  refine wpQuiet_nil ?_;intro wf hwf;have HQ:=hid hwf;clear hwf;go_wp2_with fail;go_ret;exact ⟨rfl,HQ.out⟩
 ·skip;go_enter Tryz.func36,Tryz.ntmps36;go_upto_region 1 with fail;refine wp_region_quiet_tailG 29 (by kernel_rfl) (by kernel_rfl) (fun w'=>Only [] w w') ((Only.refl _ _).drew) ?_;simp only [List.take_succ_cons,List.take_zero,List.drop_succ_cons,List.drop_zero]
  repeat
   (first
    | (refine qskip (by rfl) ?_
       go_simp)
    | (refine qstepG (by rfl) ?_
       apply Exists.intro;refine ⟨fun w' hw'=>?_,?_⟩
       ·obtain ⟨p0,p1,p2,p3,p4,p5⟩:=HFA.out w' hw';go_simp
        first
         | with_reducible rfl
         | exact quiet_val
         | (first
          | exact (HW.out w' hw').mono fun e w'' ⟨he,ho⟩=>⟨he,hw'.trans ho⟩
          | exact (HL.out w' hw').mono fun e w'' ⟨he,hw⟩=>⟨he,hw ▸ hw'⟩
          | exact (HR.out w').mono fun e w'' ⟨he,ho⟩=>⟨he,hw'.trans ho⟩)
         | (apply quiet_call
            first
             | exact (HW.out w' hw').mono fun e w'' ⟨he,ho⟩=>⟨he,hw'.trans ho⟩
             | exact (HL.out w' hw').mono fun e w'' ⟨he,hw⟩=>⟨he,hw ▸ hw'⟩
             | exact (HR.out w').mono fun e w'' ⟨he,ho⟩=>⟨he,hw'.trans ho⟩)
       go_simp))
  refine wpQuiet_nil ?_;intro wf hwf;have HQ:=hid hwf;clear hwf;go_wp2_with fail;go_ret;exact ⟨rfl,HQ.out⟩
end
end
section
variable {w w':World} {p:MuP} {sz:Nat} {x:X}
def AskTo (x:X) (i vm:Int) (c:C) (x':X) (er:Int):Prop:=
 (∃ (j:Nat) (u:Cpu),i=j∧x.cp[j]?=some u∧u.ph=0∧er=0∧x'={ x with cp:=x.cp.set j { u with ph:=1,vm:=vm,c:=c } })∨(x'=x∧er≠0∧∀ (j:Nat) (u:Cpu),i=j→x.cp[j]?=some u→u.ph≠0)
theorem setQ_same (p:MuP) (i:Nat):p.setQ i (p.q i)=p:=by
 unfold MuP.setQ;have:(fun j=>if j=i then p.q i else p.q j)=p.q:=by
  funext j;split
  ·rename_i e;rw [e]
  ·rfl
 rw [this]
theorem IsMu.cpuTo (h:IsMu w p sz x) {i:Nat} {u u':Cpu} (hu:x.cp[i]?=some u) (o:Only [(p.q i).cb] w w') (hw:u'.wk=u.wk) (hls:u'.ls=u.ls) (hfs:u'.fs=u.fs) (hph:u'.ph=2→u.ph=2) (hv:u'.vm < 9223372036854775808∧0≤u'.ph∧u'.ph≤4)
 (hb:Blk w' (p.q i).cb 68 #[.int .i64 i,ptr (p.q i).tb,.int .i64 u'.ph,.int .i64 u'.vm,.int .i64 u'.c.k,.int .u64 u'.c.a,.int .u64 u'.c.b,.int .u64 u'.c.c,(p.q i).wpv,.int .i64 u'.fr,.int .u64 u'.rv,.int .i64 u'.re,.int .i64 u'.ask,(p.q i).fv]) :
 IsMu w' p sz { x with cp:=x.cp.set i u' }∧MuTo w w' p p x.cp.length:=by
 have hi:=(List.getElem?_eq_some_iff.1 hu).1;have hq:=h.cpu i u hu;have ht1:(p.q i).cb≠(p.q i).tb:=fun e=>by
  have:=(hq.obj.inj (e ▸ hq.tlb.obj)).1;exact absurd this (by decide)
 have ht2:∀ y ∈ [(p.q i).cb],(p.q i).tv.ownBlock≠some y:=fun y hy e=>by
  rw [List.mem_singleton.1 hy] at e;exact hq.tlb.row.ne hq.obj (by decide) e
 have ht3:∀ y ∈ [(p.q i).cb],(p.q i).fv.ownBlock≠some y:=fun y hy e=>by
  rw [List.mem_singleton.1 hy] at e;exact hq.row.ne hq.obj (by decide) e
 have hT:[(p.q i).cb] ⊆ (p.q i).fp:=fun y hy=>by
  rw [List.mem_singleton.1 hy];simp [CpP.fp]
 have hic:IsCpu w' (p.q i) i sz u':=by
  refine ⟨hb,?_,fun h2=>?_,?_,hq.dj,hv⟩
  ·rw [hls];exact hq.tlb.only o (by simpa using ht1.symm) ht2
  ·obtain ⟨b,e,hwk⟩:=hq.wk (hph h2);refine ⟨b,e,?_⟩;rw [hw];refine hwk.only o (fun hm=>?_) fun y hy e2=>?_
   ·have hm:b=(p.q i).cb:=by simpa using hm
    subst hm;have:=(hq.obj.inj hwk.at').1;exact absurd this (by decide)
   ·rw [List.mem_singleton.1 hy] at e2;obtain ⟨n,xs,hr,_⟩:=hwk.row;exact hr.ne hq.obj (by decide) e2
  ·rw [hfs];exact hq.row.only o ht3
 have ht:=h.turn hi o hT hic rfl fun y hy=>.inl hy;rw [setQ_same] at ht;exact ⟨ht,MuTo.one o (i+4) (by rw [foot_cpu hi]; exact hT) (fun _ _=>rfl) (fun y hy=>.inl hy) rfl rfl rfl rfl rfl rfl (fun _=>rfl) fun _=>rfl⟩
theorem muask_any (h:IsMu w p sz x) (i vm:Int) (c:C) (hv:vm < 9223372036854775808):Calls Tryz.prog 9 #[ptr p.b,.int .i64 i,.int .i64 vm,c.val] w fun e w'=>∃ er x',e=.returned (.int .i64 er)∧IsMu w' p sz x'∧MuTo w w' p p x.cp.length∧AskTo x i vm c x' er:=by
 obtain ⟨k,a,b,c⟩:=c;rw [c_out];obtain ⟨W0,hW0⟩:∃ W0,w.alloc (.cells #[.int .i64 k,.int .u64 a,.int .u64 b,.int .u64 c] 30)=W0:=⟨_,rfl⟩;have q0:Only [] w W0:=by rw [← hW0]; exact (Only.refl [] w).alloc _
 have hb:Blk W0 w.heap.size 30 #[.int .i64 k,.int .u64 a,.int .u64 b,.int .u64 c]:=by rw [← hW0]; exact Blk.new _ _ _
 have hm:=h.quiet q0;have HQ:=hid q0;have HAT:=hid (mat_any hm i);have x0:=hm.obj.at 0 (v:=ptr p.a.hb) rfl;have HH:=hid h;have HW0:=hid hW0;by_cases hr:0≤i∧i < x.cp.length
 case neg=>
  rw [if_neg hr] at HAT;clear h hW0 q0 hb hm;go_enter Tryz.func9,Tryz.ntmps9;go_upto_region 1 with fail;rw [HW0.out];go_wp2_with fail;refine HAT.out.mono ?_;rintro e w1 ⟨rfl,rfl⟩;go_wp2_with fail;go_ret;refine ⟨_,x,rfl,HH.out.quiet HQ.out,.quiet HH.out HQ.out rfl,.inr ⟨rfl,by decide,fun j u hj hu=>?_⟩⟩;have:=(List.getElem?_eq_some_iff.1 hu).1;omega
 case pos=>
  obtain ⟨j,rfl⟩:=Int.eq_ofNat_of_zero_le hr.1;obtain ⟨u,hu⟩:∃ u,x.cp[j]?=some u:=⟨x.cp[j]'(by omega),List.getElem?_eq_getElem _⟩;rw [if_pos hr,Int.toNat_natCast] at HAT;have hic:=(hm.cpu j u hu).obj;obtain ⟨ph,hph⟩:∃ ph,u.ph=ph:=⟨_,rfl⟩;have c2:=hic.at 2 (v:=.int .i64 u.ph) rfl;rw [hph] at c2;have HU:=hid hu;have HPH:=hid hph;by_cases hp0:ph=0
  case neg=>
   have dn:(ph != 0)=true:=by simpa using hp0
   clear h hW0 q0 hb hm hic hu hph hr;go_enter Tryz.func9,Tryz.ntmps9;go_upto_region 1 with fail;rw [HW0.out];go_wp2_with fail;refine HAT.out.mono ?_;rintro e w1 ⟨rfl,rfl⟩;go_wp2_with fail;go_ret;refine ⟨_,x,rfl,HH.out.quiet HQ.out,.quiet HH.out HQ.out rfl,.inr ⟨rfl,by decide,fun j' u' hj hu'=>?_⟩⟩;have hj:j=j':=by omega
   subst hj;rw [HU.out] at hu';injection hu' with hu';rw [← hu',HPH.out];exact hp0
  case pos=>
   subst hp0;have y0:=hb.at 0 (v:=.int .i64 k) rfl;have y1:=hb.at 1 (v:=.int .u64 a) rfl;have y2:=hb.at 2 (v:=.int .u64 b) rfl;have y3:=hb.at 3 (v:=.int .u64 c) rfl;have c3:=hic.at 3 (v:=.int .i64 u.vm) rfl;have c4:=hic.at 4 (v:=.int .i64 u.c.k) rfl;have c5:=hic.at 5 (v:=.int .u64 u.c.a) rfl;have c6:=hic.at 6 (v:=.int .u64 u.c.b) rfl;have c7:=hic.at 7 (v:=.int .u64 u.c.c) rfl;have f2:=hic.frozen 2;have f3:=hic.frozen 3;have f4:=hic.frozen 4;have f5:=hic.frozen 5;have f6:=hic.frozen 6;have f7:=hic.frozen 7;have hne:(p.q j).cb≠w.heap.size:=fun e=>by
    have:=(HH.out.cpu j u hu).obj.lt;omega
   have hne2:w.heap.size≠(p.q j).cb:=fun e=>hne e.symm;have HIC:=hid hic;clear h hW0 q0 hb hm hic hu hph hr;go_enter Tryz.func9,Tryz.ntmps9;go_upto_region 1 with fail;rw [HW0.out];go_wp2_with fail;refine HAT.out.mono ?_;rintro e w1 ⟨rfl,rfl⟩;go_upto_region 8 with fail;refine pBegin rfl ?_;obtain ⟨S,hS⟩:∃ S:World→Prop,S=fun w'=>w'.cell? ⟨w.heap.size,0,none⟩=some (.int .i64 k)∧w'.cell? ⟨w.heap.size,1,none⟩=some (.int .u64 a)∧w'.cell? ⟨w.heap.size,2,none⟩=some (.int .u64 b)∧w'.cell? ⟨w.heap.size,3,none⟩=some (.int .u64 c):=⟨_,rfl⟩;have HS:=hid hS;clear hS;refine pPhaseH S 99 (by rw [HS.out]; exact ⟨by go_simp,by go_simp,by go_simp,by go_simp⟩) fun HSW=>?_;refine pPure (i:=0) rfl (by kernel_rfl) rfl HSW.out ?_;apply Exists.intro;refine ⟨fun w'=>?_,?_⟩
   ·go_simp;with_reducible rfl
   go_simp;refine pPure (i:=1) rfl (by kernel_rfl) rfl HSW.out ?_;apply Exists.intro;refine ⟨fun w'=>?_,?_⟩
   ·go_simp;with_reducible rfl
   go_simp;refine pPure (i:=2) rfl (by kernel_rfl) rfl HSW.out ?_;apply Exists.intro;refine ⟨fun w'=>?_,?_⟩
   ·go_simp;with_reducible rfl
   go_simp;refine pPure (i:=3) rfl (by kernel_rfl) rfl HSW.out ?_;apply Exists.intro;refine ⟨fun w'=>?_,?_⟩
   ·go_simp;with_reducible rfl
   go_simp;refine pTake (i:=4) rfl (by kernel_rfl) rfl HSW.out ?_;apply Exists.intro;refine ⟨fun w' hw'=>?_,?_⟩
   ·rw [HS.out] at hw';obtain ⟨p0,p1,p2,p3⟩:=hw';go_simp;with_reducible rfl
   go_simp;refine pPure (i:=5) rfl (by kernel_rfl) rfl HSW.out ?_;apply Exists.intro;refine ⟨fun w'=>?_,?_⟩
   ·go_simp;with_reducible rfl
   go_simp;refine pPure (i:=6) rfl (by kernel_rfl) rfl HSW.out ?_;apply Exists.intro;refine ⟨fun w'=>?_,?_⟩
   ·go_simp;with_reducible rfl
   go_simp;refine pStep (i:=7) rfl (by kernel_rfl) (by kernel_rfl) rfl fun K hK=>?_;go_simp;have HSW:=hid (show S ((W0.setCell ⟨(p.q j).cb,2,none⟩ (.int .i64 1)).drew) by rw [HS.out]; exact ⟨by go_simp,by go_simp,by go_simp,by go_simp⟩);refine hK _ _ HSW.out ?_;clear hK K;refine pPure (i:=8) rfl (by kernel_rfl) rfl HSW.out ?_;apply Exists.intro;refine ⟨fun w'=>?_,?_⟩
   ·go_simp;with_reducible rfl
   go_simp;refine pPure (i:=9) rfl (by kernel_rfl) rfl HSW.out ?_;apply Exists.intro;refine ⟨fun w'=>?_,?_⟩
   ·go_simp;with_reducible rfl
   go_simp;refine pStep (i:=10) rfl (by kernel_rfl) (by kernel_rfl) rfl fun K hK=>?_;go_simp;have HSW:=hid (show S (((W0.setCell ⟨(p.q j).cb,2,none⟩ (.int .i64 1)).setCell ⟨(p.q j).cb,3,none⟩ (.int .i64 vm)).drew) by rw [HS.out]; exact ⟨by go_simp,by go_simp,by go_simp,by go_simp⟩);refine hK _ _ HSW.out ?_;clear hK K;refine pPure (i:=11) rfl (by kernel_rfl) rfl HSW.out ?_;apply Exists.intro;refine ⟨fun w'=>?_,?_⟩
   ·go_simp;with_reducible rfl
   go_simp;refine pPure (i:=12) rfl (by kernel_rfl) rfl HSW.out ?_;apply Exists.intro;refine ⟨fun w'=>?_,?_⟩
   ·go_simp;with_reducible rfl
   go_simp;refine pStep (i:=13) rfl (by kernel_rfl) (by kernel_rfl) rfl fun K hK=>?_;go_simp;have HSW:=hid (show S (((((((W0.setCell ⟨(p.q j).cb,2,none⟩ (.int .i64 1)).setCell ⟨(p.q j).cb,3,none⟩ (.int .i64 vm)).setCell ⟨(p.q j).cb,4,none⟩ (.int .i64 k)).setCell ⟨(p.q j).cb,5,none⟩ (.int .u64 a)).setCell ⟨(p.q j).cb,6,none⟩ (.int .u64 b)).setCell ⟨(p.q j).cb,7,none⟩ (.int .u64 c)).drew) by rw [HS.out]; exact ⟨by go_simp,by go_simp,by go_simp,by go_simp⟩);refine hK _ _ HSW.out ?_;clear hK K;refine pEnd (by kernel_rfl) ?_;have HEND:=hid (show IsMu ((((((W0.setCell ⟨(p.q j).cb,2,none⟩ (.int .i64 1)).setCell ⟨(p.q j).cb,3,none⟩ (.int .i64 vm)).setCell ⟨(p.q j).cb,4,none⟩ (.int .i64 k)).setCell ⟨(p.q j).cb,5,none⟩ (.int .u64 a)).setCell ⟨(p.q j).cb,6,none⟩ (.int .u64 b)).setCell ⟨(p.q j).cb,7,none⟩ (.int .u64 c)).drew p sz { x with cp:=x.cp.set j { u with ph:=1,vm:=vm,c:=⟨k,a,b,c⟩ } }∧MuTo W0 ((((((W0.setCell ⟨(p.q j).cb,2,none⟩ (.int .i64 1)).setCell ⟨(p.q j).cb,3,none⟩ (.int .i64 vm)).setCell ⟨(p.q j).cb,4,none⟩ (.int .i64 k)).setCell ⟨(p.q j).cb,5,none⟩ (.int .u64 a)).setCell ⟨(p.q j).cb,6,none⟩ (.int .u64 b)).setCell ⟨(p.q j).cb,7,none⟩ (.int .u64 c)).drew p p x.cp.length from by
    have o:Only [(p.q j).cb] W0 ((((((W0.setCell ⟨(p.q j).cb,2,none⟩ (.int .i64 1)).setCell ⟨(p.q j).cb,3,none⟩ (.int .i64 vm)).setCell ⟨(p.q j).cb,4,none⟩ (.int .i64 k)).setCell ⟨(p.q j).cb,5,none⟩ (.int .u64 a)).setCell ⟨(p.q j).cb,6,none⟩ (.int .u64 b)).setCell ⟨(p.q j).cb,7,none⟩ (.int .u64 c)).drew:=(((((((Only.refl [(p.q j).cb] W0).setCell (p:=⟨(p.q j).cb,2,none⟩) (.inl (.head _)) _).setCell (p:=⟨(p.q j).cb,3,none⟩) (.inl (.head _)) _).setCell (p:=⟨(p.q j).cb,4,none⟩) (.inl (.head _)) _).setCell (p:=⟨(p.q j).cb,5,none⟩) (.inl (.head _)) _).setCell (p:=⟨(p.q j).cb,6,none⟩) (.inl (.head _)) _).setCell (p:=⟨(p.q j).cb,7,none⟩) (.inl (.head _)) _).drew;have hb:=((((((HIC.out.set 2 (.int .i64 1)).set 3 (.int .i64 vm)).set 4 (.int .i64 k)).set 5 (.int .u64 a)).set 6 (.int .u64 b)).set 7 (.int .u64 c)).only ((Only.refl [] _).drew) (by simp);exact (HH.out.quiet HQ.out).cpuTo (u':={ u with ph:=1,vm:=vm,c:=⟨k,a,b,c⟩ }) HU.out o rfl rfl rfl (fun h=>absurd h (show ¬ (1:Int)=2 by decide)) ⟨hv,by show (0:Int)≤1; decide,by show (1:Int)≤4; decide⟩ (by simpa using hb))
   clear HSW;go_wp2_with fail;go_ret;refine ⟨_,_,rfl,HEND.out.1,(MuTo.quiet HH.out HQ.out rfl).trans HEND.out.2,.inl ⟨j,u,rfl,HU.out,HPH.out,rfl,rfl⟩⟩
end
end Go.Proofs.YtadgpnoealegiaaGreat
