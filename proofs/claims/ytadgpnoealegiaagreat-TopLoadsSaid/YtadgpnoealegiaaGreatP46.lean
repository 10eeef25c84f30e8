import Derived.Test.YtadgpnoealegiaaGreatP45
namespace Go.Proofs.YtadgpnoealegiaaGreat
open Go.RowKit
open Go.Lib (hid)
set_option maxRecDepth 100000
set_option maxHeartbeats 20000000
section
variable {w w':World} {p:MuP} {sz:Nat} {x:X}
theorem IsMu.hvCpu {T:List Nat} (h:IsMu w p sz x) {i:Nat} (hi:i < x.cp.length) (o:Only T w w') (hT:∀ y ∈ T,y ∈ p.a.fp∨y ∈ (p.q i).fp) (hh:IsHv w' p.a x.S) {q:CpP} {u':Cpu} (hq:IsCpu w' q i sz u') (hcb:q.cb=(p.q i).cb) (htb:q.tb=(p.q i).tb) (hf:∀ y ∈ q.fp,y ∈ (p.q i).fp∨(w.heap.size≤y∧y < w'.heap.size)) :
 IsMu w' (p.setQ i q) sz { x with cp:=x.cp.set i u' }∧MuTo w w' p (p.setQ i q) x.cp.length:=by
 have hqe:∀ j,(p.setQ i q).q j=if j=i then q else p.q j:=fun j=>rfl;have hout:∀ {j y},j≠1→j≠i+4→y ∈ p.foot x.cp.length j→y ∉ T:=fun {j y} h1 h2 hy ht=>by
  rcases hT y ht with h3 | h3
  ·exact h.ft.dis j 1 h1 y hy h3
  ·exact h.ft.dis j (i+4) h2 y hy (by rw [foot_cpu hi]; exact h3)
 have hown:∀ {j:Nat} {v:Value},j≠1→j≠i+4→(∀ y,v.ownBlock=some y→y ∈ p.foot x.cp.length j)→∀ y ∈ T,v.ownBlock≠some y:=fun {j v} h1 h2 hm y hy e=>hout h1 h2 (hm y e) hy;have hF:∀ j,j≠i+4→(p.setQ i q).foot x.cp.length j=p.foot x.cp.length j:=fun j hj=>by
  match j with
  | 0=>rfl
  | 1=>rfl
  | 2=>rfl
  | 3=>rfl
  | j+4=>
   show (if j < x.cp.length then ((p.setQ i q).q j).fp else [])=if j < x.cp.length then (p.q j).fp else [];have e:(p.setQ i q).q j=p.q j:=by rw [hqe,if_neg (show ¬ j=i by omega)]
   rw [e]
 have hJ:∀ y ∈ (p.setQ i q).foot x.cp.length (i+4),y ∈ p.foot x.cp.length (i+4)∨(w.heap.size≤y∧y < w'.heap.size):=fun y hy=>by
  rw [foot_cpu hi] at hy ⊢;rw [hqe,if_pos rfl] at hy;exact hf y hy
 have ecb:∀ j,((p.setQ i q).q j).cb=(p.q j).cb:=fun j=>by
  rw [hqe];split
  ·rename_i e;rw [e,hcb]
  ·rfl
 have etb:∀ j,((p.setQ i q).q j).tb=(p.q j).tb:=fun j=>by
  rw [hqe];split
  ·rename_i e;rw [e,htb]
  ·rfl
 have hlen:(x.cp.set i u').length=x.cp.length:=List.length_set;refine ⟨⟨h.obj.only o (hout (j:=0) (by omega) (by omega) (by simp [MuP.foot,MuP.own])),?_,h.kn.only o (hout (j:=0) (by omega) (by omega) (by simp [MuP.foot,MuP.own])),h.mks.only o (hown (j:=0) (by omega) (by omega) (fun y e=>by simp [MuP.foot,MuP.own,e])),
  hh,h.ep.only o (hout (j:=2) (by omega) (by omega) (by simp [MuP.foot])) (hown (j:=2) (by omega) (by omega) (fun y e=>by simp [MuP.foot,e])) (hout (j:=2) (by omega) (by omega) (by simp [MuP.foot])),
  h.bx.only o (hout (j:=3) (by omega) (by omega) (by simp [MuP.foot])) (hown (j:=3) (by omega) (by omega) (fun y e=>by simp [MuP.foot,e])) (hown (j:=3) (by omega) (by omega) (fun y e=>by simp [MuP.foot,e])) (fun y hy hm=>hout (j:=3) (by omega) (by omega) (by simp [MuP.foot,hm]) hy),fun j u hu=>?_,?_,by simpa using h.cn⟩,
  ⟨⟨T,o,fun y hy=>(hT y hy).elim (fun h1=>⟨1,h1⟩) fun h1=>⟨i+4,by rw [foot_cpu hi]; exact h1⟩⟩,fun j y hy=>?_,rfl,rfl,rfl,rfl,rfl,rfl,ecb,etb⟩⟩
 ·have e1:((List.range (x.cp.set i u').length).map fun j=>ptr ((p.setQ i q).q j).cb)=(List.range x.cp.length).map fun j=>ptr (p.q j).cb:=by
   rw [hlen];exact List.map_congr_left fun j _=>by rw [ecb]
  dsimp only;rw [e1,hlen];exact h.cpr.only o (hown (j:=0) (by omega) (by omega) (fun y e=>by simp [MuP.foot,MuP.own,e]))
 ·rcases set_get hu with ⟨rfl,rfl,_⟩ | ⟨hj,hu⟩
  ·rw [hqe,if_pos rfl];exact hq
  ·rw [hqe,if_neg hj];have hjl:=(List.getElem?_eq_some_iff.1 hu).1;refine (h.cpu j u hu).only o fun y hy hm=>hout (j:=j+4) (by omega) (by omega) ?_ hy;rw [foot_cpu hjl];exact hm
 ·dsimp only;rw [hlen];exact foot_turn h.ft o (i+4) hF hJ
 ·by_cases hj:j=i+4
  ·subst hj;exact (hJ y hy).imp (fun h1=>⟨_,h1⟩) And.left
  ·rw [hF j hj] at hy;exact .inl ⟨j,hy⟩
theorem IsMu.cpTo (h:IsMu w p sz x) {i:Nat} {u':Cpu} (hi:i < x.cp.length) (k:CpTo w w' (p.q i) i sz u'):∃ q,IsMu w' (p.setQ i q) sz { x with cp:=x.cp.set i u' }∧MuTo w w' p (p.setQ i q) x.cp.length∧q.cb=(p.q i).cb:=by
 obtain ⟨T,q,o,hT,hq,he,hf⟩:=k;obtain ⟨h1,h2⟩:=h.cpuNew hi o hT hq he.1 he.2 hf;exact ⟨q,h1,h2,he.1⟩
theorem IsHv.part {T:List Nat} {a:HvP} {S:HS} (h:IsHv w a S) (o:Only T w w') (hT:∀ y ∈ T,y ∈ a.fp→y=a.mb∨y=a.ms) (hm:IsM w' a.mb a.ms S.L):IsHv w' a S:=by
 have hn:∀ {y tt:Nat} {cs:Array Value},y ∈ a.fp→Blk w y tt cs→tt≠113→tt≠28→y ∉ T:=fun {y tt cs} hy hb t1 t2 ht=>by
  obtain ⟨_,_,m1,m2⟩:=h.mem.blk;rcases hT _ ht hy with rfl | rfl
  ·exact t1 (hb.inj m1).1
  ·exact t2 (hb.inj m2).1
 have hh:∀ {y},y ∈ [a.hb,a.mb,a.ms,a.pb,a.pr,a.gb,a.gr,a.qb]→y ∈ a.fp:=fun {y} hy=>List.mem_append_left _ hy;obtain ⟨cs,h1,h2⟩:=h.obj;obtain ⟨gs,h3⟩:=h.gr;obtain ⟨P,h4⟩:=h.po;obtain ⟨cs4,h5,_⟩:=h4.blk;refine ⟨⟨cs,h1.only o (hn (hh (by simp)) h1 (by decide) (by decide)),h2⟩,hm,h.pool.only o (hn (hh (by simp)) h.pool.obj (by decide) (by decide)) (hn (hh (by simp)) h.pool.row (by decide) (by decide)),⟨gs,h3.only o (hn (hh (by simp)) h3.obj (by decide) (by decide)) (hn (hh (by simp)) h3.row (by decide) (by decide))⟩,⟨P,h4.only o (hn (hh (by simp)) h5 (by decide) (by decide))⟩,fun v G hg=>?_,h.inj,fun x hx=>Nat.lt_of_lt_of_le (h.lim x hx) o.size⟩;obtain ⟨v1,v2,q1,q2,q3⟩:=h.gs v G hg;obtain ⟨m1,m2,m3⟩:=fp_guest (a:=a) (show v < 17 by omega);refine ⟨v1,v2,q1.only o (hn m1 q1 (by decide) (by decide)),q2.only o (hn m2 q2 (by decide) (by decide)),q3.only o fun ht=>?_⟩;obtain ⟨_,_,b1,b2⟩:=h.mem.blk;rcases hT _ ht m3 with e | e
 ·exact q3.ne_blk b1 e
 ·exact q3.ne_blk b2 e
theorem PhF.cells {n r:Nat} {W:World} {p1:MuP} {x1:X} (f:PhF w p sz n r W p1 x1):Blk W p.b 54 #[ptr p.a.hb,ptr p.eb,ptr p.xb,p.cpv,.map (some p.kr),p1.mv]:=by
 have:=f.m.obj;rw [f.k.b,f.k.hb,f.k.eb,f.k.xb,f.k.cpv,f.k.kr] at this;exact this
theorem PhF.cell {n r:Nat} {W:World} {p1:MuP} {x1:X} (f:PhF w p sz n r W p1 x1) {i:Nat} {u:Cpu} (hu:x1.cp[i]?=some u):Blk W (p.q i).cb 68 #[.int .i64 i,ptr (p.q i).tb,.int .i64 u.ph,.int .i64 u.vm,.int .i64 u.c.k,.int .u64 u.c.a,.int .u64 u.c.b,.int .u64 u.c.c,(p1.q i).wpv,.int .i64 u.fr,.int .u64 u.rv,.int .i64 u.re,.int .i64 u.ask,(p1.q i).fv]:=by
 have:=(f.m.cpu i u hu).obj;rw [f.k.cb i,f.k.tb i] at this;exact this
theorem PhF.unpin {n r:Nat} {W:World} {p1:MuP} {x1:X} (f:PhF w p sz n r W p1 x1) (i:Nat) (hi:i < x1.ep.pins.length):Calls Tryz.prog 46 #[ptr p.eb,.int .i64 i] W fun e w'=>(∃ er,e=.returned (.int .i64 er))∧PhF w p sz n r w' p1 { x1 with ep:=x1.ep.set i (-1) }∧MuTo W w' p1 p1 n:=by
 have h:=eunpin_any f.m.ep i hi;rw [f.k.eb] at h;refine h.mono fun e w' ⟨h1,ho,he⟩=>⟨h1,?_⟩;obtain ⟨h3,k3⟩:=f.m.epTo ho (by intro y hy; exact .tail _ (.tail _ hy)) (by rw [f.k.eb]; exact he);have k4:=k3;rw [f.len] at k4;exact ⟨f.to h3 k3 f.len,k4⟩
theorem mwalk_any {n t:Nat} {V:Int→Prop} {W:List Int} (h:IsMu w p sz x) (hx:XInv x n t V W) {i:Nat} {u:Cpu} (hu:x.cp[i]?=some u) (hp:u.ph=2) (hq:x.bx.bs[i]?=some []):Calls Tryz.prog 28 #[ptr p.b,ptr (p.q i).cb] w (PhTo t w p sz x i):=by
 have hi:=(List.getElem?_eq_some_iff.1 hu).1;obtain ⟨hwk,_⟩:=hx.wk i u hu hp;obtain ⟨l,hl,hl3,p0,p1,f0,f1,hin,hok,hla⟩:=WalkOk.word hx hwk;have ha:=hwk.a;obtain ⟨wb,hwb,hisw⟩:=(h.cpu i u hu).wk hp;obtain ⟨W0,hW0⟩:∃ W0,w.alloc (.cells #[.int .u64 0,.int .i64 0] 38)=W0:=⟨_,rfl⟩;have hF:=PhF.start h;rw [hW0] at hF;have HF0:=hid hF;have HW0:=hid hW0;have HU:=hid (And.intro hu (And.intro hp hq));have HWB:=hid hwb;have HEL:=hid hx.el;have HA:=hid ha;have HFA:=hid (show ∀ wx,Only [] W0 wx→wx.cell? ⟨(p.q i).cb,8,none⟩=some (ptr wb)∧wx.cell? ⟨p.b,0,none⟩=some (ptr p.a.hb) from fun wx hx=>by
  have hm:=(hF.quiet hx).m;have hq:=(hm.cpu i u hu).obj;have:(p.q i).wpv=ptr wb:=by unfold CpP.wpv; rw [hwb]
  rw [this] at hq;exact ⟨hq.at 8 rfl,hm.obj.at 0 rfl⟩)
 have HMEM:=hid (fun wx (hx:Only [] W0 wx)=>hmemory_any (hF.quiet hx).m.hv);have hwk2:∀ wx,Only [] W0 wx→IsWk wx wb u.wk (p.q i).wv:=fun wx hx=>by
  obtain ⟨b2,e2,hw2⟩:=((hF.quiet hx).m.cpu i u hu).wk hp;rw [hwb] at e2;injection e2 with e2;subst e2;exact hw2
 have hne:p.a.mb≠wb∧p.a.ms≠wb∧∀ y ∈ (p.q i).wv.ownBlock.toList,y≠p.a.mb∧y≠p.a.ms:=by
  obtain ⟨cs,cs',m1,m2⟩:=hF.m.hv.mem.blk;have hw2:=hwk2 W0 (Only.refl _ _);obtain ⟨_,_,hr,_⟩:=hw2.row;exact ⟨m1.ne hw2.at' (by decide),m2.ne hw2.at' (by decide),fun y hy=>⟨fun e=>hr.ne m1 (by decide) (by rw [← e]; exact Option.mem_toList.1 hy),fun e=>hr.ne m2 (by decide) (by rw [← e]; exact Option.mem_toList.1 hy)⟩⟩
 have HST:=hid (fun wx (hx:Only [] W0 wx)=>wstep_any (hwk2 wx hx) (hF.quiet hx).m.hv.mem l hl hl3 p0 p1 f0 f1 hne.1 hne.2.1 hne.2.2 hin hok hla);obtain ⟨X0,hX0⟩:∃ X0,parseE (ld x.S.L (atN u.wk.f u.wk.p l))=X0:=⟨_,rfl⟩;have HXE:=hid (show parseE (ld x.S.L (atN u.wk.f u.wk.p u.wk.l.toNat))=X0 by rw [hl,Int.toNat_natCast]; exact hX0);rw [hX0] at HST;clear h hx hu hp hq hwk hl hl3 p0 p1 f0 f1 hin hok hla ha hwb hisw hW0 hF hX0 hwk2 hne;go_enter Tryz.func28,Tryz.ntmps28;go_upto_region 1 with fail;rw [HW0.out];refine wp_region_quiet_tail 9 (by kernel_rfl) (by kernel_rfl) (fun w'=>Only [] W0 w') ((Only.refl _ _).drew) ?_;simp only [List.take_succ_cons,List.take_zero,List.drop_succ_cons,List.drop_zero]
 repeat
  (refine qstep rfl ?_
   apply Exists.intro;refine ⟨fun w' hw'=>?_,?_⟩
   ·obtain ⟨p0,p1⟩:=HFA.out w' hw';go_simp
    first
     | with_reducible rfl
     | exact quiet_val
     | (first
      | exact (HMEM.out w' hw').mono fun e w'' ⟨he,hw⟩=>⟨he,hw ▸ hw'⟩)
     | (apply quiet_call
        first
         | exact (HMEM.out w' hw').mono fun e w'' ⟨he,hw⟩=>⟨he,hw ▸ hw'⟩)
   go_simp)
 refine wpQuiet_nil ?_;intro wf hwf;have HF1:=hid (HF0.out.quiet hwf);have HS1:=hid (HST.out wf hwf);clear hwf HST HMEM HFA HF0 HW0;go_wp2_with fail;refine HS1.out.mono ?_;rintro e w2 ⟨s',v',rfl,ho,hw2,hm2,htk,hv2⟩;have hq1:=HF1.out.m.cpu i u HU.out.1;obtain ⟨wb2,e2,hw1⟩:=hq1.wk HU.out.2.1;obtain rfl:wb2=wb:=by
  rw [HWB.out] at e2;injection e2 with e2;exact e2.symm
 have hlw:=hw1.at'.lt;obtain ⟨_,_,hrw,_⟩:=hw1.row;obtain ⟨_,_,m1,m2⟩:=HF1.out.m.hv.mem.blk;have hcpu:IsCpu w2 { p.q i with wv:=v' } i sz { u with wk:=s' }:=by
  have hn:∀ {g tt:Nat} {cs:Array Value},Blk wf g tt cs→tt≠164→tt≠113→tt≠28→tt≠3→g ∉ wb2 :: p.a.mb :: p.a.ms :: (p.q i).wv.ownBlock.toList:=fun {g tt cs} hb t1 t2 t3 t4 hm=>by
   simp only [List.mem_cons,Option.mem_toList] at hm;rcases hm with rfl | rfl | rfl | hm
   ·exact t1 (hb.inj hw1.at').1
   ·exact t2 (hb.inj m1).1
   ·exact t3 (hb.inj m2).1
   ·obtain ⟨_,cs',hb'⟩:=hrw.lt g hm;exact t4 (hb.inj hb').1
  have hnr:∀ y ∈ wb2 :: p.a.mb :: p.a.ms :: (p.q i).wv.ownBlock.toList,(p.q i).fv.ownBlock≠some y:=fun y hy e=>by
   obtain ⟨_,cs',hb'⟩:=hq1.row.lt y e;simp only [List.mem_cons,Option.mem_toList] at hy;rcases hy with rfl | rfl | rfl | hy
   ·exact absurd (hb'.inj hw1.at').1 (by decide)
   ·exact absurd (hb'.inj m1).1 (by decide)
   ·exact absurd (hb'.inj m2).1 (by decide)
   ·exact hq1.dj y hy e
  refine ⟨hq1.obj.only ho (hn hq1.obj (by decide) (by decide) (by decide) (by decide)),hq1.tlb.only ho (hn hq1.tlb.obj (by decide) (by decide) (by decide) (by decide)) (fun y hy e=>?_),fun _=>⟨_,HWB.out,hw2⟩,hq1.row.only ho hnr,fun y hy e=>?_,hq1.vr⟩
  ·obtain ⟨_,cs',hb'⟩:=hq1.tlb.row.lt y e;exact hn hb' (by decide) (by decide) (by decide) (by decide) hy
  ·rcases hv2 with h1 | h1
   ·exact hq1.dj y (h1 ▸ hy) e
   ·have:=h1 y hy;have:=(hq1.row.lt y e).1;omega
 have hff:∀ y ∈ (p.q i).fp,y < wf.heap.size:=fun y hy=>HF1.out.m.ft.lim (i+4) y (by rw [foot_cpu hi]; exact hy);obtain ⟨h2,k2⟩:=HF1.out.m.hvCpu hi ho (fun y hy=>by
  simp only [List.mem_cons,Option.mem_toList] at hy;rcases hy with rfl | rfl | rfl | hy
  ·exact .inr (by simp [CpP.fp,HWB.out])
  ·exact .inl (sub_hv (l:=[p.a.mb]) (by simp) (by simp))
  ·exact .inl (sub_hv (l:=[p.a.ms]) (by simp) (by simp))
  ·exact .inr (by simp [CpP.fp,hy])) (HF1.out.m.hv.part ho (fun y hy hm=>by
   simp only [List.mem_cons,Option.mem_toList] at hy;rcases hy with h3 | h3 | h3 | h3
   ·exact absurd (HF1.out.m.ft.dis 1 (i+4) (by omega) y hm) (fun h=>h (by rw [foot_cpu hi]; simp [CpP.fp,HWB.out,h3]))
   ·exact .inl h3
   ·exact .inr h3
   ·exact absurd (HF1.out.m.ft.dis 1 (i+4) (by omega) y hm) (fun h=>h (by rw [foot_cpu hi]; simp [CpP.fp,h3]))) hm2) hcpu rfl rfl (fun y hy=>by
  have hy2:y ∈ (p.q i).fp∨v'.ownBlock=some y:=by
   simp only [CpP.fp,List.mem_cons,List.mem_append,Option.mem_toList] at hy ⊢;rcases hy with h | h | (((h | h) | h) | h)
   ·exact .inl (.inl h)
   ·exact .inl (.inr (.inl h))
   ·exact .inl (.inr (.inr (.inl (.inl (.inl h)))))
   ·exact .inl (.inr (.inr (.inl (.inl (.inr h)))))
   ·exact .inr h
   ·exact .inl (.inr (.inr (.inr h)))
  rcases hy2 with h | h
  ·exact .inl h
  ·rcases hv2 with h3 | h3
   ·exact .inl (by simp [CpP.fp,← h3,h])
   ·obtain ⟨_,_,hr2,_⟩:=hw2.row;exact .inr ⟨h3 y h,(hr2.lt y h).1⟩)
 obtain ⟨P2,hP2⟩:∃ P2,p.setQ i { p.q i with wv:=v' }=P2:=⟨_,rfl⟩;rw [hP2] at h2 k2;have hu2:(x.cp.set i { u with wk:=s' })[i]?=some { u with wk:=s' }:=by rw [List.getElem?_set_self hi]
 have hF2:=HF1.out.to h2 k2 (by simp);have HWA:=hid (show WkAt w2 wb2 s' v' from hw2.at');have HWP:=hid (show (P2.q i).wpv=ptr wb2 by rw [← hP2]; show (CpP.wpv (if i=i then _ else _))=_; rw [if_pos rfl]; show (match (p.q i).wp with | some b=>ptr b | none=>.pointer none)=_; rw [HWB.out]);have HU2:=hid hu2;have HF2:=hid hF2;have HTK:=hid (show TookTo u.wk (parseE (ld x.S.L (atN u.wk.f u.wk.p u.wk.l.toNat))) s' by rw [HXE.out]; exact htk);clear hq1 e2 hw1 hlw hrw m1 m2 hcpu hff h2 k2 hP2 hu2 hF2 ho hw2 hm2 htk hv2 HF1 HS1 HXE HWB;by_cases hs:s'.l=-1
 case neg=>
  have ds:(s'.l == -1)=false:=by simpa using hs
  have hr:=HF2.out.res;have r0:=hr.at 0 (v:=.int .u64 0) rfl;have r1:=hr.at 1 (v:=.int .i64 0) rfl;have g0:=hr.frozen 0;have g1:=hr.frozen 1;go_wp2_with fail;obtain ⟨z1,z2,z3⟩:=HF2.out.out (.int .u64 (0)) (.int .i64 (0));have q0:=z3.at 0 (v:=.int .u64 (0)) rfl;have q1:=z3.at 1 (v:=.int .i64 (0)) rfl;refine bodyPost_ret (v:=.tuple #[.agg #[.int .u64 (0),.int .i64 (0)],.bool false]) (by simp [results,Tryz.results28,go_sem,q0,q1]) rfl ?_;exact ⟨0,0,false,_,_,rfl,z1,z2,by simp,by simp,.inl ⟨rfl,.walk HU.out.1 HU.out.2.1 HU.out.2.2 HTK.out hs⟩⟩
 case pos=>
  have ds:(s'.l == -1)=true:=by simpa using hs
  have c8:=(HF2.out.cell HU2.out).at 8 (v:=(P2.q i).wpv) rfl;rw [HWP.out] at c8;have HRS:=hid (wresult_any HWA.out hs);go_wp2_with fail;refine HRS.out.mono ?_;rintro e w3 ⟨rfl,ho⟩;have HF3:=hid (HF2.out.quiet ho);clear ho c8;obtain ⟨gF,hgF⟩:∃ gF,s'.fF=gF:=⟨_,rfl⟩;obtain ⟨gR,hgR⟩:∃ gR,s'.fR=gR:=⟨_,rfl⟩;obtain ⟨gL,hgL⟩:∃ gL,s'.fL=gL:=⟨_,rfl⟩;obtain ⟨gE,hgE⟩:∃ gE,s'.fE=gE:=⟨_,rfl⟩;rw [hgF,hgR,hgL,hgE];have HGS:=hid (And.intro hgF (And.intro hgR hgE));clear hgF hgR hgL hgE;go_upto_region 4 with fail;obtain ⟨W4,hW4⟩:∃ W4,w3.alloc (.cells #[.int .i64 gF,.int .i64 gR,.int .i64 gL,.int .i64 gE] 141)=W4:=⟨_,rfl⟩;rw [hW4];have q4:Only [] w3 W4:=by rw [← hW4]; exact (Only.refl [] w3).alloc _
  have HB4:=hid (show Blk W4 w3.heap.size 141 #[.int .i64 gF,.int .i64 gR,.int .i64 gL,.int .i64 gE] by rw [← hW4]; exact Blk.new _ _ _);have HO4:=hid (show Off P2 x.cp.length w3.heap.size by have:=HF3.out.m.off (Nat.le_refl _); rw [HF3.out.len] at this; exact this);have HF4:=hid (HF3.out.quiet q4);clear hW4 q4;have y0:=HB4.out.at 0 (v:=.int .i64 gF) rfl;have y1:=HB4.out.at 1 (v:=.int .i64 gR) rfl;have y3:=HB4.out.at 3 (v:=.int .i64 gE) rfl;by_cases hE:gE=0
  case neg=>
   have dE:(gE != 0)=true:=by simpa using hE
   have HFB:=hid (show ∀ wx,Only [] W4 wx→wx.cell? ⟨p.b,1,none⟩=some (ptr p.eb)∧wx.cell? ⟨(p.q i).cb,0,none⟩=some (.int .i64 i) from fun wx hx=>⟨((HF4.out.quiet hx).cells).at 1 rfl,((HF4.out.quiet hx).cell HU2.out).at 0 rfl⟩);have HUP:=hid (fun wx (hx:Only [] W4 wx)=>(HF4.out.quiet hx).unpin i (by rw [HEL.out]; exact hi));go_wp2_with fail;refine wp_region_quiet_tail 8 (by kernel_rfl) (by kernel_rfl) (fun w'=>Only [] W4 w') ((Only.refl _ _).drew) ?_;simp only [List.take_succ_cons,List.take_zero,List.drop_succ_cons,List.drop_zero]
   repeat
    (refine qstep rfl ?_
     apply Exists.intro;refine ⟨fun w' hw'=>?_,?_⟩
     ·obtain ⟨p0,p1⟩:=HFB.out w' hw';go_simp
      first
       | with_reducible rfl
       | exact quiet_val
     go_simp)
   refine wpQuiet_nil ?_;intro wf hwf;have HU5:=hid (HUP.out wf hwf);have HB5:=hid (HB4.out.only hwf (by simp));clear hwf HUP HFB y0 y1 y3;go_wp2_with fail;refine HU5.out.mono ?_;rintro e w6 ⟨⟨er,rfl⟩,hf6,k6⟩;have HF6:=hid hf6;have HB6:=hid (k6.blk HO4.out HB5.out);have y3:=HB6.out.at 3 (v:=.int .i64 gE) rfl;clear hf6 k6;have hr:=HF6.out.res;have r0:=hr.at 0 (v:=.int .u64 0) rfl;have r1:=hr.at 1 (v:=.int .i64 0) rfl;have g0:=hr.frozen 0;have g1:=hr.frozen 1;go_wp2_with fail;obtain ⟨z1,z2,z3⟩:=HF6.out.out (.int .u64 (0)) (.int .i64 (gE));have q0:=z3.at 0 (v:=.int .u64 (0)) rfl;have q1:=z3.at 1 (v:=.int .i64 (gE)) rfl;refine bodyPost_ret (v:=.tuple #[.agg #[.int .u64 (0),.int .i64 (gE)],.bool true]) (by simp [results,Tryz.results28,go_sem,q0,q1]) rfl ?_;refine ⟨0,gE,true,_,_,rfl,z1,z2,by simp,by simp,.inr ⟨rfl,_,HU2.out,?_⟩⟩;have hs2:=MStep.none (t:=t) HU.out.1 HU.out.2.1 HU.out.2.2 HTK.out hs (by rw [HGS.out.2.2]; exact hE);rw [HGS.out.2.2] at hs2;dsimp only;rw [List.set_set];exact hs2
  case pos=>
   subst hE;obtain ⟨vm,hvm⟩:∃ vm,u.vm=vm:=⟨_,rfl⟩;obtain ⟨pg,epg⟩:∃ pg,u.page=pg:=⟨_,rfl⟩;have HVP:=hid (And.intro hvm epg);have HFC:=hid (show ∀ wx,Only [] W4 wx→wx.cell? ⟨(p.q i).cb,1,none⟩=some (ptr (p.q i).tb)∧wx.cell? ⟨(p.q i).cb,3,none⟩=some (.int .i64 vm)∧wx.cell? ⟨w3.heap.size,0,none⟩=some (.int .i64 gF)∧wx.cell? ⟨w3.heap.size,1,none⟩=some (.int .i64 gR) from fun wx hx=>by
    have hc:=(HF4.out.quiet hx).cell HU2.out;have hb:=HB4.out.only hx (by simp);dsimp only at hc;rw [hvm] at hc;exact ⟨hc.at 1 rfl,hc.at 3 rfl,hb.at 0 rfl,hb.at 1 rfl⟩)
   have HPG:=hid (show ∀ wx,Only [] W4 wx→Calls Tryz.prog 48 #[ptr (p.q i).cb] wx fun e w'=>e=.returned (.int .i64 pg)∧wx=w' from fun wx hx=>by
    have:=cpage_any ((HF4.out.quiet hx).m.cpu i _ HU2.out) HA.out.1 (show u.c.a < 18446744073709551616 by have:=HA.out.2; omega);rw [HF4.out.k.cb i] at this;rw [← epg];exact this)
   have HFI:=hid (fun wx (hx:Only [] W4 wx)=>fill_any ((HF4.out.quiet hx).m.cpu i _ HU2.out).tlb ⟨vm,pg,gF,gR⟩);rw [HF4.out.k.tb i,ln_out] at HFI;clear hvm epg;go_upto_region 7 with fail;refine wp_region_quiet_tail 15 (by kernel_rfl) (by kernel_rfl) (fun w'=>Only [] W4 w') ((Only.refl _ _).drew) ?_;simp only [List.take_succ_cons,List.take_zero,List.drop_succ_cons,List.drop_zero]
   repeat
    (refine qstep rfl ?_
     apply Exists.intro;refine ⟨fun w' hw'=>?_,?_⟩
     ·obtain ⟨p0,p1,p2,p3⟩:=HFC.out w' hw';go_simp
      first
       | with_reducible rfl
       | exact quiet_val
       | (first
        | exact (HPG.out w' hw').mono fun e w'' ⟨he,hw⟩=>⟨he,hw ▸ hw'⟩)
       | (apply quiet_call
          first
           | exact (HPG.out w' hw').mono fun e w'' ⟨he,hw⟩=>⟨he,hw ▸ hw'⟩)
     go_simp)
   refine wpQuiet_nil ?_;intro wf hwf;have HF5:=hid (HF4.out.quiet hwf);have HFI5:=hid (HFI.out wf hwf);have HB5:=hid (HB4.out.only hwf (by simp));clear hwf HFI HPG HFC y0 y1 y3;go_wp2_with fail;refine HFI5.out.mono ?_;rintro e w6 ⟨⟨nn,rfl⟩,ls,hto,hls⟩;have hcpt:=(HF5.out.m.cpu i _ HU2.out).tlbTo (ls:=ls) (by rw [HF5.out.k.tb i]; exact hto);obtain ⟨q6,h6,k6,_⟩:=HF5.out.m.cpTo (by simpa using hi) hcpt;have k6':=k6;rw [HF5.out.len] at k6';have hO6:=k6'.off HO4.out HB5.out.lt;have HO6:=hid hO6;have hb6:=k6'.blk HO4.out HB5.out;have HB6:=hid hb6;have hF6:=HF5.out.to h6 k6 (by simp);obtain ⟨P6,hP6⟩:∃ P6,P2.setQ i q6=P6:=⟨_,rfl⟩;rw [hP6] at hF6 HO6;dsimp only at hF6;rw [List.set_set] at hF6;have hu6:(x.cp.set i { u with ls:=ls,wk:=s' })[i]?=some { u with ls:=ls,wk:=s' }:=by rw [List.getElem?_set_self hi]
   have HF6:=hid hF6;have HU6:=hid hu6;have HLS:=hid hls;have hcl:=hF6.cell hu6;have HCL:=hid hcl;have f2:=hcl.frozen 2;have f9:=hcl.frozen 9;have c2:=hcl.at 2 (v:=.int .i64 u.ph) rfl;have c9:=hcl.at 9 (v:=.int .i64 u.fr) rfl;have y0:=hb6.at 0 (v:=.int .i64 gF) rfl;have hn1:(p.q i).cb≠w3.heap.size:=hcl.ne hb6 (by decide);have hn2:=hn1.symm;clear hcpt h6 k6 k6' hO6 hb6 hF6 hP6 hu6 hto hls hcl;go_wp2_with fail;refine pBegin rfl ?_;obtain ⟨S,hS⟩:∃ S:World→Prop,S=fun w'=>w'.cell? ⟨w3.heap.size,0,none⟩=some (.int .i64 gF):=⟨_,rfl⟩;have HS:=hid hS;clear hS;refine pPhaseH S 99 (by rw [HS.out]; exact y0) fun HSW=>?_;refine pPure (i:=0) rfl (by kernel_rfl) rfl HSW.out ?_;apply Exists.intro;refine ⟨fun w'=>?_,?_⟩
   ·go_simp;with_reducible rfl
   go_simp;refine pPure (i:=1) rfl (by kernel_rfl) rfl HSW.out ?_;apply Exists.intro;refine ⟨fun w'=>?_,?_⟩
   ·go_simp;with_reducible rfl
   go_simp;refine pPure (i:=2) rfl (by kernel_rfl) rfl HSW.out ?_;apply Exists.intro;refine ⟨fun w'=>?_,?_⟩
   ·go_simp;with_reducible rfl
   go_simp;refine pTake (i:=3) rfl (by kernel_rfl) rfl HSW.out ?_;apply Exists.intro;refine ⟨fun w' hw'=>?_,?_⟩
   ·rw [HS.out] at hw';have p0:=hw';go_simp;with_reducible rfl
   go_simp;refine pPure (i:=4) rfl (by kernel_rfl) rfl HSW.out ?_;apply Exists.intro;refine ⟨fun w'=>?_,?_⟩
   ·go_simp;with_reducible rfl
   go_simp;refine pPure (i:=5) rfl (by kernel_rfl) rfl HSW.out ?_;apply Exists.intro;refine ⟨fun w'=>?_,?_⟩
   ·go_simp;with_reducible rfl
   go_simp;refine pStep (i:=6) rfl (by kernel_rfl) (by kernel_rfl) rfl fun K hK=>?_;go_simp;have HSW:=hid (show S ((w6.setCell ⟨(p.q i).cb,2,none⟩ (.int .i64 3)).drew) by rw [HS.out]; go_simp);refine hK _ _ HSW.out ?_;clear hK K;refine pPure (i:=7) rfl (by kernel_rfl) rfl HSW.out ?_;apply Exists.intro;refine ⟨fun w'=>?_,?_⟩
   ·go_simp;with_reducible rfl
   go_simp;refine pPure (i:=8) rfl (by kernel_rfl) rfl HSW.out ?_;apply Exists.intro;refine ⟨fun w'=>?_,?_⟩
   ·go_simp;with_reducible rfl
   go_simp;refine pStep (i:=9) rfl (by kernel_rfl) (by kernel_rfl) rfl fun K hK=>?_;go_simp;have HSW:=hid (show S (((w6.setCell ⟨(p.q i).cb,2,none⟩ (.int .i64 3)).setCell ⟨(p.q i).cb,9,none⟩ (.int .i64 gF)).drew) by rw [HS.out]; go_simp);refine hK _ _ HSW.out ?_;clear hK K;refine pEnd (by kernel_rfl) ?_;obtain ⟨W7,hW7⟩:∃ W7,((w6.setCell ⟨(p.q i).cb,2,none⟩ (.int .i64 3)).setCell ⟨(p.q i).cb,9,none⟩ (.int .i64 gF)).drew=W7:=⟨_,rfl⟩;have hF7:PhF w p sz x.cp.length w.heap.size W7 P6 { x with cp:=x.cp.set i { u with ls:=ls,wk:=s',ph:=3,fr:=gF } }:=by
    have o:Only [(P6.q i).cb] w6 W7:=by
     rw [← hW7,HF6.out.k.cb i];exact (((Only.refl [(p.q i).cb] w6).setCell (p:=⟨(p.q i).cb,2,none⟩) (.inl (.head _)) _).setCell (p:=⟨(p.q i).cb,9,none⟩) (.inl (.head _)) _).drew
    have hb:=((HCL.out.set 2 (.int .i64 3)).set 9 (.int .i64 gF)).only ((Only.refl [] _).drew) (by simp);rw [hW7] at hb;obtain ⟨h7,k7⟩:=HF6.out.m.cpuTo (u':={ u with ls:=ls,wk:=s',ph:=3,fr:=gF }) HU6.out o rfl rfl rfl (fun h=>absurd h (show ¬ (3:Int)=2 by decide)) ⟨(HF6.out.m.cpu i _ HU6.out).vr.1,by show (0:Int)≤3; decide,by show (3:Int)≤4; decide⟩ (by rw [HF6.out.k.cb i,HF6.out.k.tb i]; simpa using hb);have:=HF6.out.to h7 k7 (by simp);dsimp only at this;rw [List.set_set] at this;exact this
   have HF7:=hid hF7;rw [hW7];clear HSW hF7 hW7 c2 c9 y0 f2 f9;have hr:=HF7.out.res;have r0:=hr.at 0 (v:=.int .u64 0) rfl;have r1:=hr.at 1 (v:=.int .i64 0) rfl;have g0:=hr.frozen 0;have g1:=hr.frozen 1;go_wp2_with fail;obtain ⟨z1,z2,z3⟩:=HF7.out.out (.int .u64 (0)) (.int .i64 (0));have q0:=z3.at 0 (v:=.int .u64 (0)) rfl;have q1:=z3.at 1 (v:=.int .i64 (0)) rfl;refine bodyPost_ret (v:=.tuple #[.agg #[.int .u64 (0),.int .i64 (0)],.bool false]) (by simp [results,Tryz.results28,go_sem,q0,q1]) rfl ?_;refine ⟨0,0,false,_,_,rfl,z1,z2,by simp,by simp,.inl ⟨rfl,?_⟩⟩;have hs2:=MStep.fill (t:=t) (ls:=ls) HU.out.1 HU.out.2.1 HU.out.2.2 HTK.out hs HGS.out.2.2 (by rw [HVP.out.1,HVP.out.2,HGS.out.1,HGS.out.2.1]; exact HLS.out);rw [HGS.out.1] at hs2;exact hs2
end
end Go.Proofs.YtadgpnoealegiaaGreat
