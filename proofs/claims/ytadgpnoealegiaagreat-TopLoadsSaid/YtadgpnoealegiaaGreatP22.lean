import Derived.Test.YtadgpnoealegiaaGreatP21
namespace Go.Proofs.YtadgpnoealegiaaGreat
open Go.RowKit
open Go.Lib (hid)
set_option maxRecDepth 100000
set_option maxHeartbeats 20000000
theorem newR_mem {ps:List D} {kn:Int→Bool} {f:Int}:f ∈ newR ps kn↔inR ps f∧kd ps f=5∧kn f=false:=by
 unfold newR newTo inR;simp only [List.mem_map,List.mem_filter,List.mem_range];constructor
 ·rintro ⟨j,⟨h1,h2⟩,rfl⟩;simp at h2;exact ⟨⟨by omega,by omega⟩,h2.1,h2.2⟩
 ·rintro ⟨⟨h0,h1⟩,h2,h3⟩;obtain ⟨j,rfl⟩:=Int.eq_ofNat_of_zero_le h0;exact ⟨j,⟨by omega,by simp [h2,h3]⟩,rfl⟩
theorem blkN_false {cp:List Cpu} {i:Nat} {u:Cpu} (h:blkN cp i u=false) (hv:u.vm=0) {j:Nat} {y:Cpu} (hj:cp[j]?=some y) (hji:j≠i):blk1 u y=false:=by
 unfold blkN at h;rw [hv] at h;simp only [beq_self_eq_true,Bool.true_and] at h;rw [List.any_eq_false] at h;have hlt:=(List.getElem?_eq_some_iff.1 hj).1;have:=h j (List.mem_range.2 hlt);rw [hj] at this;simp only [Bool.and_eq_true,not_and,Bool.not_eq_true] at this;exact this (by simpa using hji)
theorem XInv.ti' {x:X} {n t:Nat} {V:Int→Prop} {W:List Int} (h:XInv x n t V W):x.bx.op.length≤t+1∧x.ep.now≤((t+1:Nat):Int)∧0≤x.ep.now:=by
 have:=h.ti;omega
theorem rest_fits (ls:List Ln):(Cpu.rest ls).c.fits:=⟨Int.le_refl _,Int.le_refl _,by show (0:Int) < _; decide⟩
structure CallOk (x:X) (n t:Nat) (V:Int→Prop) (i:Nat) (u:Cpu) (S':HS) (v e:Int) (V':Int→Prop) (W':List Int):Prop where
 hi:HInv S' (t+1)
 pl:S'.ps.length=n
 v1:∀ f,V' f→inR S'.ps f∧(kd S'.ps f=4∨kd S'.ps f=5)
 v4:∀ f,inR S'.ps f→kd S'.ps f=4→V' f
 me:∀ f (j:Nat),V' f→j < 16→ld S'.L (16 * f+j)=ld W' (16 * f+j)
 wl:W'.length=16 * n
 gd:Good n (x.mks ++ [⟨1,u.vm,0,u.c,v,e⟩]) W'
 kn:∀ f,inR S'.ps f→kd S'.ps f=5→knOr x.kn (newR S'.ps x.kn) f=true
 k5:∀ f,inR x.S.ps f→kd x.S.ps f=5→inR S'.ps f∧kd S'.ps f=5
 line:∀ q y,LineOk x.S V q y→LineOk S' V' q y∨(V' y.f∧0≤y.p∧∃ vm0:Nat,y.t=vm0∧covD u.vm u.c e vm0 y.p.toNat)
 walk:∀ (c:Nat) (z:Cpu),c≠i→x.cp[c]?=some z→z.ph=2→WalkOk x.S V z→WalkOk S' V' z
 vv:∀ f,V f→V' f
theorem XInv.callOk {x:X} {n t:Nat} {V:Int→Prop} {W:List Int} (h:XInv x n t V W) {i:Nat} {u:Cpu} {S':HS} {v e:Int} (hb:blkN x.cp i u=false) (hd:DoRel x.S t u.vm u.c S' v e) :
 ∃ V' W',CallOk x n t V i u S' v e V' W':=by
 have hs:=hd.step;have hin:∀ {f},inR S'.ps f↔inR x.S.ps f:=by intro f; unfold inR; rw [hs.plen]
 have hn0:4≤n:=by rw [← h.pl]; exact h.hi.ps0
 have h16:x.S.L.length=16 * n:=by rw [← h.pl]; exact h.hi.len
 obtain ⟨k,hk⟩:∃ k:Mk,k=⟨1,u.vm,0,u.c,v,e⟩:=⟨_,rfl⟩;have hdon:k.don=true↔u.c.k=3∧e=0:=by rw [hk]; unfold Mk.don; simp
 have hgo:k.go W=if u.c.k=3∧e=0 then zeros W v 16 else W:=by
  unfold Mk.go Mk.go0;rw [if_neg (by rw [hk]; show ¬ ((1:Int) == 4)=true; decide)];by_cases c:u.c.k=3∧e=0
  ·rw [if_pos c,if_pos (hdon.2 c),hk]
  ·rw [if_neg c,if_neg (fun h=>c (hdon.1 h))]
 have hdn:∀ f,donD u.c v e=some f↔(u.c.k=3∧e=0)∧f=v:=by
  intro f;unfold donD;split
  ·rename_i c;constructor
   ·intro h;cases h;exact ⟨c,rfl⟩
   ·rintro ⟨_,rfl⟩;rfl
  ·rename_i c;exact ⟨fun h=>(by cases h),fun h=>absurd h.1 c⟩
 refine ⟨fun f=>V f∨donD u.c v e=some f,k.go W,hd.inv,by rw [hs.plen]; exact h.pl,fun f hf=>?_,fun f h1 h2=>?_,fun f j hf hj=>?_,?_,?_,fun f h1 h2=>?_,fun f h1 h2=>?_,fun q y hy=>?_,fun c z hc hz hph hw=>?_,fun f hf=>.inl hf⟩
 ·rcases hf with hf | hf
  ·obtain ⟨h1,h2⟩:=h.v1 f hf;refine ⟨hin.2 h1,?_⟩;rcases h2 with h2 | h2
   ·exact hs.k4 f h1 h2
   ·exact .inr (hs.k5 f h1 h2)
  ·obtain ⟨h1,_,h2,_⟩:=hs.donz f hf;exact ⟨hin.2 h1,.inl h2⟩
 ·rcases hs.new4 f (hin.1 h1) h2 with h3 | h3
  ·exact .inl (h.v4 f (hin.1 h1) h3)
  ·exact .inr h3
 ·rw [hgo];by_cases c:u.c.k=3∧e=0
  ·rw [if_pos c];obtain ⟨z1,z2,z3,z4⟩:=hs.donz v ((hdn v).2 ⟨c,rfl⟩);have hv1:v < n:=by have:=z1.2; rw [h.pl] at this; exact this
   by_cases e1:f=v
   ·subst e1;rw [z4 j hj,zeros_in 16 hj z1.1 (by rw [h.wl]; omega)]
   ·rcases hf with hf | hf
    ·obtain ⟨q1,q2⟩:=h.v1 f hf;rw [hs.keep f j q1 hj q2,h.me f j hf hj,zeros_far 16 fun j' hj'=>word_ne (.inl e1) hj hj']
    ·exact absurd ((hdn f).1 hf).2 e1
  ·rw [if_neg c];rcases hf with hf | hf
   ·obtain ⟨q1,q2⟩:=h.v1 f hf;rw [hs.keep f j q1 hj q2,h.me f j hf hj]
   ·exact absurd ((hdn f).1 hf).1 c
 ·rw [hgo];split
  ·rw [zeros_len]; exact h.wl
  ·exact h.wl
 ·rw [← hk];refine .snoc h.gd ⟨by rw [hk]; exact Int.le_refl _,by rw [hk]; show (0:Int) < _; omega,fun hdd=>?_,fun h3=>?_⟩
  ·obtain ⟨z1,_⟩:=hs.donz v ((hdn v).2 ⟨hdon.1 hdd,rfl⟩);have z2:=z1.2;rw [h.pl] at z2;rw [hk];exact ⟨z1.1,z2⟩
  ·rw [hk] at h3;exact absurd h3 (by show ¬ (1:Int)=3; decide)
 ·unfold knOr;cases hkn:x.kn f with
  | true=>rfl
  | false=>
   rw [Bool.false_or,List.contains_iff_mem];exact newR_mem.2 ⟨h1,h2,hkn⟩
 ·exact ⟨hin.2 h1,hs.k5 f h1 h2⟩
 ·obtain ⟨a1,a2,a3⟩:=hy;rcases a3 with ⟨vm,G,ri,e1,hg,hl⟩ | ⟨a,ha,hc⟩
  ·rcases hs.leaf vm G _ _ ri hg hl with h1 | ⟨G',ri',h1,h2⟩
   ·exact .inr ⟨.inl a1,a2,vm,e1,h1⟩
   ·exact .inl ⟨.inl a1,a2,.inl ⟨vm,G',ri',e1,h1,h2⟩⟩
  ·exact .inl ⟨.inl a1,a2,.inr ⟨a,ha,hc⟩⟩
 ·obtain ⟨l,p,a,vm,ok⟩:=hw;refine ⟨l,p,a,vm,?_⟩;rcases ok with ⟨G,hg,hnd⟩ | ⟨h1,h2,h3,h4⟩
  ·rcases hs.node _ G _ _ _ hg hnd with hdd | ⟨G',h1,h2⟩ | ⟨h1,h2⟩
   ·exfalso;obtain ⟨he,hk2,hva⟩:=hdd;have hv:=(hd.dst he hk2).1;have hbl:=blkN_false hb hv hz hc;unfold blk1 at hbl;rw [hk2] at hbl;have e1:decide (2≤z.ph)=true:=decide_eq_true (by omega);have e2:decide (0 < z.vm)=true:=decide_eq_true (by omega);have e3:(z.vm == u.c.a)=true:=beq_iff_eq.2 (by omega);rw [e1,e2,e3] at hbl;simp at hbl
   ·exact .inl ⟨G',h1,h2⟩
   ·right;obtain ⟨q1,q2,_⟩:=h.hi.node3 hg hnd;refine ⟨hin.2 q1,h1,fun hv=>?_,h2⟩;rcases hv with hv | hv
    ·have:=(h.v1 _ hv).2;omega
    ·have:=(hs.donz _ hv).2.1;omega
  ·right;refine ⟨hin.2 h1,hs.k5 _ h1 h2,fun hv=>?_,fun j hj=>by rw [hs.keep _ j h1 hj (.inr h2)]; exact h4 j hj⟩;rcases hv with hv | hv
   ·exact h3 hv
   ·have:=(hs.donz _ hv).2.1;omega
theorem XInv.call {x:X} {n t:Nat} {V:Int→Prop} {W:List Int} (h:XInv x n t V W) {i:Nat} {u:Cpu} {S':HS} {v e:Int} (hu:x.cp[i]?=some u) (hp:u.ph=1) (hq:x.bx.bs[i]?=some []) (hb:blkN x.cp i u=false) (hd:DoRel x.S t u.vm u.c S' v e) (hn:posts u.c.k=false∨e≠0) :
 ∃ V' W',XInv { x with S:=S',kn:=knOr x.kn (newR S'.ps x.kn),mks:=x.mks ++ [⟨1,u.vm,0,u.c,v,e⟩],cp:=x.cp.set i (Cpu.rest u.ls) } n (t+1) V' W':=by
 obtain ⟨V',W',k⟩:=h.callOk hb hd;have nocov:∀ a b,¬ covD u.vm u.c e a b:=fun a b hc=>by
  obtain ⟨he,hc⟩:=hc;rcases hn with hn | hn
  ·unfold posts at hn;simp at hn;omega
  ·exact hn he
 have hpin:x.ep.pins[i]?=some (-1):=(h.pn i u hu).2 (by omega);refine ⟨V',W',k.hi,k.pl,k.v1,k.v4,k.me,k.wl,k.gd,k.kn,fun f e hf=>?_,by rw [List.length_set]; exact h.el,by rw [List.length_set]; exact h.bl,h.pr,fun c z hz=>?_,fun c z q hz hc y hy=>?_,fun f e hf c z hz y hy=>?_,fun c z hz hph=>?_,fun c z hz hph=>?_,fun c z hz hph=>?_,
  fun c z c' z' hz hz' hph hph' hne=>?_,fun c q hc b hb=>?_,h.so,h.op,h.ti',fun c z hz=>?_⟩
 ·obtain ⟨h1,h2,h3⟩:=h.wt f e hf;obtain ⟨q1,q2⟩:=k.k5 f h1 h2;exact ⟨q1,q2,h3⟩
 ·rcases set_get hz with ⟨rfl,rfl,_⟩ | ⟨h1,h2⟩
  ·exact ⟨fun _=>by show ¬ ((0:Int)=2∨(0:Int)=3); omega,fun _=>hpin⟩
  ·exact h.pn c z h2
 ·have hold:LineOk x.S V q y:=by
   rcases set_get hz with ⟨rfl,rfl,_⟩ | ⟨h1,h2⟩
   ·exact h.li c u q hu hc y hy
   ·exact h.li c z q h2 hc y hy
  rcases k.line q y hold with h1 | ⟨_,_,_,_,h1⟩
  ·exact h1
  ·exact absurd h1 (nocov _ _)
 ·rcases set_get hz with ⟨rfl,rfl,_⟩ | ⟨h1,h2⟩
  ·exact h.nl f e hf c u hu y hy
  ·exact h.nl f e hf c z h2 y hy
 ·rcases set_get hz with ⟨rfl,rfl,_⟩ | ⟨h1,h2⟩
  ·exact absurd hph (by show ¬ (0:Int)=3; decide)
  ·exact ⟨k.vv _ (h.re c z h2 hph).1,(h.re c z h2 hph).2⟩
 ·rcases set_get hz with ⟨rfl,rfl,_⟩ | ⟨h1,h2⟩
  ·exact absurd hph (by show ¬ (0:Int)=2; decide)
  ·exact ⟨k.walk c z h1 h2 hph (h.wk c z h2 hph).1,(h.wk c z h2 hph).2⟩
 ·rcases set_get hz with ⟨rfl,rfl,_⟩ | ⟨h1,h2⟩
  ·exact absurd hph (by show ¬ (0:Int)=4; decide)
  ·have hw:=h.wa c z h2 hph;refine ⟨hw.r,fun f hf=>?_,hw.q,fun f hf c' z' q' hz' hc y hy he=>?_⟩
   ·obtain ⟨q1,q2,q3⟩:=hw.f f hf;obtain ⟨q4,q5⟩:=k.k5 f q1 q2;exact ⟨q4,q5,q3⟩
   ·rcases set_get hz' with ⟨rfl,rfl,_⟩ | ⟨h3,h4⟩
    ·exact hw.l f hf c' u q' hu hc y hy he
    ·exact hw.l f hf c' z' q' h4 hc y hy he
 ·rcases set_get hz with ⟨rfl,rfl,_⟩ | ⟨h1,h2⟩
  ·exact absurd hph (by show ¬ (0:Int)=4; decide)
  ·rcases set_get hz' with ⟨rfl,rfl,_⟩ | ⟨h3,h4⟩
   ·exact absurd hph' (by show ¬ (0:Int)=4; decide)
   ·exact h.wd c z c' z' h2 h4 hph hph' hne
 ·obtain ⟨c',u',h1,h2,h3,h4⟩:=h.id c q hc b hb;refine ⟨c',u',h1,?_,h3,h4⟩;rw [List.getElem?_set_ne]
  ·exact h2
  ·rintro rfl;rw [hu] at h2;cases h2;omega
 ·rcases set_get hz with ⟨rfl,rfl,_⟩ | ⟨h1,h2⟩
  ·exact rest_fits _
  ·exact h.ca c z h2
theorem post_bs {s:Bx} {i:Nat} {tag page:Int} {c:Nat} {q':List Ask} (h:(s.post i tag page).bs[c]?=some q'):∃ q,s.bs[c]?=some q∧q'=if c=i then q else q ++ [⟨s.op.length+1,tag,page⟩]:=by
 unfold Bx.post at h;dsimp only at h;rw [List.getElem?_mapIdx] at h;cases hq:s.bs[c]? with
 | none=>rw [hq] at h; cases h
 | some q=>
  rw [hq] at h;simp only [Option.map_some,Option.some.injEq] at h;exact ⟨q,rfl,h.symm⟩
theorem cnt_range (bs:List (List Ask)) (k:Int):cntId bs k=((List.range bs.length).filter fun c=>hasId k (bs.getD c [])).length:=by
 unfold cntId;have e:bs=(List.range bs.length).map fun c=>bs.getD c []:=by
  apply List.ext_getElem?;intro c;rw [List.getElem?_map];rcases Nat.lt_or_ge c bs.length with h | h
  ·rw [List.getElem?_range h,List.getElem?_eq_getElem h];simp [h]
  ·rw [List.getElem?_eq_none h,List.getElem?_eq_none (by simpa using h)];rfl
 conv=>lhs; rw [e]
 rw [List.filter_map,List.length_map];rfl
theorem range_but {n i:Nat} (h:i < n):((List.range n).filter fun c=>decide (c≠i)).length=n - 1:=by
 have h1:=(List.nodup_range (n:=n)).erase_eq_filter i;have h2:(List.range n).filter (fun c=>decide (c≠i))=(List.range n).erase i:=by
  rw [h1];apply List.filter_congr;intro x _;by_cases e:x=i <;> simp [e]
 rw [h2,List.length_erase_of_mem (List.mem_range.2 h),List.length_range]
theorem XInv.post {x:X} {n t:Nat} {V:Int→Prop} {W:List Int} (h:XInv x n t V W) {i:Nat} {u:Cpu} {S':HS} {v e tag page:Int} (hu:x.cp[i]?=some u) (hp:u.ph=1) (hq:x.bx.bs[i]?=some []) (hb:blkN x.cp i u=false) (hd:DoRel x.S t u.vm u.c S' v e)
 (htp:(u.c.k=2∧tag=u.c.a∧page=-1)∨(u.c.k≠2∧tag=u.vm∧page=u.c.a)) :
 ∃ V' W',XInv { x with S:=S',kn:=knOr x.kn (newR S'.ps x.kn),mks:=x.mks ++ [⟨1,u.vm,0,u.c,v,e⟩],bx:=x.bx.post i tag page,cp:=x.cp.set i { u with ls:=fgt u.ls tag page,ph:=4,rv:=v,re:=e,ask:=x.bx.op.length+1,fs:=newR S'.ps x.kn } } n (t+1) V' W':=by
 obtain ⟨V',W',k⟩:=h.callOk hb hd;have hpin:x.ep.pins[i]?=some (-1):=(h.pn i u hu).2 (by omega);obtain ⟨u',hu'⟩:∃ u',u'={ u with ls:=fgt u.ls tag page,ph:=4,rv:=v,re:=e,ask:=x.bx.op.length+1,fs:=newR S'.ps x.kn }:=⟨_,rfl⟩;have eph:u'.ph=4:=by rw [hu']
 have els:u'.ls=fgt u.ls tag page:=by rw [hu']
 have eask:u'.ask=x.bx.op.length+1:=by rw [hu']
 have efs:u'.fs=newR S'.ps x.kn:=by rw [hu']
 have ec:u'.c=u.c:=by rw [hu']
 rw [← hu'];clear hu';have hil:i < x.bx.bs.length:=(List.getElem?_eq_some_iff.1 hq).1;have hbl:(x.bx.post i tag page).bs.length=x.bx.bs.length:=by unfold Bx.post; simp
 have hol:(x.bx.post i tag page).op.length=x.bx.op.length+1:=by unfold Bx.post; simp
 have hid:∀ (c:Nat) (q:List Ask),x.bx.bs[c]?=some q→∀ a ∈ q,1≤a.id∧a.id≤x.bx.op.length:=fun c q hc a ha=>by
  obtain ⟨c',z,_,h2,h3,h4⟩:=h.id c q hc a ha;have:=(h.wa c' z h2 h3).r;rw [h4] at this;exact this
 have cov:∀ {vm0 p:Nat} {y:Ln},covD u.vm u.c e vm0 p→y.t=vm0→y.p=(p:Int)→covA ⟨x.bx.op.length+1,tag,page⟩ y:=fun {vm0 p y} hc e1 e2=>by
  obtain ⟨_,hc⟩:=hc;show tag=y.t∧(page=-1∨page=y.p);rcases htp with ⟨k2,rfl,rfl⟩ | ⟨k2,rfl,rfl⟩
  ·rcases hc with ⟨_,hc⟩ | ⟨hc,_⟩
   ·exact ⟨by rw [e1]; exact hc.symm,.inl rfl⟩
   ·omega
  ·rcases hc with ⟨hc,_⟩ | ⟨_,h1,h2⟩
   ·exact absurd hc k2
   ·exact ⟨by rw [e1]; exact h1.symm,.inr (by rw [e2]; exact h2.symm)⟩
 have line:∀ (c:Nat) (z:Cpu) (q q':List Ask) (y:Ln),(x.cp.set i u')[c]?=some z→(x.bx.post i tag page).bs[c]?=some q'→y ∈ z.ls →
  LineOk S' V' q' y∧∃ z0 q0,x.cp[c]?=some z0∧x.bx.bs[c]?=some q0∧y ∈ z0.ls∧(∀ a ∈ q0,a ∈ q'):=fun c z q q' y hz hc hy=>by
  obtain ⟨q0,hq0,rfl⟩:=post_bs hc;rcases set_get hz with ⟨rfl,rfl,_⟩ | ⟨h1,h2⟩
  ·rw [hq] at hq0;cases hq0;rw [if_pos rfl];rw [els] at hy;obtain ⟨hy1,hy2⟩:=fgt_mem hy;refine ⟨?_,u,[],hu,hq,hy1,fun _ h=>h⟩;rcases k.line [] y (h.li c u [] hu hq y hy1) with h3 | ⟨_,h4,vm0,e1,h5⟩
   ·exact h3
   ·exact absurd (cov h5 e1 (by omega)) hy2
  ·rw [if_neg h1];refine ⟨?_,z,q0,h2,hq0,hy,fun a ha=>List.mem_append_left _ ha⟩;rcases k.line q0 y (h.li c z q0 h2 hq0 y hy) with ⟨a1,a2,a3⟩ | ⟨a1,a2,vm0,e1,h5⟩
   ·exact ⟨a1,a2,a3.imp (fun h=>h) fun ⟨a,ha,hc⟩=>⟨a,List.mem_append_left _ ha,hc⟩⟩
   ·exact ⟨a1,a2,.inr ⟨_,List.mem_append_right _ (.head _),cov h5 e1 (by omega)⟩⟩
 refine ⟨V',W',k.hi,k.pl,k.v1,k.v4,k.me,k.wl,k.gd,k.kn,fun f e hf=>?_,by rw [List.length_set]; exact h.el,by rw [List.length_set]; exact hbl.trans h.bl,h.pr,fun c z hz=>?_,fun c z q hz hc y hy=>(line c z q q y hz hc hy).1,fun f e hf c z hz y hy=>?_,fun c z hz hph=>?_,fun c z hz hph=>?_,fun c z hz hph=>?_,
  fun c z c' z' hz hz' hph hph' hne=>?_,fun c q hc b hb=>?_,fun c q hc=>?_,fun j m hj=>?_,?_,fun c z hz=>?_⟩
 ·obtain ⟨h1,h2,h3⟩:=h.wt f e hf;obtain ⟨q1,q2⟩:=k.k5 f h1 h2;exact ⟨q1,q2,h3⟩
 ·rcases set_get hz with ⟨rfl,rfl,_⟩ | ⟨h1,h2⟩
  ·exact ⟨fun _=>by omega,fun _=>hpin⟩
  ·exact h.pn c z h2
 ·rcases set_get hz with ⟨rfl,rfl,_⟩ | ⟨h1,h2⟩
  ·rw [els] at hy;exact h.nl f e hf c u hu y (fgt_mem hy).1
  ·exact h.nl f e hf c z h2 y hy
 ·rcases set_get hz with ⟨rfl,rfl,_⟩ | ⟨h1,h2⟩
  ·omega
  ·exact ⟨k.vv _ (h.re c z h2 hph).1,(h.re c z h2 hph).2⟩
 ·rcases set_get hz with ⟨rfl,rfl,_⟩ | ⟨h1,h2⟩
  ·omega
  ·exact ⟨k.walk c z h1 h2 hph (h.wk c z h2 hph).1,(h.wk c z h2 hph).2⟩
 ·rcases set_get hz with ⟨rfl,rfl,_⟩ | ⟨h1,h2⟩
  ·refine ⟨⟨by rw [eask]; omega,by rw [eask,hol]; omega⟩,fun f hf=>?_,fun c' q' hc'=>?_,fun f hf c' z' q' hz' hc' y hy he'=>?_⟩
   ·rw [efs] at hf;obtain ⟨q1,q2,q3⟩:=newR_mem.1 hf;refine ⟨q1,q2,?_⟩;show x.ep.wt f=none;cases hw:x.ep.wt f with
    | none=>rfl
    | some e'=>
     obtain ⟨q4,q5,_⟩:=h.wt f e' hw;rw [h.kn f q4 q5] at q3;cases q3
   ·obtain ⟨q0,hq0,rfl⟩:=post_bs hc';by_cases e1:c'=c
    ·subst e1;rw [hq] at hq0;cases hq0;rw [if_pos rfl];exact .inr fun a ha=>by cases ha
    ·rw [if_neg e1];exact .inl ⟨_,List.mem_append_right _ (.head _),eask.symm⟩
   ·rw [efs] at hf;obtain ⟨q1,q2,q3⟩:=newR_mem.1 hf;obtain ⟨hl1,z0,q0,hz0,hq0,hy0,hsub⟩:=line c' z' q' q' y hz' hc' hy;obtain ⟨a1,a2,a3⟩:=hl1;rcases a3 with ⟨vm0,G,ri,e1,hg,hl⟩ | ⟨a,ha,hcv⟩
    ·exfalso;have:=(k.hi.leaf4 hg hl).2;rw [he'] at this;omega
    ·refine ⟨a,ha,?_,hcv⟩;rw [eask];obtain ⟨q2',hq2,rfl⟩:=post_bs hc';split at ha
     ·have:=hid c' _ hq2 a ha;omega
     ·rcases List.mem_append.1 ha with ha | ha
      ·have:=hid c' _ hq2 a ha;omega
      ·have ha:a=⟨x.bx.op.length+1,tag,page⟩:=by simpa using ha
       rw [ha];exact Int.le_refl _
  ·have hw:=h.wa c z h2 hph;refine ⟨⟨hw.r.1,by rw [hol]; have:=hw.r.2; omega⟩,fun f hf=>?_,fun c' q' hc'=>?_,fun f hf c' z' q' hz' hc' y hy he'=>?_⟩
   ·obtain ⟨q1,q2,q3⟩:=hw.f f hf;obtain ⟨q4,q5⟩:=k.k5 f q1 q2;exact ⟨q4,q5,q3⟩
   ·obtain ⟨q0,hq0,rfl⟩:=post_bs hc';rcases hw.q c' q0 hq0 with ⟨a,ha,e1⟩ | h3
    ·exact .inl ⟨a,by split; exact ha; exact List.mem_append_left _ ha,e1⟩
    ·refine .inr fun a ha=>?_;split at ha
     ·exact h3 a ha
     ·rcases List.mem_append.1 ha with ha | ha
      ·exact h3 a ha
      ·have ha:a=⟨x.bx.op.length+1,tag,page⟩:=by simpa using ha
       rw [ha];have:=hw.r.2;show z.ask < (x.bx.op.length:Int)+1;omega
   ·obtain ⟨_,z0,q0,hz0,hq0,hy0,hsub⟩:=line c' z' q' q' y hz' hc' hy;obtain ⟨a,ha,h4,h5⟩:=hw.l f hf c' z0 q0 hz0 hq0 y hy0 he';exact ⟨a,hsub a ha,h4,h5⟩
 ·have key:∀ {c c':Nat} {z':Cpu},c≠c'→(x.cp.set i u')[c]?=some u'→c=i→(x.cp.set i u')[c']?=some z'→z'.ph=4→u'.ask≠z'.ask∧(∀ f ∈ u'.fs,f ∉ z'.fs)∧∀ f ∈ z'.fs,f ∉ u'.fs:=fun {c c' z'} hne _ hci hz' hph'=>by
   rcases set_get hz' with ⟨rfl,rfl,_⟩ | ⟨h1,h2⟩
   ·exact absurd hci hne
   ·have hw:=h.wa c' z' h2 hph';refine ⟨by rw [eask]; have:=hw.r.2; omega,fun f hf hf'=>?_,fun f hf' hf=>?_⟩
    all_goals
     rw [efs] at hf;obtain ⟨q1,q2,q3⟩:=newR_mem.1 hf;obtain ⟨q4,q5,_⟩:=hw.f f hf';rw [h.kn f q4 q5] at q3;cases q3
  rcases set_get hz with ⟨rfl,rfl,_⟩ | ⟨h1,h2⟩
  ·obtain ⟨q1,q2,_⟩:=key hne hz rfl hz' hph';exact ⟨q1,q2⟩
  ·rcases set_get hz' with ⟨rfl,rfl,_⟩ | ⟨h3,h4⟩
   ·obtain ⟨q1,_,q3⟩:=key (fun e=>hne e.symm) hz' rfl hz hph;exact ⟨fun e=>q1 e.symm,q3⟩
   ·exact h.wd c z c' z' h2 h4 hph hph' hne
 ·obtain ⟨q0,hq0,rfl⟩:=post_bs hc;have old:∀ a ∈ q0,∃ (c':Nat) (z:Cpu),c'≠c∧(x.cp.set i u')[c']?=some z∧z.ph=4∧z.ask=a.id:=fun a ha=>by
   obtain ⟨c',z,h1,h2,h3,h4⟩:=h.id c q0 hq0 a ha;refine ⟨c',z,h1,?_,h3,h4⟩;rw [List.getElem?_set_ne]
   ·exact h2
   ·rintro rfl;rw [hu] at h2;cases h2;omega
  split at hb
  ·exact old b hb
  ·rename_i hci;rcases List.mem_append.1 hb with hb | hb
   ·exact old b hb
   ·have hb:b=⟨x.bx.op.length+1,tag,page⟩:=by simpa using hb
    subst hb;exact ⟨i,u',fun e=>hci e.symm,List.getElem?_set_self (List.getElem?_eq_some_iff.1 hu).1,eph,eask⟩
 ·obtain ⟨q0,hq0,rfl⟩:=post_bs hc;split
  ·exact h.so c q0 hq0
  ·rw [List.pairwise_append];refine ⟨h.so c q0 hq0,by simp,fun a ha b hb=>?_⟩;have hb:b=⟨x.bx.op.length+1,tag,page⟩:=by simpa using hb
   rw [hb];have:=hid c q0 hq0 a ha;show a.id < (x.bx.op.length:Int)+1;omega
 ·show m=(cntId (x.bx.post i tag page).bs ((j:Int)+1):Int);rw [cnt_range,hbl];have hj2:(x.bx.op ++ [((x.bx.bs.length:Int) - 1)])[j]?=some m:=hj;have hget:∀ c,c < x.bx.bs.length→(x.bx.post i tag page).bs.getD c []=if c=i then x.bx.bs.getD c [] else x.bx.bs.getD c [] ++ [⟨x.bx.op.length+1,tag,page⟩]:=fun c hc=>by
   unfold Bx.post;simp [hc]
  rcases Nat.lt_or_ge j x.bx.op.length with hlt | hge
  ·rw [List.getElem?_append_left hlt] at hj2;have h1:=h.op j m hj2;rw [cnt_range] at h1;rw [h1];congr 1;congr 1;apply List.filter_congr;intro c hc;rw [hget c (List.mem_range.1 hc)];split
   ·rfl
   ·unfold hasId;rw [List.any_append];have:((x.bx.op.length:Int)+1 == (j:Int)+1)=false:=beq_eq_false_iff_ne.2 (by omega);simp [this]
  ·have hlen:=(List.getElem?_eq_some_iff.1 hj2).1;have hje:j=x.bx.op.length:=by
    rw [List.length_append,List.length_singleton] at hlen;omega
   subst hje;rw [List.getElem?_append_right (Nat.le_refl _),Nat.sub_self] at hj2;have hj2:(x.bx.bs.length:Int) - 1=m:=by simpa using hj2
   have hf:(List.range x.bx.bs.length).filter (fun c=>hasId ((x.bx.op.length:Int)+1) ((x.bx.post i tag page).bs.getD c []))=(List.range x.bx.bs.length).filter fun c=>decide (c≠i):=by
    apply List.filter_congr;intro c hc;rw [hget c (List.mem_range.1 hc)];by_cases e1:c=i
    ·rw [if_pos e1,e1];rw [List.getD_eq_getElem?_getD,hq];simp [hasId]
    ·rw [if_neg e1];have:decide (c≠i)=true:=decide_eq_true e1;rw [this];unfold hasId;rw [List.any_append];simp
   rw [hf,range_but hil];omega
 ·show (x.bx.post i tag page).op.length≤t+1∧x.ep.now≤((t+1:Nat):Int)∧0≤x.ep.now;rw [hol];have:=h.ti;omega
 ·rcases set_get hz with ⟨rfl,rfl,_⟩ | ⟨h1,h2⟩
  ·rw [ec];exact h.ca c u hu
  ·exact h.ca c z h2
section
theorem inP_iff {ps:List D} {f:Int}:inP ps f=true↔inR ps f:=by unfold inP inR; simp
theorem free1_eq {ps:List D} (hw:∀ d ∈ ps,d.wf) {f:Int}:free1 ps f=if inP ps f=true∧kd ps f=5 then setP ps f zD else ps:=by
 unfold free1;by_cases h':inP ps f=true∧kd ps f=5
 ·have h:inR ps f∧kd ps f=5:=⟨inP_iff.1 h'.1,h'.2⟩;have h1:=h'.1;rw [if_pos h',if_pos h'];have hm:(dOf ps f) ∈ ps:=by
   unfold dOf;obtain ⟨j,rfl⟩:=Int.eq_ofNat_of_zero_le h.1.1;have hj:j < ps.length:=by have:=h.1.2; omega
   rw [List.getD_eq_getElem?_getD,Int.toNat_natCast,List.getElem?_eq_getElem hj];exact List.getElem_mem hj
  have hwf:=hw _ hm;obtain ⟨d,hd⟩:∃ d,dOf ps f=d:=⟨_,rfl⟩;have hk:d.k=5:=by have:=h.2; unfold kd at this; rw [hd] at this; exact this
  rw [hd] at hwf;have hr:d.r=0:=by have:=hwf.k; omega
  have hn:nextD d 0 0=(zD,0):=by
   obtain ⟨k,o,r,e⟩:=d;dsimp only at hk hr;subst hk hr;rfl
  unfold turnN changeN;rw [if_pos h1,hd];simp [hn]
 ·rw [if_neg h',if_neg h']
theorem free1_len (ps:List D) (f:Int):(free1 ps f).length=ps.length:=by
 unfold free1 turnN changeN;split
 ·split
  ·split
   ·exact setP_len _ _ _
   ·rfl
  ·rfl
 ·rfl
theorem freeL_len (l:List Int):∀ ps:List D,(freeL ps l).length=ps.length:=by
 induction l with
 | nil=>intro ps; rfl
 | cons f l ih=>intro ps; show (freeL (free1 ps f) l).length=_; rw [ih,free1_len]
theorem freeL_spec (l:List Int):∀ {S:HS} {n:Nat},HInv S n→HInv { S with ps:=freeL S.ps l } n∧∀ f,inR S.ps f→dOf (freeL S.ps l) f=if f ∈ l∧kd S.ps f=5 then zD else dOf S.ps f:=by
 induction l with
 | nil=>intro S n h; exact ⟨h,fun f _=>by rw [if_neg (by simp)]; rfl⟩
 | cons g l ih=>
  intro S n h;have e:=free1_eq (f:=g) h.wf;by_cases hg:inR S.ps g∧kd S.ps g=5
  ·rw [if_pos ⟨inP_iff.2 hg.1,hg.2⟩] at e;have h1:=free_step h hg.1 hg.2;obtain ⟨h2,h3⟩:=ih h1;refine ⟨?_,fun f hf=>?_⟩
   ·show HInv { S with ps:=freeL (free1 S.ps g) l } n;rw [e];exact h2
   ·show dOf (freeL (free1 S.ps g) l) f=_;rw [e];have hf2:inR (setP S.ps g zD) f:=by unfold inR at *; rw [setP_len]; exact hf
    have h4:=h3 f hf2;dsimp only at h4;rw [h4];by_cases efg:f=g
    ·subst efg;have hk:=(set_kd (d:=zD) hg.1).1;rw [if_neg (fun hh=>by rw [hk] at hh; exact absurd hh.2 (by decide)),dOf_set_same hg.1,if_pos ⟨.head _,hg.2⟩]
    ·have hk:=(kd_set_far (d:=zD) hg.1 hf efg).1;rw [hk,dOf_set_far hg.1.1 hf.1 efg];simp only [List.mem_cons,efg,false_or]
  ·rw [if_neg (fun hh=>hg ⟨inP_iff.1 hh.1,hh.2⟩)] at e;obtain ⟨h2,h3⟩:=ih h;refine ⟨?_,fun f hf=>?_⟩
   ·show HInv { S with ps:=freeL (free1 S.ps g) l } n;rw [e];exact h2
   ·show dOf (freeL (free1 S.ps g) l) f=_;rw [e,h3 f hf];by_cases efg:f=g
    ·subst efg;rw [if_neg (fun hh=>hg ⟨hf,hh.2⟩),if_neg (fun hh=>hg ⟨hf,hh.2⟩)]
    ·simp only [List.mem_cons,efg,false_or]
variable {x:X} {n t:Nat} {V:Int→Prop} {W:List Int}
theorem good_frees {ms:List Mk} {xs:List Int} (h:Good n ms W) (hx:∀ f ∈ xs,0≤f∧f < 16 * n):Good n (ms ++ xs.map fun f=>⟨2,0,f,⟨0,0,0,0⟩,0,0⟩) W:=by
 induction xs generalizing ms with
 | nil=>simpa using h
 | cons f xs ih=>
  obtain ⟨h0,h1⟩:=hx f (.head _);have hg:Mk.go ⟨2,0,f,⟨0,0,0,0⟩,0,0⟩ W=W:=rfl;have:=ih (ms:=ms ++ [⟨2,0,f,⟨0,0,0,0⟩,0,0⟩]) (by
   have:=Good.snoc (k:=⟨2,0,f,⟨0,0,0,0⟩,0,0⟩) h ⟨h0,h1,fun hd=>(by cases hd),fun h3=>(by cases h3)⟩;rwa [hg] at this) (fun f' hf'=>hx f' (.tail _ hf'))
  simpa using this
theorem adv_facts (s:Ep):s.advance.wt=s.wt∧s.advance.pins=s.pins∧(s.advance.now=s.now∨(s.advance.now=s.now+1∧∀ (c:Nat) p,s.pins[c]?=some p→p=-1∨p=s.now)):=by
 unfold Ep.advance;split
 ·rename_i h;refine ⟨rfl,rfl,.inr ⟨rfl,fun c p hp=>?_⟩⟩;unfold Ep.ready at h;rw [List.all_eq_true] at h;have:=h p (List.mem_of_getElem? hp);simpa using this
 ·exact ⟨rfl,rfl,.inl rfl⟩
theorem XInv.free (h:XInv x n t V W) {xs:List Int} (hx:mayFree x xs):∃ V',XInv (goFree x xs) n (t+1) V' W:=by
 obtain ⟨ewt,epin,enow⟩:=adv_facts x.ep;obtain ⟨hi2,hd⟩:=freeL_spec xs h.hi;have hx5:∀ f ∈ xs,∃ e,x.ep.wt f=some e∧e+2≤x.ep.advance.now∧inR x.S.ps f∧kd x.S.ps f=5:=fun f hf=>by
  obtain ⟨e,h1,h2⟩:=hx f hf;rw [ewt] at h1;obtain ⟨q1,q2,_⟩:=h.wt f e h1;exact ⟨e,h1,h2,q1,q2⟩
 have hin:∀ {f},inR (freeL x.S.ps xs) f↔inR x.S.ps f:=by intro f; unfold inR; rw [freeL_len]
 have hkd:∀ {f},inR x.S.ps f→f ∉ xs→kd (freeL x.S.ps xs) f=kd x.S.ps f:=fun {f} h1 h2=>by
  unfold kd;rw [hd f h1,if_neg (fun hh=>h2 hh.1)]
 have hk0:∀ {f},f ∈ xs→kd (freeL x.S.ps xs) f=0:=fun {f} h1=>by
  obtain ⟨_,_,_,h2,h3⟩:=hx5 f h1;unfold kd;rw [hd f h2,if_pos ⟨h1,h3⟩]
 have hpr:∀ (c:Nat) (p:Int),x.ep.pins[c]?=some p→p=-1∨(0≤p∧x.ep.advance.now≤p+1∧p≤x.ep.advance.now):=fun c p hp=>by
  rcases h.pr c p hp with h1 | ⟨h1,h2,h3⟩
  ·exact .inl h1
  ·rcases enow with e | ⟨e,hr⟩
   ·right; omega
   ·rcases hr c p hp with h4 | h4
    ·exact .inl h4
    ·right; omega
 have held:∀ (c:Nat) (z:Cpu) (f:Int),x.cp[c]?=some z→z.ph=2∨z.ph=3→HeldBy x.ep c f→f ∉ xs:=fun c z f hz hph hh hf=>by
  obtain ⟨e,h1,h2,_⟩:=hx5 f hf;obtain ⟨p,hp,hpe⟩:=hh e h1;have hne:p≠-1:=fun e0=>by
   rw [e0] at hp;exact (h.pn c z hz).1 hp hph
  rcases hpr c p hp with h3 | ⟨_,h3,_⟩
  ·exact hne h3
  ·omega
 have wt':∀ {f e},(x.ep.advance.drop xs).wt f=some e→x.ep.wt f=some e∧f ∉ xs:=fun {f e} hf=>by
  unfold Ep.drop at hf;dsimp only at hf;split at hf
  ·cases hf
  ·rw [ewt] at hf;exact ⟨hf,by assumption⟩
 have hheld:∀ {c f},HeldBy x.ep c f→HeldBy (x.ep.advance.drop xs) c f:=fun {c f} hh e he=>by
  obtain ⟨p,hp,h1⟩:=hh e (wt' he).1;refine ⟨p,?_,h1⟩;show x.ep.advance.pins[c]?=some p;rw [epin];exact hp
 have hnow:x.ep.now≤x.ep.advance.now∧x.ep.advance.now≤x.ep.now+1:=by
  rcases enow with e | ⟨e,_⟩ <;> omega
 refine ⟨fun f=>V f∧f ∉ xs,hi2.up (Nat.le_succ _),(freeL_len _ _).trans h.pl,fun f hf=>?_,fun f h1 h2=>?_,fun f j hf hj=>h.me f j hf.1 hj,h.wl,good_frees h.gd fun f hf=>?_,fun f h1 h2=>?_,fun f e hf=>?_,by show x.ep.advance.pins.length=_; rw [epin]; exact h.el,h.bl,fun c p hp=>?_,fun c z hz=>?_,fun c z q hz hc y hy=>?_,
  fun f e hf c z hz y hy=>h.nl f e (wt' hf).1 c z hz y hy,fun c z hz hph=>?_,fun c z hz hph=>?_,fun c z hz hph=>?_,h.wd,h.id,h.so,h.op,?_,h.ca⟩
 ·obtain ⟨h1,h2⟩:=h.v1 f hf.1;exact ⟨hin.2 h1,by show kd (freeL x.S.ps xs) f=4∨kd (freeL x.S.ps xs) f=5; rw [hkd h1 hf.2]; exact h2⟩
 ·have h3:f ∉ xs:=fun hm=>by
   have:=hk0 hm;rw [show kd (goFree x xs).S.ps f=kd (freeL x.S.ps xs) f from rfl,this] at h2;exact absurd h2 (by decide)
  have h4:=hin.1 h1;refine ⟨h.v4 f h4 ?_,h3⟩;rw [← hkd h4 h3];exact h2
 ·obtain ⟨_,_,_,⟨q1,q2⟩,_⟩:=hx5 f hf;rw [h.pl] at q2;omega
 ·have h3:f ∉ xs:=fun hm=>by
   have:=hk0 hm;rw [show kd (goFree x xs).S.ps f=kd (freeL x.S.ps xs) f from rfl,this] at h2;exact absurd h2 (by decide)
  have h4:=hin.1 h1;show knNot x.kn xs f=true;unfold knNot;rw [h.kn f h4 (by rw [← hkd h4 h3]; exact h2),Bool.true_and,Bool.not_eq_true',← Bool.not_eq_true,List.contains_iff_mem];exact h3
 ·obtain ⟨h1,h2⟩:=wt' hf;obtain ⟨q1,q2,q3⟩:=h.wt f e h1;refine ⟨hin.2 q1,?_,?_⟩
  ·show kd (freeL x.S.ps xs) f=5;rw [hkd q1 h2];exact q2
  ·show e≤x.ep.advance.now;omega
 ·have hp:x.ep.advance.pins[c]?=some p:=hp;rw [epin] at hp;exact hpr c p hp
 ·show x.ep.advance.pins[c]?=some (-1)↔_;rw [epin];exact h.pn c z hz
 ·obtain ⟨a1,a2,a3⟩:=h.li c z q hz hc y hy;refine ⟨⟨a1,fun hm=>?_⟩,a2,a3⟩;obtain ⟨e,h1,_⟩:=hx5 _ hm;exact h.nl _ e h1 c z hz y hy rfl
 ·obtain ⟨h1,h2⟩:=h.re c z hz hph;exact ⟨⟨h1,held c z _ hz (.inr hph) h2⟩,hheld h2⟩
 ·obtain ⟨⟨l,p,a,vm,ok⟩,h2⟩:=h.wk c z hz hph;refine ⟨⟨l,p,a,vm,?_⟩,hheld h2⟩;rcases ok with h3 | ⟨h3,h4,h5,h6⟩
  ·exact .inl h3
  ·refine .inr ⟨hin.2 h3,?_,fun hv=>h5 hv.1,h6⟩;show kd (freeL x.S.ps xs) _=5;rw [hkd h3 (held c z _ hz (.inl hph) h2)];exact h4
 ·have hw:=h.wa c z hz hph;refine ⟨hw.r,fun f hf=>?_,hw.q,hw.l⟩;obtain ⟨h1,h2,h3⟩:=hw.f f hf;have h4:f ∉ xs:=fun hm=>by
   obtain ⟨e,h5,_⟩:=hx5 f hm;rw [h3] at h5;cases h5
  refine ⟨hin.2 h1,?_,?_⟩
  ·show kd (freeL x.S.ps xs) f=5;rw [hkd h1 h4];exact h2
  ·show (if f ∈ xs then none else x.ep.advance.wt f)=none;rw [if_neg h4,ewt];exact h3
 ·have:=h.ti;show x.bx.op.length≤t+1∧x.ep.advance.now≤((t+1:Nat):Int)∧0≤x.ep.advance.now;omega
theorem XInv.up (h:XInv x n t V W):XInv x n (t+1) V W:=
 ⟨h.hi.up (Nat.le_succ _),h.pl,h.v1,h.v4,h.me,h.wl,h.gd,h.kn,h.wt,h.el,h.bl,h.pr,h.pn,h.li,h.nl,h.re,h.wk,h.wa,h.wd,h.id,h.so,h.op,h.ti',h.ca⟩
theorem XInv.rest (h:XInv x n t V W) {i:Nat} {u:Cpu} (hu:x.cp[i]?=some u) (hp:u.ph≠4):XInv { x with ep:=x.ep.set i (-1),cp:=x.cp.set i (Cpu.rest u.ls) } n t V W:=by
 have hil:i < x.ep.pins.length:=by rw [h.el]; exact (List.getElem?_eq_some_iff.1 hu).1
 have epw:(x.ep.set i (-1)).wt=x.ep.wt∧(x.ep.set i (-1)).now=x.ep.now:=by unfold Ep.set; split <;> exact ⟨rfl,rfl⟩
 have pins:∀ c,(x.ep.set i (-1)).pins[c]?=if c=i then some (-1) else x.ep.pins[c]?:=fun c=>by
  unfold Ep.set;obtain ⟨p,hp⟩:∃ p,x.ep.pins[i]?=some p:=⟨_,List.getElem?_eq_getElem hil⟩;rw [List.getD_eq_getElem?_getD,hp,Option.getD_some];by_cases e:p=-1
  ·rw [if_pos (by rw [e])];split
   ·rename_i e2;rw [e2,hp,e]
   ·rfl
  ·have e3:(p == -1)=false:=beq_eq_false_iff_ne.2 e;rw [if_neg (by rw [e3]; decide)];dsimp only;split
   ·rename_i e2;rw [e2,List.getElem?_set_self hil]
   ·rename_i e2;rw [List.getElem?_set_ne (fun h=>e2 h.symm)]
 have plen:(x.ep.set i (-1)).pins.length=x.ep.pins.length:=by unfold Ep.set; split; rfl; simp
 have hheld:∀ {c f},c≠i→HeldBy x.ep c f→HeldBy (x.ep.set i (-1)) c f:=fun {c f} hc hh e he=>by
  rw [epw.1] at he;obtain ⟨p,hp,h1⟩:=hh e he;exact ⟨p,by rw [pins c,if_neg hc]; exact hp,h1⟩
 refine ⟨h.hi,h.pl,h.v1,h.v4,h.me,h.wl,h.gd,h.kn,fun f e hf=>?_,?_,by rw [List.length_set]; exact h.bl,fun c p hp'=>?_,fun c z hz=>?_,fun c z q hz hc y hy=>?_,fun f e hf c z hz y hy=>?_,fun c z hz hph=>?_,fun c z hz hph=>?_,fun c z hz hph=>?_,
  fun c z c' z' hz hz' hph hph' hne=>?_,fun c q hc b hb=>?_,h.so,h.op,?_,fun c z hz=>?_⟩
 ·have hf:(x.ep.set i (-1)).wt f=some e:=hf;rw [epw.1] at hf;show _∧_∧e≤(x.ep.set i (-1)).now;rw [epw.2];exact h.wt f e hf
 ·show (x.ep.set i (-1)).pins.length=_;rw [plen,List.length_set];exact h.el
 ·have hp':(x.ep.set i (-1)).pins[c]?=some p:=hp';rw [pins c] at hp';show p=-1∨(0≤p∧(x.ep.set i (-1)).now≤p+1∧p≤(x.ep.set i (-1)).now);rw [epw.2];split at hp'
  ·cases hp';exact .inl rfl
  ·exact h.pr c p hp'
 ·show (x.ep.set i (-1)).pins[c]?=some (-1)↔_;rw [pins c];rcases set_get hz with ⟨rfl,rfl,_⟩ | ⟨h1,h2⟩
  ·rw [if_pos rfl];exact ⟨fun _=>by show ¬ ((0:Int)=2∨(0:Int)=3); omega,fun _=>rfl⟩
  ·rw [if_neg h1];exact h.pn c z h2
 ·rcases set_get hz with ⟨rfl,rfl,_⟩ | ⟨h1,h2⟩
  ·exact h.li c u q hu hc y hy
  ·exact h.li c z q h2 hc y hy
 ·have hf2:(x.ep.set i (-1)).wt f=some e:=hf;rw [epw.1] at hf2;rcases set_get hz with ⟨rfl,rfl,_⟩ | ⟨h1,h2⟩
  ·exact h.nl f e hf2 c u hu y hy
  ·exact h.nl f e hf2 c z h2 y hy
 ·rcases set_get hz with ⟨rfl,rfl,_⟩ | ⟨h1,h2⟩
  ·exact absurd hph (by show ¬ (0:Int)=3; decide)
  ·exact ⟨(h.re c z h2 hph).1,hheld h1 (h.re c z h2 hph).2⟩
 ·rcases set_get hz with ⟨rfl,rfl,_⟩ | ⟨h1,h2⟩
  ·exact absurd hph (by show ¬ (0:Int)=2; decide)
  ·exact ⟨(h.wk c z h2 hph).1,hheld h1 (h.wk c z h2 hph).2⟩
 ·rcases set_get hz with ⟨rfl,rfl,_⟩ | ⟨h1,h2⟩
  ·exact absurd hph (by show ¬ (0:Int)=4; decide)
  ·have hw:=h.wa c z h2 hph;refine ⟨hw.r,fun f hf=>?_,hw.q,fun f hf c' z' q' hz' hc y hy he=>?_⟩
   ·show _∧_∧(x.ep.set i (-1)).wt f=none;rw [epw.1];exact hw.f f hf
   ·rcases set_get hz' with ⟨rfl,rfl,_⟩ | ⟨h3,h4⟩
    ·exact hw.l f hf c' u q' hu hc y hy he
    ·exact hw.l f hf c' z' q' h4 hc y hy he
 ·rcases set_get hz with ⟨rfl,rfl,_⟩ | ⟨h1,h2⟩
  ·exact absurd hph (by show ¬ (0:Int)=4; decide)
  ·rcases set_get hz' with ⟨rfl,rfl,_⟩ | ⟨h3,h4⟩
   ·exact absurd hph' (by show ¬ (0:Int)=4; decide)
   ·exact h.wd c z c' z' h2 h4 hph hph' hne
 ·obtain ⟨c',u',h1,h2,h3,h4⟩:=h.id c q hc b hb;refine ⟨c',u',h1,?_,h3,h4⟩;rw [List.getElem?_set_ne]
  ·exact h2
  ·rintro rfl;rw [hu] at h2;cases h2;exact hp h3
 ·show x.bx.op.length≤t∧(x.ep.set i (-1)).now≤(t:Int)∧0≤(x.ep.set i (-1)).now;rw [epw.2];exact h.ti
 ·rcases set_get hz with ⟨rfl,rfl,_⟩ | ⟨h1,h2⟩
  ·exact rest_fits _
  ·exact h.ca c z h2
theorem set_no {s:Ep} {i:Nat} (h:s.pins[i]?=some (-1)):s.set i (-1)=s:=by
 unfold Ep.set;rw [List.getD_eq_getElem?_getD,h,Option.getD_some,if_pos rfl]
theorem XInv.rest' (h:XInv x n t V W) {i:Nat} {u:Cpu} (hu:x.cp[i]?=some u) (hp:u.ph=0∨u.ph=1):XInv { x with cp:=x.cp.set i (Cpu.rest u.ls) } n t V W:=by
 have:=h.rest hu (by omega);rwa [set_no ((h.pn i u hu).2 (by omega))] at this
end
end Go.Proofs.YtadgpnoealegiaaGreat
