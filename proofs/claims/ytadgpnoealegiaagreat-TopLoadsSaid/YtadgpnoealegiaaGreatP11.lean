import Derived.Test.YtadgpnoealegiaaGreatP10
namespace Go.Proofs.YtadgpnoealegiaaGreat
open Go.RowKit
open Go.Lib (hid)
set_option maxRecDepth 100000
set_option maxHeartbeats 20000000
theorem zeros_len (L:List Int) (f:Int):∀ n,(zeros L f n).length=L.length
 | 0=>rfl
 | n+1=>by
  unfold zeros st;split <;> simp [zeros_len L f n]
theorem zeros_far {L:List Int} {f w:Int}:∀ n,(∀ i:Nat,i < n→w≠16 * f+i)→ld (zeros L f n) w=ld L w
 | 0,_=>rfl
 | n+1,h=>by
  unfold zeros;rw [ld_st_far (h n (by omega)).symm,zeros_far n fun i hi=>h i (by omega)]
theorem zeros_in {L:List Int} {f:Int} {i:Nat}:∀ n,i < n→0≤f→16 * f+n≤L.length→ld (zeros L f n) (16 * f+i)=0
 | 0,h,_,_=>absurd h (by omega)
 | n+1,h,h0,h1=>by
  unfold zeros;by_cases e:i=n
  ·subst e;rw [ld_st_same (by omega) (by rw [zeros_len]; omega)]
  ·rw [ld_st_far (by omega),zeros_in n (by omega) h0 (by omega)]
theorem dOf_set_same {ps:List D} {f:Int} {d:D} (h:inR ps f):dOf (setP ps f d) f=d:=by
 unfold dOf setP;have h1:=h.1;have h2:=h.2;rw [List.getD_eq_getElem?_getD,List.getElem?_set_self (by omega)];rfl
theorem dOf_set_far {ps:List D} {f x:Int} {d:D} (hf:0≤f) (hx:0≤x) (h:x≠f):dOf (setP ps f d) x=dOf ps x:=by
 unfold dOf setP;rw [List.getD_eq_getElem?_getD,List.getD_eq_getElem?_getD,List.getElem?_set_ne (by omega)]
theorem setP_len (ps:List D) (f:Int) (d:D):(setP ps f d).length=ps.length:=by unfold setP; simp
theorem setP_wf {ps:List D} {f:Int} {d:D} (h:∀ d ∈ ps,d.wf) (hd:d.wf):∀ x ∈ setP ps f d,x.wf:=by
 intro x hx;rcases List.mem_or_eq_of_mem_set hx with h1 | rfl
 ·exact h x h1
 ·exact hd
theorem freeN_mem {ps:List D} {f:Int}:f ∈ freeN ps↔inR ps f∧kd ps f=0:=by
 unfold freeN suchN suchTo inR kd;simp only [List.mem_map,List.mem_filter,List.mem_range];constructor
 ·rintro ⟨j,⟨h1,h2⟩,rfl⟩;exact ⟨⟨by omega,by omega⟩,by simpa using h2⟩
 ·rintro ⟨⟨h0,h1⟩,h2⟩;obtain ⟨j,rfl⟩:=Int.eq_ofNat_of_zero_le h0;exact ⟨j,⟨by omega,by simpa using h2⟩,rfl⟩
theorem suchN_nodup (ps:List D) (is:D→Bool):(suchN ps is).Nodup:=by
 unfold suchN suchTo;rw [List.Nodup,List.pairwise_map];exact ((List.nodup_range).filter _).imp (by intro a b h e; exact h (by omega))
theorem suchN_mem {ps:List D} {is:D→Bool} {f:Int}:f ∈ suchN ps is↔inR ps f∧is (dOf ps f)=true:=by
 unfold suchN suchTo inR;simp only [List.mem_map,List.mem_filter,List.mem_range];constructor
 ·rintro ⟨j,⟨h1,h2⟩,rfl⟩;exact ⟨⟨by omega,by omega⟩,h2⟩
 ·rintro ⟨⟨h0,h1⟩,h2⟩;obtain ⟨j,rfl⟩:=Int.eq_ofNat_of_zero_le h0;exact ⟨j,⟨by omega,h2⟩,rfl⟩
theorem free_len {ps:List D} {f:Int} {l:List Int} (h:freeN ps=f :: l) {d:D} (hd:d.k≠0):(freeN (setP ps f d)).length=l.length:=by
 have hf:inR ps f∧kd ps f=0:=freeN_mem.1 (by rw [h]; exact .head _);have e:freeN (setP ps f d)=(freeN ps).filter fun x=>decide (x≠f):=by
  unfold freeN suchN suchTo;rw [setP_len,List.filter_map,List.filter_filter];congr 1;apply List.filter_congr;intro j hj;have hj:=List.mem_range.1 hj;by_cases e:(j:Int)=f
  ·rw [e,dOf_set_same hf.1];simp [hd,e]
  ·rw [dOf_set_far hf.1.1 (by omega) e];simp [e]
 have hn:=suchN_nodup ps fun d=>d.k == 0
 change (freeN ps).Nodup at hn
 rw [e,h];rw [h,List.nodup_cons] at hn;rw [List.filter_cons,if_neg (by simp)];rw [List.filter_eq_self.2];intro x hx;have:x≠f:=fun e=>hn.1 (e ▸ hx);simpa using this
structure TStep (b:Bool) (vm:Nat) (L:List Int) (ps:List D) (G:GS) (L':List Int) (ps':List D) (G':GS):Prop where
 len:L'.length=L.length
 plen:ps'.length=ps.length
 wf:(∀ d ∈ ps,d.wf)→∀ d ∈ ps',d.wf
 fr:∀ x,0≤x→dOf ps' x=dOf ps x∨(if b=true then kd ps x=3∧ow ps x=vm∧kd ps' x=5∧rf ps' x=0∧ow ps' x=vm else kd ps x=0∧kd ps' x=3∧ow ps' x=vm∧rf ps' x=0)
 wo:∀ f (i:Nat),0≤f→i < 16→¬ (kd ps f=3∧ow ps f=vm)→kd ps f≠0→ld L' (16 * f+i)=ld L (16 * f+i)
 nd:∀ l q f,0≤f→G.nd l q=some f→G'.nd l q=some f∨(kd ps' f=5∧∀ i:Nat,i < 16→ld L' (16 * f+i)=0)
 root:G'.root=G.root
 tk:G'.tk=G.tk
theorem TStep.refl (b:Bool) (vm:Nat) (L:List Int) (ps:List D) (G:GS):TStep b vm L ps G L ps G:=
 ⟨rfl,rfl,fun h=>h,fun _ _=>.inl rfl,fun _ _ _ _ _ _=>rfl,fun _ _ _ _ h=>.inl h,rfl,rfl⟩
theorem TStep.trans {b:Bool} {vm:Nat} {L L1 L2:List Int} {ps ps1 ps2:List D} {G G1 G2:GS} (h:TStep b vm L ps G L1 ps1 G1) (k:TStep b vm L1 ps1 G1 L2 ps2 G2):TStep b vm L ps G L2 ps2 G2:=by
 have same:∀ x,dOf ps1 x=dOf ps x→kd ps1 x=kd ps x∧ow ps1 x=ow ps x∧rf ps1 x=rf ps x:=fun x e=>by unfold kd ow rf; rw [e]; exact ⟨rfl,rfl,rfl⟩
 have same2:∀ x,dOf ps2 x=dOf ps1 x→kd ps2 x=kd ps1 x∧ow ps2 x=ow ps1 x∧rf ps2 x=rf ps1 x:=fun x e=>by unfold kd ow rf; rw [e]; exact ⟨rfl,rfl,rfl⟩
 refine ⟨k.len.trans h.len,k.plen.trans h.plen,fun hw=>k.wf (h.wf hw),fun x hx=>?_,fun f i h0 hi h1 h2=>?_,fun l q f h0 hn=>?_,k.root.trans h.root,k.tk.trans h.tk⟩
 ·rcases h.fr x hx with h1 | h1
  ·rcases k.fr x hx with h2 | h2
   ·exact .inl (h2.trans h1)
   ·have:=same x h1;cases b <;> simp only [Bool.false_eq_true,if_false,if_true] at h2 ⊢ <;> exact .inr (by omega)
  ·rcases k.fr x hx with h2 | h2
   ·have:=same2 x h2;cases b <;> simp only [Bool.false_eq_true,if_false,if_true] at h1 ⊢ <;> exact .inr (by omega)
   ·cases b <;> simp only [Bool.false_eq_true,if_false,if_true] at h1 h2 <;> omega
 ·have e1:=h.wo f i h0 hi h1 h2;rcases h.fr f h0 with h3 | h3
  ·have:=same f h3;rw [k.wo f i h0 hi (by omega) (by omega),e1]
  ·exfalso;cases b <;> simp only [Bool.false_eq_true,if_false,if_true] at h3 <;> omega
 ·rcases h.nd l q f h0 hn with h1 | ⟨h1,h2⟩
  ·exact k.nd l q f h0 h1
  ·right;refine ⟨?_,fun i hi=>?_⟩
   ·rcases k.fr f h0 with h3 | h3
    ·have:=same2 f h3;omega
    ·cases b <;> simp only [Bool.false_eq_true,if_false,if_true] at h3 <;> omega
   ·rw [k.wo f i h0 hi (by omega) (by omega),h2 i hi]
theorem ntake_some {L:List Int} {ps:List D} {o:Int} {f:Int} {l:List Int} (h:freeN ps=f :: l):ntakeN L ps o=(zeros L f 16,setP ps f ⟨3,o,0,0⟩,f,0):=by unfold ntakeN; rw [h]
theorem fill_tree {vm p:Nat} (hv0:1≤vm) (hv1:vm≤16) (hp:p < 65536):∀ (l:Nat) (L:List Int) (ps:List D) (G:GS) (g:Int),Tree L ps vm G→L.length=16 * ps.length→ps.length≤4096→l≤3→G.nd l (pre p (l+1))=some g →
 (0 < l→G.nd (l - 1) (pre p l)=none)→l≤(freeN ps).length →
 ∃ G' f,Tree (fillN p vm l L ps (atN g p l)).1 (fillN p vm l L ps (atN g p l)).2.1 vm G'∧TStep false vm L ps G (fillN p vm l L ps (atN g p l)).1 (fillN p vm l L ps (atN g p l)).2.1 G'∧G'.nd 0 (pre p 1)=some f∧(fillN p vm l L ps (atN g p l)).2.2=atN f p 0∧G'.lf=G.lf
 | 0,L,ps,G,g,t,_,_,_,hg,_,_=>⟨G,g,t,TStep.refl _ _ _ _ _,hg,rfl,rfl⟩
 | l+1,L,ps,G,g,t,hlen,hps,hl,hg,hn,hfree=>by
  have hn:=hn (Nat.succ_pos _);rw [Nat.add_sub_cancel] at hn;cases hf:freeN ps with
  | nil=>rw [hf] at hfree; simp at hfree
  | cons f rest=>
   have hfm:inR ps f∧kd ps f=0:=freeN_mem.1 (by rw [hf]; exact .head _);unfold fillN;rw [ntake_some hf];dsimp only;have hd:dOf (setP ps f ⟨3,vm,0,0⟩) f=⟨3,vm,0,0⟩:=dOf_set_same hfm.1;have hfar:∀ x,0≤x→x≠f→dOf (setP ps f ⟨3,vm,0,0⟩) x=dOf ps x:=fun x h0 h=>dOf_set_far hfm.1.1 h0 h;have hz:∀ i:Nat,i < 16→ld (zeros L f 16) (16 * f+i)=0:=fun i hi=>zeros_in 16 hi hfm.1.1 (by have:=hfm.1.2; omega);have hw:∀ x (i:Nat),x≠f→i < 16→ld (zeros L f 16) (16 * x+i)=ld L (16 * x+i):=fun x i h hi=>zeros_far 16 fun j hj=>word_ne (.inl h) hi hj;have t1:=t.addNode (ps':=setP ps f ⟨3,vm,0,0⟩) (L':=zeros L f 16) hlen (by omega) hp hg hn (setP_len _ _ _) hfm.1 hfm.2 (by unfold kd ow rf; rw [hd]; exact ⟨rfl,rfl,rfl⟩) hfar hz hw (zeros_len _ _ _);have hgr:=t.rng _ _ _ hg;have hwf3:D.wf ⟨3,vm,0,0⟩:=⟨rfl,by simp,by simp,by simp,by simp; omega,.inr (.inl ⟨rfl,by simp; omega⟩)⟩;have s1:TStep false vm L ps G (layN (zeros L f 16) (atN g p (l+1)) (leadsE f)) (setP ps f ⟨3,vm,0,0⟩) { G with nd:=fun l' q'=>if l'=l∧q'=pre p (l+1) then some f else G.nd l' q' }:=by
    refine ⟨by unfold layN; rw [st_len,zeros_len],setP_len _ _ _,fun h=>setP_wf h hwf3,fun x hx=>?_,fun x i h0 hi h1 h2=>?_,fun l' q' x h0 h=>.inl ?_,rfl,rfl⟩
    ·by_cases e:x=f
     ·subst e;right;unfold kd ow rf;rw [hd];exact ⟨hfm.2,rfl,rfl,rfl⟩
     ·exact .inl (hfar x hx e)
    ·have hxf:x≠f:=by
      rintro rfl;exact h2 hfm.2
     unfold layN;rw [at_pre,ld_st_far,hw x i hxf hi];refine word_ne (.inl ?_) (Nat.mod_lt _ (by decide)) hi;rintro rfl;exact h1 ⟨hgr.2.2.2.1,hgr.2.2.2.2.1⟩
    ·dsimp only;rw [if_neg]
     ·exact h
     ·rintro ⟨rfl,rfl⟩;rw [hn] at h;cases h
   obtain ⟨G',f',q1,q2,q3,q4,q5⟩:=fill_tree hv0 hv1 hp l (layN (zeros L f 16) (atN g p (l+1)) (leadsE f)) (setP ps f ⟨3,vm,0,0⟩) _ f t1 (by unfold layN; rw [st_len,zeros_len,setP_len]; exact hlen) (by rw [setP_len]; exact hps) (by omega) (by dsimp only; rw [if_pos ⟨rfl,rfl⟩])
    (fun h0=>by
     dsimp only;rw [if_neg (by omega)];cases hc:G.nd (l - 1) (pre p l) with
     | none=>rfl
     | some y=>
      exfalso;obtain ⟨y',hy'⟩:=t.up _ _ _ hc (by omega);rw [show l - 1+1=l by omega,← pre_succ,hn] at hy';cases hy')
    (by rw [free_len hf (by simp)]; rw [hf] at hfree; simp at hfree; exact hfree)
   exact ⟨G',f',q1,s1.trans q2,q3,q4,q5⟩
theorem zeroF_iff {L:List Int} {f:Int} {n:Nat}:zeroF L f n=true↔∀ i:Nat,i < n→ld L (16 * f+i)=0:=by
 unfold zeroF;simp [List.all_eq_true]
theorem nextD_ret {d:D} (hk:d.k=3∨d.k=4) (hr:d.r=0) (o:Int):nextD d 5 o=(⟨5,d.o,0,0⟩,0):=by
 obtain ⟨k,o',r,e⟩:=d;dsimp only at hk hr;subst hr;rcases hk with rfl | rfl <;> rfl
theorem turn_ret {ps:List D} {f:Int} (h:inR ps f) (hk:kd ps f=3∨kd ps f=4) (hr:rf ps f=0) (o:Int):(turnN ps f 5 o).1=setP ps f ⟨5,ow ps f,0,0⟩:=by
 unfold turnN changeN inP;have h1:=h.1;have h2:=h.2;rw [if_pos (by simp; omega)];have e:=nextD_ret hk hr o
 change (if (nextD (dOf ps f) 5 o).2=0 then (setP ps f (nextD (dOf ps f) 5 o).1,(0:Int)) else (ps,(nextD (dOf ps f) 5 o).2)).1=_
 generalize nextD (dOf ps f) 5 o=R at e ⊢;subst e;rfl
theorem set_kd {ps:List D} {f:Int} {d:D} (h:inR ps f):kd (setP ps f d) f=d.k∧ow (setP ps f d) f=d.o∧rf (setP ps f d) f=d.r:=by
 unfold kd ow rf;rw [dOf_set_same h];exact ⟨rfl,rfl,rfl⟩
inductive Up (G:GS) (p:Nat):List Pl→Prop
 | root {f:Int} (h:G.nd 3 (pre p 4)=some f):Up G p [⟨f,3,atN f p 3⟩]
 | cons {l:Nat} {f g:Int} {r:List Pl} (hl:l < 3) (h:G.nd l (pre p (l+1))=some f) (hu:Up G p (⟨g,(l+1:Nat),atN g p (l+1)⟩ :: r)):Up G p (⟨f,l,atN f p l⟩ :: ⟨g,(l+1:Nat),atN g p (l+1)⟩ :: r)
theorem Up.head {G:GS} {p:Nat} {x:Pl} {r:List Pl} (h:Up G p (x :: r)):∃ l:Nat,l≤3∧x.l=l∧x.w=atN x.f p l∧G.nd l (pre p (l+1))=some x.f:=by
 cases h with
 | root h=>exact ⟨3,by omega,rfl,rfl,h⟩
 | cons hl h hu=>exact ⟨_,by omega,rfl,rfl,h⟩
theorem Up.keep {G G':GS} {p l:Nat} (hk:∀ l' q,l < l'→G'.nd l' q=G.nd l' q):∀ {r:List Pl} {f:Int} {l':Nat},Up G p (⟨f,l',atN f p l'⟩ :: r)→l < l'→Up G' p (⟨f,l',atN f p l'⟩ :: r):=by
 intro r
 induction r with
 | nil=>
  intro f l' h hl;obtain ⟨k,hk1,hk2,hk3,hk4⟩:=h.head;dsimp only at hk2;cases h with
  | root h=>exact .root (by rw [hk _ _ (by omega)]; exact h)
 | cons y r ih=>
  intro f l' h hl;cases h with
  | cons hl3 h hu=>exact .cons hl3 (by rw [hk _ _ (by omega)]; exact h) (ih hu (by omega))
theorem thin_tree {vm p:Nat} (hv1:vm≤16) (hv0:1≤vm):∀ (l:List Pl) (L:List Int) (ps:List D) (G:GS),Tree L ps vm G→L.length=16 * ps.length→ps.length≤4096→Up G p l →
 ∃ G',Tree (thinR L ps l).1 (thinR L ps l).2 vm G'∧TStep true vm L ps G (thinR L ps l).1 (thinR L ps l).2 G'∧G'.lf=G.lf
 | [],L,ps,G,_,_,_,h=>by cases h
 | [x],L,ps,G,t,_,_,_=>⟨G,by unfold thinR; exact t,by unfold thinR; exact TStep.refl _ _ _ _ _,rfl⟩
 | x :: y :: r,L,ps,G,t,hlen,hps,h=>by
  unfold thinR;cases h with
  | @cons l f g _ hl hf hu=>
   dsimp only;by_cases hzz:zeroF L f 16=true
   ·rw [if_pos hzz];have hz:=zeroF_iff.1 hzz;have hfr:=t.rng _ _ _ hf;obtain ⟨k,_,hk2,hk3,hg⟩:=hu.head;dsimp only at hk2 hk3 hg;have hk2:l+1=k:=by exact_mod_cast hk2
    subst hk2;have hgr:=t.rng _ _ _ hg;rw [turn_ret hfr.2.2.1 (.inl hfr.2.2.2.1) hfr.2.2.2.2.2];have hd:dOf (setP ps f ⟨5,ow ps f,0,0⟩) f=⟨5,ow ps f,0,0⟩:=dOf_set_same hfr.2.2.1;have hfar:∀ x,0≤x→x≠f→dOf (setP ps f ⟨5,ow ps f,0,0⟩) x=dOf ps x:=fun x h0 h=>dOf_set_far hfr.2.2.1.1 h0 h;have hgf:g≠f:=by
     rintro rfl;have:=(t.inj _ _ _ _ _ hg hf).1;omega
    have t1:=t.delNode (ps':=setP ps f ⟨5,ow ps f,0,0⟩) hlen hl hg hf hz hps (setP_len _ _ _) hfar;have hwf5:D.wf ⟨5,ow ps f,0,0⟩:=by
     rw [hfr.2.2.2.2.1];exact ⟨rfl,by simp,by simp,by simp,by simp; omega,.inr (.inr (.inr ⟨rfl,rfl⟩))⟩
    have s1:TStep true vm L ps G (st L (atN g p (l+1)) 0) (setP ps f ⟨5,ow ps f,0,0⟩) { G with nd:=fun l' q'=>if l'=l∧q'=pre p (l+1) then none else G.nd l' q' }:=by
     refine ⟨st_len _ _ _,setP_len _ _ _,fun h=>setP_wf h hwf5,fun x hx=>?_,fun x i h0 hi h1 h2=>?_,fun l' q' x h0 h=>?_,rfl,rfl⟩
     ·by_cases e:x=f
      ·subst e;right;have q:=set_kd (d:=⟨5,ow ps x,0,0⟩) hfr.2.2.1;exact ⟨hfr.2.2.2.1,hfr.2.2.2.2.1,q.1,q.2.2,q.2.1.trans hfr.2.2.2.2.1⟩
      ·exact .inl (hfar x hx e)
     ·rw [at_pre,ld_st_far];refine word_ne (.inl ?_) (Nat.mod_lt _ (by decide)) hi;rintro rfl;exact h1 ⟨hgr.2.2.2.1,hgr.2.2.2.2.1⟩
     ·dsimp only;by_cases e:l'=l∧q'=pre p (l+1)
      ·obtain ⟨rfl,rfl⟩:=e;rw [hf] at h;cases h;right;refine ⟨by unfold kd; rw [hd],fun i hi=>?_⟩;rw [at_pre,ld_st_far (word_ne (.inl hgf) (Nat.mod_lt _ (by decide)) hi),hz i hi]
      ·left;rw [if_neg e];exact h
    obtain ⟨G',q1,q2,q3⟩:=thin_tree hv1 hv0 (⟨g,(l+1:Nat),atN g p (l+1)⟩ :: r) _ _ _ t1 (by rw [st_len,setP_len]; exact hlen) (by rw [setP_len]; exact hps)
     (Up.keep (l:=l) (fun l' q hl'=>by dsimp only; rw [if_neg (by omega)]) hu (by omega))
    exact ⟨G',q1,s1.trans q2,q3⟩
   ·rw [if_neg hzz];exact ⟨G,t,TStep.refl _ _ _ _ _,rfl⟩
theorem way_up {L:List Int} {ps:List D} {vm:Nat} {G:GS} (t:Tree L ps vm G) (hps:ps.length≤4096) (p:Nat):∀ (l:Nat) (f:Int) (acc:List Pl),G.nd l (pre p (l+1))=some f→Up G p (⟨f,l,atN f p l⟩ :: acc) →
 Up G p ((wayN L (p:Int) l f).reverse ++ acc)
 | 0,f,acc,h,hu=>by simpa [wayN] using hu
 | l+1,f,acc,h,hu=>by
  unfold wayN;rw [t.nd_at hps h];cases hn:G.nd l (pre p (l+1)) with
  | none=>
   dsimp only;rw [if_neg (by rw [zE_table]; decide)];simpa using hu
  | some x=>
   obtain ⟨hl,_,⟨h0,h1⟩,_⟩:=t.rng _ _ _ hn;have hl3:=(t.rng _ _ _ h).1;dsimp only;rw [if_pos (leads_table h0 (by omega))];have:=way_up t hps p l x (⟨f,(l+1:Nat),atN f p (l+1)⟩ :: acc) hn (.cons (by omega) hn hu);show Up G p ((_ :: wayN L (p:Int) l x).reverse ++ acc);rw [List.reverse_cons,List.append_assoc];exact this
def updL (lf:Nat→Option (Int×Int)) (p:Nat) (v:Option (Int×Int)):Nat→Option (Int×Int):=fun p'=>if p'=p then v else lf p'
theorem updL_same (lf:Nat→Option (Int×Int)) (p:Nat) (v:Option (Int×Int)):updL lf p v p=v:=by simp [updL]
theorem updL_far (lf:Nat→Option (Int×Int)) {p p':Nat} (v:Option (Int×Int)) (h:p'≠p):updL lf p v p'=lf p':=by simp [updL,h]
theorem TStep.kd4 {b:Bool} {vm:Nat} {L L':List Int} {ps ps':List D} {G G':GS} (h:TStep b vm L ps G L' ps' G') {x:Int} (h0:0≤x) (hk:kd ps x=4∨kd ps x=5):dOf ps' x=dOf ps x:=by
 rcases h.fr x h0 with h1 | h1
 ·exact h1
 ·cases b <;> simp only [Bool.false_eq_true,if_false,if_true] at h1 <;> omega
theorem leaf_step {b:Bool} {vm p:Nat} {L:List Int} {ps:List D} {G:GS} (t:Tree L ps vm G) {f:Int} (hf:G.nd 0 (pre p 1)=some f) (v:Option (Int×Int)) :
 TStep b vm L ps G (st L (atN f p 0) (lfW v)) ps { G with lf:=updL G.lf p v }:=by
 have hfr:=t.rng _ _ _ hf;refine ⟨st_len _ _ _,rfl,fun h=>h,fun _ _=>.inl rfl,fun x i h0 hi h1 h2=>?_,fun _ _ _ _ h=>.inl h,rfl,rfl⟩;rw [at_pre,ld_st_far];refine word_ne (.inl ?_) (Nat.mod_lt _ (by decide)) hi;rintro rfl;exact h1 ⟨hfr.2.2.2.1,hfr.2.2.2.2.1⟩
theorem map_fail {L:List Int} {ps:List D} {o r page f ri:Int} (h:(mapN L ps o r page f ri).2.2≠0):(mapN L ps o r page f ri).1=L∧(mapN L ps o r page f ri).2.1=ps:=by
 unfold mapN putN at *;split
 ·rename_i h1;rw [if_pos h1] at h;split
  ·exact ⟨rfl,rfl⟩
  ·rename_i h2;rw [if_neg h2] at h;split
   ·exact ⟨rfl,rfl⟩
   ·rename_i h3;rw [if_neg h3] at h;exact absurd rfl h
 ·exact ⟨rfl,rfl⟩
theorem right_ok {p f r:Int} (h:rightN p f r=0):0≤p∧p < 65536∧0≤f∧f < 4096∧1≤r∧r≤7:=by
 unfold rightN at h;split at h
 ·cases h
 ·split at h
  ·cases h
  ·omega
theorem map_tree {L:List Int} {ps:List D} {vm:Nat} {G:GS} (t:Tree L ps vm G) (hv0:1≤vm) (hv1:vm≤16) (hlen:L.length=16 * ps.length) (hps:ps.length≤4096) {p:Nat} {x ri:Int} (hx:inR ps x) (hk:kd ps x=4)
 (h:(mapN L ps vm G.root p x ri).2.2=0) :
 ∃ G',Tree (mapN L ps vm G.root p x ri).1 (mapN L ps vm G.root p x ri).2.1 vm G'∧TStep false vm L ps G (mapN L ps vm G.root p x ri).1 (mapN L ps vm G.root p x ri).2.1 G'∧G'.lf=updL G.lf p (some (x,ri))∧G.lf p=none:=by
 unfold mapN at *;split at h
 ·rename_i hr;obtain ⟨_,hp,_,_,r0,r1⟩:=right_ok hr;rw [if_pos hr];unfold putN at *;split at h
  ·cases h
  ·rename_i h2;rw [if_neg h2];split at h
   ·cases h
   ·rename_i h3;rw [if_neg h3];rcases t.page_spec hps p with ⟨f,y,rj,h4,_,_,h5⟩ | ⟨l,f,hl,h4,h5,h6,h7,_⟩ | h4
    ·exfalso;apply h2;unfold pageE at h5;rw [h5];rfl
    ·rw [h4] at h3 ⊢;dsimp only at h3 ⊢;rw [Int.toNat_natCast];obtain ⟨G1,f1,q1,q2,q3,q4,q5⟩:=fill_tree hv0 hv1 (by omega) l L ps G f t hlen hps hl h5 h6 (by omega);rw [q4];have e4:=q2.kd4 hx.1 (.inl hk);have t2:=q1.setLeaf (by rw [q2.len,q2.plen]; exact hlen) (p:=p) (by omega) q3 (some (x,ri)) (fun x' ri' e=>by
      cases e;exact ⟨r0,r1,by unfold inR at *; rw [q2.plen]; exact hx,by unfold kd at *; rw [e4]; exact hk⟩)
     refine ⟨_,t2,q2.trans (leaf_step q1 q3 (some (x,ri))),?_,h7⟩;show updL G1.lf p _=_;rw [q5]
    ·omega
 ·exact absurd h ‹_›
theorem query_page {L:List Int} {r:Int} {p:Nat} (hp:p < 65536):queryN L r p=if (pageE L p r).pr=true then ((pageE L p r).fr,(pageE L p r).ri,0) else (0,0,4):=by
 unfold queryN;rw [if_neg (by omega)]
theorem query_spec {L:List Int} {ps:List D} {vm:Nat} {G:GS} (t:Tree L ps vm G) (hps:ps.length≤4096) (page:Int) :
 ((queryN L G.root page).2.2=0∧∃ p:Nat,page=p∧p < 65536∧G.lf p=some ((queryN L G.root page).1,(queryN L G.root page).2.1))∨((queryN L G.root page).2.2≠0∧((0≤page∧page < 65536)→G.lf page.toNat=none)):=by
 by_cases h:page < 0∨65536≤page
 ·right;unfold queryN;rw [if_pos h];exact ⟨by simp,fun h1=>by omega⟩
 ·obtain ⟨p,rfl⟩:=Int.eq_ofNat_of_zero_le (show 0≤page by omega);have hp:p < 65536:=by omega
  rw [query_page hp];rcases t.page_spec hps p with ⟨f,x,ri,_,_,h1,h2⟩ | ⟨l,f,_,_,_,_,h1,h2⟩ | h1
  ·left;rw [h2];exact ⟨rfl,p,rfl,hp,h1⟩
  ·right;rw [h2];refine ⟨by decide,fun _=>?_⟩;rw [Int.toNat_natCast];exact h1
  ·omega
theorem unmap_tree {L:List Int} {ps:List D} {vm:Nat} {G:GS} (t:Tree L ps vm G) (hv0:1≤vm) (hv1:vm≤16) (hlen:L.length=16 * ps.length) (hps:ps.length≤4096) {p:Nat} {x ri:Int} (h:G.lf p=some (x,ri)) :
 ∃ G',Tree (unmapN L ps G.root p).1 (unmapN L ps G.root p).2 vm G'∧TStep true vm L ps G (unmapN L ps G.root p).1 (unmapN L ps G.root p).2 G'∧G'.lf=updL G.lf p none:=by
 have hp:=(t.leaf _ _ _ h).1;have hq:(queryN L G.root p).2.2=0:=by
  rcases query_spec t hps p with ⟨h1,_⟩ | ⟨_,h1⟩
  ·exact h1
  ·have:=h1 ⟨by omega,by omega⟩;rw [Int.toNat_natCast,h] at this;cases this
 unfold unmapN;rw [if_pos hq];rcases t.page_spec hps p with ⟨f,y,rj,h4,h5,_,_⟩ | ⟨l,f,hl,_,_,_,h7,_⟩ | h4
 ·rw [h4];dsimp only;have t1:=t.setLeaf hlen hp h5 none (fun _ _ e=>by cases e);have s1:TStep true vm L ps G (st L (atN f p 0) 0) ps { G with lf:=updL G.lf p none }:=leaf_step t h5 none;have hroot:G.nd 3 (pre p 4)=some G.root:=by rw [show pre p 4=0 by unfold pre; simp; omega]; exact t.root
  have hu:=way_up t hps p 3 G.root [] hroot (.root hroot);rw [List.append_nil] at hu;have hu1:∀ l,Up G p l→Up { G with lf:=updL G.lf p none } p l:=fun l hu=>by
   induction hu with
   | root h=>exact .root h
   | cons hl h _ ih=>exact .cons hl h ih
  obtain ⟨G',q1,q2,q3⟩:=thin_tree hv1 hv0 _ _ _ _ t1 (by rw [st_len]; exact hlen) hps (hu1 _ hu);exact ⟨G',q1,s1.trans q2,q3⟩
 ·rw [h] at h7;cases h7
 ·omega
theorem prot_tree {b:Bool} {L:List Int} {ps:List D} {vm:Nat} {G:GS} (t:Tree L ps vm G) (hlen:L.length=16 * ps.length) (hps:ps.length≤4096) {page ri:Int} :
 ((protN L G.root page ri).2≠0∧(protN L G.root page ri).1=L) ∨
 ((protN L G.root page ri).2=0∧∃ (p:Nat) (x rj:Int),page=p∧G.lf p=some (x,rj)∧Tree (protN L G.root page ri).1 ps vm { G with lf:=updL G.lf p (some (x,ri)) }∧TStep b vm L ps G (protN L G.root page ri).1 ps { G with lf:=updL G.lf p (some (x,ri)) }):=by
 unfold protN;by_cases hr:rightN page 0 ri=0
 ·rw [if_pos hr];obtain ⟨h0,hp,_,_,r0,r1⟩:=right_ok hr;obtain ⟨p,rfl⟩:=Int.eq_ofNat_of_zero_le h0;rcases t.page_spec hps p with ⟨f,x,rj,h4,h5,h6,h7⟩ | ⟨l,f,hl,_,_,_,_,h7⟩ | h4
  ·right;rw [h7,if_pos (show (leafE x rj).pr=true from rfl),h4];dsimp only;refine ⟨rfl,p,x,rj,rfl,h6,?_,?_⟩
   ·obtain ⟨_,_,_,b4,b5,_⟩:=t.leaf _ _ _ h6;exact t.setLeaf hlen (by omega) h5 (some (x,ri)) (fun x' ri' e=>by cases e; exact ⟨r0,r1,b4,b5⟩)
   ·exact leaf_step t h5 (some (x,ri))
  ·left;rw [h7,if_neg (by decide)];exact ⟨show (4:Int)≠0 by decide,rfl⟩
  ·omega
 ·left;rw [if_neg hr];exact ⟨hr,rfl⟩
structure HS where
 L:List Int
 ps:List D
 g:Nat→Option GS
 T:List (Nat×Int×Int)
def tkc (T:List (Nat×Int×Int)) (x:Int):Nat:=(T.filter fun t=>t.2.2 == x).length
def updG (g:Nat→Option GS) (vm:Nat) (v:Option GS):Nat→Option GS:=fun v'=>if v'=vm then v else g v'
theorem updG_same (g:Nat→Option GS) (vm:Nat) (v:Option GS):updG g vm v vm=v:=by simp [updG]
theorem updG_far (g:Nat→Option GS) {vm v':Nat} (v:Option GS) (h:v'≠vm):updG g vm v v'=g v':=by simp [updG,h]
structure GInv (ps:List D) (T:List (Nat×Int×Int)) (vm:Nat) (G:GS):Prop where
 own:∀ (p:Nat) x ri,G.lf p=some (x,ri)→G.tk p=none→ow ps x=vm
 one:∀ (p p':Nat) x ri ri',G.lf p=some (x,ri)→G.tk p=none→G.lf p'=some (x,ri')→G.tk p'=none→p=p'
 tkl:∀ (p:Int) id x,G.tk p=some (id,x)→0≤p∧p < 65536∧(∃ ri,G.lf p.toNat=some (x,ri))∧(vm,p,x) ∈ T
structure HCore (S:HS):Prop where
 len:S.L.length=16 * S.ps.length
 ps0:4≤S.ps.length
 ps1:S.ps.length≤4096
 wf:∀ d ∈ S.ps,d.wf
 gs:∀ vm G,S.g vm=some G→1≤vm∧vm≤16∧Tree S.L S.ps vm G∧GInv S.ps S.T vm G
 tkr:∀ vm p x,(vm,p,x) ∈ S.T→∃ G id,S.g vm=some G∧G.tk p=some (id,x)
 ndp:(S.T.map fun t=>(t.1,t.2.1)).Nodup
structure HInv (S:HS) (n:Nat):Prop extends HCore S where
 cnt:∀ x,inR S.ps x→(tkc S.T x:Int)≤rf S.ps x
 rmax:∀ x,inR S.ps x→rf S.ps x≤n
structure HStep (cov:Nat→Nat→Prop) (dead:Nat→Prop) (don:Option Int) (S S':HS):Prop where
 plen:S'.ps.length=S.ps.length
 keep:∀ x (j:Nat),inR S.ps x→j < 16→kd S.ps x=4∨kd S.ps x=5→ld S'.L (16 * x+j)=ld S.L (16 * x+j)
 k5:∀ x,inR S.ps x→kd S.ps x=5→kd S'.ps x=5
 k4:∀ x,inR S.ps x→kd S.ps x=4→kd S'.ps x=4∨kd S'.ps x=5
 new4:∀ x,inR S.ps x→kd S'.ps x=4→kd S.ps x=4∨don=some x
 donz:∀ x,don=some x→inR S.ps x∧kd S.ps x=0∧kd S'.ps x=4∧∀ j:Nat,j < 16→ld S'.L (16 * x+j)=0
 leaf:∀ vm G p x ri,S.g vm=some G→G.lf p=some (x,ri)→cov vm p∨∃ G' ri',S'.g vm=some G'∧G'.lf p=some (x,ri')
 node:∀ vm G l q f,S.g vm=some G→G.nd l q=some f→dead vm∨(∃ G',S'.g vm=some G'∧G'.nd l q=some f)∨(kd S'.ps f=5∧∀ j:Nat,j < 16→ld S'.L (16 * f+j)=0)
theorem HStep.refl (cov:Nat→Nat→Prop) (dead:Nat→Prop) (S:HS):HStep cov dead none S S:=
 ⟨rfl,fun _ _ _ _ _=>rfl,fun _ _ h=>h,fun _ _ h=>.inl h,fun _ _ h=>.inl h,fun _ h=>(by cases h),fun _ _ _ _ _ h1 h2=>.inr ⟨_,_,h1,h2⟩,fun _ _ _ _ _ h1 h2=>.inr (.inl ⟨_,h1,h2⟩)⟩
theorem HStep.mono {cov cov':Nat→Nat→Prop} {dead dead':Nat→Prop} {don:Option Int} {S S':HS} (h:HStep cov dead don S S') (h1:∀ v p,cov v p→cov' v p) (h2:∀ v,dead v→dead' v):HStep cov' dead' don S S':=
 ⟨h.plen,h.keep,h.k5,h.k4,h.new4,h.donz,fun vm G p x ri a b=>(h.leaf vm G p x ri a b).imp (h1 _ _) id,fun vm G l q f a b=>(h.node vm G l q f a b).imp (h2 _) id⟩
theorem HStep.trans {cov cov':Nat→Nat→Prop} {dead dead':Nat→Prop} {S S1 S2:HS} (c:HCore S) (h:HStep cov dead none S S1) (k:HStep cov' dead' none S1 S2) :
 HStep (fun v p=>cov v p∨cov' v p) (fun v=>dead v∨dead' v) none S S2:=by
 have hin:∀ x,inR S.ps x→inR S1.ps x:=fun x hx=>by unfold inR at *; rw [h.plen]; exact hx
 refine ⟨k.plen.trans h.plen,fun x j hx hj hk=>?_,fun x hx hk=>k.k5 x (hin x hx) (h.k5 x hx hk),fun x hx hk=>?_,fun x hx hk=>?_,fun _ h=>(by cases h),fun vm G p x ri h1 h2=>?_,fun vm G l q f h1 h2=>?_⟩
 ·rw [k.keep x j (hin x hx) hj,h.keep x j hx hj hk];rcases hk with hk | hk
  ·exact h.k4 x hx hk
  ·exact .inr (h.k5 x hx hk)
 ·rcases h.k4 x hx hk with h1 | h1
  ·exact k.k4 x (hin x hx) h1
  ·exact .inr (k.k5 x (hin x hx) h1)
 ·rcases k.new4 x (hin x hx) hk with h1 | h1
  ·exact h.new4 x hx h1
  ·cases h1
 ·rcases h.leaf vm G p x ri h1 h2 with h3 | ⟨G',ri',h3,h4⟩
  ·exact .inl (.inl h3)
  ·rcases k.leaf vm G' p x ri' h3 h4 with h5 | h5
   ·exact .inl (.inr h5)
   ·exact .inr h5
 ·rcases h.node vm G l q f h1 h2 with h3 | ⟨G',h3,h4⟩ | ⟨h3,h4⟩
  ·exact .inl (.inl h3)
  ·rcases k.node vm G' l q f h3 h4 with h5 | h5 | h5
   ·exact .inl (.inr h5)
   ·exact .inr (.inl h5)
   ·exact .inr (.inr h5)
  ·have hf:inR S.ps f:=((c.gs vm G h1).2.2.1.rng _ _ _ h2).2.2.1;right; right;refine ⟨k.k5 f (hin f hf) h3,fun j hj=>?_⟩;rw [k.keep f j (hin f hf) hj (.inr h3),h4 j hj]
end Go.Proofs.YtadgpnoealegiaaGreat
