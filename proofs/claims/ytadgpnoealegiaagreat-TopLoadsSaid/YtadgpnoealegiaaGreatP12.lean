import Derived.Test.YtadgpnoealegiaaGreatP11
namespace Go.Proofs.YtadgpnoealegiaaGreat
open Go.RowKit
open Go.Lib (hid)
set_option maxRecDepth 100000
set_option maxHeartbeats 20000000
theorem Tree.congr2 {L L':List Int} {ps ps':List D} {vm:Nat} {G:GS} (t:Tree L ps vm G) (hl:ps'.length=ps.length) (hn:∀ l q f,G.nd l q=some f→dOf ps' f=dOf ps f∧∀ i:Nat,i < 16→ld L' (16 * f+i)=ld L (16 * f+i))
 (h4:∀ p x ri,G.lf p=some (x,ri)→kd ps' x=4):Tree L' ps' vm G:=
 ⟨t.root,fun l q f h=>by
  obtain ⟨a1,a2,a3,a4⟩:=t.rng l q f h;unfold kd ow rf inR at *;rw [(hn l q f h).1,hl];exact ⟨a1,a2,a3,a4⟩,t.inj,t.up,
  fun l q f i h hi=>by
   rw [(hn _ _ _ h).2 i hi];exact t.wd l q f i h hi,
  fun q f i h hi=>by
   rw [(hn _ _ _ h).2 i hi];exact t.lw q f i h hi,
  fun p x ri h=>by
   obtain ⟨b1,b2,b3,b4,b5,b6⟩:=t.leaf p x ri h;exact ⟨b1,b2,b3,by unfold inR at *; rw [hl]; exact b4,h4 _ _ _ h,b6⟩⟩
section
variable {S:HS} {n:Nat}
theorem HCore.leaf4 (h:HCore S) {vm:Nat} {G:GS} (hg:S.g vm=some G) {p:Nat} {x ri:Int} (hl:G.lf p=some (x,ri)):inR S.ps x∧kd S.ps x=4:=by
 obtain ⟨_,_,_,b4,b5,_⟩:=(h.gs vm G hg).2.2.1.leaf _ _ _ hl;exact ⟨b4,b5⟩
theorem HCore.node3 (h:HCore S) {vm:Nat} {G:GS} (hg:S.g vm=some G) {l q:Nat} {f:Int} (hl:G.nd l q=some f):inR S.ps f∧kd S.ps f=3∧ow S.ps f=vm∧rf S.ps f=0:=by
 obtain ⟨_,_,a3,a4⟩:=(h.gs vm G hg).2.2.1.rng _ _ _ hl;exact ⟨a3,a4⟩
theorem HCore.taken4 (h:HCore S) {t:Nat×Int×Int} (ht:t ∈ S.T):inR S.ps t.2.2∧kd S.ps t.2.2=4:=by
 obtain ⟨G,id,hg,hk⟩:=h.tkr t.1 t.2.1 t.2.2 ht;obtain ⟨_,_,⟨ri,h3⟩,_⟩:=(h.gs _ _ hg).2.2.2.tkl _ _ _ hk;exact h.leaf4 hg h3
theorem HCore.tkc0 (h:HCore S) {x:Int} (hx:kd S.ps x≠4):tkc S.T x=0:=by
 unfold tkc;rw [List.length_eq_zero_iff,List.filter_eq_nil_iff];intro t ht e;have:=(h.taken4 ht).2;rw [show t.2.2=x by simpa using e] at this;exact hx this
theorem HCore.owner (h:HCore S) {x:Int} (hx:inR S.ps x):(S.ps[x.toNat]?=some (dOf S.ps x))∧(dOf S.ps x).wf:=by
 have h1:=hx.1;have h2:=hx.2;have e:S.ps[x.toNat]?=some (dOf S.ps x):=by
  unfold dOf;rw [List.getD_eq_getElem?_getD,List.getElem?_eq_getElem (by omega)];rfl
 exact ⟨e,h.wf _ (List.mem_of_getElem? e)⟩
theorem HCore.pool (h:HCore S) {L':List Int} {ps':List D} (hL:L'.length=S.L.length) (hp:ps'.length=S.ps.length) (hw:∀ d ∈ ps',d.wf)
 (hn:∀ vm G l q f,S.g vm=some G→G.nd l q=some f→dOf ps' f=dOf S.ps f∧∀ i:Nat,i < 16→ld L' (16 * f+i)=ld S.L (16 * f+i))
 (hl:∀ vm G p x ri,S.g vm=some G→G.lf p=some (x,ri)→kd ps' x=4∧ow ps' x=ow S.ps x):HCore { S with L:=L',ps:=ps' }:=
 ⟨by dsimp only; rw [hL,hp]; exact h.len,by dsimp only; rw [hp]; exact h.ps0,by dsimp only; rw [hp]; exact h.ps1,hw,fun vm G hg=>by
  obtain ⟨h1,h2,t,gi⟩:=h.gs vm G hg;refine ⟨h1,h2,t.congr2 hp (fun l q f hf=>hn vm G l q f hg hf) fun p x ri hx=>(hl vm G p x ri hg hx).1,fun p x ri hx ht=>?_,gi.one,gi.tkl⟩;rw [(hl vm G p x ri hg hx).2];exact gi.own p x ri hx ht,h.tkr,h.ndp⟩
theorem HCore.guest (h:HCore S) {vm:Nat} {G:GS} (hg:S.g vm=some G) {b:Bool} {L':List Int} {ps':List D} {G':GS} {T':List (Nat×Int×Int)} (ts:TStep b vm S.L S.ps G L' ps' G') (t':Tree L' ps' vm G') (tk':Int→Option (Int×Int))
 (gi:GInv ps' T' vm { G' with tk:=tk' }) (hT:∀ v p x,v≠vm→((v,p,x) ∈ T'↔(v,p,x) ∈ S.T)) (hr:∀ p x,(vm,p,x) ∈ T'→∃ id,tk' p=some (id,x)) (hd:(T'.map fun t=>(t.1,t.2.1)).Nodup) :
 HCore { L:=L',ps:=ps',g:=updG S.g vm (some { G' with tk:=tk' }),T:=T' }:=by
 obtain ⟨v1,v2,_,_⟩:=h.gs vm G hg;refine ⟨by dsimp only; rw [ts.len,ts.plen]; exact h.len,by dsimp only; rw [ts.plen]; exact h.ps0,by dsimp only; rw [ts.plen]; exact h.ps1,ts.wf h.wf,fun v G2 hg2=>?_,fun v p x hm=>?_,hd⟩
 ·dsimp only at hg2;by_cases e:v=vm
  ·subst e;rw [updG_same] at hg2;cases hg2;exact ⟨v1,v2,⟨t'.root,t'.rng,t'.inj,t'.up,t'.wd,t'.lw,t'.leaf⟩,gi⟩
  ·rw [updG_far _ _ e] at hg2;obtain ⟨w1,w2,t2,gi2⟩:=h.gs v G2 hg2;have hsame:∀ p x ri,G2.lf p=some (x,ri)→dOf ps' x=dOf S.ps x:=fun p x ri hx=>ts.kd4 (h.leaf4 hg2 hx).1.1 (.inl (h.leaf4 hg2 hx).2);refine ⟨w1,w2,t2.congr2 ts.plen (fun l q f hf=>?_) fun p x ri hx=>?_,fun p x ri hx ht=>?_,gi2.one,fun p id x hx=>?_⟩
   ·obtain ⟨a1,a2,a3,a4⟩:=h.node3 hg2 hf;refine ⟨?_,fun i hi=>ts.wo f i a1.1 hi (by omega) (by omega)⟩;rcases ts.fr f a1.1 with h1 | h1
    ·exact h1
    ·cases b <;> simp only [Bool.false_eq_true,if_false,if_true] at h1 <;> omega
   ·unfold kd;rw [hsame p x ri hx];exact (h.leaf4 hg2 hx).2
   ·unfold ow;rw [hsame p x ri hx];exact gi2.own p x ri hx ht
   ·obtain ⟨q1,q2,q3,q4⟩:=gi2.tkl p id x hx;exact ⟨q1,q2,q3,(hT v p x e).2 q4⟩
 ·dsimp only;by_cases e:v=vm
  ·subst e;obtain ⟨id,h1⟩:=hr p x hm;exact ⟨_,id,updG_same _ _ _,h1⟩
  ·rw [updG_far _ _ e];exact h.tkr v p x ((hT v p x e).1 hm)
theorem HStep.guest (h:HCore S) {vm:Nat} {G:GS} (hg:S.g vm=some G) {b:Bool} {L':List Int} {ps':List D} {G':GS} {T':List (Nat×Int×Int)} (ts:TStep b vm S.L S.ps G L' ps' G') (tk':Int→Option (Int×Int)) {cov:Nat→Nat→Prop} {dead:Nat→Prop}
 (hl:∀ p x ri,G.lf p=some (x,ri)→cov vm p∨∃ ri',G'.lf p=some (x,ri')) :
 HStep cov dead none S { L:=L',ps:=ps',g:=updG S.g vm (some { G' with tk:=tk' }),T:=T' }:=by
 have hk:∀ x,inR S.ps x→kd S.ps x=4∨kd S.ps x=5→kd ps' x=kd S.ps x:=fun x hx hk=>by unfold kd at *; rw [ts.kd4 hx.1 hk]
 refine ⟨ts.plen,fun x j hx hj hk=>ts.wo x j hx.1 hj (by omega) (by omega),fun x hx h5=>by dsimp only; rw [hk x hx (.inr h5)]; exact h5,fun x hx h4=>.inl (by dsimp only; rw [hk x hx (.inl h4)]; exact h4),fun x hx h4=>.inl ?_,fun _ h=>(by cases h),fun v G2 p x ri h1 h2=>?_,fun v G2 l q f h1 h2=>?_⟩
 ·dsimp only at h4;rcases ts.fr x hx.1 with h1 | h1
  ·unfold kd at *;rw [← h1];exact h4
  ·cases b <;> simp only [Bool.false_eq_true,if_false,if_true] at h1 <;> omega
 ·dsimp only;by_cases e:v=vm
  ·subst e;rw [hg] at h1;cases h1;rcases hl p x ri h2 with h3 | ⟨ri',h3⟩
   ·exact .inl h3
   ·exact .inr ⟨_,ri',updG_same _ _ _,h3⟩
  ·exact .inr ⟨G2,ri,by rw [updG_far _ _ e]; exact h1,h2⟩
 ·dsimp only;by_cases e:v=vm
  ·subst e;rw [hg] at h1;cases h1;rcases ts.nd l q f (h.node3 hg h2).1.1 h2 with h3 | h3
   ·exact .inr (.inl ⟨_,updG_same _ _ _,h3⟩)
   ·exact .inr (.inr h3)
  ·exact .inr (.inl ⟨G2,by rw [updG_far _ _ e]; exact h1,h2⟩)
theorem HStep.pool {L':List Int} {ps':List D} {cov:Nat→Nat→Prop} {dead:Nat→Prop} (hp:ps'.length=S.ps.length) (hw:∀ x (j:Nat),inR S.ps x→j < 16→kd S.ps x=4∨kd S.ps x=5→ld L' (16 * x+j)=ld S.L (16 * x+j))
 (h5:∀ x,inR S.ps x→kd S.ps x=5→kd ps' x=5) (h4:∀ x,inR S.ps x→kd S.ps x=4→kd ps' x=4∨kd ps' x=5) (hn:∀ x,inR S.ps x→kd ps' x=4→kd S.ps x=4):HStep cov dead none S { S with L:=L',ps:=ps' }:=
 ⟨hp,hw,h5,h4,fun x hx h=>.inl (hn x hx h),fun _ h=>(by cases h),fun vm G p x ri h1 h2=>.inr ⟨G,ri,h1,h2⟩,fun vm G l q f h1 h2=>.inr (.inl ⟨G,h1,h2⟩)⟩
theorem TStep.rf {b:Bool} {vm:Nat} {L L':List Int} {ps ps':List D} {G G':GS} (h:TStep b vm L ps G L' ps' G') {x:Int} (h0:0≤x):rf ps' x=rf ps x∨(rf ps' x=0∧kd ps x≠4):=by
 rcases h.fr x h0 with h1 | h1
 ·left;unfold Go.Proofs.YtadgpnoealegiaaGreat.rf;rw [h1]
 ·right;cases b <;> simp only [Bool.false_eq_true,if_false,if_true] at h1 <;> omega
theorem HCore.setD (h:HCore S) {x:Int} {d:D} (hx:inR S.ps x) (hd:d.wf) (hk:kd S.ps x≠3) (hl:∀ vm G p ri,S.g vm=some G→G.lf p=some (x,ri)→d.k=4∧d.o=ow S.ps x):HCore { S with ps:=setP S.ps x d }:=by
 refine h.pool (L':=S.L) rfl (setP_len _ _ _) (setP_wf h.wf hd) (fun vm G l q f hg hf=>?_) fun vm G p y ri hg hy=>?_
 ·obtain ⟨a1,a2,_⟩:=h.node3 hg hf;refine ⟨dOf_set_far hx.1 a1.1 ?_,fun _ _=>rfl⟩;rintro rfl;exact hk a2
 ·obtain ⟨b1,b2⟩:=h.leaf4 hg hy;by_cases e:y=x
  ·subst e;have q:=set_kd (d:=d) hx;obtain ⟨c1,c2⟩:=hl vm G p ri hg hy;exact ⟨by rw [q.1,c1],by rw [q.2.1,c2]⟩
  ·unfold kd ow;rw [dOf_set_far hx.1 b1.1 e];exact ⟨b2,rfl⟩
theorem kd_set_far {ps:List D} {x y:Int} {d:D} (hx:inR ps x) (hy:inR ps y) (h:y≠x):kd (setP ps x d) y=kd ps y∧ow (setP ps x d) y=ow ps y∧rf (setP ps x d) y=rf ps y:=by
 unfold kd ow rf;rw [dOf_set_far hx.1 hy.1 h];exact ⟨rfl,rfl,rfl⟩
def newG (f:Int):GS:=⟨f,fun _=>none,fun l q=>if l=3∧q=0 then some f else none,fun _=>none⟩
theorem create_step (h:HInv S n) {vm:Nat} (hv0:1≤vm) (hv1:vm≤16) (hg:S.g vm=none) {f:Int} {l:List Int} (hf:freeN S.ps=f :: l) {cov:Nat→Nat→Prop} {dead:Nat→Prop} :
 HInv { L:=zeros S.L f 16,ps:=setP S.ps f ⟨3,vm,0,0⟩,g:=updG S.g vm (some (newG f)),T:=S.T } n∧HStep cov dead none S { L:=zeros S.L f 16,ps:=setP S.ps f ⟨3,vm,0,0⟩,g:=updG S.g vm (some (newG f)),T:=S.T }:=by
 have hfm:inR S.ps f∧kd S.ps f=0:=freeN_mem.1 (by rw [hf]; exact .head _);have hwf3:D.wf ⟨3,vm,0,0⟩:=⟨rfl,by simp,by simp,by simp,by simp; omega,.inr (.inl ⟨rfl,by simp; omega⟩)⟩;have c1:=h.toHCore.setD (d:=⟨3,vm,0,0⟩) hfm.1 hwf3 (by omega) (fun v G p ri h1 h2=>by
  have:=(h.leaf4 h1 h2).2;omega)
 have hw:∀ x (i:Nat),x≠f→i < 16→ld (zeros S.L f 16) (16 * x+i)=ld S.L (16 * x+i):=fun x i h hi=>zeros_far 16 fun j hj=>word_ne (.inl h) hi hj;have c2:=c1.pool (L':=zeros S.L f 16) (ps':=setP S.ps f ⟨3,vm,0,0⟩) (zeros_len _ _ _) rfl c1.wf (fun v G l q y h1 h2=>⟨rfl,fun i hi=>hw y i (by
  rintro rfl;have:=(h.node3 h1 h2).2.1;omega) hi⟩) (fun v G p y ri h1 h2=>⟨(c1.leaf4 h1 h2).2,rfl⟩)
 have hq:=set_kd (d:=⟨3,vm,0,0⟩) hfm.1;have hz:∀ i:Nat,i < 16→ld (zeros S.L f 16) (16 * f+i)=0:=fun i hi=>zeros_in 16 hi hfm.1.1 (by have:=hfm.1.2; have:=h.len; omega);have nd1:∀ {l q x},(newG f).nd l q=some x→l=3∧q=0∧x=f:=fun hx=>by
  unfold newG at hx;dsimp only at hx;split at hx
  ·rename_i e;cases hx;exact ⟨e.1,e.2,rfl⟩
  ·cases hx
 have nd2:∀ {l q},(l=3→False)→(newG f).nd l q=none:=fun hx=>by
  unfold newG;dsimp only;rw [if_neg fun e=>hx e.1]
 have tr:Tree (zeros S.L f 16) (setP S.ps f ⟨3,vm,0,0⟩) vm (newG f):=by
  refine ⟨rfl,fun l q x hx=>?_,fun l q l' q' x h1 h2=>?_,fun l q x hx hl=>?_,fun l q x i hx hi=>?_,fun q x i hx hi=>?_,fun p x ri hx=>by cases hx⟩
  ·obtain ⟨rfl,rfl,rfl⟩:=nd1 hx;exact ⟨by omega,by decide,by unfold inR; rw [setP_len]; exact hfm.1,hq⟩
  ·obtain ⟨rfl,rfl,_⟩:=nd1 h1;obtain ⟨rfl,rfl,_⟩:=nd1 h2;exact ⟨rfl,rfl⟩
  ·obtain ⟨rfl,_,_⟩:=nd1 hx;omega
  ·obtain ⟨e1,rfl,rfl⟩:=nd1 hx;have e9:(newG x).nd l (16 * 0+i)=none:=nd2 (by omega);rw [hz i hi,e9];rfl
  ·obtain ⟨e1,_,_⟩:=nd1 hx;omega
 refine ⟨⟨⟨c2.len,c2.ps0,c2.ps1,c2.wf,fun v G hG=>?_,fun v p x hx=>?_,h.ndp⟩,fun x hx=>?_,fun x hx=>?_⟩,?_⟩
 ·dsimp only at hG ⊢;by_cases e:v=vm
  ·subst e;rw [updG_same] at hG;cases hG;exact ⟨hv0,hv1,tr,(fun p x ri hx=>by cases hx),(fun p p' x ri ri' hx=>by cases hx),(fun p id x hx=>by cases hx)⟩
  ·rw [updG_far _ _ e] at hG;exact c2.gs v G hG
 ·dsimp only;obtain ⟨G,id,h1,h2⟩:=h.tkr v p x hx;have e:v≠vm:=by
   rintro rfl;rw [hg] at h1;cases h1
  exact ⟨G,id,by rw [updG_far _ _ e]; exact h1,h2⟩
 ·dsimp only at hx ⊢;have hx:inR S.ps x:=by unfold inR at *; rw [setP_len] at hx; exact hx
  by_cases e:x=f
  ·subst e;rw [h.tkc0 (by omega),hq.2.2];exact Int.le_refl _
  ·rw [(kd_set_far hfm.1 hx e).2.2];exact h.cnt x hx
 ·dsimp only at hx ⊢;have hx:inR S.ps x:=by unfold inR at *; rw [setP_len] at hx; exact hx
  by_cases e:x=f
  ·subst e;rw [hq.2.2];exact Int.natCast_nonneg n
  ·rw [(kd_set_far hfm.1 hx e).2.2];exact h.rmax x hx
 ·have hk:∀ x,inR S.ps x→kd S.ps x≠0→kd (setP S.ps f ⟨3,vm,0,0⟩) x=kd S.ps x:=fun x hx h0=>(kd_set_far hfm.1 hx (by rintro rfl; exact h0 hfm.2)).1;refine ⟨setP_len _ _ _,fun x j hx hj hk=>hw x j (by rintro rfl; omega) hj,fun x hx h5=>by dsimp only; rw [hk x hx (by omega)]; exact h5,fun x hx h4=>.inl (by dsimp only; rw [hk x hx (by omega)]; exact h4),fun x hx h4=>.inl ?_,fun _ h=>(by cases h),fun v G p x ri h1 h2=>.inr ⟨G,ri,?_,h2⟩,fun v G l q y h1 h2=>.inr (.inl ⟨G,?_,h2⟩)⟩
  ·dsimp only at h4;by_cases e:x=f
   ·subst e;rw [hq.1] at h4;cases h4
   ·rw [(kd_set_far hfm.1 hx e).1] at h4;exact h4
  ·dsimp only;rw [updG_far _ _ (by rintro rfl; rw [hg] at h1; cases h1)];exact h1
  ·dsimp only;rw [updG_far _ _ (by rintro rfl; rw [hg] at h1; cases h1)];exact h1
end
section
variable {S:HS} {n:Nat}
theorem same_rf {ps ps':List D} {x:Int} (h:dOf ps' x=dOf ps x):kd ps' x=kd ps x∧ow ps' x=ow ps x∧rf ps' x=rf ps x:=by
 unfold kd ow rf;rw [h];exact ⟨rfl,rfl,rfl⟩
theorem donate_step (h:HInv S n) {vm:Nat} {G:GS} (hg:S.g vm=some G) {f:Int} {l:List Int} (hf:freeN S.ps=f :: l) {p:Nat} {ri:Int} (hm:(mapN S.L (setP S.ps f ⟨4,vm,0,0⟩) vm G.root p f ri).2.2=0) {cov:Nat→Nat→Prop} {dead:Nat→Prop} :
 ∃ G':GS,HInv { L:=zeros (mapN S.L (setP S.ps f ⟨4,vm,0,0⟩) vm G.root p f ri).1 f 16,ps:=(mapN S.L (setP S.ps f ⟨4,vm,0,0⟩) vm G.root p f ri).2.1,g:=updG S.g vm (some G'),T:=S.T } n ∧
  HStep cov dead (some f) S { L:=zeros (mapN S.L (setP S.ps f ⟨4,vm,0,0⟩) vm G.root p f ri).1 f 16,ps:=(mapN S.L (setP S.ps f ⟨4,vm,0,0⟩) vm G.root p f ri).2.1,g:=updG S.g vm (some G'),T:=S.T }∧G'.tk=G.tk∧G'.root=G.root:=by
 have hfm:inR S.ps f∧kd S.ps f=0:=freeN_mem.1 (by rw [hf]; exact .head _);obtain ⟨v1,v2,t0,g0⟩:=h.gs vm G hg;have hwf4:D.wf ⟨4,vm,0,0⟩:=⟨rfl,by simp,by simp,by simp,by simp; omega,.inr (.inr (.inl ⟨rfl,by simp; omega⟩))⟩;have c1:=h.toHCore.setD (d:=⟨4,vm,0,0⟩) hfm.1 hwf4 (by omega) (fun v G p ri h1 h2=>by
  have:=(h.leaf4 h1 h2).2;omega)
 obtain ⟨_,_,t1,g1⟩:=c1.gs vm G hg;have hq:=set_kd (d:=⟨4,vm,0,0⟩) hfm.1;dsimp only at hq;have hin:∀ {x},inR S.ps x↔inR (setP S.ps f ⟨4,vm,0,0⟩) x:=by intro x; unfold inR; rw [setP_len]
 obtain ⟨G',t2,ts,hlf,hnone⟩:=map_tree t1 v1 v2 c1.len c1.ps1 (hin.1 hfm.1) hq.1 hm;generalize mapN S.L (setP S.ps f ⟨4,vm,0,0⟩) vm G.root p f ri=R at *;obtain ⟨L',ps',er⟩:=R;dsimp only at *;have old:∀ {v:Nat} {G2:GS} {p2:Nat} {ri2:Int},S.g v=some G2→G2.lf p2≠some (f,ri2):=fun h1 h2=>by
  have:=(h.leaf4 h1 h2).2;omega
 have e4:=same_rf (ts.kd4 hfm.1.1 (.inl hq.1));have gi:GInv ps' S.T vm { G' with tk:=G'.tk }:=by
  have gtk:=ts.tk;refine ⟨fun p' x r hx ht=>?_,fun p1 p2 x r1 r2 h1 k1 h2 k2=>?_,fun p' id x hx=>?_⟩
  ·try dsimp only at hx ht
   rw [hlf] at hx;rw [gtk] at ht;by_cases e:p'=p
   ·subst e;rw [updL_same] at hx;cases hx;rw [e4.2.1,hq.2.1]
   ·rw [updL_far _ _ e] at hx;have h4:=c1.leaf4 (vm:=vm) hg hx;rw [(same_rf (ts.kd4 h4.1.1 (.inl h4.2))).2.1];exact g1.own p' x r hx ht
  ·try dsimp only at h1 k1 h2 k2
   rw [hlf] at h1 h2;rw [gtk] at k1 k2;by_cases e1:p1=p
   ·by_cases e2:p2=p
    ·omega
    ·subst e1;rw [updL_same] at h1;rw [updL_far _ _ e2] at h2;cases h1;exact absurd h2 (old hg)
   ·rw [updL_far _ _ e1] at h1;by_cases e2:p2=p
    ·subst e2;rw [updL_same] at h2;cases h2;exact absurd h1 (old hg)
    ·rw [updL_far _ _ e2] at h2;exact g1.one p1 p2 x r1 r2 h1 k1 h2 k2
  ·try dsimp only at hx ⊢
   rw [gtk] at hx;obtain ⟨q1,q2,⟨r3,q3⟩,q4⟩:=g1.tkl p' id x hx;refine ⟨q1,q2,⟨r3,?_⟩,q4⟩;rw [hlf,updL_far]
   ·exact q3
   ·intro e;rw [e,hnone] at q3;cases q3
 have c2:=c1.guest (T':=S.T) hg ts t2 G'.tk gi (fun _ _ _ _=>Iff.rfl) (fun q x hx=>by
  obtain ⟨G3,id,q1,q2⟩:=h.tkr vm q x hx;rw [hg] at q1;cases q1;exact ⟨id,by rw [ts.tk]; exact q2⟩) h.ndp
 have hw:∀ x (i:Nat),x≠f→i < 16→ld (zeros L' f 16) (16 * x+i)=ld L' (16 * x+i):=fun x i h hi=>zeros_far 16 fun j hj=>word_ne (.inl h) hi hj;have k4':kd ps' f=4:=by rw [e4.1]; exact hq.1
 have c3:=c2.pool (L':=zeros L' f 16) (ps':=ps') (zeros_len _ _ _) rfl c2.wf (fun v G2 l q y h1 h2=>⟨rfl,fun i hi=>hw y i (by
  rintro rfl;have:=(c2.node3 h1 h2).2.1;dsimp only at this;omega) hi⟩) (fun v G2 q y rj h1 h2=>⟨(c2.leaf4 h1 h2).2,rfl⟩)
 have pl:ps'.length=S.ps.length:=by rw [ts.plen,setP_len]
 have hrf:∀ x,inR S.ps x→rf ps' x=rf S.ps x∨(rf ps' x=0∧kd S.ps x≠4):=fun x hx=>by
  by_cases e:x=f
  ·subst e;exact .inr ⟨by rw [e4.2.2]; exact hq.2.2,by omega⟩
  ·have h3:=kd_set_far (d:=⟨4,vm,0,0⟩) hfm.1 hx e;rcases ts.rf hx.1 with h1 | ⟨h1,h2⟩
   ·exact .inl (h1.trans h3.2.2)
   ·exact .inr ⟨h1,by rw [← h3.1]; exact h2⟩
 have hfr:∀ x,inR S.ps x→x≠f→(kd S.ps x=4∨kd S.ps x=5)→kd ps' x=kd S.ps x:=fun x hx e hk=>by
  have h3:=kd_set_far (d:=⟨4,vm,0,0⟩) hfm.1 hx e;rw [← h3.1] at hk ⊢;exact (same_rf (ts.kd4 hx.1 hk)).1
 refine ⟨G',⟨c3,fun x hx=>?_,fun x hx=>?_⟩,⟨pl,fun x j hx hj hk=>?_,fun x hx hk=>?_,fun x hx hk=>.inl ?_,fun x hx hk=>?_,fun x e=>?_,fun v G2 q x rj h1 h2=>.inr ?_,fun v G2 l q x h1 h2=>?_⟩,ts.tk,ts.root⟩
 ·dsimp only at hx ⊢;have hx:inR S.ps x:=by unfold inR at *; rw [pl] at hx; exact hx
  rcases hrf x hx with h1 | ⟨h1,h2⟩
  ·rw [h1];exact h.cnt x hx
  ·rw [h1,h.tkc0 h2];exact Int.le_refl _
 ·dsimp only at hx ⊢;have hx:inR S.ps x:=by unfold inR at *; rw [pl] at hx; exact hx
  rcases hrf x hx with h1 | ⟨h1,h2⟩
  ·rw [h1];exact h.rmax x hx
  ·rw [h1];exact Int.natCast_nonneg n
 ·dsimp only;have e:x≠f:=by rintro rfl; omega
  have h3:=kd_set_far (d:=⟨4,vm,0,0⟩) hfm.1 hx e;rw [hw x j e hj,ts.wo x j hx.1 hj (by rw [h3.1]; omega) (by rw [h3.1]; omega)]
 ·dsimp only;rw [hfr x hx (by rintro rfl; omega) (.inr hk)];exact hk
 ·dsimp only;rw [hfr x hx (by rintro rfl; omega) (.inl hk)];exact hk
 ·dsimp only at hk;by_cases e:x=f
  ·exact .inr (by rw [e])
  ·left;have h3:=kd_set_far (d:=⟨4,vm,0,0⟩) hfm.1 hx e;rcases ts.fr x hx.1 with h1 | h1
   ·rw [← h3.1,← (same_rf h1).1];exact hk
   ·simp only [Bool.false_eq_true,if_false] at h1;omega
 ·cases e;refine ⟨hfm.1,hfm.2,k4',fun j hj=>?_⟩;dsimp only;exact zeros_in 16 hj hfm.1.1 (by
   have:=hfm.1.2;have:=h.len;have:=ts.len;omega)
 ·dsimp only;by_cases e:v=vm
  ·subst e;rw [hg] at h1;cases h1;refine ⟨G',rj,updG_same _ _ _,?_⟩;rw [hlf,updL_far]
   ·exact h2
   ·rintro rfl;rw [hnone] at h2;cases h2
  ·exact ⟨G2,rj,by rw [updG_far _ _ e]; exact h1,h2⟩
 ·dsimp only;by_cases e:v=vm
  ·subst e;rw [hg] at h1;cases h1;have hx:=(h.node3 hg h2);rcases ts.nd l q x hx.1.1 h2 with h3 | ⟨h3,h4⟩
   ·exact .inr (.inl ⟨G',updG_same _ _ _,h3⟩)
   ·right; right;refine ⟨h3,fun j hj=>?_⟩;rw [hw x j (by rintro rfl; omega) hj];exact h4 j hj
  ·exact .inr (.inl ⟨G2,by rw [updG_far _ _ e]; exact h1,h2⟩)
theorem give_back {ps:List D} (hw:∀ d ∈ ps,d.wf) {vm:Nat} {f:Int} {l:List Int} (hf:freeN ps=f :: l):(turnN (setP ps f ⟨4,vm,0,0⟩) f 0 0).1=ps:=by
 have hfm:inR ps f∧kd ps f=0:=freeN_mem.1 (by rw [hf]; exact .head _);have hd:dOf ps f=zD:=by
  obtain ⟨k,hk⟩:∃ k,k=dOf ps f:=⟨_,rfl⟩;have e:ps[f.toNat]?=some (dOf ps f):=by
   have h1:=hfm.1.1;have h2:=hfm.1.2;unfold dOf;rw [List.getD_eq_getElem?_getD,List.getElem?_eq_getElem (by omega)];rfl
  have w:=hw _ (List.mem_of_getElem? e);have h0:=hfm.2;unfold kd at h0;rw [← hk] at w h0 ⊢;obtain ⟨k,o,r,e⟩:=k;have h1:=w.k;have h2:=w.e0;dsimp only at h0 h1 h2;have:o=0∧r=0:=by omega
  rw [h0,h2,this.1,this.2]
 have hs:=dOf_set_same (d:=⟨4,(vm:Int),0,0⟩) hfm.1;unfold turnN changeN inP;have h1:=hfm.1.1;have h2:=hfm.1.2;rw [if_pos (by simp [setP_len]; omega)]
 change (if (nextD (dOf (setP ps f ⟨4,vm,0,0⟩) f) 0 0).2=0 then (setP (setP ps f ⟨4,vm,0,0⟩) f (nextD (dOf (setP ps f ⟨4,vm,0,0⟩) f) 0 0).1,(0:Int)) else (setP ps f ⟨4,vm,0,0⟩,(nextD (dOf (setP ps f ⟨4,vm,0,0⟩) f) 0 0).2)).1=_
 rw [hs];show setP (setP ps f ⟨4,vm,0,0⟩) f zD=ps;rw [← hd];unfold setP dOf;rw [List.set_set,List.getD_eq_getElem?_getD,List.getElem?_eq_getElem (by omega)];simp
def updI (tk:Int→Option (Int×Int)) (p:Int) (v:Option (Int×Int)):Int→Option (Int×Int):=fun q=>if q=p then v else tk q
theorem updI_same (tk:Int→Option (Int×Int)) (p:Int) (v:Option (Int×Int)):updI tk p v p=v:=by simp [updI]
theorem updI_far (tk:Int→Option (Int×Int)) {p q:Int} (v:Option (Int×Int)) (h:q≠p):updI tk p v q=tk q:=by simp [updI,h]
theorem ref_ok {ps:List D} {x:Int} (hx:inR ps x) (hk:kd ps x=4) {b:Int} (h0:0≤rf ps x+b) (h1:rf ps x+b≤65535):(refN ps x b).1=setP ps x ⟨4,ow ps x,rf ps x+b,(dOf ps x).e⟩:=by
 unfold refN changeN inP;have q1:=hx.1;have q2:=hx.2;rw [if_pos (by simp; omega)]
 change (if (refD (dOf ps x) b).2=0 then (setP ps x (refD (dOf ps x) b).1,(0:Int)) else (ps,(refD (dOf ps x) b).2)).1=_
 unfold kd at hk;unfold rf at h0 h1;have e:refD (dOf ps x) b=(⟨4,ow ps x,rf ps x+b,(dOf ps x).e⟩,0):=by
  unfold refD ow rf;rw [if_pos (.inr hk),if_neg (by omega),hk]
 rw [e];rfl
theorem wf_ref {ps:List D} {x:Int} (hw:(dOf ps x).wf) (hk:kd ps x=4) {r:Int} (h0:0≤r) (h1:r≤65535):D.wf ⟨4,ow ps x,r,(dOf ps x).e⟩:=by
 have:=hw.k;unfold kd at hk;exact ⟨hw.e0,h0,h1,hw.o0,hw.o1,.inr (.inr (.inl ⟨rfl,by unfold ow; dsimp only; omega⟩))⟩
theorem take_step (h:HInv S n) (hn:n < 60000) {vm:Nat} {G:GS} (hg:S.g vm=some G) {v1:Nat} {G1:GS} (hg1:S.g v1=some G1) {q:Nat} {x rq:Int} (hq:G1.lf q=some (x,rq)) {p:Nat} {ri:Int} (id:Int) (hm:(mapN S.L S.ps vm G.root p x ri).2.2=0) {cov:Nat→Nat→Prop} {dead:Nat→Prop} :
 ∃ G':GS,HInv { L:=(mapN S.L S.ps vm G.root p x ri).1,ps:=(refN (mapN S.L S.ps vm G.root p x ri).2.1 x 1).1,g:=updG S.g vm (some { G' with tk:=updI G.tk p (some (id,x)) }),T:=(vm,(p:Int),x) :: S.T } (n+1) ∧
  HStep cov dead none S { L:=(mapN S.L S.ps vm G.root p x ri).1,ps:=(refN (mapN S.L S.ps vm G.root p x ri).2.1 x 1).1,g:=updG S.g vm (some { G' with tk:=updI G.tk p (some (id,x)) }),T:=(vm,(p:Int),x) :: S.T }∧G'.root=G.root:=by
 obtain ⟨w1,w2,t0,g0⟩:=h.gs vm G hg;have hx:=h.leaf4 hg1 hq;have hp:p < 65536:=by
  unfold mapN at hm;split at hm
  ·rename_i hr;have:=right_ok hr;omega
  ·exact absurd hm ‹_›
 obtain ⟨G',t2,ts,hlf,hnone⟩:=map_tree t0 w1 w2 h.len h.ps1 hx.1 hx.2 hm;generalize mapN S.L S.ps vm G.root p x ri=R at *;obtain ⟨L',ps',er⟩:=R;dsimp only at *;have tkp:G.tk p=none:=by
  cases e:G.tk p with
  | none=>rfl
  | some y=>
   obtain ⟨_,_,⟨r3,q3⟩,_⟩:=g0.tkl p y.1 y.2 e;rw [Int.toNat_natCast,hnone] at q3;cases q3
 have gi:GInv ps' ((vm,(p:Int),x) :: S.T) vm { G' with tk:=updI G.tk p (some (id,x)) }:=by
  refine ⟨fun p' y r hy ht=>?_,fun p1 p2 y r1 r2 h1 k1 h2 k2=>?_,fun p' id' y hy=>?_⟩
  ·dsimp only at hy ht;have e:p'≠p:=by
    rintro rfl;rw [updI_same] at ht;cases ht
   rw [hlf,updL_far _ _ e] at hy;rw [updI_far _ _ (by omega)] at ht;have h4:=h.leaf4 hg hy;rw [(same_rf (ts.kd4 h4.1.1 (.inl h4.2))).2.1];exact g0.own p' y r hy ht
  ·dsimp only at h1 k1 h2 k2;have e1:p1≠p:=by
    rintro rfl;rw [updI_same] at k1;cases k1
   have e2:p2≠p:=by
    rintro rfl;rw [updI_same] at k2;cases k2
   rw [hlf,updL_far _ _ e1] at h1;rw [hlf,updL_far _ _ e2] at h2;rw [updI_far _ _ (by omega)] at k1 k2;exact g0.one p1 p2 y r1 r2 h1 k1 h2 k2
  ·dsimp only at hy ⊢;by_cases e:p'=p
   ·subst e;rw [updI_same] at hy;cases hy;exact ⟨by omega,by omega,⟨ri,by rw [hlf,Int.toNat_natCast,updL_same]⟩,.head _⟩
   ·rw [updI_far _ _ e] at hy;obtain ⟨q1,q2,⟨r3,q3⟩,q4⟩:=g0.tkl p' id' y hy;refine ⟨q1,q2,⟨r3,?_⟩,.tail _ q4⟩;rw [hlf,updL_far]
    ·exact q3
    ·omega
 have c2:=h.toHCore.guest (T':=(vm,(p:Int),x) :: S.T) hg ts t2 (updI G.tk p (some (id,x))) gi
  (fun v p' y e=>⟨fun hm=>by
   rcases List.mem_cons.1 hm with h1 | h1
   ·cases h1;exact absurd rfl e
   ·exact h1,fun hm=>.tail _ hm⟩)
  (fun p' y hm=>by
   rcases List.mem_cons.1 hm with h1 | h1
   ·cases h1;exact ⟨id,updI_same _ _ _⟩
   ·obtain ⟨G3,id',q1,q2⟩:=h.tkr vm p' y h1;rw [hg] at q1;cases q1;refine ⟨id',?_⟩;rw [updI_far]
    ·exact q2
    ·rintro rfl;rw [tkp] at q2;cases q2)
  (by
   rw [List.map_cons,List.nodup_cons];refine ⟨fun hm=>?_,h.ndp⟩;obtain ⟨⟨v,p',y⟩,ht,e⟩:=List.mem_map.1 hm;dsimp only at e;cases e;obtain ⟨G3,id',q1,q2⟩:=h.tkr vm p y ht;rw [hg] at q1;cases q1;rw [tkp] at q2;cases q2)
 have e4:=same_rf (ts.kd4 hx.1.1 (.inl hx.2));have hin':inR ps' x:=by unfold inR at *; rw [ts.plen]; exact hx.1
 have hr0:0≤rf S.ps x:=(h.owner hx.1).2.r0;have hr1:=h.rmax x hx.1;have hk4:kd ps' x=4:=by rw [e4.1]; exact hx.2
 have er':=ref_ok (b:=1) hin' hk4 (by rw [e4.2.2]; omega) (by rw [e4.2.2]; omega);have hwf:=wf_ref (r:=rf ps' x+1) (c2.owner (x:=x) hin').2 hk4 (by rw [e4.2.2]; omega) (by rw [e4.2.2]; omega);have c3:=c2.setD (x:=x) (d:=⟨4,ow ps' x,rf ps' x+1,(dOf ps' x).e⟩) hin' hwf (by dsimp only; omega) (fun _ _ _ _ _ _=>⟨rfl,rfl⟩);rw [er'];refine ⟨G',⟨c3,fun y hy=>?_,fun y hy=>?_⟩,?_,ts.root⟩
 ·dsimp only at hy ⊢;have hy':inR ps' y:=by unfold inR at *; rw [setP_len] at hy; exact hy
  have hy:inR S.ps y:=by unfold inR at *; rw [ts.plen] at hy'; exact hy'
  have h0:=h.cnt y hy;unfold tkc at h0 ⊢;rw [List.filter_cons];by_cases e:y=x
  ·subst e;rw [(set_kd hin').2.2,if_pos (by simp)];dsimp only;rw [e4.2.2];simp;exact h0
  ·rw [(kd_set_far hin' hy' e).2.2,if_neg (by simpa using Ne.symm e)];rcases ts.rf hy.1 with h1 | ⟨h1,h2⟩
   ·rw [h1];exact h0
   ·have:=h.tkc0 h2;unfold tkc at this;rw [h1,this];exact Int.le_refl _
 ·dsimp only at hy ⊢;have hy':inR ps' y:=by unfold inR at *; rw [setP_len] at hy; exact hy
  have hy:inR S.ps y:=by unfold inR at *; rw [ts.plen] at hy'; exact hy'
  have h0:=h.rmax y hy;by_cases e:y=x
  ·subst e;rw [(set_kd hin').2.2];dsimp only;rw [e4.2.2]
   push_cast
   omega
  ·rw [(kd_set_far hin' hy' e).2.2];rcases ts.rf hy.1 with h1 | ⟨h1,h2⟩
   ·rw [h1]
    push_cast
    omega
   ·rw [h1]
    push_cast
    omega
 ·have s1:HStep cov dead none S { L:=L',ps:=ps',g:=updG S.g vm (some { G' with tk:=updI G.tk p (some (id,x)) }),T:=(vm,(p:Int),x) :: S.T }:=HStep.guest h.toHCore hg ts _ (fun p' y r hy=>by
   right;refine ⟨r,?_⟩;rw [hlf,updL_far]
   ·exact hy
   ·rintro rfl;rw [hnone] at hy;cases hy)
  have hkk:∀ y,inR ps' y→kd (setP ps' x ⟨4,ow ps' x,rf ps' x+1,(dOf ps' x).e⟩) y=kd ps' y:=fun y hy=>by
   by_cases e:y=x
   ·subst e;rw [(set_kd hin').1,hk4]
   ·exact (kd_set_far hin' hy e).1
  have s2:HStep cov dead none { L:=L',ps:=ps',g:=updG S.g vm (some { G' with tk:=updI G.tk p (some (id,x)) }),T:=(vm,(p:Int),x) :: S.T } { L:=L',ps:=setP ps' x ⟨4,ow ps' x,rf ps' x+1,(dOf ps' x).e⟩,g:=updG S.g vm (some { G' with tk:=updI G.tk p (some (id,x)) }),T:=(vm,(p:Int),x) :: S.T }:=
   HStep.pool (S:={ L:=L',ps:=ps',g:=updG S.g vm (some { G' with tk:=updI G.tk p (some (id,x)) }),T:=(vm,(p:Int),x) :: S.T }) (setP_len _ _ _) (fun _ _ _ _ _=>rfl) (fun y hy h5=>by rw [hkk y hy]; exact h5) (fun y hy h4=>.inl (by rw [hkk y hy]; exact h4)) (fun y hy h4=>by rw [hkk y hy] at h4; exact h4)
  exact (s1.trans h.toHCore s2).mono (fun _ _ h=>h.elim (fun h=>h) fun h=>h) (fun _ h=>h.elim (fun h=>h) fun h=>h)
end
end Go.Proofs.YtadgpnoealegiaaGreat
