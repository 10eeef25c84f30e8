import Derived.Test.YtadgpnoealegiaaGreatP12
import Derived.Conc.LoneSelect
import Derived.Tactics2
namespace Go.Proofs.YtadgpnoealegiaaGreat
open Go.RowKit
open Go.Lib (hid)
set_option maxRecDepth 100000
set_option maxHeartbeats 20000000
section
variable {S:HS} {n:Nat}
theorem HInv.alone (h:HInv S n) {x:Int} (hx:inR S.ps x) (h0:rf S.ps x=0) {v:Nat} {G:GS} (hg:S.g v=some G) {p:Nat} {ri:Int} (hl:G.lf p=some (x,ri)):G.tk p=none∧ow S.ps x=v:=by
 obtain ⟨_,_,_,g⟩:=h.gs v G hg;have hc:=h.cnt x hx;have ht:∀ t ∈ S.T,t.2.2≠x:=by
  intro t ht e;have:0 < tkc S.T x:=by
   unfold tkc;exact List.length_pos_of_mem (List.mem_filter.2 ⟨ht,by simpa using e⟩)
  omega
 have h1:G.tk p=none:=by
  cases e:G.tk p with
  | none=>rfl
  | some y=>
   obtain ⟨_,_,⟨r,q3⟩,q4⟩:=g.tkl p y.1 y.2 e;rw [Int.toNat_natCast,hl] at q3;cases q3;exact absurd rfl (ht _ q4)
 exact ⟨h1,g.own p x ri hl h1⟩
theorem reclaim_step (h:HInv S n) {vm:Nat} {G:GS} (hg:S.g vm=some G) {p:Nat} {x ri:Int} (hl:G.lf p=some (x,ri)) (hr:rf S.ps x=0) :
 ∃ G':GS,HInv { L:=(unmapN S.L S.ps G.root p).1,ps:=(turnN (unmapN S.L S.ps G.root p).2 x 5 vm).1,g:=updG S.g vm (some G'),T:=S.T } n ∧
  HStep (fun v q=>v=vm∧q=p) (fun _=>False) none S { L:=(unmapN S.L S.ps G.root p).1,ps:=(turnN (unmapN S.L S.ps G.root p).2 x 5 vm).1,g:=updG S.g vm (some G'),T:=S.T }∧G'.tk=G.tk∧G'.root=G.root:=by
 obtain ⟨w1,w2,t0,g0⟩:=h.gs vm G hg;have hx:=h.leaf4 hg hl;have htk:=(h.alone hx.1 hr hg hl).1;obtain ⟨G',t2,ts,hlf⟩:=unmap_tree t0 w1 w2 h.len h.ps1 hl;generalize unmapN S.L S.ps G.root p=R at *;obtain ⟨L',ps'⟩:=R;dsimp only at *;have gi:GInv ps' S.T vm { G' with tk:=G'.tk }:=by
  have gtk:=ts.tk;refine ⟨fun p' y r hy ht=>?_,fun p1 p2 y r1 r2 h1 k1 h2 k2=>?_,fun p' id y hy=>?_⟩
  ·try dsimp only at hy ht
   rw [hlf] at hy;rw [gtk] at ht;by_cases e:p'=p
   ·subst e;rw [updL_same] at hy;cases hy
   ·rw [updL_far _ _ e] at hy;have h4:=h.leaf4 hg hy;rw [(same_rf (ts.kd4 h4.1.1 (.inl h4.2))).2.1];exact g0.own p' y r hy ht
  ·try dsimp only at h1 k1 h2 k2
   rw [hlf] at h1 h2;rw [gtk] at k1 k2;by_cases e1:p1=p
   ·subst e1;rw [updL_same] at h1;cases h1
   ·by_cases e2:p2=p
    ·subst e2;rw [updL_same] at h2;cases h2
    ·rw [updL_far _ _ e1] at h1;rw [updL_far _ _ e2] at h2;exact g0.one p1 p2 y r1 r2 h1 k1 h2 k2
  ·try dsimp only at hy ⊢
   rw [gtk] at hy;obtain ⟨q1,q2,⟨r3,q3⟩,q4⟩:=g0.tkl p' id y hy;refine ⟨q1,q2,⟨r3,?_⟩,q4⟩;rw [hlf,updL_far]
   ·exact q3
   ·rintro rfl;rw [show ((p'.toNat:Nat):Int)=p' by omega,hy] at htk;cases htk
 have c2:=h.toHCore.guest (T':=S.T) hg ts t2 G'.tk gi (fun _ _ _ _=>Iff.rfl) (fun q y hm=>by
  obtain ⟨G3,id,q1,q2⟩:=h.tkr vm q y hm;rw [hg] at q1;cases q1;exact ⟨id,by rw [ts.tk]; exact q2⟩) h.ndp
 have e4:=same_rf (ts.kd4 hx.1.1 (.inl hx.2));have hin':inR ps' x:=by unfold inR at *; rw [ts.plen]; exact hx.1
 have hk4:kd ps' x=4:=by rw [e4.1]; exact hx.2
 have et:=turn_ret (o:=vm) hin' (.inr hk4) (by rw [e4.2.2]; exact hr);have hwo:=(h.owner hx.1).2;have hwf5:D.wf ⟨5,ow ps' x,0,0⟩:=by
  rw [e4.2.1];exact ⟨rfl,by simp,by simp,hwo.o0,hwo.o1,.inr (.inr (.inr ⟨rfl,rfl⟩))⟩
 have c3:=c2.setD (x:=x) (d:=⟨5,ow ps' x,0,0⟩) hin' hwf5 (by dsimp only; omega) (fun v G3 p' r h1 h2=>by
  exfalso;dsimp only at h1;by_cases e:v=vm
  ·subst e;rw [updG_same] at h1;cases h1;dsimp only at h2;rw [hlf] at h2;by_cases e2:p'=p
   ·subst e2;rw [updL_same] at h2;cases h2
   ·rw [updL_far _ _ e2] at h2;exact e2 (g0.one p' p x r ri h2 (h.alone hx.1 hr hg h2).1 hl htk)
  ·rw [updG_far _ _ e] at h1;have h3:=(h.alone hx.1 hr h1 h2).2;have h4:=(h.alone hx.1 hr hg hl).2;omega)
 rw [et];have hkk:∀ y,inR ps' y→y≠x→kd (setP ps' x ⟨5,ow ps' x,0,0⟩) y=kd ps' y∧rf (setP ps' x ⟨5,ow ps' x,0,0⟩) y=rf ps' y:=fun y hy e=>⟨(kd_set_far hin' hy e).1,(kd_set_far hin' hy e).2.2⟩;have hq:=set_kd (d:=⟨5,ow ps' x,0,0⟩) hin';refine ⟨G',⟨c3,fun y hy=>?_,fun y hy=>?_⟩,?_,ts.tk,ts.root⟩
 ·dsimp only at hy ⊢;have hy':inR ps' y:=by unfold inR at *; rw [setP_len] at hy; exact hy
  have hy:inR S.ps y:=by unfold inR at *; rw [ts.plen] at hy'; exact hy'
  by_cases e:y=x
  ·subst e;rw [hq.2.2];have:=h.cnt y hx.1;rw [hr] at this;exact this
  ·rw [(hkk y hy' e).2];rcases ts.rf hy.1 with h1 | ⟨h1,h2⟩
   ·rw [h1];exact h.cnt y hy
   ·rw [h1,h.tkc0 h2];exact Int.le_refl _
 ·dsimp only at hy ⊢;have hy':inR ps' y:=by unfold inR at *; rw [setP_len] at hy; exact hy
  have hy:inR S.ps y:=by unfold inR at *; rw [ts.plen] at hy'; exact hy'
  by_cases e:y=x
  ·subst e;rw [hq.2.2];exact Int.natCast_nonneg n
  ·rw [(hkk y hy' e).2];rcases ts.rf hy.1 with h1 | ⟨h1,h2⟩
   ·rw [h1];exact h.rmax y hy
   ·rw [h1];exact Int.natCast_nonneg n
 ·have s1:HStep (fun v q=>v=vm∧q=p) (fun _=>False) none S { L:=L',ps:=ps',g:=updG S.g vm (some { G' with tk:=G'.tk }),T:=S.T }:=HStep.guest h.toHCore hg ts _ (fun p' y r hy=>by
   by_cases e:p'=p
   ·exact .inl ⟨rfl,e⟩
   ·right;refine ⟨r,?_⟩;rw [hlf,updL_far _ _ e];exact hy)
  have s2:HStep (fun v q=>v=vm∧q=p) (fun _=>False) none { L:=L',ps:=ps',g:=updG S.g vm (some G'),T:=S.T } { L:=L',ps:=setP ps' x ⟨5,ow ps' x,0,0⟩,g:=updG S.g vm (some G'),T:=S.T }:=
   HStep.pool (S:={ L:=L',ps:=ps',g:=updG S.g vm (some G'),T:=S.T }) (setP_len _ _ _) (fun _ _ _ _ _=>rfl)
    (fun y hy h5=>by
     dsimp only at hy h5;by_cases e:y=x
     ·subst e;omega
     ·rw [(hkk y hy e).1];exact h5)
    (fun y hy h4=>by
     dsimp only at hy h4;by_cases e:y=x
     ·subst e;exact .inr hq.1
     ·rw [(hkk y hy e).1];exact .inl h4)
    (fun y hy h4=>by
     dsimp only at hy ⊢;by_cases e:y=x
     ·subst e;rw [hq.1] at h4;cases h4
     ·rw [(hkk y hy e).1] at h4;exact h4)
  exact (s1.trans h.toHCore s2).mono (fun _ _ h=>h.elim (fun h=>h) fun h=>h) (fun _ h=>h.elim (fun h=>h) fun h=>h)
theorem tkc_erase {T:List (Nat×Int×Int)} {t:Nat×Int×Int} (ht:t ∈ T) (x:Int):tkc T x=tkc (T.erase t) x+if t.2.2=x then 1 else 0:=by
 unfold tkc;rw [((List.perm_cons_erase ht).filter _).length_eq,List.filter_cons];by_cases e:t.2.2=x
 ·rw [if_pos (by simpa using e),if_pos e];rfl
 ·rw [if_neg (by simpa using e),if_neg e];rfl
theorem give_step (h:HInv S n) (hn:n < 60000) {vm:Nat} {G:GS} (hg:S.g vm=some G) {page id x:Int} (ht:G.tk page=some (id,x)) :
 ∃ G':GS,HInv { L:=(unmapN S.L S.ps G.root page).1,ps:=(refN (unmapN S.L S.ps G.root page).2 x (-1)).1,g:=updG S.g vm (some { G' with tk:=updI G.tk page none }),T:=S.T.erase (vm,page,x) } n ∧
  HStep (fun v q=>v=vm∧(q:Int)=page) (fun _=>False) none S { L:=(unmapN S.L S.ps G.root page).1,ps:=(refN (unmapN S.L S.ps G.root page).2 x (-1)).1,g:=updG S.g vm (some { G' with tk:=updI G.tk page none }),T:=S.T.erase (vm,page,x) }∧G'.root=G.root ∧
  (∀ y,inR S.ps y→ow (refN (unmapN S.L S.ps G.root page).2 x (-1)).1 y=ow S.ps y∧(rf S.ps y=0→rf (refN (unmapN S.L S.ps G.root page).2 x (-1)).1 y=0)):=by
 obtain ⟨w1,w2,t0,g0⟩:=h.gs vm G hg;obtain ⟨hp0,hp1,⟨ri,hl⟩,hT⟩:=g0.tkl page id x ht;obtain ⟨p,rfl⟩:=Int.eq_ofNat_of_zero_le hp0;rw [Int.toNat_natCast] at hl;have hx:=h.leaf4 hg hl;obtain ⟨G',t2,ts,hlf⟩:=unmap_tree t0 w1 w2 h.len h.ps1 hl;generalize unmapN S.L S.ps G.root p=R at *;obtain ⟨L',ps'⟩:=R;dsimp only at *;have hTn:S.T.Nodup:=by
  have:=h.ndp;rw [List.Nodup,List.pairwise_map] at this;exact this.imp fun h e=>h (by rw [e])
 have hnot:(vm,(p:Int),x) ∉ S.T.erase (vm,(p:Int),x):=fun hm=>(List.Nodup.mem_erase_iff hTn).1 hm |>.1 rfl
 have memE:∀ t,t ∈ S.T.erase (vm,(p:Int),x)↔t≠(vm,(p:Int),x)∧t ∈ S.T:=fun t=>List.Nodup.mem_erase_iff hTn;have gi:GInv ps' (S.T.erase (vm,(p:Int),x)) vm { G' with tk:=updI G.tk p none }:=by
  refine ⟨fun p' y r hy ht=>?_,fun p1 p2 y r1 r2 h1 k1 h2 k2=>?_,fun p' id' y hy=>?_⟩
  ·dsimp only at hy ht;rw [hlf] at hy;by_cases e:p'=p
   ·subst e;rw [updL_same] at hy;cases hy
   ·rw [updL_far _ _ e] at hy;rw [updI_far _ _ (by omega)] at ht;have h4:=h.leaf4 hg hy;rw [(same_rf (ts.kd4 h4.1.1 (.inl h4.2))).2.1];exact g0.own p' y r hy ht
  ·dsimp only at h1 k1 h2 k2;rw [hlf] at h1 h2;by_cases e1:p1=p
   ·subst e1;rw [updL_same] at h1;cases h1
   ·by_cases e2:p2=p
    ·subst e2;rw [updL_same] at h2;cases h2
    ·rw [updL_far _ _ e1] at h1;rw [updL_far _ _ e2] at h2;rw [updI_far _ _ (by omega)] at k1 k2;exact g0.one p1 p2 y r1 r2 h1 k1 h2 k2
  ·dsimp only at hy ⊢;have e:p'≠p:=by
    rintro rfl;rw [updI_same] at hy;cases hy
   rw [updI_far _ _ e] at hy;obtain ⟨q1,q2,⟨r3,q3⟩,q4⟩:=g0.tkl p' id' y hy;refine ⟨q1,q2,⟨r3,?_⟩,(memE _).2 ⟨fun e2=>?_,q4⟩⟩
   ·rw [hlf,updL_far]
    ·exact q3
    ·omega
   ·cases e2;exact e rfl
 have c2:=h.toHCore.guest (T':=S.T.erase (vm,(p:Int),x)) hg ts t2 (updI G.tk p none) gi
  (fun v p' y e=>by
   rw [memE];exact ⟨fun hm=>hm.2,fun hm=>⟨fun e2=>by cases e2; exact e rfl,hm⟩⟩)
  (fun p' y hm=>by
   obtain ⟨hne,hm⟩:=(memE _).1 hm;obtain ⟨G3,id',q1,q2⟩:=h.tkr vm p' y hm;rw [hg] at q1;cases q1;refine ⟨id',?_⟩;rw [updI_far]
   ·exact q2
   ·rintro rfl;rw [ht] at q2;cases q2;exact hne rfl)
  (h.ndp.sublist ((List.erase_sublist (a:=(vm,(p:Int),x)) (l:=S.T)).map _))
 have e4:=same_rf (ts.kd4 hx.1.1 (.inl hx.2));have hin':inR ps' x:=by unfold inR at *; rw [ts.plen]; exact hx.1
 have hk4:kd ps' x=4:=by rw [e4.1]; exact hx.2
 have hr1:=h.rmax x hx.1;have hc1:=h.cnt x hx.1;rw [tkc_erase hT,if_pos rfl] at hc1;have er':=ref_ok (b:=-1) hin' hk4 (by rw [e4.2.2]; omega) (by rw [e4.2.2]; omega);have hwf:=wf_ref (r:=rf ps' x+-1) (c2.owner (x:=x) hin').2 hk4 (by rw [e4.2.2]; omega) (by rw [e4.2.2]; omega);have c3:=c2.setD (x:=x) (d:=⟨4,ow ps' x,rf ps' x+-1,(dOf ps' x).e⟩) hin' hwf (by dsimp only; omega) (fun _ _ _ _ _ _=>⟨rfl,rfl⟩);rw [er'];have hq:=set_kd (d:=⟨4,ow ps' x,rf ps' x+-1,(dOf ps' x).e⟩) hin';refine ⟨G',⟨c3,fun y hy=>?_,fun y hy=>?_⟩,?_,ts.root,fun y hy=>?_⟩
 ·dsimp only at hy ⊢;have hy':inR ps' y:=by unfold inR at *; rw [setP_len] at hy; exact hy
  have hy:inR S.ps y:=by unfold inR at *; rw [ts.plen] at hy'; exact hy'
  have h0:=h.cnt y hy;rw [tkc_erase hT] at h0;by_cases e:y=x
  ·subst e;rw [hq.2.2];dsimp only;rw [e4.2.2];omega
  ·rw [if_neg (Ne.symm e)] at h0;rw [(kd_set_far hin' hy' e).2.2];rcases ts.rf hy.1 with h1 | ⟨h1,h2⟩
   ·rw [h1];exact h0
   ·have:=h.tkc0 h2;rw [tkc_erase hT,if_neg (Ne.symm e)] at this;rw [h1];omega
 ·dsimp only at hy ⊢;have hy':inR ps' y:=by unfold inR at *; rw [setP_len] at hy; exact hy
  have hy:inR S.ps y:=by unfold inR at *; rw [ts.plen] at hy'; exact hy'
  have h0:=h.rmax y hy;by_cases e:y=x
  ·subst e;rw [hq.2.2];dsimp only;rw [e4.2.2];omega
  ·rw [(kd_set_far hin' hy' e).2.2];rcases ts.rf hy.1 with h1 | ⟨h1,h2⟩ <;> omega
 ·have s1:HStep (fun v q=>v=vm∧(q:Int)=(p:Int)) (fun _=>False) none S { L:=L',ps:=ps',g:=updG S.g vm (some { G' with tk:=updI G.tk p none }),T:=S.T.erase (vm,(p:Int),x) }:=HStep.guest h.toHCore hg ts _ (fun p' y r hy=>by
   by_cases e:p'=p
   ·exact .inl ⟨rfl,by rw [e]⟩
   ·right;refine ⟨r,?_⟩;rw [hlf,updL_far _ _ e];exact hy)
  have hkk:∀ y,inR ps' y→kd (setP ps' x ⟨4,ow ps' x,rf ps' x+-1,(dOf ps' x).e⟩) y=kd ps' y:=fun y hy=>by
   by_cases e:y=x
   ·subst e;rw [hq.1,hk4]
   ·exact (kd_set_far hin' hy e).1
  have s2:HStep (fun v q=>v=vm∧(q:Int)=(p:Int)) (fun _=>False) none { L:=L',ps:=ps',g:=updG S.g vm (some { G' with tk:=updI G.tk p none }),T:=S.T.erase (vm,(p:Int),x) } { L:=L',ps:=setP ps' x ⟨4,ow ps' x,rf ps' x+-1,(dOf ps' x).e⟩,g:=updG S.g vm (some { G' with tk:=updI G.tk p none }),T:=S.T.erase (vm,(p:Int),x) }:=
   HStep.pool (S:={ L:=L',ps:=ps',g:=updG S.g vm (some { G' with tk:=updI G.tk p none }),T:=S.T.erase (vm,(p:Int),x) }) (setP_len _ _ _) (fun _ _ _ _ _=>rfl) (fun y hy h5=>by rw [hkk y hy]; exact h5) (fun y hy h4=>.inl (by rw [hkk y hy]; exact h4)) (fun y hy h4=>by rw [hkk y hy] at h4; exact h4)
  exact (s1.trans h.toHCore s2).mono (fun _ _ h=>h.elim (fun h=>h) fun h=>h) (fun _ h=>h.elim (fun h=>h) fun h=>h)
 ·have hy':inR ps' y:=by unfold inR at *; rw [ts.plen]; exact hy
  by_cases e:y=x
  ·subst e;rw [hq.2.1,hq.2.2];dsimp only;rw [e4.2.1,e4.2.2];exact ⟨rfl,fun h=>by omega⟩
  ·rw [(kd_set_far hin' hy' e).2.1,(kd_set_far hin' hy' e).2.2];rcases ts.fr y hy.1 with h1 | h1
   ·have:=same_rf h1;exact ⟨this.2.1,fun h=>by omega⟩
   ·rw [if_pos rfl] at h1;exact ⟨by omega,fun _=>h1.2.2.2.1⟩
end
section
variable {S:HS} {n:Nat}
theorem protect_step (h:HInv S n) {vm:Nat} {G:GS} (hg:S.g vm=some G) {page ri:Int} (hz:(protN S.L G.root page ri).2=0) {cov:Nat→Nat→Prop} {dead:Nat→Prop} :
 ∃ G':GS,HInv { L:=(protN S.L G.root page ri).1,ps:=S.ps,g:=updG S.g vm (some G'),T:=S.T } n∧HStep cov dead none S { L:=(protN S.L G.root page ri).1,ps:=S.ps,g:=updG S.g vm (some G'),T:=S.T }∧G'.tk=G.tk∧G'.root=G.root:=by
 obtain ⟨w1,w2,t0,g0⟩:=h.gs vm G hg;rcases prot_tree (b:=true) t0 h.len h.ps1 (page:=page) (ri:=ri) with ⟨h1,_⟩ | ⟨_,p,x,rj,rfl,hl,t2,ts⟩
 ·exact absurd hz h1
 generalize protN S.L G.root p ri=R at *;obtain ⟨L',er⟩:=R;dsimp only at *;have old:∀ {p':Nat} {y r:Int},updL G.lf p (some (x,ri)) p'=some (y,r)→∃ r',G.lf p'=some (y,r'):=fun {p' y r} hy=>by
  by_cases e:p'=p
  ·subst e;rw [updL_same] at hy;cases hy;exact ⟨rj,hl⟩
  ·rw [updL_far _ _ e] at hy;exact ⟨r,hy⟩
 have new:∀ {p':Nat} {y r:Int},G.lf p'=some (y,r)→∃ r',updL G.lf p (some (x,ri)) p'=some (y,r'):=fun {p' y r} hy=>by
  by_cases e:p'=p
  ·subst e;rw [hl] at hy;cases hy;exact ⟨ri,updL_same _ _ _⟩
  ·exact ⟨r,by rw [updL_far _ _ e]; exact hy⟩
 have gi:GInv S.ps S.T vm { ({ G with lf:=updL G.lf p (some (x,ri)) }:GS) with tk:=G.tk }:=by
  refine ⟨fun p' y r hy ht=>?_,fun p1 p2 y r1 r2 h1 k1 h2 k2=>?_,fun p' id y hy=>?_⟩
  ·obtain ⟨r',h1⟩:=old hy;exact g0.own p' y r' h1 ht
  ·obtain ⟨_,h1⟩:=old h1;obtain ⟨_,h2⟩:=old h2;exact g0.one p1 p2 y _ _ h1 k1 h2 k2
  ·obtain ⟨q1,q2,⟨r3,q3⟩,q4⟩:=g0.tkl p' id y hy;exact ⟨q1,q2,new q3,q4⟩
 have c2:=h.toHCore.guest (T':=S.T) hg ts t2 G.tk gi (fun _ _ _ _=>Iff.rfl) (fun q y hm=>by
  obtain ⟨G3,id,q1,q2⟩:=h.tkr vm q y hm;rw [hg] at q1;cases q1;exact ⟨id,q2⟩) h.ndp
 exact ⟨_,⟨c2,h.cnt,h.rmax⟩,HStep.guest h.toHCore hg ts _ (fun p' y r hy=>.inr (new hy)),rfl,rfl⟩
theorem destroy_step (h:HInv S n) {vm:Nat} {G:GS} (hg:S.g vm=some G) (ht:∀ p,G.tk p=none) (hr:∀ x,inR S.ps x→ow S.ps x=vm→rf S.ps x=0) {ps':List D} (hp:ps'.length=S.ps.length) (hw:∀ d ∈ ps',d.wf)
 (hf:∀ x,inR S.ps x→dOf ps' x=dOf S.ps x∨(ow S.ps x=vm∧(kd S.ps x=3∨kd S.ps x=4)∧kd ps' x=5∧rf ps' x=0)) :
 HInv { L:=S.L,ps:=ps',g:=updG S.g vm none,T:=S.T } n∧HStep (fun v _=>v=vm) (fun v=>v=vm) none S { L:=S.L,ps:=ps',g:=updG S.g vm none,T:=S.T }:=by
 have old:∀ {v:Nat} {G2:GS},updG S.g vm none v=some G2→v≠vm∧S.g v=some G2:=fun {v G2} hv=>by
  by_cases e:v=vm
  ·subst e;rw [updG_same] at hv;cases hv
  ·rw [updG_far _ _ e] at hv;exact ⟨e,hv⟩
 have hin:∀ {x},inR ps' x↔inR S.ps x:=by intro x; unfold inR; rw [hp]
 have ndS:∀ {v:Nat} {G2:GS} {l q:Nat} {f:Int},v≠vm→S.g v=some G2→G2.nd l q=some f→dOf ps' f=dOf S.ps f:=fun {v G2 l q f} e hv h2=>by
  obtain ⟨a1,a2,a3,a4⟩:=h.node3 hv h2;rcases hf f a1 with h3 | h3
  ·exact h3
  ·exfalso;omega
 have lfS:∀ {v:Nat} {G2:GS} {p:Nat} {x ri:Int},v≠vm→S.g v=some G2→G2.lf p=some (x,ri)→dOf ps' x=dOf S.ps x:=fun {v G2 p x ri} e hv h2=>by
  obtain ⟨a1,a2⟩:=h.leaf4 hv h2;rcases hf x a1 with h3 | h3
  ·exact h3
  ·exfalso;have:=(h.alone a1 (hr x a1 h3.1) hv h2).2;omega
 refine ⟨⟨⟨by dsimp only; rw [hp]; exact h.len,by dsimp only; rw [hp]; exact h.ps0,by dsimp only; rw [hp]; exact h.ps1,hw,fun v G2 hv=>?_,fun v p x hm=>?_,h.ndp⟩,fun x hx=>?_,fun x hx=>?_⟩,?_⟩
 ·obtain ⟨e,hv⟩:=old hv;obtain ⟨w1,w2,t,g⟩:=h.gs v G2 hv;refine ⟨w1,w2,t.congr2 hp (fun l q f h2=>⟨ndS e hv h2,fun _ _=>rfl⟩) fun p x ri h2=>?_,fun p x ri h2 h3=>?_,g.one,g.tkl⟩
  ·rw [(same_rf (lfS e hv h2)).1];exact (h.leaf4 hv h2).2
  ·dsimp only;rw [(same_rf (lfS e hv h2)).2.1];exact g.own p x ri h2 h3
 ·obtain ⟨G3,id,q1,q2⟩:=h.tkr v p x hm;have e:v≠vm:=by
   rintro rfl;rw [hg] at q1;cases q1;rw [ht p] at q2;cases q2
  exact ⟨G3,id,by dsimp only; rw [updG_far _ _ e]; exact q1,q2⟩
 ·dsimp only at hx ⊢;have hx:=hin.1 hx;have h0:=h.cnt x hx;rcases hf x hx with h3 | ⟨h3,_,_,h4⟩
  ·rw [(same_rf h3).2.2];exact h0
  ·rw [h4];rw [hr x hx h3] at h0;exact h0
 ·dsimp only at hx ⊢;have hx:=hin.1 hx;rcases hf x hx with h3 | ⟨h3,_,_,h4⟩
  ·rw [(same_rf h3).2.2];exact h.rmax x hx
  ·rw [h4];exact Int.natCast_nonneg n
 ·refine ⟨hp,fun _ _ _ _ _=>rfl,fun x hx h5=>?_,fun x hx h4=>?_,fun x hx h4=>.inl ?_,fun _ h=>(by cases h),fun v G2 p x ri h1 h2=>?_,fun v G2 l q f h1 h2=>?_⟩
  ·dsimp only;rcases hf x hx with h3 | h3
   ·rw [(same_rf h3).1];exact h5
   ·omega
  ·dsimp only;rcases hf x hx with h3 | h3
   ·rw [(same_rf h3).1];exact .inl h4
   ·exact .inr h3.2.2.1
  ·dsimp only at h4;rcases hf x hx with h3 | h3
   ·rw [← (same_rf h3).1];exact h4
   ·omega
  ·by_cases e:v=vm
   ·exact .inl e
   ·exact .inr ⟨G2,ri,by dsimp only; rw [updG_far _ _ e]; exact h1,h2⟩
  ·by_cases e:v=vm
   ·exact .inl e
   ·exact .inr (.inl ⟨G2,by dsimp only; rw [updG_far _ _ e]; exact h1,h2⟩)
theorem free_step (h:HInv S n) {x:Int} (hx:inR S.ps x) (hk:kd S.ps x=5):HInv { S with ps:=setP S.ps x zD } n:=by
 have c:=h.toHCore.setD (x:=x) (d:=zD) hx zD_wf (by omega) (fun v G p ri h1 h2=>by
  have:=(h.leaf4 h1 h2).2;omega)
 have hq:=set_kd (d:=zD) hx;refine ⟨c,fun y hy=>?_,fun y hy=>?_⟩
 ·dsimp only at hy ⊢;have hy:inR S.ps y:=by unfold inR at *; rw [setP_len] at hy; exact hy
  by_cases e:y=x
  ·subst e;rw [hq.2.2,h.tkc0 (by omega)];exact Int.le_refl _
  ·rw [(kd_set_far hx hy e).2.2];exact h.cnt y hy
 ·dsimp only at hy ⊢;have hy:inR S.ps y:=by unfold inR at *; rw [setP_len] at hy; exact hy
  by_cases e:y=x
  ·subst e;rw [hq.2.2];exact Int.natCast_nonneg n
  ·rw [(kd_set_far hx hy e).2.2];exact h.rmax y hy
theorem HInv.up (h:HInv S n) {m:Nat} (hm:n≤m):HInv S m:=⟨h.toHCore,h.cnt,fun x hx=>Int.le_trans (h.rmax x hx) (by exact_mod_cast hm)⟩
end
section
open Go.Conc
section
variable {P:Program} {Q:Exit→Act→World→Prop}
def wpPre (P:Program) (K:Act→World→Prop):List Oper→Act→World→Prop
 | [],a,w=>K a w
 | o :: rest,a,w=>o.guard=none∧∃ v w',(execOp a.eval o).run P w=.ok (.value v) w'∧wpPre P K rest (a.put o.dst v) w'
def Speaks (P:Program) (o:Oper) (a:Act) (w:World) (v:Value) (w1:World):Prop:=
 ∀ fr cs,stepG P true (G fr cs) w=stepG.apply P true fr cs none (execOp a.eval o) w→step P (solo (G fr cs) w)=.next (solo (G (fr.finish v) cs) w1)
theorem pre_arrives {ops:Array Oper} {K:Act→World→Prop} {o:Oper} {post:List Nat}:∀ (l:List Oper) (i:Nat) (a:Act) (w:World),(∀ j,j < l.length→ops[i+j]?=l[j]?)→ops[i+l.length]?=some o →
 wpPre P K l a w→(∀ a' w',K a' w'→o.guard=none∧∃ v w1,Speaks P o a' w' v w1∧wpOps P ops Q post (a'.put o.dst v) w1) →
 ∀ (b:Frame) (k:List Item) (cs:List Frame),∃ e a' w',Q e a' w'∧Arrives P (lone (b.at a (.inRegion ops (List.range' i l.length ++ (i+l.length) :: post) :: k)) cs w) b k cs e a' w'
 | [],i,a,w,_,ho,h,hK,b,k,cs=>by
  obtain ⟨hg,v,w1,hs,hp⟩:=hK a w h;obtain ⟨e,a',w',hq,harr⟩:=wp_ops _ _ w1 hp b k cs;refine ⟨e,a',w',hq,.of_steps (.one ?_) harr⟩;have hw:Region.wanted o (yielded ops a.tmps)=true:=by simp [Region.wanted,hg]
  have hgo:=stepG_op (P:=P) (b:=b) (k:=k) (cs:=cs) (w:=w) (rest:=post) (i:=i) (by simpa using ho) hw;have h1:=hs (b.at a (.inRegion ops (i :: post) :: k)) cs hgo;have hfin:(b.at a (.inRegion ops (i :: post) :: k)).finish v=b.at (a.put o.dst v) (.inRegion ops post :: k):=by
   rw [Frame.finish_at,show ops[i]?=some o by simpa using ho];rfl
  rw [hfin] at h1;exact h1
 | x :: l,i,a,w,hl,ho,h,hK,b,k,cs=>by
  obtain ⟨hg,v,w',hr,h'⟩:=h;have hx:ops[i]?=some x:=by
   have:=hl 0 (by simp);simpa using this
  obtain ⟨e,a',w'',hq,harr⟩:=pre_arrives l (i+1) (a.put x.dst v) w' (fun j hj=>by
   have:=hl (j+1) (by simpa using hj);rw [show i+1+j=i+(j+1) by omega,this];rfl) (by rw [← ho]; congr 1; simp; omega) h' hK b k cs
  refine ⟨e,a',w'',hq,.of_steps (.one ?_) harr⟩;have hw:Region.wanted x (yielded ops a.tmps)=true:=by simp [Region.wanted,hg]
  have e1:List.range' i (x :: l).length ++ (i+(x :: l).length) :: post=i :: (List.range' (i+1) l.length ++ (i+1+l.length) :: post):=by
   rw [List.length_cons,List.range'_succ,List.cons_append,show i+(l.length+1)=i+1+l.length by omega]
  rw [e1];have hgo:=stepG_op (P:=P) (b:=b) (k:=k) (cs:=cs) (w:=w) (rest:=List.range' (i+1) l.length ++ (i+1+l.length) :: post) hx hw;have hfin:(b.at a (.inRegion ops (i :: (List.range' (i+1) l.length ++ (i+1+l.length) :: post)) :: k)).finish v=b.at (a.put x.dst v) (.inRegion ops (List.range' (i+1) l.length ++ (i+1+l.length) :: post) :: k):=by
   rw [Frame.finish_at,hx];rfl
  refine step_lone_go ?_;rw [hgo,← hfin];simp [stepG.apply,hr]
theorem wp_region_speaks {id:Nat} {a:Act} {w:World} (pre:List Oper) (o:Oper) (post:List Oper)
 (h:wpPre P (fun a' w'=>o.guard=none∧∃ v w1,Speaks P o a' w' v w1∧wpList P (pre ++ o :: post).toArray Q post (a'.put o.dst v) w1) pre a w):(Code.region id (pre ++ o :: post).toArray false).wp P Q a w:=by
 intro b k cs;have hpost:wpOps P (pre ++ o :: post).toArray Q (List.range' (pre.length+1) post.length)=wpList P (pre ++ o :: post).toArray Q post:=
  wpOps_eq_wpList post (pre.length+1) (fun j=>by
   simp only [List.getElem?_toArray];rw [List.getElem?_append_right (by omega),show pre.length+1+j - pre.length=j+1 by omega];rfl)
 obtain ⟨e,a',w',hq,harr⟩:=pre_arrives (P:=P) (Q:=Q) (ops:=(pre ++ o :: post).toArray) (o:=o) (post:=List.range' (pre.length+1) post.length) pre 0 a w (fun j hj=>by
  simp only [List.getElem?_toArray,Nat.zero_add];rw [List.getElem?_append_left hj]) (by simp) h (fun a' w' h'=>⟨h'.1,by rw [hpost]; exact h'.2⟩) b k cs
 refine ⟨e,a',w',hq,.of_steps (.one step_region) ?_⟩;have e1:List.range (pre ++ o :: post).toArray.size=List.range' 0 pre.length ++ (0+pre.length) :: List.range' (pre.length+1) post.length:=by
  simp only [List.size_toArray,List.length_append,List.length_cons];rw [List.range_eq_range',← List.range'_append_1 (s:=0) (m:=pre.length) (n:=post.length+1),List.range'_succ];simp
 rw [e1];exact harr
section
variable {o:Oper} {a:Act} {w:World} {c cap s r:Nat} {buf:Array Value} {z z' v:Value} {tm closed:Bool}
theorem speaks_send (hr:(execOp a.eval o).run P w=.ok (.comm #[scase c v z'] true .send) w) (hc:w.heap[c]?=some (.chan cap buf false s r tm)) (hroom:buf.size < cap) :
 Speaks P o a w undef (w.setChan c cap (buf.push v) false (s+1) r tm):=by
 intro fr cs h;refine step_lone_send_room (z':=z') (es:=seen P fr.fn (if fr.kind=CallKind.early then #[] else Sem.events P (execOp a.eval o) w #[]) ++ #[]) ?_ hc hroom;rw [h];simp [stepG.apply,hr,G];rfl
theorem speaks_recv (hr:(execOp a.eval o).run P w=.ok (.comm #[rcase c z] false .select) w) (hc:w.heap[c]?=some (.chan cap buf closed s r tm)) (hsome:0 < buf.size) :
 Speaks P o a w (.tuple #[goInt 0,.bool true,buf.getD 0 undef]) (w.setChan c cap (buf.extract 1 buf.size) closed s (r+1) tm):=by
 intro fr cs h;refine step_lone_select_recv_buf (z:=z) (es:=seen P fr.fn (if fr.kind=CallKind.early then #[] else Sem.events P (execOp a.eval o) w #[]) ++ #[]) ?_ hc hsome;rw [h];simp [stepG.apply,hr,G];rfl
theorem speaks_default (hr:(execOp a.eval o).run P w=.ok (.comm #[rcase c z] false .select) w) (hc:w.heap[c]?=some (.chan cap #[] false s r tm)) :
 Speaks P o a w (.tuple #[goInt (-1),.bool false,z]) w:=by
 intro fr cs h;refine step_lone_select_default (es:=seen P fr.fn (if fr.kind=CallKind.early then #[] else Sem.events P (execOp a.eval o) w #[]) ++ #[]) ?_ hc;rw [h];simp [stepG.apply,hr,G];rfl
end
end
end
end Go.Proofs.YtadgpnoealegiaaGreat
