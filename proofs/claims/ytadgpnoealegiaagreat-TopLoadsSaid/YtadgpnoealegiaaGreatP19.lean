import Derived.Test.YtadgpnoealegiaaGreatP13
import Derived.Test.YtadgpnoealegiaaGreatP18
namespace Go.Proofs.YtadgpnoealegiaaGreat
open Go.RowKit
open Go.Lib (hid)
set_option maxRecDepth 100000
set_option maxHeartbeats 20000000
section
open Go.ChangeMaps
theorem nodup_bound : ∀ (K:Nat) (l:List Int),l.Nodup→(∀ x ∈ l,0≤x∧x < K)→l.length≤K
 | 0,l,_,h=>by
  cases l with
  | nil=>simp
  | cons x l=>
   have:=h x (by simp);omega
 | K+1,l,hn,h=>by
  have h1:=nodup_bound K (l.erase (K:Int)) (hn.erase _) (fun x hx=>by
   have h2:=h x (List.mem_of_mem_erase hx);have h3:x≠(K:Int):=fun e=>by
    subst e;exact (List.Nodup.not_mem_erase hn) hx
   omega)
  rw [List.length_erase] at h1;split at h1 <;> omega
theorem IsRange.bound {w:World} {r m n K:Nat} {f:Int→Option Value} {l:Int→Bool} (h:IsRange w r m f l n) (hk:∀ k v,f k=some v→0≤k∧k < K):n≤K:=by
 obtain ⟨es,c,seen,h1,h2,h3,rfl,h5⟩:=h;obtain ⟨es',c',hb,hs,hkey,_⟩:=h3;rw [h1] at hb;cases hb;have hsub:(leftOf es seen).toList=es.toList.filter fun e=>!seen.contains e.born:=by simp [leftOf]
 have hnd:((leftOf es seen).toList.map fun e=>e.key).Nodup:=by
  rw [hsub];exact (hs.2.2.sublist (List.filter_sublist.map _))
 have hints:∀ x ∈ (leftOf es seen).toList,∃ k,x.key=.int .i64 k∧0≤k∧k < K:=fun x hx=>by
  rw [hsub] at hx;obtain ⟨k,h6,h7⟩:=hkey x (List.mem_filter.1 hx).1;exact ⟨k,h6,hk k _ h7⟩
 have:=nodup_bound K ((leftOf es seen).toList.map fun e=>match e.key with | .int _ k=>k | _=>0) (by
  rw [List.Nodup,List.pairwise_map] at hnd ⊢;refine hnd.imp_of_mem fun {x y} hx hy hne e=>hne ?_;obtain ⟨k1,e1,_⟩:=hints x hx;obtain ⟨k2,e2,_⟩:=hints y hy;rw [e1,e2] at e;rw [e1,e2];dsimp only at e;rw [e]) (fun x hx=>by
  obtain ⟨e,he,rfl⟩:=List.mem_map.1 hx;obtain ⟨k1,e1,h⟩:=hints e he;rw [e1];exact h)
 simpa using this
section
variable {w w':World} {b mr:Nat} {pv:Value} {s:Ep}
theorem efree1_any {c:Nat} (h:Blk w b 99 #[.int .i64 s.now,pv,.map (some mr)]) (hc:Blk w c 49 #[ptr b]) (n:Int) (h0:0≤n) (h1:n < 4611686018427387904) :
 Calls Tryz.prog 83 #[.int .i64 n,ptr c] w fun e w'=>e=.returned (.bool (decide (n+2≤s.now)))∧w=w':=by
 have x0:=h.at 0 (v:=.int .i64 s.now) rfl;have y0:=hc.at 0 (v:=ptr b) rfl;have ew:IntKind.i64.wrap (n+2)=n+2:=by rw [IntKind.wrap_i64]; omega
 clear h hc;go_enter Tryz.func83,Tryz.ntmps83;go_wp2_with fail;go_ret;exact ⟨rfl,rfl⟩
theorem RowR.cell {w:World} {e n g cap:Nat} {xs:List Value} (h:RowR w e 1 (.slice (some ⟨g,0,none⟩) n cap) n xs) {j:Nat} {u:Value} (hj:xs[j]?=some u):w.cell? ⟨g,j,none⟩=some u∧w.frozen? ⟨g,j,none⟩=false∧n≤cap:=by
 obtain ⟨hl,h'⟩:=id h;have hn:0 < n:=by
  have:=(List.getElem?_eq_some_iff.1 hj).1;omega
 obtain ⟨g',cap',cur,e1,hb,h1,_,_,h4⟩:=h.has hn;injection e1 with e1 _ e2;injection e1 with e1;injection e1 with e1;subst e1 e2;exact ⟨hb.at j (h4 j u hj),hb.frozen j,h1⟩
def SomeRow (w0 w:World) (s:Ep) (v:Value) (xs:List Int):Prop:=
 RowR w 3 1 v xs.length (xs.map (Value.int .i64))∧(∀ x,v.ownBlock=some x→w0.heap.size≤x)∧∀ x ∈ xs,∃ t,s.wt x=some t∧t+2≤s.now
theorem esome_any {c:Nat} (h:IsEp w b pv mr s) (hc:Blk w c 49 #[ptr b]) (hn:s.now < 4611686018427387000) :
 Calls Tryz.prog 82 #[.map (some mr),.func (.func 83) #[] #[ptr c]] w fun e w'=>∃ v xs,e=.returned v∧Only [] w w'∧SomeRow w w' s v xs∧xs.length≤4096:=by
 have HF:=hid (fun W (hW:Only [] w W) n h0 h1=>efree1_any (h.only hW (by simp) (by simp) (by simp)).obj (hc.only hW (by simp)) n h0 h1);have hen:=enters_of Tryz.func83 (by kernel_rfl) rfl;have HM:=hid h.map;have HWB:=hid h.wb;have hml:=h.map.lt;clear h hc;go_enter Tryz.func82,Tryz.ntmps82;go_wp2_with (first
  | (with_reducible (refine wpList_rng Tryz.underlying97 HM.out (by with_unfolding_all rfl) fun w1 N hr ho hsz=>?_))
  | fail)
 have HO1:=hid ho;have HR1:=hid hr;have hN:N≤4096:=hr.bound (K:=4096) fun k v hk=>by
  obtain ⟨t,ht⟩:∃ t,s.wt k=some t:=by
   cases h:s.wt k with
   | some t=>exact ⟨t,rfl⟩
   | none=>simp [h] at hk
  have:=HWB.out k t ht;omega
 clear ho hr
 go_frame
 go_loopg [5] N (fun k v wr=>∃ xs left,xs.length+k≤4096∧SomeRow w wr s v xs∧Only [] w wr∧IsRange wr w.heap.size mr (fun k=>(s.wt k).map (Value.int .i64)) left k)
 case atStart=>exact ⟨[],_,by simpa using hN,⟨RowR.nil _ _ _,by simp [Value.ownBlock],by simp⟩,HO1.out,HR1.out⟩
 case round=>
  obtain ⟨xs,left,hlen,hrow,ho,hr⟩:=hrel;obtain ⟨A,cap,rfl⟩:=hrow.1.form;have HROW:=hid hrow;have HO:=hid ho;have HR:=hid hr;clear ho hrow hr;go_wp2_with (first
   | (with_reducible (refine wpList_nxt HR.out (by with_unfolding_all rfl) (fun h0 hl0=>?_) (fun k v w2 n' hk hlk hr2 hlt ho2 hsz2 hen2=>?_)))
   | fail)
  ·go_ret;exact ⟨_,xs,rfl,HO.out,HROW.out,by omega⟩
  ·obtain ⟨t,ht⟩:∃ t,s.wt k=some t:=by
    cases h:s.wt k with
    | some t=>exact ⟨t,rfl⟩
    | none=>simp [h] at hk
   have hv:v=.int .i64 t:=by
    rw [ht] at hk;simpa using hk.symm
   subst hv;have hb:=HWB.out k t ht;have HT:=hid ht;have q2:Only [] w w2:=by
    refine HO.out.then ho2 fun x hx=>.inr ?_;have hx:x=w.heap.size:=by simpa using hx
    omega
   have HO2:=hid q2;have HR2:=hid hr2;have HROW2:=hid (show SomeRow w w2 s (.slice A xs.length cap) xs from ⟨HROW.out.1.only ho2 (fun x hx e=>by
    have hx:x=w.heap.size:=by simpa using hx
    subst hx;obtain ⟨_,cs,hb⟩:=HROW.out.1.lt _ e;have:=HR.out.lt;obtain ⟨es,cc,seen,h1,h2,_⟩:=HR.out;rw [Blk,h2] at hb;cases hb),HROW.out.2⟩)
   have hcall:=HF.out w2 q2 t hb.1 (by omega);have HC:=hid hcall;clear ho2 hr2 hk hlk ht q2 hcall hen2 hsz2;refine HC.out.mono ?_;rintro e w3 ⟨rfl,rfl⟩;by_cases htn:t+2≤s.now
   ·have htd:decide (t+2≤s.now)=true:=by simpa using htn
    obtain ⟨m,hm⟩:∃ m,xs.length=m:=⟨_,rfl⟩;have hml2:m≤4095:=by omega
    have hpk:∃ t,s.wt k=some t∧t+2≤s.now:=⟨t,HT.out,htn⟩;have HB3:=hid (Blk.new w2 3 #[.int .i64 k]);have q3:=(Only.refl [] w2).alloc (.cells #[.int .i64 k] 3);have HR3:=hid (HR2.out.only q3 (by simp) (by simp));have hrow3:=HROW2.out.1.quiet q3;rw [hm] at hrow3;have HROW3:=hid hrow3;have how:=HROW2.out.2.1;rw [hm] at how;have HOW:=hid how;have HPX:=hid HROW2.out.2.2;have HO3:=hid (HO2.out.trans q3);have HXS:=hid hm;rw [hm];clear q3 hrow3 hm how;have HU:=hid (show ∀ j u,[Value.int .i64 k][j]?=some u→(w2.alloc (.cells #[.int .i64 k] 3)).cell? ((⟨w2.heap.size,0,none⟩:Addr).add j)=some u from fun j u hu=>by
     rcases j with _ | j
     ·have hu:Value.int .i64 k=u:=by simpa using hu
      subst hu;exact HB3.out.at 0 rfl
     ·simp at hu)
    obtain ⟨i0,hz,hz0,hz1,hz2⟩:=info_parts Tryz.infoInt;have HI0:=hid (And.intro hz (And.intro hz0 (And.intro hz1 hz2)));clear hz hz0 hz1 hz2;go_wp2_with (first
     | (at_builtin; (refine wpList_append_R rfl (.tmp 22) (.tmp 24) 66 rfl 3 i0 (.int .i64 0) 1 8 Tryz.underlying66 HI0.out.1 HI0.out.2.1 HI0.out.2.2.1 HI0.out.2.2.2 rfl (by decide) (.slice A m cap) m (xs.map (Value.int .i64)) (by with_unfolding_all rfl) HROW3.out ⟨w2.heap.size,0,none⟩ 1 1 [.int .i64 k] (by with_unfolding_all rfl) rfl HU.out (by intro u hu; simp at hu; subst hu; rfl) (by unfold maxLen; omega) (by omega) (fun v5 w5 hr5 ho5 hw5=>?_)))
     | fail)
    obtain ⟨g5,cap5,cur5,rfl,hb5,hn5,_,_,_⟩:=hr5.has (by omega);have hw5':∀ x,(Value.slice (some ⟨g5,0,none⟩) (m+1) cap5).ownBlock=some x→w.heap.size≤x:=by
     have hz2:w.heap.size≤w2.heap.size:=HO2.out.size;have hz3:w2.heap.size≤(w2.alloc (.cells #[.int .i64 k] 3)).heap.size:=by simp
     rcases hw5 with h | h
     ·intro x hx;rw [h] at hx;exact HOW.out x hx
     ·intro x hx;rw [h] at hx;have:(w2.alloc (.cells #[.int .i64 k] 3)).heap.size=x:=by simpa using hx
      omega
    have HOW5:=hid hw5';have q5:Only [] w w5:=HO3.out.then ho5 fun x hx=>.inr (HOW.out x (Option.mem_toList.1 hx));have HO5:=hid q5;have HR5:Hid (IsRange w5 w.heap.size mr (fun k=>(s.wt k).map (Value.int .i64)) (fun j=>left j && decide (j≠k)) n'):=hid (HR3.out.only ho5 (fun hm=>by
     obtain ⟨_,cs,hb⟩:=HROW3.out.lt _ (Option.mem_toList.1 hm);obtain ⟨es,cc,seen,h1,h2,_⟩:=HR3.out;rw [Blk,h2] at hb;cases hb) (fun hm=>by
     obtain ⟨_,cs,hb⟩:=HROW3.out.lt _ (Option.mem_toList.1 hm);exact HR3.out.map.ne_blk hb rfl))
    have HRW5:=hid hr5;clear hr5 ho5 hw5 hw5' q5 hb5;have HKP:=hid hpk;clear hpk
    try go_frame
    go_loopg [8] m (fun q i wq=>q≤m∧i=.int .i64 q∧∃ ys:List Int,ys.length=m+1∧(∀ y ∈ ys,∃ t,s.wt y=some t∧t+2≤s.now)∧RowR wq 3 1 (.slice (some ⟨g5,0,none⟩) (m+1) cap5) (m+1) (ys.map (Value.int .i64))∧Only [] w wq∧IsRange wq w.heap.size mr (fun k=>(s.wt k).map (Value.int .i64)) (fun j=>left j && decide (j≠k)) n')
    case atStart=>
     refine ⟨Nat.le_refl _,rfl,xs ++ [k],by simp [HXS.out],fun y hy=>?_,by simpa using HRW5.out,HO5.out,HR5.out⟩;rcases List.mem_append.1 hy with h | h
     ·exact HPX.out y h
     ·rw [List.mem_singleton.1 h];exact HKP.out
    case round=>
     obtain ⟨hq,rfl,ys,hyl,hyp,hrw,hoq,hrq⟩:=hrel;obtain ⟨q,hqq⟩:∃ q,gk=q:=⟨_,rfl⟩;rw [hqq] at hq ⊢;obtain ⟨y,hy⟩:∃ y,ys[q]?=some y:=⟨ys[q]'(by omega),List.getElem?_eq_getElem _⟩;obtain ⟨cq,fq,hnc⟩:=hrw.cell (j:=q) (u:=.int .i64 y) (by rw [List.getElem?_map,hy]; rfl);have hqm:(q:Int) < ((m+1:Nat):Int):=by omega
     have hq0:(0:Int)≤(q:Int):=by omega
     have HRW:=hid hrw;have HOQ:=hid hoq;have HRQ:=hid hrq;have HYP:=hid hyp;have hend:∀ wz,wz=wr.setCell ⟨g5,q,none⟩ (.int .i64 k)→∃ zs:List Int,zs.length+n'≤4096∧SomeRow w wz s (.slice (some ⟨g5,0,none⟩) (m+1) cap5) zs∧Only [] w wz∧IsRange wz w.heap.size mr (fun k=>(s.wt k).map (Value.int .i64)) (fun j=>left j && decide (j≠k)) n':=by
      rintro wz rfl;have hlx:m=xs.length:=HXS.out.symm;have hg5:w.heap.size≤g5:=HOW5.out g5 rfl;obtain ⟨g',cap',cur',e1,hbq,_⟩:=HRW.out.has (by omega);injection e1 with e1 _ _;injection e1 with e1;injection e1 with e1;subst e1;have qs:Only [g5] wr (wr.setCell ⟨g5,q,none⟩ (.int .i64 k)):=(Only.refl [g5] wr).setCell (p:=⟨g5,q,none⟩) (by simp) _;refine ⟨ys.set q k,by rw [List.length_set]; omega,⟨?_,HOW5.out,fun z hz=>?_⟩,HOQ.out.setCell (p:=⟨g5,q,none⟩) (.inr hg5) _,HRQ.out.only qs (fun hm=>?_) (fun hm=>?_)⟩
      ·have:=HRW.out.set q (by omega) (.int .i64 k);rw [List.length_set,hyl,List.map_set];exact this
      ·rcases List.mem_or_eq_of_mem_set hz with h | h
       ·exact HYP.out z h
       ·rw [h];exact HKP.out
      ·have hm:w.heap.size=g5:=by simpa using hm
       obtain ⟨es,cc,seen,h1,h2,_⟩:=HRQ.out;rw [Blk,← hm,h2] at hbq;cases hbq
      ·exact HRQ.out.map.ne_blk hbq (by simpa using hm)
     have HEND:=hid hend;clear hend;cases q with
     | zero=>
      clear hrw hoq hrq hyp;go_wp2_with fail;go_roundg n'
      case measure=>exact hlt
      case rel=>
       obtain ⟨zs,h1,h2,h3,h4⟩:=HEND.out _ rfl;exact ⟨zs,_,h1,h2,h3,h4⟩
     | succ j=>
      obtain ⟨y1,hy1⟩:∃ y1,ys[j]?=some y1:=⟨ys[j]'(by omega),List.getElem?_eq_getElem _⟩;obtain ⟨cj,fj,_⟩:=hrw.cell (j:=j) (u:=.int .i64 y1) (by rw [List.getElem?_map,hy1]; rfl);have hg5:w.heap.size≤g5:=HOW5.out g5 rfl;have HY1:=hid hy1;clear hrw hoq hrq hyp hy hy1;have ej:((j+1:Nat):Int)=(j:Int)+1:=by omega
      rw [ej] at hqm hq0 ⊢;have h0j:(0:Int) < (j:Int)+1:=by omega
      have hjd:decide ((0:Int) < (j:Int)+1)=true:=decide_eq_true h0j;have e1:IntKind.i64.wrap ((j:Int)+1 - 1)=(j:Int):=by rw [IntKind.wrap_i64]; omega
      have j0:(0:Int)≤(j:Int):=by omega
      have jm:(j:Int) < ((m+1:Nat):Int):=by omega
      obtain ⟨bb,hbb⟩:∃ bb,decide (k < y1)=bb:=⟨_,rfl⟩;cases bb
      ·go_wp2_with fail;go_roundg n'
       case measure=>exact hlt
       case rel=>
        obtain ⟨zs,h1,h2,h3,h4⟩:=HEND.out _ rfl;exact ⟨zs,_,h1,h2,h3,h4⟩
      ·go_wp2_with fail;go_roundg j
       case measure=>omega
       case rel=>
        obtain ⟨g',cap',cur',e1,hbq,_⟩:=HRW.out.has (by omega);injection e1 with e1 _ _;injection e1 with e1;injection e1 with e1;subst e1;have qs:Only [g5] wr (wr.setCell ⟨g5,j+1,none⟩ (.int .i64 y1)):=(Only.refl [g5] wr).setCell (p:=⟨g5,j+1,none⟩) (by simp) _;refine ⟨by omega,by first | rfl | (congr 1; omega),ys.set (j+1) y1,by rw [List.length_set]; exact hyl,fun z hz=>?_,?_,HOQ.out.setCell (p:=⟨g5,j+1,none⟩) (.inr hg5) _,HRQ.out.only qs (fun hm=>?_) (fun hm=>?_)⟩
        ·rcases List.mem_or_eq_of_mem_set hz with h | h
         ·exact HYP.out z h
         ·rw [h];exact HYP.out y1 (List.mem_of_getElem? HY1.out)
        ·have:=HRW.out.set (j+1) (by omega) (.int .i64 y1);rw [List.map_set];exact this
        ·have hm:w.heap.size=g5:=by simpa using hm
         obtain ⟨es,cc,seen,h1,h2,_⟩:=HRQ.out;rw [Blk,← hm,h2] at hbq;cases hbq
        ·exact HRQ.out.map.ne_blk hbq (by simpa using hm)
   ·have htd:decide (t+2≤s.now)=false:=by simpa using htn
    go_wp2_with fail;go_roundg n'
    case measure=>exact hlt
    case rel=>exact ⟨xs,_,by omega,HROW2.out,HO2.out,HR2.out⟩
end
end
section
open Go.ChangeMaps
def Ep.drop (s:Ep) (xs:List Int):Ep:={ s with wt:=fun k=>if k ∈ xs then none else s.wt k }
section
variable {w w':World} {b mr:Nat} {pv:Value} {s:Ep}
theorem drop_next (s:Ep) (xs:List Int) (x:Int):updM (fun k=>((s.drop xs).wt k).map (Value.int .i64)) x none=fun k=>((s.drop (xs ++ [x])).wt k).map (Value.int .i64):=by
 funext k;unfold updM Ep.drop;dsimp only;by_cases h:k=x
 ·simp [h]
 ·by_cases h2:k ∈ xs <;> simp [h,h2]
theorem efree_any (h:IsEp w b pv mr s) (hn:s.now < 4611686018427387000) :
 Calls Tryz.prog 56 #[ptr b] w fun e w'=>∃ v xs,e=.returned v∧Only [mr] w w'∧SomeRow w w' s v xs∧xs.length≤4096∧IsEp w' b pv mr (s.drop xs):=by
 have q1:=(Only.refl [] w).alloc (.cells #[ptr b] 49);have HC:=hid (Blk.new w 49 #[ptr b]);have HT:=hid (ethere_any (h.quiet q1));have HS:=hid (esome_any (h.quiet q1) HC.out hn);have H0:=hid h;have HQ1:=hid q1;have hbl:=h.obj.lt;have x2:=(h.quiet q1).obj.at 2 (v:=.map (some mr)) rfl;have y2:=h.obj.at 2 (v:=.map (some mr)) rfl;have hne:b≠w.heap.size:=by omega
 have hne2:w.heap.size≠b:=by omega
 clear h q1;go_enter Tryz.func56,Tryz.ntmps56;go_wp2_with fail;refine HT.out.mono ?_;rintro e w1 ⟨rfl,rfl⟩;go_wp2_with fail;refine HS.out.mono ?_;rintro e w2 ⟨v,xs,rfl,ho,hr,hl⟩;obtain ⟨A,cap,rfl⟩:=hr.1.form;have hO2:=HQ1.out.trans ho;have HO2:=hid hO2;have HE2:=hid (H0.out.quiet hO2);have HC2:=hid (HC.out.only ho (by simp));have HR:=hid hr;have z0:=HC2.out.at 0 (v:=ptr b) rfl;have z2:=HE2.out.obj.at 2 (v:=.map (some mr)) rfl;obtain ⟨n,hnn⟩:∃ n,xs.length=n:=⟨_,rfl⟩;have HN:=hid hnn;have hn4:n≤4096:=by omega
 rw [hnn];clear ho hr hO2 x2 y2 hnn;go_wp2_with fail;go_loopg [17] n (fun k i wr=>k≤n∧i=.int .i64 ((n:Int) - k)∧Only [mr] w2 wr∧IsMap wr mr (fun j=>((s.drop (xs.take (n - k))).wt j).map (Value.int .i64)))
 case atStart=>exact ⟨Nat.le_refl _,by simp,Only.refl _ _,by
  have:=HE2.out.map;simp only [Nat.sub_self,List.take_zero];simpa [Ep.drop] using this⟩
 case round=>
  obtain ⟨hk,rfl,ho,hm⟩:=hrel;have HO:=hid ho;have HM:=hid hm;have HMB:Hid (mr≠b):=hid (H0.out.map.ne_blk H0.out.obj);have z0':=(ho.cell (p:=⟨w.heap.size,0,none⟩) HC2.out.lt (by simpa using (HE2.out.map.ne_blk HC2.out).symm)).trans z0;have z2':=(ho.cell (p:=⟨b,2,none⟩) HE2.out.obj.lt (by simpa using HMB.out.symm)).trans z2;cases gk with
  | zero=>
   clear ho hm;have hlt1:¬ ((n:Int) - ((0:Nat):Int) < n):=by omega
   go_wp2_with fail;go_ret;have hrow:SomeRow w wr s (.slice A n cap) xs:=by
    refine ⟨?_,fun x hx=>Nat.le_trans (by simp) (HR.out.2.1 x (by cases A <;> exact hx)),HR.out.2.2⟩;have:=HR.out.1.only HO.out (fun x hx e=>by
     have hx:x=mr:=by simpa using hx
     subst hx;obtain ⟨_,cs,hb⟩:=HR.out.1.lt _ e;exact HE2.out.map.ne_blk hb rfl)
    rw [HN.out] at this ⊢;exact this
   have hmap:=HM.out;rw [show n - 0=n from rfl,← HN.out,List.take_length] at hmap;refine ⟨_,rfl,(HO2.out.sub (by simp)).trans HO.out,xs,hrow,by rw [HN.out]; omega,HE2.out.obj.only HO.out (by simpa using HMB.out.symm),HE2.out.row.only HO.out (fun x hx e=>?_),hmap,HE2.out.cpus,HE2.out.n0,fun k t hk=>?_⟩
   ·have hx:x=mr:=by simpa using hx
    subst hx;obtain ⟨_,cs,hb⟩:=HE2.out.row.lt x e;exact HE2.out.map.ne_blk hb rfl
   ·refine HE2.out.wb k t ?_;unfold Ep.drop at hk;dsimp only at hk;split at hk
    ·cases hk
    ·exact hk
  | succ k=>
   obtain ⟨j,hj⟩:∃ j,n - (k+1)=j:=⟨_,rfl⟩;have hjn:j < n:=by omega
   have ej:(n:Int) - ((k+1:Nat):Int)=(j:Int):=by omega
   rw [ej];rw [hj] at HM;have hlt1:(j:Int) < n:=by omega
   have i0:(0:Int)≤(j:Int):=by omega
   have ew2:IntKind.i64.wrap ((j:Int)+1)=(j:Int)+1:=by rw [IntKind.wrap_i64]; omega
   obtain ⟨x,hx⟩:∃ x,xs[j]?=some x:=⟨xs[j]'(by rw [HN.out]; exact hjn),by simp [HN.out,hjn]⟩;obtain ⟨g,cap1,cur,hv1,hb,hnc,_,_,hcc⟩:=HR.out.1.has (by rw [HN.out]; omega);have xg:=hb.at j (hcc j (.int .i64 x) (by simp [hx]));rw [HN.out] at hv1 hnc;injection hv1 with e1 e2 e3;subst e1 e3;have xg':=(ho.cell (p:=⟨g,j,none⟩) hb.lt (by simpa using (HE2.out.map.ne_blk hb).symm)).trans xg;have HX:=hid hx;clear ho hm hx hb hcc xg e2 ej;go_wp2_with (first
    | (with_reducible (refine wpList_del Tryz.underlying97 Tryz.underlying3 HM.out (by with_unfolding_all rfl) (by with_unfolding_all rfl) (fun w3 hm3 ho3 _=>?_)))
    | fail)
   have hxs:xs.take j ++ [x]=xs.take (j+1):=by
    rw [List.take_add_one,HX.out];rfl
   rw [drop_next,hxs] at hm3;have HM3:=hid hm3;have HO3:=hid (HO.out.trans ho3);clear hm3 ho3;go_wp2_with fail;go_roundg k
   case measure=>omega
   case rel=>
    have e1:(j:Int)+1=(n:Int) - k:=by omega
    have e2:n - k=j+1:=by omega
    refine ⟨by omega,by rw [e1],HO3.out,?_⟩;rw [e2];exact HM3.out
theorem enew_any (w:World) (cpus:Nat) (h0:1≤cpus) (h8:cpus≤8) :
 Calls Tryz.prog 12 #[.int .i64 cpus] w fun e w'=>∃ b mr pv,e=.returned (.tuple #[ptr b,.int .i64 0])∧Only [] w w'∧IsEp w' b pv mr ⟨0,List.replicate cpus (-1),fun _=>none⟩∧w.heap.size≤b∧w.heap.size≤mr∧∀ x,pv.ownBlock=some x→w.heap.size≤x:=by
 obtain ⟨i0,hz,hz0,hz1,hz2⟩:=info_parts Tryz.infoInt;have HI0:=hid (And.intro hz (And.intro hz0 (And.intro hz1 hz2)));clear hz hz0 hz1 hz2;have d1:decide ((cpus:Int) < 1)=false:=decide_eq_false (by omega);have d2:decide ((8:Int) < cpus)=false:=decide_eq_false (by omega);have hmm:=@run_makeMap Tryz.prog;obtain ⟨w1,hw1⟩:∃ w1,(w.alloc (.map #[] 0)).alloc (.cells #[.int .i64 0,.slice none 0 0,.map (some w.heap.size)] 99)=w1:=⟨_,rfl⟩;have HW1:=hid hw1;have q1:Only [] w w1:=by rw [← hw1]; exact ((Only.refl [] w).alloc _).alloc _
 have hb1:Blk w1 (w.heap.size+1) 99 #[.int .i64 0,.slice none 0 0,.map (some w.heap.size)]:=by rw [← hw1]; exact Blk.new' (w.alloc (.map #[] 0)) _ _ (by simp)
 have hm1:IsMap w1 w.heap.size (fun _=>none):=by rw [← hw1]; exact (IsMap.new w).only ((Only.refl [] _).alloc _) (by simp)
 obtain ⟨b,hb⟩:∃ b,w.heap.size+1=b:=⟨_,rfl⟩;have hbw:w.heap.size < b:=by omega
 have HB1:=hid hb1;have HM1:=hid hm1;have HQ1:=hid q1;rw [hb] at HB1;have HB:=hid hb;clear hw1 q1 hb1 hm1 hb;go_enter Tryz.func12,Tryz.ntmps12;go_wp2_with fail;rw [HW1.out,HB.out];go_loopg [15] cpus (fun k i wr=>k≤cpus∧i=.int .i64 ((cpus:Int) - k)∧Only [] w wr∧∃ v,Blk wr b 99 #[.int .i64 0,v,.map (some w.heap.size)]∧RowR wr 3 1 v (cpus - k) (List.replicate (cpus - k) (.int .i64 (-1)))∧(∀ x,v.ownBlock=some x→w.heap.size≤x)∧IsMap wr w.heap.size (fun _=>none))
 case atStart=>exact ⟨Nat.le_refl _,by simp,HQ1.out,_,HB1.out,by simpa using RowR.nil _ _ _,by simp [Value.ownBlock],HM1.out⟩
 case round=>
  obtain ⟨hk,rfl,ho,v,hb,hr,hv,hm⟩:=hrel;obtain ⟨A,cap,rfl⟩:=hr.form;have HO:=hid ho;have HB2:=hid hb;have HR:=hid hr;have HV:=hid hv;have HM:=hid hm;cases gk with
  | zero=>
   have hlt1:¬ ((cpus:Int) - ((0:Nat):Int) < cpus):=by omega
   clear ho hb hr hv hm;go_wp2_with fail;have hep:IsEp wr b (.slice A cpus cap) w.heap.size ⟨0,List.replicate cpus (-1),fun _=>none⟩:=by
    refine ⟨HB2.out,by simpa using HR.out,by simpa using HM.out,by simpa using h8,Int.le_refl _,fun k n h=>?_⟩;cases h
   go_ret2;exact ⟨b,rfl,HO.out,_,_,hep,Nat.le_of_lt hbw,Nat.le_refl _,HV.out⟩
  | succ k=>
   obtain ⟨j,hj⟩:∃ j,cpus - (k+1)=j:=⟨_,rfl⟩;have ej:(cpus:Int) - ((k+1:Nat):Int)=(j:Int):=by omega
   have hjn:j < cpus:=by omega
   rw [ej];rw [hj] at HR HV HB2;have hlt1:(j:Int) < cpus:=by omega
   have ew2:IntKind.i64.wrap ((j:Int)+1)=(j:Int)+1:=by rw [IntKind.wrap_i64]; omega
   have x1:=HB2.out.at 1 (v:=.slice A j cap) rfl;have g1:=HB2.out.frozen 1;have hbl:=HB2.out.lt;have q3:=(Only.refl [] wr).alloc (.cells #[.int .i64 (-1)] 3);have HR3:=hid (HR.out.quiet q3);have HO3:=hid (HO.out.trans q3);have HU:=hid (show ∀ i u,[Value.int .i64 (-1)][i]?=some u→(wr.alloc (.cells #[.int .i64 (-1)] 3)).cell? ((⟨wr.heap.size,0,none⟩:Addr).add i)=some u from fun i u hu=>by
    rcases i with _ | i
    ·have hu:Value.int .i64 (-1)=u:=by simpa using hu
     subst hu;exact (Blk.new wr 3 #[.int .i64 (-1)]).at 0 rfl
    ·simp at hu)
   have hne3:b≠wr.heap.size:=by omega
   have HB3:=hid (HB2.out.only q3 (by simp));have HM3:=hid (HM.out.only q3 (by simp));have hnb:b ∉ (Value.slice A j cap).ownBlock.toList:=by
    simp only [Option.mem_toList];exact HR.out.ne HB2.out (by decide)
   have hsz3:wr.heap.size≤(wr.alloc (.cells #[.int .i64 (-1)] 3)).heap.size:=by simp
   have HSZ:=hid hsz3;have HNB:=hid hnb;clear ho hb hr hv hm ej q3 hsz3 hnb;go_wp2_with (first
    | (at_builtin; (refine wpList_append_R rfl (.tmp 21) (.tmp 22) 66 rfl 3 i0 (.int .i64 0) 1 8 Tryz.underlying66 HI0.out.1 HI0.out.2.1 HI0.out.2.2.1 HI0.out.2.2.2 rfl (by decide) (.slice A j cap) j (List.replicate j (.int .i64 (-1))) (by with_unfolding_all rfl) HR3.out ⟨wr.heap.size,0,none⟩ 1 1 [.int .i64 (-1)] (by with_unfolding_all rfl) rfl HU.out (by intro u hu; simp at hu; subst hu; rfl) (by unfold maxLen; omega) (by omega) ?_)
       intro v5 w5 hr5 ho5 hw5;obtain ⟨A5,cap5,rfl⟩:=hr5.form;have HR5:=hid hr5;have HO5:=hid ho5;have HW5:=hid hw5;have HB5:=hid (HB3.out.only ho5 HNB.out);have y1:=HB5.out.at 1 (v:=.slice A j cap) rfl;have g5:=HB5.out.frozen 1;clear hr5 ho5 hw5)
    | fail)
   go_roundg k
   case measure=>omega
   case rel=>
    have e1:(j:Int)+1=(cpus:Int) - k:=by omega
    have e2:cpus - k=j+1:=by omega
    have hv5:∀ x,(Value.slice A5 (j+1) cap5).ownBlock=some x→w.heap.size≤x:=by
     rcases HW5.out with h | h
     ·intro x hx;rw [h] at hx;exact HV.out x hx
     ·intro x hx;rw [h] at hx;have:(wr.alloc (.cells #[.int .i64 (-1)] 3)).heap.size=x:=by simpa using hx
      have:=HSZ.out;omega
    have q5:Only [] w w5:=HO3.out.then HO5.out fun x hx=>.inr (HV.out x (Option.mem_toList.1 hx));have qs:Only [b] w5 (w5.setCell ⟨b,1,none⟩ (.slice A5 (j+1) cap5)):=(Only.refl [b] w5).setCell (p:=⟨b,1,none⟩) (by simp) _;rw [e2];refine ⟨by omega,by rw [e1],q5.setCell (p:=⟨b,1,none⟩) (.inr (Nat.le_of_lt hbw)) _,_,by simpa using HB5.out.set 1 (.slice A5 (j+1) cap5),?_,hv5,?_⟩
    ·have h5:=HR5.out.only qs (fun x hx e=>by
      have hx:x=b:=by simpa using hx
      subst hx;exact HR5.out.ne HB5.out (by decide) e)
     rw [List.replicate_succ'];exact h5
    ·have hm5:=HM3.out.only HO5.out (fun hm=>by
      obtain ⟨_,cs,hb⟩:=HR3.out.lt _ (Option.mem_toList.1 hm);exact HM3.out.ne_blk hb rfl)
     exact hm5.only qs (by simp; omega)
end
end
section
open Go.Conc
structure Ask where
 id:Int
 t:Int
 p:Int
def Ask.val (a:Ask):Value:=.agg #[.int .i64 a.id,.int .i64 a.t,.int .i64 a.p]
theorem ask_out (id t p:Int):Ask.val ⟨id,t,p⟩=.agg #[.int .i64 id,.int .i64 t,.int .i64 p]:=rfl
structure Bx where
 bs:List (List Ask)
 op:List Int
def IsChan (w:World) (c:Nat) (q:List Ask):Prop:=∃ s r,w.heap[c]?=some (.chan 16 (q.map Ask.val).toArray false s r false)
theorem IsChan.only {S:List Nat} {w w':World} {c:Nat} {q:List Ask} (h:IsChan w c q) (o:Only S w w') (hc:c ∉ S):IsChan w' c q:=by
 obtain ⟨s,r,h⟩:=h;exact ⟨s,r,(o.block c (Array.getElem?_eq_some_iff.1 h).1 hc).trans h⟩
theorem IsChan.lt {w:World} {c:Nat} {q:List Ask} (h:IsChan w c q):c < w.heap.size:=by
 obtain ⟨s,r,h⟩:=h;exact (Array.getElem?_eq_some_iff.1 h).1
theorem IsChan.ne {w:World} {c g t:Nat} {q:List Ask} {cs:Array Value} (h:IsChan w c q) (hb:Blk w g t cs):c≠g:=by
 rintro rfl;obtain ⟨s,r,h⟩:=h;rw [Blk,h] at hb;cases hb
structure IsBx (w:World) (b:Nat) (bv ov:Value) (cs:List Nat) (s:Bx):Prop where
 obj:Blk w b 102 #[bv,ov]
 row:RowR w 103 1 bv cs.length (cs.map fun c=>Value.chan (some c))
 opn:RowR w 3 1 ov s.op.length (s.op.map (Value.int .i64))
 len:cs.length=s.bs.length
 chans:∀ (i c:Nat) (q:List Ask),cs[i]?=some c→s.bs[i]?=some q→IsChan w c q
 nodup:cs.Nodup
 cpus:cs.length≤8
 ids:∀ q ∈ s.bs,∀ a ∈ q,1≤a.id∧a.id≤s.op.length
section
variable {w w':World} {b:Nat} {bv ov:Value} {cs:List Nat} {s:Bx}
theorem IsBx.only {S:List Nat} (h:IsBx w b bv ov cs s) (o:Only S w w') (hb:b ∉ S) (hv:∀ x ∈ S,bv.ownBlock≠some x) (ho:∀ x ∈ S,ov.ownBlock≠some x) (hc:∀ x ∈ S,x ∉ cs):IsBx w' b bv ov cs s:=
 ⟨h.obj.only o hb,h.row.only o hv,h.opn.only o ho,h.len,fun i c q h1 h2=>(h.chans i c q h1 h2).only o fun hm=>hc c hm (List.mem_of_getElem? h1),h.nodup,h.cpus,h.ids⟩
theorem IsBx.quiet (h:IsBx w b bv ov cs s) (o:Only [] w w'):IsBx w' b bv ov cs s:=h.only o (by simp) (by simp) (by simp) (by simp)
theorem bhas_any (h:IsBx w b bv ov cs s) (c:Nat) (hc:c < cs.length):Calls Tryz.prog 23 #[ptr b,.int .i64 c] w fun e w'=>e=.returned (.bool true)∧w=w':=by
 obtain ⟨A,cap,rfl⟩:=h.row.form;obtain ⟨n,hn⟩:∃ n,cs.length=n:=⟨_,rfl⟩;rw [hn] at hc;have x0:=h.obj.at 0 (v:=.slice A cs.length cap) rfl;rw [hn] at x0;have i0:decide ((0:Int)≤(c:Int))=true:=decide_eq_true (by omega);have i1:decide ((c:Int) < (n:Int))=true:=decide_eq_true (by omega);clear h hn;go_enter Tryz.func23,Tryz.ntmps23;go_wp2_with fail;go_ret;exact ⟨rfl,rfl⟩
theorem bdone_any (h:IsBx w b bv ov cs s) (id:Int):Calls Tryz.prog 51 #[ptr b,.int .i64 id] w fun e w'=>e=.returned (.bool (decide (1≤id∧id≤s.op.length∧s.op.getD (id.toNat - 1) 1=0)))∧w=w':=by
 obtain ⟨A,cap,hov⟩:=h.opn.form;obtain ⟨n,hn⟩:∃ n,s.op.length=n:=⟨_,rfl⟩;have x1:=h.obj.at 1 (v:=ov) rfl;rw [hov,hn] at x1;rw [hn];by_cases h1:1≤id
 ·by_cases h2:id≤n
  ·obtain ⟨k,rfl⟩:∃ k:Nat,id=(k:Int)+1:=⟨(id - 1).toNat,by omega⟩;have hk:k < n:=by omega
   obtain ⟨y,hy⟩:∃ y,s.op[k]?=some y:=⟨s.op[k]'(by omega),List.getElem?_eq_getElem _⟩;obtain ⟨g,cap',cur,hv,hb,hnc,_,_,hcc⟩:=h.opn.has (by omega);have xk:=hb.at k (hcc k (.int .i64 y) (by simp [hy]));have hv2:=hov.symm.trans hv;injection hv2 with e1 e2 e3;subst e1 e3;have d1:decide ((1:Int)≤(k:Int)+1)=true:=decide_eq_true (by omega);have d2:decide ((k:Int)+1≤(n:Int))=true:=decide_eq_true (by omega);have ew1:IntKind.i64.wrap (k:Int)=(k:Int):=by
    rw [IntKind.wrap_i64];unfold maxLen at *;omega
   have ew:IntKind.i64.wrap ((k:Int)+1 - 1)=(k:Int):=by
    rw [IntKind.wrap_i64];unfold maxLen at *;omega
   have i0:(0:Int)≤(k:Int):=by omega
   have i1:(k:Int) < (n:Int):=by omega
   have hR:decide (1≤(k:Int)+1∧(k:Int)+1≤(n:Int)∧s.op.getD (((k:Int)+1).toNat - 1) 1=0)=(y == 0):=by
    rw [show ((k:Int)+1).toNat - 1=k by omega,List.getD_eq_getElem?_getD,hy,Option.getD_some];rw [Bool.eq_iff_iff];simp;omega
   rw [hR];rw [hn] at hnc;clear hR h hy hcc hb hov hv e2;go_enter Tryz.func51,Tryz.ntmps51;go_wp2_with fail;go_ret;exact ⟨rfl,rfl⟩
  ·have d1:decide ((1:Int)≤id)=true:=decide_eq_true (by omega);have d2:decide (id≤(n:Int))=false:=decide_eq_false (by omega);have hR:decide (1≤id∧id≤(n:Int)∧s.op.getD (id.toNat - 1) 1=0)=false:=decide_eq_false (by omega);rw [hR];clear hR h hov;go_enter Tryz.func51,Tryz.ntmps51;go_wp2_with fail;go_ret;exact ⟨rfl,rfl⟩
 ·have d1:decide ((1:Int)≤id)=false:=decide_eq_false (by omega);have hR:decide (1≤id∧id≤(n:Int)∧s.op.getD (id.toNat - 1) 1=0)=false:=decide_eq_false (by omega);rw [hR];clear hR h hov;go_enter Tryz.func51,Tryz.ntmps51;go_wp2_with fail;go_ret;exact ⟨rfl,rfl⟩
end
end
end Go.Proofs.YtadgpnoealegiaaGreat
