import Derived.Test.YtadgpnoealegiaaGreatP08
namespace Go.Proofs.YtadgpnoealegiaaGreat
open Go.RowKit
open Go.Lib (hid)
set_option maxRecDepth 100000
set_option maxHeartbeats 20000000
section
open Go.Shelf
attribute [local go_sem] Oper.semAt_some
theorem KeepsOthers.of_only {S:List Nat} {W W':World} (h:Only S W W') (hS:∀ x ∈ S,∃ t cs,Blk W x t cs):KeepsOthers W W':=
 ⟨h.size,fun k o hk ho=>by
  refine (h.block k (Array.getElem?_eq_some_iff.1 hk).1 (fun hm=>?_)).trans hk;obtain ⟨t,cs,hb⟩:=hS k hm;rw [show W.heap[k]?=_ from hb] at hk;cases hk;cases ho⟩
theorem It_of.mk' {W:World} {B pb pr:Nat} {ps:List D} (h:IsPool W pb pr ps) (k:Int) {u:Value} {t:TypeId} (hB:Blk W B t #[u]) (hu:u.ownBlock=none) (h1:pb≠B) (h2:pr≠B) :
 It_of B (((W.alloc (.cells #[.int .i64 k] 3)).alloc (.cells #[ptr pb] 81)).alloc (.cells #[.func (.func 202) #[] #[ptr W.heap.size]] 244)) (W.heap.size+1) (W.heap.size+1+1) W.heap.size pb pr k ps:=by
 have ho:=(((Only.refl [] W).alloc (.cells #[.int .i64 k] 3)).alloc (.cells #[ptr pb] 81)).alloc (.cells #[.func (.func 202) #[] #[ptr W.heap.size]] 244);have b0:=hB.only ho (by simp);have hl:=hB.lt;have hn:∀ g,g≠B→¬ Mine B (((W.alloc (.cells #[.int .i64 k] 3)).alloc (.cells #[ptr pb] 81)).alloc (.cells #[.func (.func 202) #[] #[ptr W.heap.size]] 244)) g:=by
  rintro g hg (e | ⟨v,h1,h2⟩)
  ·exact hg e
  ·rw [b0.at 0 (v:=u) rfl] at h1;cases h1;rw [hu] at h2;cases h2
 refine ⟨?_,?_,?_,hn _ (by omega),hn _ (by omega),hn _ (by omega),hn _ h1,hn _ h2,by simp <;> omega,h.only ho (by simp) (by simp)⟩
 ·exact ((Blk.new' (W.alloc (.cells #[.int .i64 k] 3)) 81 #[ptr pb] (by simp)).alloc _).at 0 rfl
 ·exact (Blk.new' ((W.alloc (.cells #[.int .i64 k] 3)).alloc (.cells #[ptr pb] 81)) 244 #[.func (.func 202) #[] #[ptr W.heap.size]] (by simp)).at 0 rfl
 ·exact (((Blk.new W 3 #[.int .i64 k]).alloc _).alloc _).at 0 rfl
structure TkSt (w W:World) (pb pr:Nat) (ps:List D) (k o x e:Int):Prop where
 b0:Blk W w.heap.size 81 #[ptr pb]
 b1:Blk W (w.heap.size+1) 3 #[.int .i64 k]
 b2:Blk W (w.heap.size+1+1) 3 #[.int .i64 o]
 b3:Blk W (w.heap.size+1+1+1) 3 #[.int .i64 x]
 b4:Blk W (w.heap.size+1+1+1+1) 36 #[.int .i64 e]
 only:Only [pr] w W
 pool:IsPool W pb pr ps
theorem TkSt.quiet {w W W':World} {pb pr:Nat} {ps:List D} {k o x e:Int} (h:TkSt w W pb pr ps k o x e) (q:Only [] W W'):TkSt w W' pb pr ps k o x e:=
 ⟨h.b0.only q (by simp),h.b1.only q (by simp),h.b2.only q (by simp),h.b3.only q (by simp),h.b4.only q (by simp),h.only.trans (q.sub (by simp)),h.pool.only q (by simp) (by simp)⟩
theorem TkSt.step {w W W':World} {n₀ pb pr:Nat} {ps:List D} {k o x e:Int} (h:TkSt w W pb pr ps k o x e) (st:StepT [] n₀ W W') (hn:w.heap.size≤n₀):TkSt w W' pb pr ps k o x e:=
 ⟨st.blk h.b0 (by simp),st.blk h.b1 (by simp),st.blk h.b2 (by simp),st.blk h.b3 (by simp),st.blk h.b4 (by simp),st.only h.only hn (by simp),⟨st.blk h.pool.obj (by simp),st.blk h.pool.row (by simp),h.pool.len,h.pool.max,h.pool.wf⟩⟩
theorem TkSt.turned {w W W':World} {pb pr:Nat} {ps ps':List D} {k o x e:Int} (h:TkSt w W pb pr ps k o x e) (q:Only [pr] W W') (hp:IsPool W' pb pr ps') (hpr:pr < w.heap.size):TkSt w W' pb pr ps' k o x e:=
 ⟨h.b0.only q (by simp <;> omega),h.b1.only q (by simp <;> omega),h.b2.only q (by simp <;> omega),h.b3.only q (by simp <;> omega),h.b4.only q (by simp <;> omega),h.only.trans q,hp⟩
theorem TkSt.said {w W:World} {pb pr:Nat} {ps:List D} {k o x e:Int} (h:TkSt w W pb pr ps k o x e) (x' e':Int) (hpb:pb < w.heap.size) (hpr:pr < w.heap.size):TkSt w ((W.setCell ⟨w.heap.size+1+1+1,0,none⟩ (.int .i64 x')).setCell ⟨w.heap.size+1+1+1+1,0,none⟩ (.int .i64 e')) pb pr ps k o x' e':=
 ⟨(h.b0.far (by simp <;> omega) _).far (by simp <;> omega) _,(h.b1.far (by simp <;> omega) _).far (by simp <;> omega) _,(h.b2.far (by simp <;> omega) _).far (by simp <;> omega) _,
  Blk.far (by simpa using h.b3.set 0 (.int .i64 x')) (by simp) _,by simpa using (h.b4.far (p:=⟨w.heap.size+1+1+1,0,none⟩) (by simp) (.int .i64 x')).set 0 (.int .i64 e'),
  (h.only.setCell (p:=⟨w.heap.size+1+1+1,0,none⟩) (.inr (by simp <;> omega)) _).setCell (p:=⟨w.heap.size+1+1+1+1,0,none⟩) (.inr (by simp <;> omega)) _,
  h.pool.only (((Only.refl [w.heap.size+1+1+1,w.heap.size+1+1+1+1] W).setCell (p:=⟨w.heap.size+1+1+1,0,none⟩) (by simp) _).setCell (p:=⟨w.heap.size+1+1+1+1,0,none⟩) (by simp) _) (by simp <;> omega) (by simp <;> omega)⟩
theorem TkSt.putD {w W:World} {pb pr m:Nat} {ps:List D} {k o x e:Int} (h:TkSt w W pb pr ps k o x e) (hm:w.heap.size+1+1+1+1+1≤m) (hpb:pb < w.heap.size) (hpr:pr < w.heap.size) (b:Obj):TkSt w (W.putObj m b) pb pr ps k o x e:=by
 have q:Only [m] W (W.putObj m b):=⟨rfl,rfl,rfl,by simp [World.putObj],fun i _ hn=>World.putObj_heap_other (by simpa using hn)⟩;have h1:∀ i,i < m→i ∉ [m]:=fun i hi=>by simp; omega
 exact ⟨h.b0.only q (h1 _ (by omega)),h.b1.only q (h1 _ (by omega)),h.b2.only q (h1 _ (by omega)),h.b3.only q (h1 _ (by omega)),h.b4.only q (h1 _ (by omega)),
  h.only.then q (fun i hi=>.inr (by
   have:i=m:=by simpa using hi
   omega)),h.pool.only q (h1 _ (by omega)) (h1 _ (by omega))⟩
theorem free_head {ps:List D} (hw:∀ d ∈ ps,d.wf) {f:Int} {l:List Int} (h:freeN ps=f :: l) (k o:Int) (hk:k=3∨k=4):turnN ps f k o=(setP ps f ⟨k,o,0,0⟩,0):=by
 have hm:f ∈ freeN ps:=by rw [h]; exact .head _
 unfold freeN suchN suchTo at hm;simp only [List.mem_map,List.mem_filter,List.mem_range] at hm;obtain ⟨j,⟨hj,h0⟩,rfl⟩:=hm;have hd:ps[j]?=some (dOf ps j):=by simp [dOf,hj]
 have hwf:=hw _ (List.mem_of_getElem? hd);have hk0:(dOf ps j).k=0:=by simpa using h0
 have hr0:(dOf ps j).r=0:=by have:=hwf.k; omega
 unfold turnN changeN inP nextD canN leadsN;rw [if_pos (by simp <;> omega)];rcases hk with rfl | rfl <;> simp [hr0,hk0]
theorem pre_one {xs:List Int} {x:Int} (h:[x] <+: xs):∃ l,xs=x :: l:=by
 obtain ⟨t,rfl⟩:=h;exact ⟨t,rfl⟩
theorem take_any {w:World} {pb pr:Nat} {ps:List D} (k o:Int) (h:IsPool w pb pr ps) (hk:k=3∨k=4) (ho1:1≤o) (ho2:o≤16):Calls Tryz.prog 136 #[ptr pb,.int .i64 k,.int .i64 o] w fun e w'=>
 e=.returned (.tuple #[.int .i64 (takeN ps k o).2.1,.int .i64 (takeN ps k o).2.2])∧Only [pr] w w'∧IsPool w' pb pr (takeN ps k o).1:=by
 obtain ⟨W0,hW0⟩:∃ W0,(((((w.alloc (.cells #[ptr pb] 81)).alloc (.cells #[.int .i64 k] 3)).alloc (.cells #[.int .i64 o] 3)).alloc (.cells #[.int .i64 0] 3)).alloc (.cells #[.int .i64 0] 36))=W0:=⟨_,rfl⟩;have hO:Only [] w W0:=by rw [← hW0]; exact (((((Only.refl [] w).alloc _).alloc _).alloc _).alloc _).alloc _
 have hsz:W0.heap.size=w.heap.size+1+1+1+1+1:=by rw [← hW0]; simp
 have hl:=h.lt;have hw:=h.wf;have hS:TkSt w W0 pb pr ps k o 0 0:=by
  refine ⟨?_,?_,?_,?_,?_,hO.sub (by simp),h.only hO (by simp) (by simp)⟩
  ·rw [← hW0]; exact ((((Blk.new w _ _).alloc _).alloc _).alloc _).alloc _
  ·rw [← hW0]; exact (((Blk.new' _ _ _ (by simp)).alloc _).alloc _).alloc _
  ·rw [← hW0]; exact ((Blk.new' _ _ _ (by simp)).alloc _).alloc _
  ·rw [← hW0]; exact (Blk.new' _ _ _ (by simp)).alloc _
  ·rw [← hW0]; exact Blk.new' _ _ _ (by simp)
 have hn0:((ps.length:Int) == 0)=false:=by have:=h.len; rw [beq_eq_false_iff_ne]; intro e; simp at e; rw [e] at this; simp at this
 have HS:=hid hS;have HL:=hid (plen_any hS.pool);have HI:=hid (It_of.mk' hS.pool 0 hS.b3 rfl (by omega) (by omega));have HW:=hid hw;have c0:=hS.b0.at 0 (v:=ptr pb) rfl;rw [hsz] at HI;have HZ:=hid hsz;clear h hO hS hw;refine (callsIn_wide (n:=6)).1 ?_;refine callsIn_of_wp_marks Tryz.func136 rfl trivial ?_ rfl;simp only [Tryz.ntmps136,List.size_toArray,List.length_cons,List.length_nil,Nat.reduceAdd,Nat.reduceSub,Array.replicate_succ,Array.replicate_zero,List.push_toArray,List.append_toArray,List.nil_append,List.cons_append];gi_wp2_with (first
  | (refine ⟨trivial,?_⟩; gi_at_call 70; refine (callsIn_wide.2 HL.out).mono ?_; rintro e w' ⟨rfl,rfl⟩)
  | (refine ⟨trivial,?_⟩; gi_at_call 174; refine (callsIn_wide.2 (pof_any _ _ _)).mono ?_; rintro e w' ⟨rfl,rfl⟩))
 obtain ⟨W1,hW1⟩:∃ W1,(((W0.alloc (.cells #[.int .i64 0] 3)).alloc (.cells #[ptr pb] 81)).alloc (.cells #[.func (.func 202) #[] #[ptr (w.heap.size+1+1+1+1+1)]] 244))=W1:=⟨_,rfl⟩;have hq:Only [] W0 W1:=by rw [← hW1]; exact (((Only.refl [] W0).alloc _).alloc _).alloc _
 rw [hW1] at HI ⊢;have HS:=hid (HS.out.quiet hq);have hz1:=hq.size;have hz:w.heap.size≤W1.heap.size:=by omega
 have hz5:w.heap.size+1+1+1+1+1≤W1.heap.size:=by omega
 have HZ5:=hid hz5;clear hW1 hq hW0 c0 hsz HL hn0 hz1 hz5;refine wpIn_rangeFunc_T rfl (by omega) (gf:=199) (lb:=#[ptr (w.heap.size+1+1+1+1+1+1),ptr (w.heap.size+1+1+1+1+1+1+1)]) rfl trivial (enters_of Tryz.func199 (by kernel_rfl) rfl)
  (of_it 5 (w.heap.size+1+1+1) _ _ _ pb pr 0 ps W1 (by omega) HI.out) (fun _ _ h _=>h) (fun h k=>h.trans k) (fun _ _ _ _ _ h ho=>RK.putLoop h ho) (Only.refl _ _) (fun _=>rfl) (by simp)
  (fun pre W=>pre=[]∧TkSt w W pb pr ps k o 0 0) (fun c pre W=>c=.ret∧∃ x,pre=[x]∧TkSt w W pb pr (turnN ps x k o).1 k o (if (turnN ps x k o).2=0 then x else 0) (turnN ps x k o).2)
  (fun s A B hs st=>⟨hs.1,hs.2.step st hz⟩) (fun c s A B hs st=>by
   obtain ⟨hc,x,hx,ht⟩:=hs;exact ⟨hc,x,hx,ht.step st hz⟩) ⟨rfl,HS.out⟩
  (fun x a' _=>a'={ tmps:=#[ptr pb,.int .i64 k,.int .i64 o,ptr w.heap.size,ptr (w.heap.size+1),ptr (w.heap.size+1+1),ptr (w.heap.size+1+1+1),ptr (w.heap.size+1+1+1+1),.int .i64 x,undef,ptr pb,.int .i64 ps.length,.bool false,ptr pb,.func (.func 199) #[] #[ptr (w.heap.size+1+1+1+1+1+1),ptr (w.heap.size+1+1+1+1+1+1+1)],.int .i64 x,undef,undef,undef,undef,undef,undef,undef,undef,undef],defers:=[] }) (fun _ _ _ _ h _=>h) ?assign ?body ?done ?stop
 case assign=>
  intro l pre x W K hi hK;gi_wp2;exact hK _ _ (KeepsOthers.refl _) (RK.refl _ _) hi (by simp)
 case body=>
  rintro l pre x a' W ⟨rfl,hs⟩ rfl hlen;have HS:=hid hs;have HT:=hid (turn_any x k o hs.pool (by rcases hk with rfl | rfl <;> simp [toOk] <;> omega));obtain ⟨R,hR⟩:∃ R,turnN ps x k o=R:=⟨_,rfl⟩;rw [hR] at HT;have HR:=hid hR;have c0:=hs.b0.at 0 (v:=ptr pb) rfl;have c1:=hs.b1.at 0 (v:=.int .i64 k) rfl;have c2:=hs.b2.at 0 (v:=.int .i64 o) rfl;have hpr:=hs.pool.row;have HK:=hid (show ∀ x ∈ [pr],∃ t cs,Blk W x t cs from fun x hx=>by
   have:x=pr:=by simpa using hx
   subst this;exact ⟨_,_,hpr⟩)
  clear hs hR hpr;gi_wp2_with (refine ⟨trivial,?_⟩; gi_at_call 124; refine (CallsIn.inRound l (callsIn_wide.2 HT.out)).mono ?_; rintro e w3 ⟨rfl,ho,hp⟩; have HT3:=HS.out.turned ho hp hl.2; have H3:=hid (And.intro ho HT3); have c3:=HT3.b3.at 0 (v:=.int .i64 0) rfl; have c4:=HT3.b4.at 0 (v:=.int .i64 0) rfl; have f3:=HT3.b3.frozen 0; have f4:=HT3.b4.frozen 0; clear ho hp c0 c1 c2 HT3)
  ·have h0:R.2≠0:=by simpa using ‹(R.2 != 0)=true›
   refine ⟨(KeepsOthers.of_only H3.out.1 HK.out).trans ((KeepsOthers.setCell _ _ _).trans (KeepsOthers.setCell _ _ _)),rfl,x,rfl,?_⟩;rw [HR.out,if_neg h0];exact H3.out.2.said 0 R.2 hl.1 hl.2
  ·have h0:R.2=0:=by simpa using ‹(R.2 != 0)=false›
   refine ⟨(KeepsOthers.of_only H3.out.1 HK.out).trans ((KeepsOthers.setCell _ _ _).trans (KeepsOthers.setCell _ _ _)),rfl,x,rfl,?_⟩;rw [HR.out,if_pos h0,h0];exact H3.out.2.said x 0 hl.1 hl.2
 case done=>
  rintro D ys W hD _ rfl ⟨hy,hs⟩ hK;have HS:=hid hs;have HY:=hid hy;have c3:=hs.b3.at 0 (v:=.int .i64 0) rfl;have c4:=hs.b4.at 0 (v:=.int .i64 0) rfl;have f3:=hs.b3.frozen 0;have f4:=hs.b4.frozen 0;clear hs hy;gi_wp2;refine ⟨by simp,.inl ⟨_,_,rfl,run_takeDeferred ((KeepsOthers.setCell _ _ _).same D _ ((KeepsOthers.setCell _ _ _).same D _ hK rfl) rfl),?_⟩⟩;have HF:=(HS.out.said 0 12 hl.1 hl.2).putD (Nat.le_trans HZ5.out hD) hl.1 hl.2 (.deferred none);have q3:=HF.b3.at 0 (v:=.int .i64 0) rfl;have q4:=HF.b4.at 0 (v:=.int .i64 12) rfl;have e0:takeN ps k o=(ps,0,12):=by unfold takeN freeN; rw [HY.out]
  exact ⟨.tuple #[.int .i64 0,.int .i64 12],by simp [results,Tryz.results136,go_sem,q3,q4],by rw [e0],HF.only,by rw [e0]; exact HF.pool⟩
 case stop=>
  rintro D c pre W hD hp ⟨rfl,x,rfl,hs⟩ hK;have HS:=hid hs;clear hs;gi_wp2;refine ⟨by simp,.inl ⟨_,_,rfl,run_takeDeferred hK,?_⟩⟩;obtain ⟨l,hl2⟩:=pre_one hp.2;have e1:=free_head HW.out hl2 k o hk;have e0:takeN ps k o=(setP ps x ⟨k,o,0,0⟩,x,0):=by unfold takeN; rw [show freeN ps=x :: l from hl2]
  have HF:=HS.out.putD (Nat.le_trans HZ5.out hD) hl.1 hl.2 (.deferred none);rw [e1] at HF;have q3:=HF.b3.at 0 (v:=.int .i64 x) rfl;have q4:=HF.b4.at 0 (v:=.int .i64 0) rfl;exact ⟨.tuple #[.int .i64 x,.int .i64 0],by simp [results,Tryz.results136,go_sem,q3,q4],by rw [e0],HF.only,by rw [e0]; exact HF.pool⟩
end
theorem nnewD_any (w:World) (i:Int):Calls Tryz.prog 164 #[.int .i64 i] w fun e w'=>e=.returned (.int .u64 0)∧w=w':=by
 go_enter Tryz.func164,Tryz.ntmps164;go_wp2;go_ret;exact ⟨rfl,rfl⟩
theorem nputD_any (w:World) (i:Int):Calls Tryz.prog 204 #[.int .i64 i] w fun e w'=>e=.returned (.int .u64 0)∧w=w':=by
 go_enter Tryz.func204,Tryz.ntmps204;go_wp2;go_ret;exact ⟨rfl,rfl⟩
def ntakeN (L:List Int) (ps:List D) (o:Int):List Int×List D×Int×Int:=
 match freeN ps with
 | []=>(L,ps,0,12)
 | f :: _=>(zeros L f 16,setP ps f ⟨3,o,0,0⟩,f,0)
theorem free_range {ps:List D} {f:Int} {l:List Int} (h:freeN ps=f :: l):∃ k:Nat,f=k∧k < ps.length:=by
 have hm:f ∈ freeN ps:=by rw [h]; exact .head _
 unfold freeN suchN suchTo at hm;simp only [List.mem_map,List.mem_filter,List.mem_range] at hm;obtain ⟨j,⟨hj,_⟩,rfl⟩:=hm;exact ⟨j,rfl,hj⟩
theorem ntake_new {w:World} {tb mb ms pb pr:Nat} {o r:Int} {gone:Bool} {L:List Int} {ps:List D} (h:IsT w tb mb ms pb pr o r gone L ps) (ho1:1≤o) (ho2:o≤16) :
 Calls Tryz.prog 163 #[ptr tb,.func (.func 164) #[] #[]] w fun e w'=>e=.returned (.tuple #[.int .i64 (ntakeN L ps o).2.2.1,.int .i64 (ntakeN L ps o).2.2.2])∧Only [mb,ms,pr] w w'∧IsT w' tb mb ms pb pr o r gone (ntakeN L ps o).1 (ntakeN L ps o).2.1:=by
 have c1:=h.c1;have c2:=h.c2;have hmax:=h.pool.max;have HT:=hid (h.quiet ((Only.refl [] w).drew));have HTK:=hid (take_any 3 o HT.out.pool (.inl rfl) ho1 ho2);have HDR:=hid ((Only.refl [pr] w).drew);have HCC:=hid (show ∀ wx qs,IsT wx tb mb ms pb pr o r gone L qs→wx.cell? ⟨tb,1,none⟩=some (ptr pb)∧wx.cell? ⟨tb,2,none⟩=some (.int .i64 o) from fun wx qs hx=>⟨hx.c1,hx.c2⟩);clear h;unfold takeN at HTK;unfold ntakeN;cases hf:freeN ps with
 | nil=>
  rw [hf] at HTK;dsimp only at HTK ⊢;clear hf;go_enter Tryz.func163,Tryz.ntmps163;go_upto_region 1 with fail;go_region_held3 (fun w'=>w'.cell? ⟨tb,1,none⟩=some (ptr pb)∧w'.cell? ⟨tb,2,none⟩=some (.int .i64 o))
   (first | exact ⟨c1,c2⟩ | exact HCC.out _ _ HT2.out)
   (first
    | (go_at_call 136
       refine HTK.out.mono ?_;rintro e w1 ⟨rfl,ho,hp⟩;have HO:=hid (HDR.out.trans ho);have HT2:=hid (HT.out.frames ho hp);clear ho hp))
  clear c1 c2;go_wp2_with fail;go_ret2;exact ⟨rfl,HO.out.sub (by simp),HT2.out⟩
 | cons f l=>
  obtain ⟨k,rfl,hk⟩:=free_range hf;rw [hf] at HTK;dsimp only at HTK ⊢;have hk2:k < 4096:=by omega
  have HK:=hid hk;clear hf hk hmax;go_enter Tryz.func163,Tryz.ntmps163;go_upto_region 1 with fail;go_region_held3 (fun w'=>w'.cell? ⟨tb,1,none⟩=some (ptr pb)∧w'.cell? ⟨tb,2,none⟩=some (.int .i64 o))
   (first | exact ⟨c1,c2⟩ | exact HCC.out _ _ HT2.out)
   (first
    | (go_at_call 136
       refine HTK.out.mono ?_;rintro e w1 ⟨rfl,ho,hp⟩;have HO:=hid (HDR.out.trans ho);have HT2:=hid (HT.out.frames ho hp);clear ho hp))
  clear c1 c2 HTK HCC HDR;go_wp2_with fail
  go_loopw [24,8] (fun i _ wr=>∃ j:Nat,j≤16∧i=.int .i64 j∧Only [mb,ms,pr] w wr∧IsT wr tb mb ms pb pr o r gone (zeros L k j) (setP ps k ⟨3,o,0,0⟩)) (fun i _ _=>16 - (intOf i).toNat)
  case atStart=>exact ⟨0,by omega,rfl,HO.out.sub (by simp),HT2.out⟩
  case round=>
   obtain ⟨wo,hwo⟩:∃ wo,wo=wr:=⟨_,rfl⟩;subst hwo;obtain ⟨j,hj,rfl,ho,ht⟩:=hrel;have HO3:=hid ho;have HT3:=hid (ht.quiet ((Only.refl [] wo).drew));have HT4:=hid ht;have c0:=ht.c0;clear ho ht;by_cases hlt:j < 16
   ·have hlti:(j:Int) < 16:=by omega
    have e1:IntKind.i64.wrap (16 * (k:Int))=16 * k:=by rw [IntKind.wrap_i64]; omega
    have e2:IntKind.i64.wrap (16 * (k:Int)+j)=16 * k+j:=by rw [IntKind.wrap_i64]; omega
    have HS:=hid (sto_any HT3.out.mem (16 * (k:Int)+j) 0 (by decide) (by decide));have HZ:=hid (show st (zeros L k j) (16 * (k:Int)+j) 0=zeros L k (j+1) from rfl);rw [HZ.out] at HS;go_upto_region 7 with fail;go_region_held3 (fun w'=>w'.cell? ⟨tb,0,none⟩=some (ptr mb))
     (first | exact c0 | exact HT5.out.c0)
     (first
      | (go_at_call 164; refine (nnewD_any _ _).mono ?_; rintro e w4 ⟨rfl,rfl⟩)
      | (go_at_call 49
         refine HS.out.mono ?_;rintro e w5 ⟨rfl,ho,hm⟩;have HT5:=hid (HT3.out.words ho hm);have HO5:=hid ((HO3.out.drew).trans (ho.sub (by simp)));clear ho hm))
    clear c0;go_wp2_with fail;exact ⟨⟨j+1,by omega,by go_num,HO5.out,HT5.out⟩,by simp [intOf]; omega⟩
   ·have hlti:¬ (j:Int) < 16:=by omega
    obtain rfl:j=16:=by omega
    go_wp2_with fail;go_ret2;exact ⟨rfl,HO3.out,HT4.out⟩
theorem ntake_put {w:World} {tb mb ms pb pr:Nat} {o r:Int} {gone:Bool} {L:List Int} {ps:List D} (h:IsT w tb mb ms pb pr o r gone L ps) (ho1:1≤o) (ho2:o≤16) :
 Calls Tryz.prog 163 #[ptr tb,.func (.func 204) #[] #[]] w fun e w'=>e=.returned (.tuple #[.int .i64 (ntakeN L ps o).2.2.1,.int .i64 (ntakeN L ps o).2.2.2])∧Only [mb,ms,pr] w w'∧IsT w' tb mb ms pb pr o r gone (ntakeN L ps o).1 (ntakeN L ps o).2.1:=by
 have c1:=h.c1;have c2:=h.c2;have hmax:=h.pool.max;have HT:=hid (h.quiet ((Only.refl [] w).drew));have HTK:=hid (take_any 3 o HT.out.pool (.inl rfl) ho1 ho2);have HDR:=hid ((Only.refl [pr] w).drew);have HCC:=hid (show ∀ wx qs,IsT wx tb mb ms pb pr o r gone L qs→wx.cell? ⟨tb,1,none⟩=some (ptr pb)∧wx.cell? ⟨tb,2,none⟩=some (.int .i64 o) from fun wx qs hx=>⟨hx.c1,hx.c2⟩);clear h;unfold takeN at HTK;unfold ntakeN;cases hf:freeN ps with
 | nil=>
  rw [hf] at HTK;dsimp only at HTK ⊢;clear hf;go_enter Tryz.func163,Tryz.ntmps163;go_upto_region 1 with fail;go_region_held3 (fun w'=>w'.cell? ⟨tb,1,none⟩=some (ptr pb)∧w'.cell? ⟨tb,2,none⟩=some (.int .i64 o))
   (first | exact ⟨c1,c2⟩ | exact HCC.out _ _ HT2.out)
   (first
    | (go_at_call 136
       refine HTK.out.mono ?_;rintro e w1 ⟨rfl,ho,hp⟩;have HO:=hid (HDR.out.trans ho);have HT2:=hid (HT.out.frames ho hp);clear ho hp))
  clear c1 c2;go_wp2_with fail;go_ret2;exact ⟨rfl,HO.out.sub (by simp),HT2.out⟩
 | cons f l=>
  obtain ⟨k,rfl,hk⟩:=free_range hf;rw [hf] at HTK;dsimp only at HTK ⊢;have hk2:k < 4096:=by omega
  have HK:=hid hk;clear hf hk hmax;go_enter Tryz.func163,Tryz.ntmps163;go_upto_region 1 with fail;go_region_held3 (fun w'=>w'.cell? ⟨tb,1,none⟩=some (ptr pb)∧w'.cell? ⟨tb,2,none⟩=some (.int .i64 o))
   (first | exact ⟨c1,c2⟩ | exact HCC.out _ _ HT2.out)
   (first
    | (go_at_call 136
       refine HTK.out.mono ?_;rintro e w1 ⟨rfl,ho,hp⟩;have HO:=hid (HDR.out.trans ho);have HT2:=hid (HT.out.frames ho hp);clear ho hp))
  clear c1 c2 HTK HCC HDR;go_wp2_with fail
  go_loopw [24,8] (fun i _ wr=>∃ j:Nat,j≤16∧i=.int .i64 j∧Only [mb,ms,pr] w wr∧IsT wr tb mb ms pb pr o r gone (zeros L k j) (setP ps k ⟨3,o,0,0⟩)) (fun i _ _=>16 - (intOf i).toNat)
  case atStart=>exact ⟨0,by omega,rfl,HO.out.sub (by simp),HT2.out⟩
  case round=>
   obtain ⟨wo,hwo⟩:∃ wo,wo=wr:=⟨_,rfl⟩;subst hwo;obtain ⟨j,hj,rfl,ho,ht⟩:=hrel;have HO3:=hid ho;have HT3:=hid (ht.quiet ((Only.refl [] wo).drew));have HT4:=hid ht;have c0:=ht.c0;clear ho ht;by_cases hlt:j < 16
   ·have hlti:(j:Int) < 16:=by omega
    have e1:IntKind.i64.wrap (16 * (k:Int))=16 * k:=by rw [IntKind.wrap_i64]; omega
    have e2:IntKind.i64.wrap (16 * (k:Int)+j)=16 * k+j:=by rw [IntKind.wrap_i64]; omega
    have HS:=hid (sto_any HT3.out.mem (16 * (k:Int)+j) 0 (by decide) (by decide));have HZ:=hid (show st (zeros L k j) (16 * (k:Int)+j) 0=zeros L k (j+1) from rfl);rw [HZ.out] at HS;go_upto_region 7 with fail;go_region_held3 (fun w'=>w'.cell? ⟨tb,0,none⟩=some (ptr mb))
     (first | exact c0 | exact HT5.out.c0)
     (first
      | (go_at_call 204; refine (nputD_any _ _).mono ?_; rintro e w4 ⟨rfl,rfl⟩)
      | (go_at_call 49
         refine HS.out.mono ?_;rintro e w5 ⟨rfl,ho,hm⟩;have HT5:=hid (HT3.out.words ho hm);have HO5:=hid ((HO3.out.drew).trans (ho.sub (by simp)));clear ho hm))
    clear c0;go_wp2_with fail;exact ⟨⟨j+1,by omega,by go_num,HO5.out,HT5.out⟩,by simp [intOf]; omega⟩
   ·have hlti:¬ (j:Int) < 16:=by omega
    obtain rfl:j=16:=by omega
    go_wp2_with fail;go_ret2;exact ⟨rfl,HO3.out,HT4.out⟩
section
open Go.Shelf
attribute [local go_sem] Oper.semAt_some
def encP (x:Pl):List Value:=[.int .i64 x.f,.int .i64 x.l,.int .i64 x.w]
theorem encP_len (x:Pl):(encP x).length=3:=rfl
theorem pl_out (x:Pl):x.val=.agg #[.int .i64 x.f,.int .i64 x.l,.int .i64 x.w]:=rfl
theorem way_len (L:List Int) (page:Int):∀ (l:Nat) (f:Int),(wayN L page l f).length≤l+1
 | 0,_=>by simp [wayN]
 | l+1,f=>by
  unfold wayN;split
  ·have:=way_len L page l (entN L (atN f page (l+1))).fr;simp;omega
  ·simp
structure ItW (B:Nat) (w:World) (b1 b2 tb mb ms pb pr:Nat) (page o r:Int) (gone:Bool) (L:List Int) (ps:List D):Prop where
 c1:w.cell? ⟨b1,0,none⟩=some (ptr tb)
 c2:w.cell? ⟨b2,0,none⟩=some (.int .i64 page)
 n1:¬ Mine B w b1
 n2:¬ Mine B w b2
 nt:¬ Mine B w tb
 nm:¬ Mine B w mb
 ns:¬ Mine B w ms
 nb:¬ Mine B w pb
 nr:¬ Mine B w pr
 lB:B < w.heap.size
 lim:∀ k,Mine B w k→k < w.heap.size
 t:IsT w tb mb ms pb pr o r gone L ps
section
variable {B:Nat} {w w':World} {b1 b2 tb mb ms pb pr:Nat} {page o r:Int} {gone:Bool} {L:List Int} {ps:List D}
theorem cell_lt2 {w:World} {b i:Nat} {v:Value} (h:w.cell? ⟨b,i,none⟩=some v):b < w.heap.size:=by
 obtain ⟨_,_,_,_,h⟩:=cell_blk h;exact h
theorem ItW.rk (h:ItW B w b1 b2 tb mb ms pb pr page o r gone L ps) (k:RK B w w'):ItW B w' b1 b2 tb mb ms pb pr page o r gone L ps:=by
 have l:=h.t.lt;refine ⟨k.cell h.c1 h.n1,k.cell h.c2 h.n2,k.not (cell_lt2 h.c1) h.n1,k.not (cell_lt2 h.c2) h.n2,k.not l.1 h.nt,k.not l.2.1 h.nm,k.not l.2.2.1 h.ns,k.not l.2.2.2.1 h.nb,k.not l.2.2.2.2 h.nr,Nat.lt_of_lt_of_le h.lB k.size,k.lim h.lim,?_⟩;obtain ⟨⟨c,l',hm⟩,hw⟩:=h.t.mem;exact ⟨k.blk h.t.obj h.nt,⟨⟨c,l',k.blk hm.obj h.nm,k.blk hm.row h.ns,hm.len,hm.max⟩,hw⟩,k.blk h.t.pool.obj h.nb,k.blk h.t.pool.row h.nr,h.t.pool.len,h.t.pool.max,h.t.pool.wf⟩
theorem ItW.quiet (h:ItW B w b1 b2 tb mb ms pb pr page o r gone L ps) (q:Only [] w w'):ItW B w' b1 b2 tb mb ms pb pr page o r gone L ps:=
 ⟨(q.cell (p:=⟨b1,0,none⟩) (cell_lt2 h.c1) (by simp)).trans h.c1,(q.cell (p:=⟨b2,0,none⟩) (cell_lt2 h.c2) (by simp)).trans h.c2,
   mine_only q h.lB (by simp) h.n1,mine_only q h.lB (by simp) h.n2,mine_only q h.lB (by simp) h.nt,mine_only q h.lB (by simp) h.nm,mine_only q h.lB (by simp) h.ns,mine_only q h.lB (by simp) h.nb,mine_only q h.lB (by simp) h.nr,
   Nat.lt_of_lt_of_le h.lB q.size,fun k hk=>Nat.lt_of_lt_of_le (h.lim k (mine_same (q.cell (p:=⟨B,0,none⟩) h.lB (by simp)) hk)) q.size,h.t.quiet q⟩
theorem ItW.words (h:ItW B w b1 b2 tb mb ms pb pr page o r gone L ps) (q:Only [mb,ms] w w') (ht:IsT w' tb mb ms pb pr o r gone L ps):ItW B w' b1 b2 tb mb ms pb pr page o r gone L ps:=by
 have hm:B ∉ [mb,ms]:=by
  have h1:=h.nm;have h2:=h.ns;intro hx;simp at hx;rcases hx with e | e
  ·exact h1 (.inl e.symm)
  ·exact h2 (.inl e.symm)
 obtain ⟨cs,cs',hb1,hb2⟩:=h.t.mem.blk;have d1:b1 ∉ [mb,ms]:=fun hx=>by
  obtain ⟨t,cs3,f,hb3,_⟩:=cell_blk h.c1;simp at hx;have hc:=h.c1;rcases hx with rfl | rfl
  ·obtain ⟨c,l,hmm⟩:=h.t.mem.cl;rw [hmm.obj.at 0 rfl] at hc;cases hc
  ·obtain ⟨c,l,hmm⟩:=h.t.mem.cl;rw [hmm.row.cell] at hc;simp [cellsOf] at hc
 have d2:b2 ∉ [mb,ms]:=fun hx=>by
  simp at hx;have hc:=h.c2;rcases hx with rfl | rfl
  ·obtain ⟨c,l,hmm⟩:=h.t.mem.cl;rw [hmm.obj.at 0 rfl] at hc;cases hc
  ·obtain ⟨c,l,hmm⟩:=h.t.mem.cl;rw [hmm.row.cell] at hc;simp [cellsOf] at hc
 exact ⟨(q.cell (p:=⟨b1,0,none⟩) (cell_lt2 h.c1) d1).trans h.c1,(q.cell (p:=⟨b2,0,none⟩) (cell_lt2 h.c2) d2).trans h.c2,
  mine_only q h.lB hm h.n1,mine_only q h.lB hm h.n2,mine_only q h.lB hm h.nt,mine_only q h.lB hm h.nm,mine_only q h.lB hm h.ns,mine_only q h.lB hm h.nb,mine_only q h.lB hm h.nr,
  Nat.lt_of_lt_of_le h.lB q.size,fun k hk=>Nat.lt_of_lt_of_le (h.lim k (mine_same (q.cell (p:=⟨B,0,none⟩) h.lB hm) hk)) q.size,ht⟩
end
theorem nway_any (w:World) (tb:Nat) (page:Int):Calls Tryz.prog 180 #[ptr tb,.int .i64 page] w fun e w'=>e=.returned (.func (.func 208) #[] #[ptr w.heap.size,ptr (w.heap.size+1)])∧w'=(w.alloc (.cells #[ptr tb] 186)).alloc (.cells #[.int .i64 page] 3):=by
 go_enter Tryz.func180,Tryz.ntmps180;go_wp2;go_ret;exact ⟨rfl,rfl⟩
def wayR (L:List Int) (page:Int):Nat→Int→List Pl
 | 0,_=>[]
 | l+1,f=>if (entN L (atN f page (l+1))).table=true then wayN L page l (entN L (atN f page (l+1))).fr else []
theorem way_step (L:List Int) (page:Int) (i:Nat) (f:Int):wayN L page i f=⟨f,i,atN f page i⟩ :: wayR L page i f:=by
 cases i <;> rfl
theorem wayR_succ (L:List Int) (page:Int) (l:Nat) (f:Int):wayR L page (l+1) f=if (entN L (atN f page (l+1))).table=true then wayN L page l (entN L (atN f page (l+1))).fr else []:=rfl
theorem wayR_no {L:List Int} {page:Int} {i:Nat} {f:Int} (h:(entN L (atN f page i)).table=false):wayR L page i f=[]:=by
 cases i with
 | zero=>rfl
 | succ i=>rw [wayR_succ,h]; rfl
theorem way_ent_range {L:List Int} {i:Int} (h:(entN L i).table=true):0≤(entN L i).fr∧(entN L i).fr < 4096:=by
 have h1:=of_decide_eq_true h;have h2:=pe_range (pr:=(entN L i).pr) (la:=(entN L i).la) (ri:=(entN L i).ri) (fr:=(entN L i).fr) h1.2.2;exact ⟨h2.2.2.1,h2.2.2.2⟩
theorem way_it (n B b1 b2 tb mb ms pb pr:Nat) (page o r:Int) (L:List Int) (gone:Bool) (ps:List D) (w:World) (hn:1≤n) (h:ItW B w b1 b2 tb mb ms pb pr page o r gone L ps) (hp0:0≤page) (hp1:page < 65536) (hr0:0≤r) (hr1:r < 4096) :
 ItK Fence.wide n Tryz.prog 208 #[ptr b1,ptr b2] (fun x:Pl=>#[x.val]) (RK B) (fun xs=>xs=wayN L page 3 r) (fun _=>True) 4 [mb,ms] (fun W=>IsT W tb mb ms pb pr o r gone L ps) w:=by
 intro l J Jx W hW hJ hJx hY h0;have hst:=h.quiet hW;have c1:=hst.c1;have c3:=hst.t.c3;have HY:=hid hY;have HJ:=hid hJ;have HX:=hid hJx;have HI:=hid hst;have H0:=hid h0;have HL:=hid (way_len L page 3 r);obtain ⟨V,hV⟩:∃ V,wayN L page 3 r=V:=⟨_,rfl⟩;have HV:=hid hV;have HR:=hid (And.intro hr0 hr1);have HP:=hid (And.intro hp0 hp1);rw [hV] at HL ⊢;clear hY hJ hJx hst h h0 hW hV hr0 hr1 hp0 hp1;refine callsIn_of_wp Tryz.func208 rfl trivial ?_ rfl;simp only [Tryz.ntmps208,List.size_toArray,List.length_cons,List.length_nil,Nat.reduceAdd,Nat.reduceSub,Array.replicate_succ,Array.replicate_zero,List.push_toArray,List.append_toArray,List.nil_append,List.cons_append];gi_wp2
 gi_loopw [4,5] (fun u v wr=>∃ pre rest,J pre wr∧pre ++ rest=V∧ItW B wr b1 b2 tb mb ms pb pr page o r gone L ps∧∃ (j:Nat) (f:Int),j≤4∧v=.int .i64 ((j:Int) - 1)∧u=.int .i64 f∧((j=0∧rest=[])∨∃ i,j=i+1∧rest=wayN L page i f∧0≤f∧f < 4096)) (fun _ v _=>(intOf v+1).toNat)
 case atStart=>exact ⟨[],V,H0.out,rfl,HI.out,4,r,by omega,rfl,rfl,.inr ⟨3,rfl,HV.out.symm,HR.out⟩⟩
 case round=>
  have HREL:=hid hrel;clear hrel HI H0 c1 c3;obtain ⟨pre,rest,hJs,hpr,hI,j,f,hj,rfl,rfl,hc⟩:=HREL.out;have HI:=hid hI;have HJS:=hid hJs;have HPR:=hid hpr;clear hI hJs hpr HREL;rcases hc with ⟨rfl,hr⟩ | ⟨i,rfl,hr,hf0,hf1⟩
  ·subst hr;gi_wp2;go_end0;exact ⟨⟨_,rfl⟩,.inl ⟨pre,by rw [← HPR.out]; simp,HI.out.t,HJS.out⟩⟩
  ·have hi:i < 4:=by omega
   rw [show (((i+1:Nat):Int) - 1)=(i:Int) by omega];subst hr;obtain ⟨at_,hat⟩:∃ a,atN f page i=a:=⟨_,rfl⟩;obtain ⟨pr',ri,la,fr,hen⟩:∃ a b c d,entN L at_=⟨a,b,c,d⟩:=⟨_,_,_,_,rfl⟩;have HPA:=hid (fun W=>pteAt_any W f page i hi HP.out.1 HP.out.2 hf0 hf1);rw [hat] at HPA;have HAT:=hid hat;have HEN:=hid hen;have hio:(0:Int)≤i:=by omega
   have q1:=(Only.refl [] wr).alloc (.cells #[.int .i64 f,.int .i64 i,.int .i64 at_] 256);have HI1:=hid (HI.out.quiet q1);have HX1:=hid (Blk.new wr 256 #[.int .i64 f,.int .i64 i,.int .i64 at_]);have HQ1:=hid q1;have c2:=HI.out.c2;have c1:=HI1.out.c1;have HNA:=hid (nat_any at_ HI1.out.t);have hxl:=HI.out.t.lt;rw [hen,pe_out] at HNA;dsimp only at HNA;clear hat hen q1;gi_wp2;refine ⟨trivial,?_⟩;refine (callsIn_wide.2 (HPA.out _)).mono ?_;rintro e w1 ⟨rfl,rfl⟩;gi_wp2;refine ⟨trivial,?_⟩;refine (callsIn_wide.2 HNA.out).mono ?_;rintro e w2 ⟨rfl,ho,ht⟩;have HI2:=hid (HI1.out.words ho ht);have HX2:=hid (HX1.out.only ho (by simp; omega));have HQ2:=hid ((HQ1.out.sub (by simp)).trans ho);have q3:=(Only.refl [] w2).alloc (.cells #[.bool pr',.int .i64 ri,.bool la,.int .i64 fr] 172);have HI3:=hid (HI2.out.quiet q3);have HX3:=hid (HX2.out.only q3 (by simp));have HQ3:=hid (HQ2.out.trans (q3.sub (by simp)));have HE3:=hid (Blk.new w2 172 #[.bool pr',.int .i64 ri,.bool la,.int .i64 fr]);have HNE:=hid (show ¬ Mine B (w2.alloc (.cells #[.bool pr',.int .i64 ri,.bool la,.int .i64 fr] 172)) w2.heap.size from fun hm=>by
    have:=HI2.out.lim _ (mine_same (q3.cell (p:=⟨B,0,none⟩) HI2.out.lB (by simp)) hm);omega)
   obtain ⟨fn,tmps,assign,body,hy,hR⟩:=HY.out pre ⟨f,i,at_⟩ _ (HJ.out _ _ _ HJS.out HQ3.out) (by
    have h1:=congrArg List.length HPR.out;have h2:=HL.out;rw [way_step] at h1;simp at h1;omega)
   rw [pl_out] at hy;dsimp only at hy;have x0:=HX3.out.at 0 (v:=.int .i64 f) rfl;have x1:=HX3.out.at 1 (v:=.int .i64 i) rfl;have x2:=HX3.out.at 2 (v:=.int .i64 at_) rfl;have HRR:=hid hR;clear ho ht q3 c2 c1 hR;gi_wp2;refine HRR.out.mono ?_;rintro e W4 (⟨rfl,hJ4,hk4⟩ | ⟨rfl,hJx4⟩)
   ·have HI4:=hid (HI3.out.rk hk4);have HJ4:=hid hJ4;have HE4:=hid (hk4.blk HE3.out HNE.out);have e0:=HE4.out.at 0 (v:=.bool pr') rfl;have e1:=HE4.out.at 1 (v:=.int .i64 ri) rfl;have e2:=HE4.out.at 2 (v:=.bool la) rfl;have e3:=HE4.out.at 3 (v:=.int .i64 fr) rfl;have HTB:=hid (table_any W4 ⟨pr',ri,la,fr⟩);clear hJ4 hk4 hy x0 x1 x2;cases htb:PE.table ⟨pr',ri,la,fr⟩
    ·have HTT:=hid htb;rw [htb,pe_out] at HTB;dsimp only at HTB;clear htb;gi_wp2;refine ⟨trivial,?_⟩;refine (callsIn_wide.2 HTB.out).mono ?_;rintro e w5 ⟨rfl,ho⟩;have HI5:=hid (HI4.out.quiet ho);have HJ5:=hid (HJ.out _ _ _ HJ4.out (ho.sub (by simp)));clear ho e0 e1 e2 e3;gi_wp2;refine bodyPost_ret (results_none rfl _ _ _) rfl ?_;refine ⟨⟨_,rfl⟩,.inl ⟨pre ++ [⟨f,i,at_⟩],?_,HI5.out.t,HJ5.out⟩⟩;rw [← HPR.out,way_step,wayR_no (by rw [HAT.out,HEN.out,HTT.out]),HAT.out]
    ·have HTT:=hid htb;rw [htb,pe_out] at HTB;dsimp only at HTB;have hfr:=way_ent_range (L:=L) (i:=at_) (by rw [HEN.out]; exact htb);rw [HEN.out] at hfr;dsimp only at hfr;clear htb;gi_wp2;refine ⟨trivial,?_⟩;refine (callsIn_wide.2 HTB.out).mono ?_;rintro e w5 ⟨rfl,ho⟩;have HI5:=hid (HI4.out.quiet ho);have HE5:=hid (HE4.out.only ho (by simp));have HJ5:=hid (HJ.out _ _ _ HJ4.out (ho.sub (by simp)));have g3:=HE5.out.at 3 (v:=.int .i64 fr) rfl;have ew:IntKind.i64.wrap ((i:Int) - 1)=i - 1:=by rw [IntKind.wrap_i64]; omega
     clear ho e0 e1 e2 e3;gi_wp2
     go_roundw
     case rel=>
      refine ⟨pre ++ [⟨f,i,at_⟩],wayR L page i f,HJ5.out,?_,HI5.out,i,fr,by omega,rfl,rfl,?_⟩
      ·rw [← HPR.out,way_step,HAT.out];simp
      ·cases i with
       | zero=>exact .inl ⟨rfl,rfl⟩
       | succ i=>
        refine .inr ⟨i,rfl,?_,hfr.1,hfr.2⟩;rw [wayR_succ,HAT.out,HEN.out,HTT.out,if_pos rfl]
     case measure=>simp [intOf] <;> omega
   ·have HX4:=hid hJx4;clear hJx4 hy;gi_wp2;refine ⟨trivial,?_⟩;gi_wp2;refine bodyPost_ret (results_none rfl _ _ _) rfl ?_;exact ⟨⟨_,rfl⟩,.inr ⟨pre ++ [⟨f,i,at_⟩],trivial,HX4.out⟩⟩
end
end Go.Proofs.YtadgpnoealegiaaGreat
