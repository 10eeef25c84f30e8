import Derived.Test.YtadgpnoealegiaaGreatP38
import Derived.Test.YtadgpnoealegiaaGreatP39
namespace Go.Proofs.YtadgpnoealegiaaGreat
open Go.RowKit
open Go.Lib (hid)
set_option maxRecDepth 100000
set_option maxHeartbeats 20000000
section
variable {a:HvP} {M:HS} {t:Nat}
theorem DoRel.zero {S S':HS} {vm:Int} {c:C} {v e:Int} (h:DoRel S t vm c S' v e) (he:e≠0):DoRel S t vm c S' 0 e:=by
 refine ⟨h.inv,?_,zero_range,h.dst,h.pag,fun h1 h2 v0 h3 h4 h5 h6 f l h7=>absurd (h.cre h1 h2 v0 h3 h4 h5 h6 f l h7).2.1 he,fun h1 h2 u G h3 h4 h5 h6 h7 f l h8 h9=>absurd (h.dna h1 h2 u G h3 h4 h5 h6 h7 f l h8 h9).2 he⟩;have e1:donD c 0 e=donD c v e:=by unfold donD; rw [if_neg (fun h=>he h.2),if_neg (fun h=>he h.2)]
 rw [e1];exact h.step
theorem right_kind {c:C} (h:rightC c=true):c.k=1∨c.k=2∨c.k=3∨c.k=4∨c.k=5∨c.k=6∨c.k=7∨c.k=8∨c.k=9∨c.k=10∨c.k=11∨c.k=12∨c.k=13∨c.k=14∨c.k=15∨c.k=16∨c.k=17:=by
 unfold rightC at h;have h1:=of_decide_eq_true (Bool.and_eq_true _ _ ▸ h).1;apply Classical.byContradiction;intro hn;apply h1;unfold argsN;rw [if_neg (by omega)];rw [if_neg (by omega)];rw [if_neg (by omega)];rw [if_neg (by omega)];rw [if_neg (by omega)];rw [if_neg (by omega)];rw [if_neg (by omega)];rw [if_neg (by omega)];rw [if_neg (by omega)];rw [if_neg (by omega)];rw [if_neg (by omega)];rw [if_neg (by omega)];rw [if_neg (by omega)];rw [if_neg (by omega)];rw [if_neg (by omega)];rw [if_neg (by omega)];rw [if_neg (by omega)]
structure DoOk (M:HS) (vm:Int) (c:C):Prop where
 right:rightC c=true
 v0:0≤vm
 v1:vm≤16
 ctl:(vm == 0)=ctlN c.k
 live:vm≠0→liveN M vm=true
 acc:c.k=6∨c.k=7→1048576≤c.a
 swp:c.k≠17
theorem hdoer {w:World} (h:IsHv w a M) (hi:HInv M t) (ht:t < 60000) {vm:Int} {c:C} (hf:c.fits) (ok:DoOk M vm c) :
 ∃ n,doerN c.k=some n∧(∀ args w,(callFunc n args).run Tryz.prog w=.ok (.enter n args) w)∧Calls Tryz.prog n #[ptr a.hb,.int .i64 vm,c.val] w (HvTo w a M t vm c):=by
 have hl:=ok.acc;have hkk:=right_kind ok.right;have hctl:=ok.ctl;by_cases h0:vm=0
 ·subst h0;have hc:ctlN c.k=true:=by rw [← hctl]; rfl
  unfold ctlN at hc;have hk:c.k=1∨c.k=2:=by
   have:=ok.swp;simp at hc;omega
  rcases hk with hk | hk
  ·exact ⟨90,by rw [hk]; rfl,enters_of Tryz.func90 (by kernel_rfl) rfl,hcreate_any h hi c hk 0⟩
  ·exact ⟨91,by rw [hk]; rfl,enters_of Tryz.func91 (by kernel_rfl) rfl,hdestroy_any h hi ht c hk hf 0⟩
 ·obtain ⟨v,G,rfl,hv1,hv2,hg⟩:=liveN_iff.1 (ok.live h0);have hc:ctlN c.k=false:=by rw [← hctl]; simpa using h0
  unfold ctlN at hc;have hk12:c.k≠1∧c.k≠2∧c.k≠17:=by simpa [and_assoc] using hc
  have ev:(v:Int)=((v - 1:Nat):Int)+1:=by omega
  rcases hkk with hk | hk | hk | hk | hk | hk | hk | hk | hk | hk | hk | hk | hk | hk | hk | hk | hk
  ·exact absurd hk hk12.1
  ·exact absurd hk hk12.2.1
  ·exact ⟨93,by rw [hk]; rfl,enters_of Tryz.func93 (by kernel_rfl) rfl,hdonate_any h hi c hk hf v hg⟩
  ·exact ⟨94,by rw [hk]; rfl,enters_of Tryz.func94 (by kernel_rfl) rfl,hreclaim_any h hi c hk hf v hg⟩
  ·exact ⟨95,by rw [hk]; rfl,enters_of Tryz.func95 (by kernel_rfl) rfl,hprotect_any h hi c hk hf v hg⟩
  ·exact ⟨96,by rw [hk]; rfl,enters_of Tryz.func96 (by kernel_rfl) rfl,hload_out h hi c hk (hl (.inl hk)) v⟩
  ·exact ⟨97,by rw [hk]; rfl,enters_of Tryz.func97 (by kernel_rfl) rfl,hstore_out h hi c hk (hl (.inr hk)) v⟩
  ·exact ⟨98,by rw [hk]; rfl,enters_of Tryz.func98 (by kernel_rfl) rfl,hoffer_any h hi c hk hf v hg⟩
  ·exact ⟨99,by rw [hk]; rfl,enters_of Tryz.func99 (by kernel_rfl) rfl,htake_any h hi ht c hk hf v hg⟩
  ·exact ⟨100,by rw [hk]; rfl,enters_of Tryz.func100 (by kernel_rfl) rfl,hback_any h hi ht c hk hf v hg⟩
  ·exact ⟨101,by rw [hk]; rfl,enters_of Tryz.func101 (by kernel_rfl) rfl,hrevoke_any h hi c hk hf v⟩
  ·exact ⟨102,by rw [hk]; rfl,enters_of Tryz.func102 (by kernel_rfl) rfl,by rw [ev]; exact hopen_any h hi c hk hf (v - 1) (by omega)⟩
  ·exact ⟨103,by rw [hk]; rfl,enters_of Tryz.func103 (by kernel_rfl) rfl,by rw [ev]; exact hbind_any h hi c hk hf (v - 1) (by omega)⟩
  ·exact ⟨104,by rw [hk]; rfl,enters_of Tryz.func104 (by kernel_rfl) rfl,hsend_any h hi c hk hf v⟩
  ·exact ⟨105,by rw [hk]; rfl,enters_of Tryz.func105 (by kernel_rfl) rfl,by rw [ev]; exact hpoll_any h hi c hk (v - 1) (by omega)⟩
  ·exact ⟨106,by rw [hk]; rfl,enters_of Tryz.func106 (by kernel_rfl) rfl,hclose_any h hi c hk hf v⟩
  ·exact absurd hk hk12.2.2
end
section
variable {P:Program} {ops:Array Oper} {Q:Exit→Act→World→Prop} {md:Region.Mode} {S:World→Prop} {z:Nat}
theorem pFork {i j:Nat} {oi oj:Oper} {fuel:Nat} {listed:Array Bool} {a:Act} {w:World} (hi:ops[i]?=some oi) (hj:ops[j]?=some oj) (hc:decide (Region.ready md ops listed=[i,j])=true) (hiz:decide (i≠z)=true) (hjz:decide (j≠z)=true)
 (hwi:Region.wanted oi (yielded ops a.tmps)=true) (hwj:Region.wanted oj (yielded ops a.tmps)=true)
 (h1:∀ K:Act→World→Prop,(∀ a' w',S w'→wpB P md ops Q S z fuel (listed.setIfInBounds i true) a' w'→K a' w')→Oper.wp P oi a w K Q)
 (h2:∀ K:Act→World→Prop,(∀ a' w',S w'→wpB P md ops Q S z fuel (listed.setIfInBounds j true) a' w'→K a' w')→Oper.wp P oj a w K Q):wpB P md ops Q S z (fuel+1) listed a w:=by
 have hc:=of_decide_eq_true hc;refine ⟨fun h0=>(by rw [h0] at hc; cases hc),fun k hk=>?_⟩;rw [hc] at hk;have hk:k=i∨k=j:=by simpa using hk
 rcases hk with rfl | rfl
 ·unfold wpOp;simp only [hi];rw [if_pos hwi];exact .inl (h1 _ fun a' w' h1 h2=>.inr ⟨of_decide_eq_true hiz,h1,h2⟩)
 ·unfold wpOp;simp only [hj];rw [if_pos hwj];exact .inl (h2 _ fun a' w' h1 h2=>.inr ⟨of_decide_eq_true hjz,h1,h2⟩)
end
theorem zv_doer (W:World):(zeroValue 154).run Tryz.prog W=.ok Value.nilFunc W:=by kernel_rfl
section
variable {w:World} {a:HvP} {M:HS} {t:Nat}
theorem dobad {vm:Int} {c:C} (hi:HInv M t) (h1:vm=0→c=⟨1,0,0,0⟩→False) (h3:c.k=3→rightC c=true→∀ (u:Nat) G,vm=(u:Int)→M.g u=some G→False):∀ e:Int,e≠0→DoRel M t vm c M 0 e:=fun e he=>by
 refine ⟨hi.up (Nat.le_succ _),?_,zero_range,fun h=>absurd h he,fun h=>absurd h he,fun q1 q2=>(h1 q1 q2).elim,fun q1 q2 u G q3 q4=>(h3 q1 q2 u G q3 q4).elim⟩;have:donD c 0 e=none:=by unfold donD; rw [if_neg (fun h=>he h.2)]
 rw [this];exact HStep.refl _ _ _
structure DoMid (w:World) (a:HvP) (M:HS) (t:Nat) (vm:Int) (c:C) (q:Nat) (v er:Int) (a':HvP) (S':HS) (wc:World):Prop where
 b:Blk wc q 38 #[.int .u64 v,.int .i64 er]
 r:Blk wc (w.heap.size+1) 38 #[.int .u64 0,.int .i64 0]
 n:q≠w.heap.size+1
 o:Only a.fp w wc
 h:IsHv wc a' S'
 d:DoRel M t vm c S' v er
 f:a'.hb=a.hb∧∀ x ∈ a'.fp,x ∈ a.fp∨w.heap.size≤x
 rf:w.heap.size+1 ∉ a'.fp
theorem DoMid.quiet {vm:Int} {c:C} {q:Nat} {v er:Int} {a':HvP} {S':HS} {wc wd:World} (h:DoMid w a M t vm c q v er a' S' wc) (o:Only [] wc wd):DoMid w a M t vm c q v er a' S' wd:=
 ⟨h.b.only o (by simp),h.r.only o (by simp),h.n,h.o.trans (o.sub (by simp)),h.h.quiet o,h.d,h.f,h.rf⟩
theorem DoMid.end {vm:Int} {c:C} {q:Nat} {v er:Int} {a':HvP} {S':HS} {wc:World} (h:DoMid w a M t vm c q v er a' S' wc) (x y:Value) :
 IsHv ((wc.setCell ⟨w.heap.size+1,0,none⟩ x).setCell ⟨w.heap.size+1,1,none⟩ y) a' S'∧Only a.fp w ((wc.setCell ⟨w.heap.size+1,0,none⟩ x).setCell ⟨w.heap.size+1,1,none⟩ y)∧Blk ((wc.setCell ⟨w.heap.size+1,0,none⟩ x).setCell ⟨w.heap.size+1,1,none⟩ y) (w.heap.size+1) 38 #[x,y]:=by
 have o:Only [w.heap.size+1] wc ((wc.setCell ⟨w.heap.size+1,0,none⟩ x).setCell ⟨w.heap.size+1,1,none⟩ y):=((Only.refl [w.heap.size+1] wc).setCell (p:=⟨w.heap.size+1,0,none⟩) (.inl (.head _)) _).setCell (p:=⟨w.heap.size+1,1,none⟩) (.inl (.head _)) _;refine ⟨h.h.only o fun z hz hm=>?_,h.o.then o fun z hz=>.inr ?_,by simpa using (h.r.set 0 x).set 1 y⟩
 ·have hz:z=w.heap.size+1:=by simpa using hz
  subst hz;exact h.rf hm
 ·have hz:z=w.heap.size+1:=by simpa using hz
  omega
theorem DoMid.mk' {vm:Int} {c:C} {q:Nat} {v er:Int} {a':HvP} {S':HS} {W W' wq:World} (f:HvF w a M c w.heap.size (w.heap.size+1) W) (o:Only a.fp W W') (h:IsHv W' a' S') (d:DoRel M t vm c S' v er) (hf:a'.hb=a.hb∧∀ x ∈ a'.fp,x ∈ a.fp∨W.heap.size≤x)
 (o2:Only [] W' wq) (hb:Blk wq q 38 #[.int .u64 0,.int .i64 0]) (hq:q ∉ a'.fp) (hq2:w.heap.size+1 < q):DoMid w a M t vm c q v er a' S' ((wq.setCell ⟨q,0,none⟩ (.int .u64 v)).setCell ⟨q,1,none⟩ (.int .i64 er)):=by
 have q3:Only [q] wq ((wq.setCell ⟨q,0,none⟩ (.int .u64 v)).setCell ⟨q,1,none⟩ (.int .i64 er)):=((Only.refl [q] wq).setCell (p:=⟨q,0,none⟩) (.inl (.head _)) _).setCell (p:=⟨q,1,none⟩) (.inl (.head _)) _;have hr:w.heap.size+1 ∉ a.fp:=fun hm=>by have:=f.la _ hm; omega
 have hz:=f.o.size;have hrl:=f.r.lt;refine ⟨by simpa using (hb.set 0 (.int .u64 v)).set 1 (.int .i64 er),((f.r.only o hr).only o2 (by simp)).only q3 (by simp; omega),by omega,((f.o.trans o).trans (o2.sub (by simp))).then q3 (fun x hx=>.inr (by rw [List.mem_singleton.1 hx]; omega)),(h.quiet o2).only q3 (fun x hx=>by
  have:x=q:=by simpa using hx
  subst this;exact hq),d,⟨hf.1,fun x hx=>(hf.2 x hx).imp id fun h=>by omega⟩,fun hm=>?_⟩
 rcases hf.2 _ hm with h1 | h1
 ·exact hr h1
 ·omega
theorem hDo_any (h:IsHv w a M) (hi:HInv M t) (ht:t < 60000) (vm:Int) (c:C) (hf:c.fits) (hl:c.k=6∨c.k=7→liveN M vm=true→rightC c=true→1048576≤c.a) (hs:¬ (vm=0∧c.k=17∧rightC c=true)) :
 Calls Tryz.prog 39 #[ptr a.hb,.int .i64 vm,c.val] w (HvTo w a M t vm c):=by
 have HFT:=hid hf;have HACC:=hid hl;have HSW17:=hid hs;have HI:=hid hi;have HT:=hid ht;have hgr:∀ u G,M.g u=some G→1≤u∧u≤16:=fun u G hg=>⟨(h.gs u G hg).1,(h.gs u G hg).2.1⟩;have HGR:=hid hgr;clear hf hl hs;obtain ⟨k,A,B,D⟩:=c;obtain ⟨W0,hW0⟩:∃ W0,(w.alloc (.cells #[.int .i64 k,.int .u64 A,.int .u64 B,.int .u64 D] 30)).alloc (.cells #[.int .u64 0,.int .i64 0] 38)=W0:=⟨_,rfl⟩;have hF:=HvF.start h ⟨k,A,B,D⟩;dsimp only at hF;rw [hW0] at hF;have HF0:=hid hF;have HW0:=hid hW0;have hy:=hF.c;dsimp only at hy;have y0:=hy.at 0 (v:=.int .i64 k) rfl;have y1:=hy.at 1 (v:=.int .u64 A) rfl;have y2:=hy.at 2 (v:=.int .u64 B) rfl;have y3:=hy.at 3 (v:=.int .u64 D) rfl;have HBAD:=hid (fun W e=>hbad_any W e);clear hF hy hW0;rw [c_out];have HTH:=hid (hthere_any HF0.out.h);have HRI:=hid (fun W=>right_any' W ⟨k,A,B,D⟩);clear h hi hgr ht;by_cases hv1:vm < 0
 ·have d1:decide (vm < 0)=true:=decide_eq_true hv1;have HB:=hid (dobad (c:=⟨k,A,B,D⟩) (vm:=vm) HI.out (fun h _=>by omega) (fun _ _ u G e _=>by omega) 1 (by decide));go_enter Tryz.func39,Tryz.ntmps39;go_upto_region 1 with fail;rw [HW0.out];go_wp2_with fail;refine HTH.out.mono ?_;rintro e w1 ⟨rfl,rfl⟩;go_wp2_with fail;refine (HBAD.out _ _).mono ?_;rintro en wz ⟨rfl,hoz⟩;have HFZ:=hid (HF0.out.quiet hoz);clear hoz;have hr:=HFZ.out.r;have r0:=hr.at 0 (v:=.int .u64 0) rfl;have r1:=hr.at 1 (v:=.int .i64 0) rfl;have g0:=hr.frozen 0;have g1:=hr.frozen 1;go_wp2_with fail;obtain ⟨z1,z2,z3,_⟩:=HFZ.out.out (.int .u64 (0)) (.int .i64 (1));have q0:=z3.at 0 (v:=.int .u64 (0)) rfl;have q1:=z3.at 1 (v:=.int .i64 (1)) rfl;refine bodyPost_ret (v:=.agg #[.int .u64 (0),.int .i64 (1)]) (by simp [results,Tryz.results39,go_sem,q0,q1]) rfl ⟨a,_,0,1,rfl,z2,z1,HB.out,rfl,fun x hx=>.inl hx⟩
 have d1:decide (vm < 0)=false:=decide_eq_false hv1;by_cases hv2:16 < vm
 ·have d2:decide (16 < vm)=true:=decide_eq_true hv2;have HB:=hid (dobad (c:=⟨k,A,B,D⟩) (vm:=vm) HI.out (fun h _=>by omega) (fun _ _ u G e hg=>by have:=HGR.out u G hg; omega) 1 (by decide));go_enter Tryz.func39,Tryz.ntmps39;go_upto_region 1 with fail;rw [HW0.out];go_wp2_with fail;refine HTH.out.mono ?_;rintro e w1 ⟨rfl,rfl⟩;go_wp2_with fail;refine (HBAD.out _ _).mono ?_;rintro en wz ⟨rfl,hoz⟩;have HFZ:=hid (HF0.out.quiet hoz);clear hoz;have hr:=HFZ.out.r;have r0:=hr.at 0 (v:=.int .u64 0) rfl;have r1:=hr.at 1 (v:=.int .i64 0) rfl;have g0:=hr.frozen 0;have g1:=hr.frozen 1;go_wp2_with fail;obtain ⟨z1,z2,z3,_⟩:=HFZ.out.out (.int .u64 (0)) (.int .i64 (1));have q0:=z3.at 0 (v:=.int .u64 (0)) rfl;have q1:=z3.at 1 (v:=.int .i64 (1)) rfl;refine bodyPost_ret (v:=.agg #[.int .u64 (0),.int .i64 (1)]) (by simp [results,Tryz.results39,go_sem,q0,q1]) rfl ⟨a,_,0,1,rfl,z2,z1,HB.out,rfl,fun x hx=>.inl hx⟩
 have d2:decide (16 < vm)=false:=decide_eq_false hv2;cases hr:rightC ⟨k,A,B,D⟩ with
 | false=>
  rw [hr,c_out] at HRI;dsimp only at HRI;have HB:=hid (dobad (c:=⟨k,A,B,D⟩) (vm:=vm) HI.out (fun _ e=>by rw [e] at hr; revert hr; decide) (fun _ e=>by rw [hr] at e; cases e) 1 (by decide));clear hr;go_enter Tryz.func39,Tryz.ntmps39;go_upto_region 1 with fail;rw [HW0.out];go_wp2_with fail;refine HTH.out.mono ?_;rintro e w1 ⟨rfl,rfl⟩;go_wp2_with fail;refine (HRI.out _).mono ?_;rintro e w2 ⟨rfl,ho⟩;have HF1:=hid (HF0.out.quiet ho);clear ho y0 y1 y2 y3;go_wp2_with fail;refine (HBAD.out _ _).mono ?_;rintro en wz ⟨rfl,hoz⟩;have HFZ:=hid (HF1.out.quiet hoz);clear hoz;have hr:=HFZ.out.r;have r0:=hr.at 0 (v:=.int .u64 0) rfl;have r1:=hr.at 1 (v:=.int .i64 0) rfl;have g0:=hr.frozen 0;have g1:=hr.frozen 1;go_wp2_with fail;obtain ⟨z1,z2,z3,_⟩:=HFZ.out.out (.int .u64 (0)) (.int .i64 (1));have q0:=z3.at 0 (v:=.int .u64 (0)) rfl;have q1:=z3.at 1 (v:=.int .i64 (1)) rfl;refine bodyPost_ret (v:=.agg #[.int .u64 (0),.int .i64 (1)]) (by simp [results,Tryz.results39,go_sem,q0,q1]) rfl ⟨a,_,0,1,rfl,z2,z1,HB.out,rfl,fun x hx=>.inl hx⟩
 | true=>
  rw [hr,c_out] at HRI;dsimp only at HRI;have HR:=hid hr;clear hr;go_enter Tryz.func39,Tryz.ntmps39;go_upto_region 1 with fail;rw [HW0.out];go_wp2_with fail;refine HTH.out.mono ?_;rintro e w1 ⟨rfl,rfl⟩;go_wp2_with fail;refine (HRI.out _).mono ?_;rintro e w2 ⟨rfl,ho⟩;have HF1:=hid (HF0.out.quiet ho);clear ho y0 y1 y2 y3;have hy:=HF1.out.c;dsimp only at hy;have y0:=hy.at 0 (v:=.int .i64 k) rfl;have y1:=hy.at 1 (v:=.int .u64 A) rfl;have y2:=hy.at 2 (v:=.int .u64 B) rfl;have y3:=hy.at 3 (v:=.int .u64 D) rfl;clear hy;have HCT:=hid (fun W=>ctl_any W k);by_cases hv0:vm=0
  ·have hz:(vm == 0)=true:=by simp [hv0]
   have d0:decide (0 < vm)=false:=decide_eq_false (by omega);have HV0:=hid hv0;clear hv0;cases hcb:ctlN k with
   | false=>
    rw [hcb] at HCT;have HB:=hid (dobad (c:=⟨k,A,B,D⟩) (vm:=vm) HI.out (fun _ h2=>by cases h2; revert hcb; decide) (fun _ _ u G e hg=>by
     have:=HGR.out u G hg;have:=HV0.out;omega) 7 (by decide))
    clear hcb;go_wp2_with fail;refine (HCT.out _).mono ?_;rintro e w3 ⟨rfl,rfl⟩;clear y0 y1 y2 y3;go_wp2_with fail;refine (HBAD.out _ _).mono ?_;rintro en wz ⟨rfl,hoz⟩;have HFZ:=hid (HF1.out.quiet hoz);clear hoz;have hr:=HFZ.out.r;have r0:=hr.at 0 (v:=.int .u64 0) rfl;have r1:=hr.at 1 (v:=.int .i64 0) rfl;have g0:=hr.frozen 0;have g1:=hr.frozen 1;go_wp2_with fail;obtain ⟨z1,z2,z3,_⟩:=HFZ.out.out (.int .u64 (0)) (.int .i64 (7));have q0:=z3.at 0 (v:=.int .u64 (0)) rfl;have q1:=z3.at 1 (v:=.int .i64 (7)) rfl;refine bodyPost_ret (v:=.agg #[.int .u64 (0),.int .i64 (7)]) (by simp [results,Tryz.results39,go_sem,q0,q1]) rfl ⟨a,_,0,7,rfl,z2,z1,HB.out,rfl,fun x hx=>.inl hx⟩
   | true=>
    rw [hcb] at HCT;have HOK:=hid (show DoOk M vm ⟨k,A,B,D⟩ from ⟨HR.out,by omega,by omega,hz.trans hcb.symm,fun h=>absurd HV0.out h,fun h=>by
     dsimp only at h;exfalso;rcases h with h | h <;> (rw [h] at hcb; cases hcb),fun h=>HSW17.out ⟨HV0.out,h,HR.out⟩⟩)
    clear hcb;go_wp2_with fail;refine (HCT.out _).mono ?_;rintro e w3 ⟨rfl,rfl⟩;clear hz;go_upto_region 9 with fail;obtain ⟨nf,hnf,hen,_⟩:=hdoer HF1.out.h HI.out HT.out HFT.out HOK.out;have HNF:=hid hnf;have HCALL:=hid (show ∀ W,IsHv W a M→Calls Tryz.prog nf #[ptr a.hb,.int .i64 vm,.agg #[.int .i64 k,.int .u64 A,.int .u64 B,.int .u64 D]] W (HvTo W a M t vm ⟨k,A,B,D⟩) from fun W hW=>by
     obtain ⟨n2,e2,_,hc⟩:=hdoer hW HI.out HT.out HFT.out HOK.out;rw [HNF.out] at e2;injection e2 with e2;subst e2;exact hc)
    have HSF:=hid (show ∀ w',Blk w' w.heap.size 30 #[.int .i64 k,.int .u64 A,.int .u64 B,.int .u64 D]→w'.cell? ⟨w.heap.size,0,none⟩=some (.int .i64 k)∧w'.cell? ⟨w.heap.size,1,none⟩=some (.int .u64 A)∧w'.cell? ⟨w.heap.size,2,none⟩=some (.int .u64 B)∧w'.cell? ⟨w.heap.size,3,none⟩=some (.int .u64 D) from fun w' h=>⟨h.at 0 rfl,h.at 1 rfl,h.at 2 rfl,h.at 3 rfl⟩);have HFD:=hid HF1.out.drew;clear hnf;go_cut [7] (fun u wc=>∃ q v er a' S',u=ptr q∧DoMid w a M t vm ⟨k,A,B,D⟩ q v er a' S' wc)
    case first=>
     refine pBegin rfl ?_;obtain ⟨S,hS⟩:∃ S:World→Prop,S=fun w'=>w'.cell? ⟨w.heap.size,0,none⟩=some (.int .i64 k)∧w'.cell? ⟨w.heap.size,1,none⟩=some (.int .u64 A)∧w'.cell? ⟨w.heap.size,2,none⟩=some (.int .u64 B)∧w'.cell? ⟨w.heap.size,3,none⟩=some (.int .u64 D):=⟨_,rfl⟩;have HS:=hid hS;clear hS;refine pPhaseH S 99 (by rw [HS.out]; exact ⟨y0,y1,y2,y3⟩) fun HSW=>?_;refine pPure (i:=1) rfl (by kernel_rfl) rfl HSW.out ?_;apply Exists.intro;refine ⟨fun w'=>?_,?_⟩
     ·go_simp;with_reducible rfl
     go_simp;refine pPure (i:=4) rfl (by kernel_rfl) rfl HSW.out ?_;apply Exists.intro;refine ⟨fun w'=>?_,?_⟩
     ·go_simp;with_reducible rfl
     go_simp;refine pPure (i:=5) rfl (by kernel_rfl) rfl HSW.out ?_;apply Exists.intro;refine ⟨fun w'=>?_,?_⟩
     ·go_simp;with_reducible rfl
     go_simp;refine pTake (i:=2) rfl (by kernel_rfl) rfl HSW.out ?_;apply Exists.intro;refine ⟨fun w' hw'=>?_,?_⟩
     ·rw [HS.out] at hw';obtain ⟨p0,p1,p2,p3⟩:=hw';go_simp;with_reducible rfl
     go_simp;refine pTake (i:=6) rfl (by kernel_rfl) rfl HSW.out ?_;apply Exists.intro;refine ⟨fun w' hw'=>?_,?_⟩
     ·rw [HS.out] at hw';obtain ⟨p0,p1,p2,p3⟩:=hw';go_simp;with_reducible rfl
     go_simp;clear y0 y1 y2 y3 HSW;refine pFork (i:=0) (j:=8) rfl rfl (by kernel_rfl) (by kernel_rfl) (by kernel_rfl) rfl rfl (fun K hK=>?_) (fun K hK=>?_)
     ·skip;go_simp;go_at_call 68;refine (hkinds_any _).mono ?_;rintro e wk ⟨r,f,rfl,hm,hfk,ho,hr⟩;have HFK:=hid (HFD.out.quiet ho);have HM:=hid hm;have HKF:=hid hfk;refine hK _ _ (by rw [HS.out]; exact HSF.out _ HFK.out.c) ?_;clear hK K ho hm hfk hr;refine pFork (i:=3) (j:=8) rfl rfl (by kernel_rfl) (by kernel_rfl) (by kernel_rfl) rfl rfl (fun K hK=>?_) (fun K hK=>?_)
      ·skip;have hlk:=HM.out.look (P:=Tryz.prog) Tryz.underlyingDoers Tryz.underlying3 k (zv_doer _) false;rw [HKF.out k nf HNF.out,if_neg (by decide),Option.getD_some] at hlk;go_simp;refine hK _ _ (by rw [HS.out]; exact HSF.out _ HFK.out.c) ?_;clear hK K hlk;refine pFork (i:=7) (j:=8) rfl rfl (by kernel_rfl) (by kernel_rfl) (by kernel_rfl) rfl rfl (fun K hK=>?_) (fun K hK=>?_)
       ·skip;have HCA:=hid (HCALL.out _ HFK.out.h);go_simp;refine HCA.out.mono ?_;rintro e w5 ⟨a',S',v,er,rfl,ho,hh,hd,hff⟩;have HC5:=hid (And.intro ho (And.intro hh (And.intro hd hff)));have HCB:=hid (HFK.out.c.only ho (fun hm=>by have:=HFK.out.la _ hm; omega));refine hK _ _ (by rw [HS.out]; exact HSF.out _ HCB.out) ?_;clear hK K ho hh hd hff HCA;refine pStep (i:=8) rfl (by kernel_rfl) (by kernel_rfl) rfl fun K hK=>?_;obtain ⟨qb,hqb⟩:∃ qb,w5.heap.size=qb:=⟨_,rfl⟩;obtain ⟨WA,hWA⟩:∃ WA,w5.alloc (.cells #[.int .u64 0,.int .i64 0] 38)=WA:=⟨_,rfl⟩;have qa:Only [] w5 WA:=by rw [← hWA]; exact (Only.refl [] _).alloc _
        have HQA:=hid (show Blk WA qb 38 #[.int .u64 0,.int .i64 0] by rw [← hWA,← hqb]; exact Blk.new _ _ _);have hql:w.heap.size+1 < qb:=by rw [← hqb]; exact Nat.lt_of_lt_of_le HFK.out.r.lt HC5.out.1.size
        go_simp
        try rw [hWA]
        try rw [hqb]
        have HCBA:=hid (HCB.out.only qa (by simp));refine hK _ _ (by rw [HS.out]; exact HSF.out _ HCBA.out) ?_;clear hK K;have hqn:qb ∉ a'.fp:=fun hm=>by
         have:=HC5.out.2.1.lim _ hm;omega
        have r0:=HQA.out.at 0 (v:=.int .u64 0) rfl;have r1:=HQA.out.at 1 (v:=.int .i64 0) rfl;have g0:=HQA.out.frozen 0;have g1:=HQA.out.frozen 1;have HMID:=hid (DoMid.mk' HFK.out HC5.out.1 HC5.out.2.1 HC5.out.2.2.1 HC5.out.2.2.2 qa HQA.out hqn hql);have HCF:=hid (HCBA.out.only (((Only.refl [qb] WA).setCell (p:=⟨qb,0,none⟩) (by simp) (.int .u64 v)).setCell (p:=⟨qb,1,none⟩) (by simp) (.int .i64 er)) (by simp; omega));refine pStep (i:=9) rfl (by kernel_rfl) (by kernel_rfl) rfl fun K hK=>?_;go_simp;refine hK _ _ (by rw [HS.out]; exact HSF.out _ HCF.out) ?_;clear hK K r0 r1 g0 g1;refine pEnd (by kernel_rfl) ?_;go_wp2_with fail;go_meet;exact ⟨_,_,_,a',S',rfl,HMID.out⟩
       ·skip;obtain ⟨qb,hqb⟩:∃ qb,wk.heap.size=qb:=⟨_,rfl⟩;obtain ⟨WA,hWA⟩:∃ WA,wk.alloc (.cells #[.int .u64 0,.int .i64 0] 38)=WA:=⟨_,rfl⟩;have qa:Only [] wk WA:=by rw [← hWA]; exact (Only.refl [] _).alloc _
        have HQA:=hid (show Blk WA qb 38 #[.int .u64 0,.int .i64 0] by rw [← hWA,← hqb]; exact Blk.new _ _ _);have hql:w.heap.size+1 < qb:=by rw [← hqb]; exact HFK.out.r.lt
        have HFA:=hid (HFK.out.quiet qa);have HMA:=hid (HM.out.only qa (by simp));go_simp
        try rw [hWA]
        try rw [hqb]
        refine hK _ _ (by rw [HS.out]; exact HSF.out _ HFA.out.c) ?_;clear hK K;refine pStep (i:=7) rfl (by kernel_rfl) (by kernel_rfl) rfl fun K hK=>?_;have HCA:=hid (HCALL.out _ HFA.out.h);go_simp;refine HCA.out.mono ?_;rintro e w5 ⟨a',S',v,er,rfl,ho,hh,hd,hff⟩;have HC5:=hid (And.intro ho (And.intro hh (And.intro hd hff)));have HCB:=hid (HFA.out.c.only ho (fun hm=>by have:=HFA.out.la _ hm; omega));have HQC:=hid (HQA.out.only ho (fun hm=>by have:=HFA.out.la _ hm; omega));refine hK _ _ (by rw [HS.out]; exact HSF.out _ HCB.out) ?_;clear hK K ho hh hd hff HCA;have hqn:qb ∉ a'.fp:=fun hm=>by
         rcases HC5.out.2.2.2.2 _ hm with h | h
         ·have:=HFA.out.la _ h;omega
         ·have:=HQA.out.lt;omega
        have r0:=HQC.out.at 0 (v:=.int .u64 0) rfl;have r1:=HQC.out.at 1 (v:=.int .i64 0) rfl;have g0:=HQC.out.frozen 0;have g1:=HQC.out.frozen 1;have HMID:=hid (DoMid.mk' HFA.out HC5.out.1 HC5.out.2.1 HC5.out.2.2.1 HC5.out.2.2.2 (Only.refl _ _) HQC.out hqn hql);have HCF:=hid (HCB.out.only (((Only.refl [qb] w5).setCell (p:=⟨qb,0,none⟩) (by simp) (.int .u64 v)).setCell (p:=⟨qb,1,none⟩) (by simp) (.int .i64 er)) (by simp; omega));refine pStep (i:=9) rfl (by kernel_rfl) (by kernel_rfl) rfl fun K hK=>?_;go_simp;refine hK _ _ (by rw [HS.out]; exact HSF.out _ HCF.out) ?_;clear hK K r0 r1 g0 g1;refine pEnd (by kernel_rfl) ?_;go_wp2_with fail;go_meet;exact ⟨_,_,_,a',S',rfl,HMID.out⟩
      ·skip;obtain ⟨qb,hqb⟩:∃ qb,wk.heap.size=qb:=⟨_,rfl⟩;obtain ⟨WA,hWA⟩:∃ WA,wk.alloc (.cells #[.int .u64 0,.int .i64 0] 38)=WA:=⟨_,rfl⟩;have qa:Only [] wk WA:=by rw [← hWA]; exact (Only.refl [] _).alloc _
       have HQA:=hid (show Blk WA qb 38 #[.int .u64 0,.int .i64 0] by rw [← hWA,← hqb]; exact Blk.new _ _ _);have hql:w.heap.size+1 < qb:=by rw [← hqb]; exact HFK.out.r.lt
       have HFA:=hid (HFK.out.quiet qa);have HMA:=hid (HM.out.only qa (by simp));go_simp
       try rw [hWA]
       try rw [hqb]
       refine hK _ _ (by rw [HS.out]; exact HSF.out _ HFA.out.c) ?_;clear hK K;refine pStep (i:=3) rfl (by kernel_rfl) (by kernel_rfl) rfl fun K hK=>?_;have hlk:=HMA.out.look (P:=Tryz.prog) Tryz.underlyingDoers Tryz.underlying3 k (zv_doer _) false;rw [HKF.out k nf HNF.out,if_neg (by decide),Option.getD_some] at hlk;go_simp;refine hK _ _ (by rw [HS.out]; exact HSF.out _ HFA.out.c) ?_;clear hK K hlk;refine pStep (i:=7) rfl (by kernel_rfl) (by kernel_rfl) rfl fun K hK=>?_;have HCA:=hid (HCALL.out _ HFA.out.h);go_simp;refine HCA.out.mono ?_;rintro e w5 ⟨a',S',v,er,rfl,ho,hh,hd,hff⟩;have HC5:=hid (And.intro ho (And.intro hh (And.intro hd hff)));have HCB:=hid (HFA.out.c.only ho (fun hm=>by have:=HFA.out.la _ hm; omega));have HQC:=hid (HQA.out.only ho (fun hm=>by have:=HFA.out.la _ hm; omega));refine hK _ _ (by rw [HS.out]; exact HSF.out _ HCB.out) ?_;clear hK K ho hh hd hff HCA;have hqn:qb ∉ a'.fp:=fun hm=>by
        rcases HC5.out.2.2.2.2 _ hm with h | h
        ·have:=HFA.out.la _ h;omega
        ·have:=HQA.out.lt;omega
       have r0:=HQC.out.at 0 (v:=.int .u64 0) rfl;have r1:=HQC.out.at 1 (v:=.int .i64 0) rfl;have g0:=HQC.out.frozen 0;have g1:=HQC.out.frozen 1;have HMID:=hid (DoMid.mk' HFA.out HC5.out.1 HC5.out.2.1 HC5.out.2.2.1 HC5.out.2.2.2 (Only.refl _ _) HQC.out hqn hql);have HCF:=hid (HCB.out.only (((Only.refl [qb] w5).setCell (p:=⟨qb,0,none⟩) (by simp) (.int .u64 v)).setCell (p:=⟨qb,1,none⟩) (by simp) (.int .i64 er)) (by simp; omega));refine pStep (i:=9) rfl (by kernel_rfl) (by kernel_rfl) rfl fun K hK=>?_;go_simp;refine hK _ _ (by rw [HS.out]; exact HSF.out _ HCF.out) ?_;clear hK K r0 r1 g0 g1;refine pEnd (by kernel_rfl) ?_;go_wp2_with fail;go_meet;exact ⟨_,_,_,a',S',rfl,HMID.out⟩
     ·skip;obtain ⟨qb,hqb⟩:∃ qb,w2.drew.heap.size=qb:=⟨_,rfl⟩;obtain ⟨WA,hWA⟩:∃ WA,w2.drew.alloc (.cells #[.int .u64 0,.int .i64 0] 38)=WA:=⟨_,rfl⟩;have qa:Only [] w2.drew WA:=by rw [← hWA]; exact (Only.refl [] _).alloc _
      have HQA:=hid (show Blk WA qb 38 #[.int .u64 0,.int .i64 0] by rw [← hWA,← hqb]; exact Blk.new _ _ _);have hql:w.heap.size+1 < qb:=by rw [← hqb]; exact HFD.out.r.lt
      have HFA:=hid (HFD.out.quiet qa);go_simp
      try rw [hWA]
      try rw [hqb]
      refine hK _ _ (by rw [HS.out]; exact HSF.out _ HFA.out.c) ?_;clear hK K;refine pStep (i:=0) rfl (by kernel_rfl) (by kernel_rfl) rfl fun K hK=>?_;go_simp;go_at_call 68;refine (hkinds_any _).mono ?_;rintro e wk ⟨r,f,rfl,hm,hfk,ho,hr⟩;have HFK:=hid (HFA.out.quiet ho);have HM:=hid hm;have HKF:=hid hfk;have HQK:=hid (HQA.out.only ho (by simp));refine hK _ _ (by rw [HS.out]; exact HSF.out _ HFK.out.c) ?_;clear hK K ho hm hfk hr;refine pStep (i:=3) rfl (by kernel_rfl) (by kernel_rfl) rfl fun K hK=>?_;have hlk:=HM.out.look (P:=Tryz.prog) Tryz.underlyingDoers Tryz.underlying3 k (zv_doer _) false;rw [HKF.out k nf HNF.out,if_neg (by decide),Option.getD_some] at hlk;go_simp;refine hK _ _ (by rw [HS.out]; exact HSF.out _ HFK.out.c) ?_;clear hK K hlk;refine pStep (i:=7) rfl (by kernel_rfl) (by kernel_rfl) rfl fun K hK=>?_;have HCA:=hid (HCALL.out _ HFK.out.h);go_simp;refine HCA.out.mono ?_;rintro e w5 ⟨a',S',v,er,rfl,ho,hh,hd,hff⟩;have HC5:=hid (And.intro ho (And.intro hh (And.intro hd hff)));have HCB:=hid (HFK.out.c.only ho (fun hm=>by have:=HFK.out.la _ hm; omega));have HQC:=hid (HQK.out.only ho (fun hm=>by have:=HFK.out.la _ hm; omega));refine hK _ _ (by rw [HS.out]; exact HSF.out _ HCB.out) ?_;clear hK K ho hh hd hff HCA;have hqn:qb ∉ a'.fp:=fun hm=>by
       rcases HC5.out.2.2.2.2 _ hm with h | h
       ·have:=HFK.out.la _ h;omega
       ·have:=HQK.out.lt;omega
      have r0:=HQC.out.at 0 (v:=.int .u64 0) rfl;have r1:=HQC.out.at 1 (v:=.int .i64 0) rfl;have g0:=HQC.out.frozen 0;have g1:=HQC.out.frozen 1;have HMID:=hid (DoMid.mk' HFK.out HC5.out.1 HC5.out.2.1 HC5.out.2.2.1 HC5.out.2.2.2 (Only.refl _ _) HQC.out hqn hql);have HCF:=hid (HCB.out.only (((Only.refl [qb] w5).setCell (p:=⟨qb,0,none⟩) (by simp) (.int .u64 v)).setCell (p:=⟨qb,1,none⟩) (by simp) (.int .i64 er)) (by simp; omega));refine pStep (i:=9) rfl (by kernel_rfl) (by kernel_rfl) rfl fun K hK=>?_;go_simp;refine hK _ _ (by rw [HS.out]; exact HSF.out _ HCF.out) ?_;clear hK K r0 r1 g0 g1;refine pEnd (by kernel_rfl) ?_;go_wp2_with fail;go_meet;exact ⟨_,_,_,a',S',rfl,HMID.out⟩
    case rest=>
     obtain ⟨q,v,er,a',S',rfl,hmid⟩:=hcut;have HMID:=hid hmid;clear hmid y0 y1 y2 y3;have x0:=HMID.out.b.at 0 (v:=.int .u64 v) rfl;have x1:=HMID.out.b.at 1 (v:=.int .i64 er) rfl;by_cases he:er=0
     ·have hne:(er != 0)=false:=by simp [he]
      clear he;have r0:=HMID.out.r.at 0 (v:=.int .u64 0) rfl;have r1:=HMID.out.r.at 1 (v:=.int .i64 0) rfl;have g0:=HMID.out.r.frozen 0;have g1:=HMID.out.r.frozen 1;go_wp2_with fail;obtain ⟨z1,z2,z3⟩:=HMID.out.end (.int .u64 v) (.int .i64 er);have q0:=z3.at 0 (v:=.int .u64 v) rfl;have q1:=z3.at 1 (v:=.int .i64 er) rfl;refine bodyPost_ret (v:=.agg #[.int .u64 v,.int .i64 er]) (by simp [results,Tryz.results39,go_sem,q0,q1]) rfl ⟨a',S',v,er,rfl,z2,z1,HMID.out.d,HMID.out.f⟩
     ·have hne:(er != 0)=true:=by simp [he]
      have HE:=hid he;clear he;go_wp2_with fail;refine (HBAD.out _ _).mono ?_;rintro en wz ⟨rfl,hoz⟩;have HMZ:=hid (HMID.out.quiet hoz);clear hoz x0 x1;have r0:=HMZ.out.r.at 0 (v:=.int .u64 0) rfl;have r1:=HMZ.out.r.at 1 (v:=.int .i64 0) rfl;have g0:=HMZ.out.r.frozen 0;have g1:=HMZ.out.r.frozen 1;go_wp2_with fail;obtain ⟨z1,z2,z3⟩:=HMZ.out.end (.int .u64 0) (.int .i64 er);have q0:=z3.at 0 (v:=.int .u64 0) rfl;have q1:=z3.at 1 (v:=.int .i64 er) rfl;refine bodyPost_ret (v:=.agg #[.int .u64 0,.int .i64 er]) (by simp [results,Tryz.results39,go_sem,q0,q1]) rfl ⟨a',S',0,er,rfl,z2,z1,HMZ.out.d.zero HE.out,HMZ.out.f⟩
  ·have hz:(vm == 0)=false:=by simpa using hv0
   have d0:decide (0 < vm)=true:=decide_eq_true (by omega);have HLV:=hid (hlive_any HF1.out.h vm);have HV0:=hid hv0;clear hv0;cases hcb:ctlN k with
   | true=>
    rw [hcb] at HCT;have HB:=hid (dobad (c:=⟨k,A,B,D⟩) (vm:=vm) HI.out (fun h1 _=>HV0.out h1) (fun h1 _ u G e hg=>by
     dsimp only at h1;rw [h1] at hcb;cases hcb) 7 (by decide))
    clear hcb;go_wp2_with fail;refine (HCT.out _).mono ?_;rintro e w3 ⟨rfl,rfl⟩;clear y0 y1 y2 y3;go_wp2_with fail;refine (HBAD.out _ _).mono ?_;rintro en wz ⟨rfl,hoz⟩;have HFZ:=hid (HF1.out.quiet hoz);clear hoz;have hr:=HFZ.out.r;have r0:=hr.at 0 (v:=.int .u64 0) rfl;have r1:=hr.at 1 (v:=.int .i64 0) rfl;have g0:=hr.frozen 0;have g1:=hr.frozen 1;go_wp2_with fail;obtain ⟨z1,z2,z3,_⟩:=HFZ.out.out (.int .u64 (0)) (.int .i64 (7));have q0:=z3.at 0 (v:=.int .u64 (0)) rfl;have q1:=z3.at 1 (v:=.int .i64 (7)) rfl;refine bodyPost_ret (v:=.agg #[.int .u64 (0),.int .i64 (7)]) (by simp [results,Tryz.results39,go_sem,q0,q1]) rfl ⟨a,_,0,7,rfl,z2,z1,HB.out,rfl,fun x hx=>.inl hx⟩
   | false=>
    rw [hcb] at HCT;cases hlv:liveN M vm with
    | false=>
     rw [hlv] at HLV;have HB:=hid (dobad (c:=⟨k,A,B,D⟩) (vm:=vm) HI.out (fun h _=>absurd h HV0.out) (fun _ _ u G e hg=>by
      have:=HGR.out u G hg;have h2:=liveN_some hg this.1 this.2;rw [← e,hlv] at h2;cases h2) 4 (by decide))
     clear hlv hcb;go_wp2_with fail;refine (HCT.out _).mono ?_;rintro e w3 ⟨rfl,rfl⟩;clear hz;go_wp2_with fail;refine HLV.out.mono ?_;rintro e w4 ⟨rfl,rfl⟩;clear y0 y1 y2 y3;go_wp2_with fail;refine (HBAD.out _ _).mono ?_;rintro en wz ⟨rfl,hoz⟩;have HFZ:=hid (HF1.out.quiet hoz);clear hoz;have hr:=HFZ.out.r;have r0:=hr.at 0 (v:=.int .u64 0) rfl;have r1:=hr.at 1 (v:=.int .i64 0) rfl;have g0:=hr.frozen 0;have g1:=hr.frozen 1;go_wp2_with fail;obtain ⟨z1,z2,z3,_⟩:=HFZ.out.out (.int .u64 (0)) (.int .i64 (4));have q0:=z3.at 0 (v:=.int .u64 (0)) rfl;have q1:=z3.at 1 (v:=.int .i64 (4)) rfl;refine bodyPost_ret (v:=.agg #[.int .u64 (0),.int .i64 (4)]) (by simp [results,Tryz.results39,go_sem,q0,q1]) rfl ⟨a,_,0,4,rfl,z2,z1,HB.out,rfl,fun x hx=>.inl hx⟩
    | true=>
     rw [hlv] at HLV;have HOK:=hid (show DoOk M vm ⟨k,A,B,D⟩ from ⟨HR.out,by omega,by omega,hz.trans hcb.symm,fun _=>hlv,fun h=>HACC.out h hlv HR.out,fun h=>by
      dsimp only at h;rw [h] at hcb;cases hcb⟩)
     clear hlv hcb;go_wp2_with fail;refine (HCT.out _).mono ?_;rintro e w3 ⟨rfl,rfl⟩;clear hz;go_wp2_with fail;refine HLV.out.mono ?_;rintro e w4 ⟨rfl,rfl⟩;go_upto_region 9 with fail;obtain ⟨nf,hnf,hen,_⟩:=hdoer HF1.out.h HI.out HT.out HFT.out HOK.out;have HNF:=hid hnf;have HCALL:=hid (show ∀ W,IsHv W a M→Calls Tryz.prog nf #[ptr a.hb,.int .i64 vm,.agg #[.int .i64 k,.int .u64 A,.int .u64 B,.int .u64 D]] W (HvTo W a M t vm ⟨k,A,B,D⟩) from fun W hW=>by
      obtain ⟨n2,e2,_,hc⟩:=hdoer hW HI.out HT.out HFT.out HOK.out;rw [HNF.out] at e2;injection e2 with e2;subst e2;exact hc)
     have HSF:=hid (show ∀ w',Blk w' w.heap.size 30 #[.int .i64 k,.int .u64 A,.int .u64 B,.int .u64 D]→w'.cell? ⟨w.heap.size,0,none⟩=some (.int .i64 k)∧w'.cell? ⟨w.heap.size,1,none⟩=some (.int .u64 A)∧w'.cell? ⟨w.heap.size,2,none⟩=some (.int .u64 B)∧w'.cell? ⟨w.heap.size,3,none⟩=some (.int .u64 D) from fun w' h=>⟨h.at 0 rfl,h.at 1 rfl,h.at 2 rfl,h.at 3 rfl⟩);have HFD:=hid HF1.out.drew;clear hnf;go_cut [7] (fun u wc=>∃ q v er a' S',u=ptr q∧DoMid w a M t vm ⟨k,A,B,D⟩ q v er a' S' wc)
     case first=>
      refine pBegin rfl ?_;obtain ⟨S,hS⟩:∃ S:World→Prop,S=fun w'=>w'.cell? ⟨w.heap.size,0,none⟩=some (.int .i64 k)∧w'.cell? ⟨w.heap.size,1,none⟩=some (.int .u64 A)∧w'.cell? ⟨w.heap.size,2,none⟩=some (.int .u64 B)∧w'.cell? ⟨w.heap.size,3,none⟩=some (.int .u64 D):=⟨_,rfl⟩;have HS:=hid hS;clear hS;refine pPhaseH S 99 (by rw [HS.out]; exact ⟨y0,y1,y2,y3⟩) fun HSW=>?_;refine pPure (i:=1) rfl (by kernel_rfl) rfl HSW.out ?_;apply Exists.intro;refine ⟨fun w'=>?_,?_⟩
      ·go_simp;with_reducible rfl
      go_simp;refine pPure (i:=4) rfl (by kernel_rfl) rfl HSW.out ?_;apply Exists.intro;refine ⟨fun w'=>?_,?_⟩
      ·go_simp;with_reducible rfl
      go_simp;refine pPure (i:=5) rfl (by kernel_rfl) rfl HSW.out ?_;apply Exists.intro;refine ⟨fun w'=>?_,?_⟩
      ·go_simp;with_reducible rfl
      go_simp;refine pTake (i:=2) rfl (by kernel_rfl) rfl HSW.out ?_;apply Exists.intro;refine ⟨fun w' hw'=>?_,?_⟩
      ·rw [HS.out] at hw';obtain ⟨p0,p1,p2,p3⟩:=hw';go_simp;with_reducible rfl
      go_simp;refine pTake (i:=6) rfl (by kernel_rfl) rfl HSW.out ?_;apply Exists.intro;refine ⟨fun w' hw'=>?_,?_⟩
      ·rw [HS.out] at hw';obtain ⟨p0,p1,p2,p3⟩:=hw';go_simp;with_reducible rfl
      go_simp;clear y0 y1 y2 y3 HSW;refine pFork (i:=0) (j:=8) rfl rfl (by kernel_rfl) (by kernel_rfl) (by kernel_rfl) rfl rfl (fun K hK=>?_) (fun K hK=>?_)
      ·skip;go_simp;go_at_call 68;refine (hkinds_any _).mono ?_;rintro e wk ⟨r,f,rfl,hm,hfk,ho,hr⟩;have HFK:=hid (HFD.out.quiet ho);have HM:=hid hm;have HKF:=hid hfk;refine hK _ _ (by rw [HS.out]; exact HSF.out _ HFK.out.c) ?_;clear hK K ho hm hfk hr;refine pFork (i:=3) (j:=8) rfl rfl (by kernel_rfl) (by kernel_rfl) (by kernel_rfl) rfl rfl (fun K hK=>?_) (fun K hK=>?_)
       ·skip;have hlk:=HM.out.look (P:=Tryz.prog) Tryz.underlyingDoers Tryz.underlying3 k (zv_doer _) false;rw [HKF.out k nf HNF.out,if_neg (by decide),Option.getD_some] at hlk;go_simp;refine hK _ _ (by rw [HS.out]; exact HSF.out _ HFK.out.c) ?_;clear hK K hlk;refine pFork (i:=7) (j:=8) rfl rfl (by kernel_rfl) (by kernel_rfl) (by kernel_rfl) rfl rfl (fun K hK=>?_) (fun K hK=>?_)
        ·skip;have HCA:=hid (HCALL.out _ HFK.out.h);go_simp;refine HCA.out.mono ?_;rintro e w5 ⟨a',S',v,er,rfl,ho,hh,hd,hff⟩;have HC5:=hid (And.intro ho (And.intro hh (And.intro hd hff)));have HCB:=hid (HFK.out.c.only ho (fun hm=>by have:=HFK.out.la _ hm; omega));refine hK _ _ (by rw [HS.out]; exact HSF.out _ HCB.out) ?_;clear hK K ho hh hd hff HCA;refine pStep (i:=8) rfl (by kernel_rfl) (by kernel_rfl) rfl fun K hK=>?_;obtain ⟨qb,hqb⟩:∃ qb,w5.heap.size=qb:=⟨_,rfl⟩;obtain ⟨WA,hWA⟩:∃ WA,w5.alloc (.cells #[.int .u64 0,.int .i64 0] 38)=WA:=⟨_,rfl⟩;have qa:Only [] w5 WA:=by rw [← hWA]; exact (Only.refl [] _).alloc _
         have HQA:=hid (show Blk WA qb 38 #[.int .u64 0,.int .i64 0] by rw [← hWA,← hqb]; exact Blk.new _ _ _);have hql:w.heap.size+1 < qb:=by rw [← hqb]; exact Nat.lt_of_lt_of_le HFK.out.r.lt HC5.out.1.size
         go_simp
         try rw [hWA]
         try rw [hqb]
         have HCBA:=hid (HCB.out.only qa (by simp));refine hK _ _ (by rw [HS.out]; exact HSF.out _ HCBA.out) ?_;clear hK K;have hqn:qb ∉ a'.fp:=fun hm=>by
          have:=HC5.out.2.1.lim _ hm;omega
         have r0:=HQA.out.at 0 (v:=.int .u64 0) rfl;have r1:=HQA.out.at 1 (v:=.int .i64 0) rfl;have g0:=HQA.out.frozen 0;have g1:=HQA.out.frozen 1;have HMID:=hid (DoMid.mk' HFK.out HC5.out.1 HC5.out.2.1 HC5.out.2.2.1 HC5.out.2.2.2 qa HQA.out hqn hql);have HCF:=hid (HCBA.out.only (((Only.refl [qb] WA).setCell (p:=⟨qb,0,none⟩) (by simp) (.int .u64 v)).setCell (p:=⟨qb,1,none⟩) (by simp) (.int .i64 er)) (by simp; omega));refine pStep (i:=9) rfl (by kernel_rfl) (by kernel_rfl) rfl fun K hK=>?_;go_simp;refine hK _ _ (by rw [HS.out]; exact HSF.out _ HCF.out) ?_;clear hK K r0 r1 g0 g1;refine pEnd (by kernel_rfl) ?_;go_wp2_with fail;go_meet;exact ⟨_,_,_,a',S',rfl,HMID.out⟩
        ·skip;obtain ⟨qb,hqb⟩:∃ qb,wk.heap.size=qb:=⟨_,rfl⟩;obtain ⟨WA,hWA⟩:∃ WA,wk.alloc (.cells #[.int .u64 0,.int .i64 0] 38)=WA:=⟨_,rfl⟩;have qa:Only [] wk WA:=by rw [← hWA]; exact (Only.refl [] _).alloc _
         have HQA:=hid (show Blk WA qb 38 #[.int .u64 0,.int .i64 0] by rw [← hWA,← hqb]; exact Blk.new _ _ _);have hql:w.heap.size+1 < qb:=by rw [← hqb]; exact HFK.out.r.lt
         have HFA:=hid (HFK.out.quiet qa);have HMA:=hid (HM.out.only qa (by simp));go_simp
         try rw [hWA]
         try rw [hqb]
         refine hK _ _ (by rw [HS.out]; exact HSF.out _ HFA.out.c) ?_;clear hK K;refine pStep (i:=7) rfl (by kernel_rfl) (by kernel_rfl) rfl fun K hK=>?_;have HCA:=hid (HCALL.out _ HFA.out.h);go_simp;refine HCA.out.mono ?_;rintro e w5 ⟨a',S',v,er,rfl,ho,hh,hd,hff⟩;have HC5:=hid (And.intro ho (And.intro hh (And.intro hd hff)));have HCB:=hid (HFA.out.c.only ho (fun hm=>by have:=HFA.out.la _ hm; omega));have HQC:=hid (HQA.out.only ho (fun hm=>by have:=HFA.out.la _ hm; omega));refine hK _ _ (by rw [HS.out]; exact HSF.out _ HCB.out) ?_;clear hK K ho hh hd hff HCA;have hqn:qb ∉ a'.fp:=fun hm=>by
          rcases HC5.out.2.2.2.2 _ hm with h | h
          ·have:=HFA.out.la _ h;omega
          ·have:=HQA.out.lt;omega
         have r0:=HQC.out.at 0 (v:=.int .u64 0) rfl;have r1:=HQC.out.at 1 (v:=.int .i64 0) rfl;have g0:=HQC.out.frozen 0;have g1:=HQC.out.frozen 1;have HMID:=hid (DoMid.mk' HFA.out HC5.out.1 HC5.out.2.1 HC5.out.2.2.1 HC5.out.2.2.2 (Only.refl _ _) HQC.out hqn hql);have HCF:=hid (HCB.out.only (((Only.refl [qb] w5).setCell (p:=⟨qb,0,none⟩) (by simp) (.int .u64 v)).setCell (p:=⟨qb,1,none⟩) (by simp) (.int .i64 er)) (by simp; omega));refine pStep (i:=9) rfl (by kernel_rfl) (by kernel_rfl) rfl fun K hK=>?_;go_simp;refine hK _ _ (by rw [HS.out]; exact HSF.out _ HCF.out) ?_;clear hK K r0 r1 g0 g1;refine pEnd (by kernel_rfl) ?_;go_wp2_with fail;go_meet;exact ⟨_,_,_,a',S',rfl,HMID.out⟩
       ·skip;obtain ⟨qb,hqb⟩:∃ qb,wk.heap.size=qb:=⟨_,rfl⟩;obtain ⟨WA,hWA⟩:∃ WA,wk.alloc (.cells #[.int .u64 0,.int .i64 0] 38)=WA:=⟨_,rfl⟩;have qa:Only [] wk WA:=by rw [← hWA]; exact (Only.refl [] _).alloc _
        have HQA:=hid (show Blk WA qb 38 #[.int .u64 0,.int .i64 0] by rw [← hWA,← hqb]; exact Blk.new _ _ _);have hql:w.heap.size+1 < qb:=by rw [← hqb]; exact HFK.out.r.lt
        have HFA:=hid (HFK.out.quiet qa);have HMA:=hid (HM.out.only qa (by simp));go_simp
        try rw [hWA]
        try rw [hqb]
        refine hK _ _ (by rw [HS.out]; exact HSF.out _ HFA.out.c) ?_;clear hK K;refine pStep (i:=3) rfl (by kernel_rfl) (by kernel_rfl) rfl fun K hK=>?_;have hlk:=HMA.out.look (P:=Tryz.prog) Tryz.underlyingDoers Tryz.underlying3 k (zv_doer _) false;rw [HKF.out k nf HNF.out,if_neg (by decide),Option.getD_some] at hlk;go_simp;refine hK _ _ (by rw [HS.out]; exact HSF.out _ HFA.out.c) ?_;clear hK K hlk;refine pStep (i:=7) rfl (by kernel_rfl) (by kernel_rfl) rfl fun K hK=>?_;have HCA:=hid (HCALL.out _ HFA.out.h);go_simp;refine HCA.out.mono ?_;rintro e w5 ⟨a',S',v,er,rfl,ho,hh,hd,hff⟩;have HC5:=hid (And.intro ho (And.intro hh (And.intro hd hff)));have HCB:=hid (HFA.out.c.only ho (fun hm=>by have:=HFA.out.la _ hm; omega));have HQC:=hid (HQA.out.only ho (fun hm=>by have:=HFA.out.la _ hm; omega));refine hK _ _ (by rw [HS.out]; exact HSF.out _ HCB.out) ?_;clear hK K ho hh hd hff HCA;have hqn:qb ∉ a'.fp:=fun hm=>by
         rcases HC5.out.2.2.2.2 _ hm with h | h
         ·have:=HFA.out.la _ h;omega
         ·have:=HQA.out.lt;omega
        have r0:=HQC.out.at 0 (v:=.int .u64 0) rfl;have r1:=HQC.out.at 1 (v:=.int .i64 0) rfl;have g0:=HQC.out.frozen 0;have g1:=HQC.out.frozen 1;have HMID:=hid (DoMid.mk' HFA.out HC5.out.1 HC5.out.2.1 HC5.out.2.2.1 HC5.out.2.2.2 (Only.refl _ _) HQC.out hqn hql);have HCF:=hid (HCB.out.only (((Only.refl [qb] w5).setCell (p:=⟨qb,0,none⟩) (by simp) (.int .u64 v)).setCell (p:=⟨qb,1,none⟩) (by simp) (.int .i64 er)) (by simp; omega));refine pStep (i:=9) rfl (by kernel_rfl) (by kernel_rfl) rfl fun K hK=>?_;go_simp;refine hK _ _ (by rw [HS.out]; exact HSF.out _ HCF.out) ?_;clear hK K r0 r1 g0 g1;refine pEnd (by kernel_rfl) ?_;go_wp2_with fail;go_meet;exact ⟨_,_,_,a',S',rfl,HMID.out⟩
      ·skip;obtain ⟨qb,hqb⟩:∃ qb,w2.drew.heap.size=qb:=⟨_,rfl⟩;obtain ⟨WA,hWA⟩:∃ WA,w2.drew.alloc (.cells #[.int .u64 0,.int .i64 0] 38)=WA:=⟨_,rfl⟩;have qa:Only [] w2.drew WA:=by rw [← hWA]; exact (Only.refl [] _).alloc _
       have HQA:=hid (show Blk WA qb 38 #[.int .u64 0,.int .i64 0] by rw [← hWA,← hqb]; exact Blk.new _ _ _);have hql:w.heap.size+1 < qb:=by rw [← hqb]; exact HFD.out.r.lt
       have HFA:=hid (HFD.out.quiet qa);go_simp
       try rw [hWA]
       try rw [hqb]
       refine hK _ _ (by rw [HS.out]; exact HSF.out _ HFA.out.c) ?_;clear hK K;refine pStep (i:=0) rfl (by kernel_rfl) (by kernel_rfl) rfl fun K hK=>?_;go_simp;go_at_call 68;refine (hkinds_any _).mono ?_;rintro e wk ⟨r,f,rfl,hm,hfk,ho,hr⟩;have HFK:=hid (HFA.out.quiet ho);have HM:=hid hm;have HKF:=hid hfk;have HQK:=hid (HQA.out.only ho (by simp));refine hK _ _ (by rw [HS.out]; exact HSF.out _ HFK.out.c) ?_;clear hK K ho hm hfk hr;refine pStep (i:=3) rfl (by kernel_rfl) (by kernel_rfl) rfl fun K hK=>?_;have hlk:=HM.out.look (P:=Tryz.prog) Tryz.underlyingDoers Tryz.underlying3 k (zv_doer _) false;rw [HKF.out k nf HNF.out,if_neg (by decide),Option.getD_some] at hlk;go_simp;refine hK _ _ (by rw [HS.out]; exact HSF.out _ HFK.out.c) ?_;clear hK K hlk;refine pStep (i:=7) rfl (by kernel_rfl) (by kernel_rfl) rfl fun K hK=>?_;have HCA:=hid (HCALL.out _ HFK.out.h);go_simp;refine HCA.out.mono ?_;rintro e w5 ⟨a',S',v,er,rfl,ho,hh,hd,hff⟩;have HC5:=hid (And.intro ho (And.intro hh (And.intro hd hff)));have HCB:=hid (HFK.out.c.only ho (fun hm=>by have:=HFK.out.la _ hm; omega));have HQC:=hid (HQK.out.only ho (fun hm=>by have:=HFK.out.la _ hm; omega));refine hK _ _ (by rw [HS.out]; exact HSF.out _ HCB.out) ?_;clear hK K ho hh hd hff HCA;have hqn:qb ∉ a'.fp:=fun hm=>by
        rcases HC5.out.2.2.2.2 _ hm with h | h
        ·have:=HFK.out.la _ h;omega
        ·have:=HQK.out.lt;omega
       have r0:=HQC.out.at 0 (v:=.int .u64 0) rfl;have r1:=HQC.out.at 1 (v:=.int .i64 0) rfl;have g0:=HQC.out.frozen 0;have g1:=HQC.out.frozen 1;have HMID:=hid (DoMid.mk' HFK.out HC5.out.1 HC5.out.2.1 HC5.out.2.2.1 HC5.out.2.2.2 (Only.refl _ _) HQC.out hqn hql);have HCF:=hid (HCB.out.only (((Only.refl [qb] w5).setCell (p:=⟨qb,0,none⟩) (by simp) (.int .u64 v)).setCell (p:=⟨qb,1,none⟩) (by simp) (.int .i64 er)) (by simp; omega));refine pStep (i:=9) rfl (by kernel_rfl) (by kernel_rfl) rfl fun K hK=>?_;go_simp;refine hK _ _ (by rw [HS.out]; exact HSF.out _ HCF.out) ?_;clear hK K r0 r1 g0 g1;refine pEnd (by kernel_rfl) ?_;go_wp2_with fail;go_meet;exact ⟨_,_,_,a',S',rfl,HMID.out⟩
     case rest=>
      obtain ⟨q,v,er,a',S',rfl,hmid⟩:=hcut;have HMID:=hid hmid;clear hmid y0 y1 y2 y3;have x0:=HMID.out.b.at 0 (v:=.int .u64 v) rfl;have x1:=HMID.out.b.at 1 (v:=.int .i64 er) rfl;by_cases he:er=0
      ·have hne:(er != 0)=false:=by simp [he]
       clear he;have r0:=HMID.out.r.at 0 (v:=.int .u64 0) rfl;have r1:=HMID.out.r.at 1 (v:=.int .i64 0) rfl;have g0:=HMID.out.r.frozen 0;have g1:=HMID.out.r.frozen 1;go_wp2_with fail;obtain ⟨z1,z2,z3⟩:=HMID.out.end (.int .u64 v) (.int .i64 er);have q0:=z3.at 0 (v:=.int .u64 v) rfl;have q1:=z3.at 1 (v:=.int .i64 er) rfl;refine bodyPost_ret (v:=.agg #[.int .u64 v,.int .i64 er]) (by simp [results,Tryz.results39,go_sem,q0,q1]) rfl ⟨a',S',v,er,rfl,z2,z1,HMID.out.d,HMID.out.f⟩
      ·have hne:(er != 0)=true:=by simp [he]
       have HE:=hid he;clear he;go_wp2_with fail;refine (HBAD.out _ _).mono ?_;rintro en wz ⟨rfl,hoz⟩;have HMZ:=hid (HMID.out.quiet hoz);clear hoz x0 x1;have r0:=HMZ.out.r.at 0 (v:=.int .u64 0) rfl;have r1:=HMZ.out.r.at 1 (v:=.int .i64 0) rfl;have g0:=HMZ.out.r.frozen 0;have g1:=HMZ.out.r.frozen 1;go_wp2_with fail;obtain ⟨z1,z2,z3⟩:=HMZ.out.end (.int .u64 0) (.int .i64 er);have q0:=z3.at 0 (v:=.int .u64 0) rfl;have q1:=z3.at 1 (v:=.int .i64 er) rfl;refine bodyPost_ret (v:=.agg #[.int .u64 0,.int .i64 er]) (by simp [results,Tryz.results39,go_sem,q0,q1]) rfl ⟨a',S',0,er,rfl,z2,z1,HMZ.out.d.zero HE.out,HMZ.out.f⟩
end
end Go.Proofs.YtadgpnoealegiaaGreat
