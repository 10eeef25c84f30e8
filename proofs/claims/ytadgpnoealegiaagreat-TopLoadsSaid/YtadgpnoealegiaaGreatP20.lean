import Derived.Test.YtadgpnoealegiaaGreatP19
import Derived.Deep.LoopGhost
namespace Go.Proofs.YtadgpnoealegiaaGreat
open Go.RowKit
open Go.Lib (hid)
set_option maxRecDepth 100000
set_option maxHeartbeats 20000000
section
open Go.Conc
section
variable {w w':World} {b:Nat} {bv ov:Value} {cs:List Nat} {s:Bx}
theorem btake_none (h:IsBx w b bv ov cs s) (c:Nat) (hc:c < cs.length) (hq:s.bs[c]?=some []):Calls Tryz.prog 16 #[ptr b,.int .i64 c] w fun e w'=>e=.returned (.tuple #[.agg #[.int .i64 0,.int .i64 0,.int .i64 0],.bool false])∧Only [] w w':=by
 have q1:=(Only.refl [] w).alloc (.cells #[.int .i64 0,.int .i64 0,.int .i64 0] 71);have HH:=hid (bhas_any (h.quiet q1) c hc);have HX:=hid (Blk.new w 71 #[.int .i64 0,.int .i64 0,.int .i64 0]);obtain ⟨g,cap,cur,hv,hb,hnc,_,_,hcc⟩:=h.row.has (by omega);obtain ⟨ch,hch⟩:∃ ch,cs[c]?=some ch:=⟨cs[c],by simp [hc]⟩;have xg:=hb.at c (hcc c (.chan (some ch)) (by simp [hch]));obtain ⟨ss,rr,hcn⟩:=h.chans c ch [] hch hq;obtain ⟨n,hn⟩:∃ n,cs.length=n:=⟨_,rfl⟩;have x0:=h.obj.at 0 (v:=bv) rfl;rw [hv,hn] at x0;rw [hn] at hc hnc;have hbl:=h.obj.lt;have hgl:=hb.lt;have hcl:=(h.chans c ch [] hch hq).lt;have hne:b≠w.heap.size:=by omega
 have hne2:g≠w.heap.size:=by omega
 have i0:(0:Int)≤(c:Int):=by omega
 have i1:(c:Int) < (n:Int):=by omega
 have hcn2:(w.alloc (.cells #[.int .i64 0,.int .i64 0,.int .i64 0] 71)).heap[ch]?=some (.chan 16 #[] false ss rr false):=(q1.block ch hcl (by simp)).trans (by simpa using hcn);have HCN:=hid hcn2;have HQ1:=hid q1;clear h hv hb hcc hch hcn hq hn hcn2 q1;go_enter Tryz.func16,Tryz.ntmps16;go_wp2_with fail;refine HH.out.mono ?_;rintro e w1 ⟨rfl,rfl⟩;go_upto_region 4 with fail;refine wp_region_speaks [] _ _ ⟨rfl,_,_,speaks_default (c:=ch) (z:=.agg #[.int .i64 0,.int .i64 0,.int .i64 0]) ?_ HCN.out,?_⟩
 ·simp [execOp,rcase,Act.eval,Result.andThen]
 ·have HXF:=HX.out;have x0:=HX.out.at 0 (v:=.int .i64 0) rfl;have x1:=HX.out.at 1 (v:=.int .i64 0) rfl;have x2:=HX.out.at 2 (v:=.int .i64 0) rfl;have f0:=HX.out.frozen 0;have f1:=HX.out.frozen 1;have f2:=HX.out.frozen 2;simp only [List.nil_append]
  go_frame
  go_wp2_with fail;have q0:=HXF.at 0 (v:=.int .i64 0) rfl;have q1:=HXF.at 1 (v:=.int .i64 0) rfl;have q2:=HXF.at 2 (v:=.int .i64 0) rfl;exact bodyPost_ret (v:=.tuple #[.agg #[.int .i64 0,.int .i64 0,.int .i64 0],.bool false]) (by simp [results,Tryz.results16,go_sem,q0,q1,q2]) rfl ⟨rfl,HQ1.out⟩
def Bx.take (s:Bx) (c:Nat) (a:Ask) (q:List Ask):Bx:=⟨s.bs.set c q,s.op.set (a.id.toNat - 1) (s.op.getD (a.id.toNat - 1) 0 - 1)⟩
theorem only_setChan {w:World} {c cap s r:Nat} {buf:Array Value} {cl tm:Bool}:Only [c] w (w.setChan c cap buf cl s r tm):=only_setBlock
theorem btake_some (h:IsBx w b bv ov cs s) (c:Nat) (hc:c < cs.length) (a:Ask) (q:List Ask) (hq:s.bs[c]?=some (a :: q)) (hop:∀ x ∈ s.op,0≤x∧x≤8) :
 Calls Tryz.prog 16 #[ptr b,.int .i64 c] w fun e w'=>e=.returned (.tuple #[a.val,.bool true])∧Only (ov.ownBlock.toList ++ cs) w w'∧IsBx w' b bv ov cs (s.take c a q):=by
 have q1:=(Only.refl [] w).alloc (.cells #[.int .i64 0,.int .i64 0,.int .i64 0] 71);have HH:=Lib.hid (bhas_any (h.quiet q1) c hc);have HX:=Lib.hid (Blk.new w 71 #[.int .i64 0,.int .i64 0,.int .i64 0]);have H0:=Lib.hid h;obtain ⟨g,cap,cur,hv,hb,hnc,_,_,hcc⟩:=h.row.has (by omega);obtain ⟨ch,hch⟩:∃ ch,cs[c]?=some ch:=⟨cs[c],by simp [hc]⟩;have xg:=hb.at c (hcc c (.chan (some ch)) (by simp [hch]));obtain ⟨ss,rr,hcn⟩:=h.chans c ch _ hch hq;obtain ⟨n,hn⟩:∃ n,cs.length=n:=⟨_,rfl⟩;have x0:=h.obj.at 0 (v:=bv) rfl;rw [hv,hn] at x0;rw [hn] at hc hnc;have hbl:=h.obj.lt;have hgl:=hb.lt;have hcl:=(h.chans c ch _ hch hq).lt;have hne:b≠w.heap.size:=by omega
 have hne2:g≠w.heap.size:=by omega
 have i0:(0:Int)≤(c:Int):=by omega
 have i1:(c:Int) < (n:Int):=by omega
 have hid:=h.ids _ (List.mem_of_getElem? hq) a (by simp);have hcn2:(w.alloc (.cells #[.int .i64 0,.int .i64 0,.int .i64 0] 71)).heap[ch]?=some (.chan 16 ((a :: q).map Ask.val).toArray false ss rr false):=(q1.block ch hcl (by simp)).trans hcn;have HCN:=Lib.hid hcn2;have HQ1:=Lib.hid q1;have HCH:=Lib.hid hch;have HQ:=Lib.hid hq;obtain ⟨ai,at',ap⟩:=a;rw [ask_out];dsimp only at hid;obtain ⟨k,rfl⟩:∃ k:Nat,ai=(k:Int)+1:=⟨(ai - 1).toNat,by omega⟩;obtain ⟨y,hy⟩:∃ y,s.op[k]?=some y:=⟨s.op[k]'(by omega),List.getElem?_eq_getElem _⟩;obtain ⟨go,capo,curo,hvo,hbo,hnco,hmxo,_,hcco⟩:=h.opn.has (by omega);have xo:=hbo.at k (hcco k (.int .i64 y) (by simp [hy]));obtain ⟨no,hno⟩:∃ no,s.op.length=no:=⟨_,rfl⟩;have hy8:=hop y (List.mem_of_getElem? hy);have hkn:(k:Int) < no:=by omega
 have k0:(0:Int)≤(k:Int):=by omega
 have ew1:IntKind.i64.wrap (k:Int)=(k:Int):=by
  rw [IntKind.wrap_i64];unfold maxLen at *;omega
 have ew2:IntKind.i64.wrap ((k:Int)+1 - 1)=(k:Int):=by
  rw [IntKind.wrap_i64];unfold maxLen at *;omega
 have ew3:IntKind.i64.wrap (y - 1)=y - 1:=by
  rw [IntKind.wrap_i64];omega
 have HVO:=Lib.hid hvo;have HNO:=Lib.hid hno;have HBO:=Lib.hid hbo;have HXO:=Lib.hid xo;have HY:=Lib.hid hy;rw [hno] at hnco;clear hvo hbo hcco xo hno hy hop;clear h hv hb hcc hch hcn hq hn hcn2 q1;go_enter Tryz.func16,Tryz.ntmps16;go_wp2_with fail;refine HH.out.mono ?_;rintro e w1 ⟨rfl,rfl⟩;go_upto_region 4 with fail;refine wp_region_speaks [] _ _ ⟨rfl,_,_,speaks_recv (c:=ch) (z:=.agg #[.int .i64 0,.int .i64 0,.int .i64 0]) ?_ HCN.out (by simp),?_⟩
 ·simp [execOp,rcase,Act.eval,Result.andThen]
 ·simp only [List.nil_append];have hlen:(List.map Ask.val (⟨(k:Int)+1,at',ap⟩ :: q)).toArray.getD 0 undef=.agg #[.int .i64 ((k:Int)+1),.int .i64 at',.int .i64 ap]:=by simp [ask_out]
  rw [hlen];obtain ⟨w2,hw2⟩:∃ w2,(w.alloc (.cells #[.int .i64 0,.int .i64 0,.int .i64 0] 71)).setChan ch 16 ((List.map Ask.val (⟨(k:Int)+1,at',ap⟩ :: q)).toArray.extract 1) false ss (rr+1) false=w2:=⟨_,rfl⟩;rw [hw2];have hcw:ch < (w.alloc (.cells #[.int .i64 0,.int .i64 0,.int .i64 0] 71)).heap.size:=by
   simp;omega
  have hchan:IsChan w2 ch q:=by
   refine ⟨ss,rr+1,?_⟩;rw [← hw2,heap_setChan _ _ _ _ _ _ _ _ hcw];simp;exact List.take_of_length_le (by simp)
  have qa:Only [ch] (w.alloc (.cells #[.int .i64 0,.int .i64 0,.int .i64 0] 71)) w2:=by
   rw [← hw2];exact only_setChan
  have qw:Only [ch] w w2:=(HQ1.out.sub (by simp)).trans qa;have hchne:∀ g t cur,Blk w g t cur→g≠ch:=fun g t cur hb=>((H0.out.chans c ch _ HCH.out HQ.out).ne hb).symm;have HQW:=Lib.hid qw;have HCHAN:=Lib.hid hchan;have HX2:=Lib.hid (HX.out.only qa (by simp; omega));have HB2:=Lib.hid (H0.out.obj.only qw (by simpa using hchne _ _ _ H0.out.obj));have HO2:=Lib.hid (H0.out.opn.only qw (fun x hx e=>by
   have hx:x=ch:=by simpa using hx
   subst hx;obtain ⟨_,cs',hb⟩:=H0.out.opn.lt _ e;exact hchne _ _ _ hb rfl))
  have HR2:=Lib.hid (H0.out.row.only qw (fun x hx e=>by
   have hx:x=ch:=by simpa using hx
   subst hx;obtain ⟨_,cs',hb⟩:=H0.out.row.lt _ e;exact hchne _ _ _ hb rfl))
  have hsz2:w.heap.size < w2.heap.size:=by
   have:=qa.size;simp at this;omega
  have HXO2:=Lib.hid (HQW.out.cell (p:=⟨go,k,none⟩) HBO.out.lt (by simpa using hchne _ _ _ HBO.out) |>.trans HXO.out);have HGO2:=Lib.hid (HBO.out.only HQW.out (by simpa using hchne _ _ _ HBO.out));clear hw2 hcw hchan qa qw hlen hchne;have x0:=HX2.out.at 0 (v:=.int .i64 0) rfl;have x1:=HX2.out.at 1 (v:=.int .i64 0) rfl;have x2:=HX2.out.at 2 (v:=.int .i64 0) rfl;have f0:=HX2.out.frozen 0;have f1:=HX2.out.frozen 1;have f2:=HX2.out.frozen 2
  go_frame
  go_upto_region 7 with fail;obtain ⟨w3,hw3⟩:∃ w3,w2.alloc (.cells #[.int .i64 ((k:Int)+1),.int .i64 at',.int .i64 ap] 71)=w3:=⟨_,rfl⟩;have q3:Only [] w2 w3:=by rw [← hw3]; exact (Only.refl [] w2).alloc _
  have HA3:=Lib.hid (show Blk w3 w2.heap.size 71 #[.int .i64 ((k:Int)+1),.int .i64 at',.int .i64 ap] by rw [← hw3]; exact Blk.new w2 _ _);rw [hw3];have HX3:=Lib.hid (HX2.out.only q3 (by simp));have HB3:=Lib.hid (HB2.out.only q3 (by simp));have HGO3:=Lib.hid (HGO2.out.only q3 (by simp));have HO3:=Lib.hid (HO2.out.quiet q3);have HR3:=Lib.hid (HR2.out.quiet q3);have HCH3:=Lib.hid (HCHAN.out.only q3 (by simp));have HQ3:=Lib.hid (HQW.out.trans (q3.sub (by simp)));have xo3:=(q3.cell (p:=⟨go,k,none⟩) HGO2.out.lt (by simp)).trans HXO2.out;have xa3:=HA3.out.at 0 (v:=.int .i64 ((k:Int)+1)) rfl;have xb3:=HB3.out.at 1 (v:=ov) rfl;rw [HVO.out,HNO.out] at xb3;have fo3:=HGO3.out.frozen k;clear hw3 q3 x0 x1 x2 f0 f1 f2;obtain ⟨S,hS⟩:∃ S:World→Prop,S=(fun w'=>w'.cell? ⟨b,1,none⟩=some (.slice (some ⟨go,0,none⟩) no capo)∧w'.cell? ⟨w2.heap.size,0,none⟩=some (.int .i64 ((k:Int)+1))∧w'.cell? ⟨go,k,none⟩=some (.int .i64 y)):=⟨_,rfl⟩;have HS:=Lib.hid hS;clear hS;refine wp_region_lead 10 S (by kernel_rfl) (by kernel_rfl) (by rw [HS.out]; exact ⟨xb3,xa3,xo3⟩) ?_;simp only [List.take_succ_cons,List.take_zero,List.drop_succ_cons,List.drop_zero]
  repeat
   (refine lstep rfl ?_
    apply Exists.intro;refine ⟨fun w' hw'=>?_,?_⟩
    ·rw [HS.out] at hw';obtain ⟨p0,p1,p2⟩:=hw';go_simp;with_reducible rfl
    go_simp)
  refine lnil ?_;refine ltail rfl fun K hK=>?_;go_simp;refine hK _ _ (by rw [HS.out]; exact ⟨xb3,xa3,xo3⟩) ?_;clear hK K;refine llast rfl fun K hK=>?_;go_simp;refine hK _ _ (NoPanic.normal ?_);clear hK K;obtain ⟨w4,hw4⟩:∃ w4,(w3.setCell ⟨go,k,none⟩ (.int .i64 (y - 1))).drew=w4:=⟨_,rfl⟩;have q4:Only [go] w3 w4:=by
   rw [← hw4];exact ((Only.refl [go] w3).setCell (p:=⟨go,k,none⟩) (by simp) _).drew
  have hgo:go < w2.heap.size:=HGO2.out.lt;have hgow:go < w.heap.size:=HBO.out.lt;have hneX:w.heap.size≠go:=by omega
  have hneA:w2.heap.size≠go:=by omega
  have HX4:=Lib.hid (HX3.out.only q4 (by simpa using hneX));have HA4:=Lib.hid (HA3.out.only q4 (by simpa using hneA));have hrow4:RowR w4 3 1 ov s.op.length ((s.op.set k (y - 1)).map (Value.int .i64)):=by
   have h1:=HO3.out;rw [HVO.out] at h1 ⊢;have h2:=h1.set k (by rw [HNO.out]; omega) (.int .i64 (y - 1));rw [List.map_set,← hw4];exact h2.quiet ((Only.refl [] _).drew)
  have HROW4:=Lib.hid hrow4;rw [hw4];have HQ4:=Lib.hid (show Only [go,ch] w w4 from (HQ3.out.sub (by simp)).trans (q4.sub (by simp)));have HCH4:=Lib.hid (HCH3.out.only q4 (by
   simp only [List.mem_singleton];exact HCH3.out.ne HGO3.out))
  have hwz:w.heap.size < w4.heap.size:=by
   have:=HA4.out.lt;omega
  clear hw4 q4 hrow4 xo3 xa3 xb3 fo3;have x0:=HX4.out.at 0 (v:=.int .i64 0) rfl;have x1:=HX4.out.at 1 (v:=.int .i64 0) rfl;have x2:=HX4.out.at 2 (v:=.int .i64 0) rfl;have f0:=HX4.out.frozen 0;have f1:=HX4.out.frozen 1;have f2:=HX4.out.frozen 2;have y0:=HA4.out.at 0 (v:=.int .i64 ((k:Int)+1)) rfl;have y1:=HA4.out.at 1 (v:=.int .i64 at') rfl;have y2:=HA4.out.at 2 (v:=.int .i64 ap) rfl;have hne7:w2.heap.size≠w.heap.size:=by omega
  have hne8:w.heap.size≠w2.heap.size:=by omega
  go_wp2_with fail;have q5:Only [w.heap.size] w4 (((w4.setCell ⟨w.heap.size,0,none⟩ (.int .i64 ((k:Int)+1))).setCell ⟨w.heap.size,1,none⟩ (.int .i64 at')).setCell ⟨w.heap.size,2,none⟩ (.int .i64 ap)):=
   (((Only.refl [w.heap.size] w4).setCell (p:=⟨w.heap.size,0,none⟩) (by simp) _).setCell (p:=⟨w.heap.size,1,none⟩) (by simp) _).setCell (p:=⟨w.heap.size,2,none⟩) (by simp) _
  have H5:=((HX4.out.set 0 (.int .i64 ((k:Int)+1))).set 1 (.int .i64 at')).set 2 (.int .i64 ap);have z0:=H5.at 0 (v:=.int .i64 ((k:Int)+1)) rfl;have z1:=H5.at 1 (v:=.int .i64 at') rfl;have z2:=H5.at 2 (v:=.int .i64 ap) rfl;refine bodyPost_ret (v:=.tuple #[.agg #[.int .i64 ((k:Int)+1),.int .i64 at',.int .i64 ap],.bool true]) (by simp [results,Tryz.results16,go_sem,z0,z1,z2]) rfl ⟨rfl,?_,?_⟩
  ·have hsub:Only (ov.ownBlock.toList ++ cs) w w4:=HQ4.out.sub (by
    intro x hx;simp only [List.mem_cons,List.not_mem_nil,or_false] at hx;rcases hx with rfl | rfl
    ·rw [HVO.out];simp [Value.ownBlock]
    ·exact List.mem_append_right _ (List.mem_of_getElem? HCH.out))
   exact ((hsub.setCell (p:=⟨w.heap.size,0,none⟩) (.inr (Nat.le_refl _)) _).setCell (p:=⟨w.heap.size,1,none⟩) (.inr (Nat.le_refl _)) _).setCell (p:=⟨w.heap.size,2,none⟩) (.inr (Nat.le_refl _)) _
  ·have hk2:((k:Int)+1).toNat - 1=k:=by omega
   have hst:s.take c ⟨(k:Int)+1,at',ap⟩ q=⟨s.bs.set c q,s.op.set k (y - 1)⟩:=by
    unfold Bx.take;dsimp only;rw [hk2,List.getD_eq_getElem?_getD,HY.out,Option.getD_some]
   rw [hst];have hbne:∀ x ∈ [go,ch],x≠b:=by
    intro x hx e;simp only [List.mem_cons,List.not_mem_nil,or_false] at hx;rcases hx with rfl | rfl
    ·have:=(H0.out.obj.inj (e ▸ HBO.out)).1;exact absurd this (by decide)
    ·exact (H0.out.chans c x _ HCH.out HQ.out).ne H0.out.obj e
   have h4:IsBx w4 b bv ov cs ⟨s.bs.set c q,s.op.set k (y - 1)⟩:=by
    refine ⟨H0.out.obj.only HQ4.out (fun hm=>hbne b hm rfl),H0.out.row.only HQ4.out (fun x hx e=>?_),by simpa using HROW4.out,by simpa using H0.out.len,fun i c' q' h1 h2=>?_,H0.out.nodup,H0.out.cpus,fun q' hq' a ha=>?_⟩
    ·obtain ⟨_,cs',hb⟩:=H0.out.row.lt _ e;simp only [List.mem_cons,List.not_mem_nil,or_false] at hx;rcases hx with rfl | rfl
     ·have:=(hb.inj HBO.out).1;exact absurd this (by decide)
     ·exact (H0.out.chans c x _ HCH.out HQ.out).ne hb rfl
    ·dsimp only at h2;by_cases hic:i=c
     ·subst hic;rw [HCH.out] at h1;cases h1;rw [List.getElem?_set_self (List.getElem?_eq_some_iff.1 HQ.out).1] at h2;cases h2;exact HCH4.out
     ·rw [List.getElem?_set_ne (Ne.symm hic)] at h2;refine (H0.out.chans i c' q' h1 h2).only HQ4.out fun hm=>?_;simp only [List.mem_cons,List.not_mem_nil,or_false] at hm;rcases hm with rfl | rfl
      ·exact (H0.out.chans i _ q' h1 h2).ne HBO.out rfl
      ·exact hic ((List.getElem?_inj (List.getElem?_eq_some_iff.1 h1).1 H0.out.nodup).1 (h1.trans HCH.out.symm))
    ·simp only [List.length_set];rcases List.mem_or_eq_of_mem_set hq' with h | h
     ·exact H0.out.ids q' h a ha
     ·subst h;exact H0.out.ids _ (List.mem_of_getElem? HQ.out) a (List.mem_cons_of_mem _ ha)
   refine h4.only q5 (by simpa using hne) (fun x hx e=>?_) (fun x hx e=>?_) (fun x hx hm=>?_)
   ·have hx:x=w.heap.size:=by simpa using hx
    subst hx;exact absurd (H0.out.row.lt _ e).1 (Nat.lt_irrefl _)
   ·have hx:x=w.heap.size:=by simpa using hx
    subst hx;exact absurd (H0.out.opn.lt _ e).1 (Nat.lt_irrefl _)
   ·have hx:x=w.heap.size:=by simpa using hx
    subst hx;obtain ⟨i,hi⟩:=List.mem_iff_getElem?.1 hm;have hlt:=(List.getElem?_eq_some_iff.1 hi).1;have:=(H0.out.chans i _ (s.bs[i]'(by rw [← H0.out.len]; exact hlt)) hi (List.getElem?_eq_getElem _)).lt;omega
end
end
section
open Go.Conc
def Bx.post (s:Bx) (c:Nat) (t p:Int):Bx:=⟨s.bs.mapIdx fun i q=>if i=c then q else q ++ [⟨s.op.length+1,t,p⟩],s.op ++ [((s.bs.length:Int) - 1)]⟩
end
def argsN (k:Int):Int:=if k=1 then 0 else if k=2 then 1 else if k=3 then 2 else if k=4 then 1 else if k=5 then 2 else if k=6 then 1 else if k=7 then 2 else if k=8 then 3 else if k=9 then 3 else if k=10 then 1 else if k=11 then 1 else if k=12 then 1 else if k=13 then 2 else if k=14 then 1 else if k=15 then 0 else if k=16 then 1 else if k=17 then 0 else -1
def ctlN (k:Int):Bool:=k == 1 || k == 2 || k == 17
structure C where
 k:Int
 a:Int
 b:Int
 c:Int
def C.val (x:C):Value:=.agg #[.int .i64 x.k,.int .u64 x.a,.int .u64 x.b,.int .u64 x.c]
theorem c_out (x:C):x.val=.agg #[.int .i64 x.k,.int .u64 x.a,.int .u64 x.b,.int .u64 x.c]:=rfl
def rightC (x:C):Bool:=decide (argsN x.k≠-1) && decide ((argsN x.k≤0→x.a=0)∧(argsN x.k≤1→x.b=0)∧(argsN x.k≤2→x.c=0))
def KindsOk (f:Int→Option Value):Prop:=∀ k,(f k=none∧argsN k=-1)∨∃ s n,f k=some (.agg #[.string s,.int .i64 n])∧argsN k=n∧0≤n∧n≤3
theorem kinds_ok {v1 v2 v3 v4 v5 v6 v7 v8 v9 v10 v11 v12 v13 v14 v15 v16 v17:Value} (e1:∃ s,v1=.agg #[.string s,.int .i64 0]) (e2:∃ s,v2=.agg #[.string s,.int .i64 1]) (e3:∃ s,v3=.agg #[.string s,.int .i64 2]) (e4:∃ s,v4=.agg #[.string s,.int .i64 1]) (e5:∃ s,v5=.agg #[.string s,.int .i64 2]) (e6:∃ s,v6=.agg #[.string s,.int .i64 1]) (e7:∃ s,v7=.agg #[.string s,.int .i64 2]) (e8:∃ s,v8=.agg #[.string s,.int .i64 3]) (e9:∃ s,v9=.agg #[.string s,.int .i64 3]) (e10:∃ s,v10=.agg #[.string s,.int .i64 1]) (e11:∃ s,v11=.agg #[.string s,.int .i64 1]) (e12:∃ s,v12=.agg #[.string s,.int .i64 1]) (e13:∃ s,v13=.agg #[.string s,.int .i64 2]) (e14:∃ s,v14=.agg #[.string s,.int .i64 1]) (e15:∃ s,v15=.agg #[.string s,.int .i64 0]) (e16:∃ s,v16=.agg #[.string s,.int .i64 1]) (e17:∃ s,v17=.agg #[.string s,.int .i64 0]):KindsOk (updM (updM (updM (updM (updM (updM (updM (updM (updM (updM (updM (updM (updM (updM (updM (updM (updM (fun _=>none) 1 (some v1)) 2 (some v2)) 3 (some v3)) 4 (some v4)) 5 (some v5)) 6 (some v6)) 7 (some v7)) 8 (some v8)) 9 (some v9)) 10 (some v10)) 11 (some v11)) 12 (some v12)) 13 (some v13)) 14 (some v14)) 15 (some v15)) 16 (some v16)) 17 (some v17)):=by
 obtain ⟨s1,rfl⟩:=e1;obtain ⟨s2,rfl⟩:=e2;obtain ⟨s3,rfl⟩:=e3;obtain ⟨s4,rfl⟩:=e4;obtain ⟨s5,rfl⟩:=e5;obtain ⟨s6,rfl⟩:=e6;obtain ⟨s7,rfl⟩:=e7;obtain ⟨s8,rfl⟩:=e8;obtain ⟨s9,rfl⟩:=e9;obtain ⟨s10,rfl⟩:=e10;obtain ⟨s11,rfl⟩:=e11;obtain ⟨s12,rfl⟩:=e12;obtain ⟨s13,rfl⟩:=e13;obtain ⟨s14,rfl⟩:=e14;obtain ⟨s15,rfl⟩:=e15;obtain ⟨s16,rfl⟩:=e16;obtain ⟨s17,rfl⟩:=e17;intro k;by_cases h1:k=1
 ·subst h1;exact .inr ⟨_,_,rfl,rfl,by decide,by decide⟩
 by_cases h2:k=2
 ·subst h2;exact .inr ⟨_,_,rfl,rfl,by decide,by decide⟩
 by_cases h3:k=3
 ·subst h3;exact .inr ⟨_,_,rfl,rfl,by decide,by decide⟩
 by_cases h4:k=4
 ·subst h4;exact .inr ⟨_,_,rfl,rfl,by decide,by decide⟩
 by_cases h5:k=5
 ·subst h5;exact .inr ⟨_,_,rfl,rfl,by decide,by decide⟩
 by_cases h6:k=6
 ·subst h6;exact .inr ⟨_,_,rfl,rfl,by decide,by decide⟩
 by_cases h7:k=7
 ·subst h7;exact .inr ⟨_,_,rfl,rfl,by decide,by decide⟩
 by_cases h8:k=8
 ·subst h8;exact .inr ⟨_,_,rfl,rfl,by decide,by decide⟩
 by_cases h9:k=9
 ·subst h9;exact .inr ⟨_,_,rfl,rfl,by decide,by decide⟩
 by_cases h10:k=10
 ·subst h10;exact .inr ⟨_,_,rfl,rfl,by decide,by decide⟩
 by_cases h11:k=11
 ·subst h11;exact .inr ⟨_,_,rfl,rfl,by decide,by decide⟩
 by_cases h12:k=12
 ·subst h12;exact .inr ⟨_,_,rfl,rfl,by decide,by decide⟩
 by_cases h13:k=13
 ·subst h13;exact .inr ⟨_,_,rfl,rfl,by decide,by decide⟩
 by_cases h14:k=14
 ·subst h14;exact .inr ⟨_,_,rfl,rfl,by decide,by decide⟩
 by_cases h15:k=15
 ·subst h15;exact .inr ⟨_,_,rfl,rfl,by decide,by decide⟩
 by_cases h16:k=16
 ·subst h16;exact .inr ⟨_,_,rfl,rfl,by decide,by decide⟩
 by_cases h17:k=17
 ·subst h17;exact .inr ⟨_,_,rfl,rfl,by decide,by decide⟩
 left;refine ⟨?_,?_⟩
 ·simp only [updM,if_neg,h1,h2,h3,h4,h5,h6,h7,h8,h9,h10,h11,h12,h13,h14,h15,h16,h17,not_false_eq_true]
 ·simp only [argsN,if_neg,h1,h2,h3,h4,h5,h6,h7,h8,h9,h10,h11,h12,h13,h14,h15,h16,h17,not_false_eq_true]
theorem zv_kind (W:World):(zeroValue 204).run Tryz.prog W=.ok (.agg #[.string ⟨#[]⟩,.int .i64 0]) W:=by kernel_rfl
theorem ckinds_any (w:World):Calls Tryz.prog 125 #[] w fun e w'=>∃ r f,e=.returned (.map (some r))∧IsMap w' r f∧KindsOk f∧Only [] w w':=by
 have hmm:=@run_makeMap Tryz.prog;have HM:=hid (IsMap.new w);have HO:=hid (show Only [w.heap.size] w (w.alloc (.map #[] 0)) from (Only.refl _ _).alloc _);go_enter Tryz.func125,Tryz.ntmps125;go_wp2_with (first
  | (with_reducible (refine wpList_ins Tryz.underlying206 Tryz.underlying3 HM.out (by with_unfolding_all rfl) (by with_unfolding_all rfl) (by with_unfolding_all rfl) ?_)
     intro w1 hm ho hs;clear hs;have HM:=hid hm;have HO:=hid (HO.out.trans ho);clear hm ho))
 go_ret;refine ⟨_,_,rfl,HM.out,?_,?_⟩
 ·exact kinds_ok ⟨_,rfl⟩ ⟨_,rfl⟩ ⟨_,rfl⟩ ⟨_,rfl⟩ ⟨_,rfl⟩ ⟨_,rfl⟩ ⟨_,rfl⟩ ⟨_,rfl⟩ ⟨_,rfl⟩ ⟨_,rfl⟩ ⟨_,rfl⟩ ⟨_,rfl⟩ ⟨_,rfl⟩ ⟨_,rfl⟩ ⟨_,rfl⟩ ⟨_,rfl⟩ ⟨_,rfl⟩
 ·exact ⟨HO.out.os,HO.out.tape,HO.out.output,HO.out.size,fun i hi _=>HO.out.block i hi (by simp; omega)⟩
theorem ctl_any (w:World) (k:Int):Calls Tryz.prog 67 #[.int .i64 k] w fun e w'=>e=.returned (.bool (ctlN k))∧w=w':=by
 unfold ctlN;by_cases h1:k=1
 ·subst h1;go_enter Tryz.func67,Tryz.ntmps67;go_wp2;go_ret;exact ⟨rfl,rfl⟩
 ·have e1:(k == 1)=false:=by simp [h1]
  rw [e1];by_cases h2:k=2
  ·subst h2;go_enter Tryz.func67,Tryz.ntmps67;go_wp2;go_ret;exact ⟨rfl,rfl⟩
  ·have e2:(k == 2)=false:=by simp [h2]
   rw [e2];obtain ⟨b,hb⟩:∃ b,(k == 17)=b:=⟨_,rfl⟩;rw [hb];clear h1 h2;go_enter Tryz.func67,Tryz.ntmps67;go_wp2;go_ret;exact ⟨rfl,rfl⟩
theorem cargs_any (w:World) (k:Int):Calls Tryz.prog 85 #[.int .i64 k] w fun e w'=>e=.returned (.int .i64 (argsN k))∧Only [] w w':=by
 go_enter Tryz.func85,Tryz.ntmps85;go_wp2_with fail;refine (ckinds_any _).mono ?_;rintro e w1 ⟨r,f,rfl,hm,hk,ho⟩;have HM:=hid hm;have HO:=hid ho;rcases hk k with ⟨h1,h2⟩ | ⟨s,n,h1,h2,_,_⟩
 ·have H1:=hid h1;have H2:=hid h2;clear hm hk ho h1 h2;go_wp2_with (first
   | (with_reducible (refine wpList_lookOk Tryz.underlying206 Tryz.underlying3 HM.out (by with_unfolding_all rfl) (by with_unfolding_all rfl) (zv_kind _) ?_)
      rw [H1.out,Option.getD_none,Option.isSome_none]))
  go_ret;rw [H2.out];exact ⟨rfl,HO.out.alloc _⟩
 ·have H1:=hid h1;have H2:=hid h2;clear hm hk ho h1 h2;go_wp2_with (first
   | (with_reducible (refine wpList_lookOk Tryz.underlying206 Tryz.underlying3 HM.out (by with_unfolding_all rfl) (by with_unfolding_all rfl) (zv_kind _) ?_)
      rw [H1.out,Option.getD_some,Option.isSome_some]))
  go_ret;rw [H2.out];exact ⟨rfl,HO.out.alloc _⟩
theorem cargsM_any (w:World) (x:C):Calls Tryz.prog 86 #[x.val] w fun e w'=>e=.returned (.agg #[.int .u64 x.a,.int .u64 x.b,.int .u64 x.c])∧Only [] w w':=by
 obtain ⟨k,a,b,c⟩:=x;rw [c_out];dsimp only;go_enter Tryz.func86,Tryz.ntmps86;go_wp2_with fail;refine bodyPost_ret (v:=.agg #[.int .u64 a,.int .u64 b,.int .u64 c]) (by simp [results,Tryz.results86,go_sem]) rfl ⟨rfl,?_⟩;exact ((Only.refl [] w).alloc _).alloc _
theorem ix3_0 (x y z:Int) (W:World):(Instr.index 183 (.agg #[.int .u64 x,.int .u64 y,.int .u64 z]) (.int .i64 0)).run Tryz.prog W=.ok (.int .u64 x) W:=by kernel_rfl
theorem ix3_1 (x y z:Int) (W:World):(Instr.index 183 (.agg #[.int .u64 x,.int .u64 y,.int .u64 z]) (.int .i64 1)).run Tryz.prog W=.ok (.int .u64 y) W:=by kernel_rfl
theorem ix3_2 (x y z:Int) (W:World):(Instr.index 183 (.agg #[.int .u64 x,.int .u64 y,.int .u64 z]) (.int .i64 2)).run Tryz.prog W=.ok (.int .u64 z) W:=by kernel_rfl
def argsTo (x:C) (n:Int) (j:Nat):Prop:=(n≤0→0 < j→x.a=0)∧(n≤1→1 < j→x.b=0)∧(n≤2→2 < j→x.c=0)
theorem right_any' (w:World) (x:C):Calls Tryz.prog 60 #[x.val] w fun e w'=>e=.returned (.bool (rightC x))∧Only [] w w':=by
 obtain ⟨R,hR⟩:∃ R,rightC x=R:=⟨_,rfl⟩;rw [hR];unfold rightC at hR;have HAM:=hid (fun W=>cargsM_any W x);have HAR:=hid (fun W=>cargs_any W x.k);obtain ⟨n,hn⟩:∃ n,argsN x.k=n:=⟨_,rfl⟩;rw [hn] at HAR hR;have HR:=hid hR;obtain ⟨k,a,b,c⟩:=x;rw [c_out] at HAM ⊢;dsimp only at HAM HAR ⊢;have HA0:=hid (show Only [] w (w.alloc (.cells #[.int .i64 k,.int .u64 a,.int .u64 b,.int .u64 c] 30)) from (Only.refl [] w).alloc _);have HB0:=hid (Blk.new w 30 #[.int .i64 k,.int .u64 a,.int .u64 b,.int .u64 c]);clear hR hn;by_cases hn1:n=-1
 ·subst hn1;go_enter Tryz.func60,Tryz.ntmps60;go_wp2_with fail;refine (HAR.out _).mono ?_;rintro e w1 ⟨rfl,ho⟩;have HO:=hid (HA0.out.trans ho);clear ho;go_wp2_with fail;go_ret;have e:=HR.out;simp at e;subst e;exact ⟨rfl,HO.out⟩
 ·have hb1:(n == -1)=false:=by simp [hn1]
  have HN:=hid hn1;clear hn1;go_enter Tryz.func60,Tryz.ntmps60;go_wp2_with fail;refine (HAR.out _).mono ?_;rintro e w1 ⟨rfl,ho⟩;have HO:=hid (HA0.out.trans ho);have HB:=hid (HB0.out.only ho (by simp));have c0:=HB.out.at 0 (v:=.int .i64 k) rfl;have c1:=HB.out.at 1 (v:=.int .u64 a) rfl;have c2:=HB.out.at 2 (v:=.int .u64 b) rfl;have c3:=HB.out.at 3 (v:=.int .u64 c) rfl;clear ho;go_wp2_with fail;refine (HAM.out _).mono ?_;rintro e w2 ⟨rfl,ho⟩;have HO:=hid (HO.out.trans ho);clear ho c0 c1 c2 c3;go_wp2_with fail;go_loopg [13,4,5] 3 (fun g i _ _ wr=>wr=w2∧∃ j:Nat,j+g=3∧i=.int .i64 j∧argsTo ⟨k,a,b,c⟩ n j)
  case atStart=>exact ⟨rfl,0,rfl,rfl,by unfold argsTo; exact ⟨fun _ h=>absurd h (by decide),fun _ h=>absurd h (by decide),fun _ h=>absurd h (by decide)⟩⟩
  case round=>
   obtain ⟨rfl,j,hj,rfl,ha⟩:=hrel;have HG:=hid ha;clear ha;have hj4:j=0∨j=1∨j=2∨j=3:=by omega
   have i0:=ix3_0;have i1:=ix3_1;have i2:=ix3_2;rcases hj4 with rfl | rfl | rfl | rfl
   ·by_cases h1:n≤0
    ·by_cases h2:a=0
     ·subst h2;go_wp2_with fail;go_roundg 2
      case measure=>omega
      case rel=>exact ⟨rfl,1,rfl,rfl,by unfold argsTo at *; exact ⟨fun _ _=>rfl,fun _ h=>absurd h (by decide),fun _ h=>absurd h (by decide)⟩⟩
     ·have h3:(a != 0)=true:=by simp [h2]
      have H2:=hid h2;clear h2;go_wp2_with fail;go_ret;have e:=HR.out;rw [decide_eq_false (p:=(n≤0→(⟨k,a,b,c⟩:C).a=0)∧_) (fun h=>H2.out (h.1 h1)),Bool.and_false] at e;subst e;exact ⟨rfl,HO.out⟩
    ·go_wp2_with fail;go_roundg 2
     case measure=>omega
     case rel=>exact ⟨rfl,1,rfl,rfl,by unfold argsTo at *; exact ⟨fun h _=>absurd h (by omega),fun _ h=>absurd h (by decide),fun _ h=>absurd h (by decide)⟩⟩
   ·by_cases h1:n≤1
    ·by_cases h2:b=0
     ·subst h2;go_wp2_with fail;go_roundg 1
      case measure=>omega
      case rel=>exact ⟨rfl,2,rfl,rfl,by have h:=HG.out; unfold argsTo at *; exact ⟨fun q _=>h.1 q (by decide),fun _ _=>rfl,fun _ h=>absurd h (by decide)⟩⟩
     ·have h3:(b != 0)=true:=by simp [h2]
      have H2:=hid h2;clear h2;go_wp2_with fail;go_ret;have e:=HR.out;rw [decide_eq_false (p:=(n≤0→(⟨k,a,b,c⟩:C).a=0)∧_) (fun h=>H2.out (h.2.1 h1)),Bool.and_false] at e;subst e;exact ⟨rfl,HO.out⟩
    ·go_wp2_with fail;go_roundg 1
     case measure=>omega
     case rel=>exact ⟨rfl,2,rfl,rfl,by have h:=HG.out; unfold argsTo at *; exact ⟨fun q _=>h.1 q (by decide),fun h _=>absurd h (by omega),fun _ h=>absurd h (by decide)⟩⟩
   ·by_cases h1:n≤2
    ·by_cases h2:c=0
     ·subst h2;go_wp2_with fail;go_roundg 0
      case measure=>omega
      case rel=>exact ⟨rfl,3,rfl,rfl,by have h:=HG.out; unfold argsTo at *; exact ⟨fun q _=>h.1 q (by decide),fun q _=>h.2.1 q (by decide),fun _ _=>rfl⟩⟩
     ·have h3:(c != 0)=true:=by simp [h2]
      have H2:=hid h2;clear h2;go_wp2_with fail;go_ret;have e:=HR.out;rw [decide_eq_false (p:=(n≤0→(⟨k,a,b,c⟩:C).a=0)∧_) (fun h=>H2.out (h.2.2 h1)),Bool.and_false] at e;subst e;exact ⟨rfl,HO.out⟩
    ·go_wp2_with fail;go_roundg 0
     case measure=>omega
     case rel=>exact ⟨rfl,3,rfl,rfl,by have h:=HG.out; unfold argsTo at *; exact ⟨fun q _=>h.1 q (by decide),fun q _=>h.2.1 q (by decide),fun h _=>absurd h (by omega)⟩⟩
   ·go_wp2_with fail;go_ret;have e:=HR.out;have h:=HG.out;unfold argsTo at h;rw [decide_eq_true (p:=(n≤0→(⟨k,a,b,c⟩:C).a=0)∧_) ⟨fun q=>h.1 q (by decide),fun q=>h.2.1 q (by decide),fun q=>h.2.2 q (by decide)⟩,Bool.and_true,decide_eq_true HN.out] at e;subst e;exact ⟨rfl,HO.out⟩
end Go.Proofs.YtadgpnoealegiaaGreat
