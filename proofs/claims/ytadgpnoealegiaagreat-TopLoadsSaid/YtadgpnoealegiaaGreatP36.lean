import Derived.Test.YtadgpnoealegiaaGreatP35
namespace Go.Proofs.YtadgpnoealegiaaGreat
open Go.RowKit
open Go.Lib (hid)
set_option maxRecDepth 100000
set_option maxHeartbeats 20000000
section
variable {w:World} {a:HvP} {M:HS} {t:Nat}
theorem IsPool.wfAt {pb pr:Nat} {ps:List D} (h:IsPool w pb pr ps) {f:Int} (hf:inR ps f):(dOf ps f).wf:=by
 refine h.wf _ ?_;unfold dOf;rw [List.getD_eq_getElem?_getD,List.getElem?_eq_getElem (by unfold inR at hf; omega)];exact List.getElem_mem _
structure GvTo (w:World) (a:HvP) (M:HS) (t v:Nat) (G:GS) (k B D:Int) (M1:HS) (W:World):Prop where
 f:HvF w a M1 ⟨k,v,B,D⟩ w.heap.size (w.heap.size+1) W
 inv:HInv M1 t
 step:HStep (fun u _=>u=v) (fun _=>False) none M M1
 g:∃ G1,M1.g v=some G1∧G1.root=G.root
 oth:∀ u,u≠v→M1.g u=M.g u
 fr:∀ y,inR M.ps y→ow M1.ps y=ow M.ps y∧(rf M.ps y=0→rf M1.ps y=0)
theorem GvTo.quiet {v:Nat} {G:GS} {k B D:Int} {M1:HS} {W W':World} (h:GvTo w a M t v G k B D M1 W) (o:Only [] W W'):GvTo w a M t v G k B D M1 W':=
 ⟨h.f.quiet o,h.inv,h.step,h.g,h.oth,h.fr⟩
theorem GvTo.give (hi:HInv M t) {v:Nat} {G G1:GS} {k B D page id x:Int} {M1 M2:HS} {W W':World} (h:GvTo w a M t v G k B D M1 W) (hr:G1.root=G.root) (o:Only a.fp W W') (h2:IsHv W' a M2) (gt:GiveTo M1 t v G1 page id x M2):GvTo w a M t v G k B D M2 W':=by
 obtain ⟨G2,q1,q2,q3⟩:=gt.g;refine ⟨h.f.step o (List.Subset.refl _) h2,gt.inv,?_,⟨G2,q1,q3.trans hr⟩,fun u hu=>(gt.oth u hu).trans (h.oth u hu),fun y hy=>?_⟩
 ·exact (HStep.trans hi.toHCore h.step gt.step).mono (fun u p h=>h.elim (fun h=>h) fun h=>h.1) (fun u h=>h.elim (fun h=>h) (fun h=>h))
 ·have hy2:inR M1.ps y:=by unfold inR at *; rw [h.step.plen]; exact hy
  obtain ⟨k1,k2⟩:=h.fr y hy;obtain ⟨k3,k4⟩:=gt.fr y hy2;exact ⟨k3.trans k1,fun h0=>k4 (k2 h0)⟩
structure HvG (w:World) (a:HvP) (M1:HS) (v:Nat) (c:C) (ps:List D) (W:World):Prop where
 h:HvB W a M1 ps v
 c:Blk W w.heap.size 30 #[.int .i64 c.k,.int .u64 c.a,.int .u64 c.b,.int .u64 c.c]
 r:Blk W (w.heap.size+1) 38 #[.int .u64 0,.int .i64 0]
 o:Only a.fp w W
 la:∀ x ∈ a.fp,x < w.heap.size
theorem HvG.quiet {M1:HS} {v:Nat} {c:C} {ps:List D} {W W':World} (f:HvG w a M1 v c ps W) (o:Only [] W W'):HvG w a M1 v c ps W':=
 ⟨f.h.quiet o,f.c.only o (by simp),f.r.only o (by simp),f.o.trans (o.sub (by simp)),f.la⟩
theorem HvG.frames {M1:HS} {v:Nat} {c:C} {ps ps':List D} {W W':World} (f:HvG w a M1 v c ps W) (o:Only [a.pr] W W') (hp:IsPool W' a.pb a.pr ps'):HvG w a M1 v c ps' W':=by
 have hpr:a.pr ∈ a.fp:=fp_sub (l:=[a.pr]) (by simp) (.head _);have:=f.la _ hpr;exact ⟨f.h.frames o hp,f.c.only o (by simp; omega),f.r.only o (by simp; omega),f.o.trans (o.sub (by simpa using hpr)),f.la⟩
theorem HvF.half {M1:HS} {v:Nat} {G1:GS} {c:C} {ps:List D} {W W':World} (f:HvF w a M1 c w.heap.size (w.heap.size+1) W) (hg:M1.g v=some G1) (o:Only [a.tB v,a.mb,a.ms,a.pr] W W') (hm:IsM W' a.mb a.ms M1.L) (hp:IsPool W' a.pb a.pr ps):HvG w a M1 v c ps W':=by
 have hv:=(f.h.gs v G1 hg).2.1;have hs:[a.tB v,a.mb,a.ms,a.pr] ⊆ a.fp:=fun x hx=>by
  rcases List.mem_cons.1 hx with rfl | hx
  ·exact (fp_guest (show v < 17 by omega)).2.1
  ·exact fp_sub (l:=[a.mb,a.ms,a.pr]) (by simp) hx
 refine ⟨f.h.half hg o hm hp,f.c.only o (fun hx=>?_),f.r.only o (fun hx=>?_),f.o.trans (o.sub hs),f.la⟩
 ·have:=f.la _ (hs hx);omega
 ·have:=f.la _ (hs hx);omega
theorem HvG.end {M1:HS} {v:Nat} {c:C} {ps:List D} {W:World} (f:HvG w a M1 v c ps W) (hv:v≤16):HvF w a { L:=M1.L,ps:=ps,g:=updG M1.g v none,T:=M1.T } c w.heap.size (w.heap.size+1) (W.setCell ⟨a.hb,4+v,none⟩ (.pointer none)):=by
 have hb:a.hb ∈ a.fp:=fp_sub (l:=[a.hb]) (by simp) (.head _);have:=f.la _ hb;have o:Only [a.hb] W (W.setCell ⟨a.hb,4+v,none⟩ (.pointer none)):=(Only.refl [a.hb] W).setCell (p:=⟨a.hb,4+v,none⟩) (.inl (.head _)) _;exact ⟨f.h.end hv,f.c.only o (by simp; omega),f.r.only o (by simp; omega),f.o.trans (o.sub (by simpa using hb)),Nat.le_refl _,Nat.le_succ _,f.la⟩
theorem hdestroy_rel {W:World} {v:Nat} {G G1:GS} {k B D:Int} {M1:HS} {ps:List Go.Proofs.YtadgpnoealegiaaGreat.D} (hi:HInv M t) (hk:k=2) (hv1:1≤v) (hv2:v≤16) (gv:GvTo w a M t v G k B D M1 W) (hg1:M1.g v=some G1) (hn:∀ p,tkV G1.tk p=none) (hz:∀ f,inR M.ps f→ow M.ps f=v→rf M.ps f=0) (hd:Dr (v:Int) M1.ps ps)
 {n:Int} (hn0:0≤n∧n < 18446744073709551616):DoRel M t 0 ⟨k,v,B,D⟩ { L:=M1.L,ps:=ps,g:=updG M1.g v none,T:=M1.T } n 0:=by
 subst hk;obtain ⟨j1,j2⟩:=destroy_step gv.inv hg1 (fun p=>by
  have:=hn p;unfold tkV at this;cases e:G1.tk p with
  | none=>rfl
  | some y=>rw [e] at this; cases this) (fun x hx ho=>by
  have hx2:inR M.ps x:=by unfold inR at *; rw [← gv.step.plen]; exact hx
  obtain ⟨k1,k2⟩:=gv.fr x hx2;exact k2 (hz x hx2 (k1.symm.trans ho))) hd.len hd.wf hd.d
 refine ⟨j1.up (Nat.le_succ _),?_,hn0,fun _ _=>⟨rfl,by dsimp only; omega,by dsimp only; omega⟩,fun _ h=>(by rcases h with h | h | h <;> cases h),fun _ h=>(by cases h),fun h=>(by cases h)⟩;exact (HStep.trans hi.toHCore gv.step j2).mono (fun u p h=>⟨rfl,.inl ⟨rfl,by rcases h with h | h <;> (subst h; rfl)⟩⟩) (fun u h=>⟨rfl,rfl,h.elim (fun h=>h.elim) (fun h=>h ▸ rfl)⟩)
theorem gdrop_tables {W:World} {M1:HS} {v:Nat} {G1:GS} (h:IsHv W a M1) (hi:HInv M1 t) (hg:M1.g v=some G1) :
 Calls Tryz.prog 135 #[ptr (a.tB v)] W fun e w'=>∃ vv ps',e=.returned vv∧Only [a.tB v,a.mb,a.ms,a.pr] W w'∧IsM w' a.mb a.ms M1.L∧IsPool w' a.pb a.pr ps'∧Dr (v:Int) M1.ps ps':=by
 obtain ⟨_,_,t0,_⟩:=hi.gs v G1 hg;refine drop_any (fun l f=>∃ q,G1.nd l q=some f) (fun l f hf=>?_) (fun l f i hf hi16 htab=>?_) (h.tab hg) ⟨0,t0.root⟩ (fun l f hf=>?_)
 ·obtain ⟨q,hq⟩:=hf;obtain ⟨_,_,⟨h0,h1⟩,_⟩:=t0.rng _ _ _ hq;have:=hi.ps1;omega
 ·obtain ⟨q,hq⟩:=hf;have hw:=t0.nd_word hi.ps1 hq hi16;cases hn:G1.nd l (16 * q+i) with
  | none=>
   rw [hn] at hw;dsimp only at hw;rw [hw,zE_table] at htab;cases htab
  | some y=>
   rw [hn] at hw;dsimp only at hw;rw [hw];exact ⟨_,hn⟩
 ·obtain ⟨q,hq⟩:=hf;obtain ⟨_,_,h1,h2,h3,_⟩:=t0.rng _ _ _ hq;exact ⟨h1,h3,h2⟩
theorem hdestroy_any (h:IsHv w a M) (hi:HInv M t) (ht:t < 60000) (c:C) (hk:c.k=2) (hf:c.fits) (x:Int) :
 Calls Tryz.prog 91 #[ptr a.hb,.int .i64 x,c.val] w (HvTo w a M t 0 c):=by
 have hA:=hf.1;have HFAIL:=hid (fun e (he:e≠0)=>DoRel.fail (c:=c) (vm:=0) (v:=0) (e:=e) hi he (by omega) (by omega) zero_range);have HK:=hid hk;have HI:=hid hi;have HT:=hid ht;clear hf hk;obtain ⟨k,A,B,D⟩:=c;obtain ⟨W0,hW0⟩:∃ W0,(w.alloc (.cells #[.int .i64 k,.int .u64 A,.int .u64 B,.int .u64 D] 30)).alloc (.cells #[.int .u64 0,.int .i64 0] 38)=W0:=⟨_,rfl⟩;have hF:=HvF.start h ⟨k,A,B,D⟩;dsimp only at hF;rw [hW0] at hF;have HF0:=hid hF;have HW0:=hid hW0;have hy:=hF.c;dsimp only at hy;have y0:=hy.at 0 (v:=.int .i64 k) rfl;have y1:=hy.at 1 (v:=.int .u64 A) rfl;have y2:=hy.at 2 (v:=.int .u64 B) rfl;have y3:=hy.at 3 (v:=.int .u64 D) rfl;have HBAD:=hid (fun W e=>hbad_any W e);clear hF hy hW0;rw [c_out];have hA:0≤A:=hA;have HL:=hid (halive_any HF0.out.h A hA);cases hl:liveN M A with
 | false=>
  rw [hl] at HL;clear h hi hl;go_enter Tryz.func91,Tryz.ntmps91;go_upto_region 1 with fail;rw [HW0.out];go_wp2_with fail;refine HL.out.mono ?_;rintro e w1 ⟨rfl,rfl⟩;go_wp2_with fail;refine (HBAD.out _ _).mono ?_;rintro en wz ⟨rfl,hoz⟩;have HFZ:=hid (HF0.out.quiet hoz);clear hoz;have hr:=HFZ.out.r;have r0:=hr.at 0 (v:=.int .u64 0) rfl;have r1:=hr.at 1 (v:=.int .i64 0) rfl;have g0:=hr.frozen 0;have g1:=hr.frozen 1;go_wp2_with fail;obtain ⟨z1,z2,z3,_⟩:=HFZ.out.out (.int .u64 (0)) (.int .i64 (4));have q0:=z3.at 0 (v:=.int .u64 (0)) rfl;have q1:=z3.at 1 (v:=.int .i64 (4)) rfl;refine bodyPost_ret (v:=.agg #[.int .u64 (0),.int .i64 (4)]) (by simp [results,Tryz.results91,go_sem,q0,q1]) rfl ⟨a,_,0,4,rfl,z2,z1,HFAIL.out 4 (by decide),rfl,fun x hx=>.inl hx⟩
 | true=>
  rw [hl] at HL;obtain ⟨v,G,rfl,hg⟩:∃ (v:Nat) (G:GS),A=v∧M.g v=some G:=by
   obtain ⟨v,G,e1,_,_,e2⟩:=liveN_iff.1 hl;exact ⟨v,G,e1,e2⟩
  have hvr:=h.gs v G hg;have hv1:=hvr.1;have hv2:=hvr.2.1;have HG:=hid hg;have ewv:IntKind.i64.wrap (v:Int)=(v:Int):=by rw [IntKind.wrap_i64]; omega
  have hnb:(suchN M.ps fun d=>d.o == (v:Int)).length≤4096:=Nat.le_trans (suchTo_len _ _ _) h.pool.max;clear h hi hl hvr hg ht;go_enter Tryz.func91,Tryz.ntmps91;go_upto_region 1 with fail;rw [HW0.out];go_wp2_with fail;refine HL.out.mono ?_;rintro e w1 ⟨rfl,rfl⟩;have x1:=HF0.out.h.c1;have HOW:=hid (powned_any (v:Int) HF0.out.h.pool);go_wp2_with fail;refine HOW.out.mono ?_;rintro e w2 ⟨rv,rfl,ho,hrow⟩;obtain ⟨n,hn⟩:∃ n,(suchN M.ps fun d=>d.o == (v:Int)).length=n:=⟨_,rfl⟩;rw [hn] at hrow hnb;obtain ⟨xs,hxs⟩:∃ xs,(suchN M.ps fun d=>d.o == (v:Int))=xs:=⟨_,rfl⟩;rw [hxs] at hrow hn;have HXS:=hid (And.intro hxs hn);have HROW:=hid (RowR.own hrow);obtain ⟨RA,cap,hrv⟩:=(RowR.own hrow).form;subst hrv;have HF2:=hid (HF0.out.quiet ho);clear ho hrow hn hxs x1 y0 y1 y2 y3 HL HOW;go_wp2_with fail;go_loopg [34] n (fun q i wr=>q≤n∧i=.int .i64 ((n:Int) - q)∧HvF w a M ⟨k,v,B,D⟩ w.heap.size (w.heap.size+1) wr∧RowR wr 3 1 (.slice RA n cap) n (xs.map (Value.int .i64))∧∀ j f,j < n - q→xs[j]?=some f→rf M.ps f=0)
  case atStart=>exact ⟨Nat.le_refl _,by simp,HF2.out,HROW.out,fun j f hj=>by omega⟩
  case round=>
   obtain ⟨hq,rfl,hfr,hrow,hrf⟩:=hrel;clear HF2 HROW;have HFR:=hid hfr;have HROW:=hid hrow;have HRF:=hid hrf;clear hfr hrow hrf;cases gk with
   | zero=>
    have hlt1:¬ ((n:Int) - ((0:Nat):Int) < n):=by omega
    have xg:=HFR.out.h.cg (v:=v) (by omega);rw [gp_some HG.out] at xg;have i0:(0:Int)≤v:=by omega
    have i1:(v:Int) < 17:=by omega
    have HZ:=hid (show ∀ f,inR M.ps f→ow M.ps f=v→rf M.ps f=0 from fun f h1 h2=>by
     have hm:f ∈ xs:=by
      rw [← HXS.out.1];exact suchN_mem.2 ⟨h1,by unfold ow at h2; simp [h2]⟩
     obtain ⟨i,hi⟩:=List.mem_iff_getElem?.1 hm;have hil:=(List.getElem?_eq_some_iff.1 hi).1;exact HRF.out i f (by have:=HXS.out.2; omega) hi)
    have H0:=hid (show GvTo w a M t v G k B D M wr from ⟨HFR.out,HI.out,HStep.refl _ _ _,⟨G,HG.out,rfl⟩,fun _ _=>rfl,fun _ _=>⟨rfl,fun h=>h⟩⟩);clear HFR HROW HRF HXS;go_wp2_with fail;go_loopg [58] (M.T.length) (fun q u wx=>∃ M1,q=M1.T.length∧GvTo w a M t v G k B D M1 wx)
    case atStart=>exact ⟨M,rfl,H0.out⟩
    case round=>
     obtain ⟨M1,rfl,h1⟩:=hrel;clear H0 xg;obtain ⟨G1,hg1,hr1⟩:=h1.g;have hgs:=h1.f.h.gs v G1 hg1;have c1:=hgs.2.2.1.at 1 (v:=.map (some (a.mR v))) rfl;obtain ⟨nn,hlen,hnn⟩:=hgs.2.2.2.2.len Tryz.underlyingTook 3;have H1:=hid h1;have HG1:=hid (And.intro hg1 hr1);by_cases hz:nn=0
     ·have hzd:¬ 0 < nn:=by omega
      have HN:=hid (hnn.1 hz);clear h1 hgs hg1 hr1 hnn hz;go_upto_region 14 with fail;have x2:=H1.out.f.h.c2;obtain ⟨gs,hgr⟩:=H1.out.f.h.gr;have HGD:=hid (gdrop_any hgr (v:Int));clear hgr c1 hlen;go_wp2_with fail;refine HGD.out.mono ?_;rintro e w7 ⟨⟨er,rfl⟩,hto⟩;have HF7:=hid (H1.out.f.step hto.1 (fp_sub (by simp)) (H1.out.f.h.grants hto));have x3:=HF7.out.h.c3;obtain ⟨P,hP⟩:=HF7.out.h.po;have HPD:=hid (pdrop_any hP (v - 1) (by omega));rw [show ((v - 1:Nat):Int)+1=(v:Int) by omega] at HPD;clear hto hP x2 HGD;go_wp2_with fail;refine HPD.out.mono ?_;rintro e w8 ⟨⟨er2,rfl⟩,hto⟩;have HF8:=hid (HF7.out.step hto.1 (fp_sub (by simp)) (HF7.out.h.ports hto));have x0:=(HF8.out.h.gs v G1 HG1.out.1).2.2.1.at 0 (v:=ptr (a.tB v)) rfl;have HDR:=hid (gdrop_tables HF8.out.h H1.out.inv HG1.out.1);clear hto x3 HPD HF7;go_wp2_with fail;refine HDR.out.mono ?_;rintro e w9 ⟨vv,ps2,rfl,ho,hm,hp,hd⟩;have HG9:=hid (HF8.out.half HG1.out.1 ho hm hp);have HD9:=hid hd;clear ho hm hp hd x0 HDR HF8;go_upto_region 18 with fail;have x1:=HG9.out.h.c1;have HOW:=hid (powned_any (v:Int) HG9.out.h.pool);have hnb:(suchN ps2 fun d=>d.o == (v:Int)).length≤4096:=Nat.le_trans (suchTo_len _ _ _) HG9.out.h.pool.max;go_wp2_with fail;refine HOW.out.mono ?_;rintro e w10 ⟨rv2,rfl,ho,hrow⟩;obtain ⟨N,hN⟩:∃ N,(suchN ps2 fun d=>d.o == (v:Int)).length=N:=⟨_,rfl⟩;rw [hN] at hrow hnb;obtain ⟨zs,hzs⟩:∃ zs,(suchN ps2 fun d=>d.o == (v:Int))=zs:=⟨_,rfl⟩;rw [hzs] at hrow hN;have HZS:=hid (And.intro hzs hN);have HROW:=hid (RowR.own hrow);obtain ⟨RB,cap2,hrv⟩:=(RowR.own hrow).form;subst hrv;have HG10:=hid (HG9.out.quiet ho);have HPR:=hid (show a.pr < w.heap.size from HG9.out.la _ (fp_sub (l:=[a.pr]) (by simp) (.head _)));have hbase:w.heap.size≤w9.heap.size:=HG9.out.o.size;have HRB:=hid (show ∀ g,(Value.slice RB N cap2).ownBlock=some g→w.heap.size≤g from fun g hg=>by
       have h1:=(row_blk hrow g (by rw [hg]; simp)).1;omega)
      clear ho hrow hN hzs x1 HOW;go_wp2_with fail;go_loopg [13,93] N (fun q u i wr=>q≤N∧∃ nn:Nat,nn+q≤N∧u=.int .i64 (nn:Int)∧i=.int .i64 ((N:Int) - q)∧∃ ps',HvG w a M1 v ⟨k,v,B,D⟩ ps' wr∧Dr (v:Int) M1.ps ps'∧RowR wr 3 1 (.slice RB N cap2) N (zs.map (Value.int .i64)))
      case atStart=>exact ⟨Nat.le_refl _,0,by omega,rfl,by simp,ps2,HG10.out,HD9.out,HROW.out⟩
      case round=>
       obtain ⟨hq,nn,hnn,rfl,rfl,ps',hg0,hd0,hrow⟩:=hrel;clear HG10 HROW;have HGR:=hid hg0;have HDR:=hid hd0;have HROW:=hid hrow;clear hg0 hd0 hrow;cases gk with
       | zero=>
        have hlt1:¬ ((N:Int) - ((0:Nat):Int) < N):=by omega
        obtain ⟨cs,hobj,hsz,_,_,_,_,hcs⟩:=HGR.out.h.obj;have f0:=hobj.frozen (4+v);have fc:=hobj.at (4+v) (hcs v (by omega));have i0:(0:Int)≤v:=by omega
        have i1:(v:Int) < 17:=by omega
        clear hobj hsz hcs;go_upto_region 27 with fail;have hFE:=HGR.out.end hv2;obtain ⟨We,hWe⟩:∃ We,wr.setCell ⟨a.hb,4+v,none⟩ (.pointer none)=We:=⟨_,rfl⟩;rw [hWe] at hFE ⊢;have HFE:=hid hFE;clear hFE hWe;have ewn:IntKind.u64.wrap (nn:Int)=(nn:Int):=by rw [IntKind.wrap_u64]; omega
        have HRL:=hid (hdestroy_rel (n:=(nn:Int)) HI.out HK.out hv1 hv2 H1.out HG1.out.1 HN.out HZ.out HDR.out (by omega));clear f0 fc i0 i1 HGR HROW;have hr:=HFE.out.r;have r0:=hr.at 0 (v:=.int .u64 0) rfl;have r1:=hr.at 1 (v:=.int .i64 0) rfl;have g0:=hr.frozen 0;have g1:=hr.frozen 1;go_wp2_with fail;obtain ⟨z1,z2,z3,_⟩:=HFE.out.out (.int .u64 ((nn:Int))) (.int .i64 (0));have q0:=z3.at 0 (v:=.int .u64 ((nn:Int))) rfl;have q1:=z3.at 1 (v:=.int .i64 (0)) rfl;refine bodyPost_ret (v:=.agg #[.int .u64 ((nn:Int)),.int .i64 (0)]) (by simp [results,Tryz.results91,go_sem,q0,q1]) rfl ⟨a,_,(nn:Int),0,rfl,z2,z1,HRL.out,rfl,fun x hx=>.inl hx⟩
       | succ q=>
        obtain ⟨j,hj⟩:∃ j,N - (q+1)=j:=⟨_,rfl⟩;have ej:(N:Int) - ((q+1:Nat):Int)=(j:Int):=by omega
        have hjn:j < N:=by omega
        rw [ej];have hlt1:(j:Int) < N:=by omega
        have hj0:(0:Int)≤j:=by omega
        have ew2:IntKind.i64.wrap ((j:Int)+1)=(j:Int)+1:=by rw [IntKind.wrap_i64]; omega
        have ew3:IntKind.i64.wrap ((nn:Int)+1)=((nn+1:Nat):Int):=by rw [IntKind.wrap_i64]; omega
        obtain ⟨g,cap',cur,hv,hb,hcap,hcm,hcs,hcur⟩:=HROW.out.has (by omega);injection hv with hv3 _ hv4;subst hv3 hv4;obtain ⟨f,hy⟩:∃ y,zs[j]?=some y:=⟨zs[j]'(by have:=HZS.out.2; omega),by simp [show j < zs.length by have:=HZS.out.2; omega]⟩;have hmem:f ∈ suchN ps2 fun d=>d.o == (v:Int):=by rw [HZS.out.1]; exact List.mem_of_getElem? hy
        obtain ⟨hin2,how⟩:=suchN_mem.1 hmem;have hin1:inR M1.ps f:=by unfold inR at *; rw [← HD9.out.len]; exact hin2
        have hin:inR ps' f:=by unfold inR at *; rw [HDR.out.len]; exact hin1
        have how1:ow M1.ps f=v:=by
         rcases HD9.out.d f hin1 with e | e
         ·unfold ow;rw [← e];simpa using how
         ·exact e.1
        have hip:inP ps' f=true:=decide_eq_true hin;have cy:=hb.at j (v:=.int .i64 f) (hcur j _ (by simp [hy]));have x1:=HGR.out.h.c1;obtain ⟨dk,dd,dr,de,hd⟩:∃ k o r e,dOf ps' f=⟨k,o,r,e⟩:=⟨_,_,_,_,rfl⟩;have HOF:=hid (of_any f HGR.out.h.pool);rw [hip,if_pos rfl,hd] at HOF;unfold Go.Proofs.YtadgpnoealegiaaGreat.D.val at HOF;dsimp only at HOF;have hgb:w.heap.size≤g:=HRB.out g rfl;have HTT:=hid (show dk=4→Dr (v:Int) M1.ps (turnN ps' f 5 v).1 from fun h4=>by
         refine HDR.out.turn hin1 how1 ?_;rcases HDR.out.d f hin1 with e | e
         ·refine .inr ?_;unfold kd;rw [← e,hd];exact h4
         ·exact e.2.1)
        clear hcap hcm hcs hcur hb hmem hip how hd hy hin hin1 hin2 how1;go_wp2_with fail;refine HOF.out.mono ?_;rintro e w3 ⟨rfl,ho⟩;have q4:=(Only.refl [] w3).alloc (.cells #[.int .i64 dk,.int .i64 dd,.int .i64 dr,.int .i64 de] 159);have HG3:=hid ((HGR.out.quiet ho).quiet q4);have HR3:=hid ((HROW.out.quiet ho).quiet q4);clear ho cy x1 HOF q4;by_cases hr:dk=4
        ·have hrd:(dk == 4)=true:=by simp [hr]
         have x1:=HG3.out.h.c1;have HTU:=hid (turn_any f 5 (v:Int) HG3.out.h.pool (.inr (.inr (.inr rfl))));have HTT2:=hid (HTT.out hr);clear hr;go_wp2_with fail;refine HTU.out.mono ?_;rintro e w4 ⟨rfl,ho,hp⟩;have HG4:=hid (HG3.out.frames ho hp);have HR4:=hid (HR3.out.only ho (fun x hx e=>by
          have h1:x=a.pr:=by simpa using hx
          have h2:g=x:=by injection e
          have:=HPR.out;omega))
         clear ho hp x1 HTU;go_wp2_with fail;go_roundg q
         case measure=>omega
         case rel=>exact ⟨by omega,nn+1,by omega,rfl,by congr 1; omega,_,HG4.out,HTT2.out,HR4.out⟩
        ·have hrd:(dk == 4)=false:=by simp [hr]
         go_wp2_with fail;go_roundg q
         case measure=>omega
         case rel=>exact ⟨by omega,nn,by omega,rfl,by congr 1; omega,_,HG3.out,HDR.out,HR3.out⟩
     ·have hzd:0 < nn:=by omega
      have hkr:∀ k y,G1.tk k=some y→0≤k∧k < 65536:=fun k y hk=>by
       obtain ⟨_,_,_,g0⟩:=h1.inv.gs v G1 hg1;obtain ⟨id,y⟩:=y;obtain ⟨p0,p1,_⟩:=g0.tkl k id y hk;exact ⟨p0,p1⟩
      have hex:∃ k y,G1.tk k=some y:=by
       apply Classical.byContradiction;intro hno;refine hz (hnn.2 fun k=>?_);unfold tkV;cases e:G1.tk k with
       | none=>rfl
       | some y=>exact absurd ⟨k,y,e⟩ hno
      have HFI:=hid (hfirst_any hgs.2.2.1 hgs.2.2.2.2 hkr);have HEX:=hid hex;clear h1 hgs hg1 hr1 hnn hz hkr hex;go_wp2_with fail;refine HFI.out.mono ?_;rintro e w5 ⟨p,rfl,ho,hp⟩;obtain ⟨⟨id,xx⟩,hpy⟩:=hp HEX.out;have H5:=hid (H1.out.quiet ho);have HGV:=hid (hgive_any H5.out.f.h H5.out.inv HT.out v HG1.out.1 hpy);clear ho hp hpy c1 hlen;go_wp2_with fail;refine HGV.out.mono ?_;rintro e w6 ⟨rfl,ho,M2,h2,hgt⟩;have H6:=hid (H5.out.give HI.out HG1.out.2 ho h2 hgt);have hml:M2.T.length < M1.T.length:=by
       rw [hgt.T,List.length_erase_of_mem hgt.mem];have:=List.length_pos_of_mem hgt.mem;omega
      clear ho h2 hgt;go_wp2_with fail;go_roundg M2.T.length
      case measure=>exact hml
      case rel=>exact ⟨M2,rfl,H6.out⟩
   | succ q=>
    obtain ⟨j,hj⟩:∃ j,n - (q+1)=j:=⟨_,rfl⟩;have ej:(n:Int) - ((q+1:Nat):Int)=(j:Int):=by omega
    have hjn:j < n:=by omega
    rw [ej];have hlt1:(j:Int) < n:=by omega
    have hj0:(0:Int)≤j:=by omega
    have ew2:IntKind.i64.wrap ((j:Int)+1)=(j:Int)+1:=by rw [IntKind.wrap_i64]; omega
    obtain ⟨g,cap',cur,hv,hb,hcap,hcm,hcs,hcur⟩:=HROW.out.has (by omega);injection hv with hv1 _ hv2;subst hv1 hv2;obtain ⟨f,hy⟩:∃ y,xs[j]?=some y:=⟨xs[j]'(by have:=HXS.out.2; omega),by simp [show j < xs.length by have:=HXS.out.2; omega]⟩;have hmem:f ∈ suchN M.ps fun d=>d.o == (v:Int):=by rw [HXS.out.1]; exact List.mem_of_getElem? hy
    obtain ⟨hin,how⟩:=suchN_mem.1 hmem;have hip:inP M.ps f=true:=decide_eq_true hin;have cy:=hb.at j (v:=.int .i64 f) (hcur j _ (by simp [hy]));have x1:=HFR.out.h.c1;obtain ⟨dk,dd,dr,de,hd⟩:∃ k o r e,dOf M.ps f=⟨k,o,r,e⟩:=⟨_,_,_,_,rfl⟩;have HOF:=hid (of_any f HFR.out.h.pool);rw [hip,if_pos rfl,hd] at HOF;unfold Go.Proofs.YtadgpnoealegiaaGreat.D.val at HOF;dsimp only at HOF;have HD:=hid hd;have HJ:=hid (And.intro hy hin);clear hcap hcm hcs hcur hb hmem hip how hd hy hin;go_wp2_with fail;refine HOF.out.mono ?_;rintro e w3 ⟨rfl,ho⟩;have HF3:=hid (HFR.out.quiet ho);have HR3:=hid (HROW.out.quiet ho);clear ho cy x1 HOF;by_cases hr:0 < dr
    ·have hrd:decide (0 < dr)=true:=decide_eq_true hr;go_upto_region 9 with fail;have q4:=(Only.refl [] w3).alloc (.cells #[.int .i64 dk,.int .i64 dd,.int .i64 dr,.int .i64 de] 159);have HF4:=hid (HF3.out.quiet q4);clear q4;go_wp2_with fail;refine (HBAD.out _ _).mono ?_;rintro en wz ⟨rfl,hoz⟩;have HFZ:=hid (HF4.out.quiet hoz);clear hoz;have hr:=HFZ.out.r;have r0:=hr.at 0 (v:=.int .u64 0) rfl;have r1:=hr.at 1 (v:=.int .i64 0) rfl;have g0:=hr.frozen 0;have g1:=hr.frozen 1;go_wp2_with fail;obtain ⟨z1,z2,z3,_⟩:=HFZ.out.out (.int .u64 (0)) (.int .i64 (9));have q0:=z3.at 0 (v:=.int .u64 (0)) rfl;have q1:=z3.at 1 (v:=.int .i64 (9)) rfl;refine bodyPost_ret (v:=.agg #[.int .u64 (0),.int .i64 (9)]) (by simp [results,Tryz.results91,go_sem,q0,q1]) rfl ⟨a,_,0,9,rfl,z2,z1,HFAIL.out 9 (by decide),rfl,fun x hx=>.inl hx⟩
    ·have hrd:decide (0 < dr)=false:=decide_eq_false hr;have q4:=(Only.refl [] w3).alloc (.cells #[.int .i64 dk,.int .i64 dd,.int .i64 dr,.int .i64 de] 159);have HF4:=hid (HF3.out.quiet q4);have HR4:=hid (HR3.out.quiet q4);clear q4;go_wp2_with fail;go_roundg q
     case measure=>omega
     case rel=>
      refine ⟨by omega,by congr 1; omega,HF4.out,HR4.out,fun i g2 hi2 hg2=>?_⟩;rcases Nat.lt_or_ge i j with h1 | h1
      ·exact HRF.out i g2 (by omega) hg2
      ·have e:i=j:=by omega
       subst e;obtain ⟨k1,k2⟩:=HJ.out;rw [hg2] at k1;cases k1;have hw:=(IsPool.wfAt HF4.out.h.pool k2).r0;unfold rf;rw [HD.out] at hw ⊢;dsimp only at hw ⊢;omega
end
def HS.new (n:Nat):HS:=⟨List.replicate (16 * n) 0,List.replicate n zD,fun _=>none,[]⟩
theorem hnew_any (w:World) (n:Nat) (h0:4≤n) (h1:n≤4096):Calls Tryz.prog 11 #[.int .i64 n] w fun e w'=>∃ a,e=.returned (.tuple #[ptr a.hb,.int .i64 0])∧Only [] w w'∧(∀ x ∈ a.fp,w.heap.size≤x)∧IsHv w' a (HS.new n):=by
 have ew:IntKind.i64.wrap (16 * (n:Int))=16 * (n:Int):=by rw [IntKind.wrap_i64]; omega
 have d1:decide ((n:Int) < 4)=false:=decide_eq_false (by omega);have d2:decide ((4096:Int) < (n:Int))=false:=decide_eq_false (by omega);obtain ⟨hb,hhb⟩:∃ hb,w.heap.size=hb:=⟨_,rfl⟩;obtain ⟨W1,hW1⟩:∃ W1,w.alloc (.cells #[.pointer none,.pointer none,.pointer none,.pointer none,.pointer none,.pointer none,.pointer none,.pointer none,.pointer none,.pointer none,.pointer none,.pointer none,.pointer none,.pointer none,.pointer none,.pointer none,.pointer none,.pointer none,.pointer none,.pointer none,.pointer none] 87)=W1:=⟨_,rfl⟩;have q1:Only [] w W1:=by rw [← hW1]; exact (Only.refl [] w).alloc _
 have b1:Blk W1 hb 87 #[.pointer none,.pointer none,.pointer none,.pointer none,.pointer none,.pointer none,.pointer none,.pointer none,.pointer none,.pointer none,.pointer none,.pointer none,.pointer none,.pointer none,.pointer none,.pointer none,.pointer none,.pointer none,.pointer none,.pointer none,.pointer none]:=by rw [← hW1,← hhb]; exact Blk.new _ _ _
 have HB1:=hid b1;have HQ1:=hid q1;have HNM:=hid (fun W=>new_in W (16 * (n:Int)) (by omega) (by omega));have HNP:=hid (fun W=>pnew_any W (n:Int) (by omega) (by omega));clear q1 b1;go_enter Tryz.func11,Tryz.ntmps11;go_upto_region 4 with fail;clear hW1;go_wp2_with fail;refine (HNM.out _).mono ?_;rintro e w2 ⟨mb,ms,rfl,hmb,hms,ho,hm⟩;have hc:=HB1.out.only ho (by simp);have x0:=hc.at 0 (v:=.pointer none) rfl;have f0:=hc.frozen 0;obtain ⟨W2,hW2⟩:∃ W2,w2.setCell ⟨hb,0,none⟩ (ptr mb)=W2:=⟨_,rfl⟩;have q0:Only [hb] w2 W2:=by rw [← hW2]; exact (Only.refl [hb] w2).setCell (p:=⟨hb,0,none⟩) (by simp) _
 have HB2:=hid (show Blk W2 hb 87 #[ptr mb,.pointer none,.pointer none,.pointer none,.pointer none,.pointer none,.pointer none,.pointer none,.pointer none,.pointer none,.pointer none,.pointer none,.pointer none,.pointer none,.pointer none,.pointer none,.pointer none,.pointer none,.pointer none,.pointer none,.pointer none] by rw [← hW2]; simpa using hc.set 0 (ptr mb))
 have hq:=(HQ1.out.trans ho).then q0 (fun x hx=>.inr (by have:x=hb:=by simpa using hx
                                                         omega))
 have HQ2:=hid hq;have HO2:=hid (show Only [hb] W1 W2 from (ho.sub (by simp)).trans q0);have HM2:=hid (hm.only q0 (by simp; have:=HQ1.out.size; have:=HB1.out.lt; omega) (by simp; have:=HQ1.out.size; have:=HB1.out.lt; omega));have hbl:=HB1.out.lt;have HL2:=hid (And.intro hmb hms);clear hm hmb hms;clear hc q0 hq ho;go_upto_region 5 with fail
 try rw [hW2]
 clear x0 f0 hW2;go_wp2_with fail;refine (HNP.out _).mono ?_;rintro e w3 ⟨pb,pr,rfl,hpb,hpr,ho,hp⟩;have hc:=HB2.out.only ho (by simp);have x0:=hc.at 1 (v:=.pointer none) rfl;have f0:=hc.frozen 1;obtain ⟨W3,hW3⟩:∃ W3,w3.setCell ⟨hb,1,none⟩ (ptr pb)=W3:=⟨_,rfl⟩;have q0:Only [hb] w3 W3:=by rw [← hW3]; exact (Only.refl [hb] w3).setCell (p:=⟨hb,1,none⟩) (by simp) _
 have HB3:=hid (show Blk W3 hb 87 #[ptr mb,ptr pb,.pointer none,.pointer none,.pointer none,.pointer none,.pointer none,.pointer none,.pointer none,.pointer none,.pointer none,.pointer none,.pointer none,.pointer none,.pointer none,.pointer none,.pointer none,.pointer none,.pointer none,.pointer none,.pointer none] by rw [← hW3]; simpa using hc.set 1 (ptr pb))
 have hq:=(HQ2.out.trans ho).then q0 (fun x hx=>.inr (by have:x=hb:=by simpa using hx
                                                         omega))
 have HQ3:=hid hq;have HO3:=hid (show Only [hb] W2 W3 from (ho.sub (by simp)).trans q0);have HP3:=hid (hp.only q0 (by simp; have:=HQ2.out.size; have:=HB2.out.lt; omega) (by simp; have:=HQ2.out.size; have:=HB2.out.lt; omega));have HL3:=hid (And.intro hpb hpr);clear hp hpb hpr;clear hc q0 hq ho;go_upto_region 6 with fail
 try rw [hW3]
 clear x0 f0 hW3;go_wp2_with fail;refine (gnew_any _).mono ?_;rintro e w4 ⟨gb,gr,rfl,hgb,hgr,ho,hg⟩;have hc:=HB3.out.only ho (by simp);have x0:=hc.at 2 (v:=.pointer none) rfl;have f0:=hc.frozen 2;obtain ⟨W4,hW4⟩:∃ W4,w4.setCell ⟨hb,2,none⟩ (ptr gb)=W4:=⟨_,rfl⟩;have q0:Only [hb] w4 W4:=by rw [← hW4]; exact (Only.refl [hb] w4).setCell (p:=⟨hb,2,none⟩) (by simp) _
 have HB4:=hid (show Blk W4 hb 87 #[ptr mb,ptr pb,ptr gb,.pointer none,.pointer none,.pointer none,.pointer none,.pointer none,.pointer none,.pointer none,.pointer none,.pointer none,.pointer none,.pointer none,.pointer none,.pointer none,.pointer none,.pointer none,.pointer none,.pointer none,.pointer none] by rw [← hW4]; simpa using hc.set 2 (ptr gb))
 have hq:=(HQ3.out.trans ho).then q0 (fun x hx=>.inr (by have:x=hb:=by simpa using hx
                                                         omega))
 have HQ4:=hid hq;have HO4:=hid (show Only [hb] W3 W4 from (ho.sub (by simp)).trans q0);obtain ⟨gs,hgs⟩:=hg;have HG4:=hid (hgs.only q0 (by simp; have:=HB3.out.lt; omega) (by simp; have:=HB3.out.lt; omega));have HL4:=hid (And.intro hgb hgr);clear hgs hgb hgr;clear hc q0 hq ho;go_upto_region 7 with fail
 try rw [hW4]
 clear x0 f0 hW4;go_wp2_with fail;refine (portnew_any _).mono ?_;rintro e w5 ⟨qb,P,rfl,hqb,ho,hP⟩;have hc:=HB4.out.only ho (by simp);have x0:=hc.at 3 (v:=.pointer none) rfl;have f0:=hc.frozen 3;obtain ⟨W5,hW5⟩:∃ W5,w5.setCell ⟨hb,3,none⟩ (ptr qb)=W5:=⟨_,rfl⟩;have q0:Only [hb] w5 W5:=by rw [← hW5]; exact (Only.refl [hb] w5).setCell (p:=⟨hb,3,none⟩) (by simp) _
 have HB5:=hid (show Blk W5 hb 87 #[ptr mb,ptr pb,ptr gb,ptr qb,.pointer none,.pointer none,.pointer none,.pointer none,.pointer none,.pointer none,.pointer none,.pointer none,.pointer none,.pointer none,.pointer none,.pointer none,.pointer none,.pointer none,.pointer none,.pointer none,.pointer none] by rw [← hW5]; simpa using hc.set 3 (ptr qb))
 have hq:=(HQ4.out.trans ho).then q0 (fun x hx=>.inr (by have:x=hb:=by simpa using hx
                                                         omega))
 have HQ5:=hid hq;have HO5:=hid (show Only [hb] W4 W5 from (ho.sub (by simp)).trans q0);have HP5:=hid (hP.only q0 (by simp; have:=HB4.out.lt; omega));have HL5:=hid hqb;clear hP hqb;clear hc q0 hq ho;go_upto_region 8 with fail
 try rw [hW5]
 clear x0 f0 hW5;have hbl:=HB1.out.lt;have s2:=HO2.out.size;have s3:=HO3.out.size;have s4:=HO4.out.size;have s5:=HO5.out.size;have hl2:=HL2.out;have hl3:=HL3.out;have hl4:=HL4.out;have hl5:=HL5.out;have hO4:=HO4.out.trans HO5.out;have hO3:=HO3.out.trans hO4;have hM:=HM2.out.only hO3 (by simp; omega) (by simp; omega);have hP:=HP3.out.only hO4 (by simp; omega) (by simp; omega);rw [show (16 * (n:Int)).toNat=16 * n by omega] at hM;rw [Int.toNat_natCast] at hP;have hG:=HG4.out.only HO5.out (by simp; omega) (by simp; omega);have hmem:∀ x ∈ (HvP.mk hb mb ms pb pr gb gr qb (fun _=>hb) (fun _=>hb) (fun _=>hb)).fp,x=hb∨x=mb∨x=ms∨x=pb∨x=pr∨x=gb∨x=gr∨x=qb:=fun x hx=>by
  unfold HvP.fp at hx;rcases List.mem_append.1 hx with hx | hx
  ·simpa using hx
  ·obtain ⟨u,_,hx⟩:=List.mem_flatMap.1 hx;exact .inl (by simpa using hx)
 have HEND:=hid (show (∀ x ∈ (HvP.mk hb mb ms pb pr gb gr qb (fun _=>hb) (fun _=>hb) (fun _=>hb)).fp,w.heap.size≤x)∧IsHv W5 ⟨hb,mb,ms,pb,pr,gb,gr,qb,fun _=>hb,fun _=>hb,fun _=>hb⟩ (HS.new n) from by
  refine ⟨fun x hx=>?_,⟨⟨_,HB5.out,rfl,rfl,rfl,rfl,rfl,fun u hu=>?_⟩,⟨⟨0,0,hM⟩,fun x hx=>?_⟩,hP,⟨_,hG⟩,⟨_,HP5.out⟩,fun v G hg=>(by cases hg),fun v v' G G' hg=>(by cases hg),fun x hx=>?_⟩⟩
  ·have:=hmem x hx;have:=HQ1.out.size;omega
  ·have e:HvP.gp ⟨hb,mb,ms,pb,pr,gb,gr,qb,fun _=>hb,fun _=>hb,fun _=>hb⟩ (HS.new n) u=.pointer none:=rfl;rw [e];have:u=0∨u=1∨u=2∨u=3∨u=4∨u=5∨u=6∨u=7∨u=8∨u=9∨u=10∨u=11∨u=12∨u=13∨u=14∨u=15∨u=16:=by omega
   rcases this with rfl | rfl | rfl | rfl | rfl | rfl | rfl | rfl | rfl | rfl | rfl | rfl | rfl | rfl | rfl | rfl | rfl <;> rfl
  ·have e:x=0:=(List.mem_replicate.1 hx).2;rw [e];decide
  ·have h5:=HB5.out.lt;have l1:=hM.obj.lt;have l2:=hM.row.lt;have l3:=hP.lt;have l4:=hG.lt;have l5:=HP5.out.lt;have:=hmem x hx;omega)
 clear hM hP hG hmem hO4 hO3 hl2 hl3 hl4 hl5 s2 s3 s4 s5;go_wp2_with fail;go_ret2;exact ⟨⟨hb,mb,ms,pb,pr,gb,gr,qb,fun _=>hb,fun _=>hb,fun _=>hb⟩,rfl,HQ5.out,by have:=HEND.out; rw [hhb] at this; exact this⟩
end Go.Proofs.YtadgpnoealegiaaGreat
