import Derived.Test.YtadgpnoealegiaaGreatP27
import Derived.Deep.LoopGhost
namespace Go.Proofs.YtadgpnoealegiaaGreat
open Go.RowKit
open Go.Lib (hid)
set_option maxRecDepth 100000
set_option maxHeartbeats 20000000
theorem end_lv (L:List Int) (page:Int):∀ (l:Nat) (f:Int),∃ k:Nat,k≤l∧(endN L page l f).l=k
 | 0,f=>⟨0,Nat.le_refl _,rfl⟩
 | l+1,f=>by
  unfold endN;split
  ·obtain ⟨k,h1,h2⟩:=end_lv L page l (entN L (atN f page (l+1))).fr;exact ⟨k,by omega,h2⟩
  ·exact ⟨l+1,Nat.le_refl _,rfl⟩
theorem ntake_range {L:List Int} {ps:List D} {o:Int} (hm:ps.length≤4096):0≤(ntakeN L ps o).2.2.1∧(ntakeN L ps o).2.2.1 < 4096:=by
 unfold ntakeN;cases hf:freeN ps with
 | nil=>exact ⟨Int.le_refl _,show (0:Int) < 4096 by decide⟩
 | cons f l=>
  obtain ⟨k,rfl,hk⟩:=free_range hf;dsimp only;omega
theorem leads_right' {f:Int} (h0:0≤f) (h1:f < 4096):(leadsE f).right=true:=by
 unfold PE.right leadsE;simp;omega
theorem only_two {w W:World} {S:List Nat} (h:Only S w W) (a b:Obj):Only S w ((W.alloc a).alloc b):=(h.alloc a).alloc b
theorem put_pres {L:List Int} {ps:List D} {o r page:Int} {x:PE} {f lv wd:Int} (h:endN L page 3 r=⟨f,lv,wd⟩) (h1:(entN L wd).pr=true):putN L ps o r page x=(L,ps,5):=by
 unfold putN;rw [h,if_pos h1]
theorem put_few {L:List Int} {ps:List D} {o r page:Int} {x:PE} {f wd:Int} {lv:Nat} (h:endN L page 3 r=⟨f,lv,wd⟩) (h1:(entN L wd).pr=false) (h2:(freeN ps).length < lv):putN L ps o r page x=(L,ps,12):=by
 unfold putN;rw [h,if_neg (by dsimp only; rw [h1]; simp),if_pos (by dsimp only; omega)]
theorem put_fill {L L':List Int} {ps ps':List D} {o r page:Int} {x:PE} {f wd wd':Int} {lv:Nat} (h:endN L page 3 r=⟨f,lv,wd⟩) (h1:(entN L wd).pr=false) (h2:¬ (freeN ps).length < lv) (h3:fillN page o lv L ps wd=(L',ps',wd')):putN L ps o r page x=(layN L' wd' x,ps',0):=by
 unfold putN;rw [h,if_neg (by dsimp only; rw [h1]; simp),if_neg (by dsimp only; omega)];dsimp only;rw [Int.toNat_natCast,h3]
def FillAt (w:World) (xb eb tb mb ms pb pr:Nat) (page o r:Int) (gone:Bool) (a1:Bool) (a2:Int) (a3:Bool) (a4:Int) (V:List Int×List D×Int) (k:Nat) (wr:World):Prop:=
 ∃ (lc:Nat) (fc wc:Int) (Lc:List Int) (psc:List D),lc≤k∧lc≤3∧Blk wr xb 256 #[.int .i64 fc,.int .i64 lc,.int .i64 wc]∧Blk wr eb 172 #[.bool a1,.int .i64 a2,.bool a3,.int .i64 a4] ∧
  IsT wr tb mb ms pb pr o r gone Lc psc∧Only [mb,ms,pr] w wr∧fillN page o lc Lc psc wc=V
theorem nput_any {w:World} {tb mb ms pb pr:Nat} {page o r:Int} {gone:Bool} {L:List Int} {ps:List D} (h:IsT w tb mb ms pb pr o r gone L ps) (ho1:1≤o) (ho2:o≤16) (hp0:0≤page) (hp1:page < 65536) (hr0:0≤r) (hr1:r < 4096) (x:PE) (hx:x.right=true) :
 Calls Tryz.prog 176 #[ptr tb,.int .i64 page,.int .i64 0,x.val] w fun e w'=>e=.returned (.int .i64 (putN L ps o r page x).2.2)∧Only [mb,ms,pr] w w'∧IsT w' tb mb ms pb pr o r gone (putN L ps o r page x).1 (putN L ps o r page x).2.1:=by
 obtain ⟨R,hR⟩:∃ R,putN L ps o r page x=R:=⟨_,rfl⟩;rw [hR];have HR:=hid hR;obtain ⟨a1,a2,a3,a4,hxx⟩:∃ a b c d,x=⟨a,b,c,d⟩:=⟨_,_,_,_,rfl⟩;have HXX:=hid hxx;have HXR:=hid hx;have hlt:=h.lt;have hmx:=h.pool.max;have hq0:=(Only.refl [] w).alloc (.cells #[.bool a1,.int .i64 a2,.bool a3,.int .i64 a4] 172);have HE:=hid (Blk.new w 172 #[.bool a1,.int .i64 a2,.bool a3,.int .i64 a4]);have HEND:=hid (end_any (h.quiet hq0) hp0 hp1 hr0 hr1);have HQ:=hid hq0;obtain ⟨lv,hlv,hl⟩:=end_lv L page 3 r;obtain ⟨f,lv',wd,hxe⟩:∃ a b c,endN L page 3 r=⟨a,b,c⟩:=⟨_,_,_,rfl⟩;rw [hxe] at HEND hl;dsimp only at HEND hl;subst hl;have HXN:=hid hxe;obtain ⟨pr',ri,la,fr,hen⟩:∃ a b c d,entN L wd=⟨a,b,c,d⟩:=⟨_,_,_,_,rfl⟩;have HEN:=hid (show (entN L wd).pr=pr' by rw [hen]);rw [hen,pe_out,pl_out] at HEND;dsimp only at HEND;rw [pe_out,hxx];dsimp only;have hll:(0:Int)≤lv:=by omega
 have hneg:decide ((lv:Int) < 0)=false:=by simp
 clear hxx hx hq0 hxe hen h hR;cases pr'
 ·skip;go_enter Tryz.func176,Tryz.ntmps176;go_wp2_with fail;refine HEND.out.mono ?_;rintro e w1 ⟨rfl,ho,ht⟩;have q1:=((Only.refl [] w1).alloc (.cells #[.int .i64 f,.int .i64 lv,.int .i64 wd] 256)).alloc (.cells #[.bool false,.int .i64 ri,.bool la,.int .i64 fr] 172);have HX:=hid ((Blk.new w1 256 #[.int .i64 f,.int .i64 lv,.int .i64 wd]).alloc (.cells #[.bool false,.int .i64 ri,.bool la,.int .i64 fr] 172));have HXE:=hid ((HE.out.only ho (by simp; omega)).only q1 (by simp));have HT:=hid (ht.quiet q1);have HO:=hid ((((HQ.out.sub (show [] ⊆ [mb,ms] by simp)).trans ho).sub (show [mb,ms] ⊆ [mb,ms,pr] by simp)).trans (q1.sub (by simp)));have hz1:=ho.size;obtain ⟨xb,hxb⟩:∃ xb,w1.heap.size=xb:=⟨_,rfl⟩;have hxlt:w.heap.size+1≤xb:=by rw [← hxb]; simpa using hz1
  clear ho ht q1 hz1;go_upto_region 4 with fail;obtain ⟨W,hW⟩:∃ W,(w1.alloc (.cells #[.int .i64 f,.int .i64 lv,.int .i64 wd] 256)).alloc (.cells #[.bool false,.int .i64 ri,.bool la,.int .i64 fr] 172)=W:=⟨_,rfl⟩;rw [hW] at HX HXE HT HO ⊢;rw [hxb] at HX;clear hW hxb;have ew:IntKind.i64.wrap ((lv:Int) - 0)=lv:=by rw [IntKind.wrap_i64]; omega
  have ew2:IntKind.i64.wrap (lv:Int)=lv:=by rw [IntKind.wrap_i64]; omega
  have HC:=hid (count_any 0 (HT.out.quiet ((Only.refl [] W).drew)).pool);rw [show (suchN ps fun d=>d.k == 0)=freeN ps from rfl] at HC;obtain ⟨nf,hnf⟩:∃ nf,(freeN ps).length=nf:=⟨_,rfl⟩;rw [hnf] at HC;have c1:=HT.out.c1;have x1:=HX.out.at 1 (v:=.int .i64 lv) rfl;have HF:=hid (show ∀ wx,Only [] W wx→wx.cell? ⟨tb,1,none⟩=some (ptr pb)∧wx.cell? ⟨xb,1,none⟩=some (.int .i64 lv) from fun wx hx=>⟨(HT.out.quiet hx).c1,(HX.out.only hx (by simp)).at 1 rfl⟩);have HNF:=hid hnf;obtain ⟨bb,hcd⟩:∃ bb,decide (nf < lv)=bb:=⟨_,rfl⟩;clear hnf;go_region_held3 (fun w'=>w'.cell? ⟨tb,1,none⟩=some (ptr pb)∧w'.cell? ⟨xb,1,none⟩=some (.int .i64 lv))
   (first | exact ⟨c1,x1⟩ | exact HF.out _ HO2.out)
   (first
    | (go_at_call 203
       refine HC.out.mono ?_;rintro e w2 ⟨rfl,ho⟩;have HO2:=hid (((Only.refl [] W).drew).trans ho);clear ho))
  have HT:=hid (HT.out.quiet HO2.out);have HX:=hid (HX.out.only HO2.out (by simp));have HXE:=hid (HXE.out.only HO2.out (by simp));have HO:=hid (HO.out.trans (HO2.out.sub (show [] ⊆ [mb,ms,pr] by simp)));clear c1 x1 HF HC ew ew2;cases bb
  rotate_left
  ·have hc:=of_decide_eq_true hcd;go_wp2_with fail;go_ret;have e:=HR.out;rw [put_few HXN.out HEN.out (by rw [HNF.out]; exact hc)] at e;subst e;exact ⟨rfl,HO.out,HT.out⟩
  ·have hc:=of_decide_eq_false hcd;have HNC:=hid hc;have H0:=hid (show FillAt w xb w.heap.size tb mb ms pb pr page o r gone a1 a2 a3 a4 (fillN page o lv L ps wd) lv w2 from ⟨lv,f,wd,L,ps,Nat.le_refl _,hlv,HX.out,HXE.out,HT.out,HO.out,rfl⟩);obtain ⟨V,hV⟩:∃ V,fillN page o lv L ps wd=V:=⟨_,rfl⟩;rw [hV] at H0;have HV:=hid hV;clear hc hV HT HX HXE HO HEND;go_wp2_with fail;go_loopg [11] lv (fun k _ wr=>FillAt w xb w.heap.size tb mb ms pb pr page o r gone a1 a2 a3 a4 V k wr)
   case atStart=>exact H0.out
   case round=>
    obtain ⟨lc,fc,wc,Lc,psc,hk,hl3,hx,hxe,ht,ho,hf⟩:=hrel;have HX:=hid hx;have HXE:=hid hxe;have HT:=hid ht;have HO:=hid ho;have HF:=hid hf;clear hx hxe ht ho hf H0;cases lc with
    | zero=>
     have x1:=HX.out.at 1 (v:=.int .i64 0) rfl;have x2:=HX.out.at 2 (v:=.int .i64 wc) rfl;have e0:=HXE.out.at 0 (v:=.bool a1) rfl;have e1:=HXE.out.at 1 (v:=.int .i64 a2) rfl;have e2:=HXE.out.at 2 (v:=.bool a3) rfl;have e3:=HXE.out.at 3 (v:=.int .i64 a4) rfl;have HL:=hid (nlay_any wc x HXR.out HT.out);rw [HXX.out,pe_out] at HL;dsimp only at HL;go_wp2_with fail;refine HL.out.mono ?_;rintro e w3 ⟨rfl,ho,ht⟩;have HT3:=hid ht;have HO3:=hid (HO.out.trans (ho.sub (by simp)));clear ho ht x1 x2 e0 e1 e2 e3;go_wp2_with fail;go_ret;have e:=HR.out;have hv:=HF.out;unfold fillN at hv;rw [put_fill (L':=Lc) (ps':=psc) (wd':=wc) HXN.out HEN.out (by rw [HNF.out]; exact HNC.out) (by rw [HV.out,← hv])] at e;subst e;rw [HXX.out] at *;exact ⟨rfl,HO3.out,HT3.out⟩
    | succ l=>
     have x1:=HX.out.at 1 (v:=.int .i64 ((l+1:Nat):Int)) rfl;have hpos:(0:Int) < ((l+1:Nat):Int):=by omega
     have HK:=hid (ntake_put HT.out ho1 ho2);have hfr:=ntake_range (L:=Lc) (o:=o) HT.out.pool.max;have hfl:=HF.out;unfold fillN at hfl;obtain ⟨L1,ps1,f1,e1,hT1⟩:∃ a b c d,ntakeN Lc psc o=(a,b,c,d):=⟨_,_,_,_,rfl⟩;rw [hT1] at HK hfr hfl;dsimp only at HK hfr hfl;have HFL:=hid hfl;clear hT1 hfl HF;go_wp2_with fail;refine HK.out.mono ?_;rintro e w3 ⟨rfl,ho,ht⟩;have hltw:=HX.out.lt;have q3:=(Only.refl [] w3).drew;have HX3:=hid ((HX.out.only ho (by simp; omega)).only q3 (by simp));have HXE3:=hid ((HXE.out.only ho (by simp; omega)).only q3 (by simp));have HT3:=hid (ht.quiet q3);have HO3:=hid ((HO.out.trans ho).trans (q3.sub (by simp)));have HLR:=hid (leads_right' hfr.1 hfr.2);have HLY:=hid (fun W (hW:IsT W tb mb ms pb pr o r gone L1 ps1)=>nlay_any wc (leadsE f1) HLR.out hW);obtain ⟨LE,hLE⟩:∃ LE,(leadsE f1).val=LE:=⟨_,rfl⟩;have HLD:=hid (fun W=>nleads_any W f1);rw [hLE] at HLY HLD;have HFX:=hid (show ∀ wx,Only [] w3.drew wx→wx.cell? ⟨xb,2,none⟩=some (.int .i64 wc) from fun wx hx=>(HX3.out.only hx (by simp)).at 2 rfl);have x2:=(HX.out.only ho (by simp; omega)).at 2 (v:=.int .i64 wc) rfl;clear ho ht q3 x1 hLE HK;go_upto_region 8 with fail;go_region_held3 (fun w'=>w'.cell? ⟨xb,2,none⟩=some (.int .i64 wc))
      (first | exact x2 | exact HFX.out _ HO4.out | exact HFX5.out)
      (first
       | (go_at_call 205
          refine (HLD.out _).mono ?_;rintro e w4 ⟨rfl,ho⟩;have HO4:=hid ho;clear ho)
       | (go_at_call 185
          refine (HLY.out _ (HT3.out.quiet HO4.out)).mono ?_;rintro e w5 ⟨rfl,ho,ht⟩;have HT5:=hid ht;have HX5:=hid ((HX3.out.only HO4.out (by simp)).only ho (by simp; omega));have HXE5:=hid ((HXE3.out.only HO4.out (by simp)).only ho (by simp; omega));have HO5:=hid ((HO3.out.trans (HO4.out.sub (by simp))).trans (ho.sub (by simp)));have HFX5:=hid (HX5.out.at 2 (v:=.int .i64 wc) rfl);clear ho ht))
     clear x2 HFX HFX5;have q6:=(Only.refl [] w5).drew;have HT6:=hid (HT5.out.quiet q6);have HX6:=hid (HX5.out.only q6 (by simp));have HXE6:=hid (HXE5.out.only q6 (by simp));have HO6:=hid (HO5.out.trans (q6.sub (by simp)));have ew:IntKind.i64.wrap ((l:Int)+1 - 1)=l:=by rw [IntKind.wrap_i64]; omega
     have ew2:IntKind.i64.wrap (((l+1:Nat):Int) - 1)=l:=by rw [IntKind.wrap_i64]; omega
     have ew3:IntKind.i64.wrap (l:Int)=l:=by rw [IntKind.wrap_i64]; omega
     have x1:=HX5.out.at 1 (v:=.int .i64 ((l+1:Nat):Int)) rfl;have HAT:=hid (fun W=>pteAt_any W f1 page l (by omega) hp0 hp1 hfr.1 hfr.2);obtain ⟨wn,hwn⟩:∃ wn,atN f1 page l=wn:=⟨_,rfl⟩;rw [hwn] at HAT;have HWN:=hid hwn;have HX7:=hid (set3 HX6.out (.int .i64 f1) (.int .i64 l) (.int .i64 wn));clear hwn q6;clear x1;have HFX:=hid (show ∀ wx,Only [] w5 wx→wx.cell? ⟨xb,1,none⟩=some (.int .i64 ((l+1:Nat):Int)) from fun wx hx=>(HX5.out.only hx (by simp)).at 1 rfl);clear HX6 HXE6 HT6 HO6 HX7;go_wp2_with fail;refine wp_region_quiet_tail 11 (by kernel_rfl) (by kernel_rfl) (fun w'=>Only [] w5 w') ((Only.refl _ _).drew) ?_;simp only [List.take_succ_cons,List.take_zero,List.drop_succ_cons,List.drop_zero]
     repeat
      (refine qstep rfl ?_
       apply Exists.intro;refine ⟨fun w' hw'=>?_,?_⟩
       ·have p0:=HFX.out w' hw';go_simp
        first
         | with_reducible rfl
         | exact quiet_val
         | (first
          | exact (HAT.out w').mono fun e w'' ⟨he,hw⟩=>⟨he,hw ▸ hw'⟩)
         | (apply quiet_call
            first
             | exact (HAT.out w').mono fun e w'' ⟨he,hw⟩=>⟨he,hw ▸ hw'⟩)
       go_simp)
     refine wpQuiet_nil ?_;intro wf hwf;have HX6:=hid (HX5.out.only hwf (by simp));have HXE6:=hid (HXE5.out.only hwf (by simp));have HT6:=hid (HT5.out.quiet hwf);have HO6:=hid (HO5.out.trans (hwf.sub (by simp)));have HX7:=hid (set3 HX6.out (.int .i64 f1) (.int .i64 l) (.int .i64 wn));have HO7:=hid ((((HO6.out.setCell (p:=⟨xb,0,none⟩) (.inr (by dsimp only; omega)) (.int .i64 f1)).setCell (p:=⟨xb,1,none⟩) (.inr (by dsimp only; omega)) (.int .i64 l)).setCell (p:=⟨xb,2,none⟩) (.inr (by dsimp only; omega)) (.int .i64 wn)));have q7:=((((Only.refl [xb] wf).setCell (p:=⟨xb,0,none⟩) (by simp) (.int .i64 f1)).setCell (p:=⟨xb,1,none⟩) (by simp) (.int .i64 l)).setCell (p:=⟨xb,2,none⟩) (by simp) (.int .i64 wn));have HT7:=hid (HT6.out.only q7 (by simp; omega) (by simp; omega) (by simp; omega) (by simp; omega) (by simp; omega));have HXE7:=hid (HXE6.out.only q7 (by simp; omega));have b0:=HX6.out.at 0 (v:=.int .i64 fc) rfl;have b1:=HX6.out.at 1 (v:=.int .i64 ((l+1:Nat):Int)) rfl;have b2:=HX6.out.at 2 (v:=.int .i64 wc) rfl;have g0:=HX6.out.frozen 0;have g1:=HX6.out.frozen 1;have g2:=HX6.out.frozen 2;clear q7 hwf;go_wp2_with fail;go_roundg l
     case measure=>omega
     case rel=>exact ⟨l,f1,wn,_,_,Nat.le_refl _,by omega,HX7.out,HXE7.out,HT7.out,HO7.out,by rw [← HWN.out]; exact HFL.out⟩
 ·skip;go_enter Tryz.func176,Tryz.ntmps176;go_wp2_with fail;refine HEND.out.mono ?_;rintro e w1 ⟨rfl,ho,ht⟩;have HT:=hid (ht.quiet (((Only.refl [] w1).alloc (.cells #[.int .i64 f,.int .i64 lv,.int .i64 wd] 256)).alloc (.cells #[.bool true,.int .i64 ri,.bool la,.int .i64 fr] 172)));have HO:=hid (((HQ.out.sub (show [] ⊆ [mb,ms] by simp)).trans ho).sub (show [mb,ms] ⊆ [mb,ms,pr] by simp));clear ho ht;go_wp2_with fail;go_ret;have e:=HR.out;rw [put_pres HXN.out HEN.out] at e;subst e;exact ⟨rfl,only_two HO.out _ _,HT.out⟩
section
variable {w:World} {tb mb ms pb pr:Nat} {page o r:Int} {L:List Int} {ps:List D}
theorem nmap_any (h:IsT w tb mb ms pb pr o r false L ps) (ho1:1≤o) (ho2:o≤16) (hr0:0≤r) (hr1:r < 4096) (f ri:Int) :
 Calls Tryz.prog 137 #[ptr tb,.int .i64 page,.int .i64 f,.int .i64 ri] w fun e w'=>e=.returned (.int .i64 (mapN L ps o r page f ri).2.2)∧Only [mb,ms,pr] w w'∧IsT w' tb mb ms pb pr o r false (mapN L ps o r page f ri).1 (mapN L ps o r page f ri).2.1:=by
 have HS:=hid (state_any h);have HRI:=hid (nright_any w page f ri);have HT:=hid h;unfold mapN;by_cases hrc:rightN page f ri=0
 ·rw [if_pos hrc];have hk:=right_ok hrc;have HP:=hid (nput_any h ho1 ho2 hk.1 hk.2.1 hr0 hr1 ⟨true,ri,false,f⟩ (leaf_right hk.2.2.1 hk.2.2.2.1 hk.2.2.2.2.1 hk.2.2.2.2.2));rw [hrc] at HRI;rw [pe_out] at HP;dsimp only at HP;clear hrc hk h;go_enter Tryz.func137,Tryz.ntmps137;go_wp2_with fail;refine HS.out.mono ?_;rintro e w1 ⟨rfl,rfl⟩;go_wp2_with fail;refine HRI.out.mono ?_;rintro e w1 ⟨rfl,rfl⟩;go_wp2_with fail;refine HP.out.mono ?_;rintro e w1 ⟨rfl,ho,ht⟩;have HO:=hid ho;have HT:=hid ht;clear ho ht;go_wp2_with fail;go_ret;exact ⟨rfl,HO.out,HT.out⟩
 ·rw [if_neg hrc];obtain ⟨rc,hc⟩:∃ rc,rightN page f ri=rc:=⟨_,rfl⟩;rw [hc] at HRI hrc ⊢;have hb:(rc != 0)=true:=by simp [hrc]
  clear hrc hc h;go_enter Tryz.func137,Tryz.ntmps137;go_wp2_with fail;refine HS.out.mono ?_;rintro e w1 ⟨rfl,rfl⟩;go_wp2_with fail;refine HRI.out.mono ?_;rintro e w1 ⟨rfl,rfl⟩;go_wp2_with fail;go_ret;exact ⟨rfl,Only.refl _ _,HT.out⟩
theorem nquery_any (h:IsT w tb mb ms pb pr o r false L ps) (hr0:0≤r) (hr1:r < 4096) (hs:0≤page→page < 65536→Small L page r) :
 Calls Tryz.prog 177 #[ptr tb,.int .i64 page] w fun e w'=>e=.returned (.tuple #[.int .i64 (queryN L r page).1,.int .i64 (queryN L r page).2.1,.int .i64 (queryN L r page).2.2])∧Only [mb,ms] w w'∧IsT w' tb mb ms pb pr o r false L ps:=by
 have HS:=hid (state_any h);have HT:=hid h;unfold queryN;by_cases h1:page < 0
 ·rw [if_pos (.inl h1)];clear h hs;go_enter Tryz.func177,Tryz.ntmps177;go_wp2_with fail;refine HS.out.mono ?_;rintro e w1 ⟨rfl,rfl⟩;go_wp2_with fail;go_ret3;exact ⟨rfl,Only.refl _ _,HT.out⟩
 ·by_cases h2:65536≤page
  ·rw [if_pos (.inr h2)];clear h hs;go_enter Tryz.func177,Tryz.ntmps177;go_wp2_with fail;refine HS.out.mono ?_;rintro e w1 ⟨rfl,rfl⟩;go_wp2_with fail;go_ret3;exact ⟨rfl,Only.refl _ _,HT.out⟩
  ·rw [if_neg (by omega)];have HE:=hid (end_any (page:=page) h (by omega) (by omega) hr0 hr1);have hs:=hs (by omega) (by omega);unfold Small at hs;unfold pageE;obtain ⟨f,lv,wd,hxe⟩:∃ a b c,endN L page 3 r=⟨a,b,c⟩:=⟨_,_,_,rfl⟩;rw [hxe] at HE hs ⊢;dsimp only at HE hs ⊢;obtain ⟨pr',ri,la,fr,hen⟩:∃ a b c d,entN L wd=⟨a,b,c,d⟩:=⟨_,_,_,_,rfl⟩;rw [hen] at HE hs ⊢;dsimp only at hs ⊢;have hlt:=h.lt;cases pr'
   ·rw [if_neg (by simp)];rw [pe_out,pl_out] at HE;dsimp only at HE;clear h hs hxe hen;go_enter Tryz.func177,Tryz.ntmps177;go_wp2_with fail;refine HS.out.mono ?_;rintro e w1 ⟨rfl,rfl⟩;go_wp2_with fail;refine HE.out.mono ?_;rintro e w1 ⟨rfl,ho,ht⟩;have HO:=hid ho;have HT:=hid ht;clear ho ht;go_wp2_with fail;go_ret3;exact ⟨rfl,only_two HO.out _ _,HT.out.quiet (only_two (Only.refl [] w1) _ _)⟩
   ·rw [if_pos rfl];have hl:=(hs rfl).1;subst hl;have HFR:=hid (fun W=>nframe_any W page ⟨f,0,wd⟩ ⟨true,ri,la,fr⟩ (show (0:Int)≠1 by decide));rw [pe_out,pl_out] at HE HFR;dsimp only at HE HFR;clear h hs hxe hen;go_enter Tryz.func177,Tryz.ntmps177;go_wp2_with fail;refine HS.out.mono ?_;rintro e w1 ⟨rfl,rfl⟩;go_wp2_with fail;refine HE.out.mono ?_;rintro e w1 ⟨rfl,ho,ht⟩;have HO:=hid (only_two ho (.cells #[.int .i64 f,.int .i64 0,.int .i64 wd] 256) (.cells #[.bool true,.int .i64 ri,.bool la,.int .i64 fr] 172));have q:=only_two (Only.refl [] w1) (.cells #[.int .i64 f,.int .i64 0,.int .i64 wd] 256) (.cells #[.bool true,.int .i64 ri,.bool la,.int .i64 fr] 172);have HT:=hid (ht.quiet q);have HX:=hid ((Blk.new w1 256 #[.int .i64 f,.int .i64 0,.int .i64 wd]).alloc (.cells #[.bool true,.int .i64 ri,.bool la,.int .i64 fr] 172));have HY:=hid (Blk.new' (w1.alloc (.cells #[.int .i64 f,.int .i64 0,.int .i64 wd] 256)) 172 #[.bool true,.int .i64 ri,.bool la,.int .i64 fr] (g:=w1.heap.size+1) (by simp));obtain ⟨W,hW⟩:∃ W,(w1.alloc (.cells #[.int .i64 f,.int .i64 0,.int .i64 wd] 256)).alloc (.cells #[.bool true,.int .i64 ri,.bool la,.int .i64 fr] 172)=W:=⟨_,rfl⟩;rw [hW] at HO HT HX HY;obtain ⟨xb,hxb⟩:∃ xb,w1.heap.size=xb:=⟨_,rfl⟩;rw [hxb] at HX HY;have y0:=HY.out.at 0 (v:=.bool true) rfl;clear ho ht q;go_upto_region 9 with fail
    try rw [hW]
    have HF:=hid (show ∀ wx,Only [] W wx→(wx.cell? ⟨xb,0,none⟩=some (.int .i64 f)∧wx.cell? ⟨xb,1,none⟩=some (.int .i64 0)∧wx.cell? ⟨xb,2,none⟩=some (.int .i64 wd))∧wx.cell? ⟨xb+1,0,none⟩=some (.bool true)∧wx.cell? ⟨xb+1,1,none⟩=some (.int .i64 ri)∧wx.cell? ⟨xb+1,2,none⟩=some (.bool la)∧wx.cell? ⟨xb+1,3,none⟩=some (.int .i64 fr) from fun wx hx=>
     ⟨⟨(HX.out.only hx (by simp)).at 0 rfl,(HX.out.only hx (by simp)).at 1 rfl,(HX.out.only hx (by simp)).at 2 rfl⟩,(HY.out.only hx (by simp)).at 0 rfl,(HY.out.only hx (by simp)).at 1 rfl,(HY.out.only hx (by simp)).at 2 rfl,(HY.out.only hx (by simp)).at 3 rfl⟩)
    clear hW hxb;refine wp_region_quiet_tail 8 (by kernel_rfl) (by kernel_rfl) (fun w'=>Only [] W w') ((Only.refl _ _).drew) ?_;simp only [List.take_succ_cons,List.take_zero,List.drop_succ_cons,List.drop_zero]
    repeat
     (refine qstep rfl ?_
      apply Exists.intro;refine ⟨fun w' hw'=>?_,?_⟩
      ·obtain ⟨p0,p1,p2,p3,p4⟩:=HF.out w' hw';go_simp
       first
        | with_reducible rfl
        | exact quiet_val
        | (first
         | exact (HFR.out w').mono fun e w'' ⟨he,ho⟩=>⟨he,hw'.trans ho⟩)
        | (apply quiet_call
           first
            | exact (HFR.out w').mono fun e w'' ⟨he,ho⟩=>⟨he,hw'.trans ho⟩)
      go_simp)
    refine wpQuiet_nil ?_;intro wf hwf;have HO:=hid (HO.out.trans (hwf.sub (by simp)));have HT:=hid (HT.out.quiet hwf);clear hwf;go_wp2_with fail;go_ret3;exact ⟨rfl,HO.out,HT.out⟩
theorem nsplit_any (h:IsT w tb mb ms pb pr o r false L ps) (hp0:0≤page) (hp1:page < 65536) (hr0:0≤r) (hr1:r < 4096) (hl:(endN L page 3 r).l=0) :
 Calls Tryz.prog 178 #[ptr tb,.int .i64 page] w fun e w'=>e=.returned (.int .i64 0)∧Only [mb,ms] w w'∧IsT w' tb mb ms pb pr o r false L ps:=by
 have HE:=hid (end_any (page:=page) h hp0 hp1 hr0 hr1);obtain ⟨f,lv,wd,hxe⟩:∃ a b c,endN L page 3 r=⟨a,b,c⟩:=⟨_,_,_,rfl⟩;rw [hxe] at HE hl;dsimp only at HE hl;subst hl;obtain ⟨pr',ri,la,fr,hen⟩:∃ a b c d,entN L wd=⟨a,b,c,d⟩:=⟨_,_,_,_,rfl⟩;rw [hen,pe_out,pl_out] at HE;dsimp only at HE;clear h hxe hen;go_enter Tryz.func178,Tryz.ntmps178;go_wp2_with fail;refine HE.out.mono ?_;rintro e w1 ⟨rfl,ho,ht⟩;have HO:=hid ho;have HT:=hid ht;clear ho ht;go_wp2_with fail;go_ret;exact ⟨rfl,only_two HO.out _ _,HT.out.quiet (only_two (Only.refl [] w1) _ _)⟩
end
theorem ent_right (L:List Int) (i:Int):(entN L i).right=true:=by
 unfold entN parseE;split
 ·rename_i h;exact (of_decide_eq_true h).2.2
 ·decide
section
variable {w:World} {tb mb ms pb pr:Nat} {page o r:Int} {L:List Int} {ps:List D}
theorem nprot_any (h:IsT w tb mb ms pb pr o r false L ps) (hr0:0≤r) (hr1:r < 4096) (ri:Int) (hs:0≤page→page < 65536→Small L page r) :
 Calls Tryz.prog 142 #[ptr tb,.int .i64 page,.int .i64 ri] w fun e w'=>e=.returned (.int .i64 (protN L r page ri).2)∧Only [mb,ms] w w'∧IsT w' tb mb ms pb pr o r false (protN L r page ri).1 ps:=by
 have HS:=hid (state_any h);have HRI:=hid (nright_any w page 0 ri);have HT:=hid h;unfold protN;by_cases hrc:rightN page 0 ri=0
 ·rw [if_pos hrc];have hk:=right_ok hrc;rw [hrc] at HRI;have HE:=hid (end_any (page:=page) h hk.1 hk.2.1 hr0 hr1);have hs:=hs hk.1 hk.2.1;have HE2:=hid (fun W (hW:IsT W tb mb ms pb pr o r false L ps)=>end_any (page:=page) hW hk.1 hk.2.1 hr0 hr1);unfold Small at hs;unfold pageE;obtain ⟨f,lv,wd,hxe⟩:∃ a b c,endN L page 3 r=⟨a,b,c⟩:=⟨_,_,_,rfl⟩;have her:=ent_right L wd;rw [hxe] at HE HE2 hs ⊢;dsimp only at HE HE2 hs ⊢;obtain ⟨pr',rj,la,fr,hen⟩:∃ a b c d,entN L wd=⟨a,b,c,d⟩:=⟨_,_,_,_,rfl⟩;rw [hen] at HE HE2 hs her ⊢;dsimp only at hs ⊢;have hlt:=h.lt;cases pr'
  ·rw [if_neg (by simp)];rw [pe_out,pl_out] at HE;dsimp only at HE;clear h hs hxe hen hrc hk HE2 her;go_enter Tryz.func142,Tryz.ntmps142;go_wp2_with fail;refine HS.out.mono ?_;rintro e w1 ⟨rfl,rfl⟩;go_wp2_with fail;refine HRI.out.mono ?_;rintro e w1 ⟨rfl,rfl⟩;go_wp2_with fail;refine HE.out.mono ?_;rintro e w1 ⟨rfl,ho,ht⟩;have HO:=hid ho;have HT:=hid ht;clear ho ht;go_wp2_with fail;go_ret;exact ⟨rfl,only_two HO.out _ _,HT.out.quiet (only_two (Only.refl [] w1) _ _)⟩
  ·rw [if_pos rfl];obtain ⟨hl,hla⟩:=hs rfl;subst hl hla;have hfr:=pe_range her;have HR:=hid (leaf_right hfr.2.2.1 hfr.2.2.2 hk.2.2.2.2.1 hk.2.2.2.2.2);have HLY:=hid (fun W (hW:IsT W tb mb ms pb pr o r false L ps)=>nlay_any wd (leafE fr ri) HR.out hW);have HFR:=hid (fun W=>nframe_any W page ⟨f,0,wd⟩ ⟨true,rj,false,fr⟩ (show (0:Int)≠1 by decide));have HSP:=hid (fun W (hW:IsT W tb mb ms pb pr o r false L ps)=>nsplit_any (page:=page) hW hk.1 hk.2.1 hr0 hr1 (by rw [hxe]));rw [show (leafE fr ri).val=.agg #[.bool true,.int .i64 ri,.bool false,.int .i64 fr] from rfl] at HLY;rw [pe_out,pl_out] at HE HE2 HFR;dsimp only at HE HE2 HFR;rw [show (⟨true,ri,false,fr⟩:PE)=leafE fr ri from rfl];clear h hs hxe hen hrc her hfr;go_enter Tryz.func142,Tryz.ntmps142;go_wp2_with fail;refine HS.out.mono ?_;rintro e w1 ⟨rfl,rfl⟩;go_wp2_with fail;refine HRI.out.mono ?_;rintro e w1 ⟨rfl,rfl⟩;go_wp2_with fail;refine HE.out.mono ?_;rintro e w1 ⟨rfl,ho,ht⟩;have HO:=hid (only_two ho (.cells #[.int .i64 f,.int .i64 0,.int .i64 wd] 256) (.cells #[.bool true,.int .i64 rj,.bool false,.int .i64 fr] 172));have q:=only_two (Only.refl [] w1) (.cells #[.int .i64 f,.int .i64 0,.int .i64 wd] 256) (.cells #[.bool true,.int .i64 rj,.bool false,.int .i64 fr] 172);have HT:=hid (ht.quiet q);have HX:=hid ((Blk.new w1 256 #[.int .i64 f,.int .i64 0,.int .i64 wd]).alloc (.cells #[.bool true,.int .i64 rj,.bool false,.int .i64 fr] 172));have HY:=hid (Blk.new' (w1.alloc (.cells #[.int .i64 f,.int .i64 0,.int .i64 wd] 256)) 172 #[.bool true,.int .i64 rj,.bool false,.int .i64 fr] (g:=w1.heap.size+1) (by simp));obtain ⟨W,hW⟩:∃ W,(w1.alloc (.cells #[.int .i64 f,.int .i64 0,.int .i64 wd] 256)).alloc (.cells #[.bool true,.int .i64 rj,.bool false,.int .i64 fr] 172)=W:=⟨_,rfl⟩;rw [hW] at HO HT HX HY;obtain ⟨xb,hxb⟩:∃ xb,w1.heap.size=xb:=⟨_,rfl⟩;rw [hxb] at HX HY;have hz:=ho.size;rw [hxb] at hz;have y0:=HY.out.at 0 (v:=.bool true) rfl;have y1:=HY.out.at 1 (v:=.int .i64 rj) rfl;have y2:=HY.out.at 2 (v:=.bool false) rfl;have y3:=HY.out.at 3 (v:=.int .i64 fr) rfl;have x0:=HX.out.at 0 (v:=.int .i64 f) rfl;have x1:=HX.out.at 1 (v:=.int .i64 0) rfl;have x2:=HX.out.at 2 (v:=.int .i64 wd) rfl;clear ho ht q;go_wp2_with fail;refine (HFR.out _).mono ?_;rintro e w2 ⟨rfl,ho⟩;have HO:=hid (HO.out.trans (ho.sub (by simp)));have HT:=hid (HT.out.quiet ho);have HX:=hid (HX.out.only ho (by simp));clear ho y0 y1 y2 y3 x0 x1 x2 hW hxb;go_wp2_with fail;refine (HSP.out _ HT.out).mono ?_;rintro e w3 ⟨rfl,ho,ht⟩;have HO:=hid (HO.out.trans ho);have HT:=hid ht;have HX:=hid (HX.out.only ho (by simp; omega));clear ho ht;go_wp2_with fail;refine (HE2.out _ HT.out).mono ?_;rintro e w4 ⟨rfl,ho,ht⟩;have HO:=hid (HO.out.trans ho);have HT:=hid ht;have HX:=hid (HX.out.only ho (by simp; omega));have x0:=HX.out.at 0 (v:=.int .i64 f) rfl;have x1:=HX.out.at 1 (v:=.int .i64 0) rfl;have x2:=HX.out.at 2 (v:=.int .i64 wd) rfl;have g0:=HX.out.frozen 0;have g1:=HX.out.frozen 1;have g2:=HX.out.frozen 2;have HX2:=hid (set3 HX.out (.int .i64 f) (.int .i64 0) (.int .i64 wd));have q3:=(((Only.refl [xb] w4).setCell (p:=⟨xb,0,none⟩) (by simp) (.int .i64 f)).setCell (p:=⟨xb,1,none⟩) (by simp) (.int .i64 0)).setCell (p:=⟨xb,2,none⟩) (by simp) (.int .i64 wd);have HT2:=hid (HT.out.only q3 (by simp; omega) (by simp; omega) (by simp; omega) (by simp; omega) (by simp; omega))
   have HO2:=hid (HO.out.then q3 (fun x hx=>.inr (by have:x=xb:=by simpa using hx
                                                     omega)))
   have x2':=HX2.out.at 2 (v:=.int .i64 wd) rfl;clear ho ht q3;go_wp2_with fail;refine (HLY.out _ HT2.out).mono ?_;rintro e w5 ⟨rfl,ho,ht⟩;have HO:=hid (HO2.out.trans ho);have HT:=hid ht;clear ho ht x0 x1 x2 x2' g0 g1 g2;go_wp2_with fail;go_ret;exact ⟨rfl,HO.out,HT.out⟩
 ·rw [if_neg hrc];obtain ⟨rc,hc⟩:∃ rc,rightN page 0 ri=rc:=⟨_,rfl⟩;rw [hc] at HRI hrc ⊢;have hb:(rc != 0)=true:=by simp [hrc]
  clear hrc hc h;go_enter Tryz.func142,Tryz.ntmps142;go_wp2_with fail;refine HS.out.mono ?_;rintro e w1 ⟨rfl,rfl⟩;go_wp2_with fail;refine HRI.out.mono ?_;rintro e w1 ⟨rfl,rfl⟩;go_wp2_with fail;go_ret;exact ⟨rfl,Only.refl _ _,HT.out⟩
end
end Go.Proofs.YtadgpnoealegiaaGreat
