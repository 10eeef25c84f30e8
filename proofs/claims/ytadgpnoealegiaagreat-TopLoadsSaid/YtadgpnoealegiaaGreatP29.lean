import Derived.Test.YtadgpnoealegiaaGreatP28
namespace Go.Proofs.YtadgpnoealegiaaGreat
open Go.RowKit
open Go.Lib (hid)
set_option maxRecDepth 100000
set_option maxHeartbeats 20000000
def Pls (w:World) (g:Nat) (xs:List Pl):Prop:=∃ cur,Blk w g 256 cur∧∀ m x,xs[m]?=some x→cur[m * 3]?=some (.int .i64 x.f)∧cur[m * 3+1]?=some (.int .i64 x.l)∧cur[m * 3+2]?=some (.int .i64 x.w)
theorem Pls.only {S:List Nat} {w w':World} {g:Nat} {xs:List Pl} (h:Pls w g xs) (o:Only S w w') (hg:g ∉ S):Pls w' g xs:=by
 obtain ⟨cur,hb,hc⟩:=h;exact ⟨cur,hb.only o hg,hc⟩
theorem Pls.cell {w:World} {g:Nat} {xs:List Pl} (h:Pls w g xs) {m:Nat} {x:Pl} (hm:xs[m]?=some x):w.cell? ⟨g,m * 3,none⟩=some (.int .i64 x.f)∧w.cell? ⟨g,m * 3+2,none⟩=some (.int .i64 x.w):=by
 obtain ⟨cur,hb,hc⟩:=h;obtain ⟨h1,_,h3⟩:=hc m x hm;exact ⟨hb.at _ h1,hb.at _ h3⟩
theorem Pls.row {w:World} {base g n cap:Nat} {xs:List Pl} (h:w.ownsRow base 256 3 (.slice (some ⟨g,0,none⟩) n cap) n (xs.flatMap encP)) (hn:xs.length=n) (h1:1≤n):Pls w g xs∧base≤g:=by
 obtain ⟨g',cap',cur,e1,hb0,hb,hc⟩:=row_cells h (by omega);simp only [Value.slice.injEq,Option.some.injEq,Addr.mk.injEq] at e1;obtain ⟨⟨rfl,_⟩,_⟩:=e1;refine ⟨⟨cur,hb,fun m x hm=>?_⟩,hb0⟩;have hlt:=(List.getElem?_eq_some_iff.1 hm).1;have h4:∀ i,i < 3→∀ v,(encP x)[i]?=some v→cur[m * 3+i]?=some v:=fun i hi v hv=>by
  have e1:=hc (m * 3+i) (by omega);have e2:=recs_get encP_len xs hm i hi;rw [e1,← hv,← e2];simp [recs]
 exact ⟨h4 0 (by decide) _ rfl,h4 1 (by decide) _ rfl,h4 2 (by decide) _ rfl⟩
theorem cut_ld {L:List Int} {f:Int} (h0:0≤f) (h1:16 * f+16≤L.length):(cutL L (16 * f) 16).length=16∧∀ k:Nat,k < 16→nth (cutL L (16 * f) 16) k=ld L (16 * f+k):=by
 unfold cutL;rw [if_pos (by omega)];refine ⟨by simp; omega,fun k hk=>?_⟩;unfold nth ld hasN;rw [if_pos (by simp; omega)];unfold nth;rw [List.getD_eq_getElem?_getD,List.getD_eq_getElem?_getD,List.getElem?_take_of_lt (by simpa using hk),List.getElem?_drop,show (16 * f).toNat+k=(16 * f+(k:Int)).toNat by omega]
theorem news16 {w w':World} {v:Value} {L:List Int} (h:NewWords w w' v L) (hl:L.length=16):∃ g,w.heap.size≤g∧v=.slice (some ⟨g,0,none⟩) 16 16∧Blk w' g 28 (cellsOf L):=by
 rcases h with ⟨rfl,_⟩ | ⟨_,g,h1,h2,h3⟩
 ·cases hl
 ·rw [hl] at h2;exact ⟨g,h1,h2,h3⟩
theorem thin_two {L:List Int} {ps:List D} {xs:List Pl} {j:Nat} {x y:Pl} (hx:xs[j+1]?=some x) (hy:xs[j]?=some y) :
 thinR L ps (xs.take (j+1+1)).reverse=if zeroF L x.f 16=true then thinR (st L y.w 0) (turnN ps x.f 5 0).1 (xs.take (j+1)).reverse else (L,ps):=by
 have h1:=(List.getElem?_eq_some_iff.1 hx).1;have e1:xs.take (j+1+1)=xs.take (j+1) ++ [x]:=by rw [List.take_add_one,hx]; rfl
 have e2:xs.take (j+1)=xs.take j ++ [y]:=by rw [List.take_add_one,hy]; rfl
 rw [e1,e2,List.reverse_append,List.reverse_append];simp only [List.reverse_cons,List.reverse_nil,List.nil_append,List.cons_append];rw [thinR]
theorem thin_one {L:List Int} {ps:List D} {xs:List Pl}:thinR L ps (xs.take 1).reverse=(L,ps):=by
 cases xs with
 | nil=>rfl
 | cons x xs=>rfl
def ThinAt (w:World) (tb mb ms pb pr g:Nat) (o r:Int) (n:Nat) (xs:List Pl) (V:List Int×List D) (len:Nat) (j:Nat) (wr:World):Prop:=
 ∃ (Lc:List Int) (psc:List D),j < n∧Pls wr g xs∧IsT wr tb mb ms pb pr o r false Lc psc∧Only [mb,ms,pr] w wr∧thinR Lc psc (xs.take (j+1)).reverse=V∧Lc.length=len
section
variable {w:World} {tb mb ms pb pr:Nat} {page o r:Int} {L:List Int} {ps:List D}
theorem nthin_any (h:IsT w tb mb ms pb pr o r false L ps) (xs:List Pl) (g n cap:Nat) (hn:xs.length=n) (hn1:1≤n) (hn4:n≤4) (hp:Pls w g xs) (hg:g≠mb∧g≠ms∧g≠pr) (hx:∀ x ∈ xs,0≤x.f∧16 * x.f+16≤L.length) :
 Calls Tryz.prog 181 #[ptr tb,.slice (some ⟨g,0,none⟩) n cap] w fun e w'=>e=.returned (.tuple #[])∧Only [mb,ms,pr] w w'∧IsT w' tb mb ms pb pr o r false (thinR L ps xs.reverse).1 (thinR L ps xs.reverse).2:=by
 obtain ⟨V,hV⟩:∃ V,thinR L ps xs.reverse=V:=⟨_,rfl⟩;obtain ⟨len,hlen⟩:∃ len,L.length=len:=⟨_,rfl⟩;have hml:=h.mem.len.2;have H0:=hid (show ThinAt w tb mb ms pb pr g o r n xs V len (n - 1) w from ⟨L,ps,by omega,hp,h,Only.refl _ _,by rw [show n - 1+1=n by omega,List.take_of_length_le (by omega)]; exact hV,hlen⟩);rw [hlen] at hx hml;rw [hV];have HXR:=hid hx;have HN:=hid hn;have e0:IntKind.i64.wrap ((n:Int) - 1)=((n - 1:Nat):Int):=by rw [IntKind.wrap_i64]; omega
 clear h hp hV hx hn hlen;go_enter Tryz.func181,Tryz.ntmps181;go_wp2_with fail;go_loopg [4] n (fun k i wr=>∃ j:Nat,j < k∧i=.int .i64 j∧ThinAt w tb mb ms pb pr g o r n xs V len j wr)
 case atStart=>exact ⟨n - 1,by omega,by first | rfl | (congr 1; omega),H0.out⟩
 case round=>
  obtain ⟨g0,hg0⟩:∃ g0,g0=gk:=⟨_,rfl⟩;subst hg0;obtain ⟨j,hjk,rfl,Lc,psc,hj,hp,ht,ho,hv,hlc⟩:=hrel;have HP:=hid hp;have HT:=hid ht;have HO:=hid ho;have HV:=hid hv;have HLC:=hid hlc;clear hp ht ho hv hlc H0 e0;cases j with
  | zero=>
   go_wp2_with fail;go_end0;have e:=HV.out;rw [thin_one] at e;subst e;exact ⟨rfl,HO.out,HT.out⟩
  | succ j=>
   obtain ⟨x,hx⟩:∃ x,xs[j+1]?=some x:=⟨xs[j+1]'(by rw [HN.out]; exact hj),by simp [HN.out,hj]⟩;obtain ⟨y,hy⟩:∃ y,xs[j]?=some y:=⟨xs[j]'(by rw [HN.out]; omega),by simp [HN.out,show j < n by omega]⟩;have hxr:=HXR.out x (List.mem_of_getElem? hx);obtain ⟨x0,x2⟩:=HP.out.cell hx;obtain ⟨y0,y2⟩:=HP.out.cell hy;have hv:=HV.out;rw [thin_two hx hy] at hv;have HV2:=hid hv;obtain ⟨fx,hfx⟩:∃ fx,x.f=fx:=⟨_,rfl⟩;obtain ⟨wy,hwy⟩:∃ wy,y.w=wy:=⟨_,rfl⟩;rw [hfx] at x0 hxr HV2;rw [hwy] at y2 HV2;have c0:=HT.out.c0;have HPX:=hid (And.intro hx hfx);have HPY:=hid (And.intro hy hwy);have i0:(0:Int)≤((j+1:Nat):Int):=by omega
   have i1:((j+1:Nat):Int) < n:=by omega
   have i2:(0:Int)≤(j:Int)+1:=by omega
   have i3:(j:Int)+1 < n:=by omega
   have ew:IntKind.i64.wrap (16 * fx)=16 * fx:=by rw [IntKind.wrap_i64]; omega
   have HC:=hid (cut_ld (L:=Lc) hxr.1 (by rw [HLC.out]; exact hxr.2));have HW:=hid (fun W (hW:IsM W mb ms Lc)=>show Calls Tryz.prog 210 #[ptr mb,.int .i64 (16 * fx),.int .i64 16] W _ from by
    obtain ⟨⟨c,l,hm⟩,_⟩:=hW;exact words_any W mb ms Lc c l (16 * fx) 16 hm)
   have HF:=hid (show ∀ wx,Only [] wr wx→wx.cell? ⟨tb,0,none⟩=some (ptr mb)∧wx.cell? ⟨g,(j+1) * 3,none⟩=some (.int .i64 fx) from fun wx hxx=>⟨(HT.out.quiet hxx).c0,by rw [← HPX.out.2]; exact ((HP.out.only hxx (by simp)).cell HPX.out.1).1⟩);clear hx hy hfx hwy hv HV y0;go_upto_region 3 with fail;go_region_held3 (fun w'=>w'.cell? ⟨tb,0,none⟩=some (ptr mb)∧w'.cell? ⟨g,(j+1) * 3,none⟩=some (.int .i64 fx))
    (first | exact ⟨c0,x0⟩ | exact HF.out _ HO2.out)
    (first
     | (go_at_call 210
        refine (HW.out _ (HT.out.quiet ((Only.refl [] wr).drew)).mem).mono ?_;rintro e w2 ⟨v,rfl,ho,hnw⟩;have HO2:=hid (((Only.refl [] wr).drew).trans ho);obtain ⟨g2,hg2,rfl,hb2⟩:=news16 hnw HC.out.1;have HB2:=hid hb2;clear ho hnw hb2 hg2))
   have HT:=hid (HT.out.quiet HO2.out);have HP:=hid (HP.out.only HO2.out (by simp));have HO:=hid (HO.out.trans (HO2.out.sub (show [] ⊆ [mb,ms,pr] by simp)));clear c0 x0 x2 y2 HF HW;go_wp2_with fail;go_loopg [26,6] 16 (fun k2 i _ wr2=>wr2=w2∧∃ m:Nat,m+k2=16∧i=.int .i64 m∧∀ q:Nat,q < m→ld Lc (16 * fx+q)=0)
   case atStart=>exact ⟨rfl,0,rfl,rfl,fun q hq=>absurd hq (by omega)⟩
   case round=>
    obtain ⟨rfl,m,hmk,rfl,hz⟩:=hrel;have HZ:=hid hz;clear hz;by_cases hm16:m < 16
    ·have hm0:(0:Int)≤(m:Int):=by omega
     have hm1:(m:Int) < 16:=by omega
     obtain ⟨v,hv⟩:∃ v,ld Lc (16 * fx+m)=v:=⟨_,rfl⟩;have d0:=HB2.out.at m (v:=.int .u64 v) (by
      have h1:=HC.out.2 m hm16;rw [hv] at h1;unfold nth at h1;rw [List.getD_eq_getElem?_getD,List.getElem?_eq_getElem (by rw [HC.out.1]; exact hm16)] at h1;simp only [Option.getD_some] at h1;simp [cellsOf,HC.out.1,hm16,h1])
     have HVV:=hid hv;clear hv;by_cases hv0:v=0
     ·subst hv0;go_wp2_with fail;go_roundg (gk - 1)
      case measure=>omega
      case rel=>exact ⟨rfl,m+1,by omega,by go_num,fun q hq=>by
       by_cases e:q=m
       ·rw [e]; exact HVV.out
       ·exact HZ.out q (by omega)⟩
     ·have hvb:(v != 0)=true:=by simp [hv0]
      have HV0:=hid hv0;clear hv0;go_wp2_with fail;refine bodyPost_ret (results_none rfl _ _ _) rfl ?_;have e:=HV2.out;rw [if_neg (fun hc=>HV0.out (by rw [← HVV.out]; exact zeroF_iff.1 hc m hm16))] at e;subst e;exact ⟨rfl,HO.out,HT.out⟩
    ·have hm1:¬ (m:Int) < 16:=by omega
     have hv:=HV2.out;rw [if_pos (zeroF_iff.2 fun q hq=>HZ.out q (by omega))] at hv;have HV3:=hid hv;have c0:=HT.out.c0;have y2:=(HP.out.cell HPY.out.1).2;rw [HPY.out.2] at y2;have ej:IntKind.i64.wrap ((j:Int)+1 - 1)=j:=by rw [IntKind.wrap_i64]; omega
     have ej2:IntKind.i64.wrap (j:Int)=j:=by rw [IntKind.wrap_i64]; omega
     have j0:(0:Int)≤(j:Int):=by omega
     have j1:(j:Int) < n:=by omega
     have HF:=hid (show ∀ wx,Only [] wr wx→wx.cell? ⟨tb,0,none⟩=some (ptr mb)∧wx.cell? ⟨g,j * 3+2,none⟩=some (.int .i64 wy) from fun wx hxx=>⟨(HT.out.quiet hxx).c0,by rw [← HPY.out.2]; exact ((HP.out.only hxx (by simp)).cell HPY.out.1).2⟩);have HSS:=hid (fun W (hW:IsM W mb ms Lc)=>sto_any hW wy 0 (by decide) (by decide));clear hv HV2;go_wp2_with fail;go_region_held3 (fun w'=>w'.cell? ⟨tb,0,none⟩=some (ptr mb)∧w'.cell? ⟨g,j * 3+2,none⟩=some (.int .i64 wy))
      (first | exact ⟨c0,y2⟩ | exact HF5.out)
      (first
       | (go_at_call 49
          refine (HSS.out _ (HT.out.quiet ((Only.refl [] wr).drew)).mem).mono ?_;rintro e w5 ⟨rfl,ho,hm⟩;have HT5:=hid ((HT.out.quiet ((Only.refl [] wr).drew)).words ho hm);have HP5:=hid ((HP.out.only ((Only.refl [] wr).drew) (by simp)).only ho (by simp; omega));have HO5:=hid ((HO.out.trans ((Only.refl [] wr).drew.sub (by simp))).trans (ho.sub (by simp)));have HF5:=hid (show w5.cell? ⟨tb,0,none⟩=some (ptr mb)∧w5.cell? ⟨g,j * 3+2,none⟩=some (.int .i64 wy) from ⟨HT5.out.c0,by rw [← HPY.out.2]; exact (HP5.out.cell HPY.out.1).2⟩);clear ho hm))
     have c1:=HT5.out.c1;have x0:=(HP5.out.cell HPX.out.1).1;rw [HPX.out.2] at x0;have HTU:=hid (fun W (hW:IsPool W pb pr psc)=>turn_any fx 5 0 hW (.inr (.inr (.inr rfl))));clear c0 y2 HF HF5 HSS;go_wp2_with fail;go_region_held3 (fun w'=>w'.cell? ⟨tb,1,none⟩=some (ptr pb)∧w'.cell? ⟨g,(j+1) * 3,none⟩=some (.int .i64 fx))
      (first | exact ⟨c1,x0⟩ | exact HF7.out)
      (first
       | (go_at_call 124
          refine (HTU.out _ (HT5.out.quiet ((Only.refl [] w5).drew)).pool).mono ?_;rintro e w7 ⟨rfl,ho,hp⟩;have HT7:=hid ((HT5.out.quiet ((Only.refl [] w5).drew)).frames ho hp);have HP7:=hid ((HP5.out.only ((Only.refl [] w5).drew) (by simp)).only ho (by simp; omega));have HO7:=hid ((HO5.out.trans ((Only.refl [] w5).drew.sub (by simp))).trans (ho.sub (by simp)));have HF7:=hid (show w7.cell? ⟨tb,1,none⟩=some (ptr pb)∧w7.cell? ⟨g,(j+1) * 3,none⟩=some (.int .i64 fx) from ⟨HT7.out.c1,by rw [← HPX.out.2]; exact (HP7.out.cell HPX.out.1).1⟩);clear ho hp))
     clear c1 x0 HF7 HTU;go_wp2_with fail;go_roundg (g0 - 1)
     case measure=>omega
     case rel=>exact ⟨j,by omega,rfl,_,_,by omega,HP7.out,HT7.out,HO7.out,HV3.out,by rw [st_len]; exact HLC.out⟩
end
section
variable {w:World} {tb mb ms pb pr:Nat} {page o r:Int} {L:List Int} {ps:List D}
theorem nunmap_any (h:IsT w tb mb ms pb pr o r false L ps) (hr0:0≤r) (hr1:r < 4096) (hs:0≤page→page < 65536→Small L page r) (hx:∀ x ∈ wayN L page 3 r,0≤x.f∧16 * x.f+16≤L.length) :
 Calls Tryz.prog 140 #[ptr tb,.int .i64 page] w fun e w'=>(∃ a b,e=.returned (.tuple #[.int .i64 a,.int .i64 b]))∧Only [mb,ms,pr] w w'∧IsT w' tb mb ms pb pr o r false (unmapN L ps r page).1 (unmapN L ps r page).2:=by
 obtain ⟨R,hR⟩:∃ R,unmapN L ps r page=R:=⟨_,rfl⟩;rw [hR];have hQ:=nquery_any h hr0 hr1 hs;have hlt:=h.lt;unfold unmapN at hR;obtain ⟨q1,q2,q3,hq⟩:∃ a b c,queryN L r page=(a,b,c):=⟨_,_,_,rfl⟩;rw [hq] at hQ hR;dsimp only at hQ hR;have HQ:=hid hQ;by_cases hz:q3=0
 ·subst hz;rw [if_pos rfl] at hR;have hpr:0≤page∧page < 65536∧(endN L page 3 r).l=0:=by
   unfold queryN at hq;split at hq
   ·cases hq
   ·rename_i h1;split at hq
    ·rename_i h2;have:=hs (by omega) (by omega) h2;exact ⟨by omega,by omega,this.1⟩
    ·cases hq
  have HSP:=hid (fun W (hW:IsT W tb mb ms pb pr o r false L ps)=>nsplit_any (page:=page) hW hpr.1 hpr.2.1 hr0 hr1 hpr.2.2);have HG:=hid (fun W b1 b2 (hW:IsT W tb mb ms pb pr o r false L ps) h1 h2=>gatherW_any (b1:=b1) (b2:=b2) (page:=page) hW h1 h2 hpr.1 hpr.2.1 hr0 hr1);obtain ⟨m,hlen,hlast⟩:=way_end L page 3 r;have hm4:=way_len L page 3 r;obtain ⟨wd,hwd⟩:∃ wd,(endN L page 3 r).w=wd:=⟨_,rfl⟩;rw [hwd] at hR;obtain ⟨x,hxx⟩:∃ x,endN L page 3 r=x:=⟨_,rfl⟩;rw [hxx] at hlast hwd;obtain ⟨xs,hxs⟩:∃ xs,wayN L page 3 r=xs:=⟨_,rfl⟩;rw [hxs] at hlen hlast hm4 hx hR HG;have HX:=hid hx;have HR:=hid hR;have HW:=hid (And.intro hlast hwd);have HLEN:=hid hlen;rw [hlen] at hm4;clear h hQ hq hs hpr hxx hxs hx hR hlast hwd hlen;go_enter Tryz.func140,Tryz.ntmps140;go_wp2_with fail;refine HQ.out.mono ?_;rintro e w1 ⟨rfl,ho,ht⟩;have HO:=hid ho;have HT:=hid ht;clear ho ht;go_wp2_with fail;refine (HSP.out _ HT.out).mono ?_;rintro e w2 ⟨rfl,ho,ht⟩;have HO:=hid (HO.out.trans ho);have HT:=hid ht;clear ho ht;go_wp2_with fail;refine (nway_any _ _ _).mono ?_;rintro e w3 ⟨rfl,rfl⟩;obtain ⟨W,hW⟩:∃ W,(w2.alloc (.cells #[ptr tb] 186)).alloc (.cells #[.int .i64 page] 3)=W:=⟨_,rfl⟩;have hq3:Only [] w2 W:=by rw [← hW]; exact ((Only.refl [] w2).alloc _).alloc _
  have c1:W.cell? ⟨w2.heap.size,0,none⟩=some (ptr tb):=by rw [← hW]; exact ((Blk.new w2 _ _).alloc _).at 0 rfl
  have c2:W.cell? ⟨w2.heap.size+1,0,none⟩=some (.int .i64 page):=by rw [← hW]; exact (Blk.new' _ _ _ (by simp)).at 0 rfl
  rw [hW];have HGG:=hid (HG.out W _ _ (HT.out.quiet hq3) c1 c2);have HO:=hid (HO.out.trans (hq3.sub (by simp)));clear c1 c2 hW hq3;go_wp2_with fail;refine HGG.out.mono ?_;rintro e w4 ⟨v,rfl,ho,ht,hrow⟩;rw [HLEN.out] at hrow;obtain ⟨g,cap,rfl⟩:=ownsRow_succ hrow;obtain ⟨hp,hbg⟩:=Pls.row hrow HLEN.out (by omega);have hzz:=HO.out.size;have HO:=hid ((HO.out.trans ho).sub (show [mb,ms] ⊆ [mb,ms,pr] by simp));have HT:=hid ht;have HP:=hid hp;have hgg:g≠mb∧g≠ms∧g≠pr:=by omega
  have y2:=(hp.cell HW.out.1).2;rw [HW.out.2] at y2;have c0:=ht.c0;have ew:IntKind.i64.wrap (((m+1:Nat):Int) - 1)=m:=by rw [IntKind.wrap_i64]; omega
  have ew2:IntKind.i64.wrap ((m:Int)+1 - 1)=m:=by rw [IntKind.wrap_i64]; omega
  have ew3:IntKind.i64.wrap (m:Int)=m:=by rw [IntKind.wrap_i64]; omega
  have m0:(0:Int)≤(m:Int):=by omega
  have m1:(m:Int) < ((m+1:Nat):Int):=by omega
  have m2:(m:Int) < (m:Int)+1:=by omega
  have HSS:=hid (fun W (hW:IsM W mb ms L)=>sto_any hW wd 0 (by decide) (by decide));clear ho ht hrow hp hbg HGG hzz;go_upto_region 8 with fail;go_region_held3 (fun w'=>w'.cell? ⟨tb,0,none⟩=some (ptr mb)∧w'.cell? ⟨g,m * 3+2,none⟩=some (.int .i64 wd))
   (first | exact ⟨c0,y2⟩ | exact HF5.out)
   (first
    | (go_at_call 49
       refine (HSS.out _ (HT.out.quiet ((Only.refl [] w4).drew)).mem).mono ?_;rintro e w5 ⟨rfl,ho,hm⟩;have HT5:=hid ((HT.out.quiet ((Only.refl [] w4).drew)).words ho hm);have HP5:=hid ((HP.out.only ((Only.refl [] w4).drew) (by simp)).only ho (by simp; omega));have HO5:=hid ((HO.out.trans ((Only.refl [] w4).drew.sub (by simp))).trans (ho.sub (by simp)));have HF5:=hid (show w5.cell? ⟨tb,0,none⟩=some (ptr mb)∧w5.cell? ⟨g,m * 3+2,none⟩=some (.int .i64 wd) from ⟨HT5.out.c0,by rw [← HW.out.2]; exact (HP5.out.cell HW.out.1).2⟩);clear ho hm))
  have HTH:=hid (nthin_any HT5.out xs g (m+1) cap HLEN.out (by omega) (by omega) HP5.out hgg (by rw [st_len]; exact HX.out));clear c0 y2 HF5 HSS;go_wp2_with fail;refine HTH.out.mono ?_;rintro e w6 ⟨rfl,ho,ht⟩;have HO:=hid (HO5.out.trans ho);have HT:=hid ht;clear ho ht;go_wp2_with fail;go_ret2;rw [HR.out] at HT;exact ⟨⟨_,_,rfl⟩,HO.out,HT.out⟩
 ·rw [if_neg hz] at hR;have hb:(q3 != 0)=true:=by simp [hz]
  have HR:=hid hR;clear h hQ hq hs hx hz hR;go_enter Tryz.func140,Tryz.ntmps140;go_wp2_with fail;refine HQ.out.mono ?_;rintro e w1 ⟨rfl,ho,ht⟩;have HO:=hid (ho.sub (show [mb,ms] ⊆ [mb,ms,pr] by simp));have HT:=hid ht;clear ho ht;go_wp2_with fail;go_ret2;have e:=HR.out;subst e;exact ⟨⟨_,_,rfl⟩,HO.out,HT.out⟩
end
def NewT (w w':World) (mb ms pb pr:Nat) (o:Int) (L:List Int) (ps:List D) (e:Ending):Prop:=
 match freeN ps with
 | []=>e=.returned (.tuple #[.pointer none,.int .i64 12])∧IsM w' mb ms L∧IsPool w' pb pr ps
 | f :: _=>∃ tb,e=.returned (.tuple #[ptr tb,.int .i64 0])∧w.heap.size≤tb∧IsT w' tb mb ms pb pr o f false (zeros L f 16) (setP ps f ⟨3,o,0,0⟩)
theorem nnew_any {w:World} {mb ms pb pr:Nat} {o:Int} {L:List Int} {ps:List D} (hm:IsM w mb ms L) (hp:IsPool w pb pr ps) (hl:L.length=16 * ps.length) (ho1:1≤o) (ho2:o≤16) :
 Calls Tryz.prog 128 #[ptr mb,ptr pb,.int .i64 o] w fun e w'=>NewT w w' mb ms pb pr o L ps e∧Only [mb,ms,pr] w w':=by
 have HL:=hid (mlen_any hm);have HPL:=hid (plen_any hp);have hq:=(Only.refl [] w).alloc (.cells #[ptr mb,ptr pb,.int .i64 o,.int .i64 0,.bool false] 211);have HQ:=hid hq;have hT:IsT (w.alloc (.cells #[ptr mb,ptr pb,.int .i64 o,.int .i64 0,.bool false] 211)) w.heap.size mb ms pb pr o 0 false L ps:=⟨Blk.new w _ _,hm.only hq (by simp) (by simp),hp.only hq (by simp) (by simp)⟩;have HK:=hid (ntake_new hT ho1 ho2);have h1:=hp.len;have h2:=hp.max;have hlt:=hm.lt;have hlt2:=hp.lt;unfold NewT;unfold ntakeN at HK;have z1:((L.length:Int) == 0)=false:=by rw [beq_eq_false_iff_ne]; omega
 have z2:((ps.length:Int) == 0)=false:=by rw [beq_eq_false_iff_ne]; omega
 obtain ⟨nl,hnl⟩:∃ nl,L.length=nl:=⟨_,rfl⟩;obtain ⟨np,hnp⟩:∃ np,ps.length=np:=⟨_,rfl⟩;rw [hnl] at HL z1 hl;rw [hnp] at HPL z2 h1 h2 hl;have ew:IntKind.i64.wrap (16 * (np:Int))=16 * np:=by rw [IntKind.wrap_i64]; omega
 have z3:decide ((nl:Int) < 16 * (np:Int))=false:=by simp; omega
 cases hf:freeN ps with
 | nil=>
  rw [hf] at HK;dsimp only at HK ⊢;clear hm hp hl hnl hnp hT hq hf;go_enter Tryz.func128,Tryz.ntmps128;go_wp2_with (first
   | (go_at_call 122; refine HL.out.mono ?_; rintro e w' ⟨rfl,rfl⟩)
   | (go_at_call 70; refine HPL.out.mono ?_; rintro e w' ⟨rfl,rfl⟩))
  refine HK.out.mono ?_;rintro e w1 ⟨rfl,ho,ht⟩;have HO:=hid ((HQ.out.sub (show [] ⊆ [mb,ms,pr] by simp)).trans ho);have HT:=hid ht;clear ho ht;go_wp2_with fail;go_ret2;exact ⟨⟨rfl,HT.out.mem,HT.out.pool⟩,HO.out⟩
 | cons f l=>
  rw [hf] at HK;dsimp only at HK ⊢;clear hm hp hl hnl hnp hT hq hf;go_enter Tryz.func128,Tryz.ntmps128;go_wp2_with (first
   | (go_at_call 122; refine HL.out.mono ?_; rintro e w' ⟨rfl,rfl⟩)
   | (go_at_call 70; refine HPL.out.mono ?_; rintro e w' ⟨rfl,rfl⟩))
  refine HK.out.mono ?_;rintro e w1 ⟨rfl,ho,ht⟩;have HO:=hid ((HQ.out.sub (show [] ⊆ [mb,ms,pr] by simp)).trans ho);have HT:=hid ht;have c3:=ht.c3;have g3:=ht.obj.frozen 3;have hn:=ht.ne;clear ho ht;go_wp2_with fail;go_ret2;have q:=(Only.refl [w.heap.size] w1).setCell (p:=⟨w.heap.size,3,none⟩) (by simp) (.int .i64 f);refine ⟨⟨w.heap.size,rfl,Nat.le_refl _,?_,HT.out.mem.only q (by simp; omega) (by simp; omega),HT.out.pool.only q (by simp; omega) (by simp; omega)⟩,HO.out.setCell (p:=⟨w.heap.size,3,none⟩) (.inr (Nat.le_refl _)) _⟩;simpa using HT.out.obj.set 3 (.int .i64 f)
structure HvP where
 hb:Nat
 mb:Nat
 ms:Nat
 pb:Nat
 pr:Nat
 gb:Nat
 gr:Nat
 qb:Nat
 gB:Nat→Nat
 tB:Nat→Nat
 mR:Nat→Nat
def HvP.fp (a:HvP):List Nat:=[a.hb,a.mb,a.ms,a.pb,a.pr,a.gb,a.gr,a.qb] ++ (List.range 17).flatMap fun v=>[a.gB v,a.tB v,a.mR v]
def HvP.gp (a:HvP) (S:HS) (v:Nat):Value:=match S.g v with | some _=>ptr (a.gB v) | none=>.pointer none
def tkV (tk:Int→Option (Int×Int)):Int→Option Value:=fun k=>(tk k).map fun y=>.agg #[.int .i64 y.1,.int .i64 y.2]
structure IsHv (w:World) (a:HvP) (S:HS):Prop where
 obj:∃ cs,Blk w a.hb 87 cs∧cs.size=21∧cs[0]?=some (ptr a.mb)∧cs[1]?=some (ptr a.pb)∧cs[2]?=some (ptr a.gb)∧cs[3]?=some (ptr a.qb)∧∀ v,v < 17→cs[4+v]?=some (a.gp S v)
 mem:IsM w a.mb a.ms S.L
 pool:IsPool w a.pb a.pr S.ps
 gr:IsGrs w a.gb a.gr
 po:∃ P,IsPo w a.qb P
 gs:∀ v G,S.g v=some G→1≤v∧v≤16∧Blk w (a.gB v) 189 #[ptr (a.tB v),.map (some (a.mR v))]∧Blk w (a.tB v) 211 #[ptr a.mb,ptr a.pb,.int .i64 v,.int .i64 G.root,.bool false]∧IsMap w (a.mR v) (tkV G.tk)
 inj:∀ v v' G G',S.g v=some G→S.g v'=some G'→v≠v'→a.gB v≠a.gB v'∧a.tB v≠a.tB v'∧a.mR v≠a.mR v'
 lim:∀ x ∈ a.fp,x < w.heap.size
section
variable {w w':World} {a:HvP} {S:HS}
theorem fp_guest {v:Nat} (h:v < 17):a.gB v ∈ a.fp∧a.tB v ∈ a.fp∧a.mR v ∈ a.fp:=by
 have:∀ {y},y ∈ [a.gB v,a.tB v,a.mR v]→y ∈ a.fp:=fun {y} hy=>List.mem_append_right _ (List.mem_flatMap.2 ⟨v,List.mem_range.2 h,hy⟩);exact ⟨this (by simp),this (by simp),this (by simp)⟩
theorem IsHv.only {T:List Nat} (h:IsHv w a S) (o:Only T w w') (hT:∀ x ∈ T,x ∉ a.fp):IsHv w' a S:=by
 have hn:∀ {y},y ∈ a.fp→y ∉ T:=fun {y} hy ht=>hT y ht hy;have hh:∀ {y},y ∈ [a.hb,a.mb,a.ms,a.pb,a.pr,a.gb,a.gr,a.qb]→y ∉ T:=fun {y} hy=>hn (List.mem_append_left _ hy);obtain ⟨cs,h1,h2⟩:=h.obj;obtain ⟨gs,h3⟩:=h.gr;obtain ⟨P,h4⟩:=h.po;refine ⟨⟨cs,h1.only o (hh (by simp)),h2⟩,h.mem.only o (hh (by simp)) (hh (by simp)),h.pool.only o (hh (by simp)) (hh (by simp)),⟨gs,h3.only o (hh (by simp)) (hh (by simp))⟩,⟨P,h4.only o (hh (by simp))⟩,fun v G hg=>?_,h.inj,fun x hx=>Nat.lt_of_lt_of_le (h.lim x hx) o.size⟩;obtain ⟨v1,v2,q1,q2,q3⟩:=h.gs v G hg;obtain ⟨m1,m2,m3⟩:=fp_guest (a:=a) (show v < 17 by omega);exact ⟨v1,v2,q1.only o (hn m1),q2.only o (hn m2),q3.only o (hn m3)⟩
theorem IsHv.quiet (h:IsHv w a S) (o:Only [] w w'):IsHv w' a S:=h.only o (by simp)
theorem IsHv.lt (h:IsHv w a S):a.hb < w.heap.size∧a.mb < w.heap.size∧a.ms < w.heap.size∧a.pb < w.heap.size∧a.pr < w.heap.size∧a.gb < w.heap.size∧a.gr < w.heap.size∧a.qb < w.heap.size:=by
 obtain ⟨cs,h1,h2⟩:=h.obj;obtain ⟨gs,h3⟩:=h.gr;obtain ⟨P,h4⟩:=h.po;exact ⟨h1.lt,h.mem.lt.1,h.mem.lt.2,h.pool.lt.1,h.pool.lt.2,h3.lt.1,h3.lt.2,h4.lt⟩
theorem IsHv.c0 (h:IsHv w a S):w.cell? ⟨a.hb,0,none⟩=some (ptr a.mb):=by obtain ⟨cs,h1,_,h3,_⟩:=h.obj; exact h1.at 0 h3
theorem IsHv.c1 (h:IsHv w a S):w.cell? ⟨a.hb,1,none⟩=some (ptr a.pb):=by obtain ⟨cs,h1,_,_,h3,_⟩:=h.obj; exact h1.at 1 h3
theorem IsHv.c2 (h:IsHv w a S):w.cell? ⟨a.hb,2,none⟩=some (ptr a.gb):=by obtain ⟨cs,h1,_,_,_,h3,_⟩:=h.obj; exact h1.at 2 h3
theorem IsHv.c3 (h:IsHv w a S):w.cell? ⟨a.hb,3,none⟩=some (ptr a.qb):=by obtain ⟨cs,h1,_,_,_,_,h3,_⟩:=h.obj; exact h1.at 3 h3
theorem IsHv.cg (h:IsHv w a S) {v:Nat} (hv:v < 17):w.cell? ⟨a.hb,4+v,none⟩=some (a.gp S v):=by obtain ⟨cs,h1,_,_,_,_,_,h3⟩:=h.obj; exact h1.at _ (h3 v hv)
theorem gp_some {v:Nat} {G:GS} (h:S.g v=some G):a.gp S v=ptr (a.gB v):=by unfold HvP.gp; rw [h]
theorem gp_none {v:Nat} (h:S.g v=none):a.gp S v=.pointer none:=by unfold HvP.gp; rw [h]
theorem IsHv.tab (h:IsHv w a S) {v:Nat} {G:GS} (hg:S.g v=some G):IsT w (a.tB v) a.mb a.ms a.pb a.pr v G.root false S.L S.ps:=
 ⟨(h.gs v G hg).2.2.2.1,h.mem,h.pool⟩
theorem IsHv.apart (h:IsHv w a S):∀ y,(y=a.mb∨y=a.ms∨y=a.pr∨y=a.gr∨y=a.qb)→y≠a.hb∧(∀ v G,S.g v=some G→y≠a.gB v∧y≠a.tB v∧y≠a.mR v):=by
 obtain ⟨cs,h1,_⟩:=h.obj;obtain ⟨gs,h3⟩:=h.gr;obtain ⟨P,h4⟩:=h.po;obtain ⟨cs4,h4,_⟩:=h4.blk;obtain ⟨_,_,m1,m2⟩:=h.mem.blk;intro y hy;have:∃ t cs,Blk w y t cs∧t≠87∧t≠189∧t≠211:=by
  rcases hy with rfl | rfl | rfl | rfl | rfl
  ·exact ⟨_,_,m1,by decide,by decide,by decide⟩
  ·exact ⟨_,_,m2,by decide,by decide,by decide⟩
  ·exact ⟨_,_,h.pool.row,by decide,by decide,by decide⟩
  ·exact ⟨_,_,h3.row,by decide,by decide,by decide⟩
  ·exact ⟨_,_,h4,by decide,by decide,by decide⟩
 obtain ⟨t,cs,hb,t1,t2,t3⟩:=this;refine ⟨hb.ne h1 t1,fun v G hg=>?_⟩;obtain ⟨_,_,q1,q2,q3⟩:=h.gs v G hg;exact ⟨hb.ne q1 t2,hb.ne q2 t3,fun e=>q3.ne_blk hb e.symm⟩
theorem IsHv.tables (h:IsHv w a S) {L':List Int} {ps':List D} (o:Only [a.mb,a.ms,a.pr] w w') (hm:IsM w' a.mb a.ms L') (hp:IsPool w' a.pb a.pr ps'):IsHv w' a { S with L:=L',ps:=ps' }:=by
 have ap:∀ y ∈ [a.mb,a.ms,a.pr],y≠a.hb∧(∀ v G,S.g v=some G→y≠a.gB v∧y≠a.tB v∧y≠a.mR v):=fun y hy=>h.apart y (by simp at hy; omega);obtain ⟨cs,h1,h2⟩:=h.obj;obtain ⟨gs,h3⟩:=h.gr;obtain ⟨P,h4⟩:=h.po;obtain ⟨_,_,m1,m2⟩:=h.mem.blk;refine ⟨⟨cs,h1.only o (fun hy=>(ap _ hy).1 rfl),h2⟩,hm,hp,⟨gs,h3.only o ?_ ?_⟩,⟨P,h4.only o ?_⟩,fun v G hg=>?_,h.inj,fun x hx=>Nat.lt_of_lt_of_le (h.lim x hx) o.size⟩
 ·have e1:=h3.obj.ne m1 (by decide);have e2:=h3.obj.ne m2 (by decide);have e3:=h3.obj.ne h.pool.row (by decide);simp [e1,e2,e3]
 ·have e1:=h3.row.ne m1 (by decide);have e2:=h3.row.ne m2 (by decide);have e3:=h3.row.ne h.pool.row (by decide);simp [e1,e2,e3]
 ·obtain ⟨cs4,h4,_⟩:=h4.blk;have e1:=h4.ne m1 (by decide);have e2:=h4.ne m2 (by decide);have e3:=h4.ne h.pool.row (by decide);simp [e1,e2,e3]
 ·obtain ⟨v1,v2,q1,q2,q3⟩:=h.gs v G hg;exact ⟨v1,v2,q1.only o (fun hy=>((ap _ hy).2 v G hg).1 rfl),q2.only o (fun hy=>((ap _ hy).2 v G hg).2.1 rfl),q3.only o (fun hy=>((ap _ hy).2 v G hg).2.2 rfl)⟩
theorem IsHv.words (h:IsHv w a S) {L':List Int} (o:Only [a.mb,a.ms] w w') (hm:IsM w' a.mb a.ms L'):IsHv w' a { S with L:=L' }:=by
 have o2:=o.sub (T:=[a.mb,a.ms,a.pr]) (by simp);obtain ⟨_,_,m1,m2⟩:=h.mem.blk;refine h.tables o2 hm (h.pool.only o ?_ ?_)
 ·have e1:=h.pool.obj.ne m1 (by decide);have e2:=h.pool.obj.ne m2 (by decide);simp [e1,e2]
 ·have e1:=h.pool.row.ne m1 (by decide);have e2:=h.pool.row.ne m2 (by decide);simp [e1,e2]
theorem IsHv.same (h:IsHv w a S) (o:Only [a.mb,a.ms] w w') (hm:IsM w' a.mb a.ms S.L):IsHv w' a S:=h.words o hm
theorem IsHv.frames (h:IsHv w a S) {ps':List D} (o:Only [a.pr] w w') (hp:IsPool w' a.pb a.pr ps'):IsHv w' a { S with ps:=ps' }:=by
 have o2:=o.sub (T:=[a.mb,a.ms,a.pr]) (by simp);obtain ⟨_,_,m1,m2⟩:=h.mem.blk;refine h.tables o2 (h.mem.only o ?_ ?_) hp
 ·have e1:=m1.ne h.pool.row (by decide);simp [e1]
 ·have e1:=m2.ne h.pool.row (by decide);simp [e1]
theorem IsHv.grants (h:IsHv w a S) (k:GrTo w w' a.gb a.gr):IsHv w' a S:=by
 obtain ⟨o,hk⟩:=k;have ap:=h.apart a.gr (by simp);obtain ⟨cs,h1,h2⟩:=h.obj;obtain ⟨gs,h3⟩:=h.gr;obtain ⟨P,h4⟩:=h.po;obtain ⟨_,_,m1,m2⟩:=h.mem.blk;refine ⟨⟨cs,h1.only o (by simpa using ap.1.symm),h2⟩,h.mem.only o ?_ ?_,h.pool.only o ?_ ?_,hk,⟨P,h4.only o ?_⟩,fun v G hg=>?_,h.inj,fun x hx=>Nat.lt_of_lt_of_le (h.lim x hx) o.size⟩
 ·simpa using m1.ne h3.row (by decide)
 ·simpa using m2.ne h3.row (by decide)
 ·simpa using h.pool.obj.ne h3.row (by decide)
 ·simpa using h.pool.row.ne h3.row (by decide)
 ·obtain ⟨cs4,h4,_⟩:=h4.blk;simpa using h4.ne h3.row (by decide)
 ·obtain ⟨v1,v2,q1,q2,q3⟩:=h.gs v G hg;obtain ⟨e1,e2,e3⟩:=ap.2 v G hg;exact ⟨v1,v2,q1.only o (by simpa using e1.symm),q2.only o (by simpa using e2.symm),q3.only o (by simpa using e3.symm)⟩
theorem IsHv.ports (h:IsHv w a S) (k:PoTo w w' a.qb):IsHv w' a S:=by
 obtain ⟨o,hk⟩:=k;have ap:=h.apart a.qb (by simp);obtain ⟨cs,h1,h2⟩:=h.obj;obtain ⟨gs,h3⟩:=h.gr;obtain ⟨P,h4⟩:=h.po;obtain ⟨cs4,h4,_⟩:=h4.blk;obtain ⟨_,_,m1,m2⟩:=h.mem.blk;refine ⟨⟨cs,h1.only o (by simpa using ap.1.symm),h2⟩,h.mem.only o ?_ ?_,h.pool.only o ?_ ?_,⟨gs,h3.only o ?_ ?_⟩,hk,fun v G hg=>?_,h.inj,fun x hx=>Nat.lt_of_lt_of_le (h.lim x hx) o.size⟩
 ·simpa using m1.ne h4 (by decide)
 ·simpa using m2.ne h4 (by decide)
 ·simpa using h.pool.obj.ne h4 (by decide)
 ·simpa using h.pool.row.ne h4 (by decide)
 ·simpa using h3.obj.ne h4 (by decide)
 ·simpa using h3.row.ne h4 (by decide)
 ·obtain ⟨v1,v2,q1,q2,q3⟩:=h.gs v G hg;obtain ⟨e1,e2,e3⟩:=ap.2 v G hg;exact ⟨v1,v2,q1.only o (by simpa using e1.symm),q2.only o (by simpa using e2.symm),q3.only o (by simpa using e3.symm)⟩
theorem hthere_any (h:IsHv w a S):Calls Tryz.prog 65 #[ptr a.hb] w fun e w'=>e=.returned (.bool true)∧w=w':=by
 have x0:=h.c0;clear h;go_enter Tryz.func65,Tryz.ntmps65;go_wp2_with fail;go_ret;exact ⟨rfl,rfl⟩
theorem liveN_none {S:HS} {v:Nat} (h:S.g v=none):liveN S v=false:=by
 unfold liveN;rw [Int.toNat_natCast,h];simp
theorem liveN_some {S:HS} {v:Nat} {G:GS} (h:S.g v=some G) (h0:1≤v) (h1:v≤16):liveN S v=true:=by
 unfold liveN;rw [Int.toNat_natCast,h];simp;omega
theorem liveN_iff {S:HS} {vm:Int}:liveN S vm=true↔∃ (v:Nat) (G:GS),vm=v∧1≤v∧v≤16∧S.g v=some G:=by
 constructor
 ·intro h;unfold liveN at h;simp only [Bool.and_eq_true,decide_eq_true_eq] at h;obtain ⟨⟨h1,h2⟩,h3⟩:=h;obtain ⟨G,hG⟩:=Option.isSome_iff_exists.1 h3;exact ⟨vm.toNat,G,by omega,by omega,by omega,hG⟩
 ·rintro ⟨v,G,rfl,h0,h1,hg⟩;exact liveN_some hg h0 h1
theorem hlive_any (h:IsHv w a S) (vm:Int):Calls Tryz.prog 59 #[ptr a.hb,.int .i64 vm] w fun e w'=>e=.returned (.bool (liveN S vm))∧w=w':=by
 have HT:=hid (hthere_any h);by_cases h1:1≤vm
 ·have d1:decide (1≤vm)=true:=decide_eq_true h1;by_cases h2:vm≤16
  ·obtain ⟨v,rfl⟩:=Int.eq_ofNat_of_zero_le (show 0≤vm by omega);have d2:decide ((v:Int)≤16)=true:=decide_eq_true h2;have xg:=h.cg (v:=v) (by omega);have i0:(0:Int)≤v:=by omega
   have i1:(v:Int) < 17:=by omega
   cases hg:S.g v with
   | none=>
    rw [gp_none hg] at xg;rw [liveN_none hg];clear h hg h1 h2;go_enter Tryz.func59,Tryz.ntmps59;go_wp2_with fail;refine HT.out.mono ?_;rintro e w1 ⟨rfl,rfl⟩;go_wp2_with fail;go_ret;exact ⟨rfl,rfl⟩
   | some G=>
    rw [gp_some hg] at xg;rw [liveN_some hg (by omega) (by omega)];clear h hg h1 h2;go_enter Tryz.func59,Tryz.ntmps59;go_wp2_with fail;refine HT.out.mono ?_;rintro e w1 ⟨rfl,rfl⟩;go_wp2_with fail;go_ret;exact ⟨rfl,rfl⟩
  ·have d2:decide (vm≤16)=false:=decide_eq_false h2;have hl:liveN S vm=false:=by unfold liveN; rw [decide_eq_false (by omega)]; rfl
   rw [hl];clear h hl;go_enter Tryz.func59,Tryz.ntmps59;go_wp2_with fail;refine HT.out.mono ?_;rintro e w1 ⟨rfl,rfl⟩;go_wp2_with fail;go_ret;exact ⟨rfl,rfl⟩
 ·have d1:decide (1≤vm)=false:=decide_eq_false h1;have hl:liveN S vm=false:=by unfold liveN; rw [decide_eq_false (by omega)]; rfl
  rw [hl];clear h hl;go_enter Tryz.func59,Tryz.ntmps59;go_wp2_with fail;refine HT.out.mono ?_;rintro e w1 ⟨rfl,rfl⟩;go_wp2_with fail;go_ret;exact ⟨rfl,rfl⟩
end
end Go.Proofs.YtadgpnoealegiaaGreat
