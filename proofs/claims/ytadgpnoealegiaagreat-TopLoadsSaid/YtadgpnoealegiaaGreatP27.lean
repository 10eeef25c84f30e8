import Derived.Test.YtadgpnoealegiaaGreatP26
namespace Go.Proofs.YtadgpnoealegiaaGreat
open Go.RowKit
open Go.Lib (hid)
set_option maxRecDepth 100000
set_option maxHeartbeats 20000000
section
variable {w w':World} {b r:Nat} {gs:List Gr}
structure OfAt (w:World) (b r xb:Nat) (gs:List Gr) (ow p t:Int) (wr:Bool) (W:World):Prop where
 o:Only [] w W
 g:IsGr W b r gs
 x:Blk W xb 222 #[.int .i64 ow,.int .i64 p,.int .i64 t,.bool wr,.int .i64 0]
theorem OfAt.quiet {xb:Nat} {ow p t:Int} {wr:Bool} {W W':World} (h:OfAt w b r xb gs ow p t wr W) (q:Only [] W W'):OfAt w b r xb gs ow p t wr W':=
 ⟨h.o.trans q,h.g.quiet q,h.x.only q (by simp)⟩
theorem goffer_any (h:IsGr w b r gs) (ow p t:Int) (wr:Bool):Calls Tryz.prog 145 #[ptr b,.int .i64 ow,.int .i64 p,.int .i64 t,.bool wr] w fun e w'=>Says2 e∧GrTo w w' b r:=by
 have HT:=hid (gthere_any h);have HG:=hid (fun W n=>gguest_any W n);have H0:=hid h;have HDONE:=hid (show GrTo w w b r from ⟨Only.refl _ _,_,h⟩);clear h;go_enter Tryz.func145,Tryz.ntmps145;go_wp2_with fail;refine HT.out.mono ?_;rintro e w1 ⟨rfl,rfl⟩;go_wp2_with fail;refine (HG.out _ _).mono ?_;rintro e w1 ⟨⟨b1,rfl⟩,rfl⟩;cases b1
 ·go_wp2_with fail;go_ret2;exact ⟨⟨_,_,rfl⟩,HDONE.out⟩
 go_wp2_with fail;refine (HG.out _ _).mono ?_;rintro e w1 ⟨⟨b2,rfl⟩,rfl⟩;cases b2
 ·go_wp2_with fail;go_ret2;exact ⟨⟨_,_,rfl⟩,HDONE.out⟩
 cases h1:(ow == t)
 case true=>
  go_wp2_with fail;go_ret2;exact ⟨⟨_,_,rfl⟩,HDONE.out⟩
 cases h2:decide (p < 0)
 case true=>
  go_wp2_with fail;go_ret2;exact ⟨⟨_,_,rfl⟩,HDONE.out⟩
 cases h3:decide (65536≤p)
 case true=>
  go_wp2_with fail;go_ret2;exact ⟨⟨_,_,rfl⟩,HDONE.out⟩
 go_upto_region 6 with fail;obtain ⟨W,hW⟩:∃ W,w.alloc (.cells #[.int .i64 ow,.int .i64 p,.int .i64 t,.bool false,.int .i64 0] 222)=W:=⟨_,rfl⟩;have q0:=(Only.refl [] w).alloc (.cells #[.int .i64 ow,.int .i64 p,.int .i64 t,.bool false,.int .i64 0] 222);have hx0:=Blk.new w 222 #[.int .i64 ow,.int .i64 p,.int .i64 t,.bool false,.int .i64 0];have hg0:=H0.out.quiet q0;have hrl:=H0.out.lt.2;obtain ⟨xb,hxb⟩:∃ xb,w.heap.size=xb:=⟨_,rfl⟩;rw [hxb] at hx0 hrl;rw [hW] at hx0 hg0 q0;rw [hW,hxb];have HA:=hid (show OfAt w b r xb gs ow p t false W from ⟨q0,hg0,hx0⟩);have HS:=hid (gsuch_any hg0 189 #[ptr xb] (fun x W hW=>gofD_any W x (hx0.only hW (by simp)) ⟨_,_,_,_,_,rfl⟩) (enters_of Tryz.func189 (by kernel_rfl) rfl));have HXB:=hid hxb;clear hx0 hg0 q0 hW hxb h1 h2 h3;go_wp2_with fail;refine HS.out.mono ?_;rintro e w1 ⟨v,xs,rfl,ho,hr,hl,hok⟩;have HA1:=hid (HA.out.quiet ho);obtain ⟨A,cap,rfl⟩:=hr.1.form;cases hn:decide (0 < xs.length)
 case true=>
  have hn:=of_decide_eq_true hn;clear ho hr hok;go_wp2_with fail;go_ret2;exact ⟨⟨_,_,rfl⟩,HA1.out.o.sub (by simp),_,HA1.out.g⟩
 have hn:=of_decide_eq_false hn;have hn0:xs.length=0:=by omega
 rw [hn0];have HS2:=hid (gsuch_any HA1.out.g 169 #[] (fun x W _=>gfree_any W x) (enters_of Tryz.func169 (by kernel_rfl) rfl));clear ho hr hok hn hn0 hl;go_wp2_with fail;refine HS2.out.mono ?_;rintro e w2 ⟨v2,ys,rfl,ho2,hr2,hl2,hok2⟩;have HA2:=hid (HA1.out.quiet ho2);obtain ⟨A2,cap2,rfl⟩:=hr2.1.form;cases ys with
 | nil=>
  have e0:([]:List Int).length=0:=rfl;rw [e0];clear ho2 hr2 hok2 hl2;go_wp2_with fail;go_ret2;exact ⟨⟨_,_,rfl⟩,HA2.out.o.sub (by simp),_,HA2.out.g⟩
 | cons y ys=>
  obtain ⟨m,rfl,hm⟩:=hok2 y (.head _);obtain ⟨g,cap',cur,hv,hb,hnc,_,_,hcc⟩:=hr2.1.has (by simp);have xg:=hb.at 0 (hcc 0 (.int .i64 m) (by simp));obtain ⟨n,hn⟩:∃ n,((m:Int) :: ys).length=n:=⟨_,rfl⟩;have hn1:1≤n:=by rw [← hn]; simp
  have hn0:((n:Int) == 0)=false:=beq_eq_false_iff_ne.2 (by omega);have hn2:0 < n:=by omega
  rw [hn] at hv hnc;injection hv with e1 e2 e3;subst e1 e3;rw [hn];have hgx:g≠xb:=hb.ne HA2.out.x (by decide);have hgr:g≠r:=hb.ne HA2.out.g.row (by decide);have hgb:g≠b:=hb.ne HA2.out.g.obj (by decide);have hbx:b≠xb:=HA2.out.g.obj.ne HA2.out.x (by decide);have hrx:r≠xb:=by omega
  have hx2:=HA2.out.x;have z0:=hx2.at 0 (v:=.int .i64 ow) rfl;have z1:=hx2.at 1 (v:=.int .i64 p) rfl;have z2:=hx2.at 2 (v:=.int .i64 t) rfl;have z3:=hx2.at 3 (v:=.bool false) rfl;have z4:=hx2.at 4 (v:=.int .i64 0) rfl;have f3:=hx2.frozen 3;have HB:=hid hb;have HCC:=hid hcc;clear ho2 hr2 hok2 hl2 hn hb hcc e2 hx2;go_upto_region 12 with fail;obtain ⟨W3,hW3⟩:∃ W3,w2.setCell ⟨xb,3,none⟩ (.bool wr)=W3:=⟨_,rfl⟩;have q3:Only [xb] w2 W3:=by rw [← hW3]; exact (Only.refl [xb] w2).setCell (p:=⟨xb,3,none⟩) (.inl (.head _)) _
  have hx3:Blk W3 xb 222 #[.int .i64 ow,.int .i64 p,.int .i64 t,.bool wr,.int .i64 0]:=by rw [← hW3]; simpa using HA2.out.x.set 3 (.bool wr)
  have hg3:IsGr W3 b r gs:=HA2.out.g.only q3 (by simpa using hbx) (by simpa using hrx);have hgb3:=HB.out.only q3 (by simpa using hgx);have HO3:=hid (show Only [r] w W3 from ((HA2.out.o.sub (show [] ⊆ [r] by simp)).then q3 (fun x hx=>.inr (by
   have hx:x=xb:=by simpa using hx
   rw [HXB.out,hx];exact Nat.le_refl _))))
  rw [hW3];have y0:=hg3.obj.at 0 (v:=.slice (some ⟨r,0,none⟩) 16 16) rfl;have yg:=hgb3.at 0 (HCC.out 0 (.int .i64 m) (by simp));have x0:=hx3.at 0 (v:=.int .i64 ow) rfl;have x1:=hx3.at 1 (v:=.int .i64 p) rfl;have x2:=hx3.at 2 (v:=.int .i64 t) rfl;have x3:=hx3.at 3 (v:=.bool wr) rfl;have x4:=hx3.at 4 (v:=.int .i64 0) rfl;have HG3:=hid hg3;obtain ⟨y,hy⟩:∃ y,gs[m]?=some y:=⟨_,List.getElem?_eq_getElem (by have:=hg3.len; omega)⟩;obtain ⟨u0,u1,u2,u3,u4⟩:=hg3.cell hy;have v0:=hg3.row.frozen (m * 5);have v1:=hg3.row.frozen (m * 5+1);have v2:=hg3.row.frozen (m * 5+2);have v3:=hg3.row.frozen (m * 5+3);have v4:=hg3.row.frozen (m * 5+4);have hm0:(0:Int)≤m:=by omega
  have hm1:(m:Int) < 16:=by omega
  clear z0 z1 z2 z3 z4 f3 hW3 q3 hx3 hg3 hgb3 hy xg;obtain ⟨S,hS⟩:∃ S:World→Prop,S=(fun w'=>w'.cell? ⟨b,0,none⟩=some (.slice (some ⟨r,0,none⟩) 16 16)∧w'.cell? ⟨g,0,none⟩=some (.int .i64 m)∧w'.cell? ⟨xb,0,none⟩=some (.int .i64 ow)∧w'.cell? ⟨xb,1,none⟩=some (.int .i64 p)∧w'.cell? ⟨xb,2,none⟩=some (.int .i64 t)∧w'.cell? ⟨xb,3,none⟩=some (.bool wr)∧w'.cell? ⟨xb,4,none⟩=some (.int .i64 0)):=⟨_,rfl⟩;have HS:=hid hS;clear hS;refine wp_region_lead 8 S (by kernel_rfl) (by kernel_rfl) (by rw [HS.out]; exact ⟨y0,yg,x0,x1,x2,x3,x4⟩) ?_;simp only [List.take_succ_cons,List.take_zero,List.drop_succ_cons,List.drop_zero]
  repeat
   (refine lstep rfl ?_
    apply Exists.intro;refine ⟨fun w' hw'=>?_,?_⟩
    ·rw [HS.out] at hw';obtain ⟨p0,p1,p2,p3,p4,p5,p6⟩:=hw';go_simp;with_reducible rfl
    go_simp)
  refine lnil ?_;refine ltail rfl fun K hK=>?_;go_simp;refine hK _ _ (by rw [HS.out]; exact ⟨y0,yg,x0,x1,x2,x3,x4⟩) ?_;clear hK K;refine llast rfl fun K hK=>?_;go_simp;refine hK _ _ (NoPanic.normal ?_);clear hK K;have hl:=setG HG3.out hm ⟨ow,p,t,wr,0⟩ ⟨by show (0:Int)≤0; decide,by show (0:Int)≤1000; decide⟩;dsimp only at hl;obtain ⟨W4,hW4⟩:∃ W4,((((((W3.setCell ⟨r,m * 5,none⟩ (.int .i64 ow)).setCell ⟨r,m * 5+1,none⟩ (.int .i64 p)).setCell ⟨r,m * 5+2,none⟩ (.int .i64 t)).setCell ⟨r,m * 5+3,none⟩ (.bool wr)).setCell ⟨r,m * 5+4,none⟩ (.int .i64 0))).drew=W4:=⟨_,rfl⟩;have HL:=hid (show IsGr W4 b r (gs.set m ⟨ow,p,t,wr,0⟩) from by rw [← hW4]; exact hl.1.quiet ((Only.refl [] _).drew));have HO4:=hid (show Only [r] w W4 from by rw [← hW4]; exact (HO3.out.trans hl.2).drew);have yg4:W4.cell? ⟨g,0,none⟩=some (.int .i64 m):=by
   rw [← hW4];exact (hl.2.drew.cell (p:=⟨g,0,none⟩) (cell_lt2 yg) (by simpa using hgr)).trans yg
  rw [hW4];clear y0 yg x0 x1 x2 x3 x4 u0 u1 u2 u3 u4 v0 v1 v2 v3 v4 hl hW4;go_wp2_with fail;go_ret2;exact ⟨⟨_,_,rfl⟩,HO4.out,_,HL.out⟩
end
section
variable {w w':World} {b:Nat} {P:Nat→Nat→Pt}
def NoB (P:Nat→Nat→Pt) (k n:Nat):Prop:=∀ j:Nat,j < n→(P k j).s≠2
def DropAt (w:World) (b k n:Nat) (wr:World):Prop:=Only [b] w wr∧∃ P,IsPo wr b P∧NoB P k n
theorem DropAt.close {k n:Nat} {w:World} {w1 w2:World} {P:Nat→Nat→Pt} {e:Ending} (ho:Only [b] w w1) (hn:NoB P k n) (hk:k < 16) (hn4:n < 4) (hc:PClose P b ((k:Int)+1) n w1 e w2):DropAt w b k (n+1) w2:=by
 obtain ⟨_,h1,P',h2,h3,h4⟩:=hc;refine ⟨ho.trans h1,P',h2,fun j hj=>?_⟩;by_cases e:j=n
 ·subst e;exact h4 k j hk hn4 rfl rfl
 ·exact h3 k j hk (by omega) (hn j (by omega))
theorem pdrop_any (h:IsPo w b P) (k:Nat) (hk:k < 16):Calls Tryz.prog 134 #[ptr b,.int .i64 ((k:Int)+1)] w fun e w'=>SaysI e∧PoTo w w' b:=by
 have HT:=hid (pthere_any h);have HG:=hid (fun W=>pguest_any W ((k:Int)+1));rw [decide_eq_true (show (1:Int)≤(k:Int)+1 by omega),decide_eq_true (show (k:Int)+1≤16 by omega)] at HG;have H0:=hid h;have x0:=h.room;clear h;go_enter Tryz.func134,Tryz.ntmps134;go_wp2_with fail;refine HT.out.mono ?_;rintro e w1 ⟨rfl,rfl⟩;go_wp2_with fail;refine (HG.out _).mono ?_;rintro e w1 ⟨rfl,rfl⟩;go_wp2_with fail;go_loopg [5,22] 4 (fun q v i wr=>∃ (j:Nat) (n:Int),j+q=4∧i=.int .i64 j∧v=.int .i64 n∧DropAt w b k j wr)
 case atStart=>exact ⟨0,0,rfl,rfl,rfl,Only.refl _ _,P,H0.out,fun j hj=>absurd hj (by omega)⟩
 case round=>
  obtain ⟨j,n,hj,rfl,rfl,ho,P1,hp,hnb⟩:=hrel;have HO:=hid ho;have HP:=hid hp;have HNB:=hid hnb;clear ho hp hnb x0;by_cases hlt:j < 4
  ·have hji:(j:Int) < 4:=by omega
   have HC:=hid (pclose_any HP.out ((k:Int)+1) j);go_wp2_with fail;refine HC.out.mono ?_;rintro e w2 hc;have HD:=hid (DropAt.close HO.out HNB.out hk hlt hc);obtain ⟨⟨er,rfl⟩,_⟩:=hc;cases her:(er == 0)
   ·go_wp2_with fail;go_roundg (gk - 1)
    case measure=>omega
    case rel=>exact ⟨j+1,n,by omega,by go_num,rfl,HD.out⟩
   ·go_wp2_with fail;go_roundg (gk - 1)
    case measure=>omega
    case rel=>exact ⟨j+1,_,by omega,by go_num,rfl,HD.out⟩
  ·obtain rfl:j=4:=by omega
   go_wp2_with fail;have hd:DropAt w b k 4 wr:=⟨HO.out,P1,HP.out,HNB.out⟩;have HD:=hid hd;clear hd HO HP HNB;go_loopg [5,7] 16 (fun q v i wr=>∃ (g:Nat) (n:Int),g+q=16∧i=.int .i64 ((g:Int)+1)∧v=.int .i64 n∧DropAt w b k 4 wr)
   case atStart=>exact ⟨0,n,rfl,rfl,rfl,HD.out⟩
   case round=>
    obtain ⟨g,n2,hg,rfl,rfl,hd2⟩:=hrel;have HD2:=hid hd2;clear hd2 HD;by_cases hg16:g < 16
    ·have hgi:(g:Int)+1≤16:=by omega
     obtain ⟨_,P2,hp2,_⟩:=HD2.out;have x2:=hp2.room;clear hp2;go_wp2_with fail;go_loopg [5,41] 4 (fun q v i wr=>∃ (j:Nat) (n:Int),j+q=4∧i=.int .i64 j∧v=.int .i64 n∧DropAt w b k 4 wr)
     case atStart=>exact ⟨0,n2,rfl,rfl,rfl,HD2.out⟩
     case round=>
      obtain ⟨i,n3,hi,rfl,rfl,ho3,P3,hp3,hnb3⟩:=hrel;have HO3:=hid ho3;have HP3:=hid hp3;have HNB3:=hid hnb3;clear ho3 hp3 hnb3 x2 HD2;by_cases hi4:i < 4
      ·have hii:(i:Int) < 4:=by omega
       have HA:=hid (pat_any HP3.out ((g:Int)+1) i);go_wp2_with fail;refine HA.out.mono ?_;rintro e w4 ⟨hat,rfl⟩;rcases hat with ⟨rfl,h2⟩ | ⟨g',i',hg',hi',e1,e2,rfl⟩
       ·clear h2;go_wp2_with fail;go_roundg (gk - 1)
        case measure=>omega
        case rel=>exact ⟨i+1,n3,by omega,by go_num,rfl,HO3.out,P3,HP3.out,HNB3.out⟩
       ·obtain ⟨y0,y1,y2,y3,y4⟩:=HP3.out.cell hg' hi';clear e1 e2;cases hgu:((P3 g' i').g == (k:Int)+1)
        ·go_wp2_with fail;go_roundg (gk - 1)
         case measure=>omega
         case rel=>exact ⟨i+1,n3,by omega,by go_num,rfl,HO3.out,P3,HP3.out,HNB3.out⟩
        ·have f0:=HP3.out.frozen (g' * 160+i' * 5);have f1:=HP3.out.frozen (g' * 160+i' * 5+1);have f2:=HP3.out.frozen (g' * 160+i' * 5+2);have f3:=HP3.out.frozen (g' * 160+i' * 5+3);have f4:=HP3.out.frozen (g' * 160+i' * 5+4);have hns:(P3 g' i').s≠2:=fun hs=>by
          obtain ⟨g2,i2,a1,a2,a3,a4,a5,_⟩:=HP3.out.bnd g' i' hg' hi' hs;have:g2=k:=by have:=beq_iff_eq.1 hgu; omega
          subst this;exact HNB3.out i2 a2 a5
         have HL:=hid ((lay5 HP3.out.raw hg' hi' 0 0 0 false false).up (HP3.out.bnd.upd hns (by show (0:Int)≠2; decide)));have HO5:=hid (only5 (b:=b) (o:=g' * 160+i' * 5) HO3.out (.inl (.head _)) (.int .i64 0) (.int .i64 0) (.int .i64 0) (.bool false) (.bool false));have HN5:=hid (show NoB (updT P3 g' i' ⟨0,0,0,false,false⟩) k 4 from fun j hj=>by
          unfold updT;split
          ·show (0:Int)≠2;decide
          ·exact HNB3.out j hj)
         clear hns;go_wp2_with fail;go_roundg (gk - 1)
         case measure=>omega
         case rel=>exact ⟨i+1,_,by omega,by go_num,rfl,HO5.out,_,HL.out,HN5.out⟩
      ·obtain rfl:i=4:=by omega
       go_wp2_with fail;go_roundg (15 - g)
       case measure=>omega
       case rel=>exact ⟨g+1,n3,by omega,by go_num,rfl,HO3.out,P3,HP3.out,HNB3.out⟩
    ·obtain rfl:g=16:=by omega
     go_wp2_with fail;go_ret;obtain ⟨ho2,P2,hp2,_⟩:=HD2.out;exact ⟨⟨_,rfl⟩,ho2,P2,hp2⟩
def isZT (k:Nat):Option Value→Bool
 | some (.int .i64 n)=>Nat.blt k 3 && (n == 0)
 | some (.bool b)=>Nat.blt 2 k && Nat.blt k 5 && !b
 | _=>false
theorem isZT_spec {k:Nat} {v:Option Value} (h:isZT k v=true):v=(encT zT)[k]?:=by
 unfold isZT at h;split at h
 ·rename_i n;simp at h;obtain ⟨h1,rfl⟩:=h;have:k=0∨k=1∨k=2:=by omega
  rcases this with rfl | rfl | rfl <;> rfl
 ·rename_i b;simp at h;obtain ⟨⟨h1,h3⟩,rfl⟩:=h;have:k=3∨k=4:=by omega
  rcases this with rfl | rfl <;> rfl
 ·cases h
theorem zAll_ok : ((List.range 16).all fun g=>(List.range 4).all fun i=>(List.range 5).all fun k=>isZT k Tryz.zeroCells125.toList[g * 160+i * 5+k]?)=true:=by kernel_rfl
theorem zSize : Tryz.zeroCells125.size=2561:=by kernel_rfl
theorem zAt (g i:Nat) (hg:g < 16) (hi:i < 4) (k:Nat) (hk:k < 5):Tryz.zeroCells125[g * 160+i * 5+k]?=(encT zT)[k]?:=by
 have h:=zAll_ok;rw [List.all_eq_true] at h;have h1:=h g (List.mem_range.2 hg);rw [List.all_eq_true] at h1;have h2:=h1 i (List.mem_range.2 hi);rw [List.all_eq_true] at h2;have h3:=isZT_spec (h2 k (List.mem_range.2 hk));rw [← h3];simp
theorem zPorts (W:World) (b:Nat) (hb:Blk W b 125 (Tryz.zeroCells125.setIfInBounds 2560 (.int .i64 4))):IsPo W b fun _ _=>zT:=
 ⟨⟨_,hb,by rw [Array.size_setIfInBounds,zSize],by rw [Array.getElem?_setIfInBounds_self_of_lt (by rw [zSize]; omega)],fun g i hg hi k hk=>by
  rw [Array.getElem?_setIfInBounds_ne (by omega)];exact zAt g i hg hi k hk⟩,fun g i _ _ h=>by cases h⟩
theorem portnew_any (w:World):Calls Tryz.prog 22 #[.int .i64 4] w fun e w'=>∃ b P,e=.returned (.tuple #[ptr b,.int .i64 0])∧w.heap.size≤b∧Only [] w w'∧IsPo w' b P:=by
 go_enter Tryz.func22,Tryz.ntmps22;go_wp2_with fail;go_ret2;exact ⟨_,_,rfl,Nat.le_refl _,(Only.refl _ _).alloc _,zPorts _ _ (Blk.new _ _ _)⟩
end
section
open Go.Shelf
attribute [local go_sem] Oper.semAt_some
theorem Tryz.infoPlace : (Tryz.prog.info? 256).map (fun i=>(i.zero,i.size,i.bytes))=some (some (.agg #[.int .i64 0,.int .i64 0,.int .i64 0]),3,24):=by kernel_rfl
theorem row_stepW {T:List Nat} {n₀:Nat} {A B:World} {base e sz k:Nat} {v:Value} {xs:List Value} (h:A.ownsRow base e sz v k xs) (st:StepT T n₀ A B) (hT:∀ x ∈ T,x < base):B.ownsRow base e sz v k xs:=
 row_step h st fun x hx e1=>by
  have h1:=hT x hx;have:=(row_blk h x (by rw [e1]; simp)).1;omega
theorem IsT.step {n₀:Nat} {A B:World} {tb mb ms pb pr:Nat} {o r:Int} {gone:Bool} {L:List Int} {ps:List D} (h:IsT A tb mb ms pb pr o r gone L ps) (st:StepT [] n₀ A B):IsT B tb mb ms pb pr o r gone L ps:=by
 obtain ⟨⟨c,l,hm⟩,hw⟩:=h.mem;exact ⟨st.blk h.obj (by simp),⟨⟨c,l,st.blk hm.obj (by simp),st.blk hm.row (by simp),hm.len,hm.max⟩,hw⟩,st.blk h.pool.obj (by simp),st.blk h.pool.row (by simp),h.pool.len,h.pool.max,h.pool.wf⟩
theorem gatherW_any {w:World} {b1 b2 tb mb ms pb pr:Nat} {page o r:Int} {gone:Bool} {L:List Int} {ps:List D} (h:IsT w tb mb ms pb pr o r gone L ps) (h1:w.cell? ⟨b1,0,none⟩=some (ptr tb)) (h2:w.cell? ⟨b2,0,none⟩=some (.int .i64 page))
 (hp0:0≤page) (hp1:page < 65536) (hr0:0≤r) (hr1:r < 4096) :
 Calls Tryz.prog 179 #[.func (.func 208) #[] #[ptr b1,ptr b2]] w fun e w'=>∃ v,e=.returned v∧Only [mb,ms] w w'∧IsT w' tb mb ms pb pr o r gone L ps∧w'.ownsRow w.heap.size 256 3 v (wayN L page 3 r).length ((wayN L page 3 r).flatMap encP):=by
 obtain ⟨W0,hW0⟩:∃ W0,w.alloc (.cells #[.slice none 0 0] 253)=W0:=⟨_,rfl⟩;have hB0:Blk W0 w.heap.size 253 #[.slice none 0 0]:=by rw [← hW0]; exact Blk.new w _ _
 have hO0:Only [] w W0:=by rw [← hW0]; exact (Only.refl [] w).alloc _
 have hn:∀ g,g≠w.heap.size→¬ Mine w.heap.size W0 g:=by
  rintro g hg (e | ⟨v,q1,q2⟩)
  ·exact hg e
  ·rw [hB0.at 0 (v:=.slice none 0 0) rfl] at q1;cases q1;cases q2
 have hl:=h.lt;have l1:=cell_lt2 h1;have l2:=cell_lt2 h2;have HI:=hid (show ItW w.heap.size W0 b1 b2 tb mb ms pb pr page o r gone L ps from
  ⟨(hO0.cell (p:=⟨b1,0,none⟩) l1 (by simp)).trans h1,(hO0.cell (p:=⟨b2,0,none⟩) l2 (by simp)).trans h2,hn _ (by omega),hn _ (by omega),hn _ (by omega),hn _ (by omega),hn _ (by omega),hn _ (by omega),hn _ (by omega),hB0.lt,fun k hk=>by
    by_cases e:k=w.heap.size
    ·rw [e]; exact hB0.lt
    ·exact absurd hk (hn k e),h.quiet hO0⟩)
 have HL:=hid (way_len L page 3 r);have H0:=hid (And.intro hB0 (hO0.sub (show [] ⊆ [mb,ms] by simp)));have hz:w.heap.size≤W0.heap.size:=hO0.size;have HLT:=hid hl;obtain ⟨i0,hi,hz0,hz1,hz2⟩:=info_parts Tryz.infoPlace;have HI0:=hid (And.intro hi (And.intro hz0 (And.intro hz1 hz2)));have HRG:=hid (And.intro hp0 (And.intro hp1 (And.intro hr0 hr1)));clear h h1 h2 hi hz0 hz1 hz2 hB0 hn hp0 hp1 hr0 hr1 l1 l2;refine (callsIn_wide (n:=5)).1 ?_;refine callsIn_of_wp_marks Tryz.func179 rfl trivial ?_ rfl;simp only [Tryz.ntmps179,List.size_toArray,List.length_cons,List.length_nil,Nat.reduceAdd,Nat.reduceSub,Array.replicate_succ,Array.replicate_zero,List.push_toArray,List.append_toArray,List.nil_append,List.cons_append];gi_wp2;clear hW0 hO0;refine wpIn_rangeFunc_T rfl (by omega) (gf:=208) (lb:=#[ptr b1,ptr b2]) rfl trivial (enters_of Tryz.func208 (by kernel_rfl) rfl)
  (way_it 4 w.heap.size b1 b2 tb mb ms pb pr page o r L gone ps W0 (by omega) HI.out HRG.out.1 HRG.out.2.1 HRG.out.2.2.1 HRG.out.2.2.2) (fun _ _ hA st=>hA.step st) (fun h k=>h.trans k) (fun _ _ _ _ _ h ho=>RK.putLoop h ho) (Only.refl _ _) (fun _=>rfl) (by simp; omega)
  (fun pre W=>(∃ v,Blk W w.heap.size 253 #[v]∧W.ownsRow w.heap.size 256 3 v pre.length (pre.flatMap encP))∧Only [mb,ms] w W) (fun _ _ _=>False)
  (fun s A B hs st=>?hI) (fun _ _ _ _ hs _=>hs) ⟨⟨_,H0.out.1,World.ownsRow_nil _ _ _ _⟩,H0.out.2⟩
  (fun x a' W=>∃ bx,w.heap.size < bx∧Blk W bx 256 #[.int .i64 x.f,.int .i64 x.l,.int .i64 x.w]∧a'={ tmps:=#[.func (.func 208) #[] #[ptr b1,ptr b2],undef,.slice none 0 0,ptr w.heap.size,ptr bx,.func (.func 208) #[] #[ptr b1,ptr b2],x.val,undef,undef,undef,undef,undef],defers:=[] }) ?hAx ?assign ?body ?done ?stop
 case hI=>
  obtain ⟨⟨v,hb,hr⟩,ho⟩:=hs;exact ⟨⟨v,st.blk hb (by simp; omega),row_stepW hr st (by simp; omega)⟩,st.only ho hz (by simp)⟩
 case hAx=>
  rintro x a' A B ⟨bx,hbx,hb,rfl⟩ st;exact ⟨bx,hbx,st.blk hb (by simp; omega),rfl⟩
 case assign=>
  rintro l pre ⟨f,lv,wd⟩ W K ⟨⟨v,hb,hr⟩,ho⟩ hK;have hlt:=hb.lt;have HG:=hid (hK { tmps:=#[.func (.func 208) #[] #[ptr b1,ptr b2],undef,.slice none 0 0,ptr w.heap.size,ptr W.heap.size,.func (.func 208) #[] #[ptr b1,ptr b2],Pl.val ⟨f,lv,wd⟩,undef,undef,undef,undef,undef],defers:=[] } (W.alloc (.cells #[.int .i64 f,.int .i64 lv,.int .i64 wd] 256)) (KeepsOthers.alloc _ _) (RK.alloc W hlt _) ⟨⟨v,hb.alloc _,hr.alloc _⟩,ho.alloc _⟩ ⟨W.heap.size,hlt,Blk.new W _ _,rfl⟩);clear hK hb hr ho;rw [pl_out];rw [pl_out] at HG;dsimp only at HG ⊢;gi_wp2;exact HG.out
 case body=>
  rintro l pre ⟨f,lv,wd⟩ a' W ⟨⟨v,hb,hr⟩,ho⟩ ⟨bx,hbx,hx,rfl⟩ hlen;have HB:=hid hb;have HR:=hid hr;have HO:=hid ho;have HX:=hid hx;have c0:=hb.at 0 (v:=v) rfl;have HZ:=hid (recs_len encP_len pre);have x0:=HX.out.at 0 (v:=.int .i64 f) rfl;have x1:=HX.out.at 1 (v:=.int .i64 lv) rfl;have x2:=HX.out.at 2 (v:=.int .i64 wd) rfl;rw [pl_out];dsimp only;clear hb ho hr hx;gi_wp2_with (
   gi_at_builtin
   obtain ⟨hi,hz0,hz1,hz2⟩:=HI0.out;refine wpListIn_append_own_at _ rfl _ _ 253 rfl w.heap.size 256 i0 (.agg #[.int .i64 0,.int .i64 0,.int .i64 0]) 3 24 Tryz.underlying253 hi hz0 hz1 hz2 rfl (by decide) _ _ _ rfl (HR.out.alloc _) ⟨W.heap.size,0,none⟩ 1 1 [.int .i64 f,.int .i64 lv,.int .i64 wd] rfl rfl (news_blk (Blk.new W _ _)) (by simp [Value.oneCell']) (by unfold maxLen; omega) (by omega) (by have:=HO.out.size; simp; omega) ?_;intro v' w1 hown' hgrow _ hat;obtain ⟨g',cap',rfl⟩:=ownsRow_succ hown';have HC:=hid (col_step HB.out HR.out rfl hown' hgrow hat (by decide) HO.out (Nat.le_refl _) (Nat.le_refl _));have hc1:w1.cell? ⟨w.heap.size,0,none⟩=some v:=col_cell HB.out HR.out hgrow (by decide);have hf1:w1.frozen? ⟨w.heap.size,0,none⟩=false:=col_frozen HB.out HR.out hgrow (by decide);clear hi hz0 hz1 hz2 hown' hgrow hat c0)
  exact ⟨HC.out.1,HC.out.2.1,⟨_,HC.out.2.2.1,by simpa [encP] using HC.out.2.2.2.1⟩,HC.out.2.2.2.2⟩
 case done=>
  rintro D ys W hD hT rfl ⟨⟨v,hb,hr⟩,ho⟩ hK;have HB:=hid hb;have HR:=hid hr;have HO:=hid ho;have HT:=hid hT;have c0:=hb.at 0 (v:=v) rfl;clear hb ho hr hT;gi_wp2;refine ⟨by simp,.inl ⟨_,_,rfl,run_takeDeferred hK,?_⟩⟩;have q:Only [D] W (W.putObj D (.deferred none)):=⟨rfl,rfl,rfl,by simp [World.putObj],fun i _ hn=>World.putObj_heap_other (by simpa using hn)⟩;exact ⟨_,results_tmp rfl _ _ _,_,rfl,HO.out.putObj (by omega) _,HT.out.only q (by simp; omega) (by simp; omega) (by simp; omega) (by simp; omega) (by simp; omega),ownsRow_putObj HR.out _ hK rfl⟩
 case stop=>
  rintro D c pre W _ _ h _;exact h.elim
end
theorem way_end (L:List Int) (page:Int):∀ (l:Nat) (f:Int),∃ m,(wayN L page l f).length=m+1∧(wayN L page l f)[m]?=some (endN L page l f)
 | 0,f=>⟨0,rfl,rfl⟩
 | l+1,f=>by
  unfold wayN endN;split
  ·obtain ⟨m,h1,h2⟩:=way_end L page l (entN L (atN f page (l+1))).fr;exact ⟨m+1,by simp [h1],by simpa using h2⟩
  ·exact ⟨0,rfl,rfl⟩
theorem row_get {w:World} {base e n g cap:Nat} {xs:List Pl} (h:w.ownsRow base e 3 (.slice (some ⟨g,0,none⟩) n cap) n (xs.flatMap encP)) (hn:xs.length=n) {m:Nat} {x:Pl} (hm:xs[m]?=some x) :
 w.cell? ⟨g,m * 3,none⟩=some (.int .i64 x.f)∧w.cell? ⟨g,m * 3+1,none⟩=some (.int .i64 x.l)∧w.cell? ⟨g,m * 3+2,none⟩=some (.int .i64 x.w):=by
 have hlt:=(List.getElem?_eq_some_iff.1 hm).1;obtain ⟨g',cap',cur,e1,_,hb,hc⟩:=row_cells h (by omega);simp only [Value.slice.injEq,Option.some.injEq,Addr.mk.injEq] at e1;obtain ⟨⟨rfl,_⟩,_⟩:=e1;have h4:∀ i,i < 3→∀ v,(encP x)[i]?=some v→w.cell? ⟨g,m * 3+i,none⟩=some v:=fun i hi v hv=>by
  refine hb.at _ ?_;have e1:=hc (m * 3+i) (by omega);have e2:=recs_get encP_len xs hm i hi;rw [e1,← hv,← e2];simp [recs]
 exact ⟨h4 0 (by decide) _ rfl,h4 1 (by decide) _ rfl,h4 2 (by decide) _ rfl⟩
theorem set3 {W:World} {b t:Nat} {x0 x1 x2:Value} (h:Blk W b t #[x0,x1,x2]) (y0 y1 y2:Value) :
 Blk (((W.setCell ⟨b,0,none⟩ y0).setCell ⟨b,1,none⟩ y1).setCell ⟨b,2,none⟩ y2) b t #[y0,y1,y2]:=by
 simpa using ((h.set 0 y0).set 1 y1).set 2 y2
theorem end_any {w:World} {tb mb ms pb pr:Nat} {page o r:Int} {gone:Bool} {L:List Int} {ps:List D} (h:IsT w tb mb ms pb pr o r gone L ps) (hp0:0≤page) (hp1:page < 65536) (hr0:0≤r) (hr1:r < 4096) :
 Calls Tryz.prog 183 #[ptr tb,.int .i64 page] w fun e w'=>e=.returned (.tuple #[(endN L page 3 r).val,(entN L (endN L page 3 r).w).val])∧Only [mb,ms] w w'∧IsT w' tb mb ms pb pr o r gone L ps:=by
 obtain ⟨m,hlen,hlast⟩:=way_end L page 3 r;obtain ⟨f,lv,wd,hx⟩:∃ a b c,endN L page 3 r=⟨a,b,c⟩:=⟨_,_,_,rfl⟩;obtain ⟨pr',ri,la,fr,hen⟩:∃ a b c d,entN L wd=⟨a,b,c,d⟩:=⟨_,_,_,_,rfl⟩;rw [hx] at hlast ⊢;dsimp only;rw [hen,pe_out,pl_out];dsimp only;have hm4:=way_len L page 3 r;have hlt:=h.lt;obtain ⟨W0,hW0⟩:∃ W0,(w.alloc (.cells #[.int .i64 0,.int .i64 0,.int .i64 0] 256)).alloc (.cells #[.bool false,.int .i64 0,.bool false,.int .i64 0] 172)=W0:=⟨_,rfl⟩;have hO0:Only [] w W0:=by rw [← hW0]; exact ((Only.refl [] w).alloc _).alloc _
 have hA0:Blk W0 w.heap.size 256 #[.int .i64 0,.int .i64 0,.int .i64 0]:=by rw [← hW0]; exact (Blk.new w _ _).alloc _
 have hB0:Blk W0 (w.heap.size+1) 172 #[.bool false,.int .i64 0,.bool false,.int .i64 0]:=by rw [← hW0]; exact Blk.new' _ _ _ (by simp)
 have hT0:=h.quiet hO0;obtain ⟨W1,hW1⟩:∃ W1,(W0.alloc (.cells #[ptr tb] 186)).alloc (.cells #[.int .i64 page] 3)=W1:=⟨_,rfl⟩;have hO1:Only [] W0 W1:=by rw [← hW1]; exact ((Only.refl [] W0).alloc _).alloc _
 have c1:W1.cell? ⟨W0.heap.size,0,none⟩=some (ptr tb):=by rw [← hW1]; exact ((Blk.new W0 _ _).alloc _).at 0 rfl
 have c2:W1.cell? ⟨W0.heap.size+1,0,none⟩=some (.int .i64 page):=by rw [← hW1]; exact (Blk.new' _ _ _ (by simp)).at 0 rfl
 have HG:=hid (gatherW_any (hT0.quiet hO1) c1 c2 hp0 hp1 hr0 hr1);have HA:=hid (hA0.only hO1 (by simp));have HB:=hid (hB0.only hO1 (by simp));have HO:=hid (hO0.trans hO1);have HW0:=hid hW0;have HW1:=hid hW1;have HLAST:=hid (And.intro hlen hlast);have HEN:=hid hen;rw [hlen] at hm4;clear h hlen hlast hx hen hW0 hO0 hA0 hB0 hT0 hW1 hO1 c1 c2 hp0 hp1 hr0 hr1;go_enter Tryz.func183,Tryz.ntmps183;go_wp2_with fail;rw [HW0.out];refine (nway_any _ _ _).mono ?_;rintro e w1 ⟨rfl,rfl⟩;rw [HW1.out];go_wp2_with fail;refine HG.out.mono ?_;rintro e w2 ⟨v,rfl,ho,ht,hrow⟩;rw [HLAST.out.1] at hrow;obtain ⟨g,cap,rfl⟩:=ownsRow_succ hrow;obtain ⟨x0,x1,x2⟩:=row_get hrow HLAST.out.1 HLAST.out.2;dsimp only at x0 x1 x2;have HA:=hid (HA.out.only ho (by simp; omega));have HB:=hid (HB.out.only ho (by simp; omega));have HO:=hid ((HO.out.sub (by simp)).trans ho);have HT:=hid ht;have hw:IntKind.i64.wrap (((m+1:Nat):Int) - 1)=(m:Int):=by rw [IntKind.wrap_i64]; omega
 have hm1:(0:Int)≤m:=by omega
 have hm2:(m:Int) < ((m+1:Nat):Int):=by omega
 clear ho ht hrow HG;go_upto_region 3 with fail;obtain ⟨xb,hxb⟩:∃ xb,w2.heap.size=xb:=⟨_,rfl⟩;obtain ⟨W3,hW3⟩:∃ W3,w2.alloc (.cells #[.int .i64 f,.int .i64 lv,.int .i64 wd] 256)=W3:=⟨_,rfl⟩;have HBL:=hid HB.out.lt;have q3:Only [] w2 W3.drew:=by rw [← hW3]; exact ((Only.refl [] w2).alloc _).drew
 have HX:=hid (show Blk W3.drew xb 256 #[.int .i64 f,.int .i64 lv,.int .i64 wd] by rw [← hW3,← hxb]; exact (Blk.new w2 _ _).drew);have HXX:=hid (show Blk W3 xb 256 #[.int .i64 f,.int .i64 lv,.int .i64 wd] by rw [← hW3,← hxb]; exact Blk.new w2 _ _);have HT:=hid (HT.out.quiet q3);have HA:=hid (HA.out.only q3 (by simp));have HB:=hid (HB.out.only q3 (by simp));have HO:=hid (HO.out.trans (q3.sub (by simp)));have HNA:=hid (nat_any wd HT.out);rw [HEN.out,pe_out] at HNA;dsimp only at HNA;have hz2:=HO.out.size;have hxw:w.heap.size+1 < xb:=by rw [← hxb]; exact HBL.out
 rw [hW3,hxb];clear hW3 hxb q3 x0 x1 x2 hw hm1 hm2;have HF:=hid (show ∀ wx,Blk wx xb 256 #[.int .i64 f,.int .i64 lv,.int .i64 wd]→wx.cell? ⟨xb,0,none⟩=some (.int .i64 f)∧wx.cell? ⟨xb,1,none⟩=some (.int .i64 lv)∧wx.cell? ⟨xb,2,none⟩=some (.int .i64 wd) from fun wx hx=>⟨hx.at 0 rfl,hx.at 1 rfl,hx.at 2 rfl⟩);go_region_held3 (fun w'=>w'.cell? ⟨xb,0,none⟩=some (.int .i64 f)∧w'.cell? ⟨xb,1,none⟩=some (.int .i64 lv)∧w'.cell? ⟨xb,2,none⟩=some (.int .i64 wd))
  (first | with_reducible exact HF.out _ HXX.out | with_reducible exact HF.out _ HX.out | with_reducible exact HF.out _ HX4.out | with_reducible exact HF.out _ HX5.out | with_reducible exact HF.out _ HX6.out | fail)
  (first
   | (go_at_call 209
      refine HNA.out.mono ?_;rintro e w4 ⟨rfl,ho,ht⟩;have HX4:=hid (HX.out.only ho (by simp; omega));have HA4:=hid (HA.out.only ho (by simp; omega));have HB4:=hid (HB.out.only ho (by simp; omega));have HO4:=hid (HO.out.trans ho);have HT4:=hid ht;have HX5:=hid (((HX4.out.far (p:=⟨w.heap.size,0,none⟩) (by simp; omega) (.int .i64 f)).far (p:=⟨w.heap.size,1,none⟩) (by simp; omega) (.int .i64 lv)).far (p:=⟨w.heap.size,2,none⟩) (by simp; omega) (.int .i64 wd));have HA5:=hid (set3 HA4.out (.int .i64 f) (.int .i64 lv) (.int .i64 wd));have HB5:=hid (((HB4.out.far (p:=⟨w.heap.size,0,none⟩) (by simp) (.int .i64 f)).far (p:=⟨w.heap.size,1,none⟩) (by simp) (.int .i64 lv)).far (p:=⟨w.heap.size,2,none⟩) (by simp) (.int .i64 wd));have HO5:=hid (((HO4.out.setCell (p:=⟨w.heap.size,0,none⟩) (.inr (Nat.le_refl _)) (.int .i64 f)).setCell (p:=⟨w.heap.size,1,none⟩) (.inr (Nat.le_refl _)) (.int .i64 lv)).setCell (p:=⟨w.heap.size,2,none⟩) (.inr (Nat.le_refl _)) (.int .i64 wd));have q5:=(((Only.refl [w.heap.size] w4).setCell (p:=⟨w.heap.size,0,none⟩) (by simp) (.int .i64 f)).setCell (p:=⟨w.heap.size,1,none⟩) (by simp) (.int .i64 lv)).setCell (p:=⟨w.heap.size,2,none⟩) (by simp) (.int .i64 wd);have HT5:=hid (HT4.out.only q5 (by simp; omega) (by simp; omega) (by simp; omega) (by simp; omega) (by simp; omega));have q6:=put4 (i:=0) (Only.refl [w.heap.size+1] (((w4.setCell ⟨w.heap.size,0,none⟩ (.int .i64 f)).setCell ⟨w.heap.size,1,none⟩ (.int .i64 lv)).setCell ⟨w.heap.size,2,none⟩ (.int .i64 wd))) (.head _) (.bool pr') (.int .i64 ri) (.bool la) (.int .i64 fr);have HX6:=hid (HX5.out.only q6 (by simp; omega));have HA6:=hid (HA5.out.only q6 (by simp));have HB6:=hid (set4 HB5.out (.bool pr') (.int .i64 ri) (.bool la) (.int .i64 fr))
      have HO6:=hid (HO5.out.then q6 (fun x hx=>.inr (by have:x=w.heap.size+1:=by simpa using hx
                                                         omega)))
      have HT6:=hid (HT5.out.only q6 (by simp; omega) (by simp; omega) (by simp; omega) (by simp; omega) (by simp; omega));have a0:=HA4.out.at 0 (v:=.int .i64 0) rfl;have a1:=HA4.out.at 1 (v:=.int .i64 0) rfl;have a2:=HA4.out.at 2 (v:=.int .i64 0) rfl;have g0:=HA4.out.frozen 0;have g1:=HA4.out.frozen 1;have g2:=HA4.out.frozen 2;have b0:=HB4.out.at 0 (v:=.bool false) rfl;have b1:=HB4.out.at 1 (v:=.int .i64 0) rfl;have b2:=HB4.out.at 2 (v:=.bool false) rfl;have b3:=HB4.out.at 3 (v:=.int .i64 0) rfl;have h0:=HB4.out.frozen 0;have h1:=HB4.out.frozen 1;have h2:=HB4.out.frozen 2;have h3:=HB4.out.frozen 3;clear ho ht q5 q6))
 go_wp2_with fail;have q0:=HA6.out.at 0 (v:=.int .i64 f) rfl;have q1:=HA6.out.at 1 (v:=.int .i64 lv) rfl;have q2:=HA6.out.at 2 (v:=.int .i64 wd) rfl;have s0:=HB6.out.at 0 (v:=.bool pr') rfl;have s1:=HB6.out.at 1 (v:=.int .i64 ri) rfl;have s2:=HB6.out.at 2 (v:=.bool la) rfl;have s3:=HB6.out.at 3 (v:=.int .i64 fr) rfl;refine bodyPost_ret (v:=.tuple #[.agg #[.int .i64 f,.int .i64 lv,.int .i64 wd],.agg #[.bool pr',.int .i64 ri,.bool la,.int .i64 fr]]) (by simp [results,Tryz.results183,go_sem,q0,q1,q2,s0,s1,s2,s3]) rfl ⟨rfl,HO6.out,HT6.out⟩
end Go.Proofs.YtadgpnoealegiaaGreat
