import Derived.Test.YtadgpnoealegiaaGreatP24
import Derived.Test.YtadgpnoealegiaaGreatP25
namespace Go.Proofs.YtadgpnoealegiaaGreat
open Go.RowKit
open Go.Lib (hid)
set_option maxRecDepth 100000
set_option maxHeartbeats 20000000
section
variable {w w':World} {b:Nat} {P:Nat→Nat→Pt}
theorem IsPo'.cell (h:IsPo' w b P) {g i:Nat} (hg:g < 16) (hi:i < 4):w.cell? ⟨b,g * 160+i * 5,none⟩=some (.int .i64 (P g i).s)∧w.cell? ⟨b,g * 160+i * 5+1,none⟩=some (.int .i64 (P g i).g)∧w.cell? ⟨b,g * 160+i * 5+2,none⟩=some (.int .i64 (P g i).p)∧w.cell? ⟨b,g * 160+i * 5+3,none⟩=some (.bool (P g i).d)∧w.cell? ⟨b,g * 160+i * 5+4,none⟩=some (.bool (P g i).m):=by
 obtain ⟨cs,h1,h2,h3,h4⟩:=h.blk;exact ⟨h1.at _ (h4 g i hg hi 0 (by decide)),h1.at _ (h4 g i hg hi 1 (by decide)),h1.at _ (h4 g i hg hi 2 (by decide)),h1.at _ (h4 g i hg hi 3 (by decide)),h1.at _ (h4 g i hg hi 4 (by decide))⟩
theorem IsPo'.frozen (h:IsPo' w b P) (i:Nat):w.frozen? ⟨b,i,none⟩=false:=by
 obtain ⟨cs,h1,h2⟩:=h.blk;exact h1.frozen i
theorem IsPo'.quiet (h:IsPo' w b P) (o:Only [] w w'):IsPo' w' b P:=h.only o (by simp)
def PoTo (w w':World) (b:Nat):Prop:=Only [b] w w'∧∃ P,IsPo w' b P
def Says2 (e:Ending):Prop:=∃ n er:Int,e=.returned (.tuple #[.int .i64 n,.int .i64 er])
theorem PoTo.same (h:IsPo w b P):PoTo w w b:=⟨Only.refl _ _,P,h⟩
theorem popen_any (h:IsPo w b P) (k:Nat) (hk:k < 16) (a:Int):Calls Tryz.prog 150 #[ptr b,.int .i64 ((k:Int)+1),.int .i64 a] w fun e w'=>Says2 e∧PoTo w w' b:=by
 have HT:=hid (ptwo_any h k hk a);have HL:=hid (play_any h k hk ⟨1,a,0,false,false⟩);rw [pt_out] at HL;have H0:=hid h;clear h;go_enter Tryz.func150,Tryz.ntmps150;go_wp2_with fail;refine HT.out.mono ?_;rintro e w1 ⟨hto,rfl⟩;rcases hto with rfl | ⟨rfl,h1⟩
 ·go_wp2_with fail;go_ret2;exact ⟨⟨_,_,rfl⟩,PoTo.same H0.out⟩
 ·clear h1;go_wp2_with fail;refine HL.out.mono ?_;rintro e w2 ⟨ho,hl⟩;have HO:=hid ho;rcases hl with ⟨rfl,hp⟩ | ⟨j,hj,hs,rfl,hp⟩
  ·have HP:=hid hp;clear ho hp;go_wp2_with fail;go_ret2;exact ⟨⟨_,_,rfl⟩,HO.out,_,HP.out.up H0.out.bnd⟩
  ·have HP:=hid (hp.up (H0.out.bnd.upd hs (by show (1:Int)≠2; decide)));clear ho hp hs;go_wp2_with fail;go_ret2;exact ⟨⟨_,_,rfl⟩,HO.out,_,HP.out⟩
theorem pbind_any (h:IsPo w b P) (k:Nat) (hk:k < 16) (a i:Int):Calls Tryz.prog 151 #[ptr b,.int .i64 ((k:Int)+1),.int .i64 a,.int .i64 i] w fun e w'=>Says2 e∧PoTo w w' b:=by
 have HT:=hid (ptwo_any h k hk a);have HA:=hid (pat_any h a i);have HL:=hid (play_any h k hk ⟨2,a,i,false,false⟩);rw [pt_out] at HL;have H0:=hid h;clear h;go_enter Tryz.func151,Tryz.ntmps151;go_wp2_with fail;refine HT.out.mono ?_;rintro e w1 ⟨hto,rfl⟩;rcases hto with rfl | ⟨rfl,h1⟩
 ·go_wp2_with fail;go_ret2;exact ⟨⟨_,_,rfl⟩,PoTo.same H0.out⟩
 ·have HN:=hid h1.2.2;clear h1;go_wp2_with fail;refine HA.out.mono ?_;rintro e w1 ⟨hat,rfl⟩;rcases hat with ⟨rfl,h2⟩ | ⟨g',i',hg,hi,e1,e2,rfl⟩
  ·clear h2;go_wp2_with fail;go_ret2;exact ⟨⟨_,_,rfl⟩,PoTo.same H0.out⟩
  ·obtain ⟨y0,y1,y2,y3,y4⟩:=H0.out.cell hg hi;obtain ⟨⟨s,gg,p,d,m⟩,hP⟩:∃ x,P g' i'=x:=⟨_,rfl⟩;rw [hP] at y0 y1 y2 y3 y4;dsimp only at y0 y1 y2 y3 y4;have HP:=hid hP;have HE:=hid (And.intro e1 e2);clear hP e1 e2;cases hs:(s == 2)
   ·cases hg2:(gg == (k:Int)+1)
    ·have hg3:(gg != (k:Int)+1)=true:=by rw [bne,hg2]; rfl
     go_wp2_with fail;go_ret2;exact ⟨⟨_,_,rfl⟩,PoTo.same H0.out⟩
    ·have hg3:(gg != (k:Int)+1)=false:=by rw [bne,hg2]; rfl
     have HS:=hid (beq_eq_false_iff_ne.1 hs);have HG:=hid (beq_iff_eq.1 hg2);go_wp2_with fail;refine HL.out.mono ?_;rintro e w2 ⟨ho,hl⟩;have HO:=hid ho;rcases hl with ⟨rfl,hp⟩ | ⟨j,hj,hs2,rfl,hp⟩
     ·have HP:=hid hp;clear ho hp;go_wp2_with fail;go_ret2;exact ⟨⟨_,_,rfl⟩,HO.out,_,HP.out.up H0.out.bnd⟩
     ·have hkg:k≠g':=fun e=>HN.out (by rw [HE.out.1,e]);have hPg:updT P k j ⟨2,a,i,false,false⟩ g' i'=⟨s,gg,p,d,m⟩:=by
       unfold updT;rw [if_neg (fun e=>hkg e.1.symm),HP.out]
      obtain ⟨z0,z1,z2,z3,z4⟩:=hp.cell hg hi;have f0:=hp.frozen (g' * 160+i' * 5);have f2:=hp.frozen (g' * 160+i' * 5+2);rw [hPg] at z0 z1 z2 z3 z4;dsimp only at z0 z1 z2 z3 z4;have q1:=hp.set hg hi (k:=0) (by decide) (.int .i64 2) ⟨2,gg,p,d,m⟩ (fun k' hk'=>by
       rw [hPg];have:k'=0∨k'=1∨k'=2∨k'=3∨k'=4:=by omega
       rcases this with rfl | rfl | rfl | rfl | rfl <;> rfl)
      have q2:=q1.set hg hi (k:=2) (by decide) (.int .i64 j) ⟨2,gg,j,d,m⟩ (fun k' hk'=>by
       rw [updT_at];have:k'=0∨k'=1∨k'=2∨k'=3∨k'=4:=by omega
       rcases this with rfl | rfl | rfl | rfl | rfl <;> rfl)
      rw [updT_twice] at q2;have hB:=H0.out.bnd.bind (x:=⟨2,a,i,false,false⟩) (y:=⟨2,gg,j,d,m⟩) hk hj hg hi (fun e=>hkg e.1.symm) hs2 (by rw [HP.out]; exact HS.out) rfl HE.out.1 HE.out.2 rfl HG.out rfl;have HQ:=hid (q2.up hB);have HO2:=hid ((HO.out.setCell (p:=⟨b,g' * 160+i' * 5,none⟩) (.inl (.head _)) (.int .i64 2)).setCell (p:=⟨b,g' * 160+i' * 5+2,none⟩) (.inl (.head _)) (.int .i64 j));clear q1 q2 hB hp hs2 hPg ho hkg hs hg2 hg3;go_wp2_with fail;go_ret2;exact ⟨⟨_,_,rfl⟩,HO2.out,_,HQ.out⟩
   ·go_wp2_with fail;go_ret2;exact ⟨⟨_,_,rfl⟩,PoTo.same H0.out⟩
theorem pat_bound (h:IsPo w b P) {g i:Nat} (hg:g < 16) (hi:i < 4) (hs:(P g i).s=2) (W:World) (hW:Only [] w W):Calls Tryz.prog 172 #[ptr b,.int .i64 ((g:Int)+1),.int .i64 i] W fun e w'=>e=.returned (.pointer (some ⟨b,g * 160+i * 5,none⟩))∧W=w':=by
 refine (pat_any (h.quiet hW) ((g:Int)+1) i).mono ?_;rintro e w1 ⟨hat,rfl⟩;rcases hat with ⟨_,h2⟩ | ⟨g',i',_,_,e1,e2,rfl⟩
 ·rw [h2 g i hg hi rfl rfl] at hs;cases hs
 ·have:g=g':=by omega
  subst this;have:i=i':=by omega
  subst this;exact ⟨rfl,rfl⟩
theorem psend_any (h:IsPo w b P) (k i:Int):Calls Tryz.prog 152 #[ptr b,.int .i64 k,.int .i64 i] w fun e w'=>SaysI e∧PoTo w w' b:=by
 have HA:=hid (pat_any h k i);have HM:=hid (pmiss_any h);have H0:=hid h;clear h;go_enter Tryz.func152,Tryz.ntmps152;go_wp2_with fail;refine HA.out.mono ?_;rintro e w1 ⟨hat,rfl⟩;rcases hat with ⟨rfl,h2⟩ | ⟨g',i',hg,hi,e1,e2,rfl⟩
 ·clear h2;go_wp2_with fail;refine HM.out.mono ?_;rintro e w1 ⟨rfl,rfl⟩;go_wp2_with fail;go_ret;exact ⟨⟨_,rfl⟩,PoTo.same H0.out⟩
 ·obtain ⟨y0,y1,y2,y3,y4⟩:=H0.out.cell hg hi;clear e1 e2;cases hs:((P g' i').s == 2)
  ·have hs2:((P g' i').s != 2)=true:=by rw [bne,hs]; rfl
   go_wp2_with fail;go_ret;exact ⟨⟨_,rfl⟩,PoTo.same H0.out⟩
  ·have hs2:((P g' i').s != 2)=false:=by rw [bne,hs]; rfl
   obtain ⟨g2,i2,a1,a2,a3,a4,a5,a6,a7⟩:=H0.out.bnd g' i' hg hi (beq_iff_eq.1 hs);rw [a3] at y1;rw [a4] at y2;have HB:=hid (pat_bound H0.out a1 a2 a5);have HF:=hid (show ∀ wx,Only [] w wx→wx.cell? ⟨b,g' * 160+i' * 5+1,none⟩=some (.int .i64 ((g2:Int)+1))∧wx.cell? ⟨b,g' * 160+i' * 5+2,none⟩=some (.int .i64 i2) from fun wx hx=>by
    obtain ⟨_,z1,z2,_⟩:=(H0.out.quiet hx).cell hg hi;rw [a3] at z1;rw [a4] at z2;exact ⟨z1,z2⟩)
   clear a3 a4 a5 a6 a7;go_wp2_with fail;refine wp_region_quiet_tail 10 (by kernel_rfl) (by kernel_rfl) (fun w'=>Only [] w w') ((Only.refl _ _).drew) ?_;simp only [List.take_succ_cons,List.take_zero,List.drop_succ_cons,List.drop_zero]
   repeat
    (refine qstep rfl ?_
     apply Exists.intro;refine ⟨fun w' hw'=>?_,?_⟩
     ·obtain ⟨p0,p1⟩:=HF.out w' hw';go_simp
      first
       | with_reducible rfl
       | exact quiet_val
       | (first
        | exact (HB.out w' hw').mono fun e w'' ⟨he,hw⟩=>⟨he,hw ▸ hw'⟩)
       | (apply quiet_call
          first
           | exact (HB.out w' hw').mono fun e w'' ⟨he,hw⟩=>⟨he,hw ▸ hw'⟩)
     go_simp)
   refine wpQuiet_nil ?_;intro wf hwf;have HW:=hid (H0.out.quiet hwf);obtain ⟨z0,z1,z2,z3,z4⟩:=HW.out.cell a1 a2;have f3:=HW.out.frozen (g2 * 160+i2 * 5+3);have HQ:=hid (HW.out.set a1 a2 (k:=3) (by decide) (.bool true) { P g2 i2 with d:=true } (fun k' hk'=>by
    have:k'=0∨k'=1∨k'=2∨k'=3∨k'=4:=by omega
    rcases this with rfl | rfl | rfl | rfl | rfl <;> rfl) (H0.out.bnd.same rfl rfl rfl))
   have HO:=hid ((hwf.sub (show [] ⊆ [b] by simp)).setCell (p:=⟨b,g2 * 160+i2 * 5+3,none⟩) (.inl (.head _)) (.bool true));clear hwf y0 y1 y2 y3 y4;go_wp2_with fail;go_ret;exact ⟨⟨_,rfl⟩,HO.out,_,HQ.out⟩
def PClose (P:Nat→Nat→Pt) (b:Nat) (g i:Int) (w:World) (e:Ending) (w':World):Prop:=
 SaysI e∧Only [b] w w'∧∃ P',IsPo w' b P'∧(∀ g' i':Nat,g' < 16→i' < 4→(P g' i').s≠2→(P' g' i').s≠2)∧∀ g' i':Nat,g' < 16→i' < 4→g=(g':Int)+1→i=(i':Int)→(P' g' i').s≠2
theorem pclose_any (h:IsPo w b P) (k i:Int):Calls Tryz.prog 154 #[ptr b,.int .i64 k,.int .i64 i] w (PClose P b k i w):=by
 have HA:=hid (pat_any h k i);have HM:=hid (pmiss_any h);have H0:=hid h;clear h;go_enter Tryz.func154,Tryz.ntmps154;go_wp2_with fail;refine HA.out.mono ?_;rintro e w1 ⟨hat,rfl⟩;rcases hat with ⟨rfl,h2⟩ | ⟨g',i',hg,hi,e1,e2,rfl⟩
 ·have H2:=hid h2;clear h2;go_wp2_with fail;refine HM.out.mono ?_;rintro e w1 ⟨rfl,rfl⟩;go_wp2_with fail;go_ret;exact ⟨⟨_,rfl⟩,Only.refl _ _,P,H0.out,fun _ _ _ _ h=>h,fun g' i' a b c d=>by rw [H2.out g' i' a b c d]; decide⟩
 ·obtain ⟨y0,y1,y2,y3,y4⟩:=H0.out.cell hg hi;have HE:=hid (And.intro e1 e2);clear e1 e2;cases hs:((P g' i').s == 2)
  ·have f0:=H0.out.frozen (g' * 160+i' * 5);have f1:=H0.out.frozen (g' * 160+i' * 5+1);have f2:=H0.out.frozen (g' * 160+i' * 5+2);have f3:=H0.out.frozen (g' * 160+i' * 5+3);have f4:=H0.out.frozen (g' * 160+i' * 5+4);have HL:=hid ((lay5 H0.out.raw hg hi 0 0 0 false false).up (H0.out.bnd.upd (beq_eq_false_iff_ne.1 hs) (by show (0:Int)≠2; decide)));have HO:=hid (only5 (b:=b) (o:=g' * 160+i' * 5) (Only.refl [b] w) (.inl (.head _)) (.int .i64 0) (.int .i64 0) (.int .i64 0) (.bool false) (.bool false));go_wp2_with fail;go_ret;refine ⟨⟨_,rfl⟩,HO.out,_,HL.out,fun g2 i2 _ _ h2=>?_,fun g2 i2 _ _ e1 e2=>?_⟩
   ·unfold updT;split
    ·show (0:Int)≠2;decide
    ·exact h2
   ·unfold updT;rw [if_pos ⟨by have:=HE.out.1; omega,by have:=HE.out.2; omega⟩];show (0:Int)≠2;decide
  ·obtain ⟨g2,i2,a1,a2,a3,a4,a5,a6,a7⟩:=H0.out.bnd g' i' hg hi (beq_iff_eq.1 hs);have HS2:=hid (beq_iff_eq.1 hs);have HX:=hid (And.intro a3 (And.intro a4 (And.intro a5 (And.intro a6 a7))));have y1':=y1;have y2':=y2;rw [a3] at y1;rw [a4] at y2;have HB:=hid (pat_bound H0.out a1 a2 a5);have HF:=hid (show ∀ wx,Only [] w wx→wx.cell? ⟨b,g' * 160+i' * 5+1,none⟩=some (.int .i64 ((g2:Int)+1))∧wx.cell? ⟨b,g' * 160+i' * 5+2,none⟩=some (.int .i64 i2) from fun wx hx=>by
    obtain ⟨_,z1,z2,_⟩:=(H0.out.quiet hx).cell hg hi;rw [a3] at z1;rw [a4] at z2;exact ⟨z1,z2⟩)
   clear a3 a4 a5 a6 a7 y1' y2';go_wp2_with fail;refine wp_region_quiet_tail 10 (by kernel_rfl) (by kernel_rfl) (fun w'=>Only [] w w') ((Only.refl _ _).drew) ?_;simp only [List.take_succ_cons,List.take_zero,List.drop_succ_cons,List.drop_zero]
   repeat
    (refine qstep rfl ?_
     apply Exists.intro;refine ⟨fun w' hw'=>?_,?_⟩
     ·obtain ⟨p0,p1⟩:=HF.out w' hw';go_simp
      first
       | with_reducible rfl
       | exact quiet_val
       | (first
        | exact (HB.out w' hw').mono fun e w'' ⟨he,hw⟩=>⟨he,hw ▸ hw'⟩)
       | (apply quiet_call
          first
           | exact (HB.out w' hw').mono fun e w'' ⟨he,hw⟩=>⟨he,hw ▸ hw'⟩)
     go_simp)
   refine wpQuiet_nil ?_;intro wf hwf;have HW:=hid (H0.out.quiet hwf);obtain ⟨z0,z1,z2,z3,z4⟩:=HW.out.cell a1 a2;have f0:=HW.out.frozen (g2 * 160+i2 * 5);have f2:=HW.out.frozen (g2 * 160+i2 * 5+2);have five:∀ {k':Nat},k' < 5→k'=0∨k'=1∨k'=2∨k'=3∨k'=4:=fun h=>by omega
   have q1:=HW.out.raw.set a1 a2 (k:=0) (by decide) (.int .i64 1) { P g2 i2 with s:=1 } (fun k' hk'=>by rcases five hk' with rfl | rfl | rfl | rfl | rfl <;> rfl);have q2:=q1.set a1 a2 (k:=2) (by decide) (.int .i64 0) { P g2 i2 with s:=1,p:=0 } (fun k' hk'=>by rw [updT_at]; rcases five hk' with rfl | rfl | rfl | rfl | rfl <;> rfl);rw [updT_twice] at q2;have HO:=hid (((hwf.sub (show [] ⊆ [b] by simp)).setCell (p:=⟨b,g2 * 160+i2 * 5,none⟩) (.inl (.head _)) (.int .i64 1)).setCell (p:=⟨b,g2 * 160+i2 * 5+2,none⟩) (.inl (.head _)) (.int .i64 0));have HQ:=hid q2;clear hwf y0 y1 y2 y3 y4 q1 q2 five hs;go_upto_region 7 with fail;obtain ⟨W2,hW2⟩:∃ W2,(wf.setCell ⟨b,g2 * 160+i2 * 5,none⟩ (.int .i64 1)).setCell ⟨b,g2 * 160+i2 * 5+2,none⟩ (.int .i64 0)=W2:=⟨_,rfl⟩;rw [Nat.add_zero] at HQ;rw [hW2] at HO HQ;rw [hW2];obtain ⟨u0,u1,u2,u3,u4⟩:=HQ.out.cell hg hi;have v0:=HQ.out.frozen (g' * 160+i' * 5);have v1:=HQ.out.frozen (g' * 160+i' * 5+1);have v2:=HQ.out.frozen (g' * 160+i' * 5+2);have v3:=HQ.out.frozen (g' * 160+i' * 5+3);have v4:=HQ.out.frozen (g' * 160+i' * 5+4);have hB:=H0.out.bnd.cut (y:={ P g2 i2 with s:=1,p:=0 }) (x:=⟨0,0,0,false,false⟩) hg hi HS2.out HX.out.1 HX.out.2.1 (by show (1:Int)≠2; decide) (by show (0:Int)≠2; decide);have HL:=hid ((lay5 HQ.out hg hi 0 0 0 false false).up hB);have HO2:=hid (only5 (b:=b) (o:=g' * 160+i' * 5) HO.out (.inl (.head _)) (.int .i64 0) (.int .i64 0) (.int .i64 0) (.bool false) (.bool false));clear hB hW2 z0 z1 z2 z3 z4 f0 f2;go_wp2_with fail;go_ret;refine ⟨⟨_,rfl⟩,HO2.out,_,HL.out,fun g3 i3 _ _ h2=>?_,fun g3 i3 _ _ e1 e2=>?_⟩
   ·unfold updT;split
    ·show (0:Int)≠2;decide
    ·split
     ·show (1:Int)≠2;decide
     ·exact h2
   ·unfold updT;rw [if_pos ⟨by have:=HE.out.1; omega,by have:=HE.out.2; omega⟩];show (0:Int)≠2;decide
end
section
variable {w w':World} {b:Nat} {P:Nat→Nat→Pt}
def PRowI (w0 w:World) (v:Value) (xs:List Int):Prop:=
 RowR w 3 1 v xs.length (xs.map (Value.int .i64))∧(∀ x,v.ownBlock=some x→w0.heap.size≤x)
def POk (k:Nat) (P:Nat→Nat→Pt) (xs:List Int):Prop:=∀ x ∈ xs,∃ j:Nat,x=(j:Int)∧j < 4∧(P k j).d=true
theorem ppend_any (h:IsPo w b P) (k:Nat):Calls Tryz.prog 195 #[ptr b,.int .i64 ((k:Int)+1)] w fun e w'=>∃ v xs,e=.returned v∧Only [] w w'∧PRowI w w' v xs∧xs.length≤4∧POk k P xs:=by
 have HT:=hid (pthere_any h);have HA:=hid (fun W (hW:Only [] w W) j=>pat_any (h.quiet hW) ((k:Int)+1) j);have x0:=h.room;have H0:=hid h;obtain ⟨i0,hz,hz0,hz1,hz2⟩:=info_parts Tryz.infoInt;have HI0:=hid (And.intro hz (And.intro hz0 (And.intro hz1 hz2)));clear h hz hz0 hz1 hz2;go_enter Tryz.func195,Tryz.ntmps195;go_wp2_with fail;refine HT.out.mono ?_;rintro e w1 ⟨rfl,rfl⟩;go_wp2_with fail;go_loopg [5,15] 4 (fun q v i wr=>∃ (j:Nat) (xs:List Int),j+q=4∧i=.int .i64 j∧xs.length≤j∧Only [] w wr∧PRowI w wr v xs∧POk k P xs)
 case atStart=>exact ⟨0,[],rfl,rfl,Nat.le_refl _,Only.refl _ _,⟨RowR.nil _ _ _,by simp [Value.ownBlock]⟩,fun x hx=>by simp at hx⟩
 case round=>
  obtain ⟨j,xs,hj,rfl,hl,ho,hr,hok⟩:=hrel;have HOK:=hid hok;clear hok;obtain ⟨A,cap,rfl⟩:=hr.1.form;have HO:=hid ho;have HR:=hid hr;clear ho hr x0;by_cases hlt:j < 4
  ·have HAj:=hid (HA.out wr HO.out j);have hji:(j:Int) < 4:=by omega
   have HP:=hid (H0.out.quiet HO.out);go_wp2_with fail;refine HAj.out.mono ?_;rintro e w1 ⟨hp,rfl⟩;rcases hp with ⟨rfl,h2⟩ | ⟨g',i',h1,h2,h3,h4,rfl⟩
   ·clear h2;go_wp2_with fail;go_roundg (gk - 1)
    case measure=>omega
    case rel=>exact ⟨j+1,xs,by omega,by go_num,by omega,HO.out,HR.out,HOK.out⟩
   ·obtain ⟨y0,y1,y2,y3,y4⟩:=HP.out.cell h1 h2;have HG:=hid (show g'=k∧i'=j by omega);clear h3 h4;obtain ⟨n,hn⟩:∃ n,xs.length=n:=⟨_,rfl⟩;have hrow:=HR.out.1;have hown:=HR.out.2;rw [hn] at hrow hown hl;rw [hn];have hn4:n≤3:=by omega
    have q3:=(Only.refl [] wr).alloc (.cells #[.int .i64 j] 3);have HROW:=hid (hrow.quiet q3);have HOWN:=hid hown;have HXS:=hid hn;have HO3:=hid (HO.out.trans q3);have hsz:=HO.out.size;have HU:=hid (show ∀ t u,[Value.int .i64 j][t]?=some u→(wr.alloc (.cells #[.int .i64 j] 3)).cell? ((⟨wr.heap.size,0,none⟩:Addr).add t)=some u from fun t u hu=>by
     rcases t with _ | t
     ·have hu:Value.int .i64 j=u:=by simpa using hu
      subst hu;exact (Blk.new wr 3 #[.int .i64 j]).at 0 rfl
     ·simp at hu)
    clear q3 hrow hown hn;cases hd:(P g' i').d
    ·rw [hd] at y3;go_wp2_with fail;go_roundg (gk - 1)
     case measure=>omega
     case rel=>exact ⟨j+1,xs,by omega,by go_num,by rw [HXS.out]; omega,HO.out,by have:=HR.out; rw [HXS.out] at this; exact this,HOK.out⟩
    ·rw [hd] at y3;have HD:=hid hd;cases hm:(P g' i').m
     ·rw [hm] at y4;go_wp2_with (first
       | (at_builtin; (refine wpList_append_R rfl (.tmp 37) (.tmp 39) 66 rfl 3 i0 (.int .i64 0) 1 8 Tryz.underlying66 HI0.out.1 HI0.out.2.1 HI0.out.2.2.1 HI0.out.2.2.2 rfl (by decide) (.slice A n cap) n (xs.map (Value.int .i64)) (by with_unfolding_all rfl) HROW.out ⟨wr.heap.size,0,none⟩ 1 1 [.int .i64 j] (by with_unfolding_all rfl) rfl HU.out (by intro u hu; simp at hu; subst hu; rfl) (by unfold maxLen; omega) (by omega) (fun v5 w5 hr5 ho5 hw5=>?_)))
       | fail)
      obtain ⟨A5,cap5,rfl⟩:=hr5.form;have hown5:∀ x,(Value.slice A5 (n+1) cap5).ownBlock=some x→w.heap.size≤x:=by
       intro x hx;rcases hw5 with h | h
       ·rw [h] at hx;exact HOWN.out x hx
       ·rw [h] at hx;have:(wr.alloc (.cells #[.int .i64 j] 3)).heap.size=x:=by simpa using hx
        simp at this;omega
      have q5:Only [] w w5:=HO3.out.then ho5 fun x hx=>.inr (HOWN.out x (Option.mem_toList.1 hx));have HO5:=hid q5;have HR5:=hid (show PRowI w w5 (.slice A5 (n+1) cap5) (xs ++ [(j:Int)]) from ⟨by rw [List.length_append,HXS.out,List.map_append]; exact hr5,hown5⟩);have HOK5:=hid (show POk k P (xs ++ [(j:Int)]) from fun x hx=>by
       rcases List.mem_append.1 hx with hx | hx
       ·exact HOK.out x hx
       ·have hx:x=(j:Int):=by simpa using hx
        exact ⟨j,hx,hlt,by rw [← HG.out.1,← HG.out.2]; exact HD.out⟩)
      clear hr5 ho5 hw5 hown5 q5;go_wp2_with fail;go_roundg (gk - 1)
      case measure=>omega
      case rel=>exact ⟨j+1,xs ++ [(j:Int)],by omega,by go_num,by simp [HXS.out]; omega,HO5.out,HR5.out,HOK5.out⟩
     ·rw [hm] at y4;go_wp2_with fail;go_roundg (gk - 1)
      case measure=>omega
      case rel=>exact ⟨j+1,xs,by omega,by go_num,by rw [HXS.out]; omega,HO.out,by have:=HR.out; rw [HXS.out] at this; exact this,HOK.out⟩
  ·obtain rfl:j=4:=by omega
   have x0:=(H0.out.quiet HO.out).room;go_wp2_with fail;go_ret;exact ⟨_,xs,rfl,HO.out,HR.out,hl,HOK.out⟩
theorem ptake_any (h:IsPo w b P) (k:Nat) (hk:k < 16):Calls Tryz.prog 153 #[ptr b,.int .i64 ((k:Int)+1)] w fun e w'=>(∃ (n:Int) (ok:Bool),e=.returned (.tuple #[.int .i64 n,.bool ok]))∧PoTo w w' b:=by
 have HP:=hid (ppend_any h k);have H0:=hid h;clear h;go_enter Tryz.func153,Tryz.ntmps153;go_wp2_with fail;refine HP.out.mono ?_;rintro e w1 ⟨v,xs,rfl,ho,hr,hl,hok⟩;have HO:=hid ho;have HR:=hid hr;have HOK:=hid hok;have H1:=hid (H0.out.quiet ho);obtain ⟨A,cap,rfl⟩:=hr.1.form;cases xs with
 | nil=>
  have e0:([]:List Int).length=0:=rfl;rw [e0] at hr ⊢;clear hr ho hok;go_wp2_with fail;go_ret2;exact ⟨⟨_,_,rfl⟩,HO.out.sub (by simp),_,H1.out⟩
 | cons x xs=>
  obtain ⟨j,rfl,hj,hd⟩:=hok x (.head _);obtain ⟨g,cap',cur,hv,hb,hnc,_,_,hcc⟩:=hr.1.has (by simp);have xg:=hb.at 0 (hcc 0 (.int .i64 j) (by simp));obtain ⟨n,hn⟩:∃ n,((j:Int) :: xs).length=n:=⟨_,rfl⟩;have hn1:1≤n:=by rw [← hn]; simp
  have hn0:((n:Int) == 0)=false:=beq_eq_false_iff_ne.2 (by omega);have hn2:(0:Int) < n:=by omega
  rw [hn] at hv hnc;injection hv with e1 e2 e3;subst e1 e3;rw [hn];have HA:=hid (show Calls Tryz.prog 172 #[ptr b,.int .i64 ((k:Int)+1),.int .i64 j] w1 fun e w'=>e=.returned (.pointer (some ⟨b,k * 160+j * 5,none⟩))∧w1=w' from by
   refine (pat_any H1.out ((k:Int)+1) j).mono ?_;rintro e w2 ⟨hat,rfl⟩;rcases hat with ⟨_,h2⟩ | ⟨g',i',_,_,e1,e2,rfl⟩
   ·rw [h2 k j hk hj rfl rfl] at hd;cases hd
   ·have:k=g':=by omega
    subst this;have:j=i':=by omega
    subst this;exact ⟨rfl,rfl⟩)
  obtain ⟨y0,y1,y2,y3,y4⟩:=H1.out.cell hk hj;have f3:=H1.out.frozen (k * 160+j * 5+3);have hgb:g≠b:=by
   obtain ⟨cs,hbb,_⟩:=H1.out.blk;exact hb.ne hbb (by decide)
  have HQ:=hid (H1.out.set hk hj (k:=3) (by decide) (.bool false) { P k j with d:=false } (fun k' hk'=>by
   have:k'=0∨k'=1∨k'=2∨k'=3∨k'=4:=by omega
   rcases this with rfl | rfl | rfl | rfl | rfl <;> rfl) (H1.out.bnd.same rfl rfl rfl))
  have HO2:=hid ((HO.out.sub (show [] ⊆ [b] by simp)).setCell (p:=⟨b,k * 160+j * 5+3,none⟩) (.inl (.head _)) (.bool false));clear hr ho hok hl hn hcc hb hd e2;go_wp2_with fail;refine HA.out.mono ?_;rintro e w2 ⟨rfl,rfl⟩;go_wp2_with fail;go_ret2;exact ⟨⟨_,_,rfl⟩,HO2.out,_,HQ.out⟩
end
section
variable {w w':World} {b r:Nat} {gs:List Gr}
def GPl (xs:List Int):Prop:=∀ x ∈ xs,∃ j:Nat,x=(j:Int)∧j < 16
theorem gsuch_any (h:IsGr w b r gs) (fn:Nat) (caps:Array Value)
 (hf:∀ (x:Gr) (W:World),Only [] w W→Calls Tryz.prog fn (#[x.val] ++ caps) W fun e w'=>SaysB e∧Only [] W w')
 (hen:∀ args w,(callFunc fn args).run Tryz.prog w=.ok (.enter fn args) w) :
 Calls Tryz.prog 167 #[ptr b,.func (.func fn) #[] caps] w fun e w'=>∃ v xs,e=.returned v∧Only [] w w'∧PRowI w w' v xs∧xs.length≤16∧GPl xs:=by
 have HT:=hid (gthere_any h);have x0:=h.obj.at 0 (v:=.slice (some ⟨r,0,none⟩) 16 16) rfl;have H0:=hid h;obtain ⟨i0,hz,hz0,hz1,hz2⟩:=info_parts Tryz.infoInt;have HI0:=hid (And.intro hz (And.intro hz0 (And.intro hz1 hz2)));have HF:=hid hf;have HEN:=hid hen;clear h hz hz0 hz1 hz2 hf hen;go_enter Tryz.func167,Tryz.ntmps167;go_wp2_with fail;refine HT.out.mono ?_;rintro e w1 ⟨rfl,rfl⟩;go_wp2_with fail;go_loopg [5,16] 16 (fun q v i wr=>∃ (j:Nat) (xs:List Int),j+q=16∧i=.int .i64 j∧xs.length≤j∧Only [] w wr∧PRowI w wr v xs∧GPl xs)
 case atStart=>exact ⟨0,[],rfl,rfl,Nat.le_refl _,Only.refl _ _,⟨RowR.nil _ _ _,by simp [Value.ownBlock]⟩,fun x hx=>by simp at hx⟩
 case round=>
  obtain ⟨j,xs,hj,rfl,hl,ho,hr,hok⟩:=hrel;have HOK:=hid hok;obtain ⟨A,cap,rfl⟩:=hr.1.form;have HO:=hid ho;have HR:=hid hr;clear ho hr x0 hok;by_cases hlt:j < 16
  ·have hji:(j:Int) < 16:=by omega
   have hj0:(0:Int)≤j:=by omega
   have HP:=hid (H0.out.quiet HO.out);obtain ⟨g,hg⟩:∃ g,gs[j]?=some g:=⟨_,List.getElem?_eq_getElem (by have:=HP.out.len; omega)⟩;obtain ⟨y0,y1,y2,y3,y4⟩:=HP.out.cell hg;obtain ⟨o,p,t,wr',u⟩:=g;dsimp only at y0 y1 y2 y3 y4;obtain ⟨W,hW⟩:∃ W,wr.alloc (.cells #[.int .i64 o,.int .i64 p,.int .i64 t,.bool wr',.int .i64 u] 222)=W:=⟨_,rfl⟩;have q1:Only [] wr W:=by rw [← hW]; exact (Only.refl [] wr).alloc _
   have hX:Blk W wr.heap.size 222 #[.int .i64 o,.int .i64 p,.int .i64 t,.bool wr',.int .i64 u]:=by rw [← hW]; exact Blk.new _ _ _
   have HFX:=hid (HF.out ⟨o,p,t,wr',u⟩ W (HO.out.trans q1));rw [gr_out] at HFX;have HO1:=hid (HO.out.trans q1);have HQ1:=hid q1;have HW:=hid hW;have hen:=HEN.out;have ew:IntKind.i64.wrap ((j:Int)+1)=(j:Int)+1:=by rw [IntKind.wrap_i64]; omega
   clear hg q1 hW;go_upto_region 7 with fail;rw [HW.out];have z0:=hX.at 0 (v:=.int .i64 o) rfl;have z1:=hX.at 1 (v:=.int .i64 p) rfl;have z2:=hX.at 2 (v:=.int .i64 t) rfl;have z3:=hX.at 3 (v:=.bool wr') rfl;have z4:=hX.at 4 (v:=.int .i64 u) rfl;clear hX y0 y1 y2 y3 y4;go_wp2_with fail;refine HFX.out.mono ?_;rintro e w2 ⟨⟨bb,rfl⟩,ho2⟩;have HQ2:=hid (HQ1.out.trans ho2);have HO2:=hid (HO1.out.trans ho2);obtain ⟨n,hn⟩:∃ n,xs.length=n:=⟨_,rfl⟩;have hrow:=HR.out.1.quiet HQ2.out;have hown:=HR.out.2;rw [hn] at hrow hown hl;rw [hn];have hn4:n≤15:=by omega
   have q3:=(Only.refl [] w2).alloc (.cells #[.int .i64 j] 3);have HROW0:=hid hrow;have HROW:=hid (hrow.quiet q3);have HOWN:=hid hown;have HXS:=hid hn;have HO3:=hid (HO2.out.trans q3);have hsz:=HO2.out.size;have HU:=hid (show ∀ t u,[Value.int .i64 j][t]?=some u→(w2.alloc (.cells #[.int .i64 j] 3)).cell? ((⟨w2.heap.size,0,none⟩:Addr).add t)=some u from fun t u hu=>by
    rcases t with _ | t
    ·have hu:Value.int .i64 j=u:=by simpa using hu
     subst hu;exact (Blk.new w2 3 #[.int .i64 j]).at 0 rfl
    ·simp at hu)
   clear q3 hrow hown hn z0 z1 z2 z3 z4 ho2 hen;cases bb
   ·go_wp2_with fail;go_roundg (gk - 1)
    case measure=>omega
    case rel=>exact ⟨j+1,xs,by omega,by go_num,by rw [HXS.out]; omega,HO2.out,⟨by rw [HXS.out]; exact HROW0.out,HOWN.out⟩,HOK.out⟩
   ·go_wp2_with (first
     | (at_builtin; (refine wpList_append_R rfl (.tmp 24) (.tmp 26) 66 rfl 3 i0 (.int .i64 0) 1 8 Tryz.underlying66 HI0.out.1 HI0.out.2.1 HI0.out.2.2.1 HI0.out.2.2.2 rfl (by decide) (.slice A n cap) n (xs.map (Value.int .i64)) (by with_unfolding_all rfl) HROW.out ⟨w2.heap.size,0,none⟩ 1 1 [.int .i64 j] (by with_unfolding_all rfl) rfl HU.out (by intro u hu; simp at hu; subst hu; rfl) (by unfold maxLen; omega) (by omega) (fun v5 w5 hr5 ho5 hw5=>?_)))
     | fail)
    obtain ⟨A5,cap5,rfl⟩:=hr5.form;have hown5:∀ x,(Value.slice A5 (n+1) cap5).ownBlock=some x→w.heap.size≤x:=by
     intro x hx;rcases hw5 with h | h
     ·rw [h] at hx;exact HOWN.out x hx
     ·rw [h] at hx;have:(w2.alloc (.cells #[.int .i64 j] 3)).heap.size=x:=by simpa using hx
      simp at this;omega
    have q5:Only [] w w5:=HO3.out.then ho5 fun x hx=>.inr (HOWN.out x (Option.mem_toList.1 hx));have HO5:=hid q5;have HR5:=hid (show PRowI w w5 (.slice A5 (n+1) cap5) (xs ++ [(j:Int)]) from ⟨by rw [List.length_append,HXS.out,List.map_append]; exact hr5,hown5⟩);have HOK5:=hid (show GPl (xs ++ [(j:Int)]) from fun x hx=>by
     rcases List.mem_append.1 hx with hx | hx
     ·exact HOK.out x hx
     ·have hx:x=(j:Int):=by simpa using hx
      exact ⟨j,hx,hlt⟩)
    clear hr5 ho5 hw5 hown5 q5;go_wp2_with fail;go_roundg (gk - 1)
    case measure=>omega
    case rel=>exact ⟨j+1,xs ++ [(j:Int)],by omega,by go_num,by simp [HXS.out]; omega,HO5.out,HR5.out,HOK5.out⟩
  ·obtain rfl:j=16:=by omega
   go_wp2_with fail;go_ret;exact ⟨_,xs,rfl,HO.out,HR.out,hl,HOK.out⟩
theorem gofD_any (W:World) (x:Gr) {xb:Nat} {cs:Array Value} (hx:Blk W xb 222 cs) (h5:∃ o p t wr u,cs=#[.int .i64 o,.int .i64 p,.int .i64 t,.bool wr,.int .i64 u]):Calls Tryz.prog 189 #[x.val,ptr xb] W fun e w'=>SaysB e∧Only [] W w':=by
 obtain ⟨o2,p2,t2,wr2,u2,rfl⟩:=h5;obtain ⟨o,p,t,wr,u⟩:=x;rw [gr_out];have q:=hx.alloc (.cells #[.int .i64 o,.int .i64 p,.int .i64 t,.bool wr,.int .i64 u] 222);have y0:=q.at 0 (v:=.int .i64 o2) rfl;have y1:=q.at 1 (v:=.int .i64 p2) rfl;have y2:=q.at 2 (v:=.int .i64 t2) rfl;have y3:=q.at 3 (v:=.bool wr2) rfl;have y4:=q.at 4 (v:=.int .i64 u2) rfl;clear q hx;go_enter Tryz.func189,Tryz.ntmps189;go_wp2_with fail
 all_goals
  go_ret;exact ⟨⟨_,rfl⟩,(Only.refl _ _).alloc _⟩
theorem gdrD_any (W:World) (x:Gr) {xb:Nat} {g:Int} (hx:Blk W xb 3 #[.int .i64 g]):Calls Tryz.prog 168 #[x.val,ptr xb] W fun e w'=>SaysB e∧Only [] W w':=by
 obtain ⟨o,p,t,wr,u⟩:=x;have HF:=hid (fun W=>gfree_any W ⟨o,p,t,wr,u⟩);rw [gr_out] at HF ⊢;have HA:=hid ((Only.refl [] W).alloc (.cells #[.int .i64 o,.int .i64 p,.int .i64 t,.bool wr,.int .i64 u] 222));have HB:=hid (Blk.new W 222 #[.int .i64 o,.int .i64 p,.int .i64 t,.bool wr,.int .i64 u]);have HX:=hid (hx.alloc (.cells #[.int .i64 o,.int .i64 p,.int .i64 t,.bool wr,.int .i64 u] 222));clear hx;go_enter Tryz.func168,Tryz.ntmps168;go_wp2_with fail;refine (HF.out _).mono ?_;rintro e w1 ⟨⟨bb,rfl⟩,ho⟩;have hb:=HB.out.only ho (by simp);have hx:=HX.out.only ho (by simp);have z0:=hb.at 0 (v:=.int .i64 o) rfl;have z1:=hb.at 1 (v:=.int .i64 p) rfl;have z2:=hb.at 2 (v:=.int .i64 t) rfl;have z3:=hb.at 3 (v:=.bool wr) rfl;have z4:=hb.at 4 (v:=.int .i64 u) rfl;have y0:=hx.at 0 (v:=.int .i64 g) rfl;have HO:=hid (HA.out.trans ho);clear ho hb hx;cases bb
 ·go_wp2_with fail
  all_goals
   go_ret;exact ⟨⟨_,rfl⟩,HO.out⟩
 ·go_wp2_with fail;go_ret;exact ⟨⟨_,rfl⟩,HO.out⟩
theorem gdrop_any (h:IsGr w b r gs) (g:Int):Calls Tryz.prog 133 #[ptr b,.int .i64 g] w fun e w'=>SaysI e∧GrTo w w' b r:=by
 have q0:=(Only.refl [] w).alloc (.cells #[.int .i64 g] 3);have HS:=hid (gsuch_any (h.quiet q0) 168 #[ptr w.heap.size] (fun x W hW=>gdrD_any W x ((Blk.new w 3 #[.int .i64 g]).only hW (by simp))) (enters_of Tryz.func168 (by kernel_rfl) rfl));have H0:=hid (h.quiet q0);have HQ:=hid q0;clear h q0;go_enter Tryz.func133,Tryz.ntmps133;go_wp2_with fail;refine HS.out.mono ?_;rintro e w1 ⟨v,xs,rfl,ho,hr,hl,hok⟩;obtain ⟨A,cap,rfl⟩:=hr.1.form;have HO:=hid ((HQ.out.trans ho).sub (show [] ⊆ [r] by simp));have H1:=hid (H0.out.quiet ho);have HR:=hid hr.1;have HOK:=hid hok;obtain ⟨n,hn⟩:∃ n,xs.length=n:=⟨_,rfl⟩;have HN:=hid hn;have hrt:=hr.1.ne (H0.out.quiet ho).row (by decide);have HRT:=hid hrt;rw [hn] at hl;rw [hn];rw [hn] at HRT;clear ho hr hok hn hrt;go_wp2_with fail;go_loopg [13] n (fun q i wr=>∃ (j:Nat) (gs':List Gr),j+q=n∧i=.int .i64 j∧Only [r] w1 wr∧IsGr wr b r gs')
 case atStart=>exact ⟨0,_,by omega,rfl,Only.refl _ _,H1.out⟩
 case round=>
  obtain ⟨j,gs',hj,rfl,ho2,hg⟩:=hrel;have HO2:=hid ho2;have HG:=hid hg;have hrow:=HR.out;rw [HN.out] at hrow;by_cases hlt:j < n
  ·have hji:(j:Int) < n:=by omega
   have hj0:(0:Int)≤j:=by omega
   obtain ⟨x,hx⟩:∃ x,xs[j]?=some x:=⟨_,List.getElem?_eq_getElem (by rw [HN.out]; exact hlt)⟩;obtain ⟨m,rfl,hm⟩:=HOK.out x (List.mem_of_getElem? hx);obtain ⟨gg,cap',cur,hv,hb,hnc,_,_,hcc⟩:=(hrow.only ho2 (fun x hx e=>by
    have hx:x=r:=by simpa using hx
    subst hx;exact HRT.out e)).has (by omega)
   have xj:=hb.at j (hcc j (.int .i64 m) (by simp [hx]));injection hv with e1 e2 e3;subst e1 e3;have x0:=HG.out.obj.at 0 (v:=.slice (some ⟨r,0,none⟩) 16 16) rfl;have hmi:(m:Int) < 16:=by omega
   have hm0:(0:Int)≤m:=by omega
   have f0:=HG.out.row.frozen (m * 5);have f1:=HG.out.row.frozen (m * 5+1);have f2:=HG.out.row.frozen (m * 5+2);have f3:=HG.out.row.frozen (m * 5+3);have f4:=HG.out.row.frozen (m * 5+4);obtain ⟨y,hy⟩:∃ y,gs'[m]?=some y:=⟨_,List.getElem?_eq_getElem (by have:=HG.out.len; omega)⟩;obtain ⟨y0,y1,y2,y3,y4⟩:=HG.out.cell hy;have HS2:=hid (setG HG.out hm ⟨0,0,0,false,0⟩ ⟨by decide,by decide⟩);clear ho2 hg hrow hx hb hnc hcc hy e2;go_wp2_with fail;go_roundg (gk - 1)
   case measure=>omega
   case rel=>exact ⟨j+1,_,by omega,by go_num,HO2.out.trans HS2.out.2,HS2.out.1⟩
  ·obtain rfl:j=n:=by omega
   clear ho2 hg hrow;go_wp2_with fail;go_ret;exact ⟨⟨_,rfl⟩,HO.out.trans HO2.out,_,HG.out⟩
theorem madeG (n:Nat):madeCells (Value.agg #[.int .i64 0,.int .i64 0,.int .i64 0,.bool false,.int .i64 0]).cells (n * 5)=recs encG (List.replicate n ⟨0,0,0,false,0⟩):=by
 apply Array.ext_getElem?;intro i;by_cases hi:i < n * 5
 ·have e:(List.replicate n (⟨0,0,0,false,0⟩:Gr))[i / 5]?=some ⟨0,0,0,false,0⟩:=by rw [List.getElem?_replicate,if_pos (by omega)]
  have h:=recs_get encG_len (List.replicate n ⟨0,0,0,false,0⟩) e (i % 5) (Nat.mod_lt _ (by decide));rw [show i / 5 * 5+i % 5=i by omega] at h;rw [h];have hm:i % 5=0∨i % 5=1∨i % 5=2∨i % 5=3∨i % 5=4:=by omega
  rcases hm with hm | hm | hm | hm | hm <;> simp [madeCells,Value.cells,encG,hi,hm]
 ·have hs:=recs_size encG_len (List.replicate n ⟨0,0,0,false,0⟩);rw [List.length_replicate] at hs;rw [Array.getElem?_eq_none (by simp [madeCells]; omega),Array.getElem?_eq_none (by omega)]
theorem Tryz.infoGrant : (Tryz.prog.info? 222).map (fun i=>(i.zero,i.size,i.bytes))=some (some (.agg #[.int .i64 0,.int .i64 0,.int .i64 0,.bool false,.int .i64 0]),5,40):=by kernel_rfl
theorem mkG (W:World):(Instr.makeSlice 117 (.int .i64 16) (.int .i64 16)).run Tryz.prog W =
 .ok (.slice (some ⟨W.heap.size,0,none⟩) 16 16) (W.alloc (.cells (recs encG (List.replicate 16 ⟨0,0,0,false,0⟩)) 222)):=by
 obtain ⟨i0,hi,hz0,hz1,hz2⟩:=info_parts Tryz.infoGrant;have:=run_make W 117 222 i0 _ Tryz.underlying117 hi hz0 .i64 .i64 16 16 (by decide) (Int.le_refl _) (by rw [hz2]; omega) (by omega);rw [hz1] at this;have e:((16:Int).toNat)=16:=rfl;rw [e] at this;rw [this,madeG]
theorem gnew_any (w:World):Calls Tryz.prog 21 #[.int .i64 16] w fun e w'=>∃ b r,e=.returned (.tuple #[ptr b,.int .i64 0])∧w.heap.size≤b∧w.heap.size≤r∧Only [] w w'∧IsGrs w' b r:=by
 have hmk:=mkG;go_enter Tryz.func21,Tryz.ntmps21;go_wp2;go_ret2;refine ⟨_,_,rfl,Nat.le_succ _,Nat.le_refl _,((Only.refl _ _).alloc _).alloc _,List.replicate 16 ⟨0,0,0,false,0⟩,Blk.new' _ _ _ (by simp),(Blk.new _ _ _).alloc _,rfl,fun g hg=>?_⟩;rw [(List.mem_replicate.1 hg).2];exact ⟨by decide,by decide⟩
end
end Go.Proofs.YtadgpnoealegiaaGreat
