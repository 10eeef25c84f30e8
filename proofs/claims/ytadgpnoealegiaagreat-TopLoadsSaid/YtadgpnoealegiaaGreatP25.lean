import Derived.Test.YtadgpnoealegiaaGreatP15
namespace Go.Proofs.YtadgpnoealegiaaGreat
open Go.RowKit
open Go.Lib (hid)
set_option maxRecDepth 100000
set_option maxHeartbeats 20000000
structure Pt where
 s:Int
 g:Int
 p:Int
 d:Bool
 m:Bool
def Pt.val (x:Pt):Value:=.agg #[.int .i64 x.s,.int .i64 x.g,.int .i64 x.p,.bool x.d,.bool x.m]
theorem pt_out (s g p:Int) (d m:Bool):Pt.val ⟨s,g,p,d,m⟩=.agg #[.int .i64 s,.int .i64 g,.int .i64 p,.bool d,.bool m]:=rfl
def encT (x:Pt):List Value:=[.int .i64 x.s,.int .i64 x.g,.int .i64 x.p,.bool x.d,.bool x.m]
def zT : Pt:=⟨0,0,0,false,false⟩
def updT (P:Nat→Nat→Pt) (g i:Nat) (x:Pt):Nat→Nat→Pt:=fun g' i'=>if g'=g∧i'=i then x else P g' i'
def Bnd (P:Nat→Nat→Pt):Prop:=∀ g i,g < 16→i < 4→(P g i).s=2→∃ g' i':Nat,g' < 16∧i' < 4∧(P g i).g=(g':Int)+1∧(P g i).p=(i':Int)∧(P g' i').s=2∧(P g' i').g=(g:Int)+1∧(P g' i').p=(i:Int)
theorem Bnd.upd {P:Nat→Nat→Pt} (h:Bnd P) {g i:Nat} (h0:(P g i).s≠2) {x:Pt} (hx:x.s≠2):Bnd (updT P g i x):=by
 intro g1 i1 hg hi hs;unfold updT at hs ⊢;by_cases e:g1=g∧i1=i
 ·rw [if_pos e] at hs;exact absurd hs hx
 ·rw [if_neg e] at hs ⊢;obtain ⟨g2,i2,a1,a2,a3,a4,a5,a6,a7⟩:=h g1 i1 hg hi hs;refine ⟨g2,i2,a1,a2,a3,a4,?_⟩;by_cases e2:g2=g∧i2=i
  ·rw [e2.1,e2.2] at a5;exact absurd a5 h0
  ·rw [if_neg e2];exact ⟨a5,a6,a7⟩
theorem Bnd.same {P:Nat→Nat→Pt} (h:Bnd P) {g i:Nat} {x:Pt} (h1:x.s=(P g i).s) (h2:x.g=(P g i).g) (h3:x.p=(P g i).p):Bnd (updT P g i x):=by
 have key:∀ g' i',(updT P g i x g' i').s=(P g' i').s∧(updT P g i x g' i').g=(P g' i').g∧(updT P g i x g' i').p=(P g' i').p:=fun g' i'=>by
  unfold updT;by_cases e:g'=g∧i'=i
  ·rw [if_pos e,e.1,e.2];exact ⟨h1,h2,h3⟩
  ·rw [if_neg e];exact ⟨rfl,rfl,rfl⟩
 intro g1 i1 hg hi hs;rw [(key g1 i1).1] at hs;obtain ⟨g2,i2,a1,a2,a3,a4,a5,a6,a7⟩:=h g1 i1 hg hi hs;exact ⟨g2,i2,a1,a2,by rw [(key g1 i1).2.1]; exact a3,by rw [(key g1 i1).2.2]; exact a4,by rw [(key g2 i2).1]; exact a5,by rw [(key g2 i2).2.1]; exact a6,by rw [(key g2 i2).2.2]; exact a7⟩
theorem Bnd.bind {P:Nat→Nat→Pt} (h:Bnd P) {g i g' i':Nat} (hg:g < 16) (hi:i < 4) (hg':g' < 16) (hi':i' < 4) (hne:¬ (g'=g∧i'=i)) (h0:(P g i).s≠2) (h1:(P g' i').s≠2) {x y:Pt}
 (x1:x.s=2) (x2:x.g=(g':Int)+1) (x3:x.p=(i':Int)) (y1:y.s=2) (y2:y.g=(g:Int)+1) (y3:y.p=(i:Int)):Bnd (updT (updT P g i x) g' i' y):=by
 intro g1 i1 hg1 hi1 hs;by_cases e':g1=g'∧i1=i'
 ·obtain ⟨rfl,rfl⟩:=e';refine ⟨g,i,hg,hi,?_⟩;unfold updT;rw [if_pos ⟨rfl,rfl⟩,if_neg (by rintro ⟨rfl,rfl⟩; exact hne ⟨rfl,rfl⟩),if_pos ⟨rfl,rfl⟩];exact ⟨y2,y3,x1,x2,x3⟩
 ·by_cases e:g1=g∧i1=i
  ·obtain ⟨rfl,rfl⟩:=e;refine ⟨g',i',hg',hi',?_⟩;unfold updT;rw [if_neg e',if_pos ⟨rfl,rfl⟩,if_pos ⟨rfl,rfl⟩];exact ⟨x2,x3,y1,y2,y3⟩
  ·unfold updT at hs ⊢;rw [if_neg e',if_neg e] at hs;obtain ⟨g2,i2,a1,a2,a3,a4,a5,a6,a7⟩:=h g1 i1 hg1 hi1 hs;refine ⟨g2,i2,a1,a2,?_⟩;rw [if_neg e',if_neg e,if_neg (by rintro ⟨rfl,rfl⟩; exact h1 a5),if_neg (by rintro ⟨rfl,rfl⟩; exact h0 a5)];exact ⟨a3,a4,a5,a6,a7⟩
theorem Bnd.cut {P:Nat→Nat→Pt} (h:Bnd P) {g i g' i':Nat} (hg:g < 16) (hi:i < 4) (hs:(P g i).s=2) (e1:(P g i).g=(g':Int)+1) (e2:(P g i).p=(i':Int)) {x y:Pt} (hy:y.s≠2) (hx:x.s≠2):Bnd (updT (updT P g' i' y) g i x):=by
 intro g1 i1 hg1 hi1 hs1;by_cases e:g1=g∧i1=i
 ·obtain ⟨rfl,rfl⟩:=e;unfold updT at hs1;rw [if_pos ⟨rfl,rfl⟩] at hs1;exact absurd hs1 hx
 ·by_cases e':g1=g'∧i1=i'
  ·obtain ⟨rfl,rfl⟩:=e';unfold updT at hs1;rw [if_neg e,if_pos ⟨rfl,rfl⟩] at hs1;exact absurd hs1 hy
  ·unfold updT at hs1 ⊢;rw [if_neg e,if_neg e'] at hs1;obtain ⟨g2,i2,a1,a2,a3,a4,a5,a6,a7⟩:=h g1 i1 hg1 hi1 hs1;refine ⟨g2,i2,a1,a2,?_⟩;rw [if_neg e,if_neg e',if_neg,if_neg]
   ·exact ⟨a3,a4,a5,a6,a7⟩
   ·rintro ⟨rfl,rfl⟩;obtain ⟨g3,i3,b1,b2,b3,b4,b5,b6,b7⟩:=h g i hg hi hs;have:g3=g2∧i3=i2:=by omega
    obtain ⟨rfl,rfl⟩:=this;apply e;omega
   ·rintro ⟨rfl,rfl⟩;apply e';omega
structure IsPo (w:World) (b:Nat) (P:Nat→Nat→Pt):Prop where
 blk:∃ cs,Blk w b 125 cs∧cs.size=2561∧cs[2560]?=some (.int .i64 4)∧∀ g i,g < 16→i < 4→∀ k,k < 5→cs[g * 160+i * 5+k]?=(encT (P g i))[k]?
 bnd:Bnd P
section
variable {w w':World} {b:Nat} {P:Nat→Nat→Pt}
theorem IsPo.only {S:List Nat} (h:IsPo w b P) (o:Only S w w') (hb:b ∉ S):IsPo w' b P:=by
 obtain ⟨cs,h1,h2⟩:=h.blk;exact ⟨⟨cs,h1.only o hb,h2⟩,h.bnd⟩
theorem IsPo.quiet (h:IsPo w b P) (o:Only [] w w'):IsPo w' b P:=h.only o (by simp)
theorem IsPo.lt (h:IsPo w b P):b < w.heap.size:=by
 obtain ⟨cs,h1,h2⟩:=h.blk;exact h1.lt
theorem IsPo.room (h:IsPo w b P):w.cell? ⟨b,2560,none⟩=some (.int .i64 4):=by
 obtain ⟨cs,h1,h2,h3,h4⟩:=h.blk;exact h1.at 2560 h3
theorem IsPo.cell (h:IsPo w b P) {g i:Nat} (hg:g < 16) (hi:i < 4):w.cell? ⟨b,g * 160+i * 5,none⟩=some (.int .i64 (P g i).s)∧w.cell? ⟨b,g * 160+i * 5+1,none⟩=some (.int .i64 (P g i).g)∧w.cell? ⟨b,g * 160+i * 5+2,none⟩=some (.int .i64 (P g i).p)∧w.cell? ⟨b,g * 160+i * 5+3,none⟩=some (.bool (P g i).d)∧w.cell? ⟨b,g * 160+i * 5+4,none⟩=some (.bool (P g i).m):=by
 obtain ⟨cs,h1,h2,h3,h4⟩:=h.blk;exact ⟨h1.at _ (h4 g i hg hi 0 (by decide)),h1.at _ (h4 g i hg hi 1 (by decide)),h1.at _ (h4 g i hg hi 2 (by decide)),h1.at _ (h4 g i hg hi 3 (by decide)),h1.at _ (h4 g i hg hi 4 (by decide))⟩
theorem IsPo.frozen (h:IsPo w b P) (i:Nat):w.frozen? ⟨b,i,none⟩=false:=by
 obtain ⟨cs,h1,h2⟩:=h.blk;exact h1.frozen i
theorem IsPo.set (h:IsPo w b P) {g i k:Nat} (hg:g < 16) (hi:i < 4) (hk:k < 5) (v:Value) (x:Pt) (hx:∀ k',k' < 5→(encT x)[k']?=if k'=k then some v else (encT (P g i))[k']?) (hB:Bnd (updT P g i x)):IsPo (w.setCell ⟨b,g * 160+i * 5+k,none⟩ v) b (updT P g i x):=by
 obtain ⟨cs,h1,h2,h3,h4⟩:=h.blk;refine ⟨⟨_,h1.set _ v,by simpa using h2,by rw [Array.getElem?_setIfInBounds_ne (by omega)]; exact h3,fun g' i' hg' hi' k' hk'=>?_⟩,hB⟩;unfold updT;by_cases e:g'=g∧i'=i
 ·obtain ⟨rfl,rfl⟩:=e;rw [if_pos ⟨rfl,rfl⟩,hx k' hk'];by_cases e2:k'=k
  ·subst e2;rw [if_pos rfl,Array.getElem?_setIfInBounds_self_of_lt (by omega)]
  ·rw [if_neg e2,Array.getElem?_setIfInBounds_ne (by omega)];exact h4 _ _ hg' hi' _ hk'
 ·rw [if_neg e,Array.getElem?_setIfInBounds_ne (by omega)];exact h4 _ _ hg' hi' _ hk'
structure IsPo' (w:World) (b:Nat) (P:Nat→Nat→Pt):Prop where
 blk:∃ cs,Blk w b 125 cs∧cs.size=2561∧cs[2560]?=some (.int .i64 4)∧∀ g i,g < 16→i < 4→∀ k,k < 5→cs[g * 160+i * 5+k]?=(encT (P g i))[k]?
theorem IsPo.raw (h:IsPo w b P):IsPo' w b P:=⟨h.blk⟩
theorem IsPo'.up (h:IsPo' w b P) (hB:Bnd P):IsPo w b P:=⟨h.blk,hB⟩
theorem IsPo'.only {S:List Nat} (h:IsPo' w b P) (o:Only S w w') (hb:b ∉ S):IsPo' w' b P:=by
 obtain ⟨cs,h1,h2⟩:=h.blk;exact ⟨⟨cs,h1.only o hb,h2⟩⟩
theorem IsPo'.set (h:IsPo' w b P) {g i k:Nat} (hg:g < 16) (hi:i < 4) (hk:k < 5) (v:Value) (x:Pt) (hx:∀ k',k' < 5→(encT x)[k']?=if k'=k then some v else (encT (P g i))[k']?):IsPo' (w.setCell ⟨b,g * 160+i * 5+k,none⟩ v) b (updT P g i x):=by
 obtain ⟨cs,h1,h2,h3,h4⟩:=h.blk;refine ⟨⟨_,h1.set _ v,by simpa using h2,by rw [Array.getElem?_setIfInBounds_ne (by omega)]; exact h3,fun g' i' hg' hi' k' hk'=>?_⟩⟩;unfold updT;by_cases e:g'=g∧i'=i
 ·obtain ⟨rfl,rfl⟩:=e;rw [if_pos ⟨rfl,rfl⟩,hx k' hk'];by_cases e2:k'=k
  ·subst e2;rw [if_pos rfl,Array.getElem?_setIfInBounds_self_of_lt (by omega)]
  ·rw [if_neg e2,Array.getElem?_setIfInBounds_ne (by omega)];exact h4 _ _ hg' hi' _ hk'
 ·rw [if_neg e,Array.getElem?_setIfInBounds_ne (by omega)];exact h4 _ _ hg' hi' _ hk'
theorem updT_twice (P:Nat→Nat→Pt) (g i:Nat) (x y:Pt):updT (updT P g i x) g i y=updT P g i y:=by
 funext g' i';unfold updT;by_cases e:g'=g∧i'=i
 ·rw [if_pos e,if_pos e]
 ·rw [if_neg e,if_neg e,if_neg e]
theorem updT_at (P:Nat→Nat→Pt) (g i:Nat) (x:Pt):updT P g i x g i=x:=by
 unfold updT;rw [if_pos ⟨rfl,rfl⟩]
theorem IsPo'.lay (h:IsPo' w b P) {g i:Nat} (hg:g < 16) (hi:i < 4) (x:Pt) :
 IsPo' (((((w.setCell ⟨b,g * 160+i * 5,none⟩ (.int .i64 x.s)).setCell ⟨b,g * 160+i * 5+1,none⟩ (.int .i64 x.g)).setCell ⟨b,g * 160+i * 5+2,none⟩ (.int .i64 x.p)).setCell ⟨b,g * 160+i * 5+3,none⟩ (.bool x.d)).setCell ⟨b,g * 160+i * 5+4,none⟩ (.bool x.m)) b (updT P g i x):=by
 have four:∀ {k:Nat},k < 5→k=0∨k=1∨k=2∨k=3∨k=4:=fun h=>by omega
 have q0:=h.set (k:=0) hg hi (by decide) (.int .i64 x.s) { P g i with s:=x.s } (fun k' hk=>by rcases four hk with rfl | rfl | rfl | rfl | rfl <;> rfl);have q1:=q0.set (k:=1) hg hi (by decide) (.int .i64 x.g) { P g i with s:=x.s,g:=x.g } (fun k' hk=>by rw [updT_at]; rcases four hk with rfl | rfl | rfl | rfl | rfl <;> rfl);rw [updT_twice] at q1;have q2:=q1.set (k:=2) hg hi (by decide) (.int .i64 x.p) { P g i with s:=x.s,g:=x.g,p:=x.p } (fun k' hk=>by rw [updT_at]; rcases four hk with rfl | rfl | rfl | rfl | rfl <;> rfl);rw [updT_twice] at q2;have q3:=q2.set (k:=3) hg hi (by decide) (.bool x.d) { P g i with s:=x.s,g:=x.g,p:=x.p,d:=x.d } (fun k' hk=>by rw [updT_at]; rcases four hk with rfl | rfl | rfl | rfl | rfl <;> rfl);rw [updT_twice] at q3;have q4:=q3.set (k:=4) hg hi (by decide) (.bool x.m) x (fun k' hk=>by rw [updT_at]; rcases four hk with rfl | rfl | rfl | rfl | rfl <;> rfl);rw [updT_twice] at q4;exact q4
theorem pthere_any (h:IsPo w b P):Calls Tryz.prog 170 #[ptr b] w fun e w'=>e=.returned (.bool true)∧w=w':=by
 have x0:=h.room;clear h;go_enter Tryz.func170,Tryz.ntmps170;go_wp2_with fail;go_ret;exact ⟨rfl,rfl⟩
theorem pguest_any (w:World) (n:Int):Calls Tryz.prog 171 #[.int .i64 n] w fun e w'=>e=.returned (.bool (decide (1≤n) && decide (n≤16)))∧w=w':=by
 by_cases h1:1≤n
 ·have d1:decide (1≤n)=true:=decide_eq_true h1;by_cases h2:n≤16
  ·have d2:decide (n≤16)=true:=decide_eq_true h2;rw [d1,d2];go_enter Tryz.func171,Tryz.ntmps171;go_wp2_with fail;go_ret;exact ⟨rfl,rfl⟩
  ·have d2:decide (n≤16)=false:=decide_eq_false h2;rw [d1,d2];go_enter Tryz.func171,Tryz.ntmps171;go_wp2_with fail;go_ret;exact ⟨rfl,rfl⟩
 ·have d1:decide (1≤n)=false:=decide_eq_false h1;rw [d1,Bool.false_and];go_enter Tryz.func171,Tryz.ntmps171;go_wp2_with fail;go_ret;exact ⟨rfl,rfl⟩
theorem pmiss_any (h:IsPo w b P):Calls Tryz.prog 194 #[ptr b] w fun e w'=>e=.returned (.int .i64 4)∧w=w':=by
 have HT:=hid (pthere_any h);clear h;go_enter Tryz.func194,Tryz.ntmps194;go_wp2_with fail;refine HT.out.mono ?_;rintro e w1 ⟨rfl,rfl⟩;go_wp2_with fail;go_ret;exact ⟨rfl,rfl⟩
def PAt (P:Nat→Nat→Pt) (b:Nat) (g i:Int) (e:Ending):Prop:=
 (e=.returned (.pointer none)∧∀ g' i':Nat,g' < 16→i' < 4→g=(g':Int)+1→i=(i':Int)→P g' i'=zT) ∨
 ∃ g' i':Nat,g' < 16∧i' < 4∧g=(g':Int)+1∧i=(i':Int)∧e=.returned (.pointer (some ⟨b,g' * 160+i' * 5,none⟩))
theorem pat_any (h:IsPo w b P) (g i:Int):Calls Tryz.prog 172 #[ptr b,.int .i64 g,.int .i64 i] w fun e w'=>PAt P b g i e∧w=w':=by
 have HT:=hid (pthere_any h);have HG:=hid (fun W=>pguest_any W g);have x0:=h.room;by_cases h1:1≤g∧g≤16
 ·obtain ⟨k,rfl⟩:∃ k:Nat,g=(k:Int)+1:=⟨(g - 1).toNat,by omega⟩;have hk:k < 16:=by omega
  rw [decide_eq_true (show (1:Int)≤(k:Int)+1 by omega),decide_eq_true (show (k:Int)+1≤16 by omega)] at HG;by_cases h2:0≤i
  ·obtain ⟨j,rfl⟩:=Int.eq_ofNat_of_zero_le h2;have d2:decide ((j:Int) < 0)=false:=decide_eq_false (by omega);by_cases h3:j < 4
   ·have d3:decide ((4:Int)≤(j:Int))=false:=decide_eq_false (by omega);have ew:IntKind.i64.wrap ((k:Int)+1 - 1)=(k:Int):=by rw [IntKind.wrap_i64]; omega
    obtain ⟨y0,y1,y2,y3,y4⟩:=h.cell hk h3;obtain ⟨⟨s,gg,p,d,m⟩,hP⟩:∃ x,P k j=x:=⟨_,rfl⟩;rw [hP] at y0 y1 y2 y3 y4;dsimp only at y0 y1 y2 y3 y4;have HP:=hid hP;have hk0:(0:Int)≤(k:Int):=by omega
    have hk1:(k:Int) < 16:=by omega
    have hj0:(0:Int)≤(j:Int):=by omega
    have hj1:(j:Int) < 32:=by omega
    clear h hP h1 h2;go_enter Tryz.func172,Tryz.ntmps172;go_wp2_with fail;refine HT.out.mono ?_;rintro e w1 ⟨rfl,rfl⟩;go_wp2_with fail;refine (HG.out _).mono ?_;rintro e w1 ⟨rfl,rfl⟩;go_wp2_with fail
    all_goals
     go_ret
     first
      | (refine ⟨.inr ⟨k,j,hk,h3,rfl,rfl,rfl⟩,rfl⟩; done)
      | (refine ⟨.inl ⟨rfl,fun g' i' _ _ e1 e2=>?_⟩,rfl⟩
         have e3:g'=k:=by omega
         have e4:i'=j:=by omega
         rw [e3,e4,HP.out];unfold zT;rw [Pt.mk.injEq];exact ⟨‹s=0›,‹gg=0›,‹p=0›,by simpa using ‹¬d=true›,by simpa using ‹¬m=true›⟩)
   ·have d3:decide ((4:Int)≤(j:Int))=true:=decide_eq_true (by omega);clear h h1 h2;go_enter Tryz.func172,Tryz.ntmps172;go_wp2_with fail;refine HT.out.mono ?_;rintro e w1 ⟨rfl,rfl⟩;go_wp2_with fail;refine (HG.out _).mono ?_;rintro e w1 ⟨rfl,rfl⟩;go_wp2_with fail;go_ret;exact ⟨.inl ⟨rfl,fun g' i' _ h4 _ e2=>by omega⟩,rfl⟩
  ·have d2:decide (i < 0)=true:=decide_eq_true (by omega);clear h h1;go_enter Tryz.func172,Tryz.ntmps172;go_wp2_with fail;refine HT.out.mono ?_;rintro e w1 ⟨rfl,rfl⟩;go_wp2_with fail;refine (HG.out _).mono ?_;rintro e w1 ⟨rfl,rfl⟩;go_wp2_with fail;go_ret;exact ⟨.inl ⟨rfl,fun g' i' _ h4 _ e2=>by omega⟩,rfl⟩
 ·have hgf:(decide (1≤g) && decide (g≤16))=false:=by
   rw [Bool.and_eq_false_iff];by_cases h2:1≤g
   ·exact .inr (decide_eq_false (by omega))
   ·exact .inl (decide_eq_false h2)
  rw [hgf] at HG;have HH1:=hid h1;clear h hgf h1;go_enter Tryz.func172,Tryz.ntmps172;go_wp2_with fail;refine HT.out.mono ?_;rintro e w1 ⟨rfl,rfl⟩;go_wp2_with fail;refine (HG.out _).mono ?_;rintro e w1 ⟨rfl,rfl⟩;go_wp2_with fail;go_ret;exact ⟨.inl ⟨rfl,fun g' i' h3 h4 e1 e2=>absurd (show 1≤g∧g≤16 by omega) HH1.out⟩,rfl⟩
def PPlace (P:Nat→Nat→Pt) (k:Nat) (e:Ending):Prop:=e=.returned (.int .i64 (-1))∨∃ j:Nat,j < 4∧(P k j).s≠2∧e=.returned (.int .i64 j)
theorem pplace_any (h:IsPo w b P) (k:Nat) (hk:k < 16):Calls Tryz.prog 211 #[ptr b,.int .i64 ((k:Int)+1)] w fun e w'=>PPlace P k e∧w=w':=by
 have HA:=hid (fun j=>pat_any h ((k:Int)+1) j);have x0:=h.room;clear h;go_enter Tryz.func211,Tryz.ntmps211;go_wp2_with fail;go_loopg [10] 4 (fun q i wr=>∃ j:Nat,j+q=4∧i=.int .i64 j∧w=wr)
 case atStart=>exact ⟨0,rfl,rfl,rfl⟩
 case round=>
  obtain ⟨j,hj,rfl,rfl⟩:=hrel;by_cases hlt:j < 4
  ·have HAj:=hid (HA.out j);have hji:(j:Int) < 4:=by omega
   go_wp2_with fail;refine HAj.out.mono ?_;rintro e w1 ⟨hp,rfl⟩;rcases hp with ⟨rfl,h2⟩ | ⟨g',i',h1,h2,h3,h4,rfl⟩
   ·have HP:=hid (h2 k j hk hlt rfl rfl);clear h2;go_wp2_with fail;go_ret;exact ⟨.inr ⟨j,hlt,by rw [HP.out]; decide,rfl⟩,rfl⟩
   ·clear h3 h4;go_wp2_with fail;go_roundg (gk - 1)
    case measure=>omega
    case rel=>exact ⟨j+1,by omega,by go_num,rfl⟩
  ·obtain rfl:j=4:=by omega
   go_wp2_with fail;go_ret;exact ⟨.inl rfl,rfl⟩
theorem ptwo_any (h:IsPo w b P) (k:Nat) (hk:k < 16) (a:Int):Calls Tryz.prog 192 #[ptr b,.int .i64 ((k:Int)+1),.int .i64 a] w fun e w'=>(e=.returned (.int .i64 1)∨(e=.returned (.int .i64 0)∧1≤a∧a≤16∧a≠(k:Int)+1))∧w=w':=by
 have HT:=hid (pthere_any h);have HG:=hid (fun W=>pguest_any W ((k:Int)+1));rw [decide_eq_true (show (1:Int)≤(k:Int)+1 by omega),decide_eq_true (show (k:Int)+1≤16 by omega)] at HG;have HA:=hid (fun W=>pguest_any W a);by_cases h1:1≤a∧a≤16
 ·rw [decide_eq_true h1.1,decide_eq_true h1.2] at HA;have H1:=hid h1;clear h h1;by_cases h2:a=(k:Int)+1
  ·have d2:((k:Int)+1 == a)=true:=beq_iff_eq.2 h2.symm;clear h2;go_enter Tryz.func192,Tryz.ntmps192;go_wp2_with fail;refine HT.out.mono ?_;rintro e w1 ⟨rfl,rfl⟩;go_wp2_with fail;refine (HG.out _).mono ?_;rintro e w1 ⟨rfl,rfl⟩;go_wp2_with fail;refine (HA.out _).mono ?_;rintro e w1 ⟨rfl,rfl⟩;go_wp2_with fail;go_ret;exact ⟨.inl rfl,rfl⟩
  ·have d2:((k:Int)+1 == a)=false:=beq_eq_false_iff_ne.2 fun e=>h2 e.symm;have H2:=hid h2;clear h2;go_enter Tryz.func192,Tryz.ntmps192;go_wp2_with fail;refine HT.out.mono ?_;rintro e w1 ⟨rfl,rfl⟩;go_wp2_with fail;refine (HG.out _).mono ?_;rintro e w1 ⟨rfl,rfl⟩;go_wp2_with fail;refine (HA.out _).mono ?_;rintro e w1 ⟨rfl,rfl⟩;go_wp2_with fail;go_ret;exact ⟨.inr ⟨rfl,H1.out.1,H1.out.2,H2.out⟩,rfl⟩
 ·have hgf:(decide (1≤a) && decide (a≤16))=false:=by
   rw [Bool.and_eq_false_iff];by_cases h2:1≤a
   ·exact .inr (decide_eq_false (by omega))
   ·exact .inl (decide_eq_false h2)
  rw [hgf] at HA;clear h hgf h1;go_enter Tryz.func192,Tryz.ntmps192;go_wp2_with fail;refine HT.out.mono ?_;rintro e w1 ⟨rfl,rfl⟩;go_wp2_with fail;refine (HG.out _).mono ?_;rintro e w1 ⟨rfl,rfl⟩;go_wp2_with fail;refine (HA.out _).mono ?_;rintro e w1 ⟨rfl,rfl⟩;go_wp2_with fail;go_ret;exact ⟨.inl rfl,rfl⟩
theorem lay5 (h:IsPo' w b P) {g i:Nat} (hg:g < 16) (hi:i < 4) (s gg p:Int) (d m:Bool):IsPo' (((((w.setCell ⟨b,g * 160+i * 5,none⟩ (.int .i64 s)).setCell ⟨b,g * 160+i * 5+1,none⟩ (.int .i64 gg)).setCell ⟨b,g * 160+i * 5+2,none⟩ (.int .i64 p)).setCell ⟨b,g * 160+i * 5+3,none⟩ (.bool d)).setCell ⟨b,g * 160+i * 5+4,none⟩ (.bool m)) b (updT P g i ⟨s,gg,p,d,m⟩):=
 h.lay hg hi ⟨s,gg,p,d,m⟩
theorem only5 {S:List Nat} {a W:World} {b o:Nat} (h:Only S a W) (hb:b ∈ S∨a.heap.size≤b) (y0 y1 y2 y3 y4:Value):Only S a (((((W.setCell ⟨b,o,none⟩ y0).setCell ⟨b,o+1,none⟩ y1).setCell ⟨b,o+2,none⟩ y2).setCell ⟨b,o+3,none⟩ y3).setCell ⟨b,o+4,none⟩ y4):=
 ((((h.setCell hb _).setCell hb _).setCell hb _).setCell hb _).setCell hb _
def PLay (P:Nat→Nat→Pt) (b k:Nat) (x:Pt) (w:World) (e:Ending) (w':World):Prop:=
 Only [b] w w'∧((e=.returned (.tuple #[.int .i64 0,.int .i64 3])∧IsPo' w' b P)∨∃ j:Nat,j < 4∧(P k j).s≠2∧e=.returned (.tuple #[.int .i64 j,.int .i64 0])∧IsPo' w' b (updT P k j x))
theorem play_any (h:IsPo w b P) (k:Nat) (hk:k < 16) (x:Pt):Calls Tryz.prog 193 #[ptr b,.int .i64 ((k:Int)+1),x.val] w (PLay P b k x w):=by
 obtain ⟨s,gg,p,d,m⟩:=x;rw [pt_out];have q0:=(Only.refl [] w).alloc (.cells #[.int .i64 s,.int .i64 gg,.int .i64 p,.bool d,.bool m] 121);have HX:=hid (Blk.new w 121 #[.int .i64 s,.int .i64 gg,.int .i64 p,.bool d,.bool m]);have HP:=hid (pplace_any (h.quiet q0) k hk);have H0:=hid (h.quiet q0);have HQ:=hid (q0.sub (show [] ⊆ [b] by simp));have hbl:=h.lt;clear h q0;go_enter Tryz.func193,Tryz.ntmps193;go_wp2_with fail;refine HP.out.mono ?_;rintro e w1 ⟨hp,rfl⟩;rcases hp with rfl | ⟨j,hj,hs,rfl⟩
 ·go_wp2_with fail;go_ret2;exact ⟨HQ.out,.inl ⟨rfl,H0.out.raw⟩⟩
 ·have HNS:=hid hs;have ew:IntKind.i64.wrap (k:Int)=(k:Int):=by rw [IntKind.wrap_i64]; omega
  have hk0:(0:Int)≤(k:Int):=by omega
  have hk1:(k:Int) < 16:=by omega
  have hj0:(0:Int)≤(j:Int):=by omega
  have hj1:(j:Int) < 32:=by omega
  have dj:((j:Int) == -1)=false:=beq_eq_false_iff_ne.2 (by omega);have f0:=H0.out.frozen (k * 160+j * 5);have f1:=H0.out.frozen (k * 160+j * 5+1);have f2:=H0.out.frozen (k * 160+j * 5+2);have f3:=H0.out.frozen (k * 160+j * 5+3);have f4:=H0.out.frozen (k * 160+j * 5+4);have x0:=HX.out.at 0 (v:=.int .i64 s) rfl;have x1:=HX.out.at 1 (v:=.int .i64 gg) rfl;have x2:=HX.out.at 2 (v:=.int .i64 p) rfl;have x3:=HX.out.at 3 (v:=.bool d) rfl;have x4:=HX.out.at 4 (v:=.bool m) rfl;have hbw:b≠w.heap.size:=by omega
  obtain ⟨W,hW⟩:∃ W,w.alloc (.cells #[.int .i64 s,.int .i64 gg,.int .i64 p,.bool d,.bool m] 121)=W:=⟨_,rfl⟩;rw [hW] at f0 f1 f2 f3 f4 x0 x1 x2 x3 x4 H0 HQ;rw [hW];obtain ⟨y0,y1,y2,y3,y4⟩:=H0.out.cell hk hj;clear hs hW;go_wp2_with fail;obtain ⟨S,hS⟩:∃ S:World→Prop,S=(fun w'=>w'.cell? ⟨w.heap.size,0,none⟩=some (.int .i64 s)∧w'.cell? ⟨w.heap.size,1,none⟩=some (.int .i64 gg)∧w'.cell? ⟨w.heap.size,2,none⟩=some (.int .i64 p)∧w'.cell? ⟨w.heap.size,3,none⟩=some (.bool d)∧w'.cell? ⟨w.heap.size,4,none⟩=some (.bool m)):=⟨_,rfl⟩;have HS:=hid hS;clear hS;refine wp_region_lead 5 S (by kernel_rfl) (by kernel_rfl) (by rw [HS.out]; exact ⟨x0,x1,x2,x3,x4⟩) ?_;simp only [List.take_succ_cons,List.take_zero,List.drop_succ_cons,List.drop_zero]
  repeat
   (refine lstep rfl ?_
    apply Exists.intro;refine ⟨fun w' hw'=>?_,?_⟩
    ·rw [HS.out] at hw';obtain ⟨p0,p1,p2,p3,p4⟩:=hw';go_simp;with_reducible rfl
    go_simp)
  refine lnil ?_;refine ltail rfl fun K hK=>?_;go_simp;refine hK _ _ (by rw [HS.out]; exact ⟨x0,x1,x2,x3,x4⟩) ?_;clear hK K;refine ltail rfl fun K hK=>?_;go_simp;refine hK _ _ (by rw [HS.out]; exact ⟨x0,x1,x2,x3,x4⟩) ?_;clear hK K;refine ltail rfl fun K hK=>?_;go_simp;refine hK _ _ (by rw [HS.out]; exact ⟨x0,x1,x2,x3,x4⟩) ?_;clear hK K;refine ltail rfl fun K hK=>?_;go_simp;refine hK _ _ (by rw [HS.out]; exact ⟨x0,x1,x2,x3,x4⟩) ?_;clear hK K;refine llast rfl fun K hK=>?_;go_simp;refine hK _ _ (NoPanic.normal ?_);clear hK K;have hl:=lay5 H0.out.raw hk hj s gg p d m;obtain ⟨W4,hW4⟩:∃ W4,(((((W.setCell ⟨b,k * 160+j * 5,none⟩ (.int .i64 s)).setCell ⟨b,k * 160+j * 5+1,none⟩ (.int .i64 gg)).setCell ⟨b,k * 160+j * 5+2,none⟩ (.int .i64 p)).setCell ⟨b,k * 160+j * 5+3,none⟩ (.bool d)).setCell ⟨b,k * 160+j * 5+4,none⟩ (.bool m)).drew=W4:=⟨_,rfl⟩;have HL:=hid (show IsPo' W4 b (updT P k j ⟨s,gg,p,d,m⟩) from by rw [← hW4]; exact hl.only ((Only.refl [] _).drew) (by simp));have HO:=hid (show Only [b] w W4 from by rw [← hW4]; exact (only5 (b:=b) (o:=k * 160+j * 5) HQ.out (.inl (.head _)) (.int .i64 s) (.int .i64 gg) (.int .i64 p) (.bool d) (.bool m)).drew);rw [hW4];clear hl hW4;go_wp2_with fail;go_ret2;exact ⟨HO.out,.inr ⟨j,hj,HNS.out,rfl,HL.out⟩⟩
end
end Go.Proofs.YtadgpnoealegiaaGreat
