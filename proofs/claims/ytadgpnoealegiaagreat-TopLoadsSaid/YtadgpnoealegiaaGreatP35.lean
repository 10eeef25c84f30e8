import Derived.Test.YtadgpnoealegiaaGreatP32
import Derived.Test.YtadgpnoealegiaaGreatP34
namespace Go.Proofs.YtadgpnoealegiaaGreat
open Go.RowKit
open Go.Lib (hid)
set_option maxRecDepth 100000
set_option maxHeartbeats 20000000
section
attribute [local irreducible] wpQuiet
def StA (w:World) (tb mb ms pb pr:Nat) (o r:Int) (L:List Int) (ps:List D) (P:Nat→Int→Prop) (v:Value) (n:Nat) (wr:World):Prop:=
 ∃ ys:List Int,ys.length=n∧(∀ x ∈ ys,∃ l,P l x)∧RowR wr 3 1 v n (ys.map (Value.int .i64))∧Only [mb,ms] w wr∧IsT wr tb mb ms pb pr o r false L ps
theorem StA.quiet {w wr wx:World} {tb mb ms pb pr:Nat} {o r:Int} {L:List Int} {ps:List D} {P:Nat→Int→Prop} {v:Value} {n:Nat} (h:StA w tb mb ms pb pr o r L ps P v n wr) (q:Only [] wr wx):StA w tb mb ms pb pr o r L ps P v n wx:=by
 obtain ⟨ys,h1,h2,h3,h4,h5⟩:=h;exact ⟨ys,h1,h2,h3.quiet q,h4.trans (q.sub (by simp)),h5.quiet q⟩
theorem StA.swap {w wr:World} {tb mb ms pb pr:Nat} {o r:Int} {L:List Int} {ps:List D} {P:Nat→Int→Prop} {g n cap m:Nat} {y0 y1:Int} (h:StA w tb mb ms pb pr o r L ps P (.slice (some ⟨g,0,none⟩) n cap) n wr) (hm:m+1 < n)
 (c0:wr.cell? ⟨g,m,none⟩=some (.int .i64 y0)) (c1:wr.cell? ⟨g,m+1,none⟩=some (.int .i64 y1)) (hg:w.heap.size≤g) (hlt:tb < w.heap.size∧mb < w.heap.size∧ms < w.heap.size∧pb < w.heap.size∧pr < w.heap.size) :
 StA w tb mb ms pb pr o r L ps P (.slice (some ⟨g,0,none⟩) n cap) n ((wr.setCell ⟨g,m,none⟩ (.int .i64 y1)).setCell ⟨g,m+1,none⟩ (.int .i64 y0)):=by
 obtain ⟨ys,h1,h2,h3,h4,h5⟩:=h;obtain ⟨g',cap',cur,hv,hb,hcap,hcm,hcs,hcur⟩:=h3.has (by omega);injection hv with hv1 _ hv2;injection hv1 with hv1;injection hv1 with hv1;subst hv1 hv2;have e:∀ {j:Nat} {y:Int},j < n→wr.cell? ⟨g,j,none⟩=some (.int .i64 y)→y ∈ ys:=fun {j y} hj hc=>by
  obtain ⟨z,hz⟩:∃ z,ys[j]?=some z:=⟨ys[j]'(by omega),by simp [show j < ys.length by omega]⟩;rw [hb.at _ (hcur j (.int .i64 z) (by simp [hz]))] at hc;cases hc;exact List.mem_of_getElem? hz
 have m0:=e (by omega) c0;have m1:=e hm c1;have q:Only [g] wr ((wr.setCell ⟨g,m,none⟩ (.int .i64 y1)).setCell ⟨g,m+1,none⟩ (.int .i64 y0)):=((Only.refl [g] wr).setCell (p:=⟨g,m,none⟩) (by simp) _).setCell (p:=⟨g,m+1,none⟩) (by simp) _;refine ⟨(ys.set m y1).set (m+1) y0,by simpa using h1,fun x hx=>?_,?_,?_,h5.only q (by simp; omega) (by simp; omega) (by simp; omega) (by simp; omega) (by simp; omega)⟩
 ·rcases List.mem_or_eq_of_mem_set hx with hx | rfl
  ·rcases List.mem_or_eq_of_mem_set hx with hx | rfl
   ·exact h2 x hx
   ·exact h2 _ m1
  ·exact h2 _ m0
 ·rw [List.map_set,List.map_set];exact (h3.set m (by omega) _).set (m+1) hm _
 ·exact h4.then q (fun x hx=>.inr (by have:x=g:=by simpa using hx
                                      omega))
theorem all_any {w:World} {tb mb ms pb pr:Nat} {o r:Int} {L:List Int} {ps:List D} (P:Nat→Int→Prop) (hP0:∀ l f,P l f→0≤f∧f < 4096) (hP:∀ l f (i:Nat),P (l+1) f→i < 16→(entN L (16 * f+i)).table=true→P l (entN L (16 * f+i)).fr)
 (h:IsT w tb mb ms pb pr o r false L ps) (hp:P 3 r) :
 Calls Tryz.prog 173 #[ptr tb] w fun e w'=>∃ (v:Value) (n:Nat),e=.returned v∧StA w tb mb ms pb pr o r L ps P v n w'∧(∀ g,v.ownBlock=some g→w.heap.size≤g)∧n≤4369:=by
 have HS:=hid (state_any h);have HT:=hid h;have c3:=h.c3;have hlt:=h.lt;obtain ⟨W6,hW6⟩:∃ W6,((w.alloc (.cells #[ptr tb] 186)).alloc (.cells #[.int .i64 r] 3)).alloc (.cells #[.int .i64 3] 3)=W6:=⟨_,rfl⟩;have q6:Only [] w W6:=by rw [← hW6]; exact (((Only.refl [] w).alloc _).alloc _).alloc _
 have k2:Blk W6 w.heap.size 186 #[ptr tb]:=by rw [← hW6]; exact ((Blk.new w _ _).alloc _).alloc _
 have k1:Blk W6 (w.heap.size+1) 3 #[.int .i64 r]:=by rw [← hW6]; exact (Blk.new' _ _ _ (by simp)).alloc _
 have k3:Blk W6 (w.heap.size+2) 3 #[.int .i64 3]:=by rw [← hW6]; exact Blk.new' _ _ _ (by simp)
 have HG:=hid (gatherU_any (b1:=w.heap.size+1) (b2:=w.heap.size) (b3:=w.heap.size+2) P hP0 hP (h.quiet q6) (k1.at 0 rfl) (k2.at 0 rfl) (k3.at 0 rfl) (by simp; omega) hp);have HW6:=hid hW6;have HQ6:=hid q6;clear h q6 k1 k2 k3 hW6 hP0 hP hp;go_enter Tryz.func173,Tryz.ntmps173;go_wp2_with fail;refine HS.out.mono ?_;rintro e w1 ⟨rfl,rfl⟩;go_wp2_with fail;refine (nunder_any _ _ _ _).mono ?_;rintro e w6 ⟨rfl,rfl⟩;rw [HW6.out];go_wp2_with fail;refine HG.out.mono ?_;rintro e w3 ⟨v,xs,rfl,ho,ht,hrow,hx,hl⟩;obtain ⟨n,hn⟩:∃ n,xs.length=n:=⟨_,rfl⟩;rw [hn] at hrow hl;have HOW:=hid (show ∀ g,v.ownBlock=some g→w.heap.size≤g from fun g hg=>by
  have h1:=(row_blk hrow g (by rw [hg]; simp)).1;have h2:=HQ6.out.size;omega)
 have HST:=hid (show StA w tb mb ms pb pr o r L ps P v n w3 from ⟨xs,hn,hx,RowR.own hrow,(HQ6.out.sub (by simp)).trans ho,ht⟩);obtain ⟨A,cap,hv⟩:=(RowR.own hrow).form;subst hv;clear ho ht hrow hx hn HG HW6 HQ6 c3 HT HS;go_wp2_with fail;go_loopg [18] n (fun q i wr=>q≤n∧i=.int .i64 ((n:Int) - q)∧StA w tb mb ms pb pr o r L ps P (.slice A n cap) n wr)
 case atStart=>exact ⟨Nat.le_refl _,by simp,HST.out⟩
 case round=>
  obtain ⟨hq,rfl,hst⟩:=hrel;have HST:=hid hst;clear hst;cases gk with
  | zero=>
   have hlt1:¬ ((n:Int) - ((0:Nat):Int) < n):=by omega
   go_wp2_with fail;go_ret;exact ⟨_,rfl,n,HST.out,HOW.out,hl⟩
  | succ k=>
   obtain ⟨j,hj⟩:∃ j,n - (k+1)=j:=⟨_,rfl⟩;have ej:(n:Int) - ((k+1:Nat):Int)=(j:Int):=by omega
   have hjn:j < n:=by omega
   rw [ej];have hlt1:(j:Int) < n:=by omega
   have ew2:IntKind.i64.wrap ((j:Int)+1)=(j:Int)+1:=by rw [IntKind.wrap_i64]; omega
   go_wp2_with fail;go_loopg [5] j (fun q i wx=>q≤j∧i=.int .i64 (q:Int)∧StA w tb mb ms pb pr o r L ps P (.slice A n cap) n wx)
   case atStart=>exact ⟨Nat.le_refl _,rfl,HST.out⟩
   case round=>
    obtain ⟨hm,rfl,hst2⟩:=hrel;have HS2:=hid hst2;clear hst2;cases gk with
    | zero=>
     obtain ⟨kz,hkz⟩:∃ z:Int,((0:Nat):Int)=z:=⟨_,rfl⟩;have hg0:decide ((0:Int) < kz)=false:=decide_eq_false (by omega);rw [hkz];go_upto_region 8 with fail;refine wp_region_quiet_tailG 13 (by kernel_rfl) (by kernel_rfl) (fun w'=>Only [] wr w') ((Only.refl _ _).drew) ?_;simp only [List.take_succ_cons,List.take_zero,List.drop_succ_cons,List.drop_zero]
     repeat
      (first
       | (refine qskip (by rfl) ?_
          go_simp)
       | (refine qstepG (by rfl) ?_
          apply Exists.intro;refine ⟨fun w' hw'=>?_,?_⟩
          ·skip;go_simp
           first
            | with_reducible rfl
            | exact quiet_val
          go_simp))
     refine wpQuiet_nil ?_;intro wf hwf;have HSF:=hid (HS2.out.quiet hwf);clear hwf;go_wp2_with fail;go_roundg k
     case measure=>omega
     case rel=>exact ⟨by omega,by congr 1; omega,HSF.out⟩
    | succ m=>
     obtain ⟨ys,hyl,hyp,hrow,hoo,htt⟩:=HS2.out;obtain ⟨g,cap',cur,hv,hb,hcap,hcm,hcs,hcur⟩:=hrow.has (by omega);injection hv with hv1 _ hv2;subst hv1 hv2;obtain ⟨y0,e0⟩:∃ y,ys[m]?=some y:=⟨ys[m]'(by omega),by simp [show m < ys.length by omega]⟩;obtain ⟨y1,e1⟩:∃ y,ys[m+1]?=some y:=⟨ys[m+1]'(by omega),by simp [show m+1 < ys.length by omega]⟩;have HCC:=hid (show ∀ w',Only [] wr w'→w'.cell? ⟨g,m,none⟩=some (.int .i64 y0)∧w'.cell? ⟨g,m+1,none⟩=some (.int .i64 y1) from fun w' hw'=>⟨(hb.only hw' (by simp)).at _ (hcur m _ (by simp [e0])),(hb.only hw' (by simp)).at _ (hcur (m+1) _ (by simp [e1]))⟩);obtain ⟨kz,hkz⟩:∃ z:Int,((m+1:Nat):Int)=z:=⟨_,rfl⟩;have hg0:decide ((0:Int) < kz)=true:=decide_eq_true (by omega);have ex1:IntKind.i64.wrap (kz - 1)=(m:Int):=by rw [IntKind.wrap_i64]; omega
     have hm1:(0:Int)≤m:=by omega
     have hm2:(m:Int) < n:=by omega
     have hm3:kz < n:=by omega
     have hm5:(0:Int)≤kz:=by omega
     have hm6:kz.toNat=m+1:=by omega
     rw [hkz];have HFZ:=hid (show ∀ w',Only [] wr w'→∀ i,w'.frozen? ⟨g,i,none⟩=false from fun w' hw' i=>(hb.only hw' (by simp)).frozen i);clear hyl hyp hrow hoo htt hb hcap hcm hcs hcur e0 e1;by_cases hgt:y1 < y0
     ·have hgv:decide (y1 < y0)=true:=decide_eq_true hgt;go_upto_region 8 with fail;refine wp_region_quiet_tailG 13 (by kernel_rfl) (by kernel_rfl) (fun w'=>Only [] wr w') ((Only.refl _ _).drew) ?_;simp only [List.take_succ_cons,List.take_zero,List.drop_succ_cons,List.drop_zero]
      repeat
       (first
        | (refine qskip (by rfl) ?_
           go_simp)
        | (refine qstepG (by rfl) ?_
           apply Exists.intro;refine ⟨fun w' hw'=>?_,?_⟩
           ·obtain ⟨p0,p1⟩:=HCC.out w' hw';go_simp
            first
             | with_reducible rfl
             | exact quiet_val
           go_simp))
      refine wpQuiet_nil ?_;intro wf hwf;go_upto_region 10 with fail;obtain ⟨p0,p1⟩:=HCC.out wf hwf;refine pBegin rfl ?_;obtain ⟨S,hS⟩:∃ S:World→Prop,S=fun w'=>w'.cell? ⟨g,m,none⟩=some (.int .i64 y0)∧w'.cell? ⟨g,m+1,none⟩=some (.int .i64 y1):=⟨_,rfl⟩;have HS:=hid hS;clear hS;refine pPhaseH S 14 (by rw [HS.out]; exact ⟨by go_simp,by go_simp⟩) fun HSW=>?_;refine pPure (i:=0) rfl (by kernel_rfl) rfl HSW.out ?_;apply Exists.intro;refine ⟨fun w'=>?_,?_⟩
      ·go_simp;with_reducible rfl
      go_simp;refine pPure (i:=1) rfl (by kernel_rfl) rfl HSW.out ?_;apply Exists.intro;refine ⟨fun w'=>?_,?_⟩
      ·go_simp;with_reducible rfl
      go_simp;refine pPure (i:=2) rfl (by kernel_rfl) rfl HSW.out ?_;apply Exists.intro;refine ⟨fun w'=>?_,?_⟩
      ·go_simp;with_reducible rfl
      go_simp;refine pPure (i:=3) rfl (by kernel_rfl) rfl HSW.out ?_;apply Exists.intro;refine ⟨fun w'=>?_,?_⟩
      ·go_simp;with_reducible rfl
      go_simp;refine pPure (i:=4) rfl (by kernel_rfl) rfl HSW.out ?_;apply Exists.intro;refine ⟨fun w'=>?_,?_⟩
      ·go_simp;with_reducible rfl
      go_simp;refine pPure (i:=5) rfl (by kernel_rfl) rfl HSW.out ?_;apply Exists.intro;refine ⟨fun w'=>?_,?_⟩
      ·go_simp;with_reducible rfl
      go_simp;refine pPure (i:=6) rfl (by kernel_rfl) rfl HSW.out ?_;apply Exists.intro;refine ⟨fun w'=>?_,?_⟩
      ·go_simp;with_reducible rfl
      go_simp;refine pPure (i:=7) rfl (by kernel_rfl) rfl HSW.out ?_;apply Exists.intro;refine ⟨fun w'=>?_,?_⟩
      ·go_simp;with_reducible rfl
      go_simp;refine pTake (i:=8) rfl (by kernel_rfl) rfl HSW.out ?_;apply Exists.intro;refine ⟨fun w' hw'=>?_,?_⟩
      ·rw [HS.out] at hw';obtain ⟨p0,p1⟩:=hw';go_simp;with_reducible rfl
      go_simp;refine pPure (i:=9) rfl (by kernel_rfl) rfl HSW.out ?_;apply Exists.intro;refine ⟨fun w'=>?_,?_⟩
      ·go_simp;with_reducible rfl
      go_simp;refine pPure (i:=10) rfl (by kernel_rfl) rfl HSW.out ?_;apply Exists.intro;refine ⟨fun w'=>?_,?_⟩
      ·go_simp;with_reducible rfl
      go_simp;refine pPure (i:=11) rfl (by kernel_rfl) rfl HSW.out ?_;apply Exists.intro;refine ⟨fun w'=>?_,?_⟩
      ·go_simp;with_reducible rfl
      go_simp;refine pPure (i:=12) rfl (by kernel_rfl) rfl HSW.out ?_;apply Exists.intro;refine ⟨fun w'=>?_,?_⟩
      ·go_simp;with_reducible rfl
      go_simp;refine pTake (i:=13) rfl (by kernel_rfl) rfl HSW.out ?_;apply Exists.intro;refine ⟨fun w' hw'=>?_,?_⟩
      ·rw [HS.out] at hw';obtain ⟨p0,p1⟩:=hw';go_simp;with_reducible rfl
      go_simp;refine pBar rfl (by kernel_rfl) rfl fun K hK=>?_;go_simp;refine hK _ _ ?_;clear hK K HSW HS S;obtain ⟨S,hS⟩:∃ S:World→Prop,S=fun w'=>True:=⟨_,rfl⟩;have HS:=hid hS;clear hS;refine pPhaseH S 99 (by rw [HS.out]; exact trivial) fun HSW=>?_;refine pStep (i:=15) rfl (by kernel_rfl) (by kernel_rfl) rfl fun K hK=>?_;have f0:=HFZ.out wf hwf m;have f1:=HFZ.out wf hwf (m+1);go_simp;refine hK _ _ (by rw [HS.out]; trivial) ?_;clear hK K HSW;have HSW:=hid (show S (wf.setCell ⟨g,m,none⟩ (.int .i64 y1)).drew by rw [HS.out]; trivial);refine pPure (i:=16) rfl (by kernel_rfl) rfl HSW.out ?_;apply Exists.intro;refine ⟨fun w'=>?_,?_⟩
      ·go_simp;with_reducible rfl
      go_simp;refine pStep (i:=17) rfl (by kernel_rfl) (by kernel_rfl) rfl fun K hK=>?_;go_simp;refine hK _ _ (by rw [HS.out]; trivial) ?_;clear hK K;refine pEnd (by kernel_rfl) ?_;have HSF:=hid (HS2.out.quiet hwf);have HPP:=hid (And.intro p0 p1);clear hwf p0 p1 f0 f1;go_wp2_with fail;go_roundg m
      case measure=>omega
      case rel=>exact ⟨by omega,rfl,(HSF.out.swap (by omega) HPP.out.1 HPP.out.2 (HOW.out g rfl) hlt).quiet (Only.refl _ _).drew⟩
     ·have hgv:decide (y1 < y0)=false:=decide_eq_false hgt;go_upto_region 8 with fail;refine wp_region_quiet_tailG 13 (by kernel_rfl) (by kernel_rfl) (fun w'=>Only [] wr w') ((Only.refl _ _).drew) ?_;simp only [List.take_succ_cons,List.take_zero,List.drop_succ_cons,List.drop_zero]
      repeat
       (first
        | (refine qskip (by rfl) ?_
           go_simp)
        | (refine qstepG (by rfl) ?_
           apply Exists.intro;refine ⟨fun w' hw'=>?_,?_⟩
           ·obtain ⟨p0,p1⟩:=HCC.out w' hw';go_simp
            first
             | with_reducible rfl
             | exact quiet_val
           go_simp))
      refine wpQuiet_nil ?_;intro wf hwf;have HSF:=hid (HS2.out.quiet hwf);clear hwf;go_wp2_with fail;go_roundg k
      case measure=>omega
      case rel=>exact ⟨by omega,by congr 1; omega,HSF.out⟩
end
structure Dr (vm:Int) (S0 ps:List D):Prop where
 len:ps.length=S0.length
 wf:∀ d ∈ ps,d.wf
 d:∀ x,inR S0 x→dOf ps x=dOf S0 x∨(ow S0 x=vm∧(kd S0 x=3∨kd S0 x=4)∧kd ps x=5∧rf ps x=0)
theorem Dr.refl {vm:Int} {ps:List D} (h:∀ d ∈ ps,d.wf):Dr vm ps ps:=⟨rfl,h,fun _ _=>.inl rfl⟩
theorem turn_err {ps:List D} {f k o:Int} (he:(nextD (dOf ps f) k o).2≠0):(turnN ps f k o).1=ps:=by
 unfold turnN changeN;split
 ·first | rfl | rw [if_neg he]
 ·rfl
theorem Dr.turn {vm o:Int} {S0 ps:List D} (h:Dr vm S0 ps) {f:Int} (hf:inR S0 f) (ho:ow S0 f=vm) (hk:kd S0 f=3∨kd S0 f=4):Dr vm S0 (turnN ps f 5 o).1:=by
 have hin:inR ps f:=by unfold inR at *; rw [h.len]; exact hf
 rcases h.d f hf with he | he
 ·by_cases hr:rf ps f=0
  ·have hk':kd ps f=3∨kd ps f=4:=by unfold kd at *; rw [he]; exact hk
   rw [turn_ret hin hk' hr];refine ⟨by simpa [setP] using h.len,fun d hd=>?_,fun x hx=>?_⟩
   ·rcases List.mem_or_eq_of_mem_set hd with hd | rfl
    ·exact h.wf d hd
    ·have hw:(dOf ps f).wf:=by
      refine h.wf _ ?_;unfold dOf;rw [List.getD_eq_getElem?_getD,List.getElem?_eq_getElem (by unfold inR at hin; omega)];exact List.getElem_mem _
     have h1:=hw.o0;have h2:=hw.o1;exact ⟨rfl,by simp,by simp,h1,h2,.inr (.inr (.inr ⟨rfl,rfl⟩))⟩
   ·by_cases e:x=f
    ·subst e;obtain ⟨k1,k2,k3⟩:=set_kd (d:=⟨5,ow ps x,0,0⟩) hin;exact .inr ⟨ho,hk,k1,k3⟩
    ·have hd:=dOf_set_far (ps:=ps) (d:=⟨5,ow ps f,0,0⟩) hin.1 hx.1 e;unfold kd rf;rw [hd];exact h.d x hx
  ·rw [turn_err]
   ·exact h
   ·unfold nextD;have hw:0 < (dOf ps f).r:=by
     have hw:(dOf ps f).wf:=by
      refine h.wf _ ?_;unfold dOf;rw [List.getD_eq_getElem?_getD,List.getElem?_eq_getElem (by unfold inR at hin; omega)];exact List.getElem_mem _
     have:=hw.r0;have:(dOf ps f).r≠0:=hr;omega
    rw [if_pos hw];decide
 ·have h5:(dOf ps f).k=5:=he.2.2.1;have h0:(dOf ps f).r=0:=he.2.2.2;rw [turn_err]
  ·exact h
  ·unfold nextD;rw [if_neg (by omega),h5,if_neg (by decide)];decide
theorem Dr.trans {vm:Int} {A B C:List D} (h:Dr vm A B) (k:Dr vm B C):Dr vm A C:=by
 refine ⟨k.len.trans h.len,k.wf,fun x hx=>?_⟩;have hb:inR B x:=by unfold inR at *; rw [h.len]; exact hx
 rcases k.d x hb with e | ⟨e1,e2,e3,e4⟩
 ·rcases h.d x hx with q | ⟨q1,q2,q3,q4⟩
  ·exact .inl (e.trans q)
  ·exact .inr ⟨q1,q2,by unfold kd; rw [e]; exact q3,by unfold rf; rw [e]; exact q4⟩
 ·rcases h.d x hx with q | ⟨q1,q2,q3,q4⟩
  ·unfold ow at e1;unfold kd at e2;rw [q] at e1 e2;exact .inr ⟨e1,e2,e3,e4⟩
  ·omega
theorem drop_any {w:World} {tb mb ms pb pr:Nat} {o r:Int} {L:List Int} {ps:List D} (P:Nat→Int→Prop) (hP0:∀ l f,P l f→0≤f∧f < 4096) (hP:∀ l f (i:Nat),P (l+1) f→i < 16→(entN L (16 * f+i)).table=true→P l (entN L (16 * f+i)).fr)
 (h:IsT w tb mb ms pb pr o r false L ps) (hp:P 3 r) {vm:Int} (hnd:∀ l f,P l f→inR ps f∧ow ps f=vm∧kd ps f=3) :
 Calls Tryz.prog 135 #[ptr tb] w fun e w'=>∃ v ps',e=.returned v∧Only [tb,mb,ms,pr] w w'∧IsM w' mb ms L∧IsPool w' pb pr ps'∧Dr vm ps ps':=by
 have HS:=hid (state_any h);have HA:=hid (all_any P hP0 hP h hp);have HND:=hid hnd;have hlt:=h.lt;have hne:=h.ne;have hwf:=h.pool.wf;clear h hP0 hP hp hnd;go_enter Tryz.func135,Tryz.ntmps135;go_wp2_with fail;refine HS.out.mono ?_;rintro e w1 ⟨rfl,rfl⟩;go_wp2_with fail;refine HA.out.mono ?_;rintro e w3 ⟨v,n,rfl,hst,how,hl⟩;obtain ⟨ys,hyl,hyp,hrow,ho,ht⟩:=hst;obtain ⟨A,cap,hv⟩:=hrow.form;subst hv;have HYP:=hid (And.intro hyl hyp);have HOW:=hid how;have HST:=hid (show RowR w3 3 1 (.slice A n cap) n (ys.map (Value.int .i64))∧Only [tb,mb,ms,pr] w w3∧IsT w3 tb mb ms pb pr o r false L ps∧Dr vm ps ps from ⟨hrow,ho.sub (by simp),ht,.refl hwf⟩);clear hyl hyp hrow ho ht how HA HS hwf;go_wp2_with fail;go_loopg [13] n (fun q i wr=>q≤n∧i=.int .i64 ((n:Int) - q)∧∃ ps',RowR wr 3 1 (.slice A n cap) n (ys.map (Value.int .i64))∧Only [tb,mb,ms,pr] w wr∧IsT wr tb mb ms pb pr o r false L ps'∧Dr vm ps ps')
 case atStart=>exact ⟨Nat.le_refl _,by simp,ps,HST.out⟩
 case round=>
  obtain ⟨hq,rfl,ps',hrow,ho,ht,hd⟩:=hrel;clear HST;cases gk with
  | zero=>
   have hlt1:¬ ((n:Int) - ((0:Nat):Int) < n):=by omega
   have c4:=ht.obj.at 4 (v:=.bool false) rfl;have f4:=ht.obj.frozen 4;have q:Only [tb] wr (wr.setCell ⟨tb,4,none⟩ (.bool true)):=(Only.refl [tb] wr).setCell (p:=⟨tb,4,none⟩) (by simp) _;have HQ:=hid (show Only [tb,mb,ms,pr] w (wr.setCell ⟨tb,4,none⟩ (.bool true))∧IsM (wr.setCell ⟨tb,4,none⟩ (.bool true)) mb ms L∧IsPool (wr.setCell ⟨tb,4,none⟩ (.bool true)) pb pr ps'∧Dr vm ps ps' from
    ⟨ho.setCell (p:=⟨tb,4,none⟩) (.inl (.head _)) _,ht.mem.only q (by simp; omega) (by simp; omega),ht.pool.only q (by simp; omega) (by simp; omega),hd⟩)
   clear hrow ho ht hd q;go_wp2_with fail;go_ret;exact ⟨⟨_,rfl⟩,HQ.out.1,HQ.out.2.1,ps',HQ.out.2.2⟩
  | succ k=>
   obtain ⟨j,hj⟩:∃ j,n - (k+1)=j:=⟨_,rfl⟩;have ej:(n:Int) - ((k+1:Nat):Int)=(j:Int):=by omega
   have hjn:j < n:=by omega
   rw [ej];have hlt1:(j:Int) < n:=by omega
   have hj0:(0:Int)≤j:=by omega
   have ew2:IntKind.i64.wrap ((j:Int)+1)=(j:Int)+1:=by rw [IntKind.wrap_i64]; omega
   obtain ⟨g,cap',cur,hv,hb,hcap,hcm,hcs,hcur⟩:=hrow.has (by omega);injection hv with hv1 _ hv2;subst hv1 hv2;obtain ⟨y,hy⟩:∃ y,ys[j]?=some y:=⟨ys[j]'(by have:=HYP.out.1; omega),by simp [show j < ys.length by have:=HYP.out.1; omega]⟩;obtain ⟨l,hl2⟩:=HYP.out.2 y (List.mem_of_getElem? hy);obtain ⟨n1,n2,n3⟩:=HND.out l y hl2;have cy:=hb.at j (v:=.int .i64 y) (hcur j _ (by simp [hy]));have c1:=ht.c1;have HTU:=hid (turn_any y 5 0 ht.pool (.inr (.inr (.inr rfl))));have hg:w.heap.size≤g:=HOW.out g rfl;have HREL:=hid (show ∀ w',Only [pr] wr w'→IsPool w' pb pr (turnN ps' y 5 0).1→∃ ps',RowR w' 3 1 (.slice (some ⟨g,0,none⟩) n cap) n (ys.map (Value.int .i64))∧Only [tb,mb,ms,pr] w w'∧IsT w' tb mb ms pb pr o r false L ps'∧Dr vm ps ps' from fun w' o1 o2=>
    ⟨_,hrow.only o1 (fun x hx e=>by
     have h1:x=pr:=by simpa using hx
     have h2:g=x:=by injection e
     omega),ho.trans (o1.sub (by simp)),ht.frames o1 o2,hd.turn n1 n2 (.inl n3)⟩)
   clear hrow ho ht hd hcap hcm hcs hcur hb hy hl2 n1 n2 n3;go_wp2_with fail;refine HTU.out.mono ?_;rintro e w4 ⟨rfl,ho,hpl⟩;have HR:=hid (HREL.out w4 ho hpl);clear ho hpl cy c1;go_wp2_with fail;go_roundg k
   case measure=>omega
   case rel=>exact ⟨by omega,by congr 1; omega,HR.out⟩
theorem hfirst_any {w:World} {gB mR:Nat} {tv:Value} {tk:Int→Option (Int×Int)} (hb:Blk w gB 189 #[tv,.map (some mR)]) (hm:IsMap w mR (tkV tk)) (hr:∀ k y,tk k=some y→0≤k∧k < 65536) :
 Calls Tryz.prog 132 #[ptr gB] w fun e w'=>∃ p:Int,e=.returned (.int .i64 p)∧Only [] w w'∧((∃ k y,tk k=some y)→∃ y,tk p=some y):=by
 have c1:=hb.at 1 (v:=.map (some mR)) rfl;have HM:=hid hm;have HR:=hid hr;clear hm hr hb;go_enter Tryz.func132,Tryz.ntmps132;go_wp2_with (first
  | (with_reducible (refine wpList_rng Tryz.underlyingTook HM.out (by with_unfolding_all rfl) fun w1 N hr ho hsz=>?_))
  | fail)
 have HO1:=hid ho;have HR1:=hid hr;clear ho hr
 go_frame
 go_loopg [3] N (fun q v wr=>∃ (p:Int) (left:Int→Bool),v=.int .i64 p∧p≤65536∧(p=65536∨∃ y,tk p=some y)∧(∀ k y,tk k=some y→left k=false→p≤k)∧Only [] w wr∧IsRange wr w.heap.size mR (tkV tk) left q)
 case atStart=>exact ⟨65536,_,rfl,by omega,.inl rfl,fun k y hk hl=>by simp [tkV,hk] at hl,HO1.out,HR1.out⟩
 case round=>
  obtain ⟨p,left,rfl,hp1,hp2,hp3,ho,hr⟩:=hrel;have HO:=hid ho;have HRG:=hid hr;have HP:=hid (And.intro hp2 hp3);clear ho hr hp2 hp3;go_wp2_with (first
   | (with_reducible (refine wpList_nxt HRG.out (by with_unfolding_all rfl) (fun h0 hl0=>?_) (fun k v w2 n' hk hlk hr2 hlt ho2 hsz2 hen2=>?_)))
   | fail)
  ·go_ret;refine ⟨p,rfl,HO.out,?_⟩;rintro ⟨k,y,hk⟩;obtain ⟨h1,h2⟩:=HP.out;have h3:=h2 k y hk (hl0 k);have h4:=HR.out k y hk;rcases h1 with h1 | h1
   ·omega
   ·exact h1
  ·have HO2:=hid (HO.out.then ho2 fun x hx=>.inr (Nat.le_of_eq (List.mem_singleton.1 hx).symm));have HR2:=hid hr2;have hy:∃ y,tk k=some y:=by
    unfold tkV at hk;cases e:tk k with
    | none=>rw [e] at hk; cases hk
    | some y=>exact ⟨y,rfl⟩
   have HY:=hid hy;have hkr:0≤k∧k < 65536:=by
    obtain ⟨y,hy⟩:=hy;exact HR.out k y hy
   clear ho2 hr2 hk hlk hsz2 hy;go_wp2_with fail;go_roundg n'
   case measure=>exact hlt
   case rel=>
    refine ⟨k,_,rfl,by omega,.inr HY.out,fun j y hj hl=>?_,HO2.out,HR2.out⟩;by_cases e:j=k
    ·omega
    ·have hl2:left j=false:=by simpa [e] using hl
     have:=HP.out.2 j y hj hl2;omega
  ·have HO2:=hid (HO.out.then ho2 fun x hx=>.inr (Nat.le_of_eq (List.mem_singleton.1 hx).symm));have HR2:=hid hr2;have hy:∃ y,tk k=some y:=by
    unfold tkV at hk;cases e:tk k with
    | none=>rw [e] at hk; cases hk
    | some y=>exact ⟨y,rfl⟩
   have HY:=hid hy;have hkr:0≤k∧k < 65536:=by
    obtain ⟨y,hy⟩:=hy;exact HR.out k y hy
   clear ho2 hr2 hk hlk hsz2 hy;go_wp2_with fail;go_roundg n'
   case measure=>exact hlt
   case rel=>
    refine ⟨p,_,rfl,by omega,HP.out.1,fun j y hj hl=>?_,HO2.out,HR2.out⟩;by_cases e:j=k
    ·omega
    ·have hl2:left j=false:=by simpa [e] using hl
     have:=HP.out.2 j y hj hl2;omega
structure HvB (w:World) (a:HvP) (M:HS) (ps:List D) (v:Nat):Prop where
 obj:∃ cs,Blk w a.hb 87 cs∧cs.size=21∧cs[0]?=some (ptr a.mb)∧cs[1]?=some (ptr a.pb)∧cs[2]?=some (ptr a.gb)∧cs[3]?=some (ptr a.qb)∧∀ u,u < 17→cs[4+u]?=some (a.gp M u)
 mem:IsM w a.mb a.ms M.L
 pool:IsPool w a.pb a.pr ps
 gr:IsGrs w a.gb a.gr
 po:∃ P,IsPo w a.qb P
 gs:∀ u G,u≠v→M.g u=some G→1≤u∧u≤16∧Blk w (a.gB u) 189 #[ptr (a.tB u),.map (some (a.mR u))]∧Blk w (a.tB u) 211 #[ptr a.mb,ptr a.pb,.int .i64 u,.int .i64 G.root,.bool false]∧IsMap w (a.mR u) (tkV G.tk)
 inj:∀ u u' G G',M.g u=some G→M.g u'=some G'→u≠u'→a.gB u≠a.gB u'∧a.tB u≠a.tB u'∧a.mR u≠a.mR u'
 lim:∀ x ∈ a.fp,x < w.heap.size
section
variable {w w':World} {a:HvP} {M:HS} {ps ps':List D} {v:Nat}
theorem HvB.only {T:List Nat} (h:HvB w a M ps v) (o:Only T w w') (hT:∀ x ∈ T,x ∉ a.fp):HvB w' a M ps v:=by
 have hn:∀ {y},y ∈ a.fp→y ∉ T:=fun {y} hy ht=>hT y ht hy;have hh:∀ {y},y ∈ [a.hb,a.mb,a.ms,a.pb,a.pr,a.gb,a.gr,a.qb]→y ∉ T:=fun {y} hy=>hn (List.mem_append_left _ hy);obtain ⟨cs,h1,h2⟩:=h.obj;obtain ⟨gs,h3⟩:=h.gr;obtain ⟨P,h4⟩:=h.po;refine ⟨⟨cs,h1.only o (hh (by simp)),h2⟩,h.mem.only o (hh (by simp)) (hh (by simp)),h.pool.only o (hh (by simp)) (hh (by simp)),⟨gs,h3.only o (hh (by simp)) (hh (by simp))⟩,⟨P,h4.only o (hh (by simp))⟩,fun u G hu hg=>?_,h.inj,fun x hx=>Nat.lt_of_lt_of_le (h.lim x hx) o.size⟩;obtain ⟨v1,v2,q1,q2,q3⟩:=h.gs u G hu hg;obtain ⟨m1,m2,m3⟩:=fp_guest (a:=a) (show u < 17 by omega);exact ⟨v1,v2,q1.only o (hn m1),q2.only o (hn m2),q3.only o (hn m3)⟩
theorem HvB.quiet (h:HvB w a M ps v) (o:Only [] w w'):HvB w' a M ps v:=h.only o (by simp)
theorem HvB.c1 (h:HvB w a M ps v):w.cell? ⟨a.hb,1,none⟩=some (ptr a.pb):=by obtain ⟨cs,h1,_,_,h3,_⟩:=h.obj; exact h1.at 1 h3
theorem HvB.frames (h:HvB w a M ps v) (o:Only [a.pr] w w') (hp:IsPool w' a.pb a.pr ps'):HvB w' a M ps' v:=by
 obtain ⟨cs,h1,h2⟩:=h.obj;obtain ⟨gs,h3⟩:=h.gr;obtain ⟨P,h4⟩:=h.po;obtain ⟨cs4,h4b,_⟩:=h4.blk;obtain ⟨_,_,m1,m2⟩:=h.mem.blk;have nb:∀ {g t:Nat} {cs:Array Value},Blk w g t cs→t≠159→g ∉ [a.pr]:=fun {g t cs} hb ht hm=>by
  have hm:g=a.pr:=by simpa using hm
  subst hm;exact ht (hb.inj h.pool.row).1
 refine ⟨⟨cs,h1.only o (nb h1 (by decide)),h2⟩,h.mem.only o (nb m1 (by decide)) (nb m2 (by decide)),hp,⟨gs,h3.only o (nb h3.obj (by decide)) (nb h3.row (by decide))⟩,⟨P,h4.only o (nb h4b (by decide))⟩,fun u G hu hg=>?_,h.inj,fun x hx=>Nat.lt_of_lt_of_le (h.lim x hx) o.size⟩;obtain ⟨v1,v2,q1,q2,q3⟩:=h.gs u G hu hg;exact ⟨v1,v2,q1.only o (nb q1 (by decide)),q2.only o (nb q2 (by decide)),q3.only o (fun hm=>q3.ne_blk h.pool.row (by simpa using hm))⟩
theorem IsHv.half (h:IsHv w a M) {G:GS} (hg:M.g v=some G) (o:Only [a.tB v,a.mb,a.ms,a.pr] w w') (hm:IsM w' a.mb a.ms M.L) (hp:IsPool w' a.pb a.pr ps):HvB w' a M ps v:=by
 obtain ⟨cs,h1,h2⟩:=h.obj;obtain ⟨gs,h3⟩:=h.gr;obtain ⟨P,h4⟩:=h.po;obtain ⟨cs4,h4b,_⟩:=h4.blk;obtain ⟨_,_,m1,m2⟩:=h.mem.blk;obtain ⟨_,_,_,t1,_⟩:=h.gs v G hg;have nb:∀ {g t:Nat} {cs:Array Value},Blk w g t cs→t≠159→t≠211→(g≠a.mb∧g≠a.ms)→g ∉ [a.tB v,a.mb,a.ms,a.pr]:=fun {g t cs} hb ht1 ht2 hne hm=>by
  have e1:=hb.ne h.pool.row ht1;have e2:=hb.ne t1 ht2;simp at hm;omega
 have mm:∀ {g t:Nat} {cs:Array Value},Blk w g t cs→t≠113→t≠28→(g≠a.mb∧g≠a.ms):=fun {g t cs} hb ht1 ht2=>⟨hb.ne m1 ht1,hb.ne m2 ht2⟩;refine ⟨⟨cs,h1.only o (nb h1 (by decide) (by decide) (mm h1 (by decide) (by decide))),h2⟩,hm,hp,⟨gs,h3.only o (nb h3.obj (by decide) (by decide) (mm h3.obj (by decide) (by decide))) (nb h3.row (by decide) (by decide) (mm h3.row (by decide) (by decide)))⟩,⟨P,h4.only o (nb h4b (by decide) (by decide) (mm h4b (by decide) (by decide)))⟩,fun u G2 hu hg2=>?_,h.inj,fun x hx=>Nat.lt_of_lt_of_le (h.lim x hx) o.size⟩;obtain ⟨v1,v2,q1,q2,q3⟩:=h.gs u G2 hg2;have hd:=(h.inj u v G2 G hg2 hg hu).2.1;refine ⟨v1,v2,q1.only o (nb q1 (by decide) (by decide) (mm q1 (by decide) (by decide))),q2.only o (fun hx=>?_),q3.only o (fun hx=>?_)⟩
 ·have e1:=q2.ne h.pool.row (by decide);have e2:=mm q2 (by decide) (by decide);simp at hx;omega
 ·have e1:=q3.ne_blk h.pool.row;have e2:=q3.ne_blk t1;have e3:=q3.ne_blk m1;have e4:=q3.ne_blk m2;simp at hx;omega
theorem HvB.end (h:HvB w a M ps v) (hv:v≤16):IsHv (w.setCell ⟨a.hb,4+v,none⟩ (.pointer none)) a { L:=M.L,ps:=ps,g:=updG M.g v none,T:=M.T }:=by
 have o:Only [a.hb] w (w.setCell ⟨a.hb,4+v,none⟩ (.pointer none)):=(Only.refl [a.hb] w).setCell (p:=⟨a.hb,4+v,none⟩) (.inl (.head _)) _;obtain ⟨cs,h1,h2,h3,h4,h5,h6,h7⟩:=h.obj;have nb:∀ {g t:Nat} {cs:Array Value},Blk w g t cs→t≠87→g ∉ [a.hb]:=fun {g t cs} hb ht hm=>by
  have hm:g=a.hb:=by simpa using hm
  subst hm;exact ht (hb.inj h1).1
 have nm:∀ {r:Nat} {f:Int→Option Value},IsMap w r f→r ∉ [a.hb]:=fun {r f} hm hx=>by
  have hx:r=a.hb:=by simpa using hx
  exact hm.ne_blk h1 hx
 obtain ⟨gs,hgr⟩:=h.gr;obtain ⟨P,hpo⟩:=h.po;obtain ⟨cs4,hpo4,_⟩:=hpo.blk;obtain ⟨_,_,m1,m2⟩:=h.mem.blk;have old:∀ {u:Nat} {G:GS},updG M.g v none u=some G→u≠v∧M.g u=some G:=fun {u G} e=>by
  by_cases c:u=v
  ·subst c;rw [updG_same] at e;cases e
  ·rw [updG_far _ _ c] at e;exact ⟨c,e⟩
 refine ⟨⟨_,h1.set _ _,by simpa using h2,?_,?_,?_,?_,fun u hu=>?_⟩,h.mem.only o (nb m1 (by decide)) (nb m2 (by decide)),h.pool.only o (nb h.pool.obj (by decide)) (nb h.pool.row (by decide)),⟨gs,hgr.only o (nb hgr.obj (by decide)) (nb hgr.row (by decide))⟩,⟨P,hpo.only o (nb hpo4 (by decide))⟩,fun u G2 hg2=>?_,fun u u' G1 G2 e1 e2 hne=>h.inj u u' G1 G2 (old e1).2 (old e2).2 hne,fun x hx=>Nat.lt_of_lt_of_le (h.lim x hx) o.size⟩
 ·rw [Array.getElem?_setIfInBounds_ne (by omega)]; exact h3
 ·rw [Array.getElem?_setIfInBounds_ne (by omega)]; exact h4
 ·rw [Array.getElem?_setIfInBounds_ne (by omega)]; exact h5
 ·rw [Array.getElem?_setIfInBounds_ne (by omega)]; exact h6
 ·by_cases e:u=v
  ·subst e;rw [Array.getElem?_setIfInBounds_self_of_lt (by omega)];unfold HvP.gp;dsimp only;rw [updG_same]
  ·rw [Array.getElem?_setIfInBounds_ne (by omega),h7 u hu];unfold HvP.gp;dsimp only;rw [updG_far _ _ e]
 ·obtain ⟨e,hg2⟩:=old hg2;obtain ⟨v1,v2,q1,q2,q3⟩:=h.gs u G2 e hg2;exact ⟨v1,v2,q1.only o (nb q1 (by decide)),q2.only o (nb q2 (by decide)),q3.only o (nm q3)⟩
end
end Go.Proofs.YtadgpnoealegiaaGreat
