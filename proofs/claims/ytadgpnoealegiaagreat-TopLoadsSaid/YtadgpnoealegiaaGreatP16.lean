import Derived.Test.YtadgpnoealegiaaGreatP15
import Derived.Deep.DeepCutAuto
import Derived.Deep.RegionWith
namespace Go.Proofs.YtadgpnoealegiaaGreat
open Go.RowKit
open Go.Lib (hid)
set_option maxRecDepth 100000
set_option maxHeartbeats 20000000
theorem flushD_any (w:World) (x:Ln) {b1 b2:Nat} {tag page:Int} (h1:w.cell? ⟨b1,0,none⟩=some (.int .i64 tag)) (h2:w.cell? ⟨b2,0,none⟩=some (.int .i64 page)) (l1:b1 < w.heap.size) (l2:b2 < w.heap.size) :
 Calls Tryz.prog 33 #[x.val,ptr b1,ptr b2] w fun e w'=>e=.returned (.bool (x.of tag page))∧Only [] w w':=by
 have HC:=hid (fun W=>of_any' W x tag page);obtain ⟨t,p,f,r⟩:=x;rw [ln_out] at HC ⊢;dsimp only at HC ⊢;have o:=(Only.refl [] w).alloc (.cells #[.int .i64 t,.int .i64 p,.int .i64 f,.int .i64 r] 128);have e1:=(o.cell (p:=⟨b1,0,none⟩) l1 (by simp)).trans h1;have e2:=(o.cell (p:=⟨b2,0,none⟩) l2 (by simp)).trans h2;have HO:=hid o;clear h1 h2 o;go_enter Tryz.func33,Tryz.ntmps33;go_wp2_with fail;refine (HC.out _).mono ?_;rintro e w1 ⟨rfl,ho⟩;have HO:=hid (HO.out.trans ho);clear ho;go_wp2_with fail;go_ret;exact ⟨rfl,HO.out⟩
theorem forgetD_any (w:World) (x:Ln) {b1:Nat} {tag:Int} (h1:w.cell? ⟨b1,0,none⟩=some (.int .i64 tag)) (l1:b1 < w.heap.size) :
 Calls Tryz.prog 32 #[x.val,ptr b1] w fun e w'=>e=.returned (.bool (x.t == tag))∧Only [] w w':=by
 obtain ⟨t,p,f,r⟩:=x;rw [ln_out];dsimp only;have o:=(Only.refl [] w).alloc (.cells #[.int .i64 t,.int .i64 p,.int .i64 f,.int .i64 r] 128);have e1:=(o.cell (p:=⟨b1,0,none⟩) l1 (by simp)).trans h1;clear h1;go_enter Tryz.func32,Tryz.ntmps32;go_wp2;go_ret;exact ⟨rfl,(Only.refl _ _).alloc _⟩
def SweepAt (w:World) (b:Nat) (v:Value) (ls:List Ln) (sz:Nat) (is:Ln→Bool) (j n:Nat) (wr:World):Prop:=
 TlbTo w wr b v (ls.take j ++ (ls.drop j).filter fun x=>!is x) sz∧j≤ls.length∧j+((ls.drop j).filter fun x=>!is x).length+n=ls.length
theorem sweep_keep {ls:List Ln} {is:Ln→Bool} {j:Nat} {x:Ln} (hx:ls[j]?=some x) (h:is x=false) :
 ls.take (j+1) ++ (ls.drop (j+1)).filter (fun x=>!is x)=ls.take j ++ (ls.drop j).filter (fun x=>!is x)∧((ls.drop j).filter (fun x=>!is x)).length=((ls.drop (j+1)).filter (fun x=>!is x)).length+1:=by
 have hj:=(List.getElem?_eq_some_iff.1 hx).1;have e:=(List.getElem?_eq_some_iff.1 hx).2;rw [List.drop_eq_getElem_cons hj,e,List.filter_cons,if_pos (by simp [h]),List.take_add_one,hx];simp
theorem sweep_cut {ls:List Ln} {is:Ln→Bool} {j:Nat} {x:Ln} (hx:ls[j]?=some x) (h:is x=true) :
 (ls.take (j+1) ++ (ls.drop (j+1)).filter (fun x=>!is x)).take j ++ (ls.take (j+1) ++ (ls.drop (j+1)).filter (fun x=>!is x)).drop (j+1)=ls.take j ++ (ls.drop j).filter (fun x=>!is x)∧((ls.drop j).filter (fun x=>!is x)).length=((ls.drop (j+1)).filter (fun x=>!is x)).length:=by
 have hj:=(List.getElem?_eq_some_iff.1 hx).1;have e:=(List.getElem?_eq_some_iff.1 hx).2;have hl:(ls.take (j+1)).length=j+1:=by simp; omega
 rw [List.drop_eq_getElem_cons hj,e,List.filter_cons,if_neg (by simp [h])];refine ⟨?_,rfl⟩;rw [List.take_append_of_le_length (by omega),List.drop_append,List.drop_eq_nil_of_le (by omega),hl,Nat.sub_self,List.drop_zero,List.nil_append,List.take_take,Nat.min_eq_left (by omega)]
theorem sweep_at {ls:List Ln} {is:Ln→Bool} {j:Nat} {x:Ln} (hx:ls[j]?=some x):(ls.take (j+1) ++ (ls.drop (j+1)).filter (fun x=>!is x))[j]?=some x:=by
 have hj:=(List.getElem?_eq_some_iff.1 hx).1;rw [List.getElem?_append_left (by simp; omega),List.getElem?_take_of_lt (by omega),hx]
theorem sweep_any {w:World} {b:Nat} {v:Value} {ls:List Ln} {sz:Nat} (h:IsTlb w b v ls sz) (fn:Nat) (caps:Array Value) (is:Ln→Bool)
 (hf:∀ (x:Ln) (W:World),Only (b :: v.ownBlock.toList) w W→Calls Tryz.prog fn (#[x.val] ++ caps) W fun e w'=>e=.returned (.bool (is x))∧Only [] W w')
 (hen:∀ args w,(callFunc fn args).run Tryz.prog w=.ok (.enter fn args) w) :
 Calls Tryz.prog 31 #[ptr b,.func (.func fn) #[] caps] w fun e w'=>∃ n:Nat,e=.returned (.int .i64 n)∧TlbTo w w' b v (ls.filter fun x=>!is x) sz∧(ls.filter fun x=>!is x).length+n=ls.length:=by
 have HTH:=hid (tthere_any h);have hlen:=h.len;have hs1:=h.s1;have H0:=hid (show SweepAt w b v ls sz is ls.length 0 w from ⟨⟨v,Only.refl _ _,by rw [List.take_length,List.drop_length]; simpa using h,.inl rfl⟩,Nat.le_refl _,by simp⟩);obtain ⟨A,cap,hv⟩:=h.row.form;have c0:=h.c0;rw [hv] at c0;obtain ⟨n,hn⟩:∃ n,ls.length=n:=⟨_,rfl⟩;rw [hn] at H0 c0 hlen;have HN:=hid hn;have HF:=hid hf;have HEN:=hid hen;have ew:IntKind.i64.wrap ((n:Int) - 1)=n - 1:=by rw [IntKind.wrap_i64]; omega
 clear h hn hf hv hen;go_enter Tryz.func31,Tryz.ntmps31;go_wp2_with fail;refine HTH.out.mono ?_;rintro e w1 ⟨rfl,rfl⟩;go_wp2_with fail;go_loopg [5,6] n (fun k u i wr=>∃ m:Nat,u=.int .i64 m∧i=.int .i64 ((k:Int) - 1)∧SweepAt w b v ls sz is k m wr)
 case atStart=>exact ⟨0,rfl,rfl,H0.out⟩
 case round=>
  obtain ⟨m,rfl,rfl,hS⟩:=hrel;have HS:=hid hS;clear hS H0;cases gk with
  | zero=>
   go_wp2_with fail;go_ret;obtain ⟨h1,h2,h3⟩:=HS.out;rw [List.take_zero,List.nil_append,List.drop_zero] at h1;rw [List.drop_zero] at h3;exact ⟨m,rfl,h1,by omega⟩
  | succ k=>
   obtain ⟨⟨v1,ho,ht,hv⟩,hk,hc⟩:=HS.out;have hk':k < ls.length:=by omega
   obtain ⟨x,hx⟩:∃ x,ls[k]?=some x:=⟨ls[k],by simp [hk']⟩;obtain ⟨g,cap1,hv1,hcap,x0,x1,x2,x3⟩:=ht.line (sweep_at (is:=is) hx);obtain ⟨q,hq⟩:∃ q,(ls.take (k+1) ++ (ls.drop (k+1)).filter fun x=>!is x).length=q:=⟨_,rfl⟩;have hkq:k < q:=by rw [← hq,List.length_append,List.length_take]; omega
   have hmn:m≤n:=by rw [← HN.out]; omega
   have hkn:k+1≤n:=by rw [← HN.out]; exact hk
   rw [hq] at hv1 hcap;have d0:=ht.c0;rw [hv1] at d0;have HT:=hid ht;have HO:=hid ho;have HV:=hid hv;have HX:=hid hx;have HC:=hid (And.intro hk hc);have HQ:=hid hq;have HV1:=hid hv1;obtain ⟨t,p,f,r⟩:=x;dsimp only at x0 x1 x2 x3;have HFX:=hid (HF.out ⟨t,p,f,r⟩ wr ho);rw [ln_out] at HFX;dsimp only at HFX;have ek:IntKind.i64.wrap ((((k+1:Nat):Int) - 1))=(k:Int):=by rw [IntKind.wrap_i64]; omega
   have ek2:((k+1:Nat):Int) - 1=(k:Int):=by omega
   rw [ek2];have i0:(0:Int)≤(k:Int):=by omega
   have i1:(k:Int) < q:=by omega
   have ew:IntKind.i64.wrap ((k:Int) - 1)=(k:Int) - 1:=by rw [IntKind.wrap_i64]; omega
   have em:IntKind.i64.wrap ((m:Int)+1)=(m:Int)+1:=by rw [IntKind.wrap_i64]; omega
   clear ho ht hv hx hk hc hq hv1 ek ek2 hk';have hen:=HEN.out;go_wp2_with fail;refine HFX.out.mono ?_;rintro e w2 ⟨rfl,ho⟩;have HO2:=hid (HO.out.trans (ho.sub (by simp)));have HT2:=hid (HT.out.quiet ho);clear ho d0 x0 x1 x2 x3 hen;cases hb:is ⟨t,p,f,r⟩
   ·have HB:=hid hb;clear hb;go_wp2_with fail;go_roundg k
    case measure=>omega
    case rel=>
     obtain ⟨e1,e2⟩:=sweep_keep HX.out HB.out;refine ⟨m,rfl,rfl,⟨v1,HO2.out,by rw [← e1]; exact HT2.out,HV.out⟩,by have:=HC.out.1; omega,?_⟩;rw [e2];have:=HC.out.2;omega
   ·have HB:=hid hb;clear hb;have HCT:=hid (cut_any' HT2.out k (by rw [HQ.out]; exact hkq));go_wp2_with fail;refine HCT.out.mono ?_;rintro e w3 ⟨rfl,hto⟩;have HTO:=hid (TlbTo.trans HO2.out HV.out hto);clear hto;go_wp2_with fail;go_roundg k
    case measure=>omega
    case rel=>
     obtain ⟨e1,e2⟩:=sweep_cut HX.out HB.out;refine ⟨m+1,by go_num,rfl,by have:=HTO.out; rwa [e1] at this,by have:=HC.out.1; omega,?_⟩;rw [e2];have:=HC.out.2;omega
theorem flush_any {w:World} {b:Nat} {v:Value} {ls:List Ln} {sz:Nat} (h:IsTlb w b v ls sz) (tag page:Int) :
 Calls Tryz.prog 25 #[ptr b,.int .i64 tag,.int .i64 page] w fun e w'=>e=.returned (.bool (decide ((ls.filter fun x=>!x.of tag page).length < ls.length)))∧TlbTo w w' b v (ls.filter fun x=>!x.of tag page) sz:=by
 have hq:=((Only.refl [] w).alloc (.cells #[.int .i64 tag] 3)).alloc (.cells #[.int .i64 page] 3);have hb1:=(Blk.new w 3 #[.int .i64 tag]).alloc (.cells #[.int .i64 page] 3);have hb2:=Blk.new' (w.alloc (.cells #[.int .i64 tag] 3)) 3 #[.int .i64 page] (g:=w.heap.size+1) (by simp);have hlt:=h.obj.lt;have hown:=fun x hx=>(h.row.lt x hx).1;have hs:=sweep_any (h.quiet hq) 33 #[ptr w.heap.size,ptr (w.heap.size+1)] (fun x=>x.of tag page) (fun x W hW=>by
  have hn:∀ k,w.heap.size≤k→k ∉ b :: v.ownBlock.toList:=fun k hk hm=>by
   rcases List.mem_cons.1 hm with rfl | hm
   ·omega
   ·have:=hown k (by simpa using hm);omega
  have q1:=hb1.only hW (hn _ (Nat.le_refl _));have q2:=hb2.only hW (hn _ (Nat.le_succ _));exact flushD_any W x (q1.at 0 rfl) (q2.at 0 rfl) q1.lt q2.lt) (enters_of Tryz.func33 (by kernel_rfl) rfl)
 have HS:=hid hs;have HQ:=hid hq;clear h hq hb1 hb2 hs;go_enter Tryz.func25,Tryz.ntmps25;go_wp2_with fail;refine HS.out.mono ?_;rintro e w1 ⟨n,rfl,ht,hn⟩;have HT:=hid ht;have HN:=hid hn;have n0:(0:Int)≤n:=by omega
 clear ht hn;go_wp2_with fail;go_ret;refine ⟨?_,TlbTo.trans (HQ.out.sub (by simp)) (.inl rfl) HT.out⟩;have e:decide (0 < n)=decide ((ls.filter fun x=>!x.of tag page).length < ls.length):=by
  have:=HN.out;rw [decide_eq_decide];omega
 rw [← e];rfl
theorem forget_any {w:World} {b:Nat} {v:Value} {ls:List Ln} {sz:Nat} (h:IsTlb w b v ls sz) (tag:Int) :
 Calls Tryz.prog 24 #[ptr b,.int .i64 tag] w fun e w'=>(∃ n:Int,e=.returned (.int .i64 n))∧TlbTo w w' b v (ls.filter fun x=>!(x.t == tag)) sz:=by
 have hq:=(Only.refl [] w).alloc (.cells #[.int .i64 tag] 3);have hb1:=Blk.new w 3 #[.int .i64 tag];have hlt:=h.obj.lt;have hown:=fun x hx=>(h.row.lt x hx).1;have hs:=sweep_any (h.quiet hq) 32 #[ptr w.heap.size] (fun x=>x.t == tag) (fun x W hW=>by
  have q1:=hb1.only hW (fun hm=>by
   rcases List.mem_cons.1 hm with e | hm
   ·omega
   ·have:=hown _ (by simpa using hm);omega)
  exact forgetD_any W x (q1.at 0 rfl) q1.lt) (enters_of Tryz.func32 (by kernel_rfl) rfl)
 have HS:=hid hs;have HQ:=hid hq;clear h hq hb1 hs;go_enter Tryz.func24,Tryz.ntmps24;go_wp2_with fail;refine HS.out.mono ?_;rintro e w1 ⟨n,rfl,ht,hn⟩;have HT:=hid ht;clear ht hn;go_wp2_with fail;go_ret;exact ⟨⟨_,rfl⟩,TlbTo.trans (HQ.out.sub (by simp)) (.inl rfl) HT.out⟩
def FillTo (w w':World) (b:Nat) (v:Value) (ls:List Ln) (x:Ln) (sz:Nat):Prop:=∃ ls',TlbTo w w' b v ls' sz∧∀ y ∈ ls',y ∈ ls∨y=x
theorem fill_any {w:World} {b:Nat} {v:Value} {ls:List Ln} {sz:Nat} (h:IsTlb w b v ls sz) (x:Ln) :
 Calls Tryz.prog 47 #[ptr b,x.val] w fun e w'=>(∃ n:Int,e=.returned (.int .i64 n))∧FillTo w w' b v ls x sz:=by
 have hq:=(Only.refl [] w).alloc (.cells #[.int .i64 x.t,.int .i64 x.p,.int .i64 x.f,.int .i64 x.r] 128);have hx:=Blk.new w 128 #[.int .i64 x.t,.int .i64 x.p,.int .i64 x.f,.int .i64 x.r];have HTH:=hid (tthere_any (h.quiet hq));have HR:=hid (fun W=>lright_any W x);have HT:=hid (h.quiet hq);have HQ:=hid hq;have HX:=hid hx;have hlt:=h.obj.lt;have hown:=hid (fun x hx=>(h.row.lt x hx).1);have H0:=hid h;have HF:=hid (fun W (hW:IsTlb W b v ls sz)=>flush_any hW x.t x.p);obtain ⟨t,p,f,r⟩:=x;rw [ln_out] at HR ⊢;dsimp only at HR HQ HX HT HTH HF ⊢;clear h hq hx;go_enter Tryz.func47,Tryz.ntmps47;go_wp2_with fail;refine HTH.out.mono ?_;rintro e w1 ⟨rfl,rfl⟩;have x0:=HX.out.at 0 (v:=.int .i64 t) rfl;have x1:=HX.out.at 1 (v:=.int .i64 p) rfl;have x2:=HX.out.at 2 (v:=.int .i64 f) rfl;have x3:=HX.out.at 3 (v:=.int .i64 r) rfl;go_wp2_with fail;refine (HR.out _).mono ?_;rintro e w2 ⟨⟨rb,rfl⟩,ho⟩;have HQ2:=hid (HQ.out.trans ho);have HT2:=hid (HT.out.quiet ho);have HX2:=hid (HX.out.only ho (by simp));clear ho x0 x1 x2 x3;cases rb
 ·go_wp2_with fail;go_ret;exact ⟨⟨_,rfl⟩,ls,⟨v,HQ2.out.sub (by simp),HT2.out,.inl rfl⟩,fun y hy=>.inl hy⟩
 ·have hl0:=HT2.out.len;have hs0:=HT2.out.s0;have hs1:=HT2.out.s1;have hfl:(ls.filter fun x=>!x.of t p).length≤ls.length:=List.length_filter_le _ _;have hF:=HF.out w2.drew (HT2.out.quiet ((Only.refl [] w2).drew));obtain ⟨fl,hfl2⟩:∃ fl,(ls.filter fun x=>!x.of t p)=fl:=⟨_,rfl⟩;have HSUB:=hid (show ∀ y ∈ fl,y ∈ ls from fun y hy=>by rw [← hfl2] at hy; exact (List.mem_filter.1 hy).1);rw [hfl2] at hF hfl;obtain ⟨fb,hfb⟩:∃ fb,decide (fl.length < ls.length)=fb:=⟨_,rfl⟩;rw [hfb] at hF;have HFB:=hid hfb;have HFF:=hid hF;have x0:=HX2.out.at 0 (v:=.int .i64 t) rfl;have x1:=HX2.out.at 1 (v:=.int .i64 p) rfl;have x2:=HX2.out.at 2 (v:=.int .i64 f) rfl;have x3:=HX2.out.at 3 (v:=.int .i64 r) rfl;clear hF hfb hfl2 HF;go_upto_region 5 with fail;go_cut [31] (fun u wc=>∃ bb,u=.bool bb∧TlbTo w2 wc b v fl sz∧(bb=true→0 < fl.length)∧(bb=false→fl.length < sz)∧Blk wc w.heap.size 128 #[.int .i64 t,.int .i64 p,.int .i64 f,.int .i64 r])
  case first=>
   refine pBegin rfl ?_;obtain ⟨S,hS⟩:∃ S:World→Prop,S=fun w'=>w'.cell? ⟨w.heap.size,0,none⟩=some (.int .i64 t)∧w'.cell? ⟨w.heap.size,1,none⟩=some (.int .i64 p):=⟨_,rfl⟩;have HS:=hid hS;clear hS;refine pPhaseH S 5 (by rw [HS.out]; exact ⟨by go_simp,by go_simp⟩) fun HSW=>?_;refine pPure (i:=0) rfl (by kernel_rfl) rfl HSW.out ?_;apply Exists.intro;refine ⟨fun w'=>?_,?_⟩
   ·go_simp;with_reducible rfl
   go_simp;refine pPure (i:=1) rfl (by kernel_rfl) rfl HSW.out ?_;apply Exists.intro;refine ⟨fun w'=>?_,?_⟩
   ·go_simp;with_reducible rfl
   go_simp;refine pTake (i:=2) rfl (by kernel_rfl) rfl HSW.out ?_;apply Exists.intro;refine ⟨fun w' hw'=>?_,?_⟩
   ·rw [HS.out] at hw';obtain ⟨p0,p1⟩:=hw';go_simp;with_reducible rfl
   go_simp;refine pPure (i:=3) rfl (by kernel_rfl) rfl HSW.out ?_;apply Exists.intro;refine ⟨fun w'=>?_,?_⟩
   ·go_simp;with_reducible rfl
   go_simp;refine pTake (i:=4) rfl (by kernel_rfl) rfl HSW.out ?_;apply Exists.intro;refine ⟨fun w' hw'=>?_,?_⟩
   ·rw [HS.out] at hw';obtain ⟨p0,p1⟩:=hw';go_simp;with_reducible rfl
   go_simp;refine pBar rfl (by kernel_rfl) rfl fun K hK=>?_;go_simp;go_at_call 25;refine HFF.out.mono ?_;rintro e w3 ⟨rfl,hto⟩;dsimp only;refine hK _ _ ?_;clear hK K HSW HS S;obtain ⟨v3,ho3,ht3,hv3⟩:=hto;have c0:=ht3.c0;have c1:=ht3.c1;obtain ⟨A3,cap3,hv3'⟩:=ht3.row.form;rw [hv3'] at c0;have q3:=((Only.refl [] w2).drew).sub (T:=b :: v.ownBlock.toList) (by simp) |>.trans ho3
   have HTOO:=hid (show TlbTo w2 w3 b v fl sz from ⟨v3,q3,ht3,hv3⟩);have HX3:=hid (HX2.out.only q3 (by
    intro hm;rcases List.mem_cons.1 hm with e | hm
    ·omega
    ·have:=hown.out _ (by simpa using hm);omega))
   have HT3:=hid ht3;clear ht3 ho3 hv3 q3;obtain ⟨S,hS⟩:∃ S:World→Prop,S=fun w'=>w'.cell? ⟨b,0,none⟩=some (.slice A3 fl.length cap3)∧w'.cell? ⟨b,1,none⟩=some (.int .i64 sz):=⟨_,rfl⟩;have HS:=hid hS;clear hS;refine pPhaseH S 99 (by rw [HS.out]; exact ⟨c0,c1⟩) fun HSW=>?_;cases fb
   ·skip;refine pPure (i:=6) rfl (by kernel_rfl) rfl HSW.out ?_;apply Exists.intro;refine ⟨fun w'=>?_,?_⟩
    ·go_simp;with_reducible rfl
    go_simp;refine pPure (i:=7) rfl (by kernel_rfl) rfl HSW.out ?_;apply Exists.intro;refine ⟨fun w'=>?_,?_⟩
    ·go_simp;with_reducible rfl
    go_simp;refine pPure (i:=8) rfl (by kernel_rfl) rfl HSW.out ?_;apply Exists.intro;refine ⟨fun w'=>?_,?_⟩
    ·go_simp;with_reducible rfl
    go_simp;refine pPure (i:=9) rfl (by kernel_rfl) rfl HSW.out ?_;apply Exists.intro;refine ⟨fun w'=>?_,?_⟩
    ·go_simp;with_reducible rfl
    go_simp;refine pPure (i:=10) rfl (by kernel_rfl) rfl HSW.out ?_;apply Exists.intro;refine ⟨fun w'=>?_,?_⟩
    ·go_simp;with_reducible rfl
    go_simp;refine pTake (i:=11) rfl (by kernel_rfl) rfl HSW.out ?_;apply Exists.intro;refine ⟨fun w' hw'=>?_,?_⟩
    ·rw [HS.out] at hw';obtain ⟨p0,p1⟩:=hw';go_simp;with_reducible rfl
    go_simp;refine pPure (i:=12) rfl (by kernel_rfl) rfl HSW.out ?_;apply Exists.intro;refine ⟨fun w'=>?_,?_⟩
    ·go_simp;with_reducible rfl
    go_simp;refine pPure (i:=13) rfl (by kernel_rfl) rfl HSW.out ?_;apply Exists.intro;refine ⟨fun w'=>?_,?_⟩
    ·go_simp;with_reducible rfl
    go_simp;refine pPure (i:=14) rfl (by kernel_rfl) rfl HSW.out ?_;apply Exists.intro;refine ⟨fun w'=>?_,?_⟩
    ·go_simp;with_reducible rfl
    go_simp;refine pPure (i:=15) rfl (by kernel_rfl) rfl HSW.out ?_;apply Exists.intro;refine ⟨fun w'=>?_,?_⟩
    ·go_simp;with_reducible rfl
    go_simp;refine pTake (i:=16) rfl (by kernel_rfl) rfl HSW.out ?_;apply Exists.intro;refine ⟨fun w' hw'=>?_,?_⟩
    ·rw [HS.out] at hw';obtain ⟨p0,p1⟩:=hw';go_simp;with_reducible rfl
    go_simp;refine pPure (i:=17) rfl (by kernel_rfl) rfl HSW.out ?_;apply Exists.intro;refine ⟨fun w'=>?_,?_⟩
    ·go_simp;with_reducible rfl
    go_simp;refine pPure (i:=18) rfl (by kernel_rfl) rfl HSW.out ?_;apply Exists.intro;refine ⟨fun w'=>?_,?_⟩
    ·go_simp;with_reducible rfl
    go_simp;refine pEnd (by kernel_rfl) ?_;go_wp2_with fail;go_meet;refine ⟨_,rfl,HTOO.out,fun h=>?_,fun h=>?_,HX3.out⟩
    ·have:(fl.length:Int)=sz:=by simpa using h
     omega
    ·have h1:(fl.length:Int)≠sz:=by simpa using h
     have:=HT3.out.len;omega
   ·skip;refine pPure (i:=6) rfl (by kernel_rfl) rfl HSW.out ?_;apply Exists.intro;refine ⟨fun w'=>?_,?_⟩
    ·go_simp;with_reducible rfl
    go_simp;refine pPure (i:=7) rfl (by kernel_rfl) rfl HSW.out ?_;apply Exists.intro;refine ⟨fun w'=>?_,?_⟩
    ·go_simp;with_reducible rfl
    go_simp;refine pSkip (i:=8) rfl (by kernel_rfl) rfl HSW.out ?_;go_simp;refine pSkip (i:=9) rfl (by kernel_rfl) rfl HSW.out ?_;go_simp;refine pSkip (i:=10) rfl (by kernel_rfl) rfl HSW.out ?_;go_simp;refine pSkip (i:=11) rfl (by kernel_rfl) rfl HSW.out ?_;go_simp;refine pSkip (i:=12) rfl (by kernel_rfl) rfl HSW.out ?_;go_simp;refine pSkip (i:=13) rfl (by kernel_rfl) rfl HSW.out ?_;go_simp;refine pSkip (i:=14) rfl (by kernel_rfl) rfl HSW.out ?_;go_simp;refine pSkip (i:=15) rfl (by kernel_rfl) rfl HSW.out ?_;go_simp;refine pSkip (i:=16) rfl (by kernel_rfl) rfl HSW.out ?_;go_simp;refine pSkip (i:=17) rfl (by kernel_rfl) rfl HSW.out ?_;go_simp;refine pPure (i:=18) rfl (by kernel_rfl) rfl HSW.out ?_;apply Exists.intro;refine ⟨fun w'=>?_,?_⟩
    ·go_simp;with_reducible rfl
    go_simp;refine pEnd (by kernel_rfl) ?_;go_wp2_with fail;go_meet;have:=of_decide_eq_true HFB.out;exact ⟨_,rfl,HTOO.out,nofun,fun h=>by omega,HX3.out⟩
  case rest=>
   obtain ⟨bb,rfl,hto,hb1,hb2,hxc⟩:=hcut;have HTO:=hid hto;have HXC:=hid hxc;have hxl:=HX2.out.lt;clear hto hxc HFF HFB x0 x1 x2 x3
   go_upto_if 31 with fail
   go_cut [] (fun wc=>∃ l',TlbTo w2 wc b v l' sz∧l'.length < sz∧(∀ y ∈ l',y ∈ ls)∧Blk wc w.heap.size 128 #[.int .i64 t,.int .i64 p,.int .i64 f,.int .i64 r])
   case first=>
    have HB1:=hid hb1;have HB2:=hid hb2;clear hb1 hb2;cases bb
    ·go_wp2_with fail;go_meet;exact ⟨fl,HTO.out,by simpa using HB2.out,HSUB.out,HXC.out⟩
    ·obtain ⟨v3,ho3,ht3,hv3⟩:=HTO.out;have HT3:=hid ht3;have HV3:=hid hv3;have HO3:=hid ho3;have hc:=hid (cut_any' ht3 0 (HB1.out rfl));clear ho3 ht3 hv3;go_wp2_with fail;refine hc.out.mono ?_;rintro e w4 ⟨rfl,hto⟩;have HTO4:=hid (TlbTo.trans HO3.out HV3.out hto);have HX4:Hid (Blk w4 w.heap.size 128 #[.int .i64 t,.int .i64 p,.int .i64 f,.int .i64 r]):=hid (by
      obtain ⟨v4,ho4,_,_⟩:=hto;refine HXC.out.only ho4 fun hm=>?_;rcases List.mem_cons.1 hm with e | hm
      ·omega
      ·have hm:v3.ownBlock=some w.heap.size:=by simpa using hm
       rcases HV3.out with h | h
       ·have:=hown.out _ (h ▸ hm);omega
       ·have:=h _ hm;omega)
     clear hto hc;go_wp2_with fail;go_meet;refine ⟨_,HTO4.out,?_,fun y hy=>?_,HX4.out⟩
     ·have:=HT3.out.len;have:0 < fl.length:=by simpa using HB1.out
      simp;omega
     ·exact HSUB.out y (List.mem_of_mem_tail (by simpa using hy))
   case rest=>
    clear HTO HXC hb1 hb2;obtain ⟨l',hto,hl1,hl2,hxc⟩:=hcut;obtain ⟨v3,ho3,ht3,hv3⟩:=hto;obtain ⟨A3,cap3,rfl⟩:=ht3.row.form;have HO3:=hid ho3;have HT3:=hid ht3;have HV3:=hid hv3;have HX3:=hid hxc;have HL2:=hid hl2;have c0:=ht3.c0;have x0:=hxc.at 0 rfl;have x1:=hxc.at 1 rfl;have x2:=hxc.at 2 rfl;have x3:=hxc.at 3 rfl;clear ho3 ht3 hv3 hxc hl2;go_upto_region 7 with fail;obtain ⟨S,hS⟩:∃ S:World→Prop,S=(fun w'=>w'.cell? ⟨b,0,none⟩=some (.slice A3 l'.length cap3)∧w'.cell? ⟨w.heap.size,0,none⟩=some (.int .i64 t)∧w'.cell? ⟨w.heap.size,1,none⟩=some (.int .i64 p)∧w'.cell? ⟨w.heap.size,2,none⟩=some (.int .i64 f)∧w'.cell? ⟨w.heap.size,3,none⟩=some (.int .i64 r)):=⟨_,rfl⟩;have HS:=hid hS;clear hS;refine wp_region_lead 6 S (by kernel_rfl) (by kernel_rfl) (by rw [HS.out]; exact ⟨c0,x0,x1,x2,x3⟩) ?_;simp only [List.take_succ_cons,List.take_zero,List.drop_succ_cons,List.drop_zero]
    repeat
     (refine lstep rfl ?_
      apply Exists.intro;refine ⟨fun w' hw'=>?_,?_⟩
      ·rw [HS.out] at hw';obtain ⟨p0,p1,p2,p3,p4⟩:=hw';go_simp;with_reducible rfl
      go_simp)
    refine lnil ?_;refine ltail rfl fun K hK=>?_;go_simp;have HB:=hid (Blk.new wc.drew 128 #[.int .i64 t,.int .i64 p,.int .i64 f,.int .i64 r]);obtain ⟨w4,hw4⟩:∃ w4,wc.drew.alloc (Obj.cells #[.int .i64 t,.int .i64 p,.int .i64 f,.int .i64 r] 128)=w4:=⟨_,rfl⟩;rw [show (wc.alloc (Obj.cells #[.int .i64 t,.int .i64 p,.int .i64 f,.int .i64 r] 128)).drew=w4 from hw4];have q4:Only [] wc w4:=by
     rw [← hw4];exact ((Only.refl [] wc).drew).trans ((Only.refl [] wc.drew).alloc _)
    have HW4:=hid hw4;have HT4:=hid (HT3.out.quiet q4);have HX4:=hid (HX3.out.only q4 (by simp));have HQ4:=hid q4;have hbl:b≠wc.heap.size:=by
     have:=HT3.out.obj.lt;omega
    have HB4:Hid (Blk w4 wc.heap.size 128 #[.int .i64 t,.int .i64 p,.int .i64 f,.int .i64 r]):=hid (by rw [← hw4]; exact HB.out);clear hw4 q4 HB;refine hK _ _ (by rw [HS.out]; exact ⟨HT4.out.c0,HX4.out.at 0 rfl,HX4.out.at 1 rfl,HX4.out.at 2 rfl,HX4.out.at 3 rfl⟩) ?_;clear hK K;obtain ⟨i0,hz,hz0,hz1,hz2⟩:=info_parts Tryz.infoLine;refine ltail rfl fun K hK=>?_;refine wp_append_R (.tmp 38) (.tmp 40) 104 rfl 128 i0 (.agg #[.int .i64 0,.int .i64 0,.int .i64 0,.int .i64 0]) 4 32 Tryz.underlying104 hz hz0 hz1 hz2 rfl (by decide) _ l'.length _ rfl HT4.out.row ⟨wc.heap.size,0,none⟩ 1 1 [.int .i64 t,.int .i64 p,.int .i64 f,.int .i64 r] rfl rfl (fun j u hu=>?_) (by intro u hu; simp at hu; rcases hu with rfl | rfl | rfl | rfl <;> rfl) (by unfold maxLen; omega) (by omega) ?_
    ·have:j < 4:=by
      have:=(List.getElem?_eq_some_iff.1 hu).1;simpa using this
     have h4:∀ j u,#[Value.int .i64 t,.int .i64 p,.int .i64 f,.int .i64 r][j]?=some u→w4.cell? ⟨wc.heap.size,j,none⟩=some u:=fun j u h=>HB4.out.at j h;have e:(⟨wc.heap.size,0,none⟩:Addr).add j=⟨wc.heap.size,j,none⟩:=by
      unfold Addr.add;split
      ·rename_i hj;rw [hj]
      ·simp
     rw [e];exact h4 j u (by simpa using hu)
    intro v5 w5 hr ho hown5;have hnb:b ∉ (Value.slice A3 l'.length cap3).ownBlock.toList:=by
     simp only [Option.mem_toList];exact HT4.out.row.ne HT4.out.obj (by decide)
    have hnx:w.heap.size ∉ (Value.slice A3 l'.length cap3).ownBlock.toList:=by
     intro hm;have hm:=Option.mem_toList.1 hm;rcases HV3.out with h | h
     ·have:=hown.out _ (h ▸ hm);omega
     ·have:=h _ hm;omega
    obtain ⟨A5,cap5,rfl⟩:=hr.form;have HR:=hid hr;have HO5:=hid (HQ4.out.sub (T:=(Value.slice A3 l'.length cap3).ownBlock.toList) (by simp) |>.trans ho);have HW5:=hid hown5;have HT5:=hid (HT4.out.obj.only ho hnb);have HX5:=hid (HX4.out.only ho hnx);have hs4:wc.heap.size≤w4.heap.size:=HQ4.out.size;have g0:=HT5.out.frozen 0;have y0:=HT5.out.at 0 rfl;clear hr ho hown5 hz hz0 hz1 hz2;refine hK _ _ (by rw [HS.out]; exact ⟨y0,HX5.out.at 0 rfl,HX5.out.at 1 rfl,HX5.out.at 2 rfl,HX5.out.at 3 rfl⟩) ?_;clear hK K;refine ltail rfl fun K hK=>?_;go_simp;refine hK _ _ (by rw [HS.out]; exact ⟨y0,HX5.out.at 0 rfl,HX5.out.at 1 rfl,HX5.out.at 2 rfl,HX5.out.at 3 rfl⟩) ?_;clear hK K;refine ltail rfl fun K hK=>?_;go_simp;refine hK _ _ (by rw [HS.out]; exact ⟨y0,HX5.out.at 0 rfl,HX5.out.at 1 rfl,HX5.out.at 2 rfl,HX5.out.at 3 rfl⟩) ?_;clear hK K;refine llast rfl fun K hK=>?_;go_simp;refine hK _ _ (NoPanic.normal ?_);clear hK K;obtain ⟨w6,hw6⟩:∃ w6,w5.setCell ⟨b,0,none⟩ (.slice A5 (l'.length+1) cap5)=w6:=⟨_,rfl⟩;have q6:Only [b] w5 w6:=by
     rw [← hw6];exact (Only.refl [b] w5).setCell (p:=⟨b,0,none⟩) (by simp) _
    have hb6:Blk w6 b 106 #[.slice A5 (l'.length+1) cap5,.int .i64 sz]:=by
     rw [← hw6];exact HT5.out.set 0 _
    have ht6:IsTlb w6 b (.slice A5 (l'.length+1) cap5) (l' ++ [⟨t,p,f,r⟩]) sz:=by
     refine ⟨hb6,?_,HT4.out.s0,HT4.out.s1,by simp; omega⟩;have hl:(l' ++ [(⟨t,p,f,r⟩:Ln)]).length=l'.length+1:=by simp
     rw [hl,List.flatMap_append];refine HR.out.only q6 fun x hx e=>?_;have hx:x=b:=by simpa using hx
     subst hx;rcases HW5.out with h1 | h1
     ·rw [h1] at e;exact hnb (Option.mem_toList.2 e)
     ·rw [h1] at e;have e:w4.heap.size=x:=by simpa using e
      have:=HT4.out.obj.lt;omega
    have htt:FillTo w w6 b v ls ⟨t,p,f,r⟩ sz:=by
     refine ⟨l' ++ [⟨t,p,f,r⟩],TlbTo.trans (v1:=.slice A3 l'.length cap3) ((HQ2.out.sub (by simp)).trans HO3.out) (HV3.out.imp id fun h x hx=>Nat.le_trans HQ2.out.size (h x hx)) ⟨_,(HO5.out.sub (by simp)).trans (q6.sub (by simp)),ht6,?_⟩,fun y hy=>?_⟩
     ·rcases HW5.out with h1 | h1
      ·exact .inl h1
      ·right;intro x hx;rw [h1] at hx;have hx:w4.heap.size=x:=by simpa using hx
       omega
     ·rcases List.mem_append.1 hy with h | h
      ·exact .inl (HL2.out y h)
      ·exact .inr (List.mem_singleton.1 h)
    rw [← hw6] at htt;have HTT:=hid htt;clear htt ht6 hb6 q6 hw6;go_wp2_with fail;go_ret;exact ⟨⟨_,rfl⟩,HTT.out⟩
theorem look_any {w:World} {b:Nat} {v:Value} {ls:List Ln} {sz:Nat} (h:IsTlb w b v ls sz) (tag page right:Int) :
 Calls Tryz.prog 62 #[ptr b,.int .i64 tag,.int .i64 page,.int .i64 right] w fun e w'=>(∃ f er:Int,e=.returned (.tuple #[.int .i64 f,.int .i64 er])∧(er=0→∃ x ∈ ls,x.of tag page=true∧x.f=f))∧Only [] w w':=by
 have HTH:=hid (tthere_any h);have hlen:=h.len;have hs1:=h.s1;have H0:=hid h;obtain ⟨A,cap,hv⟩:=h.row.form;have c0:=h.c0;rw [hv] at c0;obtain ⟨n,hn⟩:∃ n,ls.length=n:=⟨_,rfl⟩;rw [hn] at c0 hlen;have HN:=hid hn;have HV:=hid hv;have HOF:=hid (fun W x=>of_any' W x tag page);clear h hn hv;go_enter Tryz.func62,Tryz.ntmps62;go_wp2_with fail;refine HTH.out.mono ?_;rintro e w1 ⟨rfl,rfl⟩;go_wp2_with fail;go_loopg [20] n (fun k i wr=>k≤n∧i=.int .i64 ((n:Int) - k)∧Only [] w wr)
 case atStart=>exact ⟨Nat.le_refl _,by simp,Only.refl _ _⟩
 case round=>
  obtain ⟨hk,rfl,ho⟩:=hrel;have HO:=hid ho;have HT:=hid (H0.out.quiet ho);clear ho;cases gk with
  | zero=>
   have hlt1:¬ ((n:Int) - ((0:Nat):Int) < n):=by omega
   go_wp2_with fail;go_ret2;exact ⟨⟨0,4,rfl,fun h=>absurd h (by decide)⟩,HO.out⟩
  | succ k=>
   obtain ⟨j,hj⟩:∃ j,n - (k+1)=j:=⟨_,rfl⟩;have hjn:j < n:=by omega
   have ej:(n:Int) - ((k+1:Nat):Int)=(j:Int):=by omega
   rw [ej];have hlt1:(j:Int) < n:=by omega
   obtain ⟨x,hx⟩:∃ x,ls[j]?=some x:=⟨ls[j]'(by rw [HN.out]; exact hjn),by simp [HN.out,hjn]⟩;obtain ⟨g,cap1,hv1,hcap,x0,x1,x2,x3⟩:=HT.out.line hx;have hv2:=HV.out.symm.trans hv1;injection hv2 with e1 e2 e3;subst e1 e3;have HX:=hid hx;obtain ⟨t,p,f,r⟩:=x;dsimp only at x0 x1 x2 x3;have i0:(0:Int)≤(j:Int):=by omega
   have ew:IntKind.i64.wrap ((j:Int)+1)=(j:Int)+1:=by rw [IntKind.wrap_i64]; omega
   have hncap:n≤cap:=by rw [← HN.out]; exact hcap
   have q1:=(Only.refl [] wr).alloc (.cells #[.int .i64 t,.int .i64 p,.int .i64 f,.int .i64 r] 128);have HQ1:=hid q1;have HB1:=hid (Blk.new wr 128 #[.int .i64 t,.int .i64 p,.int .i64 f,.int .i64 r]);have HOFX:=hid (fun W=>HOF.out W ⟨t,p,f,r⟩);rw [ln_out] at HOFX;dsimp only at HOFX;clear hx hv1 hcap q1 ej;go_wp2_with fail;refine (HOFX.out _).mono ?_;rintro e w2 ⟨rfl,ho⟩;have HO2:=hid ((HO.out.trans HQ1.out).trans ho);have HB2:=hid (HB1.out.only ho (by simp));clear ho x0 x1 x2 x3;obtain ⟨is,his⟩:∃ is,(⟨t,p,f,r⟩:Ln).of tag page=is:=⟨_,rfl⟩;rw [his];have HIS:=hid his;clear his;have x0:=HB2.out.at 0 (v:=.int .i64 t) rfl;have x1:=HB2.out.at 1 (v:=.int .i64 p) rfl;have x2:=HB2.out.at 2 (v:=.int .i64 f) rfl;have x3:=HB2.out.at 3 (v:=.int .i64 r) rfl;cases is
   ·go_wp2_with fail;go_roundg k
    case measure=>omega
    case rel=>
     refine ⟨by omega,?_,HO2.out⟩;have:(j:Int)+1=(n:Int) - k:=by omega
     rw [this]
   ·obtain ⟨b1,hd1⟩:∃ b1,decide (right < 0)=b1:=⟨_,rfl⟩;obtain ⟨b2,hd2⟩:∃ b2,decide (7 < right)=b2:=⟨_,rfl⟩;go_upto_region 7 with fail;have x3:=HB2.out.at 3 rfl;go_cut [30] (fun u wc=>∃ bb,u=.bool bb∧w2=wc)
    case first=>
     cases b1
     ·cases b2
      ·go_wp2_with fail;go_meet;exact ⟨_,rfl,rfl⟩
      ·go_wp2_with fail;go_meet;exact ⟨_,rfl,rfl⟩
     ·go_wp2_with fail;go_meet;exact ⟨_,rfl,rfl⟩
    case rest=>
     obtain ⟨bb,rfl,rfl⟩:=hcut;have x2:=HB2.out.at 2 rfl;cases bb
     ·go_wp2_with fail;go_ret2;exact ⟨⟨f,0,rfl,fun _=>⟨_,List.mem_of_getElem? HX.out,HIS.out,rfl⟩⟩,HO2.out⟩
     ·go_wp2_with fail;go_ret2;exact ⟨⟨0,7,rfl,fun h=>absurd h (by decide)⟩,HO2.out⟩
end Go.Proofs.YtadgpnoealegiaaGreat
