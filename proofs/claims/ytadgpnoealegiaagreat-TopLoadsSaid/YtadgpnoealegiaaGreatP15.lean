import Derived.Test.YtadgpnoealegiaaGreatP14
import Derived.Deep.LoopGhost
import Derived.Lib.Hide
namespace Go.Proofs.YtadgpnoealegiaaGreat
open Go.RowKit
open Go.Lib (hid)
set_option maxRecDepth 100000
set_option maxHeartbeats 20000000
structure Ln where
 t:Int
 p:Int
 f:Int
 r:Int
deriving DecidableEq
def Ln.val (x:Ln):Value:=.agg #[.int .i64 x.t,.int .i64 x.p,.int .i64 x.f,.int .i64 x.r]
def encL (x:Ln):List Value:=[.int .i64 x.t,.int .i64 x.p,.int .i64 x.f,.int .i64 x.r]
theorem encL_len (x:Ln):(encL x).length=4:=rfl
theorem ln_out (x:Ln):x.val=.agg #[.int .i64 x.t,.int .i64 x.p,.int .i64 x.f,.int .i64 x.r]:=rfl
def Ln.of (x:Ln) (tag page:Int):Bool:=x.t == tag && x.p == page
structure IsTlb (w:World) (b:Nat) (v:Value) (ls:List Ln) (sz:Nat):Prop where
 obj:Blk w b 106 #[v,.int .i64 sz]
 row:RowR w 128 4 v ls.length (ls.flatMap encL)
 s0:1≤sz
 s1:sz≤64
 len:ls.length≤sz
section
variable {w w':World} {b:Nat} {v:Value} {ls:List Ln} {sz:Nat}
theorem IsTlb.only {S:List Nat} (h:IsTlb w b v ls sz) (o:Only S w w') (hb:b ∉ S) (hv:∀ x ∈ S,v.ownBlock≠some x):IsTlb w' b v ls sz:=
 ⟨h.obj.only o hb,h.row.only o hv,h.s0,h.s1,h.len⟩
theorem IsTlb.quiet (h:IsTlb w b v ls sz) (o:Only [] w w'):IsTlb w' b v ls sz:=h.only o (by simp) (by simp)
theorem IsTlb.c0 (h:IsTlb w b v ls sz):w.cell? ⟨b,0,none⟩=some v:=h.obj.at 0 rfl
theorem IsTlb.c1 (h:IsTlb w b v ls sz):w.cell? ⟨b,1,none⟩=some (.int .i64 sz):=h.obj.at 1 rfl
theorem IsTlb.line (h:IsTlb w b v ls sz) {j:Nat} {x:Ln} (hx:ls[j]?=some x):∃ g cap,v=.slice (some ⟨g,0,none⟩) ls.length cap∧ls.length≤cap ∧
 w.cell? ⟨g,j * 4,none⟩=some (.int .i64 x.t)∧w.cell? ⟨g,j * 4+1,none⟩=some (.int .i64 x.p)∧w.cell? ⟨g,j * 4+2,none⟩=some (.int .i64 x.f)∧w.cell? ⟨g,j * 4+3,none⟩=some (.int .i64 x.r):=by
 have hj:=(List.getElem?_eq_some_iff.1 hx).1;obtain ⟨g,cap,cur,rfl,hb,hc,_,_,hcc⟩:=h.row.has (by omega);have h4:∀ i,i < 4→∀ v,(encL x)[i]?=some v→w.cell? ⟨g,j * 4+i,none⟩=some v:=fun i hi v hv=>by
  refine hb.at _ (hcc _ _ ?_);have e2:=recs_get encL_len ls hx i hi;unfold recs at e2;rw [List.getElem?_toArray] at e2;rw [e2,hv]
 exact ⟨g,cap,rfl,hc,h4 0 (by decide) _ rfl,h4 1 (by decide) _ rfl,h4 2 (by decide) _ rfl,h4 3 (by decide) _ rfl⟩
end
theorem Tryz.infoLine : (Tryz.prog.info? 128).map (fun i=>(i.zero,i.size,i.bytes))=some (some (.agg #[.int .i64 0,.int .i64 0,.int .i64 0,.int .i64 0]),4,32):=by kernel_rfl
theorem tnew_any (w:World) (n:Nat) (h0:1≤n) (h1:n≤64):Calls Tryz.prog 14 #[.int .i64 n] w fun e w'=>∃ b,e=.returned (.tuple #[ptr b,.int .i64 0])∧w.heap.size≤b∧Only [] w w'∧IsTlb w' b (.slice none 0 0) [] n:=by
 have i0:¬ (n:Int) < 1:=by omega
 have i1:¬ (64:Int) < n:=by omega
 go_enter Tryz.func14,Tryz.ntmps14;go_wp2;go_ret2;exact ⟨_,rfl,Nat.le_refl _,(Only.refl _ _).alloc _,Blk.new _ _ _,RowR.nil _ _ _,h0,h1,Nat.zero_le _⟩
theorem tthere_any {w:World} {b:Nat} {v:Value} {ls:List Ln} {sz:Nat} (h:IsTlb w b v ls sz):Calls Tryz.prog 53 #[ptr b] w fun e w'=>e=.returned (.bool true)∧w=w':=by
 have c1:=h.c1;have h0:=h.s0;have hp:(0:Int) < sz:=by omega
 have hp2:decide ((0:Int) < sz)=true:=by simpa using hp
 have hp3:decide (0 < sz)=true:=by simp; omega
 clear h;go_enter Tryz.func53,Tryz.ntmps53;go_wp2;go_ret;exact ⟨rfl,rfl⟩
theorem of_any' (w:World) (x:Ln) (tag page:Int):Calls Tryz.prog 34 #[x.val,.int .i64 tag,.int .i64 page] w fun e w'=>e=.returned (.bool (x.of tag page))∧Only [] w w':=by
 obtain ⟨t,p,f,r⟩:=x;rw [ln_out];unfold Ln.of;dsimp only;by_cases h1:t=tag
 ·by_cases h2:p=page
  ·subst h1 h2;have e1:(t == t)=true:=by simp
   have e2:(p == p)=true:=by simp
   go_enter Tryz.func34,Tryz.ntmps34;go_wp2;go_ret;exact ⟨by rw [e1,e2,Bool.and_self]; rfl,(Only.refl _ _).alloc _⟩
  ·subst h1;have h3:(p == page)=false:=by simp [h2]
   have H2:=hid h3;go_enter Tryz.func34,Tryz.ntmps34;go_wp2;go_ret;exact ⟨by rw [H2.out,Bool.and_false]; rfl,(Only.refl _ _).alloc _⟩
 ·have h3:(t == tag)=false:=by simp [h1]
  have H2:=hid h3;go_enter Tryz.func34,Tryz.ntmps34;go_wp2;go_ret;exact ⟨by rw [H2.out,Bool.false_and]; rfl,(Only.refl _ _).alloc _⟩
theorem lright_any (w:World) (x:Ln):Calls Tryz.prog 79 #[x.val] w fun e w'=>SaysB e∧Only [] w w':=by
 obtain ⟨t,p,f,r⟩:=x;rw [ln_out];dsimp only;by_cases h0:1≤t
 ·skip;by_cases h1:t≤16
  ·skip;by_cases h2:0≤p
   ·skip;by_cases h3:p < 65536
    ·skip;by_cases h4:0≤f
     ·skip;by_cases h5:f < 4096
      ·skip;by_cases h6:1≤r
       ·skip;by_cases h7:r≤7
        ·skip;go_enter Tryz.func79,Tryz.ntmps79;go_wp2;go_ret;exact ⟨⟨_,rfl⟩,(Only.refl _ _).alloc _⟩
        ·skip;go_enter Tryz.func79,Tryz.ntmps79;go_wp2;go_ret;exact ⟨⟨_,rfl⟩,(Only.refl _ _).alloc _⟩
       ·skip;go_enter Tryz.func79,Tryz.ntmps79;go_wp2;go_ret;exact ⟨⟨_,rfl⟩,(Only.refl _ _).alloc _⟩
      ·skip;go_enter Tryz.func79,Tryz.ntmps79;go_wp2;go_ret;exact ⟨⟨_,rfl⟩,(Only.refl _ _).alloc _⟩
     ·skip;go_enter Tryz.func79,Tryz.ntmps79;go_wp2;go_ret;exact ⟨⟨_,rfl⟩,(Only.refl _ _).alloc _⟩
    ·skip;go_enter Tryz.func79,Tryz.ntmps79;go_wp2;go_ret;exact ⟨⟨_,rfl⟩,(Only.refl _ _).alloc _⟩
   ·skip;go_enter Tryz.func79,Tryz.ntmps79;go_wp2;go_ret;exact ⟨⟨_,rfl⟩,(Only.refl _ _).alloc _⟩
  ·skip;go_enter Tryz.func79,Tryz.ntmps79;go_wp2;go_ret;exact ⟨⟨_,rfl⟩,(Only.refl _ _).alloc _⟩
 ·skip;go_enter Tryz.func79,Tryz.ntmps79;go_wp2;go_ret;exact ⟨⟨_,rfl⟩,(Only.refl _ _).alloc _⟩
def TlbTo (w w':World) (b:Nat) (v:Value) (ls:List Ln) (sz:Nat):Prop:=
 ∃ v',Only (b :: v.ownBlock.toList) w w'∧IsTlb w' b v' ls sz∧(v'.ownBlock=v.ownBlock∨∀ x,v'.ownBlock=some x→w.heap.size≤x)
theorem TlbTo.trans {w w1 w2:World} {b:Nat} {v v1:Value} {ls:List Ln} {sz:Nat} (h:Only (b :: v.ownBlock.toList) w w1) (h1:v1.ownBlock=v.ownBlock∨∀ x,v1.ownBlock=some x→w.heap.size≤x) (k:TlbTo w1 w2 b v1 ls sz):TlbTo w w2 b v ls sz:=by
 obtain ⟨v',o,t,hv⟩:=k;refine ⟨v',h.then o fun x hx=>?_,t,?_⟩
 ·rcases List.mem_cons.1 hx with rfl | hx
  ·exact .inl (.head _)
  ·rcases h1 with h1 | h1
   ·rw [h1] at hx;exact .inl (.tail _ hx)
   ·exact .inr (h1 x (by simpa using hx))
 ·rcases hv with hv | hv
  ·rcases h1 with h1 | h1
   ·exact .inl (hv.trans h1)
   ·exact .inr fun x hx=>h1 x (by rw [← hv]; exact hx)
  ·exact .inr fun x hx=>Nat.le_trans h.size (hv x hx)
theorem flat_take {α:Type} {enc:α→List Value} {k:Nat} (hk:∀ x,(enc x).length=k):∀ (l:List α) (i:Nat),(l.take i).flatMap enc=(l.flatMap enc).take (i * k)
 | [],i=>by simp
 | x :: l,0=>by simp
 | x :: l,i+1=>by
  have h1:=hk x;rw [List.take_succ_cons,List.flatMap_cons,List.flatMap_cons,flat_take hk l i,List.take_append,List.take_of_length_le (i:=(i+1) * k) (l:=enc x) (by rw [h1,Nat.succ_mul]; omega),h1,Nat.succ_mul,Nat.add_sub_cancel]
theorem flat_drop {α:Type} {enc:α→List Value} {k:Nat} (hk:∀ x,(enc x).length=k):∀ (l:List α) (i:Nat),(l.drop i).flatMap enc=(l.flatMap enc).drop (i * k)
 | [],i=>by simp
 | x :: l,0=>by simp
 | x :: l,i+1=>by
  have h1:=hk x;rw [List.drop_succ_cons,List.flatMap_cons,flat_drop hk l i,List.drop_append,List.drop_eq_nil_of_le (show (enc x).length≤(i+1) * k by rw [h1,Nat.succ_mul]; omega),h1,Nat.succ_mul,Nat.add_sub_cancel,List.nil_append]
theorem cut_any' {w:World} {b:Nat} {v:Value} {ls:List Ln} {sz:Nat} (h:IsTlb w b v ls sz) (i:Nat) (hi:i < ls.length):Calls Tryz.prog 54 #[ptr b,.int .i64 i] w fun e w'=>e=.returned (.tuple #[])∧TlbTo w w' b v (ls.take i ++ ls.drop (i+1)) sz:=by
 obtain ⟨i0,hz,hz0,hz1,hz2⟩:=info_parts Tryz.infoLine;have HI0:=hid (And.intro hz (And.intro hz0 (And.intro hz1 hz2)));obtain ⟨g,cap,cur,rfl,hb,hnc,hcm,hcs,hcc⟩:=h.row.has (by omega);obtain ⟨n,hn⟩:∃ n,ls.length=n:=⟨_,rfl⟩;have hlen:=h.len;have hs1:=h.s1;rw [hn] at hi hnc hlen;have HH:=hid h;have HB:=hid hb;have HC:=hid hcc;have HN:=hid hn;have c0:=h.c0;rw [hn] at c0;have f0:=h.obj.frozen 0;have HF:=hid (show ∀ wx,Only [] w wx→wx.cell? ⟨b,0,none⟩=some (.slice (some ⟨g,0,none⟩) n cap) from fun wx hx=>by rw [← HN.out]; exact (HH.out.quiet hx).c0);have j0:(0:Int)≤(i:Int):=by omega
 have j1:(i:Int)≤(cap:Int):=by omega
 have ew:IntKind.i64.wrap ((i:Int)+1)=(i:Int)+1:=by rw [IntKind.wrap_i64]; omega
 have j2:(0:Int)≤(i:Int)+1:=by omega
 have j3:(i:Int)+1≤(n:Int):=by omega
 have j4:(n:Int)≤(cap:Int):=by omega
 clear h hb hcc hn hz hz0 hz1 hz2;go_enter Tryz.func54,Tryz.ntmps54;go_upto_region 0 with fail;obtain ⟨ad,had,hcell⟩:∃ ad,(if cap=i+1 then some (⟨g,0,none⟩:Addr) else some ⟨g,(i+1) * 4,none⟩)=some ad∧∀ j u,((ls.drop (i+1)).flatMap encL)[j]?=some u→w.cell? (ad.add j)=some u:=by
  by_cases hc:cap=i+1
  ·refine ⟨⟨g,0,none⟩,if_pos hc,fun j u hu=>?_⟩;rw [List.drop_eq_nil_of_le (by rw [HN.out]; omega)] at hu;cases hu
  ·refine ⟨⟨g,(i+1) * 4,none⟩,if_neg hc,fun j u hu=>?_⟩;rw [flat_drop encL_len,List.getElem?_drop] at hu;have:=HB.out.at _ (HC.out _ u hu);unfold Addr.add;split
   ·rename_i hj;subst hj;simpa using this
   ·simpa using this
 have HAD:=hid had;have HCL:=hid hcell;clear had hcell;obtain ⟨S,hS⟩:∃ S:World→Prop,S=(fun w'=>w'.cell? ⟨b,0,none⟩=some (.slice (some ⟨g,0,none⟩) n cap)):=⟨_,rfl⟩;have HS:=hid hS;clear hS;refine wp_region_lead 15 S (by kernel_rfl) (by kernel_rfl) (by rw [HS.out]; exact c0) ?_;simp only [List.take_succ_cons,List.take_zero,List.drop_succ_cons,List.drop_zero]
 repeat
  (refine lstep rfl ?_
   apply Exists.intro;refine ⟨fun w' hw'=>?_,?_⟩
   ·rw [HS.out] at hw';have p0:=hw';go_simp;with_reducible rfl
   go_simp)
 refine lnil ?_;rw [HAD.out];have hrow:RowR w.drew 128 4 (.slice (some ⟨g,0,none⟩) i i) i ((ls.take i).flatMap encL):=by
  refine ⟨by rw [recs_len encL_len,List.length_take,HN.out,Nat.min_eq_left (by omega)],.inr ⟨g,i,cur,rfl,HB.out,Nat.le_refl _,by unfold maxLen at *; omega,by omega,?_⟩⟩;rw [flat_take encL_len];apply List.ext_getElem?;intro j;rw [List.getElem?_take,List.getElem?_take];split
  ·rename_i hj;have hl:j < (ls.flatMap encL).length:=by rw [recs_len encL_len,HN.out]; omega
   rw [List.getElem?_eq_getElem hl];have:=HC.out j _ (List.getElem?_eq_getElem hl);simpa using this
  ·rfl
 refine ltail rfl fun K hK=>?_;refine wp_append_R (.tmp 11) (.tmp 18) 104 rfl 128 i0 (.agg #[.int .i64 0,.int .i64 0,.int .i64 0,.int .i64 0]) 4 32 Tryz.underlying104 HI0.out.1 HI0.out.2.1 HI0.out.2.2.1 HI0.out.2.2.2 rfl (by decide) _ i _ rfl hrow ad (n - (i+1)) (cap - (i+1)) ((ls.drop (i+1)).flatMap encL) rfl (by rw [recs_len encL_len,List.length_drop,HN.out]) (fun j u hu=>HCL.out j u hu) (recs_one _ (by intro x v hv; simp [encL] at hv; rcases hv with rfl | rfl | rfl | rfl <;> rfl)) (by unfold maxLen; omega) (by omega) ?_;intro v' w1 hr ho hown;obtain ⟨A',cap',rfl⟩:=hr.form;have hbg:b≠g:=fun e=>by
  have:=HH.out.obj.inj (by rw [e]; exact HB.out);exact absurd this.1 (by decide)
 have HR:=hid hr;have HO:=hid (((Only.refl [g] w).drew).trans ho);have HW:=hid hown;have HX:=hid (HH.out.obj.only HO.out (by simp; omega));have x0:=HX.out.at 0 rfl;have g0:=HX.out.frozen 0;clear hr ho hown hrow;rw [HN.out] at x0;refine hK _ _ (by rw [HS.out]; exact x0) ?_;clear hK K;refine ltail rfl fun K hK=>?_;go_simp;refine hK _ _ (by rw [HS.out]; exact x0) ?_;clear hK K;refine ltail rfl fun K hK=>?_;go_simp;refine hK _ _ (by rw [HS.out]; exact x0) ?_;clear hK K;refine llast rfl fun K hK=>?_;go_simp;refine hK _ _ (NoPanic.normal ?_);clear hK K;go_end0;have hl:(ls.take i ++ ls.drop (i+1)).length=i+(n - (i+1)):=by
  rw [List.length_append,List.length_take,List.length_drop,HN.out,Nat.min_eq_left (by omega)]
 have hblt:=HH.out.obj.lt;have q:Only [b] w1 (w1.setCell ⟨b,0,none⟩ (.slice A' (i+(n - (i+1))) cap')):=(Only.refl [b] w1).setCell (p:=⟨b,0,none⟩) (by simp) _;refine ⟨rfl,_,(HO.out.sub (by simp [Value.ownBlock])).trans (q.sub (by simp)),⟨by simpa using HX.out.set 0 (.slice A' (i+(n - (i+1))) cap'),?_,HH.out.s0,HH.out.s1,by rw [hl]; omega⟩,?_⟩
 ·rw [hl,List.flatMap_append];refine HR.out.only q fun x hx e=>?_;have hx:x=b:=by simpa using hx
  subst hx;rcases HW.out with h1 | h1
  ·rw [h1] at e;have e2:some g=some x:=e;cases e2;exact hbg rfl
  ·rw [h1] at e;simp at e;omega
 ·rcases HW.out with h1 | h1
  ·exact .inl h1
  ·right;intro x hx;rw [h1] at hx;simp at hx;omega
section
variable {P:Program} {ops:Array Oper} {Q:Exit→Act→World→Prop} {md:Region.Mode} {S:World→Prop} {z:Nat}
def wpB (P:Program) (md:Region.Mode) (ops:Array Oper) (Q:Exit→Act→World→Prop) (S:World→Prop) (z:Nat):Nat→Array Bool→Act→World→Prop
 | 0,listed,a,w=>Region.ready md ops listed=[]∧Q .normal a w
 | fuel+1,listed,a,w=>
  (Region.ready md ops listed=[]→Q .normal a w) ∧
  ∀ i ∈ Region.ready md ops listed,wpOp P ops Q i (fun a' w'=>(i=z∧wpAny P md ops Q fuel (listed.setIfInBounds i true) a' w')∨(i≠z∧S w'∧wpB P md ops Q S z fuel (listed.setIfInBounds i true) a' w')) a w
theorem wpAny_of_B : ∀ (fuel:Nat) (listed:Array Bool) (a:Act) (w:World),wpB P md ops Q S z fuel listed a w→wpAny P md ops Q fuel listed a w
 | 0,_,_,_,h=>h
 | fuel+1,_,_,_,h=>⟨h.1,fun i hi=>wpOp_mono (fun a' w' h'=>by
  rcases h' with h' | h'
  ·exact h'.2
  ·exact wpAny_of_B fuel _ a' w' h'.2.2) (h.2 i hi)⟩
theorem wpB_first {i:Nat} {oi:Oper} {v:Value} (hi:ops[i]?=some oi) (hsel:∀ (j:Nat) (o:Oper) cs b,ops[j]?=some o→o.op≠.select cs b)
 (hQ:∀ c a w,Q (.panic c) (a.put oi.dst v) w→Q (.panic c) a w) (hz:(∃ oz,ops[z]?=some oz∧∃ e ∈ oz.after,Region.binds md e=true∧e.on=i)∨ops[z]?=none) (hiz:i≠z) :
 ∀ (fuel:Nat) (listed:Array Bool) (a:Act) (w:World),
  (∀ j oj,ops[j]?=some oj→j≠i→listed.getD j true=false→(∀ e ∈ oj.after,Region.binds md e=true→e.on≠i)→oi.apart ops oj=true) →
  i ∈ Region.ready md ops listed→YieldsIf P ops S oi v a→S w →
  wpB P md ops Q S z fuel (listed.setIfInBounds i true) (a.put oi.dst v) w→wpB P md ops Q S z (fuel+1) listed a w:=by
 intro fuel
 induction fuel with
 | zero=>
  intro listed a w _ hr hy hS H;refine ⟨fun h=>(by rw [h] at hr; cases hr),fun j hj=>?_⟩;by_cases hji:j=i
  ·subst hji; exact hy.wpOp hi hS (.inr ⟨hiz,hS,H⟩)
  ·have:=ready_mono hj hji;rw [H.1] at this;cases this
 | succ fuel ih=>
  intro listed a w hfree hr hy hS H;refine ⟨fun h=>(by rw [h] at hr; cases hr),fun j hj=>?_⟩;by_cases hji:j=i
  ·subst hji; exact hy.wpOp hi hS (.inr ⟨hiz,hS,H⟩)
  ·have h1:=H.2 j (ready_mono hj hji);obtain ⟨hjun,oj,hoj,hall⟩:=mem_ready.1 hj;have hnot:∀ e ∈ oj.after,Region.binds md e=true→e.on≠i:=fun e he hb heq=>by
    have h1:=hall e he hb;have h0:=(mem_ready.1 hr).1;rw [heq] at h1;rcases Nat.lt_or_ge i listed.size with h' | h'
    ·simp [h'] at h0 h1; rw [h0] at h1; cases h1
    ·simp [Array.getElem?_eq_none h'] at h1
   have h2:=wpOp_putIf hoj (hfree j oj hoj hji hjun hnot) (fun cs b=>hsel i oi cs b hi) (fun cs b=>hsel j oj cs b hoj) hQ hy h1;have hfree':∀ k ok,ops[k]?=some ok→k≠i→(listed.setIfInBounds j true).getD k true=false →
    (∀ e ∈ ok.after,Region.binds md e=true→e.on≠i)→oi.apart ops ok=true:=fun k ok hk hki hun hno=>by
    refine hfree k ok hk hki ?_ hno;by_cases hjk:j=k
    ·subst hjk; exact hjun
    ·rw [getD_set_ne true hjk] at hun; exact hun
   have hjz:j≠z:=fun e=>by
    rcases hz with ⟨oz,ho,e1,he1,hb1,hon⟩ | hz
    ·rw [e,ho] at hoj;cases hoj;exact hnot e1 he1 hb1 hon
    ·rw [e,hz] at hoj;cases hoj
   have hri:=ready_mono hr (Ne.symm hji);refine wpOp_mono (fun a' w' h3=>?_) h2;obtain ⟨hy',h4⟩:=h3;rcases h4 with h4 | ⟨_,hS',h4⟩
   ·exact absurd h4.1 hjz
   ·rw [Array.setIfInBounds_comm _ _ (Ne.symm hji)] at h4;exact .inr ⟨hjz,hS',ih (listed.setIfInBounds j true) a' w' hfree' hri hy' hS' h4⟩
theorem wpB_pure {i:Nat} {oi:Oper} {v:Value} (hi:ops[i]?=some oi) (hsel:∀ (j:Nat) (o:Oper) cs b,ops[j]?=some o→o.op≠.select cs b)
 (hQ:∀ c a w,Q (.panic c) (a.put oi.dst v) w→Q (.panic c) a w) (hiz:i≠z) :
 ∀ (fuel:Nat) (listed:Array Bool) (a:Act) (w:World),
  (∀ j oj,ops[j]?=some oj→j≠i→listed.getD j true=false→(∀ e ∈ oj.after,Region.binds md e=true→e.on≠i)→oi.apart ops oj=true) →
  i ∈ Region.ready md ops listed→Yields P ops oi v a→S w →
  wpB P md ops Q S z fuel (listed.setIfInBounds i true) (a.put oi.dst v) w→wpB P md ops Q S z (fuel+1) listed a w:=by
 intro fuel
 induction fuel with
 | zero=>
  intro listed a w _ hr hy hS H;refine ⟨fun h=>(by rw [h] at hr; cases hr),fun j hj=>?_⟩;by_cases hji:j=i
  ·subst hji; exact hy.wpOp hi (.inr ⟨hiz,hS,H⟩)
  ·have:=ready_mono hj hji;rw [H.1] at this;cases this
 | succ fuel ih=>
  intro listed a w hfree hr hy hS H;refine ⟨fun h=>(by rw [h] at hr; cases hr),fun j hj=>?_⟩;by_cases hji:j=i
  ·subst hji; exact hy.wpOp hi (.inr ⟨hiz,hS,H⟩)
  ·have h1:=H.2 j (ready_mono hj hji);obtain ⟨hjun,oj,hoj,hall⟩:=mem_ready.1 hj;have hnot:∀ e ∈ oj.after,Region.binds md e=true→e.on≠i:=fun e he hb heq=>by
    have h1:=hall e he hb;have h0:=(mem_ready.1 hr).1;rw [heq] at h1;rcases Nat.lt_or_ge i listed.size with h' | h'
    ·simp [h'] at h0 h1; rw [h0] at h1; cases h1
    ·simp [Array.getElem?_eq_none h'] at h1
   have h2:=wpOp_put hoj (hfree j oj hoj hji hjun hnot) (fun cs b=>hsel i oi cs b hi) (fun cs b=>hsel j oj cs b hoj) hQ hy h1;have hfree':∀ k ok,ops[k]?=some ok→k≠i→(listed.setIfInBounds j true).getD k true=false →
    (∀ e ∈ ok.after,Region.binds md e=true→e.on≠i)→oi.apart ops ok=true:=fun k ok hk hki hun hno=>by
    refine hfree k ok hk hki ?_ hno;by_cases hjk:j=k
    ·subst hjk; exact hjun
    ·rw [getD_set_ne true hjk] at hun; exact hun
   have hri:=ready_mono hr (Ne.symm hji);refine wpOp_mono (fun a' w' h3=>?_) h2;obtain ⟨hy',h4⟩:=h3;rcases h4 with ⟨hz,h4⟩ | ⟨hz,hS',h4⟩
   ·rw [Array.setIfInBounds_comm _ _ (Ne.symm hji)] at h4;exact .inl ⟨hz,wpAny_first hi hsel hQ fuel (listed.setIfInBounds j true) a' w' hfree' hri hy' h4⟩
   ·rw [Array.setIfInBounds_comm _ _ (Ne.symm hji)] at h4;exact .inr ⟨hz,hS',ih (listed.setIfInBounds j true) a' w' hfree' hri hy' hS' h4⟩
def chkB (md:Region.Mode) (ops:Array Oper) (z:Nat) (listed:Array Bool) (i:Nat):Bool:=
 Region.noSelect ops && (Region.ready md ops listed).contains i && Region.free md ops listed i && (waitsB md ops z i || decide (ops.size≤z)) && decide (i≠z)
def chkP (md:Region.Mode) (ops:Array Oper) (z:Nat) (listed:Array Bool) (i:Nat):Bool:=
 Region.noSelect ops && (Region.ready md ops listed).contains i && Region.free md ops listed i && decide (i≠z)
def chkR (md:Region.Mode) (ops:Array Oper) (listed:Array Bool) (i:Nat):Bool:=decide (Region.ready md ops listed=[i])
theorem pTake {i:Nat} {oi:Oper} {fuel:Nat} {listed:Array Bool} {a:Act} {w:World} (hi:ops[i]?=some oi) (hc:chkB md ops z listed i=true) (hw:Region.wanted oi (yielded ops a.tmps)=true) (hS:S w)
 (h:∃ v,(∀ w',S w'→(execOp a.eval oi).run P w'=.ok (.value v) w')∧wpB P md ops (NoPanic Q) S z fuel (listed.setIfInBounds i true) (a.put oi.dst v) w):wpB P md ops (NoPanic Q) S z (fuel+1) listed a w:=by
 obtain ⟨v,h1,h2⟩:=h;simp only [chkB,Bool.and_eq_true,decide_eq_true_eq] at hc;obtain ⟨⟨⟨⟨c1,c2⟩,c3⟩,c4⟩,c5⟩:=hc;exact wpB_first hi (Region.noSelect_spec c1) (fun c a' w' hq=>hq.elim) ((Bool.or_eq_true _ _).mp c4 |>.imp waitsB_spec fun h=>Array.getElem?_eq_none (of_decide_eq_true h)) c5 fuel listed a w (Region.free_spec hi c3) (by simpa using c2) (.inl ⟨hw,h1⟩) hS h2
theorem pPure {i:Nat} {oi:Oper} {fuel:Nat} {listed:Array Bool} {a:Act} {w:World} (hi:ops[i]?=some oi) (hc:chkP md ops z listed i=true) (hw:Region.wanted oi (yielded ops a.tmps)=true) (hS:S w)
 (h:∃ v,(∀ w',(execOp a.eval oi).run P w'=.ok (.value v) w')∧wpB P md ops (NoPanic Q) S z fuel (listed.setIfInBounds i true) (a.put oi.dst v) w):wpB P md ops (NoPanic Q) S z (fuel+1) listed a w:=by
 obtain ⟨v,h1,h2⟩:=h;simp only [chkP,Bool.and_eq_true,decide_eq_true_eq] at hc;obtain ⟨⟨⟨c1,c2⟩,c3⟩,c5⟩:=hc;exact wpB_pure hi (Region.noSelect_spec c1) (fun c a' w' hq=>hq.elim) c5 fuel listed a w (Region.free_spec hi c3) (by simpa using c2) (.inl ⟨hw,h1⟩) hS h2
theorem pSkip {i:Nat} {oi:Oper} {fuel:Nat} {listed:Array Bool} {a:Act} {w:World} (hi:ops[i]?=some oi) (hc:chkP md ops z listed i=true) (hw:Region.wanted oi (yielded ops a.tmps)=false) (hS:S w)
 (h:wpB P md ops (NoPanic Q) S z fuel (listed.setIfInBounds i true) (a.put oi.dst undef) w):wpB P md ops (NoPanic Q) S z (fuel+1) listed a w:=by
 simp only [chkP,Bool.and_eq_true,decide_eq_true_eq] at hc;obtain ⟨⟨⟨c1,c2⟩,c3⟩,c5⟩:=hc;exact wpB_pure hi (Region.noSelect_spec c1) (fun c a' w' hq=>hq.elim) c5 fuel listed a w (Region.free_spec hi c3) (by simpa using c2) (.inr ⟨hw,rfl⟩) hS h
theorem pStep {i:Nat} {oi:Oper} {fuel:Nat} {listed:Array Bool} {a:Act} {w:World} (hi:ops[i]?=some oi) (hc:chkR md ops listed i=true) (hiz:decide (i≠z)=true) (hw:Region.wanted oi (yielded ops a.tmps)=true)
 (h:∀ K:Act→World→Prop,(∀ a' w',S w'→wpB P md ops Q S z fuel (listed.setIfInBounds i true) a' w'→K a' w')→Oper.wp P oi a w K Q):wpB P md ops Q S z (fuel+1) listed a w:=by
 have hc:=of_decide_eq_true hc;refine ⟨fun h0=>(by rw [h0] at hc; cases hc),fun j hj=>?_⟩;rw [hc] at hj;have hj:j=i:=by simpa using hj
 subst hj;unfold wpOp;simp only [hi];rw [if_pos hw];exact .inl (h _ fun a' w' h1 h2=>.inr ⟨of_decide_eq_true hiz,h1,h2⟩)
theorem pBar {oi:Oper} {fuel:Nat} {listed:Array Bool} {a:Act} {w:World} (hi:ops[z]?=some oi) (hc:chkR md ops listed z=true) (hw:Region.wanted oi (yielded ops a.tmps)=true)
 (h:∀ K:Act→World→Prop,(∀ a' w',wpAny P md ops Q fuel (listed.setIfInBounds z true) a' w'→K a' w')→Oper.wp P oi a w K Q):wpB P md ops Q S z (fuel+1) listed a w:=by
 have hc:=of_decide_eq_true hc;refine ⟨fun h0=>(by rw [h0] at hc; cases hc),fun j hj=>?_⟩;rw [hc] at hj;have hj:j=z:=by simpa using hj
 subst hj;unfold wpOp;simp only [hi];rw [if_pos hw];exact .inl (h _ fun a' w' h2=>.inl ⟨trivial,h2⟩)
theorem pBegin {id:Nat} {a:Act} {w:World} (hm:P.follows .mixedOrders=true) (h:wpAny P .any ops (NoPanic Q) ops.size (Array.replicate ops.size false) a w.drew):(Code.region id ops true).wp P Q a w:=
 wp_region_noPanic (wp_region_any hm h)
theorem pPhaseH {fuel:Nat} {listed:Array Bool} {a:Act} {w:World} (S:World→Prop) (z:Nat) (h0:S w) (h:Go.RowKit.Hid (S w)→wpB P md ops Q S z fuel listed a w):wpAny P md ops Q fuel listed a w:=wpAny_of_B _ _ _ _ (h (hid h0))
theorem pEnd {fuel:Nat} {listed:Array Bool} {a:Act} {w:World} (hr:decide (Region.ready md ops listed=[])=true) (h:Q .normal a w):wpB P md ops (NoPanic Q) S z fuel listed a w:=by
 have hr:=of_decide_eq_true hr;cases fuel with
 | zero=>exact ⟨hr,NoPanic.normal h⟩
 | succ n=>exact ⟨fun _=>NoPanic.normal h,fun i hi=>by rw [hr] at hi; cases hi⟩
theorem pDone {fuel:Nat} {listed:Array Bool} {a:Act} {w:World} (hr:decide (Region.ready md ops listed=[])=true) (h:Q .normal a w):wpAny P md ops (NoPanic Q) fuel listed a w:=
 wpAny_done (of_decide_eq_true hr) (NoPanic.normal h) fuel
end
end Go.Proofs.YtadgpnoealegiaaGreat
