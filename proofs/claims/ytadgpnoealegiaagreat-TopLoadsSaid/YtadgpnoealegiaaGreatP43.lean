import Derived.Test.YtadgpnoealegiaaGreatP42
namespace Go.Proofs.YtadgpnoealegiaaGreat
open Go.RowKit
open Go.Lib (hid)
set_option maxRecDepth 100000
set_option maxHeartbeats 20000000
def Mk.val (m:Mk):Value:=.agg #[.int .i64 m.k,.int .i64 m.vm,.int .i64 m.at',.int .i64 m.c.k,.int .u64 m.c.a,.int .u64 m.c.b,.int .u64 m.c.c,.int .u64 m.v,.int .i64 m.e]
theorem mk_out (k vm at' ck ca cb cc v e:Int):Mk.val ⟨k,vm,at',⟨ck,ca,cb,cc⟩,v,e⟩=.agg #[.int .i64 k,.int .i64 vm,.int .i64 at',.int .i64 ck,.int .u64 ca,.int .u64 cb,.int .u64 cc,.int .u64 v,.int .i64 e]:=rfl
theorem Tryz.infoMark : (Tryz.prog.info? 40).map (fun i=>(i.zero,i.size,i.bytes))=some (some (.agg #[.int .i64 0,.int .i64 0,.int .i64 0,.int .i64 0,.int .u64 0,.int .u64 0,.int .u64 0,.int .u64 0,.int .i64 0]),9,72):=by kernel_rfl
section
variable {w w':World} {p:MuP} {sz:Nat} {x:X}
theorem IsMu.own (h:IsMu w p sz x):p.kr≠p.b∧(∀ y,p.cpv.ownBlock=some y→y≠p.kr)∧∀ y,p.mv.ownBlock=some y→y≠p.kr:=by
 refine ⟨h.kn.ne_blk h.obj,fun y hy e=>?_,fun y hy e=>?_⟩
 ·obtain ⟨_,cs,hb⟩:=h.cpr.lt y hy;exact h.kn.ne_blk hb e.symm
 ·obtain ⟨_,cs,hb⟩:=h.mks.lt y hy;exact h.kn.ne_blk hb e.symm
theorem mmark_any (h:IsMu w p sz x) (m:Mk) (hn:x.mks.length < 100000000):Calls Tryz.prog 40 #[ptr p.b,m.val] w fun e w'=>e=.returned (.tuple #[])∧∃ mv',IsMu w' { p with mv:=mv' } sz { x with mks:=x.mks ++ [m] }∧MuTo w w' p { p with mv:=mv' } x.cp.length:=by
 obtain ⟨k,vm,at',⟨ck,ca,cb,cc⟩,v,e⟩:=m;rw [mk_out];have H0:=hid h;obtain ⟨n,hn'⟩:∃ n,x.mks.length=n:=⟨_,rfl⟩;obtain ⟨A,cap,hmv⟩:=h.mks.form;rw [hn'] at hmv hn;have hlt:=h.obj.lt;obtain ⟨W,hW⟩:∃ W,w.alloc (.cells #[.int .i64 k,.int .i64 vm,.int .i64 at',.int .i64 ck,.int .u64 ca,.int .u64 cb,.int .u64 cc,.int .u64 v,.int .i64 e] 40)=W:=⟨_,rfl⟩;have qW:Only [] w W:=by rw [← hW]; exact (Only.refl [] w).alloc _
 have hb:Blk W w.heap.size 40 #[.int .i64 k,.int .i64 vm,.int .i64 at',.int .i64 ck,.int .u64 ca,.int .u64 cb,.int .u64 cc,.int .u64 v,.int .i64 e]:=by rw [← hW]; exact Blk.new _ _ _
 have c5:=(h.obj.only qW (by simp)).at 5 (v:=p.mv) rfl;rw [hmv] at c5;have y0:=hb.at 0 (v:=.int .i64 k) rfl;have y1:=hb.at 1 (v:=.int .i64 vm) rfl;have y2:=hb.at 2 (v:=.int .i64 at') rfl;have y3:=hb.at 3 (v:=.int .i64 ck) rfl;have y4:=hb.at 4 (v:=.int .u64 ca) rfl;have y5:=hb.at 5 (v:=.int .u64 cb) rfl;have y6:=hb.at 6 (v:=.int .u64 cc) rfl;have y7:=hb.at 7 (v:=.int .u64 v) rfl;have y8:=hb.at 8 (v:=.int .i64 e) rfl;have HW:=hid hW;have HY:=hid hb;have HQ:=hid qW;have HMV:=hid hmv;have HN:=hid hn';have HNB:=hid (fun W (hW:Only [] w W)=>(h.obj.only hW (by simp)));clear h hb hW qW hmv hn';go_enter Tryz.func40,Tryz.ntmps40;go_upto_region 1 with fail;rw [HW.out];obtain ⟨S,hS⟩:∃ S:World→Prop,S=(fun w'=>w'.cell? ⟨p.b,5,none⟩=some (.slice A n cap)∧w'.cell? ⟨w.heap.size,0,none⟩=some (.int .i64 k)∧w'.cell? ⟨w.heap.size,1,none⟩=some (.int .i64 vm)∧w'.cell? ⟨w.heap.size,2,none⟩=some (.int .i64 at')∧w'.cell? ⟨w.heap.size,3,none⟩=some (.int .i64 ck)∧w'.cell? ⟨w.heap.size,4,none⟩=some (.int .u64 ca)∧w'.cell? ⟨w.heap.size,5,none⟩=some (.int .u64 cb)∧w'.cell? ⟨w.heap.size,6,none⟩=some (.int .u64 cc)∧w'.cell? ⟨w.heap.size,7,none⟩=some (.int .u64 v)∧w'.cell? ⟨w.heap.size,8,none⟩=some (.int .i64 e)):=⟨_,rfl⟩;have HS:=hid hS;clear hS;refine wp_region_lead 6 S (by kernel_rfl) (by kernel_rfl) (by rw [HS.out]; exact ⟨c5,y0,y1,y2,y3,y4,y5,y6,y7,y8⟩) ?_;simp only [List.take_succ_cons,List.take_zero,List.drop_succ_cons,List.drop_zero]
 repeat
  (refine lstep rfl ?_
   apply Exists.intro;refine ⟨fun w' hw'=>?_,?_⟩
   ·rw [HS.out] at hw';obtain ⟨p0,p1,p2,p3,p4,p5,p6,p7,p8,p9⟩:=hw';go_simp;with_reducible rfl
   go_simp)
 refine lnil ?_;refine ltail rfl fun K hK=>?_;go_simp;have HB:=hid (Blk.new W.drew 40 #[.int .i64 k,.int .i64 vm,.int .i64 at',.int .i64 ck,.int .u64 ca,.int .u64 cb,.int .u64 cc,.int .u64 v,.int .i64 e]);obtain ⟨w4,hw4⟩:∃ w4,W.drew.alloc (Obj.cells #[.int .i64 k,.int .i64 vm,.int .i64 at',.int .i64 ck,.int .u64 ca,.int .u64 cb,.int .u64 cc,.int .u64 v,.int .i64 e] 40)=w4:=⟨_,rfl⟩;rw [show (W.alloc (Obj.cells #[.int .i64 k,.int .i64 vm,.int .i64 at',.int .i64 ck,.int .u64 ca,.int .u64 cb,.int .u64 cc,.int .u64 v,.int .i64 e] 40)).drew=w4 from hw4];have q4:Only [] W w4:=by
  rw [← hw4];exact ((Only.refl [] W).drew).trans ((Only.refl [] W.drew).alloc _)
 have HSET:=hid (show ∀ wx,Only p.mv.ownBlock.toList W wx→S wx from fun wx hx=>by
  have hnx:∀ {g},g=p.b∨g=w.heap.size→g ∉ p.mv.ownBlock.toList:=fun {g} hg hm=>by
   obtain ⟨hl,cs,hb⟩:=H0.out.mks.lt g (Option.mem_toList.1 hm);rcases hg with rfl | rfl
   ·exact absurd (hb.inj H0.out.obj).1 (by decide)
   ·omega
  have b1:=(HNB.out W HQ.out).only hx (hnx (.inl rfl));have b2:=HY.out.only hx (hnx (.inr rfl));rw [HMV.out] at b1;rw [HS.out];exact ⟨b1.at 5 rfl,b2.at 0 rfl,b2.at 1 rfl,b2.at 2 rfl,b2.at 3 rfl,b2.at 4 rfl,b2.at 5 rfl,b2.at 6 rfl,b2.at 7 rfl,b2.at 8 rfl⟩)
 have HB4:Hid (Blk w4 W.heap.size 40 #[.int .i64 k,.int .i64 vm,.int .i64 at',.int .i64 ck,.int .u64 ca,.int .u64 cb,.int .u64 cc,.int .u64 v,.int .i64 e]):=hid (by rw [← hw4]; exact HB.out);have HQ4:=hid q4;have HR4:Hid (RowR w4 40 9 (.slice A n cap) n (x.mks.flatMap encMk)):=hid (by
  have:=(H0.out.quiet (HQ.out.trans q4)).mks;rw [HMV.out,HN.out] at this;exact this)
 clear hw4 q4 HB c5 y0 y1 y2 y3 y4 y5 y6 y7 y8;refine hK _ _ (HSET.out _ (HQ4.out.sub (by simp))) ?_;clear hK K;obtain ⟨i0,hz,hz0,hz1,hz2⟩:=info_parts Tryz.infoMark;refine ltail rfl fun K hK=>?_;refine wp_append_R (.tmp 8) (.tmp 10) 34 rfl 40 i0 (.agg #[.int .i64 0,.int .i64 0,.int .i64 0,.int .i64 0,.int .u64 0,.int .u64 0,.int .u64 0,.int .u64 0,.int .i64 0]) 9 72 Tryz.underlying34 hz hz0 hz1 hz2 rfl (by decide) _ n _ rfl HR4.out ⟨W.heap.size,0,none⟩ 1 1 [.int .i64 k,.int .i64 vm,.int .i64 at',.int .i64 ck,.int .u64 ca,.int .u64 cb,.int .u64 cc,.int .u64 v,.int .i64 e] rfl rfl (fun j u hu=>?_) (by intro u hu; simp at hu; rcases hu with rfl | rfl | rfl | rfl | rfl | rfl | rfl | rfl | rfl <;> rfl) (by unfold maxLen; omega) (by omega) ?_
 ·have h4:∀ j u,#[Value.int .i64 k,.int .i64 vm,.int .i64 at',.int .i64 ck,.int .u64 ca,.int .u64 cb,.int .u64 cc,.int .u64 v,.int .i64 e][j]?=some u→w4.cell? ⟨W.heap.size,j,none⟩=some u:=fun j u h=>HB4.out.at j h;have e:(⟨W.heap.size,0,none⟩:Addr).add j=⟨W.heap.size,j,none⟩:=by
   unfold Addr.add;split
   ·rename_i hj;rw [hj]
   ·simp
  rw [e];exact h4 j u (by simpa using hu)
 intro v5 w5 hr ho hown5;obtain ⟨A5,cap5,rfl⟩:=hr.form;have hO5:Only p.mv.ownBlock.toList W w5:=by
  rw [HMV.out];exact (HQ4.out.sub (by simp)).trans ho
 have HO5:=hid hO5;have hob:=(HNB.out W HQ.out).only hO5 (by
  intro hm;obtain ⟨hl,cs,hb⟩:=H0.out.mks.lt _ (Option.mem_toList.1 hm);exact absurd (hb.inj H0.out.obj).1 (by decide))
 have HOB:=hid hob;have HR:=hid hr;have hown5:(Value.slice A5 (n+1) cap5).ownBlock=(Value.slice A n cap).ownBlock∨(Value.slice A5 (n+1) cap5).ownBlock=some w4.heap.size:=hown5;have HW5:=hid hown5;have g5:=hob.frozen 5;have z5:=hob.at 5 (v:=p.mv) rfl;have hl4:W.heap.size≤w4.heap.size:=HQ4.out.size;have hlW:w.heap.size≤W.heap.size:=HQ.out.size;clear hr ho hown5 hz hz0 hz1 hz2 hob hO5;refine hK _ _ (HSET.out _ HO5.out) ?_;clear hK K;refine ltail rfl fun K hK=>?_;go_simp;refine hK _ _ (HSET.out _ HO5.out) ?_;clear hK K;refine ltail rfl fun K hK=>?_;go_simp;refine hK _ _ (HSET.out _ HO5.out) ?_;clear hK K;refine llast rfl fun K hK=>?_;go_simp;refine hK _ _ (NoPanic.normal ?_);clear hK K;have HEND:=hid (show IsMu (w5.setCell ⟨p.b,5,none⟩ (.slice A5 (n+1) cap5)) { p with mv:=.slice A5 (n+1) cap5 } sz { x with mks:=x.mks ++ [⟨k,vm,at',⟨ck,ca,cb,cc⟩,v,e⟩] }∧MuTo w (w5.setCell ⟨p.b,5,none⟩ (.slice A5 (n+1) cap5)) p { p with mv:=.slice A5 (n+1) cap5 } x.cp.length from by
  have q6:Only [p.b] w5 (w5.setCell ⟨p.b,5,none⟩ (.slice A5 (n+1) cap5)):=(Only.refl [p.b] w5).setCell (p:=⟨p.b,5,none⟩) (by simp) _;have hmo:∀ {y},p.mv.ownBlock=some y→y < w.heap.size:=fun {y} hy=>(H0.out.mks.lt y hy).1;have hv5:(Value.slice A5 (n+1) cap5).ownBlock=p.mv.ownBlock∨∀ y,(Value.slice A5 (n+1) cap5).ownBlock=some y→w.heap.size≤y:=by
   rcases HW5.out with h1 | h1
   ·exact .inl (h1.trans (by rw [HMV.out]))
   ·right;intro y hy;rw [h1] at hy;have:w4.heap.size=y:=by simpa using hy
    omega
  have hnb:∀ y ∈ [p.b],(Value.slice A5 (n+1) cap5).ownBlock≠some y:=fun y hy e=>by
   rw [List.mem_singleton.1 hy] at e;exact HR.out.ne HOB.out (by decide) e
  have hall:Only (p.b :: p.mv.ownBlock.toList) w (w5.setCell ⟨p.b,5,none⟩ (.slice A5 (n+1) cap5)):=((HQ.out.sub (by simp)).trans (HO5.out.sub (by simp))).trans (q6.sub (by simp));obtain ⟨hk1,hk2,hk3⟩:=H0.out.own;refine H0.out.ownTo hall (by intro y hy; simp at hy ⊢; rcases hy with h | h <;> simp [h]) (by simpa using HOB.out.set 5 (.slice A5 (n+1) cap5)) (H0.out.cpr.only hall fun y hy e=>?_) (H0.out.kn.only hall fun hm=>?_) ?_ hv5
  ·rcases List.mem_cons.1 hy with rfl | hy
   ·exact H0.out.cpr.ne H0.out.obj (by decide) e
   ·obtain ⟨_,cs,hb⟩:=H0.out.mks.lt y (Option.mem_toList.1 hy);exact H0.out.cpr.ne hb (by decide) e
  ·rcases List.mem_cons.1 hm with h1 | h1
   ·exact hk1 h1
   ·exact hk3 _ (Option.mem_toList.1 h1) rfl
  ·have hl:(x.mks ++ [(⟨k,vm,at',⟨ck,ca,cb,cc⟩,v,e⟩:Mk)]).length=n+1:=by simp [HN.out]
   rw [hl,List.flatMap_append];exact HR.out.only q6 hnb)
 go_wp2_with fail;go_end0;exact ⟨rfl,_,HEND.out⟩
end
theorem Tryz.underlyingKn : Tryz.prog.underlying 52=some (.map 3 4):=by kernel_rfl
section
variable {w w':World} {p:MuP} {sz:Nat} {x:X}
def Off (p:MuP) (n g:Nat):Prop:=∀ i,g ∉ p.foot n i
theorem MuTo.off {p':MuP} {n g:Nat} (k:MuTo w w' p p' n) (ha:Off p n g) (hg:g < w.heap.size):Off p' n g:=fun i hm=>by
 rcases k.f i g hm with ⟨j,hj⟩ | h
 ·exact ha j hj
 ·omega
theorem MuTo.blk {p':MuP} {n g t:Nat} {cs:Array Value} (k:MuTo w w' p p' n) (ha:Off p n g) (hb:Blk w g t cs):Blk w' g t cs:=by
 obtain ⟨T,o,hT⟩:=k.o;exact hb.only o fun hm=>by
  obtain ⟨i,hi⟩:=hT g hm;exact ha i hi
theorem MuTo.row {p':MuP} {n e s m:Nat} {v:Value} {xs:List Value} (k:MuTo w w' p p' n) (ha:∀ g,v.ownBlock=some g→Off p n g) (hr:RowR w e s v m xs):RowR w' e s v m xs:=by
 obtain ⟨T,o,hT⟩:=k.o;exact hr.only o fun y hm he=>by
  obtain ⟨i,hi⟩:=hT y hm;exact ha y he i hi
theorem MuTo.size {p':MuP} {n:Nat} (k:MuTo w w' p p' n):w.heap.size≤w'.heap.size:=by
 obtain ⟨T,o,_⟩:=k.o;exact o.size
theorem IsMu.off (h:IsMu w p sz x) {g:Nat} (hg:w.heap.size≤g):Off p x.cp.length g:=fun i hm=>by
 have:=h.ft.lim i g hm;omega
theorem MuTo.quiet {n:Nat} (_h:IsMu w p sz x) (o:Only [] w w') (hn:n=x.cp.length):MuTo w w' p p n:=by
 subst hn;exact MuTo.one o 0 (by simp) (fun _ _=>rfl) (fun _ hy=>.inl hy) rfl rfl rfl rfl rfl rfl (fun _=>rfl) (fun _=>rfl)
structure PhF (w:World) (p:MuP) (sz n r:Nat) (W:World) (p1:MuP) (x1:X):Prop where
 m:IsMu W p1 sz x1
 len:x1.cp.length=n
 k:MuTo w W p p1 n
 res:Blk W r 38 #[.int .u64 0,.int .i64 0]
 o:Off p1 n r
 l:w.heap.size≤r
theorem PhF.start (h:IsMu w p sz x):PhF w p sz x.cp.length w.heap.size (w.alloc (.cells #[.int .u64 0,.int .i64 0] 38)) p x:=
 ⟨h.quiet ((Only.refl [] w).alloc _),rfl,MuTo.quiet h ((Only.refl [] w).alloc _) rfl,Blk.new _ _ _,h.off (Nat.le_refl _),Nat.le_refl _⟩
theorem PhF.to {n r:Nat} {W W':World} {p1 p2:MuP} {x1 x2:X} (f:PhF w p sz n r W p1 x1) (h:IsMu W' p2 sz x2) (k:MuTo W W' p1 p2 x1.cp.length) (e:x2.cp.length=n):PhF w p sz n r W' p2 x2:=by
 rw [f.len] at k;exact ⟨h,e,f.k.trans k,k.blk f.o f.res,k.off f.o f.res.lt,f.l⟩
theorem PhF.quiet {n r:Nat} {W W':World} {p1:MuP} {x1:X} (f:PhF w p sz n r W p1 x1) (o:Only [] W W'):PhF w p sz n r W' p1 x1:=f.to (f.m.quiet o) (.quiet f.m o rfl) f.len
theorem PhF.out {n r:Nat} {W:World} {p1:MuP} {x1:X} (f:PhF w p sz n r W p1 x1) (v e:Value):IsMu ((W.setCell ⟨r,0,none⟩ v).setCell ⟨r,1,none⟩ e) p1 sz x1∧MuTo w ((W.setCell ⟨r,0,none⟩ v).setCell ⟨r,1,none⟩ e) p p1 n∧Blk ((W.setCell ⟨r,0,none⟩ v).setCell ⟨r,1,none⟩ e) r 38 #[v,e]:=by
 have o:Only [r] W ((W.setCell ⟨r,0,none⟩ v).setCell ⟨r,1,none⟩ e):=((Only.refl [r] W).setCell (p:=⟨r,0,none⟩) (.inl (.head _)) _).setCell (p:=⟨r,1,none⟩) (.inl (.head _)) _;refine ⟨f.m.only o fun y hy i=>?_,⟨?_,f.k.f,f.k.b,f.k.hb,f.k.eb,f.k.xb,f.k.cpv,f.k.kr,f.k.cb,f.k.tb⟩,by simpa using (f.res.set 0 v).set 1 e⟩
 ·rw [List.mem_singleton.1 hy,f.len];exact f.o i
 ·obtain ⟨T,o1,h1⟩:=f.k.o;exact ⟨T,o1.then o fun y hy=>.inr (by rw [List.mem_singleton.1 hy]; exact f.l),h1⟩
def PhTo (t:Nat) (w:World) (p:MuP) (sz:Nat) (x:X) (i:Nat) (e:Ending) (w':World):Prop:=
 ∃ v er en p' x1,e=.returned (.tuple #[.agg #[.int .u64 v,.int .i64 er],.bool en])∧IsMu w' p' sz x1∧MuTo w w' p p' x.cp.length∧x1.cp.length=x.cp.length∧x1.mks.length≤x.mks.length+5000 ∧
  ((en=false∧MStep t i x x1 0 0 false)∨(en=true∧∃ u1,x1.cp[i]?=some u1∧MStep t i x { x1 with cp:=x1.cp.set i (Cpu.rest u1.ls) } v er true))
def frAt (x:X) (xs:List Int) (j:Nat):X:={ x with S:={ x.S with ps:=freeL x.S.ps (xs.take j) },ep:=x.ep.advance.drop xs,kn:=knNot x.kn (xs.take j),mks:=x.mks ++ (xs.take j).map fun f=>⟨2,0,f,⟨0,0,0,0⟩,0,0⟩ }
theorem frAt_all (x:X) (xs:List Int):frAt x xs xs.length=goFree x xs:=by
 unfold frAt goFree;rw [List.take_length]
theorem knNot_nil (kn:Int→Bool):knNot kn []=kn:=by
 funext f;simp [knNot]
theorem frAt_zero (x:X) (xs:List Int):frAt x xs 0={ x with ep:=x.ep.advance.drop xs }:=by
 unfold frAt;rw [List.take_zero,knNot_nil,List.map_nil,List.append_nil];rfl
theorem knV_del (kn:Int→Bool) (f:Int):updM (knV kn) f none=knV (knNot kn [f]):=by
 funext k;unfold updM knV knNot;by_cases h:k=f
 ·subst h;simp
 ·simp [h]
theorem knNot_snoc (kn:Int→Bool) (l:List Int) (f:Int):knNot (knNot kn l) [f]=knNot kn (l ++ [f]):=by
 funext k;unfold knNot;by_cases h1:k ∈ l <;> by_cases h2:k=f <;> simp [h1,h2]
theorem frAt_next (x:X) {xs:List Int} {j:Nat} {f:Int} (hf:xs[j]?=some f) :
 { frAt x xs j with S:={ (frAt x xs j).S with ps:=free1 (frAt x xs j).S.ps f },kn:=knNot (frAt x xs j).kn [f],mks:=(frAt x xs j).mks ++ [⟨2,0,f,⟨0,0,0,0⟩,0,0⟩] }=frAt x xs (j+1):=by
 have e:xs.take (j+1)=xs.take j ++ [f]:=by
  rw [List.take_add_one,hf];rfl
 unfold frAt;dsimp only;rw [e,knNot_snoc,List.map_append,List.append_assoc];have e2:free1 (freeL x.S.ps (xs.take j)) f=freeL x.S.ps (xs.take j ++ [f]):=by
  unfold freeL;rw [List.foldl_append];rfl
 rw [e2];rfl
theorem IsMu.knTo (h:IsMu w p sz x) {kn':Int→Bool} (o:Only [p.kr] w w') (hk:IsMap w' p.kr (knV kn')):IsMu w' p sz { x with kn:=kn' }∧MuTo w w' p p x.cp.length:=by
 obtain ⟨h1,h2,h3⟩:=h.own;exact h.ownTo o (by simp) (mv':=p.mv) (mks':=x.mks) (h.obj.only o (by simpa using h1.symm)) (h.cpr.only o (fun y hy e=>h2 y e (by simpa using hy))) hk (h.mks.only o (fun y hy e=>h3 y e (by simpa using hy))) (.inl rfl)
theorem mfree_any (h:IsMu w p sz x) (hn:x.ep.now < 1000000) (hm:x.mks.length < 90000000):Calls Tryz.prog 35 #[ptr p.b] w fun e w'=>∃ xs mv',e=.returned (.int .i64 (xs.length:Nat))∧xs.length≤4096∧mayFree x xs∧IsMu w' { p with mv:=mv' } sz (goFree x xs)∧MuTo w w' p { p with mv:=mv' } x.cp.length:=by
 have HH:=hid h;have HA:=hid (eadvance_any h.ep (by omega));have hnow:x.ep.advance.now≤x.ep.now+1:=by
  unfold Ep.advance;split
  ·exact Int.le_refl _
  ·omega
 have x1:=h.obj.at 1 (v:=ptr p.eb) rfl;clear h;go_enter Tryz.func35,Tryz.ntmps35;go_wp2_with fail;refine HA.out.mono ?_;rintro e w1 ⟨rfl,ho,he⟩;obtain ⟨h1,k1⟩:=HH.out.epTo ho (by simp) he;have HF:=hid (efree_any he (by omega));have z1:=h1.obj.at 1 (v:=ptr p.eb) rfl;have H1:=hid h1;have K1:=hid k1;clear ho he h1 k1 x1;go_wp2_with fail;refine HF.out.mono ?_;rintro e w2 ⟨v,xs,rfl,ho,hr,hl,he⟩;obtain ⟨h2,k2⟩:=H1.out.epTo ho (by simp) he;obtain ⟨hr1,hr2,hr3⟩:=hr;obtain ⟨A,cap,rfl⟩:=hr1.form;have hoff:∀ g,(Value.slice A xs.length cap).ownBlock=some g→Off p x.cp.length g:=fun g hg=>H1.out.off (hr2 g hg);have hglt:∀ g,(Value.slice A xs.length cap).ownBlock=some g→g < w2.heap.size:=fun g hg=>(hr1.lt g hg).1;obtain ⟨n,hnn⟩:∃ n,xs.length=n:=⟨_,rfl⟩;have HST:=hid (show RowR w2 3 1 (.slice A xs.length cap) xs.length (xs.map (Value.int .i64))∧(∀ g,(Value.slice A xs.length cap).ownBlock=some g→Off p x.cp.length g∧g < w2.heap.size)∧mayFree x xs from ⟨hr1,fun g hg=>⟨hoff g hg,hglt g hg⟩,hr3⟩);rw [hnn] at HST;have H2:=hid h2;have K2:=hid (K1.out.trans k2);have HN:=hid hnn;have hn4:n≤4096:=by omega
 rw [hnn];clear ho hr1 hr2 hr3 hoff hglt he h2 k2 hnn HF HA z1;have z1:=H2.out.obj.at 1 (v:=ptr p.eb) rfl;go_wp2_with fail;clear z1;go_loopg [18] n (fun k i wr=>k≤n∧i=.int .i64 ((n:Int) - k)∧∃ mv',IsMu wr { p with mv:=mv' } sz (frAt x xs (n - k))∧MuTo w wr p { p with mv:=mv' } x.cp.length∧RowR wr 3 1 (.slice A n cap) n (xs.map (Value.int .i64))∧∀ g,(Value.slice A n cap).ownBlock=some g→Off { p with mv:=mv' } x.cp.length g∧g < wr.heap.size)
 case atStart=>
  refine ⟨Nat.le_refl _,by simp,p.mv,?_,K2.out,HST.out.1,HST.out.2.1⟩;rw [Nat.sub_self,frAt_zero];exact H2.out
 case round=>
  obtain ⟨hk,rfl,mv1,hmu,hto,hrow,hof⟩:=hrel;cases gk with
  | zero=>
   have hlt1:¬ ((n:Int) - ((0:Nat):Int) < n):=by omega
   rw [show n - 0=xs.length by rw [HN.out]; rfl,frAt_all] at hmu;have HM:=hid hmu;have HT:=hid hto;clear hmu hto hrow hof;go_wp2_with fail;go_ret;exact ⟨xs,by rw [HN.out]; rfl,by rw [HN.out]; exact hn4,HST.out.2.2,mv1,HM.out,HT.out⟩
  | succ k=>
   obtain ⟨j,hj⟩:∃ j,n - (k+1)=j:=⟨_,rfl⟩;have ej:(n:Int) - ((k+1:Nat):Int)=(j:Int):=by omega
   have hjn:j < n:=by omega
   rw [ej];rw [hj] at hmu;have hlt1:(j:Int) < n:=by omega
   have hj0:(0:Int)≤j:=by omega
   have ew2:IntKind.i64.wrap ((j:Int)+1)=(j:Int)+1:=by rw [IntKind.wrap_i64]; omega
   obtain ⟨g,cap',cur,hv,hb,hcap,hcm,hcs,hcur⟩:=hrow.has (by omega);injection hv with hv1 _ hv2;subst hv1 hv2;obtain ⟨f,hf⟩:∃ f,xs[j]?=some f:=⟨xs[j]'(by rw [HN.out]; exact hjn),by simp [HN.out,hjn]⟩;have cy:=hb.at j (v:=.int .i64 f) (hcur j _ (by simp [hf]));have x0:=hmu.obj.at 0 (v:=ptr p.a.hb) rfl;have HFR:=hid (hfree_any hmu.hv f);have HM:=hid hmu;have HT:=hid hto;have HR:=hid hrow;have HO:=hid hof;have HX:=hid hf;clear hmu hto hrow hof hf hcap hcm hcs hcur hb ej;go_wp2_with fail;refine HFR.out.mono ?_;rintro e w3 ⟨⟨er,rfl⟩,ho,hh⟩;obtain ⟨h3,k3⟩:=HM.out.hvTo ho (by intro y hy; rw [List.mem_singleton.1 hy]; exact List.mem_append_left _ (by simp)) hh rfl (fun y hy=>.inl hy);have x4:=h3.obj.at 4 (v:=.map (some p.kr)) rfl;have H3:=hid h3;have K3:=hid (HT.out.trans k3);have hr3:=k3.row (fun g hg=>(HO.out g hg).1) HR.out;have hO3:=fun g hg=>k3.off ((HO.out g hg).1) (HO.out g hg).2;have HR3:=hid hr3;have HO3:=hid hO3;have HKN:=hid h3.kn;clear h3 k3 hr3 hO3 ho hh x0 cy;dsimp only at HKN;go_wp2_with (first
    | (with_reducible (refine wpList_del Tryz.underlyingKn Tryz.underlying3 HKN.out (by with_unfolding_all rfl) (by with_unfolding_all rfl) (fun w4 hm4 ho4 _=>?_)))
    | fail)
   rw [knV_del] at hm4;obtain ⟨h4,k4⟩:=H3.out.knTo ho4 hm4;have HMK:=hid (mmark_any h4 ⟨2,0,f,⟨0,0,0,0⟩,0,0⟩ (by
    simp only [frAt,List.length_append,List.length_map,List.length_take];omega))
   have H4:=hid h4;have K4:=hid (K3.out.trans k4);have HR4:=hid (k4.row (fun g hg=>(HO3.out g hg)) HR3.out);have HO4:=hid (fun g hg=>And.intro (k4.off (HO3.out g hg) ((HR3.out.lt g hg).1)) (Nat.lt_of_lt_of_le (HR3.out.lt g hg).1 k4.size));clear h4 k4 hm4 ho4 x4;rw [mk_out] at HMK;go_wp2_with fail;refine HMK.out.mono ?_;rintro e w5 ⟨rfl,mv5,h5,k5⟩;have H5:=hid h5;have K5:=hid (K4.out.trans k5);have HR5:=hid (k5.row (fun g hg=>(HO4.out g hg).1) HR4.out);have HO5:=hid (fun g hg=>And.intro (k5.off (HO4.out g hg).1 (HO4.out g hg).2) (Nat.lt_of_lt_of_le (HO4.out g hg).2 k5.size));clear h5 k5;go_wp2_with fail;go_roundg k
   case measure=>omega
   case rel=>
    have e2:n - k=j+1:=by omega
    refine ⟨by omega,by congr 1; omega,mv5,?_,K5.out,HR5.out,HO5.out⟩;rw [e2,← frAt_next x HX.out];exact H5.out
theorem midle_any {t:Nat} (h:IsMu w p sz x) {i:Nat} {u:Cpu} (hu:x.cp[i]?=some u) (hp:u.ph=0) (hn:x.ep.now < 1000000) (hm:x.mks.length < 90000000):Calls Tryz.prog 26 #[ptr p.b,ptr (p.q i).cb] w (PhTo t w p sz x i):=by
 obtain ⟨W0,hW0⟩:∃ W0,w.alloc (.cells #[.int .u64 0,.int .i64 0] 38)=W0:=⟨_,rfl⟩;have hF:=PhF.start h;rw [hW0] at hF;have HF0:=hid hF;have HW0:=hid hW0;have HF:=hid (mfree_any hF.m hn hm);have HU:=hid (And.intro hu hp);clear h hF hW0 hu hp;go_enter Tryz.func26,Tryz.ntmps26;go_upto_region 1 with fail;rw [HW0.out];go_wp2_with fail;refine HF.out.mono ?_;rintro e w1 ⟨xs,mv,rfl,hl,hy,hm1,k1⟩;have HF1:=hid (HF0.out.to hm1 k1 rfl);have HY:=hid hy;have HL:=hid hl;clear hy hm1 k1 hl;have hr:=HF1.out.res;have r0:=hr.at 0 (v:=.int .u64 0) rfl;have r1:=hr.at 1 (v:=.int .i64 0) rfl;have g0:=hr.frozen 0;have g1:=hr.frozen 1;go_wp2_with fail;obtain ⟨z1,z2,z3⟩:=HF1.out.out (.int .u64 (0)) (.int .i64 (0));have q0:=z3.at 0 (v:=.int .u64 (0)) rfl;have q1:=z3.at 1 (v:=.int .i64 (0)) rfl;refine bodyPost_ret (v:=.tuple #[.agg #[.int .u64 (0),.int .i64 (0)],.bool false]) (by simp [results,Tryz.results26,go_sem,q0,q1]) rfl ?_;refine ⟨0,0,false,_,_,rfl,z1,z2,rfl,?_,.inl ⟨rfl,.idle HU.out.1 HU.out.2 HY.out⟩⟩;have:=HL.out;simp only [goFree,List.length_append,List.length_map];omega
end
section
variable {w w':World} {p:MuP} {sz:Nat} {x:X}
theorem sub_hv {a:HvP} {l:List Nat} (h:∀ y ∈ l,y ∈ [a.hb,a.mb,a.ms,a.pb,a.pr,a.gb,a.gr,a.qb]):l ⊆ a.fp:=fun y hy=>List.mem_append_left _ (h y hy)
theorem mreach_any {t:Nat} (h:IsMu w p sz x) {i:Nat} {u:Cpu} (hu:x.cp[i]?=some u) (hp:u.ph=3) (hf0:0≤u.fr) (hf1:u.fr < 4096) (hc:u.c.fits) (hel:x.ep.pins.length=x.cp.length) (hm:x.mks.length < 90000000):Calls Tryz.prog 29 #[ptr p.b,ptr (p.q i).cb] w (PhTo t w p sz x i):=by
 have hi:=(List.getElem?_eq_some_iff.1 hu).1;obtain ⟨W0,hW0⟩:∃ W0,w.alloc (.cells #[.int .u64 0,.int .i64 0] 38)=W0:=⟨_,rfl⟩;have hF:=PhF.start h;rw [hW0] at hF;have HF0:=hid hF;have HW0:=hid hW0;have HU:=hid (And.intro hu hp);obtain ⟨fr,hfr⟩:∃ fr,u.fr=fr:=⟨_,rfl⟩;obtain ⟨a,ha⟩:∃ a,u.c.a=a:=⟨_,rfl⟩;obtain ⟨b,hb⟩:∃ b,u.c.b=b:=⟨_,rfl⟩;obtain ⟨r,hr⟩:∃ r,a % 16=r:=⟨_,rfl⟩;have ha0:0≤a:=by rw [← ha]; exact hc.1
 have hr0:0≤r:=by omega
 have hr1:r < 16:=by omega
 have HBR:=hid (show 0≤b∧b < 18446744073709551616 by rw [← hb]; exact hc.2);have et:a.tmod 16=r:=by rw [Int.tmod_eq_emod_of_nonneg ha0]; exact hr
 rw [hfr] at hf0 hf1;have ew1:IntKind.i64.wrap (16 * fr)=16 * fr:=by rw [IntKind.wrap_i64]; omega
 have ew2:IntKind.u64.wrap r=r:=by rw [IntKind.wrap_u64]; omega
 have ew3:IntKind.i64.wrap r=r:=by rw [IntKind.wrap_i64]; omega
 have ew4:IntKind.i64.wrap (16 * fr+r)=16 * fr+r:=by rw [IntKind.wrap_i64]; omega
 have HFA:=hid (show ∀ wx,Only [] W0 wx→wx.cell? ⟨(p.q i).cb,9,none⟩=some (.int .i64 fr)∧wx.cell? ⟨(p.q i).cb,5,none⟩=some (.int .u64 a) from fun wx hx=>by
  have hq:=((hF.quiet hx).m.cpu i u hu).obj;rw [hfr,ha] at hq;exact ⟨hq.at 9 rfl,hq.at 5 rfl⟩)
 obtain ⟨k,hk⟩:∃ k,u.c.k=k:=⟨_,rfl⟩;have HEQ:=hid (And.intro hfr (And.intro ha (And.intro hb (And.intro hr hk))));have HI:=hid (And.intro hel hm);clear h hF hW0 hu hp hc hel ha hb hfr hr hm;go_enter Tryz.func29,Tryz.ntmps29;go_upto_region 1 with fail;rw [HW0.out];refine wp_region_quiet_tail 13 (by kernel_rfl) (by kernel_rfl) (fun w'=>Only [] W0 w') ((Only.refl _ _).drew) ?_;simp only [List.take_succ_cons,List.take_zero,List.drop_succ_cons,List.drop_zero]
 repeat
  (refine qstep rfl ?_
   apply Exists.intro;refine ⟨fun w' hw'=>?_,?_⟩
   ·obtain ⟨p0,p1⟩:=HFA.out w' hw';go_simp
    first
     | with_reducible rfl
     | exact quiet_val
   go_simp)
 refine wpQuiet_nil ?_;intro wf hwf;have HF1:=hid (HF0.out.quiet hwf);have HFB:=hid (show ∀ wx,Only [] wf wx→wx.cell? ⟨p.b,1,none⟩=some (ptr p.eb)∧wx.cell? ⟨(p.q i).cb,0,none⟩=some (.int .i64 i) from fun wx hx=>by
  have hq:=(HF1.out.quiet hx).m;exact ⟨hq.obj.at 1 rfl,(hq.cpu i u HU.out.1).obj.at 0 rfl⟩)
 clear hwf;go_wp2_with fail;refine wp_region_quiet_tail 8 (by kernel_rfl) (by kernel_rfl) (fun w'=>Only [] wf w') ((Only.refl _ _).drew) ?_;simp only [List.take_succ_cons,List.take_zero,List.drop_succ_cons,List.drop_zero]
 repeat
  (refine qstep rfl ?_
   apply Exists.intro;refine ⟨fun w' hw'=>?_,?_⟩
   ·obtain ⟨p0,p1⟩:=HFB.out w' hw';go_simp
    first
     | with_reducible rfl
     | exact quiet_val
   go_simp)
 refine wpQuiet_nil ?_;intro wf hwf;have HF2:=hid (HF1.out.quiet hwf);have HUP:=hid (eunpin_any HF2.out.m.ep i (by rw [HI.out.1]; exact hi));clear hwf HFA HFB HF1;go_wp2_with fail;refine HUP.out.mono ?_;rintro e w3 ⟨⟨er,rfl⟩,ho,he⟩;obtain ⟨hm3,k3⟩:=HF2.out.m.epTo ho (by intro y hy; exact .tail _ (.tail _ hy)) he;have HF3:=hid (HF2.out.to hm3 k3 rfl);clear hm3 k3 ho he;have hcp:=(HF3.out.m.cpu i u HU.out.1).obj;have c4:=hcp.at 4 (v:=.int .i64 u.c.k) rfl;have c6:=hcp.at 6 (v:=.int .u64 u.c.b) rfl;rw [HEQ.out.2.2.2.2] at c4;rw [HEQ.out.2.2.1] at c6;have x0:=HF3.out.m.obj.at 0 (v:=ptr p.a.hb) rfl;clear hcp;by_cases hk7:k=7
 ·have dk:(k == 7)=true:=by simpa using hk7
  have HFC:=hid (show ∀ wx,Only [] w3 wx→wx.cell? ⟨p.b,0,none⟩=some (ptr p.a.hb)∧wx.cell? ⟨(p.q i).cb,6,none⟩=some (.int .u64 b) from fun wx hx=>by
   have hq:=(HF3.out.quiet hx).m;have hc:=(hq.cpu i u HU.out.1).obj;rw [HEQ.out.2.2.1] at hc;exact ⟨hq.obj.at 0 rfl,hc.at 6 rfl⟩)
  have HMEM:=hid (fun wx (hx:Only [] w3 wx)=>hmemory_any (HF3.out.quiet hx).m.hv);go_upto_region 4 with fail;refine wp_region_quiet_tail 11 (by kernel_rfl) (by kernel_rfl) (fun w'=>Only [] w3 w') ((Only.refl _ _).drew) ?_;simp only [List.take_succ_cons,List.take_zero,List.drop_succ_cons,List.drop_zero]
  repeat
   (refine qstep rfl ?_
    apply Exists.intro;refine ⟨fun w' hw'=>?_,?_⟩
    ·obtain ⟨p0,p1⟩:=HFC.out w' hw';go_simp
     first
      | with_reducible rfl
      | exact quiet_val
      | (first
       | exact (HMEM.out w' hw').mono fun e w'' ⟨he,hw⟩=>⟨he,hw ▸ hw'⟩)
      | (apply quiet_call
         first
          | exact (HMEM.out w' hw').mono fun e w'' ⟨he,hw⟩=>⟨he,hw ▸ hw'⟩)
    go_simp)
  refine wpQuiet_nil ?_;intro wf hwf;have HF4:=hid (HF3.out.quiet hwf);have HST:=hid (sto_any HF4.out.m.hv.mem (16 * fr+r) b HBR.out.1 HBR.out.2);clear hwf c4 c6 x0 HFC HMEM;go_wp2_with fail;refine HST.out.mono ?_;rintro e w5 ⟨rfl,ho,hmm⟩;obtain ⟨hm5,k5⟩:=HF4.out.m.hvTo ho (sub_hv (by simp)) (HF4.out.m.hv.words ho hmm) rfl (fun y hy=>.inl hy);have HF5:=hid (HF4.out.to hm5 k5 rfl);clear hm5 k5 ho hmm;have hcp:=(HF5.out.m.cpu i u HU.out.1).obj;have c6:=hcp.at 6 (v:=.int .u64 u.c.b) rfl;rw [HEQ.out.2.2.1] at c6;have HMK:=hid (mmark_any HF5.out.m ⟨4,0,16 * fr+r,⟨0,0,0,0⟩,b,0⟩ (by have:=HI.out.2; show x.mks.length < 100000000; omega));rw [mk_out] at HMK;clear hcp;go_wp2_with fail;refine HMK.out.mono ?_;rintro e w6 ⟨rfl,mv,hm6,k6⟩;have HF6:=hid (HF5.out.to hm6 k6 rfl);clear hm6 k6 c6;have hr:=HF6.out.res;have r0:=hr.at 0 (v:=.int .u64 0) rfl;have r1:=hr.at 1 (v:=.int .i64 0) rfl;have g0:=hr.frozen 0;have g1:=hr.frozen 1;go_wp2_with fail;obtain ⟨z1,z2,z3⟩:=HF6.out.out (.int .u64 (0)) (.int .i64 (0));have q0:=z3.at 0 (v:=.int .u64 (0)) rfl;have q1:=z3.at 1 (v:=.int .i64 (0)) rfl;refine bodyPost_ret (v:=.tuple #[.agg #[.int .u64 (0),.int .i64 (0)],.bool true]) (by simp [results,Tryz.results29,go_sem,q0,q1]) rfl ?_;refine ⟨0,0,true,_,_,rfl,z1,z2,rfl,by simp,.inr ⟨rfl,u,HU.out.1,?_⟩⟩;have hs:=MStep.store (t:=t) HU.out.1 HU.out.2 (HEQ.out.2.2.2.2.trans hk7);rw [HEQ.out.1,HEQ.out.2.1,HEQ.out.2.2.1,HEQ.out.2.2.2.1] at hs;exact hs
 ·have dk:(k == 7)=false:=by simpa using hk7
  have HMEM:=hid (hmemory_any HF3.out.m.hv);have HLD:=hid (lod_any HF3.out.m.hv.mem (16 * fr+r));clear c6;go_wp2_with fail;refine HMEM.out.mono ?_;rintro e w4 ⟨rfl,rfl⟩;go_wp2_with fail;refine HLD.out.mono ?_;rintro e w5 ⟨rfl,ho,hmm⟩;obtain ⟨hm5,k5⟩:=HF3.out.m.hvTo ho (sub_hv (by simp)) (HF3.out.m.hv.same ho hmm) rfl (fun y hy=>.inl hy);have HF5:=hid (HF3.out.to hm5 k5 rfl);clear hm5 k5 ho hmm c4 x0;have HMK:=hid (mmark_any HF5.out.m ⟨3,0,16 * fr+r,⟨0,0,0,0⟩,ld x.S.L (16 * fr+r),0⟩ (by have:=HI.out.2; show x.mks.length < 100000000; omega));rw [mk_out] at HMK;go_wp2_with fail;refine HMK.out.mono ?_;rintro e w6 ⟨rfl,mv,hm6,k6⟩;have HF6:=hid (HF5.out.to hm6 k6 rfl);clear hm6 k6;have hr:=HF6.out.res;have r0:=hr.at 0 (v:=.int .u64 0) rfl;have r1:=hr.at 1 (v:=.int .i64 0) rfl;have g0:=hr.frozen 0;have g1:=hr.frozen 1;go_wp2_with fail;obtain ⟨z1,z2,z3⟩:=HF6.out.out (.int .u64 (ld x.S.L (16 * fr+r))) (.int .i64 (0));have q0:=z3.at 0 (v:=.int .u64 (ld x.S.L (16 * fr+r))) rfl;have q1:=z3.at 1 (v:=.int .i64 (0)) rfl;refine bodyPost_ret (v:=.tuple #[.agg #[.int .u64 (ld x.S.L (16 * fr+r)),.int .i64 (0)],.bool true]) (by simp [results,Tryz.results29,go_sem,q0,q1]) rfl ?_;refine ⟨_,0,true,_,_,rfl,z1,z2,rfl,by simp,.inr ⟨rfl,u,HU.out.1,?_⟩⟩;have hs:=MStep.load (t:=t) HU.out.1 HU.out.2 (fun h=>hk7 (HEQ.out.2.2.2.2.symm.trans h));rw [HEQ.out.1,HEQ.out.2.1,HEQ.out.2.2.2.1] at hs;exact hs
end
end Go.Proofs.YtadgpnoealegiaaGreat
