import Derived.Test.YtadgpnoealegiaaGreatP16
namespace Go.Proofs.YtadgpnoealegiaaGreat
open Go.RowKit
open Go.Lib (hid)
set_option maxRecDepth 100000
set_option maxHeartbeats 20000000
structure Wk where
 f:Int
 p:Int
 w:Int
 l:Int
 fF:Int
 fR:Int
 fL:Int
 fE:Int
def Wk.cells (s:Wk) (v:Value):Array Value:=#[.int .i64 s.f,.int .i64 s.p,.int .i64 s.w,.int .i64 s.l,.int .i64 s.fF,.int .i64 s.fR,.int .i64 s.fL,.int .i64 s.fE,v,.bool true]
def WkAt (w:World) (b:Nat) (s:Wk) (v:Value):Prop:=Blk w b 164 (s.cells v)
def Wk.ends (s:Wk) (f r e:Int):Wk:={ s with fF:=f,fR:=r,fL:=s.l,fE:=e,l:=-1 }
theorem wend_any {w:World} {b:Nat} {s:Wk} {v:Value} (h:WkAt w b s v) (f r l e:Int):Calls Tryz.prog 76 #[ptr b,.agg #[.int .i64 f,.int .i64 r,.int .i64 l,.int .i64 e]] w fun en w'=>en=.returned (.tuple #[])∧Only [b] w w'∧WkAt w' b (s.ends f r e) v:=by
 have H:=hid h;have hlt:=h.lt;clear h;have hne:b≠w.heap.size:=by omega
 have hne2:w.heap.size≠b:=by omega
 obtain ⟨sf,sp,sw,sl,s1,s2,s3,s4⟩:=s;unfold WkAt Wk.cells at H;dsimp only at H;have x3:=H.out.at 3 (v:=.int .i64 sl) rfl;have x4:=H.out.at 4 (v:=.int .i64 s1) rfl;have x5:=H.out.at 5 (v:=.int .i64 s2) rfl;have x6:=H.out.at 6 (v:=.int .i64 s3) rfl;have x7:=H.out.at 7 (v:=.int .i64 s4) rfl;have g0:=H.out.frozen 0;have g1:=H.out.frozen 1;have g2:=H.out.frozen 2;have g3:=H.out.frozen 3;have g4:=H.out.frozen 4;have g5:=H.out.frozen 5;have g6:=H.out.frozen 6;have g7:=H.out.frozen 7;go_enter Tryz.func76,Tryz.ntmps76;go_wp2_with fail;go_end0;refine ⟨rfl,?_,?_⟩
 ·exact ((((((Only.refl [b] w).setCell (p:=⟨b,4,none⟩) (by simp) _).setCell (p:=⟨b,5,none⟩) (by simp) _).setCell (p:=⟨b,6,none⟩) (by simp) _).setCell (p:=⟨b,7,none⟩) (by simp) _).setCell (p:=⟨b,3,none⟩) (by simp) _).alloc _
 ·have:=(((((H.out.set 4 (.int .i64 f)).set 5 (.int .i64 r)).set 6 (.int .i64 sl)).set 7 (.int .i64 e)).set 3 (.int .i64 (-1))).alloc (.cells #[.int .i64 f,.int .i64 r,.int .i64 sl,.int .i64 e] 141);exact this
def Wk.inn (s:Wk) (f:Int) (x:PE) (al:Bool):Wk:=if 4096≤f then s.ends 0 0 11 else if al then s.ends f x.ri 0 else s.ends f x.ri 7
theorem win_any {w:World} {b:Nat} {s:Wk} {v:Value} (h:WkAt w b s v) (f:Int) (x:PE):Calls Tryz.prog 118 #[ptr b,.int .i64 f,x.val] w fun en w'=>en=.returned (.tuple #[])∧Only [b] w w'∧∃ al,WkAt w' b (s.inn f x al) v:=by
 have HA:=hid (fun W=>allows_any W x s.w);have HV:=hid (show PE.val ⟨x.pr,x.ri,x.la,x.fr⟩=.agg #[.bool x.pr,.int .i64 x.ri,.bool x.la,.int .i64 x.fr] from rfl);have HE:=hid (fun W (hW:WkAt W b s v)=>wend_any hW);have H:=hid h;have hlt:=h.lt;clear h;have hne:b≠w.heap.size:=by omega
 obtain ⟨pr,ri,la,fr⟩:=x;dsimp only at HV;rw [HV.out] at HA ⊢;unfold Wk.inn;dsimp only;by_cases hf:4096≤f
 ·simp only [if_pos hf];have HE2:=hid (HE.out (w.alloc (.cells #[.bool pr,.int .i64 ri,.bool la,.int .i64 fr] 172)) (H.out.alloc _) 0 0 0 11);clear HE HA;go_enter Tryz.func118,Tryz.ntmps118;go_wp2_with fail;refine HE2.out.mono ?_;rintro e w1 ⟨rfl,ho,hw⟩;have HO:=hid ho;have HW:=hid hw;clear ho hw;go_wp2_with fail;go_end0;exact ⟨rfl,((Only.refl [b] w).alloc _).trans HO.out,true,HW.out⟩
 ·simp only [if_neg hf];have hf2:decide (4096≤f)=false:=by simpa using hf
  obtain ⟨cs,hcs⟩:∃ cs,s.cells v=cs:=⟨_,rfl⟩;have x2:w.cell? ⟨b,2,none⟩=some (.int .i64 s.w):=H.out.at 2 rfl;have q1:=(Only.refl [b] w).alloc (.cells #[.bool pr,.int .i64 ri,.bool la,.int .i64 fr] 172);have HQ1:=hid q1;have HB1:=hid (Blk.new w 172 #[.bool pr,.int .i64 ri,.bool la,.int .i64 fr]);have HW1:=hid (show WkAt (w.alloc (.cells #[.bool pr,.int .i64 ri,.bool la,.int .i64 fr] 172)) b s v from H.out.alloc _);clear q1;go_enter Tryz.func118,Tryz.ntmps118;go_upto_region 4 with fail;generalize hw0:w.alloc (.cells #[.bool pr,.int .i64 ri,.bool la,.int .i64 fr] 172)=w0 at HQ1 HB1 HW1 ⊢;have y2:w0.cell? ⟨b,2,none⟩=some (.int .i64 s.w):=HW1.out.at 2 rfl;have z0:=HB1.out.at 0 (v:=.bool pr) rfl;have z1:=HB1.out.at 1 (v:=.int .i64 ri) rfl;have z2:=HB1.out.at 2 (v:=.bool la) rfl;have z3:=HB1.out.at 3 (v:=.int .i64 fr) rfl;have f4:(if 4096≤f then s.ends 0 0 11 else s.ends f ri 7)=s.ends f ri 7:=if_neg hf;clear hw0 x2 hcs;refine pBegin rfl ?_;obtain ⟨S,hS⟩:∃ S:World→Prop,S=fun w'=>w'.cell? ⟨b,2,none⟩=some (.int .i64 s.w)∧w'.cell? ⟨w.heap.size,0,none⟩=some (.bool pr)∧w'.cell? ⟨w.heap.size,1,none⟩=some (.int .i64 ri)∧w'.cell? ⟨w.heap.size,2,none⟩=some (.bool la)∧w'.cell? ⟨w.heap.size,3,none⟩=some (.int .i64 fr):=⟨_,rfl⟩;have HS:=hid hS;clear hS;refine pPhaseH S 5 (by rw [HS.out]; exact ⟨y2,z0,z1,z2,z3⟩) fun HSW=>?_;refine pTake (i:=0) rfl (by kernel_rfl) rfl HSW.out ?_;apply Exists.intro;refine ⟨fun w' hw'=>?_,?_⟩
  ·rw [HS.out] at hw';obtain ⟨p0,p1,p2,p3,p4⟩:=hw';go_simp;with_reducible rfl
  go_simp;refine pPure (i:=1) rfl (by kernel_rfl) rfl HSW.out ?_;apply Exists.intro;refine ⟨fun w'=>?_,?_⟩
  ·go_simp;with_reducible rfl
  go_simp;refine pPure (i:=2) rfl (by kernel_rfl) rfl HSW.out ?_;apply Exists.intro;refine ⟨fun w'=>?_,?_⟩
  ·go_simp;with_reducible rfl
  go_simp;refine pPure (i:=3) rfl (by kernel_rfl) rfl HSW.out ?_;apply Exists.intro;refine ⟨fun w'=>?_,?_⟩
  ·go_simp;with_reducible rfl
  go_simp;refine pTake (i:=4) rfl (by kernel_rfl) rfl HSW.out ?_;apply Exists.intro;refine ⟨fun w' hw'=>?_,?_⟩
  ·rw [HS.out] at hw';obtain ⟨p0,p1,p2,p3,p4⟩:=hw';go_simp;with_reducible rfl
  go_simp;refine pBar rfl (by kernel_rfl) rfl fun K hK=>?_;go_simp;refine (HA.out _).mono ?_;rintro e w1 ⟨⟨al,rfl⟩,ho⟩;have HQ2:=hid (HQ1.out.trans ((((Only.refl [] w0).drew).trans ho).sub (by simp)));have HB2:=hid (HB1.out.only (((Only.refl [] w0).drew).trans ho) (by simp));have HW2:=hid (show WkAt w1 b s v from HW1.out.only (((Only.refl [] w0).drew).trans ho) (by simp));dsimp only;refine hK _ _ ?_;clear hK K HSW HS S y2 z0 z1 z2 z3 ho;obtain ⟨S,hS⟩:∃ S:World→Prop,S=fun _=>True:=⟨_,rfl⟩;have HS:=hid hS;clear hS;refine pPhaseH S 99 (by rw [HS.out]; exact trivial) fun HSW=>?_;refine pPure (i:=6) rfl (by kernel_rfl) rfl HSW.out ?_;apply Exists.intro;refine ⟨fun w'=>?_,?_⟩
  ·go_simp;with_reducible rfl
  go_simp;refine pPure (i:=7) rfl (by kernel_rfl) rfl HSW.out ?_;apply Exists.intro;refine ⟨fun w'=>?_,?_⟩
  ·go_simp;with_reducible rfl
  go_simp;refine pEnd (by kernel_rfl) ?_;clear HSW HS S;have z0:=HB2.out.at 0 (v:=.bool pr) rfl;have z1:=HB2.out.at 1 (v:=.int .i64 ri) rfl;have z2:=HB2.out.at 2 (v:=.bool la) rfl;have z3:=HB2.out.at 3 (v:=.int .i64 fr) rfl;cases al
  ·have HE2:=hid (wend_any HW2.out f ri 0 7);go_wp2_with fail;refine HE2.out.mono ?_;rintro e w2 ⟨rfl,ho,hw⟩;have HO:=hid (HQ2.out.trans ho);have HW:=hid hw;clear ho hw HE2;go_wp2_with fail;go_end0;exact ⟨rfl,HO.out,false,HW.out⟩
  ·have HE2:=hid (wend_any HW2.out f ri 0 0);go_wp2_with fail;refine HE2.out.mono ?_;rintro e w2 ⟨rfl,ho,hw⟩;have HO:=hid (HQ2.out.trans ho);have HW:=hid hw;clear ho hw HE2;go_wp2_with fail;go_end0;exact ⟨rfl,HO.out,true,HW.out⟩
section
variable {w:World} {b c2 c3:Nat} {s:Wk} {v:Value}
theorem wd1_any (h:WkAt w b s v) (h2:Blk w c2 65 #[ptr b]):Calls Tryz.prog 114 #[ptr c2] w fun en w'=>en=.returned (.tuple #[])∧Only [b] w w'∧WkAt w' b (s.ends 0 0 4) v:=by
 have HE:=hid (wend_any h 0 0 0 4);have x0:=h2.at 0 rfl;clear h h2;go_enter Tryz.func114,Tryz.ntmps114;go_wp2_with fail;refine HE.out.mono ?_;rintro e w2 ⟨rfl,ho,hw⟩;have HO:=hid ho;have HW:=hid hw;clear ho hw;go_wp2_with fail;go_end0;exact ⟨rfl,HO.out,HW.out⟩
theorem wd5_any (h:WkAt w b s v) (h2:Blk w c2 65 #[ptr b]):Calls Tryz.prog 121 #[ptr c2] w fun en w'=>en=.returned (.tuple #[])∧Only [b] w w'∧WkAt w' b (s.ends 0 0 11) v:=by
 have HE:=hid (wend_any h 0 0 0 11);have x0:=h2.at 0 rfl;clear h h2;go_enter Tryz.func121,Tryz.ntmps121;go_wp2_with fail;refine HE.out.mono ?_;rintro e w2 ⟨rfl,ho,hw⟩;have HO:=hid ho;have HW:=hid hw;clear ho hw;go_wp2_with fail;go_end0;exact ⟨rfl,HO.out,HW.out⟩
theorem wd4_any {pr:Bool} {ri:Int} {la:Bool} {fr:Int} (h:WkAt w b s v) (h2:Blk w c2 65 #[ptr b]) (h3:Blk w c3 172 #[.bool pr,.int .i64 ri,.bool la,.int .i64 fr]) :
 Calls Tryz.prog 120 #[ptr c2,ptr c3] w fun en w'=>en=.returned (.tuple #[])∧Only [b] w w'∧∃ al,WkAt w' b (s.inn fr ⟨pr,ri,la,fr⟩ al) v:=by
 have HE:=hid (win_any h fr ⟨pr,ri,la,fr⟩);have x0:=h2.at 0 rfl;have y0:=h3.at 0 (v:=.bool pr) rfl;have y1:=h3.at 1 (v:=.int .i64 ri) rfl;have y2:=h3.at 2 (v:=.bool la) rfl;have y3:=h3.at 3 (v:=.int .i64 fr) rfl;clear h h2 h3;go_enter Tryz.func120,Tryz.ntmps120;go_wp2_with fail;refine HE.out.mono ?_;rintro e w2 ⟨rfl,ho,hw⟩;have HO:=hid ho;have HW:=hid hw;clear ho hw;go_wp2_with fail;go_end0;exact ⟨rfl,HO.out,HW.out⟩
theorem wd2_any {pr:Bool} {ri:Int} {la:Bool} {fr:Int} (h:WkAt w b s v) (h2:Blk w c2 65 #[ptr b]) (h3:Blk w c3 172 #[.bool pr,.int .i64 ri,.bool la,.int .i64 fr]) (hl:0≤s.l∧s.l≤3) :
 Calls Tryz.prog 116 #[ptr c3,ptr c2] w fun en w'=>en=.returned (.tuple #[])∧Only [b] w w'∧WkAt w' b { s with f:=fr,l:=s.l - 1 } v:=by
 have H:=hid h;have hlt:=h.lt;have hlt2:=h2.lt;have hlt3:=h3.lt;have n2:c2≠b:=fun e=>by
  have:=(h2.inj (e ▸ h)).1;exact absurd this (by decide)
 have n3:c3≠b:=fun e=>by
  have:=(h3.inj (e ▸ h)).1;exact absurd this (by decide)
 have n2':=n2.symm;have n3':=n3.symm;have x0:=h2.at 0 rfl;have y3:=h3.at 3 (v:=.int .i64 fr) rfl;clear h h2 h3;obtain ⟨sf,sp,sw,sl,s1,s2,s3,s4⟩:=s;unfold WkAt Wk.cells at H;dsimp only at H hl;have ew:IntKind.i64.wrap (sl - 1)=sl - 1:=by rw [IntKind.wrap_i64]; omega
 have z0:=H.out.at 0 (v:=.int .i64 sf) rfl;have z3:=H.out.at 3 (v:=.int .i64 sl) rfl;have g0:=H.out.frozen 0;have g1:=H.out.frozen 1;have g2:=H.out.frozen 2;have g3:=H.out.frozen 3;go_enter Tryz.func116,Tryz.ntmps116;go_upto_region 0 with fail;refine pBegin rfl ?_;obtain ⟨S,hS⟩:∃ S:World→Prop,S=fun w'=>w'.cell? ⟨c2,0,none⟩=some (ptr b)∧w'.cell? ⟨c3,3,none⟩=some (.int .i64 fr)∧w'.cell? ⟨b,3,none⟩=some (.int .i64 sl):=⟨_,rfl⟩;have HS:=hid hS;clear hS;refine pPhaseH S 14 (by rw [HS.out]; exact ⟨x0,y3,z3⟩) fun HSW=>?_;refine pTake (i:=0) rfl (by kernel_rfl) rfl HSW.out ?_;apply Exists.intro;refine ⟨fun w' hw'=>?_,?_⟩
 ·rw [HS.out] at hw';obtain ⟨p0,p1,p2⟩:=hw';go_simp;with_reducible rfl
 go_simp;refine pTake (i:=1) rfl (by kernel_rfl) rfl HSW.out ?_;apply Exists.intro;refine ⟨fun w' hw'=>?_,?_⟩
 ·rw [HS.out] at hw';obtain ⟨p0,p1,p2⟩:=hw';go_simp;with_reducible rfl
 go_simp;refine pPure (i:=2) rfl (by kernel_rfl) rfl HSW.out ?_;apply Exists.intro;refine ⟨fun w'=>?_,?_⟩
 ·go_simp;with_reducible rfl
 go_simp;refine pTake (i:=3) rfl (by kernel_rfl) rfl HSW.out ?_;apply Exists.intro;refine ⟨fun w' hw'=>?_,?_⟩
 ·rw [HS.out] at hw';obtain ⟨p0,p1,p2⟩:=hw';go_simp;with_reducible rfl
 go_simp;refine pTake (i:=4) rfl (by kernel_rfl) rfl HSW.out ?_;apply Exists.intro;refine ⟨fun w' hw'=>?_,?_⟩
 ·rw [HS.out] at hw';obtain ⟨p0,p1,p2⟩:=hw';go_simp;with_reducible rfl
 go_simp;refine pPure (i:=5) rfl (by kernel_rfl) rfl HSW.out ?_;apply Exists.intro;refine ⟨fun w'=>?_,?_⟩
 ·go_simp;with_reducible rfl
 go_simp;refine pPure (i:=6) rfl (by kernel_rfl) rfl HSW.out ?_;apply Exists.intro;refine ⟨fun w'=>?_,?_⟩
 ·go_simp;with_reducible rfl
 go_simp;refine pTake (i:=7) rfl (by kernel_rfl) rfl HSW.out ?_;apply Exists.intro;refine ⟨fun w' hw'=>?_,?_⟩
 ·rw [HS.out] at hw';obtain ⟨p0,p1,p2⟩:=hw';go_simp;with_reducible rfl
 go_simp;refine pPure (i:=8) rfl (by kernel_rfl) rfl HSW.out ?_;apply Exists.intro;refine ⟨fun w'=>?_,?_⟩
 ·go_simp;with_reducible rfl
 go_simp;refine pPure (i:=9) rfl (by kernel_rfl) rfl HSW.out ?_;apply Exists.intro;refine ⟨fun w'=>?_,?_⟩
 ·go_simp;with_reducible rfl
 go_simp;refine pPure (i:=10) rfl (by kernel_rfl) rfl HSW.out ?_;apply Exists.intro;refine ⟨fun w'=>?_,?_⟩
 ·go_simp;with_reducible rfl
 go_simp;refine pStep (i:=11) rfl (by kernel_rfl) (by kernel_rfl) rfl fun K hK=>?_;go_simp;have hs2:S (w.drew.setCell ⟨b,0,none⟩ (.int .i64 fr)):=by
  rw [HS.out];go_simp
 have HSW2:=hid hs2;refine hK _ _ hs2 ?_;clear hs2 hK K HSW;refine pPure (i:=12) rfl (by kernel_rfl) rfl HSW2.out ?_;apply Exists.intro;refine ⟨fun w'=>?_,?_⟩
 ·go_simp;with_reducible rfl
 go_simp;refine pPure (i:=13) rfl (by kernel_rfl) rfl HSW2.out ?_;apply Exists.intro;refine ⟨fun w'=>?_,?_⟩
 ·go_simp;with_reducible rfl
 go_simp;refine pBar rfl (by kernel_rfl) rfl fun K hK=>?_;go_simp;refine hK _ _ ?_;clear hK K HSW2;refine pDone (by kernel_rfl) ?_;go_end0;exact ⟨rfl,(((Only.refl [b] w).drew).setCell (p:=⟨b,0,none⟩) (by simp) _).setCell (p:=⟨b,3,none⟩) (by simp) _,(H.out.drew.set 0 (.int .i64 fr)).set 3 (.int .i64 (sl - 1))⟩
end
section
variable {P:Program} {Q:Exit→Act→World→Prop} {C:World→Prop}
def guardsB (l:List Oper) (n:Nat):Bool:=((l.take n).all fun o=>match o.guard with | none=>true | some (k,_)=>decide (k < n)) && (l.drop n).all fun o=>o.guard.isNone
def quietTailG (md:Region.Mode) (l:List Oper) (n:Nat):Bool:=
 guardsB l n && decide (n < l.length) && Region.sinkB md l.toArray n && Region.chainB md l.toArray n && depsB md l && Region.seqB md l.toArray (l.length - n) n (listed0 n (l.length - n)) && Region.lexB md (l.take n).toArray
theorem head_opG {l:List Oper} {n i:Nat} {K:Act→Prop} {K':Act→World→Prop} {a:Act} {w:World} (hg:guardsB l n=true) (hin:i < n) (hil:i < l.length) (hC:C w) (h:∀ a w',C w'→K a→K' a w')
 (hh:qOp P (l.take n).toArray C i K a):wpOp P l.toArray Q i K' a w:=by
 have h1:l.toArray[i]?=some l[i]:=by simp [hil]
 have h2:(l.take n).toArray[i]?=some l[i]:=by simp [List.getElem?_take_of_lt hin,hil]
 have h3:Region.wanted l[i] (yielded l.toArray a.tmps)=Region.wanted l[i] (yielded (l.take n).toArray a.tmps):=by
  simp only [guardsB,Bool.and_eq_true] at hg;have h4:=List.all_eq_true.1 hg.1 l[i] (by rw [List.mem_iff_getElem?]; exact ⟨i,by simp [List.getElem?_take_of_lt hin,hil]⟩);unfold Region.wanted;split
  ·rfl
  ·rename_i k b hk;rw [hk] at h4;have h5:k < n:=by simpa using h4
   unfold yielded;simp only [List.getElem?_toArray];rw [List.getElem?_take_of_lt h5]
 unfold qOp at hh;unfold wpOp;simp only [h1,h2] at hh ⊢;rw [h3];by_cases hw:Region.wanted l[i] (yielded (l.take n).toArray a.tmps)=true
 ·rw [if_pos hw] at hh ⊢;exact .inl (Oper.wp_of_quiet hC h hh)
 ·rw [if_neg hw] at hh ⊢;exact h _ _ hC hh
theorem head_anyG {l:List Oper} {n:Nat} {Qf:Act→Prop} (hg:guardsB l n=true) (hn:n < l.length) (hs:Region.sinkB .any l.toArray n=true) (hc:Region.chainB .any l.toArray n=true) (hd:depsB .any l=true)
 (hQ:∀ a w,C w→Qf a→wpAny P .any l.toArray Q (l.length - n) (listed0 n (l.length - n)) a w) :
 ∀ (f:Nat) (listed listed':Array Bool) (a:Act) (w:World),HeadInv .any l.toArray n listed→listed'.size=n→(∀ i,i < n→listed'.getD i false=listed.getD i false)→C w →
  wpAnyQ P .any (l.take n).toArray C Qf f listed' a→wpAny P .any l.toArray Q (f+(l.length - n)) listed a w:=by
 intro f
 induction f with
 | zero=>
  intro listed listed' a w inv hsz hsame hC h;by_cases hall:∀ i,i < n→listed.getD i false=true
  ·rw [Nat.zero_add];have:listed=listed0 n (l.length - n):=listed_eq (by omega) inv hall;rw [this];exact hQ a w hC h.2
  ·exfalso;obtain ⟨i,hi,h1,h2⟩:=least_un (fun i=>listed.getD i false) n (by
    refine Classical.byContradiction fun hne=>hall fun i hi=>?_;cases hp:listed.getD i false
    ·exact absurd ⟨i,hi,hp⟩ hne
    ·rfl)
   have hmem:i ∈ Region.ready .any (l.take n).toArray listed':=by
    refine mem_ready.2 ⟨getD_in (by omega) ((hsame i hi).trans h1),l[i]'(by omega),by simp [List.getElem?_take_of_lt hi,show i < l.length by omega],fun e he hb=>?_⟩;have hlt:=depsB_spec hd (show l[i]?=some _ from by simp [show i < l.length by omega]) e he hb;rw [hsame e.on (by omega)];exact h2 _ hlt
   rw [h.1] at hmem;cases hmem
 | succ f ih=>
  intro listed listed' a w inv hsz hsame hC h;by_cases hall:∀ i,i < n→listed.getD i false=true
  ·have hr:Region.ready .any (l.take n).toArray listed'=[]:=by
    apply List.eq_nil_iff_forall_not_mem.2;intro j hj;obtain ⟨h1,o,h2,_⟩:=mem_ready.1 hj;have hjn:j < n:=by
     have:=(Array.getElem?_eq_some_iff.1 h2).1;simp at this;omega
    have h3:=getD_both h1;rw [hsame j hjn,hall j hjn] at h3;cases h3
   have hQa:=h.1 hr;have:listed=listed0 n (l.length - n):=listed_eq (by omega) inv hall;rw [this];exact any_more' _ _ _ _ _ (hQ a w hC hQa)
  ·obtain ⟨i,hi,h1,h2⟩:=least_un (fun i=>listed.getD i false) n (by
    refine Classical.byContradiction fun hne=>hall fun i hi=>?_;cases hp:listed.getD i false
    ·exact absurd ⟨i,hi,hp⟩ hne
    ·rfl)
   have hun:listed.getD i true=false:=getD_in (by rw [inv.size]; simp; omega) h1;rw [show f+1+(l.length - n)=f+(l.length - n)+1 by omega];refine ⟨fun h0=>?_,fun j hj=>?_⟩
   ·have hmem:i ∈ Region.ready .any l.toArray listed:=by
     refine mem_ready.2 ⟨hun,l[i]'(by omega),by simp [show i < l.length by omega],fun e he hb=>?_⟩;exact h2 _ (depsB_spec hd (show l[i]?=some _ from by simp [show i < l.length by omega]) e he hb)
    rw [h0] at hmem;cases hmem
   ·have hjn:j < n:=by
     rcases Nat.lt_or_ge j n with h3 | h3
     ·exact h3
     ·exact absurd hj (tail_waits hs hc (by simpa using hn) inv _ i rfl hi hun j h3)
    obtain ⟨g1,o,g2,g3⟩:=mem_ready.1 hj;have hj':j ∈ Region.ready .any (l.take n).toArray listed':=by
     refine mem_ready.2 ⟨getD_in (by omega) ((hsame j hjn).trans (getD_both g1)),o,by simp only [List.getElem?_toArray] at g2 ⊢; rw [List.getElem?_take_of_lt hjn]; exact g2,fun e he hb=>?_⟩;have hlt:=depsB_spec hd (show l[j]?=some o from by simpa using g2) e he hb;rw [hsame e.on (by omega)];exact g3 e he hb
    refine head_opG hg hjn (by omega) hC (fun a' w' hC' h'=>ih _ _ a' w' (inv.set hj hjn) (by simpa using hsz) (fun k hk=>?_) hC' h') (h.2 j hj');by_cases e:j=k
    ·subst e;have s1:j < listed.size:=by rw [inv.size]; simp; omega
     simp [s1,show j < listed'.size by omega]
    ·rw [getD_set_ne false e,getD_set_ne false e];exact hsame k hk
theorem wp_region_quiet_tailG {id:Nat} {a:Act} {w:World} {l:List Oper} (n:Nat) (hm:P.follows .mixedOrders=true) (hB:quietTailG .any l n=true) (C:World→Prop) (hC:C w.drew)
 (h:wpQuiet P (l.take n).toArray C (fun a'=>∀ w',C w'→wpList P l.toArray Q (l.drop n) a' w') (l.take n) a):(Code.region id l.toArray true).wp P Q a w:=by
 simp only [quietTailG,Bool.and_eq_true,decide_eq_true_eq] at hB;obtain ⟨⟨⟨⟨⟨⟨hg,hn⟩,hs⟩,hc⟩,hd⟩,hq⟩,hx⟩:=hB;refine wp_region_any hm ?_;have hx':=hx;simp only [Region.lexB,Bool.and_eq_true] at hx';have H:=wpAnyQ_lex (P:=P) (C:=C) (md:=.any) hx'.1 (l.take n) 0 (Array.replicate (l.take n).toArray.size false) a (by simp) (by simpa using hx'.2) h;have hsz:l.toArray.size=(l.take n).length+(l.length - n):=by simp; omega
 rw [hsz];refine head_anyG (C:=C) hg hn hs hc hd (fun a' w' hC' h'=>?_) _ _ _ a _ ?_ ?_ ?_ hC H
 ·have:=wpAny_of_seq (P:=P) (Q':=Q) (md:=.any) (ops:=l.toArray) (l.drop n) n (listed0 n (l.length - n)) a' w' (fun j=>by simp [List.getElem?_drop]) (by rw [List.length_drop]; exact hq) (h' w' hC');rw [List.length_drop] at this;exact this
 ·exact ⟨by simp; omega,fun j oj _ hl=>(by rw [getD_replicate_false] at hl; cases hl),fun t _ ht=>getD_in (by simp at ht ⊢; omega) (getD_replicate_false _ _)⟩
 ·simp; omega
 ·intro i hi;rw [getD_replicate_false,getD_replicate_false]
theorem qstepG {ops:Array Oper} {Qf:Act→Prop} {a:Act} {o:Oper} {rest:List Oper} (hg:Region.wanted o (yielded ops a.tmps)=true) (h:∃ v,(∀ w,C w→Oper.quietUpon P C w v ((execOp a.eval o).run P w))∧wpQuiet P ops C Qf rest (a.put o.dst v)):wpQuiet P ops C Qf (o :: rest) a:=by
 unfold wpQuiet;rw [if_pos hg];exact h
theorem qskip {ops:Array Oper} {Qf:Act→Prop} {a:Act} {o:Oper} {rest:List Oper} (hg:Region.wanted o (yielded ops a.tmps)=false) (h:wpQuiet P ops C Qf rest (a.put o.dst undef)):wpQuiet P ops C Qf (o :: rest) a:=by
 unfold wpQuiet;rw [if_neg (by rw [hg]; decide)];exact h
end
def TookTo (s:Wk) (x:PE) (s':Wk):Prop:=
 (x.pr=false∧s'=s.ends 0 0 4)∨(x.table=true∧0 < s.l∧s'={ s with f:=x.fr,l:=s.l - 1 }) ∨
 (¬(x.table=true∧0 < s.l)∧0 < x.ri∧s.l=0∧x.pr=true∧∃ al,s'=s.inn x.fr x al)∨s'=s.ends 0 0 11
def tookB (s:Wk) (x:PE):Nat→Bool
 | 0=>!x.pr
 | 1=>x.table && decide (0 < s.l)
 | 2=>false
 | 3=>decide (0 < x.ri) && (s.l == 0)
 | _=>true
def tookF : Nat→Nat
 | 0=>114
 | 1=>116
 | 2=>117
 | 3=>120
 | _=>121
def tookC (c2 c3:Nat):Nat→Array Value
 | 0=>#[ptr c2]
 | 1=>#[ptr c3,ptr c2]
 | 2=>#[ptr c2,ptr c3]
 | 3=>#[ptr c2,ptr c3]
 | _=>#[ptr c2]
theorem took_calls {w:World} {b c2 c3:Nat} {s:Wk} {v:Value} {x:PE} (h:WkAt w b s v) (h2:Blk w c2 65 #[ptr b]) (h3:Blk w c3 172 #[.bool x.pr,.int .i64 x.ri,.bool x.la,.int .i64 x.fr]) (hl:0≤s.l∧s.l≤3)
 (j:Nat) (hj:j < 5) (hb:tookB s x j=true) (hn:∀ i,i < j→tookB s x i=false) (W:World) (hW:Only [] w W) :
 Calls Tryz.prog (tookF j) (tookC c2 c3 j) W fun en w'=>en=.returned (.tuple #[])∧Only [b] W w'∧∃ s',TookTo s x s'∧WkAt w' b s' v:=by
 have h':WkAt W b s v:=h.only hW (by simp);have h2':=h2.only hW (by simp);have h3':=h3.only hW (by simp);rcases j with _ | _ | _ | _ | _ | j
 ·refine (wd1_any h' h2').mono ?_;rintro e w' ⟨rfl,ho,hw⟩;exact ⟨rfl,ho,_,.inl ⟨by simpa [tookB] using hb,rfl⟩,hw⟩
 ·refine (wd2_any h' h2' h3' hl).mono ?_;rintro e w' ⟨rfl,ho,hw⟩;have hb':x.table=true∧0 < s.l:=by simpa [tookB] using hb
  exact ⟨rfl,ho,_,.inr (.inl ⟨hb'.1,hb'.2,rfl⟩),hw⟩
 ·simp [tookB] at hb
 ·refine (wd4_any h' h2' h3').mono ?_;rintro e w' ⟨rfl,ho,al,hw⟩;have hb':0 < x.ri∧s.l=0:=by simpa [tookB] using hb
  have h0:x.pr=true:=by simpa [tookB] using hn 0 (by omega)
  refine ⟨rfl,ho,_,.inr (.inr (.inl ⟨fun h=>?_,hb'.1,hb'.2,h0,al,rfl⟩)),hw⟩;omega
 ·refine (wd5_any h' h2').mono ?_;rintro e w' ⟨rfl,ho,hw⟩;exact ⟨rfl,ho,_,.inr (.inr (.inr rfl)),hw⟩
 ·omega
theorem took_en (j:Nat) (args:Array Value) (w:World):(callFunc (tookF j) args).run Tryz.prog w=.ok (.enter (tookF j) args) w:=by
 rcases j with _ | _ | _ | _ | j
 ·exact enters_of Tryz.func114 (by kernel_rfl) rfl args w
 ·exact enters_of Tryz.func116 (by kernel_rfl) rfl args w
 ·exact enters_of Tryz.func117 (by kernel_rfl) rfl args w
 ·exact enters_of Tryz.func120 (by kernel_rfl) rfl args w
 ·exact enters_of Tryz.func121 (by kernel_rfl) rfl args w
theorem took_any {w:World} {b:Nat} {s:Wk} {v:Value} {x:PE} (h:WkAt w b s v) (hl:0≤s.l∧s.l≤3) (hla:x.la=false) :
 Calls Tryz.prog 77 #[ptr b,x.val] w fun en w'=>en=.returned (.tuple #[])∧Only [b] w w'∧∃ s',TookTo s x s'∧WkAt w' b s' v:=by
 obtain ⟨pr,ri,la,fr⟩:=x;dsimp only at hla;subst hla;have hlt:=h.lt;have hne:b≠w.heap.size:=by omega
 have hne1:b≠w.heap.size+1:=by omega
 obtain ⟨w1,hw1⟩:∃ w1,(w.alloc (.cells #[ptr b] 65)).alloc (.cells #[.bool pr,.int .i64 ri,.bool false,.int .i64 fr] 172)=w1:=⟨_,rfl⟩;have q1:Only [] w w1:=by rw [← hw1]; exact ((Only.refl [] w).alloc _).alloc _
 have hb2:Blk w1 w.heap.size 65 #[ptr b]:=by rw [← hw1]; exact (Blk.new w _ _).alloc _
 have hb3:Blk w1 (w.heap.size+1) 172 #[.bool pr,.int .i64 ri,.bool false,.int .i64 fr]:=by rw [← hw1]; exact Blk.new' (w.alloc (.cells #[ptr b] 65)) 172 _ (by simp)
 have h1:WkAt w1 b s v:=h.only q1 (by simp);have HC:=hid (took_calls (x:=⟨pr,ri,false,fr⟩) h1 hb2 hb3 hl);have HTB:=hid (fun W=>table_any W ⟨pr,ri,false,fr⟩);have HV:=hid (show PE.val ⟨pr,ri,false,fr⟩=.agg #[.bool pr,.int .i64 ri,.bool false,.int .i64 fr] from rfl);have HF:=hid (show ∀ wx,Only [] w1 wx→wx.cell? ⟨b,3,none⟩=some (.int .i64 s.l)∧wx.cell? ⟨w.heap.size,0,none⟩=some (ptr b)∧wx.cell? ⟨w.heap.size+1,0,none⟩=some (.bool pr)∧wx.cell? ⟨w.heap.size+1,1,none⟩=some (.int .i64 ri)∧wx.cell? ⟨w.heap.size+1,2,none⟩=some (.bool false)∧wx.cell? ⟨w.heap.size+1,3,none⟩=some (.int .i64 fr) from fun wx hx'=>by
  have q2:=hb2.only hx' (by simp);have q3:=hb3.only hx' (by simp);have q4:Blk wx b 164 (s.cells v):=h1.only hx' (by simp);exact ⟨q4.at 3 rfl,q2.at 0 rfl,q3.at 0 rfl,q3.at 1 rfl,q3.at 2 rfl,q3.at 3 rfl⟩)
 have HQ1:=hid q1;have HW1:=hid hw1;rw [HV.out] at HTB ⊢;obtain ⟨tb,htb⟩:∃ tb,(⟨pr,ri,false,fr⟩:PE).table=tb:=⟨_,rfl⟩;obtain ⟨lp,hlp⟩:∃ lp,decide (0 < s.l)=lp:=⟨_,rfl⟩;obtain ⟨lz,hlz⟩:∃ lz,(s.l == 0)=lz:=⟨_,rfl⟩;obtain ⟨rp,hrp⟩:∃ rp,decide (0 < ri)=rp:=⟨_,rfl⟩;rw [htb] at HTB;have HB0:=hid (show ∀ j,tookB s ⟨pr,ri,false,fr⟩ j=(match j with | 0=>!pr | 1=>tb && lp | 2=>false | 3=>rp && lz | _=>true) from fun j=>by
  rcases j with _ | _ | _ | _ | _ | j
  ·rfl
  ·simp only [tookB,htb,hlp]
  ·rfl
  ·simp only [tookB,hrp,hlz]
  ·rfl
  ·rfl)
 have HTB':=hid htb;clear h hl htb hb2 hb3 h1 q1 HV;go_enter Tryz.func77,Tryz.ntmps77;go_upto_region 1 with fail
 try rw [hw1]
 clear hw1;go_cut [4] (fun u wc=>∃ g,u=.slice (some ⟨g,0,none⟩) 5 5∧Only [] w1 wc∧Blk wc g 198 #[.bool (!pr),.func (.func 114) #[] #[ptr w.heap.size],.bool (tb && lp),.func (.func 116) #[] #[ptr (w.heap.size+1),ptr w.heap.size],.bool false,.func (.func 117) #[] #[ptr w.heap.size,ptr (w.heap.size+1)],.bool (rp && lz),.func (.func 120) #[] #[ptr w.heap.size,ptr (w.heap.size+1)],.bool true,.func (.func 121) #[] #[ptr w.heap.size]])
 case first=>
  cases tb
  ·cases rp
   ·skip;refine wp_region_quiet_tailG 46 (by kernel_rfl) (by kernel_rfl) (fun w'=>Only [] w1 w') ((Only.refl _ _).drew) ?_;simp only [List.take_succ_cons,List.take_zero,List.drop_succ_cons,List.drop_zero]
    repeat
     (first
      | (refine qskip (by rfl) ?_
         go_simp)
      | (refine qstepG (by rfl) ?_
         apply Exists.intro;refine ⟨fun w' hw'=>?_,?_⟩
         ·obtain ⟨p0,p1,p2,p3,p4,p5⟩:=HF.out w' hw';go_simp
          first
           | with_reducible rfl
           | exact quiet_val
           | (first
            | exact (HTB.out w').mono fun e w'' ⟨he,ho⟩=>⟨he,hw'.trans ho⟩)
           | (apply quiet_call
              first
               | exact (HTB.out w').mono fun e w'' ⟨he,ho⟩=>⟨he,hw'.trans ho⟩)
         go_simp))
    refine wpQuiet_nil ?_;intro wf hwf;have HWF:=hid hwf;clear hwf;go_wp2_with fail;go_meet;exact ⟨_,rfl,HWF.out.alloc _,Blk.new _ _ _⟩
   ·skip;refine wp_region_quiet_tailG 46 (by kernel_rfl) (by kernel_rfl) (fun w'=>Only [] w1 w') ((Only.refl _ _).drew) ?_;simp only [List.take_succ_cons,List.take_zero,List.drop_succ_cons,List.drop_zero]
    repeat
     (first
      | (refine qskip (by rfl) ?_
         go_simp)
      | (refine qstepG (by rfl) ?_
         apply Exists.intro;refine ⟨fun w' hw'=>?_,?_⟩
         ·obtain ⟨p0,p1,p2,p3,p4,p5⟩:=HF.out w' hw';go_simp
          first
           | with_reducible rfl
           | exact quiet_val
           | (first
            | exact (HTB.out w').mono fun e w'' ⟨he,ho⟩=>⟨he,hw'.trans ho⟩)
           | (apply quiet_call
              first
               | exact (HTB.out w').mono fun e w'' ⟨he,ho⟩=>⟨he,hw'.trans ho⟩)
         go_simp))
    refine wpQuiet_nil ?_;intro wf hwf;have HWF:=hid hwf;clear hwf;go_wp2_with fail;go_meet;exact ⟨_,rfl,HWF.out.alloc _,Blk.new _ _ _⟩
  ·cases rp
   ·skip;refine wp_region_quiet_tailG 46 (by kernel_rfl) (by kernel_rfl) (fun w'=>Only [] w1 w') ((Only.refl _ _).drew) ?_;simp only [List.take_succ_cons,List.take_zero,List.drop_succ_cons,List.drop_zero]
    repeat
     (first
      | (refine qskip (by rfl) ?_
         go_simp)
      | (refine qstepG (by rfl) ?_
         apply Exists.intro;refine ⟨fun w' hw'=>?_,?_⟩
         ·obtain ⟨p0,p1,p2,p3,p4,p5⟩:=HF.out w' hw';go_simp
          first
           | with_reducible rfl
           | exact quiet_val
           | (first
            | exact (HTB.out w').mono fun e w'' ⟨he,ho⟩=>⟨he,hw'.trans ho⟩)
           | (apply quiet_call
              first
               | exact (HTB.out w').mono fun e w'' ⟨he,ho⟩=>⟨he,hw'.trans ho⟩)
         go_simp))
    refine wpQuiet_nil ?_;intro wf hwf;have HWF:=hid hwf;clear hwf;go_wp2_with fail;go_meet;exact ⟨_,rfl,HWF.out.alloc _,Blk.new _ _ _⟩
   ·skip;refine wp_region_quiet_tailG 46 (by kernel_rfl) (by kernel_rfl) (fun w'=>Only [] w1 w') ((Only.refl _ _).drew) ?_;simp only [List.take_succ_cons,List.take_zero,List.drop_succ_cons,List.drop_zero]
    repeat
     (first
      | (refine qskip (by rfl) ?_
         go_simp)
      | (refine qstepG (by rfl) ?_
         apply Exists.intro;refine ⟨fun w' hw'=>?_,?_⟩
         ·obtain ⟨p0,p1,p2,p3,p4,p5⟩:=HF.out w' hw';go_simp
          first
           | with_reducible rfl
           | exact quiet_val
           | (first
            | exact (HTB.out w').mono fun e w'' ⟨he,ho⟩=>⟨he,hw'.trans ho⟩)
           | (apply quiet_call
              first
               | exact (HTB.out w').mono fun e w'' ⟨he,ho⟩=>⟨he,hw'.trans ho⟩)
         go_simp))
    refine wpQuiet_nil ?_;intro wf hwf;have HWF:=hid hwf;clear hwf;go_wp2_with fail;go_meet;exact ⟨_,rfl,HWF.out.alloc _,Blk.new _ _ _⟩
 case rest=>
  obtain ⟨g,rfl,hoc,hbc⟩:=hcut;have hbb:∀ j,j < 5→wc.cell? ⟨g,j * 2,none⟩=some (.bool (tookB s ⟨pr,ri,false,fr⟩ j))∧wc.cell? ⟨g,j * 2+1,none⟩=some (.func (.func (tookF j)) #[] (tookC w.heap.size (w.heap.size+1) j)):=by
   intro j hj;rw [HB0.out j];rcases j with _ | _ | _ | _ | _ | j
   ·exact ⟨hbc.at 0 rfl,hbc.at 1 rfl⟩
   ·exact ⟨hbc.at 2 rfl,hbc.at 3 rfl⟩
   ·exact ⟨hbc.at 4 rfl,hbc.at 5 rfl⟩
   ·exact ⟨hbc.at 6 rfl,hbc.at 7 rfl⟩
   ·exact ⟨hbc.at 8 rfl,hbc.at 9 rfl⟩
   ·omega
  have HBC:=hid hbb;have HBK:=hid hbc;have HOC:=hid hoc;clear hbb hbc hoc;go_wp2_with fail;go_loopg [56] 5 (fun k i wr=>k≤5∧i=.int .i64 ((5:Int) - k)∧Only [] wc wr∧∀ i,i < 5 - k→tookB s ⟨pr,ri,false,fr⟩ i=false)
  case atStart=>exact ⟨Nat.le_refl _,by simp,Only.refl _ _,fun i hi=>by omega⟩
  case round=>
   obtain ⟨hk,rfl,ho,hnb⟩:=hrel;cases gk with
   | zero=>
    exfalso;have:=hnb 4 (by omega);simp [tookB] at this
   | succ k=>
    obtain ⟨j,hj⟩:∃ j,5 - (k+1)=j:=⟨_,rfl⟩;have hj5:j < 5:=by omega
    have ej:(5:Int) - ((k+1:Nat):Int)=(j:Int):=by omega
    rw [ej];rw [hj] at hnb;obtain ⟨x0,x1⟩:=HBC.out j hj5;have hbw:=HBK.out.only ho (by simp);have i0:(0:Int)≤(j:Int):=by omega
    have i1:(j:Int) < 5:=by omega
    have ew:IntKind.i64.wrap ((j:Int)+1)=(j:Int)+1:=by rw [IntKind.wrap_i64]; omega
    have hgl:=HBK.out.lt;have y0:=(ho.cell (p:=⟨g,j * 2,none⟩) hgl (by simp)).trans x0;have y1:=(ho.cell (p:=⟨g,j * 2+1,none⟩) hgl (by simp)).trans x1;have HO:=hid ho;have HNB:=hid hnb;have hen:=took_en j;clear hbw x0 x1 ho hnb ej hlp hlz hrp;obtain ⟨bj,hbj⟩:∃ bj,tookB s ⟨pr,ri,false,fr⟩ j=bj:=⟨_,rfl⟩;obtain ⟨fn,hfn⟩:∃ fn,tookF j=fn:=⟨_,rfl⟩;obtain ⟨caps,hcaps⟩:∃ caps,tookC w.heap.size (w.heap.size+1) j=caps:=⟨_,rfl⟩;have HCJ:=hid (HC.out j hj5);rw [hbj,hfn,hcaps] at HCJ;rw [hbj] at y0;rw [hfn,hcaps] at y1;rw [hfn] at hen;have HBJ:=hid hbj;clear hbj hfn hcaps;cases bj
    ·go_wp2_with fail;go_roundg k
     case measure=>omega
     case rel=>
      have e1:(j:Int)+1=(5:Int) - k:=by omega
      refine ⟨by omega,by rw [e1],HO.out.alloc _,fun i hi=>?_⟩;by_cases hij:i=j
      ·rw [hij]; exact HBJ.out
      ·exact HNB.out i (by omega)
    ·have HCC:=hid (HCJ.out rfl HNB.out (wr.alloc (.cells #[.bool true,.func (.func fn) #[] caps] 198)) ((HOC.out.trans HO.out).alloc _));go_wp2_with fail;refine HCC.out.mono ?_;rintro e w2 ⟨rfl,ho,hs⟩;have HO2:=hid (((HQ1.out.trans (HOC.out.trans HO.out)).alloc (.cells #[.bool true,.func (.func fn) #[] caps] 198)).sub (T:=[b]) (by simp) |>.trans ho);have HS:=hid hs;clear ho hs HCC HCJ hen;go_wp2_with fail;refine bodyPost_ret (results_none rfl _ _ _) rfl ?_;exact ⟨rfl,HO2.out,HS.out⟩
end Go.Proofs.YtadgpnoealegiaaGreat
