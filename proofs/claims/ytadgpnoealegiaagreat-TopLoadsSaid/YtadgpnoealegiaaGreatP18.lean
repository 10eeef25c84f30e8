import Derived.Test.YtadgpnoealegiaaGreatP17
import Derived.WalkSpells
namespace Go.Proofs.YtadgpnoealegiaaGreat
open Go.RowKit
open Go.Lib (hid)
set_option maxRecDepth 100000
set_option maxHeartbeats 20000000
def Wk.new (f p want:Int):Wk:=⟨f,p,want,3,0,0,0,0⟩
theorem wnew_any (w:World) (f p want:Int) (h0:0≤p) (h1:p < 65536) (h2:0≤f) (h3:f < 4096) (h4:0≤want) (h5:want≤7) :
 Calls Tryz.prog 63 #[.int .i64 f,.int .i64 p,.int .i64 want] w fun e w'=>e=.returned (ptr w.heap.size)∧Only [] w w'∧WkAt w' w.heap.size (Wk.new f p want) (.slice none 0 0):=by
 have hb:=(Blk.new w 164 ((Wk.new f p want).cells (.slice none 0 0)));have ha:=pteAt_any (w.alloc (.cells ((Wk.new f p want).cells (.slice none 0 0)) 164)) f p 3 (by decide) h0 h1 h2 h3;obtain ⟨z,hz⟩:∃ z,atN f p 3=z:=⟨_,rfl⟩;have hz0:0≤z:=by
  rw [← hz];unfold atN indexN;omega
 rw [hz,show ((3:Nat):Int)=3 from rfl] at ha;unfold Wk.new Wk.cells at ha hb;dsimp only at ha hb;have HA:=hid ha;have HB:=hid hb;clear ha hb hz;have d0:decide (z < 0)=false:=by simpa using hz0
 have d1:decide (want < 0)=false:=by simpa using h4
 have d2:decide (7 < want)=false:=by simpa using h5
 go_enter Tryz.func63,Tryz.ntmps63;go_wp2_with fail;refine HA.out.mono ?_;rintro e w1 ⟨rfl,rfl⟩;have HO:=hid ((Only.refl [] w).alloc (.cells #[.int .i64 f,.int .i64 p,.int .i64 want,.int .i64 3,.int .i64 0,.int .i64 0,.int .i64 0,.int .i64 0,.slice none 0 0,.bool true] 164));go_wp2_with fail;go_ret;exact ⟨rfl,HO.out,HB.out⟩
theorem wresult_any {w:World} {b:Nat} {s:Wk} {v:Value} (h:WkAt w b s v) (hl:s.l=-1) :
 Calls Tryz.prog 45 #[ptr b] w fun e w'=>e=.returned (.tuple #[.agg #[.int .i64 s.fF,.int .i64 s.fR,.int .i64 s.fL,.int .i64 s.fE],.bool true])∧Only [] w w':=by
 have H:=hid h;have hlt:=h.lt;have hne:b≠w.heap.size:=by omega
 have hne2:w.heap.size≠b:=by omega
 obtain ⟨sf,sp,sw,sl,s1,s2,s3,s4⟩:=s;dsimp only at hl ⊢;subst hl;unfold WkAt Wk.cells at H;dsimp only at H;have x3:=H.out.at 3 (v:=.int .i64 (-1)) rfl;have x4:=H.out.at 4 (v:=.int .i64 s1) rfl;have x5:=H.out.at 5 (v:=.int .i64 s2) rfl;have x6:=H.out.at 6 (v:=.int .i64 s3) rfl;have x7:=H.out.at 7 (v:=.int .i64 s4) rfl;have x9:=H.out.at 9 (v:=.bool true) rfl;clear h;go_enter Tryz.func45,Tryz.ntmps45;go_wp2_with fail;have HX:=Blk.new w 141 #[.int .i64 s1,.int .i64 s2,.int .i64 s3,.int .i64 s4];have q0:=HX.at 0 (v:=.int .i64 s1) rfl;have q1:=HX.at 1 (v:=.int .i64 s2) rfl;have q2:=HX.at 2 (v:=.int .i64 s3) rfl;have q3:=HX.at 3 (v:=.int .i64 s4) rfl;refine bodyPost_ret (v:=.tuple #[.agg #[.int .i64 s1,.int .i64 s2,.int .i64 s3,.int .i64 s4],.bool true]) (by simp [results,Tryz.results45,go_sem,q0,q1,q2,q3]) rfl ⟨rfl,(Only.refl [] w).alloc _⟩
theorem wnext_any {w:World} {b:Nat} {s:Wk} {v:Value} (h:WkAt w b s v) (l:Nat) (hl:s.l=l) (hl3:l < 4) (h0:0≤s.p) (h1:s.p < 65536) (h2:0≤s.f) (h3:s.f < 4096) :
 Calls Tryz.prog 74 #[ptr b] w fun e w'=>e=.returned (.agg #[.int .i64 1,.int .i64 (atN s.f s.p l),.int .u64 0,.int .u64 0])∧Only [] w w':=by
 have hlt:=h.lt;obtain ⟨sf,sp,sw,sl,s1,s2,s3,s4⟩:=s;dsimp only at hl h0 h1 h2 h3 ⊢;subst hl;have HA:=hid (fun W=>pteAt_any W sf sp l hl3 h0 h1 h2 h3);obtain ⟨z,hz⟩:∃ z,atN sf sp l=z:=⟨_,rfl⟩;rw [hz] at HA ⊢;have e1:((l:Int) == -1)=false:=by
  rw [beq_eq_false_iff_ne];omega
 have H:Hid (Blk w b 164 #[.int .i64 sf,.int .i64 sp,.int .i64 sw,.int .i64 l,.int .i64 s1,.int .i64 s2,.int .i64 s3,.int .i64 s4,v,.bool true]):=hid h;have hne:b≠w.heap.size:=by omega
 have hne2:w.heap.size≠b:=by omega
 have x0:=H.out.at 0 (v:=.int .i64 sf) rfl;have x1:=H.out.at 1 (v:=.int .i64 sp) rfl;have x3:=H.out.at 3 (v:=.int .i64 l) rfl;have x9:=H.out.at 9 (v:=.bool true) rfl;obtain ⟨w1,hw1⟩:∃ w1,w.alloc (.cells #[.int .i64 0,.int .i64 0,.int .u64 0,.int .u64 0] 169)=w1:=⟨_,rfl⟩;have q1:Only [] w w1:=by rw [← hw1]; exact (Only.refl [] w).alloc _
 have HB1:=hid (show Blk w1 w.heap.size 169 #[.int .i64 0,.int .i64 0,.int .u64 0,.int .u64 0] by rw [← hw1]; exact Blk.new w _ _);have HQ1:=hid q1;have HF:=hid (show ∀ wx,Only [] w1 wx→wx.cell? ⟨b,0,none⟩=some (.int .i64 sf)∧wx.cell? ⟨b,1,none⟩=some (.int .i64 sp)∧wx.cell? ⟨b,3,none⟩=some (.int .i64 l) from fun wx hx=>by
  have q4:=H.out.only (HQ1.out.trans hx) (by simp);exact ⟨q4.at 0 rfl,q4.at 1 rfl,q4.at 3 rfl⟩)
 have HW1:=hid hw1;clear h hz q1 hw1;go_enter Tryz.func74,Tryz.ntmps74;go_upto_region 3 with fail;rw [HW1.out];clear x0 x1 x3 x9;refine wp_region_quiet_tail 14 (by kernel_rfl) (by kernel_rfl) (fun w'=>Only [] w1 w') ((Only.refl _ _).drew) ?_;simp only [List.take_succ_cons,List.take_zero,List.drop_succ_cons,List.drop_zero]
 repeat
  (refine qstep rfl ?_
   apply Exists.intro;refine ⟨fun w' hw'=>?_,?_⟩
   ·obtain ⟨p0,p1,p2⟩:=HF.out w' hw';go_simp
    first
     | with_reducible rfl
     | exact quiet_val
     | (first
      | exact (HA.out w').mono fun e w'' ⟨he,hw⟩=>⟨he,hw ▸ hw'⟩)
     | (apply quiet_call
        first
         | exact (HA.out w').mono fun e w'' ⟨he,hw⟩=>⟨he,hw ▸ hw'⟩)
   go_simp)
 refine wpQuiet_nil ?_;intro wf hwf;have HB2:=hid (HB1.out.only hwf (by simp));have HQ2:=hid (HQ1.out.trans hwf);clear hwf;have y0:=HB2.out.at 0 (v:=.int .i64 0) rfl;have y1:=HB2.out.at 1 (v:=.int .i64 0) rfl;have y2:=HB2.out.at 2 (v:=.int .u64 0) rfl;have y3:=HB2.out.at 3 (v:=.int .u64 0) rfl;have g0:=HB2.out.frozen 0;have g1:=HB2.out.frozen 1;have g2:=HB2.out.frozen 2;have g3:=HB2.out.frozen 3;go_wp2_with fail;have H4:=set4 HB2.out (.int .i64 1) (.int .i64 z) (.int .u64 0) (.int .u64 0);have q0:=H4.at 0 (v:=.int .i64 1) rfl;have q1:=H4.at 1 (v:=.int .i64 z) rfl;have q2:=H4.at 2 (v:=.int .u64 0) rfl;have q3:=H4.at 3 (v:=.int .u64 0) rfl;exact bodyPost_ret (v:=.agg #[.int .i64 1,.int .i64 z,.int .u64 0,.int .u64 0]) (by simp [results,Tryz.results74,go_sem,q0,q1,q2,q3]) rfl ⟨rfl,only4 HQ2.out (Nat.le_refl _) _ _ _ _⟩
structure IsWk (w:World) (b:Nat) (s:Wk) (v:Value):Prop where
 at':WkAt w b s v
 row:∃ n xs,RowR w 3 1 v n xs∧n≤4∧(0≤s.l→(n:Int)=3 - s.l)
theorem IsWk.only {S:List Nat} {w w':World} {b:Nat} {s:Wk} {v:Value} (h:IsWk w b s v) (o:Only S w w') (hb:b ∉ S) (hv:∀ x ∈ S,v.ownBlock≠some x):IsWk w' b s v:=by
 obtain ⟨n,xs,hr,h1⟩:=h.row;exact ⟨h.at'.only o hb,n,xs,hr.only o hv,h1⟩
theorem TookTo.keeps {s s':Wk} {x:PE} (h:TookTo s x s'):s'.p=s.p∧s'.w=s.w∧(s'.l=-1∨s'.l=s.l - 1):=by
 rcases h with ⟨_,rfl⟩ | ⟨_,_,rfl⟩ | ⟨_,_,_,_,al,rfl⟩ | rfl
 ·exact ⟨rfl,rfl,.inl rfl⟩
 ·exact ⟨rfl,rfl,.inr rfl⟩
 ·unfold Wk.inn;split
  ·exact ⟨rfl,rfl,.inl rfl⟩
  ·split
   ·exact ⟨rfl,rfl,.inl rfl⟩
   ·exact ⟨rfl,rfl,.inl rfl⟩
 ·exact ⟨rfl,rfl,.inl rfl⟩
theorem dol_any {w:World} {b s:Nat} {L:List Int} (hm:IsM w b s L) (i:Int) (hi:hasN L i=true):Calls Tryz.prog 73 #[ptr b,.agg #[.int .i64 1,.int .i64 i,.int .u64 0,.int .u64 0]] w fun e w'=>
 e=.returned (.agg #[.int .u64 (ld L i),.bool false,.int .i64 0])∧Only [b,s] w w'∧IsM w' b s L:=by
 obtain ⟨⟨c,l,h⟩,hw⟩:=hm;have h1:=do_any w b s ⟨L,c,l⟩ ⟨1,i,0,0⟩ h;rw [act1] at h1;have h2:(⟨L,c,l⟩:MS).has i=true:=by
  unfold MS.has;exact hi
 have h3:(⟨L,c,l⟩:MS).load i=(⟨L,wrap64 (c+1),l⟩,nth L i.toNat,0):=by
  unfold MS.load;rw [if_pos h2]
 rw [h3] at h1;have h4:ld L i=nth L i.toNat:=by
  unfold ld;rw [if_pos hi]
 rw [h4];refine h1.mono ?_;rintro e w' ⟨rfl,ho,hm⟩;exact ⟨rfl,ho,⟨_,_,hm⟩,hw⟩
theorem wstep_any {w:World} {b mb ms:Nat} {s:Wk} {v:Value} {L:List Int} (h:IsWk w b s v) (hm:IsM w mb ms L) (l:Nat) (hl:s.l=l) (hl3:l < 4) (h0:0≤s.p) (h1:s.p < 65536) (h2:0≤s.f) (h3:s.f < 4096) (hmb:mb≠b) (hms:ms≠b) (hmv:∀ x ∈ v.ownBlock.toList,x≠mb∧x≠ms)
 (hin:hasN L (atN s.f s.p l)=true) (hok:okE (ld L (atN s.f s.p l)).toNat=true) (hla:(parseE (ld L (atN s.f s.p l))).la=false) :
 Calls Tryz.prog 43 #[ptr b,ptr mb] w fun e w'=>∃ s' v',e=.returned (.bool (s'.l == -1))∧Only (b :: mb :: ms :: v.ownBlock.toList) w w'∧IsWk w' b s' v'∧IsM w' mb ms L∧TookTo s (parseE (ld L (atN s.f s.p l))) s'∧(v'.ownBlock=v.ownBlock∨∀ x,v'.ownBlock=some x→w.heap.size≤x):=by
 have HN:=hid (wnext_any h.at' l hl hl3 h0 h1 h2 h3);obtain ⟨⟨c,ll,hma⟩,hwf⟩:=hm;obtain ⟨n,xs,hrow,hn4,hnl⟩:=h.row;have hnb:(n:Int)=3 - l:=by rw [← hl]; exact hnl (by omega)
 obtain ⟨A,cap,rfl⟩:=hrow.form;obtain ⟨z,hz⟩:∃ z,atN s.f s.p l=z:=⟨_,rfl⟩;rw [hz] at HN hin hok hla ⊢;have hvr:=(show 0≤ld L z∧ld L z < 18446744073709551616 from IsM.ld_range ⟨⟨c,ll,hma⟩,hwf⟩ z);have hm:IsM w mb ms L:=⟨⟨c,ll,hma⟩,hwf⟩;have HDO:=hid (fun W (hW:IsM W mb ms L)=>dol_any hW z hin);have HM:=hid hm;obtain ⟨V,hV⟩:∃ V,ld L z=V:=⟨_,rfl⟩;rw [hV] at HDO hok hla hvr ⊢;obtain ⟨x,hx⟩:∃ x,parseE V=x:=⟨_,rfl⟩;rw [hx] at hla ⊢;have HP:=hid (fun W=>parse_any W V hvr.1 hvr.2);rw [hok,hx] at HP;clear hx;obtain ⟨pr,ri,la,fr⟩:=x;rw [pe_out] at HP;dsimp only at HP hla;have HAT:=hid h.at';have HROW:=hid hrow;have HMV:=hid hmv;subst hla;have hbl:=h.at'.lt;have e1:(s.l == -1)=false:=by
  rw [hl,beq_eq_false_iff_ne];omega
 have H0:Hid (Blk w b 164 (s.cells (.slice A n cap))):=hid h.at';have x3:=H0.out.at 3 (v:=.int .i64 s.l) rfl;have x9:=H0.out.at 9 (v:=.bool true) rfl;clear h hma hwf hrow hnl hmv hz hok hin hV hm;go_enter Tryz.func43,Tryz.ntmps43;go_wp2_with fail;refine HN.out.mono ?_;rintro e w1 ⟨rfl,ho⟩;have HO1:=hid ho;have HM1:=hid (HM.out.only ho (by simp) (by simp));clear ho x3 x9;go_wp2_with fail;refine (HDO.out w1 HM1.out).mono ?_;rintro e w2 ⟨rfl,ho,hm⟩;have hO2:Only [mb,ms] w w2:=(HO1.out.sub (by simp)).trans ho;have HM2:=hid hm;have HO2:=hid hO2;clear ho hm hO2;go_upto_region 6 with fail;obtain ⟨w3,hw3⟩:∃ w3,w2.alloc (.cells #[.int .u64 V,.bool false,.int .i64 0] 166)=w3:=⟨_,rfl⟩;have q3:Only [] w2 w3:=by rw [← hw3]; exact (Only.refl [] w2).alloc _
 rw [hw3];have HR3:=hid (show Blk w3 w2.heap.size 166 #[.int .u64 V,.bool false,.int .i64 0] by rw [← hw3]; exact Blk.new w2 _ _);have HO3:=hid (HO2.out.trans (q3.sub (by simp)));have HM3:=hid (HM2.out.only q3 (by simp) (by simp));have HB3:=hid (H0.out.only HO3.out (by simp; omega));have HROW3:=hid (HROW.out.only HO3.out (by
  intro x hx e;have:=HMV.out x (by simpa using e);simp at hx;omega))
 have hrl:=HR3.out.lt;have hwl:w.heap.size≤w2.heap.size:=HO2.out.size;clear hw3 q3;unfold Wk.cells at HB3;have z8:=HB3.out.at 8 (v:=.slice A n cap) rfl;have z0:=HB3.out.at 0 (v:=.int .i64 s.f) rfl;obtain ⟨S,hS⟩:∃ S:World→Prop,S=(fun w'=>w'.cell? ⟨b,8,none⟩=some (.slice A n cap)∧w'.cell? ⟨b,0,none⟩=some (.int .i64 s.f)):=⟨_,rfl⟩;have HS:=hid hS;clear hS;refine wp_region_lead 9 S (by kernel_rfl) (by kernel_rfl) (by rw [HS.out]; exact ⟨z8,z0⟩) ?_;simp only [List.take_succ_cons,List.take_zero,List.drop_succ_cons,List.drop_zero]
 repeat
  (refine lstep rfl ?_
   apply Exists.intro;refine ⟨fun w' hw'=>?_,?_⟩
   ·rw [HS.out] at hw';obtain ⟨p0,p1⟩:=hw';go_simp;with_reducible rfl
   go_simp)
 refine lnil ?_;refine ltail rfl fun K hK=>?_;go_simp;have HB:=hid (Blk.new w3.drew 3 #[.int .i64 s.f]);obtain ⟨w4,hw4⟩:∃ w4,w3.drew.alloc (Obj.cells #[.int .i64 s.f] 3)=w4:=⟨_,rfl⟩;rw [show (w3.alloc (Obj.cells #[.int .i64 s.f] 3)).drew=w4 from hw4];have q4:Only [] w3 w4:=by
  rw [← hw4];exact ((Only.refl [] w3).drew).trans ((Only.refl [] w3.drew).alloc _)
 have HB4:Hid (Blk w4 w3.heap.size 3 #[.int .i64 s.f]):=hid (by rw [← hw4]; exact HB.out);have HO4:=hid (HO3.out.trans (q4.sub (by simp)));have HM4:=hid (HM3.out.only q4 (by simp) (by simp));have HBB4:=hid (HB3.out.only q4 (by simp));have HROW4:=hid (HROW3.out.quiet q4);have HR4:=hid (HR3.out.only q4 (by simp));have hwl4:w3.heap.size≤w4.heap.size:=q4.size;clear hw4 q4 HB z8 z0;refine hK _ _ (by rw [HS.out]; exact ⟨HBB4.out.at 8 rfl,HBB4.out.at 0 rfl⟩) ?_;clear hK K;obtain ⟨i0,hz,hz0,hz1,hz2⟩:=info_parts Tryz.infoInt;refine ltail rfl fun K hK=>?_;refine wp_append_R (.tmp 30) (.tmp 35) 66 rfl 3 i0 (.int .i64 0) 1 8 Tryz.underlying66 hz hz0 hz1 hz2 rfl (by decide) _ n _ rfl HROW4.out ⟨w3.heap.size,0,none⟩ 1 1 [.int .i64 s.f] rfl rfl (fun j u hu=>?_) (by intro u hu; simp at hu; subst hu; rfl) (by unfold maxLen; omega) (by omega) ?_
 ·rcases j with _ | j
  ·have hu:Value.int .i64 s.f=u:=by simpa using hu
   subst hu;exact HB4.out.at 0 rfl
  ·simp at hu
 intro v5 w5 hr ho hown5;have ho:Only (Value.slice A n cap).ownBlock.toList w4 w5:=ho;have hown5:v5.ownBlock=(Value.slice A n cap).ownBlock∨v5.ownBlock=some w4.heap.size:=hown5;have hnb2:b ∉ (Value.slice A n cap).ownBlock.toList:=by
  simp only [Option.mem_toList];exact HROW4.out.ne HBB4.out (by decide)
 have hnr:w2.heap.size ∉ (Value.slice A n cap).ownBlock.toList:=by
  intro hm;have:=(HROW.out.lt _ (Option.mem_toList.1 hm)).1;omega
 obtain ⟨A5,cap5,rfl⟩:=hr.form;have HR:=hid hr;have HO5:=hid ((HO4.out.sub (T:=b :: mb :: ms :: (Value.slice A n cap).ownBlock.toList) (by simp)).trans (ho.sub (by
  intro x hx;simp only [List.mem_cons];exact .inr (.inr (.inr hx)))))
 have HW5:=hid (show (Value.slice A5 (n+1) cap5).ownBlock=(Value.slice A n cap).ownBlock∨∀ x,(Value.slice A5 (n+1) cap5).ownBlock=some x→w4.heap.size≤x from hown5.imp id fun h x hx=>by
  rw [h] at hx;have:w4.heap.size=x:=by simpa using hx
  omega)
 have HBB5:=hid (HBB4.out.only ho hnb2);have HR5:=hid (HR4.out.only ho hnr);have HM5:=hid (HM4.out.only ho (fun hm=>(HMV.out _ hm).1 rfl) (fun hm=>(HMV.out _ hm).2 rfl));have g8:=HBB5.out.frozen 8;have y8:=HBB5.out.at 8 (v:=.slice A n cap) rfl;have y0:=HBB5.out.at 0 (v:=.int .i64 s.f) rfl;have hbl5:b < w4.heap.size:=HBB4.out.lt;clear hr ho hown5 hz hz0 hz1 hz2;refine hK _ _ (by rw [HS.out]; exact ⟨y8,y0⟩) ?_;clear hK K;refine ltail rfl fun K hK=>?_;go_simp;refine hK _ _ (by rw [HS.out]; exact ⟨y8,y0⟩) ?_;clear hK K;refine ltail rfl fun K hK=>?_;go_simp;refine hK _ _ (by rw [HS.out]; exact ⟨y8,y0⟩) ?_;clear hK K;refine llast rfl fun K hK=>?_;go_simp;refine hK _ _ (NoPanic.normal ?_);clear hK K;obtain ⟨w6,hw6⟩:∃ w6,w5.setCell ⟨b,8,none⟩ (.slice A5 (n+1) cap5)=w6:=⟨_,rfl⟩;have q6:Only [b] w5 w6:=by
  rw [← hw6];exact (Only.refl [b] w5).setCell (p:=⟨b,8,none⟩) (by simp) _
 have HAT6:Hid (WkAt w6 b s (.slice A5 (n+1) cap5)):=hid (by
  rw [← hw6];exact HBB5.out.set 8 _)
 rw [hw6];have hb2:b≠w2.heap.size:=by omega
 have HR6:=hid (HR5.out.only q6 (by simp; omega));have HM6:=hid (HM5.out.only q6 (by simpa using hmb) (by simpa using hms));have HO6:=hid (HO5.out.trans (q6.sub (by simp)));have HROW6:=hid (HR.out.only q6 (by
  intro x hx e;have hx:x=b:=by simpa using hx
  subst hx;rcases HW5.out with h | h
  ·rw [h] at e;exact hnb2 (Option.mem_toList.2 e)
  ·have:=h _ e;omega))
 clear hw6 q6 y8 y0 g8;have z0:=HR6.out.at 0 (v:=.int .u64 V) rfl;have z2:=HR6.out.at 2 (v:=.int .i64 0) rfl;go_wp2_with fail;refine (HP.out _).mono ?_;rintro e w7 ⟨rfl,ho⟩;have HO7:=hid (HO6.out.trans (ho.sub (by simp)));have HM7:=hid (HM6.out.only ho (by simp) (by simp));have HAT7:=hid (show WkAt w7 b s (.slice A5 (n+1) cap5) from HAT6.out.only ho (by simp));have HROW7:=hid (HROW6.out.quiet ho);have HR7:=hid (HR6.out.only ho (by simp));clear ho z0 z2;have z2:=HR7.out.at 2 (v:=.int .i64 0) rfl;obtain ⟨w8,hw8⟩:∃ w8,w7.alloc (.cells #[.bool pr,.int .i64 ri,.bool false,.int .i64 fr] 172)=w8:=⟨_,rfl⟩;have q8:Only [] w7 w8:=by rw [← hw8]; exact (Only.refl [] w7).alloc _
 have HO8:=hid (HO7.out.trans (q8.sub (by simp)));have HM8:=hid (HM7.out.only q8 (by simp) (by simp));have HROW8:=hid (HROW7.out.quiet q8);have hat8:WkAt w8 b s (.slice A5 (n+1) cap5):=HAT7.out.only q8 (by simp);have HTK:=hid (took_any (x:=⟨pr,ri,false,fr⟩) hat8 (by omega) rfl);have HW8:=hid hw8;rw [pe_out] at HTK;dsimp only at HTK;have hne8:w2.heap.size≠w7.heap.size:=by
  have:=HR7.out.lt;omega
 have hne9:w7.heap.size≠w2.heap.size:=hne8.symm;have hlt8:w2.heap.size < w7.heap.size:=HR7.out.lt;clear q8 hat8 hw8;go_wp2_with fail;rw [HW8.out];refine HTK.out.mono ?_;rintro e w9 ⟨rfl,ho,s',hs,hat⟩;have hk:=hs.keeps;have HO9:=hid (HO8.out.trans (ho.sub (by simp)));have HM9:=hid (HM8.out.only ho (by simpa using hmb) (by simpa using hms));have HROW9:=hid (HROW8.out.only ho (by
  intro x hx e;have hx:x=b:=by simpa using hx
  subst hx;rcases HW5.out with h | h
  ·rw [h] at e;exact hnb2 (Option.mem_toList.2 e)
  ·have:=h _ e;omega))
 have HTO:=hid hs;have HAT9:=hid hat;have H9:Hid (Blk w9 b 164 (s'.cells (.slice A5 (n+1) cap5))):=hid hat;have x3:=H9.out.at 3 (v:=.int .i64 s'.l) rfl;have hfin:IsWk w9 b s' (.slice A5 (n+1) cap5):=⟨hat,n+1,_,HROW9.out,by omega,fun h=>by
  rcases hk.2.2 with h' | h'
  ·omega
  ·rw [hl] at h';omega⟩
 have HFIN:=hid hfin;have hsz:w.heap.size≤w4.heap.size:=HO4.out.size;clear ho hs hat hfin hk HTK z2;go_wp2_with fail;go_ret;exact ⟨s',_,rfl,HO9.out,HFIN.out,HM9.out,HTO.out,HW5.out.imp id fun h x hx=>Nat.le_trans hsz (h x hx)⟩
structure Ep where
 now:Int
 pins:List Int
 wt:Int→Option Int
structure IsEp (w:World) (b:Nat) (pv:Value) (mr:Nat) (s:Ep):Prop where
 obj:Blk w b 99 #[.int .i64 s.now,pv,.map (some mr)]
 row:RowR w 3 1 pv s.pins.length (s.pins.map (Value.int .i64))
 map:IsMap w mr (fun k=>(s.wt k).map (Value.int .i64))
 cpus:s.pins.length≤8
 n0:0≤s.now
 wb:∀ k n,s.wt k=some n→0≤n∧n≤s.now∧0≤k∧k < 4096
theorem RowR.set {w:World} {e n g cap:Nat} {xs:List Value} (h:RowR w e 1 (.slice (some ⟨g,0,none⟩) n cap) n xs) (j:Nat) (hj:j < n) (u:Value) :
 RowR (w.setCell ⟨g,j,none⟩ u) e 1 (.slice (some ⟨g,0,none⟩) n cap) n (xs.set j u):=by
 obtain ⟨hl,h⟩:=h;rcases h with ⟨h,rfl⟩ | ⟨g',cap',cur,h,hb,h1,h2,h3,h4⟩
 ·omega
 ·injection h with e1 _ e2;injection e1 with e1;injection e1 with e1;subst e1 e2;refine ⟨by simpa using hl,.inr ⟨g,cap,cur.setIfInBounds j u,rfl,hb.set j u,h1,h2,by simpa using h3,?_⟩⟩;rw [← h4];apply List.ext_getElem?;intro k;simp only [Array.toList_setIfInBounds,List.getElem?_take,List.getElem?_set,List.length_take,Array.length_toList];have:n * 1≤cur.size:=by
   have:=Nat.mul_le_mul_right 1 h1;omega
  by_cases hk:k < n * 1
  ·simp only [hk,if_true];by_cases hjk:j=k
   ·subst hjk;have q1:j < cur.size:=by omega
    have q2:j < min (n * 1) cur.size:=by omega
    simp only [q1,q2,if_true]
   ·simp [hjk]
  ·simp only [hk,if_false];have:j≠k:=by omega
   simp [this]
section
variable {w w':World} {b mr:Nat} {pv:Value} {s:Ep}
theorem IsEp.only {S:List Nat} (h:IsEp w b pv mr s) (o:Only S w w') (hb:b ∉ S) (hv:∀ x ∈ S,pv.ownBlock≠some x) (hm:mr ∉ S):IsEp w' b pv mr s:=
 ⟨h.obj.only o hb,h.row.only o hv,h.map.only o hm,h.cpus,h.n0,h.wb⟩
theorem IsEp.quiet (h:IsEp w b pv mr s) (o:Only [] w w'):IsEp w' b pv mr s:=h.only o (by simp) (by simp) (by simp)
theorem ethere_any (h:IsEp w b pv mr s):Calls Tryz.prog 81 #[ptr b] w fun e w'=>e=.returned (.bool true)∧w=w':=by
 have x2:=h.obj.at 2 (v:=.map (some mr)) rfl;have qT:∀ (w:World) (r:Option Nat),(binOp .neq 97 (.map r) (.map none)).run Tryz.prog w=.ok (.bool (!r.isNone)) w:=fun w r=>run_neq_map_nil w _ _ _ r Tryz.underlying97;clear h;go_enter Tryz.func81,Tryz.ntmps81;go_wp2_with fail;go_ret;exact ⟨rfl,rfl⟩
theorem enow_any (h:IsEp w b pv mr s):Calls Tryz.prog 87 #[ptr b] w fun e w'=>e=.returned (.int .i64 s.now)∧w=w':=by
 have HT:=hid (ethere_any h);have x0:=h.obj.at 0 (v:=.int .i64 s.now) rfl;clear h;go_enter Tryz.func87,Tryz.ntmps87;go_wp2_with fail;refine HT.out.mono ?_;rintro e w1 ⟨rfl,rfl⟩;go_wp2_with fail;go_ret;exact ⟨rfl,rfl⟩
def Ep.set (s:Ep) (c:Nat) (v:Int):Ep:=if (s.pins.getD c 0 == -1)=(v == -1) then s else { s with pins:=s.pins.set c v }
theorem eset_any (h:IsEp w b pv mr s) (c:Nat) (hc:c < s.pins.length) (v:Int):Calls Tryz.prog 78 #[ptr b,.int .i64 c,.int .i64 v] w fun e w'=>(∃ er,e=.returned (.int .i64 er))∧Only pv.ownBlock.toList w w'∧IsEp w' b pv mr (s.set c v):=by
 have HT:=hid (ethere_any h);have H0:=hid h;obtain ⟨g,cap,cur,hv,hb,hn,hcm,hcs,hcc⟩:=h.row.has (by omega);obtain ⟨n,hnn⟩:∃ n,s.pins.length=n:=⟨_,rfl⟩;obtain ⟨y,hy⟩:∃ y,s.pins[c]?=some y:=⟨s.pins[c],by simp [hc]⟩;have hx1:=hcc c (.int .i64 y) (by simp [hy]);rw [hnn] at hc hn hv;have x1:=h.obj.at 1 (v:=pv) rfl;rw [hv] at x1;have xg:=hb.at c hx1;have fg:=hb.frozen c;have i0:(0:Int)≤(c:Int):=by omega
 have i1:(c:Int) < n:=by omega
 have i2:¬ (c:Int) < 0:=by omega
 obtain ⟨b1,hb1⟩:∃ b1,(y == -1)=b1:=⟨_,rfl⟩;obtain ⟨b2,hb2⟩:∃ b2,(v == -1)=b2:=⟨_,rfl⟩;have HV:=hid hv;have HB:=hid hb;clear h hv hb hcc hx1;go_enter Tryz.func78,Tryz.ntmps78;go_wp2_with fail;refine HT.out.mono ?_;rintro e w1 ⟨rfl,rfl⟩;go_wp2_with fail
 ·rename_i hbb;have hbb':b1=b2:=by simpa using hbb
  go_ret;refine ⟨⟨_,rfl⟩,Only.refl _ _,?_⟩;have:s.set c v=s:=by
   unfold Ep.set;rw [if_pos];rw [List.getD_eq_getElem?_getD,hy,Option.getD_some,hb1,hb2,hbb']
  rw [this];exact H0.out
 ·rename_i hbb;have hbb':b1≠b2:=by simpa using hbb
  go_ret;have hne:b≠g:=fun e=>by
   have:=(H0.out.obj.inj (e ▸ HB.out)).1;exact absurd this (by decide)
  have q:Only [g] w (w.setCell ⟨g,c,none⟩ (.int .i64 v)):=(Only.refl [g] w).setCell (p:=⟨g,c,none⟩) (by simp) _;have hs:s.set c v={ s with pins:=s.pins.set c v }:=by
   unfold Ep.set;rw [if_neg];rw [List.getD_eq_getElem?_getD,hy,Option.getD_some,hb1,hb2];exact hbb'
  have hrow:=H0.out.row;rw [hnn,HV.out] at hrow;have hr:=hrow.set c (by omega) (.int .i64 v);refine ⟨⟨_,rfl⟩,q.sub (by rw [HV.out]; simp [Value.ownBlock]),?_⟩;rw [hs];refine ⟨H0.out.obj.only q (by simpa using hne),?_,H0.out.map.only q (by simpa using H0.out.map.ne_blk HB.out),by simpa using H0.out.cpus,H0.out.n0,H0.out.wb⟩;rw [HV.out];simpa [hnn] using hr
theorem epin_any (h:IsEp w b pv mr s) (c:Nat) (hc:c < s.pins.length):Calls Tryz.prog 61 #[ptr b,.int .i64 c] w fun e w'=>(∃ er,e=.returned (.int .i64 er))∧Only pv.ownBlock.toList w w'∧IsEp w' b pv mr (s.set c s.now):=by
 have HN:=hid (enow_any h);have HS:=hid (eset_any h c hc s.now);clear h;go_enter Tryz.func61,Tryz.ntmps61;go_wp2_with fail;refine HN.out.mono ?_;rintro e w1 ⟨rfl,rfl⟩;go_wp2_with fail;refine HS.out.mono ?_;rintro e w1 ⟨⟨er,rfl⟩,ho,hs⟩;have HO:=hid ho;have HI:=hid hs;clear ho hs;go_wp2_with fail;go_ret;exact ⟨⟨_,rfl⟩,HO.out,HI.out⟩
theorem eunpin_any (h:IsEp w b pv mr s) (c:Nat) (hc:c < s.pins.length):Calls Tryz.prog 46 #[ptr b,.int .i64 c] w fun e w'=>(∃ er,e=.returned (.int .i64 er))∧Only pv.ownBlock.toList w w'∧IsEp w' b pv mr (s.set c (-1)):=by
 have HS:=hid (eset_any h c hc (-1));clear h;go_enter Tryz.func46,Tryz.ntmps46;go_wp2_with fail;refine HS.out.mono ?_;rintro e w1 ⟨⟨er,rfl⟩,ho,hs⟩;have HO:=hid ho;have HI:=hid hs;clear ho hs;go_wp2_with fail;go_ret;exact ⟨⟨_,rfl⟩,HO.out,HI.out⟩
end
theorem zv_int (W:World):(zeroValue 3).run Tryz.prog W=.ok (.int .i64 0) W:=by kernel_rfl
theorem wp_upd {P:Program} {Q:Exit→Act→World→Prop} {K:Act→World→Prop} {o:Oper} {a:Act} {w:World} {r:Nat} {f:Int→Option Value} (x y v:Operand) (T:TypeId) (hop:o.op=Op.mapUpdate T x y v) {Kt E:TypeId} (hT:P.underlying T=some (.map Kt E)) (hK:P.underlying Kt=some (.int .i64))
 (h:IsMap w r f) (hx:a.eval x=.map (some r)) {k:Int} (hy:a.eval y=.int .i64 k) {u:Value} (hv:a.eval v=u)
 (hC:∀ w',IsMap w' r (updM f k (some u))→Only [r] w w'→w'.heap.size=w.heap.size→K (a.put o.dst undef) w'):o.wp P a w K Q:=by
 obtain ⟨w',hrun,r1,r2,r3⟩:=h.update hT hK k u;unfold Oper.wp;simp [execOp,hop,hx,hy,hv,hrun,Result.andThen];exact hC w' r3 r1 r2
section
variable {w w':World} {b mr:Nat} {pv:Value} {s:Ep}
def Ep.retire (s:Ep) (f:Int):Ep:=match s.wt f with | some _=>s | none=>{ s with wt:=updM s.wt f (some s.now) }
theorem updM_map {s:Int→Option Int} (f v:Int):updM (fun k=>(s k).map (Value.int .i64)) f (some (.int .i64 v))=fun k=>(updM s f (some v) k).map (Value.int .i64):=by
 funext k;unfold updM;split <;> rfl
theorem eretire_any (h:IsEp w b pv mr s) (f:Int) (hf:0≤f) (hf2:f < 4096):Calls Tryz.prog 52 #[ptr b,.int .i64 f] w fun e w'=>(∃ er,e=.returned (.int .i64 er))∧Only [mr] w w'∧IsEp w' b pv mr (s.retire f):=by
 have HT:=hid (ethere_any h);have H0:=hid h;have HM:=hid h.map;have x0:=h.obj.at 0 (v:=.int .i64 s.now) rfl;have x2:=h.obj.at 2 (v:=.map (some mr)) rfl;have f0:¬ f < 0:=by omega
 unfold Ep.retire;clear h;cases hw:s.wt f with
 | some t=>
  have hw2:((s.wt f).map (Value.int .i64))=some (.int .i64 t):=by rw [hw]; rfl
  clear hw;go_enter Tryz.func52,Tryz.ntmps52;go_wp2_with fail;refine HT.out.mono ?_;rintro e w1 ⟨rfl,rfl⟩;go_wp2_with (first
   | (with_reducible (refine wpList_lookOk Tryz.underlying97 Tryz.underlying3 HM.out (by with_unfolding_all rfl) (by with_unfolding_all rfl) (zv_int _) ?_); simp only [hw2,Option.getD_some,Option.isSome_some])
   | fail)
  go_ret;exact ⟨⟨_,rfl⟩,Only.refl _ _,H0.out⟩
 | none=>
  have hw2:((s.wt f).map (Value.int .i64))=none:=by rw [hw]; rfl
  clear hw;go_enter Tryz.func52,Tryz.ntmps52;go_wp2_with fail;refine HT.out.mono ?_;rintro e w1 ⟨rfl,rfl⟩;go_upto_region 8 with (first
   | (with_reducible (refine wpList_lookOk Tryz.underlying97 Tryz.underlying3 HM.out (by with_unfolding_all rfl) (by with_unfolding_all rfl) (zv_int _) ?_); simp only [hw2,Option.getD_none,Option.isSome_none])
   | fail)
  obtain ⟨S,hS⟩:∃ S:World→Prop,S=(fun w'=>w'.cell? ⟨b,2,none⟩=some (.map (some mr))∧w'.cell? ⟨b,0,none⟩=some (.int .i64 s.now)):=⟨_,rfl⟩;have HS:=hid hS;clear hS;refine wp_region_lead 9 S (by kernel_rfl) (by kernel_rfl) (by rw [HS.out]; exact ⟨x2,x0⟩) ?_;simp only [List.take_succ_cons,List.take_zero,List.drop_succ_cons,List.drop_zero]
  repeat
   (refine lstep rfl ?_
    apply Exists.intro;refine ⟨fun w' hw'=>?_,?_⟩
    ·rw [HS.out] at hw';obtain ⟨p0,p1⟩:=hw';go_simp;with_reducible rfl
    go_simp)
  refine lnil ?_;refine llast rfl fun K hK=>?_;refine wp_upd (.tmp 27) (.tmp 28) (.tmp 32) 97 rfl Tryz.underlying97 Tryz.underlying3 (HM.out.only ((Only.refl [] _).drew) (by simp)) rfl rfl rfl fun w2 hm ho _=>?_;refine hK _ _ (NoPanic.normal ?_);have HO:=hid (((Only.refl [mr] w).drew).trans ho);have HM2:Hid (IsMap w2 mr (updM (fun k=>(s.wt k).map (Value.int .i64)) f (some (.int .i64 s.now)))):=hid hm;clear hK K hm ho;go_wp2_with fail;go_ret;refine ⟨⟨_,rfl⟩,HO.out,?_⟩;have hne:mr≠b:=H0.out.map.ne_blk H0.out.obj;refine ⟨H0.out.obj.only HO.out (by simpa using hne.symm),H0.out.row.only HO.out (fun x hx e=>?_),?_,H0.out.cpus,H0.out.n0,fun k n hk=>?_⟩
  ·have hx:x=mr:=by simpa using hx
   subst hx;obtain ⟨_,cs,hb⟩:=H0.out.row.lt x e;exact H0.out.map.ne_blk hb rfl
  ·have:=HM2.out;rw [updM_map] at this;exact this
  ·have h0:=H0.out.n0;dsimp only at hk;unfold updM at hk;split at hk
   ·cases hk
    subst_vars
    exact ⟨h0,Int.le_refl _,hf,hf2⟩
   ·exact H0.out.wb k n hk
def Ep.ready (s:Ep):Bool:=s.pins.all fun p=>p == -1 || p == s.now
def Ep.advance (s:Ep):Ep:=if s.ready then { s with now:=s.now+1 } else s
theorem eadvance_any (h:IsEp w b pv mr s) (hn:s.now < 4611686018427387904):Calls Tryz.prog 55 #[ptr b] w fun e w'=>e=.returned (.bool s.ready)∧Only [b] w w'∧IsEp w' b pv mr s.advance:=by
 have HT:=hid (ethere_any h);have H0:=hid h;obtain ⟨A,cap,hv⟩:=h.row.form;obtain ⟨n,hnn⟩:∃ n,s.pins.length=n:=⟨_,rfl⟩;have x0:=h.obj.at 0 (v:=.int .i64 s.now) rfl;have x1:=h.obj.at 1 (v:=pv) rfl;have g0:=h.obj.frozen 0;rw [hv,hnn] at x1;have hn8:n≤8:=by rw [← hnn]; exact h.cpus
 have ew:IntKind.i64.wrap (s.now+1)=s.now+1:=by
  have:=h.n0;rw [IntKind.wrap_i64];omega
 have HN:=hid hnn;have HV:=hid hv;clear h hv hnn;go_enter Tryz.func55,Tryz.ntmps55;go_wp2_with fail;refine HT.out.mono ?_;rintro e w1 ⟨rfl,rfl⟩;go_wp2_with fail;go_loopg [13] n (fun k i wr=>k≤n∧i=.int .i64 ((n:Int) - k)∧w=wr∧∀ j p,j < n - k→s.pins[j]?=some p→(p == -1 || p == s.now)=true)
 case atStart=>exact ⟨Nat.le_refl _,by simp,rfl,fun j p hj=>by omega⟩
 case round=>
  obtain ⟨hk,rfl,rfl,hall⟩:=hrel;cases gk with
  | zero=>
   have hlt1:¬ ((n:Int) - ((0:Nat):Int) < n):=by omega
   have hr:s.ready=true:=by
    unfold Ep.ready;rw [List.all_eq_true];intro p hp;obtain ⟨j,hj⟩:=List.mem_iff_getElem?.1 hp;exact hall j p (by have:=(List.getElem?_eq_some_iff.1 hj).1; rw [HN.out] at this; omega) hj
   have HR:=hid hr;clear hr hall;go_wp2_with fail;go_ret;refine ⟨by rw [HR.out]; rfl,(Only.refl [b] w).setCell (p:=⟨b,0,none⟩) (by simp) _,?_⟩;unfold Ep.advance;rw [if_pos HR.out];have q:Only [b] w (w.setCell ⟨b,0,none⟩ (.int .i64 (s.now+1))):=(Only.refl [b] w).setCell (p:=⟨b,0,none⟩) (by simp) _;refine ⟨by simpa using H0.out.obj.set 0 (.int .i64 (s.now+1)),H0.out.row.only q (fun x hx=>?_),H0.out.map.only q (by simpa using H0.out.map.ne_blk H0.out.obj),H0.out.cpus,by have:=H0.out.n0; show 0≤s.now+1; omega,fun k n hk=>by have:=H0.out.wb k n hk; show 0≤n∧n≤s.now+1∧_; omega⟩;have hx:x=b:=by simpa using hx
   subst hx;exact H0.out.row.ne H0.out.obj (by decide)
  | succ k=>
   obtain ⟨j,hj⟩:∃ j,n - (k+1)=j:=⟨_,rfl⟩;have hjn:j < n:=by omega
   have ej:(n:Int) - ((k+1:Nat):Int)=(j:Int):=by omega
   rw [ej];have hlt1:(j:Int) < n:=by omega
   obtain ⟨p,hp⟩:∃ p,s.pins[j]?=some p:=⟨s.pins[j]'(by rw [HN.out]; exact hjn),by simp [HN.out,hjn]⟩;obtain ⟨g,cap1,cur,hv1,hb,hnc,_,_,hcc⟩:=H0.out.row.has (by rw [HN.out]; omega);have xp:=hb.at j (hcc j (.int .i64 p) (by simp [hp]));have hv2:=HV.out.symm.trans hv1;rw [HN.out] at hv2 hnc;injection hv2 with e1 e2 e3;subst e1 e3;have i0:(0:Int)≤(j:Int):=by omega
   have ew2:IntKind.i64.wrap ((j:Int)+1)=(j:Int)+1:=by rw [IntKind.wrap_i64]; omega
   have HP:=hid hp;have HA:=hid hall;obtain ⟨b1,hb1⟩:∃ b1,(p != -1)=b1:=⟨_,rfl⟩;obtain ⟨b2,hb2⟩:∃ b2,(p != s.now)=b2:=⟨_,rfl⟩;have HB1:=hid hb1;have HB2:=hid hb2;clear hv1 hb hcc hp hall ej e2;cases b1
   ·go_wp2_with fail;go_roundg k
    case measure=>omega
    case rel=>
     have e1:(j:Int)+1=(n:Int) - k:=by omega
     refine ⟨by omega,by rw [e1],rfl,fun i q hi hq=>?_⟩;by_cases hij:i=j
     ·subst hij;rw [HP.out] at hq;cases hq;have:p=-1:=by simpa using HB1.out
      simp [this]
     ·exact HA.out i q (by omega) hq
   ·cases b2
    ·go_wp2_with fail;go_roundg k
     case measure=>omega
     case rel=>
      have e1:(j:Int)+1=(n:Int) - k:=by omega
      refine ⟨by omega,by rw [e1],rfl,fun i q hi hq=>?_⟩;by_cases hij:i=j
      ·subst hij;rw [HP.out] at hq;cases hq;have:p=s.now:=by simpa using HB2.out
       simp [this]
      ·exact HA.out i q (by omega) hq
    ·have hr:s.ready=false:=by
      unfold Ep.ready;rw [List.all_eq_false];refine ⟨p,List.mem_of_getElem? HP.out,?_⟩;have h1:p≠-1:=by simpa using HB1.out
      have h2:p≠s.now:=by simpa using HB2.out
      simp [h1,h2]
     have HR:=hid hr;clear hr;go_wp2_with fail;go_ret;refine ⟨by rw [HR.out]; rfl,Only.refl _ _,?_⟩;unfold Ep.advance;rw [if_neg (by rw [HR.out]; decide)];exact H0.out
end
end Go.Proofs.YtadgpnoealegiaaGreat
