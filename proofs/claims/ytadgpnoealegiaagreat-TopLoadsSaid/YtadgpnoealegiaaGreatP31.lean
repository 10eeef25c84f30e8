import Derived.Test.YtadgpnoealegiaaGreatP30
namespace Go.Proofs.YtadgpnoealegiaaGreat
open Go.RowKit
open Go.Lib (hid)
set_option maxRecDepth 100000
set_option maxHeartbeats 20000000
theorem way_nodes {L:List Int} {ps:List D} {vm:Nat} {G:GS} (t:Tree L ps vm G) (hps:ps.length≤4096) (p:Nat):∀ (l:Nat) (f:Int),G.nd l (pre p (l+1))=some f→∀ x ∈ wayN L (p:Int) l f,∃ l' q,G.nd l' q=some x.f
 | 0,f,h,x,hx=>by
  have hx:x=⟨f,0,atN f p 0⟩:=by simpa [wayN] using hx
  subst hx;exact ⟨_,_,h⟩
 | l+1,f,h,x,hx=>by
  unfold wayN at hx;rcases List.mem_cons.1 hx with rfl | hx
  ·exact ⟨_,_,h⟩
  ·rw [t.nd_at hps h] at hx;cases hn:G.nd l (pre p (l+1)) with
   | none=>
    rw [hn] at hx;dsimp only at hx;rw [if_neg (by rw [zE_table]; decide)] at hx;cases hx
   | some y=>
    rw [hn] at hx;obtain ⟨_,_,⟨h0,h1⟩,_⟩:=t.rng _ _ _ hn;dsimp only at hx;rw [if_pos (leads_table h0 (by omega))] at hx;exact way_nodes t hps p l y hn x hx
section
variable {w:World} {a:HvP} {M:HS} {t:Nat} {vm:Int}
theorem way_range {v:Nat} {G:GS} (hi:HInv M t) (hg:M.g v=some G) {page:Int} (h0:0≤page) (h1:page < 65536):∀ x ∈ wayN M.L page 3 G.root,0≤x.f∧16 * x.f+16≤M.L.length:=fun x hx=>by
 obtain ⟨p,rfl⟩:=Int.eq_ofNat_of_zero_le h0;obtain ⟨_,_,tr,_⟩:=hi.gs v G hg;have hroot:G.nd 3 (pre p 4)=some G.root:=by rw [show pre p 4=0 by unfold pre; simp; omega]; exact tr.root
 obtain ⟨l',q,hn⟩:=way_nodes tr hi.ps1 p 3 G.root hroot x hx;obtain ⟨⟨q1,q2⟩,_⟩:=hi.node3 hg hn;have:=hi.len;omega
theorem IsHv.tk {w':World} (h:IsHv w a M) {v:Nat} {G:GS} (hg:M.g v=some G) (o:Only [a.mR v] w w') (tk':Int→Option (Int×Int)) (hm:IsMap w' (a.mR v) (tkV tk')) (T':List (Nat×Int×Int)) :
 IsHv w' a { L:=M.L,ps:=M.ps,g:=updG M.g v (some { G with tk:=tk' }),T:=T' }:=by
 have hmap:=(h.gs v G hg).2.2.2.2;have nb:∀ {g t:Nat} {cs:Array Value},Blk w g t cs→g ∉ [a.mR v]:=fun {g t cs} hb hm=>by
  have hm:g=a.mR v:=by simpa using hm
  exact hmap.ne_blk hb hm.symm
 obtain ⟨cs,h1,h2,h3,h4,h5,h6,h7⟩:=h.obj;obtain ⟨gs,hgr⟩:=h.gr;obtain ⟨P,hpo⟩:=h.po;obtain ⟨cs4,hpo4,_⟩:=hpo.blk;obtain ⟨_,_,m1,m2⟩:=h.mem.blk;refine ⟨⟨cs,h1.only o (nb h1),h2,h3,h4,h5,h6,fun u hu=>?_⟩,h.mem.only o (nb m1) (nb m2),h.pool.only o (nb h.pool.obj) (nb h.pool.row),⟨gs,hgr.only o (nb hgr.obj) (nb hgr.row)⟩,⟨P,hpo.only o (nb hpo4)⟩,fun u G2 hg2=>?_,fun u u' G1 G2 e1 e2 hne=>?_,fun x hx=>Nat.lt_of_lt_of_le (h.lim x hx) o.size⟩
 ·rw [h7 u hu];unfold HvP.gp;dsimp only;by_cases e:u=v
  ·subst e;rw [updG_same,hg]
  ·rw [updG_far _ _ e]
 ·by_cases e:u=v
  ·subst e;dsimp only at hg2;rw [updG_same] at hg2;cases hg2;obtain ⟨v1,v2,q1,q2,_⟩:=h.gs u G hg;exact ⟨v1,v2,q1.only o (nb q1),q2.only o (nb q2),hm⟩
  ·dsimp only at hg2;rw [updG_far _ _ e] at hg2;obtain ⟨v1,v2,q1,q2,q3⟩:=h.gs u G2 hg2;exact ⟨v1,v2,q1.only o (nb q1),q2.only o (nb q2),q3.only o (by simpa using (h.inj u v G2 G hg2 hg e).2.2)⟩
 ·have back:∀ {u G1},updG M.g v (some { G with tk:=tk' }) u=some G1→∃ G3,M.g u=some G3:=fun {u G1} e=>by
   by_cases e0:u=v
   ·exact ⟨G,by rw [e0]; exact hg⟩
   ·rw [updG_far _ _ e0] at e;exact ⟨G1,e⟩
  obtain ⟨G3,e3⟩:=back e1;obtain ⟨G4,e4⟩:=back e2;exact h.inj u u' G3 G4 e3 e4 hne
theorem updG_twice (g:Nat→Option GS) (v:Nat) (x y:Option GS):updG (updG g v x) v y=updG g v y:=by
 funext u;unfold updG;split <;> rfl
theorem tkV_del (tk:Int→Option (Int×Int)) (page:Int):updM (tkV tk) page none=tkV (updI tk page none):=by
 funext k;unfold updM tkV updI;split <;> rfl
theorem tkV_ins (tk:Int→Option (Int×Int)) (page id x:Int):updM (tkV tk) page (some (.agg #[.int .i64 id,.int .i64 x]))=tkV (updI tk page (some (id,x))):=by
 funext k;unfold updM tkV updI;split <;> rfl
theorem hreclaim_any (h:IsHv w a M) (hi:HInv M t) (c:C) (hk:c.k=4) (hf:c.fits) (v:Nat) {G:GS} (hg:M.g v=some G) :
 Calls Tryz.prog 94 #[ptr a.hb,.int .i64 v,c.val] w (HvTo w a M t v c):=by
 have hA:=hf.1;have HRel:=hid (dofail (vm:=(v:Int)) hi (show c.k≠1 by omega) (show c.k≠3 by omega));have HK:=hid hk;clear hf hk;obtain ⟨k,A,B,D⟩:=c;obtain ⟨W0,hW0⟩:∃ W0,(w.alloc (.cells #[.int .i64 k,.int .u64 A,.int .u64 B,.int .u64 D] 30)).alloc (.cells #[.int .u64 0,.int .i64 0] 38)=W0:=⟨_,rfl⟩;have hF:=HvF.start h ⟨k,A,B,D⟩;dsimp only at hF;rw [hW0] at hF;have HF0:=hid hF;have HW0:=hid hW0;have hy:=hF.c;dsimp only at hy;have y0:=hy.at 0 (v:=.int .i64 k) rfl;have y1:=hy.at 1 (v:=.int .u64 A) rfl;have y2:=hy.at 2 (v:=.int .u64 B) rfl;have y3:=hy.at 3 (v:=.int .u64 D) rfl;have HBAD:=hid (fun W e=>hbad_any W e);clear hF hy hW0;rw [c_out];have hA:0≤A:=hA;have HK:Hid (k=4):=hid HK.out;have HG:=hid hg;have HI:=hid hi;have HQ:=hid (hquery_any HF0.out.h hi hg A);obtain ⟨Q,hQ⟩:∃ Q,queryN M.L G.root A=Q:=⟨_,rfl⟩;rw [hQ] at HQ;obtain ⟨Q1,Q2,Q3⟩:=Q;dsimp only at HQ;have HQQ:=hid hQ;clear h hg hi hQ;by_cases h4:65536≤A
 ·have d4:decide (65536≤A)=true:=decide_eq_true h4;go_enter Tryz.func94,Tryz.ntmps94;go_upto_region 1 with fail;rw [HW0.out];go_wp2_with fail;refine (HBAD.out _ _).mono ?_;rintro en wz ⟨rfl,hoz⟩;have HFZ:=hid (HF0.out.quiet hoz);clear hoz;have hr:=HFZ.out.r;have r0:=hr.at 0 (v:=.int .u64 0) rfl;have r1:=hr.at 1 (v:=.int .i64 0) rfl;have g0:=hr.frozen 0;have g1:=hr.frozen 1;go_wp2_with fail;obtain ⟨z1,z2,z3,_⟩:=HFZ.out.out (.int .u64 (0)) (.int .i64 (2));have q0:=z3.at 0 (v:=.int .u64 (0)) rfl;have q1:=z3.at 1 (v:=.int .i64 (2)) rfl;refine bodyPost_ret (v:=.agg #[.int .u64 (0),.int .i64 (2)]) (by simp [results,Tryz.results94,go_sem,q0,q1]) rfl ⟨a,_,0,2,rfl,z2,z1,HRel.out _ (by decide),rfl,fun x hx=>.inl hx⟩
 have d4:decide (65536≤A)=false:=decide_eq_false h4;have ew:IntKind.i64.wrap A=A:=by rw [IntKind.wrap_i64]; omega
 go_enter Tryz.func94,Tryz.ntmps94;go_upto_region 1 with fail;rw [HW0.out];go_wp2_with fail;refine HQ.out.mono ?_;rintro e w1 ⟨rfl,ho,hh⟩;have HF1:=hid (HF0.out.step ho (fp_sub (by simp)) hh);have HTK:=hid (htaken_any HF1.out.h HG.out A);clear ho hh y0 y1 y2 y3;by_cases h3:Q3=0
 case neg=>
  have h3a:(Q3 == 0)=false:=beq_eq_false_iff_ne.2 h3;have h3b:(Q3 != 0)=true:=by rw [bne,h3a]; rfl
  have HN:=hid h3;clear h3;go_wp2_with fail;refine (HBAD.out _ _).mono ?_;rintro en wz ⟨rfl,hoz⟩;have HFZ:=hid (HF1.out.quiet hoz);clear hoz;have hr:=HFZ.out.r;have r0:=hr.at 0 (v:=.int .u64 0) rfl;have r1:=hr.at 1 (v:=.int .i64 0) rfl;have g0:=hr.frozen 0;have g1:=hr.frozen 1;go_wp2_with fail;obtain ⟨z1,z2,z3,_⟩:=HFZ.out.out (.int .u64 (0)) (.int .i64 (Q3));have q0:=z3.at 0 (v:=.int .u64 (0)) rfl;have q1:=z3.at 1 (v:=.int .i64 (Q3)) rfl;refine bodyPost_ret (v:=.agg #[.int .u64 (0),.int .i64 (Q3)]) (by simp [results,Tryz.results94,go_sem,q0,q1]) rfl ⟨a,_,0,Q3,rfl,z2,z1,HRel.out _ HN.out,rfl,fun x hx=>.inl hx⟩
 subst h3;go_wp2_with fail;refine HTK.out.mono ?_;rintro e w2 ⟨rfl,ho⟩;have HF2:=hid (HF1.out.quiet ho);clear ho;cases htk:(G.tk A).isSome
 case true=>
  go_wp2_with fail;refine (HBAD.out _ _).mono ?_;rintro en wz ⟨rfl,hoz⟩;have HFZ:=hid (HF2.out.quiet hoz);clear hoz;have hr:=HFZ.out.r;have r0:=hr.at 0 (v:=.int .u64 0) rfl;have r1:=hr.at 1 (v:=.int .i64 0) rfl;have g0:=hr.frozen 0;have g1:=hr.frozen 1;go_wp2_with fail;obtain ⟨z1,z2,z3,_⟩:=HFZ.out.out (.int .u64 (0)) (.int .i64 (7));have q0:=z3.at 0 (v:=.int .u64 (0)) rfl;have q1:=z3.at 1 (v:=.int .i64 (7)) rfl;refine bodyPost_ret (v:=.agg #[.int .u64 (0),.int .i64 (7)]) (by simp [results,Tryz.results94,go_sem,q0,q1]) rfl ⟨a,_,0,7,rfl,z2,z1,HRel.out _ (by decide),rfl,fun x hx=>.inl hx⟩
 obtain ⟨p,hpA,hpl⟩:∃ p:Nat,A=p∧M.g v=some G∧G.lf p=some (Q1,Q2):=by
  obtain ⟨_,_,tr,_⟩:=HI.out.gs v G HG.out;have hqs:=query_spec tr HI.out.ps1 A;rw [HQQ.out] at hqs;rcases hqs with ⟨_,p,e,_,h5⟩ | ⟨h5,_⟩
  ·exact ⟨p,e,HG.out,h5⟩
  ·exact absurd rfl h5
 have HPL:=hid (And.intro hpA hpl.2);have hx4:=HI.out.leaf4 HG.out hpl.2;have hin:=inP_iff.2 hx4.1;have HOF:=hid (of_any Q1 HF2.out.h.pool);rw [hin,if_pos rfl] at HOF;obtain ⟨⟨dk,do',dr,de⟩,hd⟩:∃ d,dOf M.ps Q1=d:=⟨_,rfl⟩;rw [hd,dval_out] at HOF;dsimp only at HOF;have hrf:rf M.ps Q1=dr:=by unfold rf; rw [hd]
 have HRF:=hid hrf;have x1:=HF2.out.h.c1;clear hpA hpl hx4 hin hd hrf htk;go_wp2_with fail;refine HOF.out.mono ?_;rintro e w3 ⟨rfl,ho⟩;have HF3:=hid (HF2.out.quiet (ho.alloc (.cells #[.int .i64 dk,.int .i64 do',.int .i64 dr,.int .i64 de] 159)));clear ho x1;by_cases hr0:0 < dr
 ·have dr0:decide (0 < dr)=true:=decide_eq_true hr0;go_wp2_with fail;refine (HBAD.out _ _).mono ?_;rintro en wz ⟨rfl,hoz⟩;have HFZ:=hid (HF3.out.quiet hoz);clear hoz;have hr:=HFZ.out.r;have r0:=hr.at 0 (v:=.int .u64 0) rfl;have r1:=hr.at 1 (v:=.int .i64 0) rfl;have g0:=hr.frozen 0;have g1:=hr.frozen 1;go_wp2_with fail;obtain ⟨z1,z2,z3,_⟩:=HFZ.out.out (.int .u64 (0)) (.int .i64 (9));have q0:=z3.at 0 (v:=.int .u64 (0)) rfl;have q1:=z3.at 1 (v:=.int .i64 (9)) rfl;refine bodyPost_ret (v:=.agg #[.int .u64 (0),.int .i64 (9)]) (by simp [results,Tryz.results94,go_sem,q0,q1]) rfl ⟨a,_,0,9,rfl,z2,z1,HRel.out _ (by decide),rfl,fun x hx=>.inl hx⟩
 have dr0:decide (0 < dr)=false:=decide_eq_false hr0;have hrz:rf M.ps Q1=0:=by
  obtain ⟨q1,q2⟩:=HI.out.toHCore.owner (HI.out.leaf4 HG.out HPL.out.2).1;have h5:=q2.r0;have h6:=HRF.out;unfold rf at h6 ⊢;omega
 have HRZ:=hid hrz;have hvr:=HF3.out.h.gs v G HG.out;have hv1:=hvr.1;have hv2:=hvr.2.1;have xg:=HF3.out.h.cg (v:=v) (by omega);rw [gp_some HG.out] at xg;have x1:=hvr.2.2.1.at 0 (v:=ptr (a.tB v)) rfl;have i0:(0:Int)≤v:=by omega
 have i1:(v:Int) < 17:=by omega
 have HUN:=hid (nunmap_any (page:=A) (HF3.out.h.tab HG.out) (root_range HI.out HG.out).1 (root_range HI.out HG.out).2 (small_of HI.out HG.out A) (way_range HI.out HG.out hA (by omega)));clear hrz hvr;go_wp2_with fail;refine HUN.out.mono ?_;rintro e w4 ⟨⟨b1,b2,rfl⟩,ho,ht⟩;have HF4:=hid (HF3.out.step ho (fp_sub (by simp)) (HF3.out.h.tables ho ht.mem ht.pool));clear ho ht xg x1;have x1:=HF4.out.h.c1;have HTU:=hid (turn_any Q1 5 v HF4.out.h.pool (.inr (.inr (.inr rfl))));go_wp2_with fail;refine HTU.out.mono ?_;rintro e w5 ⟨rfl,ho,hp⟩;have HF5:=hid (HF4.out.step ho (fp_sub (by simp)) (HF4.out.h.frames ho hp));clear ho hp x1;obtain ⟨G',i1',s1,e1,e2⟩:=reclaim_step HI.out HG.out HPL.out.2 HRZ.out;obtain ⟨M1,hM1⟩:∃ M1:HS,M1={ L:=(unmapN M.L M.ps G.root p).1,ps:=(turnN (unmapN M.L M.ps G.root p).2 Q1 5 v).1,g:=updG M.g v (some G'),T:=M.T }:=⟨_,rfl⟩;rw [← hM1] at i1' s1;have HF6:=hid (show HvF w a M1 ⟨k,A,B,D⟩ w.heap.size (w.heap.size+1) w5 from by
  have f:=HF5.out;refine ⟨?_,f.c,f.r,f.o,f.lc,f.lr,f.la⟩;have:=f.h.upd (v:=v) (G:=G) (G':=G') HG.out e2 e1 M.T;rw [hM1,← HPL.out.1];exact this)
 have hx4:=HI.out.leaf4 HG.out HPL.out.2;have hps1:=HI.out.ps1;have hq0:=hx4.1.1;have hq1:=hx4.1.2;have ewq:IntKind.u64.wrap Q1=Q1:=by rw [IntKind.wrap_u64]; omega
 have HD:=hid (show DoRel M t v ⟨k,A,B,D⟩ M1 Q1 0 from ⟨i1'.up (Nat.le_succ _),by
  have hdn:donD ⟨k,A,B,D⟩ Q1 0=none:=by unfold donD; rw [if_neg (fun h=>by have:=HK.out; have h3:=h.1; dsimp only at h3; omega)]
  rw [hdn];exact s1.mono (fun u q hc=>⟨rfl,.inr ⟨.inl HK.out,by rw [hc.1],by rw [hc.2]; exact HPL.out.1.symm⟩⟩) (fun u hu=>hu.elim),by omega,fun _ h2=>by have:=HK.out; dsimp only at h2; omega,fun _ _=>⟨by omega,by omega,hA,by show A < 65536; omega⟩,fun _ hc=>by
   have:=congrArg C.k hc;have hk4:=HK.out;dsimp only at this;omega,fun h3=>by have:=HK.out; dsimp only at h3; omega⟩)
 clear i1' s1 e1 e2 hM1 hx4;have hr:=HF6.out.r;have r0:=hr.at 0 (v:=.int .u64 0) rfl;have r1:=hr.at 1 (v:=.int .i64 0) rfl;have g0:=hr.frozen 0;have g1:=hr.frozen 1;go_wp2_with fail;obtain ⟨z1,z2,z3,_⟩:=HF6.out.out (.int .u64 (Q1)) (.int .i64 (0));have q0:=z3.at 0 (v:=.int .u64 (Q1)) rfl;have q1:=z3.at 1 (v:=.int .i64 (0)) rfl;refine bodyPost_ret (v:=.agg #[.int .u64 (Q1),.int .i64 (0)]) (by simp [results,Tryz.results94,go_sem,q0,q1]) rfl ⟨a,_,Q1,0,rfl,z2,z1,HD.out,rfl,fun x hx=>.inl hx⟩
end
section
variable {w:World} {a:HvP} {M:HS} {t:Nat} {vm:Int}
structure GiveTo (M:HS) (t v:Nat) (G:GS) (page id x:Int) (M1:HS):Prop where
 inv:HInv M1 t
 step:HStep (fun u q=>u=v∧(q:Int)=page) (fun _=>False) none M M1
 g:∃ G1,M1.g v=some G1∧G1.tk=updI G.tk page none∧G1.root=G.root
 oth:∀ u,u≠v→M1.g u=M.g u
 fr:∀ y,inR M.ps y→ow M1.ps y=ow M.ps y∧(rf M.ps y=0→rf M1.ps y=0)
 T:M1.T=M.T.erase (v,page,x)
 mem:(v,page,x) ∈ M.T
theorem hgive_any (h:IsHv w a M) (hi:HInv M t) (ht:t < 60000) (v:Nat) {G:GS} (hg:M.g v=some G) {page id x:Int} (htk:G.tk page=some (id,x)) :
 Calls Tryz.prog 131 #[ptr a.hb,.int .i64 v,.int .i64 page] w fun e w'=>e=.returned (.tuple #[])∧Only a.fp w w'∧∃ M1,IsHv w' a M1∧GiveTo M t v G page id x M1:=by
 have hvr:=h.gs v G hg;have hv1:=hvr.1;have hv2:=hvr.2.1;obtain ⟨_,_,_,g0⟩:=hi.gs v G hg;obtain ⟨hp0,hp1,⟨ri,hlf⟩,hT⟩:=g0.tkl page id x htk;have hx4:=hi.leaf4 hg hlf;have HRG:=hid (And.intro hp0 hp1);have xg:=h.cg (v:=v) (by omega);rw [gp_some hg] at xg;have x1:=hvr.2.2.1.at 1 (v:=.map (some (a.mR v))) rfl;have x0:=hvr.2.2.1.at 0 (v:=ptr (a.tB v)) rfl;have HM:=hid hvr.2.2.2.2;have HK:=hid (show tkV G.tk page=some (.agg #[.int .i64 id,.int .i64 x]) by unfold tkV; rw [htk]; rfl);have i0:(0:Int)≤v:=by omega
 have i1:(v:Int) < 17:=by omega
 have H0:=hid h;have HG:=hid hg;have HI:=hid hi;have HTK:=hid htk;have HMEM:=hid hT;have HX4:=hid hx4;have hsz:∀ y ∈ a.fp,y≠w.heap.size:=fun y hy=>Nat.ne_of_lt (h.lim y hy);have HSZ:=hid hsz;obtain ⟨W1,hW1⟩:∃ W1,w.alloc (.cells #[.int .i64 id,.int .i64 x] 229)=W1:=⟨_,rfl⟩;have q1:Only [] w W1:=by rw [← hW1]; exact (Only.refl [] w).alloc _
 have hb1:Blk W1 w.heap.size 229 #[.int .i64 id,.int .i64 x]:=by rw [← hW1]; exact Blk.new _ _ _
 have H1:=hid (h.quiet q1);have HB1:=hid hb1;have HQ1:=hid q1;have HW1:=hid hW1;have hmf:a.mR v ∈ a.fp:=(fp_guest (show v < 17 by omega)).2.2;clear h hi hg htk hvr g0 hp0 hp1 hlf hT hx4 hsz q1 hb1 hW1;go_enter Tryz.func131,Tryz.ntmps131;go_upto_region 2 with (first
  | (with_reducible (refine wpList_look Tryz.underlyingTook Tryz.underlying3 HM.out (by with_unfolding_all rfl) (by with_unfolding_all rfl) (z:=.agg #[.int .i64 0,.int .i64 0]) (by kernel_rfl) ?_); simp only [HK.out,Option.getD_some])
  | fail)
 rw [HW1.out];have y1:=((H1.out.gs v G HG.out).2.2.1).at 1 (v:=.map (some (a.mR v))) rfl;have HM1:=hid (H1.out.gs v G HG.out).2.2.2.2;clear x1 x0 xg HM;go_upto_region 3 with (first
  | (with_reducible (refine wpList_del Tryz.underlyingTook Tryz.underlying3 HM1.out (by with_unfolding_all rfl) (by with_unfolding_all rfl) fun w2 hm2 ho2 hz2=>?_))
  | fail)
 rw [tkV_del] at hm2;have H2:=hid (H1.out.tk HG.out ho2 (updI G.tk page none) hm2 M.T);have HG2:=hid (show updG M.g v (some { G with tk:=updI G.tk page none }) v=some { G with tk:=updI G.tk page none } from updG_same _ _ _);have HB2:=hid (HB1.out.only ho2 (by simpa using fun e=>(HSZ.out _ hmf) e.symm));have HO2:=hid ((HQ1.out.sub (show [] ⊆ a.fp by simp)).trans (ho2.sub (by simpa using hmf)));have y0:=(H2.out.gs v _ HG2.out).2.2.1.at 0 (v:=ptr (a.tB v)) rfl;have HUN:=hid (nunmap_any (page:=page) (H2.out.tab HG2.out) (root_range HI.out HG.out).1 (root_range HI.out HG.out).2 (small_of HI.out HG.out page) (way_range HI.out HG.out HRG.out.1 HRG.out.2));clear hm2 ho2 hz2 y1;go_wp2_with fail;refine HUN.out.mono ?_;rintro e w3 ⟨⟨b1,b2,rfl⟩,ho,ht3⟩;have H3:=hid (H2.out.tables ho ht3.mem ht3.pool);have hsub:[a.mb,a.ms,a.pr] ⊆ a.fp:=fp_sub (by simp);have HB3:=hid (HB2.out.only ho (fun hm=>HSZ.out _ (hsub hm) rfl));have HO3:=hid (HO2.out.trans (ho.sub hsub));clear ho ht3 y0;go_upto_region 4 with fail;have z1:=H3.out.c1;have bx:=HB3.out.at 1 (v:=.int .i64 x) rfl;have H3d:=hid (H3.out.quiet ((Only.refl [] w3).drew));have HRF:=hid (ref_any x (-1) H3d.out.pool);refine pBegin rfl ?_;obtain ⟨S,hS⟩:∃ S:World→Prop,S=fun w'=>w'.cell? ⟨a.hb,1,none⟩=some (ptr a.pb)∧w'.cell? ⟨w.heap.size,1,none⟩=some (.int .i64 x):=⟨_,rfl⟩;have HS:=hid hS;clear hS;refine pPhaseH S 99 (by rw [HS.out]; exact ⟨z1,bx⟩) fun HSW=>?_;refine pPure (i:=0) rfl (by kernel_rfl) rfl HSW.out ?_;apply Exists.intro;refine ⟨fun w'=>?_,?_⟩
 ·go_simp;with_reducible rfl
 go_simp;refine pPure (i:=1) rfl (by kernel_rfl) rfl HSW.out ?_;apply Exists.intro;refine ⟨fun w'=>?_,?_⟩
 ·go_simp;with_reducible rfl
 go_simp;refine pPure (i:=2) rfl (by kernel_rfl) rfl HSW.out ?_;apply Exists.intro;refine ⟨fun w'=>?_,?_⟩
 ·go_simp;with_reducible rfl
 go_simp;refine pTake (i:=3) rfl (by kernel_rfl) rfl HSW.out ?_;apply Exists.intro;refine ⟨fun w' hw'=>?_,?_⟩
 ·rw [HS.out] at hw';obtain ⟨p0,p1⟩:=hw';go_simp;with_reducible rfl
 go_simp;refine pPure (i:=4) rfl (by kernel_rfl) rfl HSW.out ?_;apply Exists.intro;refine ⟨fun w'=>?_,?_⟩
 ·go_simp;with_reducible rfl
 go_simp;refine pTake (i:=5) rfl (by kernel_rfl) rfl HSW.out ?_;apply Exists.intro;refine ⟨fun w' hw'=>?_,?_⟩
 ·rw [HS.out] at hw';obtain ⟨p0,p1⟩:=hw';go_simp;with_reducible rfl
 go_simp;refine pStep (i:=6) rfl (by kernel_rfl) (by kernel_rfl) rfl fun K hK=>?_;go_simp;go_at_call 148;refine HRF.out.mono ?_;rintro e w4 ⟨rfl,ho,hp⟩;have hsub2:[a.pr] ⊆ a.fp:=fp_sub (by simp);have H4:=hid (H3d.out.frames ho hp);have HB4:=hid ((HB3.out.only ((Only.refl [] w3).drew) (by simp)).only ho (fun hm=>HSZ.out _ (hsub2 hm) rfl));have HO4:=hid (HO3.out.drew.trans (ho.sub hsub2));refine hK _ _ (by rw [HS.out]; exact ⟨H4.out.c1,HB4.out.at 1 rfl⟩) ?_;clear hK K HSW ho hp z1 bx HS;refine pEnd (by kernel_rfl) ?_;go_upto_region 5 with fail;have z2:=H4.out.c2;have bx:=HB4.out.at 0 (v:=.int .i64 id) rfl;have H4d:=hid (H4.out.quiet ((Only.refl [] w4).drew));obtain ⟨gs,hgs⟩:=H4d.out.gr;have HGB:=hid (gback_any hgs id (v:Int));clear hgs;refine pBegin rfl ?_;obtain ⟨S,hS⟩:∃ S:World→Prop,S=fun w'=>w'.cell? ⟨a.hb,2,none⟩=some (ptr a.gb)∧w'.cell? ⟨w.heap.size,0,none⟩=some (.int .i64 id):=⟨_,rfl⟩;have HS:=hid hS;clear hS;refine pPhaseH S 99 (by rw [HS.out]; exact ⟨z2,bx⟩) fun HSW=>?_;refine pPure (i:=0) rfl (by kernel_rfl) rfl HSW.out ?_;apply Exists.intro;refine ⟨fun w'=>?_,?_⟩
 ·go_simp;with_reducible rfl
 go_simp;refine pPure (i:=1) rfl (by kernel_rfl) rfl HSW.out ?_;apply Exists.intro;refine ⟨fun w'=>?_,?_⟩
 ·go_simp;with_reducible rfl
 go_simp;refine pPure (i:=2) rfl (by kernel_rfl) rfl HSW.out ?_;apply Exists.intro;refine ⟨fun w'=>?_,?_⟩
 ·go_simp;with_reducible rfl
 go_simp;refine pTake (i:=3) rfl (by kernel_rfl) rfl HSW.out ?_;apply Exists.intro;refine ⟨fun w' hw'=>?_,?_⟩
 ·rw [HS.out] at hw';obtain ⟨p0,p1⟩:=hw';go_simp;with_reducible rfl
 go_simp;refine pPure (i:=4) rfl (by kernel_rfl) rfl HSW.out ?_;apply Exists.intro;refine ⟨fun w'=>?_,?_⟩
 ·go_simp;with_reducible rfl
 go_simp;refine pTake (i:=5) rfl (by kernel_rfl) rfl HSW.out ?_;apply Exists.intro;refine ⟨fun w' hw'=>?_,?_⟩
 ·rw [HS.out] at hw';obtain ⟨p0,p1⟩:=hw';go_simp;with_reducible rfl
 go_simp;refine pPure (i:=6) rfl (by kernel_rfl) rfl HSW.out ?_;apply Exists.intro;refine ⟨fun w'=>?_,?_⟩
 ·go_simp;with_reducible rfl
 go_simp;refine pStep (i:=7) rfl (by kernel_rfl) (by kernel_rfl) rfl fun K hK=>?_;go_simp;go_at_call 147;refine HGB.out.mono ?_;rintro e w5 ⟨⟨er,rfl⟩,hpo⟩;have hsub3:[a.gr] ⊆ a.fp:=fp_sub (by simp);have H5:=hid (H4d.out.grants hpo);have HB5:=hid ((HB4.out.only ((Only.refl [] w4).drew) (by simp)).only hpo.1 (fun hm=>HSZ.out _ (hsub3 hm) rfl));have HO5:=hid (HO4.out.drew.trans (hpo.1.sub hsub3));refine hK _ _ (by rw [HS.out]; exact ⟨H5.out.c2,HB5.out.at 0 rfl⟩) ?_;clear hK K HSW hpo z2 bx;refine pEnd (by kernel_rfl) ?_;go_end0;obtain ⟨G',j1,j2,j3,j4⟩:=give_step HI.out ht HG.out HTK.out;refine ⟨rfl,HO5.out,{ L:=(unmapN M.L M.ps G.root page).1,ps:=(refN (unmapN M.L M.ps G.root page).2 x (-1)).1,g:=updG M.g v (some { G' with tk:=updI G.tk page none }),T:=M.T.erase (v,page,x) },?_,j1,j2,⟨_,updG_same _ _ _,rfl,j3⟩,fun u hu=>updG_far _ _ hu,j4,rfl,HMEM.out⟩;have:=H5.out.upd (v:=v) (G:={ G with tk:=updI G.tk page none }) (G':={ G' with tk:=updI G.tk page none }) (updG_same _ _ _) j3 rfl (M.T.erase (v,page,x));rw [updG_twice] at this;exact this
theorem hback_any (h:IsHv w a M) (hi:HInv M t) (ht:t < 60000) (c:C) (hk:c.k=10) (hf:c.fits) (v:Nat) {G:GS} (hg:M.g v=some G) :
 Calls Tryz.prog 100 #[ptr a.hb,.int .i64 v,c.val] w (HvTo w a M t v c):=by
 have hA:=hf.1;have HRel:=hid (dofail (vm:=(v:Int)) hi (show c.k≠1 by omega) (show c.k≠3 by omega));have HK:=hid hk;clear hf hk;obtain ⟨k,A,B,D⟩:=c;obtain ⟨W0,hW0⟩:∃ W0,(w.alloc (.cells #[.int .i64 k,.int .u64 A,.int .u64 B,.int .u64 D] 30)).alloc (.cells #[.int .u64 0,.int .i64 0] 38)=W0:=⟨_,rfl⟩;have hF:=HvF.start h ⟨k,A,B,D⟩;dsimp only at hF;rw [hW0] at hF;have HF0:=hid hF;have HW0:=hid hW0;have hy:=hF.c;dsimp only at hy;have y0:=hy.at 0 (v:=.int .i64 k) rfl;have y1:=hy.at 1 (v:=.int .u64 A) rfl;have y2:=hy.at 2 (v:=.int .u64 B) rfl;have y3:=hy.at 3 (v:=.int .u64 D) rfl;have HBAD:=hid (fun W e=>hbad_any W e);clear hF hy hW0;rw [c_out];have hA:0≤A:=hA;have HK:Hid (k=10):=hid HK.out;have HG:=hid hg;have HI:=hid hi;have HTK:=hid (htaken_any HF0.out.h hg A);have hvr:=h.gs v G hg;have hv1:=hvr.1;have hv2:=hvr.2.1;clear h hg hi hvr;by_cases h4:65536≤A
 ·have d4:decide (65536≤A)=true:=decide_eq_true h4;go_enter Tryz.func100,Tryz.ntmps100;go_upto_region 1 with fail;rw [HW0.out];go_wp2_with fail;refine (HBAD.out _ _).mono ?_;rintro en wz ⟨rfl,hoz⟩;have HFZ:=hid (HF0.out.quiet hoz);clear hoz;have hr:=HFZ.out.r;have r0:=hr.at 0 (v:=.int .u64 0) rfl;have r1:=hr.at 1 (v:=.int .i64 0) rfl;have g0:=hr.frozen 0;have g1:=hr.frozen 1;go_wp2_with fail;obtain ⟨z1,z2,z3,_⟩:=HFZ.out.out (.int .u64 (0)) (.int .i64 (2));have q0:=z3.at 0 (v:=.int .u64 (0)) rfl;have q1:=z3.at 1 (v:=.int .i64 (2)) rfl;refine bodyPost_ret (v:=.agg #[.int .u64 (0),.int .i64 (2)]) (by simp [results,Tryz.results100,go_sem,q0,q1]) rfl ⟨a,_,0,2,rfl,z2,z1,HRel.out _ (by decide),rfl,fun x hx=>.inl hx⟩
 have d4:decide (65536≤A)=false:=decide_eq_false h4;have ew:IntKind.i64.wrap A=A:=by rw [IntKind.wrap_i64]; omega
 go_enter Tryz.func100,Tryz.ntmps100;go_upto_region 1 with fail;rw [HW0.out];go_wp2_with fail;refine HTK.out.mono ?_;rintro e w1 ⟨rfl,ho⟩;have HF1:=hid (HF0.out.quiet ho);have hy:=HF1.out.c;dsimp only at hy;clear y0 y1 y2 y3 ho;have y0:=hy.at 0 (v:=.int .i64 k) rfl;have y1:=hy.at 1 (v:=.int .u64 A) rfl;have y2:=hy.at 2 (v:=.int .u64 B) rfl;have y3:=hy.at 3 (v:=.int .u64 D) rfl;clear hy;cases htk:G.tk A with
 | none=>
  have e1:(none:Option (Int×Int)).isSome=false:=rfl;rw [e1];clear htk;go_wp2_with fail;refine (HBAD.out _ _).mono ?_;rintro en wz ⟨rfl,hoz⟩;have HFZ:=hid (HF1.out.quiet hoz);clear hoz;have hr:=HFZ.out.r;have r0:=hr.at 0 (v:=.int .u64 0) rfl;have r1:=hr.at 1 (v:=.int .i64 0) rfl;have g0:=hr.frozen 0;have g1:=hr.frozen 1;go_wp2_with fail;obtain ⟨z1,z2,z3,_⟩:=HFZ.out.out (.int .u64 (0)) (.int .i64 (4));have q0:=z3.at 0 (v:=.int .u64 (0)) rfl;have q1:=z3.at 1 (v:=.int .i64 (4)) rfl;refine bodyPost_ret (v:=.agg #[.int .u64 (0),.int .i64 (4)]) (by simp [results,Tryz.results100,go_sem,q0,q1]) rfl ⟨a,_,0,4,rfl,z2,z1,HRel.out _ (by decide),rfl,fun x hx=>.inl hx⟩
 | some yy=>
  obtain ⟨id,x⟩:=yy;have e1:(some (id,x):Option (Int×Int)).isSome=true:=rfl;rw [e1];have HGV:=hid (hgive_any HF1.out.h HI.out ht v HG.out htk);clear htk e1;go_wp2_with fail;refine HGV.out.mono ?_;rintro e w2 ⟨rfl,ho,M1,hh,hgt⟩;have HF2:=hid (HF1.out.step ho (fun x hx=>hx) hh);have HD:=hid (show DoRel M t v ⟨k,A,B,D⟩ M1 0 0 from ⟨hgt.inv.up (Nat.le_succ _),by
   have hdn:donD ⟨k,A,B,D⟩ 0 0=none:=by unfold donD; rw [if_neg (fun h=>by have:=HK.out; have h3:=h.1; dsimp only at h3; omega)]
   rw [hdn];exact hgt.step.mono (fun u q hc=>⟨rfl,.inr ⟨.inr HK.out,by rw [hc.1],hc.2⟩⟩) (fun u hu=>hu.elim),zero_range,fun _ h2=>by have:=HK.out; dsimp only at h2; omega,fun _ _=>⟨by omega,by omega,hA,by show A < 65536; omega⟩,fun _ hc=>by
    have:=congrArg C.k hc;have hk4:=HK.out;dsimp only at this;omega,fun h3=>by have:=HK.out; dsimp only at h3; omega⟩)
  clear ho hh hgt y0 y1 y2 y3;have hr:=HF2.out.r;have r0:=hr.at 0 (v:=.int .u64 0) rfl;have r1:=hr.at 1 (v:=.int .i64 0) rfl;have g0:=hr.frozen 0;have g1:=hr.frozen 1;go_wp2_with fail;obtain ⟨z1,z2,z3,_⟩:=HF2.out.out (.int .u64 (0)) (.int .i64 (0));have q0:=z3.at 0 (v:=.int .u64 (0)) rfl;have q1:=z3.at 1 (v:=.int .i64 (0)) rfl;refine bodyPost_ret (v:=.agg #[.int .u64 (0),.int .i64 (0)]) (by simp [results,Tryz.results100,go_sem,q0,q1]) rfl ⟨a,_,0,0,rfl,z2,z1,HD.out,rfl,fun x hx=>.inl hx⟩
end
end Go.Proofs.YtadgpnoealegiaaGreat
