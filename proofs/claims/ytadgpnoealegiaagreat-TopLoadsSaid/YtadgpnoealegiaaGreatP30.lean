import Derived.Test.YtadgpnoealegiaaGreatP29
namespace Go.Proofs.YtadgpnoealegiaaGreat
open Go.RowKit
open Go.Lib (hid)
set_option maxRecDepth 100000
set_option maxHeartbeats 20000000
section
variable {w w':World} {a:HvP} {S:HS}
theorem Tryz.underlyingTook : Tryz.prog.underlying 187=some (.map 3 229):=by kernel_rfl
theorem halive_any (h:IsHv w a S) (x:Int) (hx:0≤x):Calls Tryz.prog 129 #[ptr a.hb,.int .u64 x] w fun e w'=>e=.returned (.bool (liveN S x))∧w=w':=by
 have HL:=hid (hlive_any h x);by_cases h1:x≤16
 ·have d1:decide (x≤16)=true:=decide_eq_true h1;have ew:IntKind.i64.wrap x=x:=by rw [IntKind.wrap_i64]; omega
  clear h;go_enter Tryz.func129,Tryz.ntmps129;go_wp2_with fail;refine HL.out.mono ?_;rintro e w1 ⟨rfl,rfl⟩;go_wp2_with fail;go_ret;exact ⟨rfl,rfl⟩
 ·have d1:decide (x≤16)=false:=decide_eq_false h1;have hl:liveN S x=false:=by unfold liveN; rw [decide_eq_false (by omega)]; rfl
  rw [hl];clear h hl HL;go_enter Tryz.func129,Tryz.ntmps129;go_wp2_with fail;go_ret;exact ⟨rfl,rfl⟩
theorem hroot_any (h:IsHv w a S) {v:Nat} {G:GS} (hg:S.g v=some G):Calls Tryz.prog 64 #[ptr a.hb,.int .i64 v] w fun e w'=>e=.returned (.int .i64 G.root)∧w=w':=by
 obtain ⟨v1,v2,q1,q2,q3⟩:=h.gs v G hg;have HL:=hid (hlive_any h v);rw [liveN_some hg v1 v2] at HL;have HR:=hid (root_any (h.tab hg));rw [if_neg (by decide)] at HR;have xg:=h.cg (v:=v) (by omega);rw [gp_some hg] at xg;have x0:=q1.at 0 (v:=ptr (a.tB v)) rfl;have i0:(0:Int)≤v:=by omega
 have i1:(v:Int) < 17:=by omega
 clear h hg q1 q2 q3;go_enter Tryz.func64,Tryz.ntmps64;go_wp2_with fail;refine HL.out.mono ?_;rintro e w1 ⟨rfl,rfl⟩;go_wp2_with fail;refine HR.out.mono ?_;rintro e w1 ⟨rfl,rfl⟩;go_wp2_with fail;go_ret;exact ⟨rfl,rfl⟩
theorem root_range {S:HS} {t:Nat} (hi:HInv S t) {v:Nat} {G:GS} (hg:S.g v=some G):0≤G.root∧G.root < 4096:=by
 obtain ⟨_,_,tr,_⟩:=hi.gs v G hg;obtain ⟨⟨q1,q2⟩,_⟩:=hi.node3 hg tr.root;have:=hi.ps1;omega
theorem small_of {S:HS} {t:Nat} (hi:HInv S t) {v:Nat} {G:GS} (hg:S.g v=some G) (page:Int):0≤page→page < 65536→Small S.L page G.root:=fun h0 h1=>by
 obtain ⟨p,rfl⟩:=Int.eq_ofNat_of_zero_le h0;obtain ⟨_,_,tr,_⟩:=hi.gs v G hg;exact tr.small hi.ps1 p (by omega)
theorem hquery_any (h:IsHv w a S) {t:Nat} (hi:HInv S t) {v:Nat} {G:GS} (hg:S.g v=some G) (page:Int):Calls Tryz.prog 138 #[ptr a.hb,.int .i64 v,.int .i64 page] w fun e w'=>e=.returned (.tuple #[.int .i64 (queryN S.L G.root page).1,.int .i64 (queryN S.L G.root page).2.1,.int .i64 (queryN S.L G.root page).2.2])∧Only [a.mb,a.ms] w w'∧IsHv w' a S:=by
 obtain ⟨v1,v2,q1,q2,q3⟩:=h.gs v G hg;have HT:=hid (hthere_any h);have HL:=hid (hlive_any h v);rw [liveN_some hg v1 v2] at HL;have hr:=root_range hi hg;have HQ:=hid (nquery_any (h.tab hg) hr.1 hr.2 (small_of hi hg page));obtain ⟨Q,hQ⟩:∃ Q,queryN S.L G.root page=Q:=⟨_,rfl⟩;rw [hQ] at HQ ⊢;obtain ⟨Q1,Q2,Q3⟩:=Q;dsimp only at HQ ⊢;have H0:=hid h;have xg:=h.cg (v:=v) (by omega);rw [gp_some hg] at xg;have x0:=q1.at 0 (v:=ptr (a.tB v)) rfl;have i0:(0:Int)≤v:=by omega
 have i1:(v:Int) < 17:=by omega
 clear h hg q1 q2 q3 hQ hi hr;go_enter Tryz.func138,Tryz.ntmps138;go_wp2_with fail;refine HT.out.mono ?_;rintro e w1 ⟨rfl,rfl⟩;go_wp2_with fail;refine HL.out.mono ?_;rintro e w1 ⟨rfl,rfl⟩;go_wp2_with fail;refine HQ.out.mono ?_;rintro e w1 ⟨rfl,ho,ht⟩;have HO:=hid ho;have HT1:=hid (H0.out.same ho ht.mem);clear ho ht;go_wp2_with fail;go_ret3;exact ⟨rfl,HO.out,HT1.out⟩
theorem hquery_none (h:IsHv w a S) (vm page:Int) (hl:liveN S vm=false):Calls Tryz.prog 138 #[ptr a.hb,.int .i64 vm,.int .i64 page] w fun e w'=>e=.returned (.tuple #[.int .i64 0,.int .i64 0,.int .i64 4])∧w=w':=by
 have HT:=hid (hthere_any h);have HL:=hid (hlive_any h vm);rw [hl] at HL;clear h hl;go_enter Tryz.func138,Tryz.ntmps138;go_wp2_with fail;refine HT.out.mono ?_;rintro e w1 ⟨rfl,rfl⟩;go_wp2_with fail;refine HL.out.mono ?_;rintro e w1 ⟨rfl,rfl⟩;go_wp2_with fail;go_ret3;exact ⟨rfl,rfl⟩
def tkId (G:GS) (page:Int):Int:=match G.tk page with | some y=>y.1 | none=>0
theorem htaken_any (h:IsHv w a S) {v:Nat} {G:GS} (hg:S.g v=some G) (page:Int):Calls Tryz.prog 139 #[ptr a.hb,.int .i64 v,.int .i64 page] w fun e w'=>e=.returned (.tuple #[.int .i64 (tkId G page),.bool (G.tk page).isSome])∧Only [] w w':=by
 obtain ⟨v1,v2,q1,q2,q3⟩:=h.gs v G hg;have HL:=hid (hlive_any h v);rw [liveN_some hg v1 v2] at HL;have HM:=hid q3;have xg:=h.cg (v:=v) (by omega);rw [gp_some hg] at xg;have x1:=q1.at 1 (v:=.map (some (a.mR v))) rfl;have i0:(0:Int)≤v:=by omega
 have i1:(v:Int) < 17:=by omega
 unfold tkId;cases hk:G.tk page with
 | none=>
  have HK:=hid (show tkV G.tk page=none by unfold tkV; rw [hk]; rfl);clear h hg q1 q2 q3 hk;go_enter Tryz.func139,Tryz.ntmps139;go_wp2_with fail;refine HL.out.mono ?_;rintro e w1 ⟨rfl,rfl⟩;go_wp2_with (first
   | (with_reducible (refine wpList_lookOk Tryz.underlyingTook Tryz.underlying3 HM.out (by with_unfolding_all rfl) (by with_unfolding_all rfl) (z:=.agg #[.int .i64 0,.int .i64 0]) (by kernel_rfl) ?_); simp only [HK.out,Option.getD_none,Option.isSome_none])
   | fail)
  go_ret2;exact ⟨rfl,(Only.refl _ _).alloc _⟩
 | some y=>
  obtain ⟨id,x⟩:=y;have HK:=hid (show tkV G.tk page=some (.agg #[.int .i64 id,.int .i64 x]) by unfold tkV; rw [hk]; rfl);clear h hg q1 q2 q3 hk;go_enter Tryz.func139,Tryz.ntmps139;go_wp2_with fail;refine HL.out.mono ?_;rintro e w1 ⟨rfl,rfl⟩;go_wp2_with (first
   | (with_reducible (refine wpList_lookOk Tryz.underlyingTook Tryz.underlying3 HM.out (by with_unfolding_all rfl) (by with_unfolding_all rfl) (z:=.agg #[.int .i64 0,.int .i64 0]) (by kernel_rfl) ?_); simp only [HK.out,Option.getD_some,Option.isSome_some])
   | fail)
  go_ret2;exact ⟨rfl,(Only.refl _ _).alloc _⟩
theorem hmemory_any (h:IsHv w a S):Calls Tryz.prog 44 #[ptr a.hb] w fun e w'=>e=.returned (ptr a.mb)∧w=w':=by
 have HT:=hid (hthere_any h);have x0:=h.c0;clear h;go_enter Tryz.func44,Tryz.ntmps44;go_wp2_with fail;refine HT.out.mono ?_;rintro e w1 ⟨rfl,rfl⟩;go_wp2_with fail;go_ret;exact ⟨rfl,rfl⟩
theorem hframes_any (h:IsHv w a S):Calls Tryz.prog 69 #[ptr a.hb] w fun e w'=>∃ b s cap,e=.returned (ptr b)∧Only [] w w'∧PoolR w' b s cap S.ps:=by
 have HT:=hid (hthere_any h);have HC:=hid (pcopy_any h.pool);have x1:=h.c1;clear h;go_enter Tryz.func69,Tryz.ntmps69;go_wp2_with fail;refine HT.out.mono ?_;rintro e w1 ⟨rfl,rfl⟩;go_wp2_with fail;refine HC.out.mono ?_;rintro e w1 ⟨b,s,cap,rfl,ho,hp⟩;have H:=hid (And.intro ho hp);clear ho hp;go_wp2_with fail;go_ret;exact ⟨b,s,cap,rfl,H.out⟩
theorem hfree_any (h:IsHv w a S) (f:Int):Calls Tryz.prog 57 #[ptr a.hb,.int .i64 f] w fun e w'=>SaysI e∧Only [a.pr] w w'∧IsHv w' a { S with ps:=free1 S.ps f }:=by
 have HT:=hid (hthere_any h);have HO:=hid (of_any f h.pool);have H0:=hid h;have x1:=h.c1;obtain ⟨d,hd⟩:∃ d,(if inP S.ps f=true then dOf S.ps f else zD)=d:=⟨_,rfl⟩;rw [hd] at HO;unfold free1;cases hin:inP S.ps f
 ·rw [if_neg (by simp)];rw [hin] at HO;clear h hd hin;rw [dval_out] at HO;go_enter Tryz.func57,Tryz.ntmps57;go_wp2_with fail;refine HT.out.mono ?_;rintro e w1 ⟨rfl,rfl⟩;go_wp2_with fail;refine HO.out.mono ?_;rintro e w1 ⟨rfl,ho⟩;have HH:=hid (H0.out.quiet (ho.alloc (.cells #[.int .i64 d.k,.int .i64 d.o,.int .i64 d.r,.int .i64 d.e] 159)));have HO2:=hid ((ho.alloc (.cells #[.int .i64 d.k,.int .i64 d.o,.int .i64 d.r,.int .i64 d.e] 159)).sub (show [] ⊆ [a.pr] by simp));clear ho;go_wp2_with fail;go_ret;exact ⟨⟨_,rfl⟩,HO2.out,HH.out⟩
 ·rw [hin] at HO;rw [if_pos hin] at hd;have hkd:kd S.ps f=d.k:=by unfold kd; rw [hd]
  rw [dval_out] at HO;rw [hkd];by_cases h5:d.k=5
  ·rw [if_pos ⟨rfl,h5⟩];have d5:(d.k != 5)=false:=by rw [h5]; decide
   clear h hd hin hkd h5;go_enter Tryz.func57,Tryz.ntmps57;go_wp2_with fail;refine HT.out.mono ?_;rintro e w1 ⟨rfl,rfl⟩;go_wp2_with fail;refine HO.out.mono ?_;rintro e w1 ⟨rfl,ho⟩;have q1:=ho.alloc (.cells #[.int .i64 d.k,.int .i64 d.o,.int .i64 d.r,.int .i64 d.e] 159);have HH:=hid (H0.out.quiet q1);have HO2:=hid (q1.sub (show [] ⊆ [a.pr] by simp));have y1:=HH.out.c1;have HG:=hid (give_any f HH.out.pool);clear ho q1 x1;go_wp2_with fail;refine HG.out.mono ?_;rintro e w2 ⟨rfl,ho,hp⟩;have HH2:=hid (HH.out.frames ho hp);have HO3:=hid (HO2.out.trans ho);clear ho hp;go_wp2_with fail;go_ret;exact ⟨⟨_,rfl⟩,HO3.out,HH2.out⟩
  ·rw [if_neg (fun hh=>h5 hh.2)];have d5:(d.k != 5)=true:=by rw [bne,beq_eq_false_iff_ne.2 h5]; rfl
   clear h hd hin hkd h5;go_enter Tryz.func57,Tryz.ntmps57;go_wp2_with fail;refine HT.out.mono ?_;rintro e w1 ⟨rfl,rfl⟩;go_wp2_with fail;refine HO.out.mono ?_;rintro e w1 ⟨rfl,ho⟩;have HH:=hid (H0.out.quiet (ho.alloc (.cells #[.int .i64 d.k,.int .i64 d.o,.int .i64 d.r,.int .i64 d.e] 159)));have HO2:=hid ((ho.alloc (.cells #[.int .i64 d.k,.int .i64 d.o,.int .i64 d.r,.int .i64 d.e] 159)).sub (show [] ⊆ [a.pr] by simp));clear ho;go_wp2_with fail;go_ret;exact ⟨⟨_,rfl⟩,HO2.out,HH.out⟩
end
def HvTo (w:World) (a:HvP) (S:HS) (t:Nat) (vm:Int) (c:C) (e:Ending) (w':World):Prop:=
 ∃ a' S' v er,e=.returned (.agg #[.int .u64 v,.int .i64 er])∧Only a.fp w w'∧IsHv w' a' S'∧DoRel S t vm c S' v er∧a'.hb=a.hb∧∀ x ∈ a'.fp,x ∈ a.fp∨w.heap.size≤x
structure HvF (w:World) (a:HvP) (S:HS) (c:C) (cb rb:Nat) (W:World):Prop where
 h:IsHv W a S
 c:Blk W cb 30 #[.int .i64 c.k,.int .u64 c.a,.int .u64 c.b,.int .u64 c.c]
 r:Blk W rb 38 #[.int .u64 0,.int .i64 0]
 o:Only a.fp w W
 lc:w.heap.size≤cb
 lr:w.heap.size≤rb
 la:∀ x ∈ a.fp,x < w.heap.size
section
variable {w W W':World} {a:HvP} {S S':HS} {c:C} {cb rb:Nat} {t:Nat} {vm:Int}
theorem HvF.start (h:IsHv w a S) (c:C):HvF w a S c w.heap.size (w.heap.size+1) ((w.alloc (.cells #[.int .i64 c.k,.int .u64 c.a,.int .u64 c.b,.int .u64 c.c] 30)).alloc (.cells #[.int .u64 0,.int .i64 0] 38)):=
 ⟨h.quiet (((Only.refl [] w).alloc _).alloc _),(Blk.new w _ _).alloc _,Blk.new' _ _ _ (by simp),((Only.refl _ w).alloc _).alloc _,Nat.le_refl _,Nat.le_succ _,h.lim⟩
theorem HvF.quiet (f:HvF w a S c cb rb W) (o:Only [] W W'):HvF w a S c cb rb W':=
 ⟨f.h.quiet o,f.c.only o (by simp),f.r.only o (by simp),f.o.trans (o.sub (by simp)),f.lc,f.lr,f.la⟩
theorem HvF.drew (f:HvF w a S c cb rb W):HvF w a S c cb rb W.drew:=f.quiet (Only.refl [] W).drew
theorem HvF.step {T:List Nat} (f:HvF w a S c cb rb W) (o:Only T W W') (hT:T ⊆ a.fp) (h:IsHv W' a S'):HvF w a S' c cb rb W':=by
 have hc:cb ∉ T:=fun hm=>by have:=f.la _ (hT hm); have:=f.lc; omega
 have hr:rb ∉ T:=fun hm=>by have:=f.la _ (hT hm); have:=f.lr; omega
 exact ⟨h,f.c.only o hc,f.r.only o hr,f.o.trans (o.sub hT),f.lc,f.lr,f.la⟩
theorem fp_sub {l:List Nat} (h:∀ x ∈ l,x ∈ [a.hb,a.mb,a.ms,a.pb,a.pr,a.gb,a.gr,a.qb]):l ⊆ a.fp:=fun x hx=>List.mem_append_left _ (h x hx)
theorem HvF.out (f:HvF w a S c cb rb W) (v e:Value):IsHv ((W.setCell ⟨rb,0,none⟩ v).setCell ⟨rb,1,none⟩ e) a S∧Only a.fp w ((W.setCell ⟨rb,0,none⟩ v).setCell ⟨rb,1,none⟩ e)∧Blk ((W.setCell ⟨rb,0,none⟩ v).setCell ⟨rb,1,none⟩ e) rb 38 #[v,e]∧Blk ((W.setCell ⟨rb,0,none⟩ v).setCell ⟨rb,1,none⟩ e) cb 30 #[.int .i64 c.k,.int .u64 c.a,.int .u64 c.b,.int .u64 c.c]:=by
 have o:Only [rb] W ((W.setCell ⟨rb,0,none⟩ v).setCell ⟨rb,1,none⟩ e):=((Only.refl [rb] W).setCell (p:=⟨rb,0,none⟩) (.inl (.head _)) _).setCell (p:=⟨rb,1,none⟩) (.inl (.head _)) _;refine ⟨f.h.only o fun x hx hm=>?_,f.o.then o fun x hx=>.inr ?_,by simpa using (f.r.set 0 v).set 1 e,f.c.only o (by simpa using f.c.ne f.r (by decide))⟩
 ·have hx:x=rb:=by simpa using hx
  have:=f.la x hm;have:=f.lr;omega
 ·have hx:x=rb:=by simpa using hx
  have:=f.lr;omega
theorem DoRel.fail {v e:Int} (hi:HInv S t) (he:e≠0) (h1:c.k≠1) (h3:c.k≠3) (hv:0≤v∧v < 18446744073709551616):DoRel S t vm c S v e:=by
 refine ⟨hi.up (Nat.le_succ _),?_,hv,fun h=>absurd h he,fun h=>absurd h he,fun _ hc=>absurd (by rw [hc]) h1,fun hc=>absurd hc h3⟩;have:donD c v e=none:=by unfold donD; rw [if_neg (fun h=>he h.2)]
 rw [this];exact HStep.refl _ _ _
theorem DoRel.calm {v e:Int} (hi:HInv S t) (h1:c.k≠1) (h2:c.k≠2) (h3:c.k≠3) (h4:c.k≠4) (h5:c.k≠5) (h10:c.k≠10) (hv:0≤v∧v < 18446744073709551616):DoRel S t vm c S v e:=by
 refine ⟨hi.up (Nat.le_succ _),?_,hv,fun _ h=>absurd h h2,fun _ h=>by omega,fun _ hc=>absurd (by rw [hc]) h1,fun hc=>absurd hc h3⟩;have:donD c v e=none:=by unfold donD; rw [if_neg (fun h=>h3 h.1)]
 rw [this];exact HStep.refl _ _ _
theorem u64_range (n:Int):0≤IntKind.u64.wrap n∧IntKind.u64.wrap n < 18446744073709551616:=by
 rw [IntKind.wrap_u64];omega
theorem zero_range : (0:Int)≤0∧(0:Int) < 18446744073709551616:=by decide
theorem hbad_any (w:World) (e:Int):Calls Tryz.prog 66 #[.int .i64 e] w fun en w'=>en=.returned (.agg #[.int .u64 0,.int .i64 e])∧Only [] w w':=by
 go_enter Tryz.func66,Tryz.ntmps66;go_wp2_with fail;refine bodyPost_ret (v:=.agg #[.int .u64 0,.int .i64 e]) (by simp [results,Tryz.results66,go_sem]) rfl ⟨rfl,?_⟩;exact (Only.refl _ _).alloc _
theorem hother_any (h:IsHv w a S) (v x:Int) (hx:0≤x):Calls Tryz.prog 144 #[ptr a.hb,.int .i64 v,.int .u64 x] w fun e w'=>(e=.returned (.int .i64 1)∨e=.returned (.int .i64 4)∨(e=.returned (.int .i64 0)∧1≤x∧x≤16))∧w=w':=by
 have HA:=hid (halive_any h x hx);by_cases h1:x < 1
 ·have d1:decide (x < 1)=true:=decide_eq_true h1;clear h HA;go_enter Tryz.func144,Tryz.ntmps144;go_wp2_with fail;go_ret;exact ⟨.inl rfl,rfl⟩
 ·have d1:decide (x < 1)=false:=decide_eq_false h1;by_cases h2:16 < x
  ·have d2:decide (16 < x)=true:=decide_eq_true h2;clear h HA;go_enter Tryz.func144,Tryz.ntmps144;go_wp2_with fail;go_ret;exact ⟨.inl rfl,rfl⟩
  ·have d2:decide (16 < x)=false:=decide_eq_false h2;have ew:IntKind.i64.wrap x=x:=by rw [IntKind.wrap_i64]; omega
   have HX:=hid (show 1≤x∧x≤16 by omega);cases h3:(x == v)
   ·cases hl:liveN S x
    ·rw [hl] at HA;clear h hl h1 h2;go_enter Tryz.func144,Tryz.ntmps144;go_wp2_with fail;refine HA.out.mono ?_;rintro e w1 ⟨rfl,rfl⟩;go_wp2_with fail;go_ret;exact ⟨.inr (.inl rfl),rfl⟩
    ·rw [hl] at HA;clear h hl h1 h2;go_enter Tryz.func144,Tryz.ntmps144;go_wp2_with fail;refine HA.out.mono ?_;rintro e w1 ⟨rfl,rfl⟩;go_wp2_with fail;go_ret;exact ⟨.inr (.inr ⟨rfl,HX.out⟩),rfl⟩
   ·clear h HA h1 h2;go_enter Tryz.func144,Tryz.ntmps144;go_wp2_with fail;go_ret;exact ⟨.inl rfl,rfl⟩
end
section
variable {w:World} {a:HvP} {M:HS} {t:Nat} {vm:Int}
theorem dofail {c:C} {vm:Int} (hi:HInv M t) (h1:c.k≠1) (h3:c.k≠3):∀ e:Int,e≠0→DoRel M t vm c M 0 e:=fun _ he=>DoRel.fail hi he h1 h3 zero_range
theorem IsHv.upd (h:IsHv w a M) {v:Nat} {G G':GS} (hg:M.g v=some G) (hr:G'.root=G.root) (ht:G'.tk=G.tk) (T':List (Nat×Int×Int)):IsHv w a { L:=M.L,ps:=M.ps,g:=updG M.g v (some G'),T:=T' }:=by
 have key:∀ u G2,updG M.g v (some G') u=some G2→∃ G1,M.g u=some G1∧G2.root=G1.root∧G2.tk=G1.tk:=fun u G2 h2=>by
  by_cases e:u=v
  ·subst e;rw [updG_same] at h2;cases h2;exact ⟨G,hg,hr,ht⟩
  ·rw [updG_far _ _ e] at h2;exact ⟨G2,h2,rfl,rfl⟩
 obtain ⟨cs,h1,h2,h3,h4,h5,h6,h7⟩:=h.obj;refine ⟨⟨cs,h1,h2,h3,h4,h5,h6,fun u hu=>?_⟩,h.mem,h.pool,h.gr,h.po,fun u G2 hg2=>?_,fun u u' G1 G2 e1 e2=>?_,h.lim⟩
 ·rw [h7 u hu];unfold HvP.gp;dsimp only;by_cases e:u=v
  ·subst e;rw [updG_same,hg]
  ·rw [updG_far _ _ e]
 ·obtain ⟨G1,e1,e2,e3⟩:=key u G2 hg2;obtain ⟨v1,v2,q1,q2,q3⟩:=h.gs u G1 e1;rw [← e2] at q2;rw [← e3] at q3;exact ⟨v1,v2,q1,q2,q3⟩
 ·obtain ⟨G3,e3,_⟩:=key u G1 e1;obtain ⟨G4,e4,_⟩:=key u' G2 e2;exact h.inj u u' G3 G4 e3 e4
theorem prot_rel {c:C} (hi:HInv M t) (hk:c.k=5) {v:Nat} {G:GS} (hg:M.g v=some G) (h0:0≤c.a) (h1:c.a < 65536) {L':List Int} {er:Int} (hP:protN M.L G.root c.a c.b=(L',er)) :
 ∃ M1,(∀ (W:World) a,IsHv W a { M with L:=L' }→IsHv W a M1)∧DoRel M t v c M1 0 er∧∃ G1,M1.g v=some G1:=by
 by_cases he:er=0
 ·obtain ⟨G',i1,s1,e1,e2⟩:=protect_step (cov:=covD (v:Int) c er) (dead:=deadD c er) hi hg (page:=c.a) (ri:=c.b) (by rw [hP]; exact he);rw [hP] at i1 s1;obtain ⟨v1,v2,_,_⟩:=hi.gs v G hg;have hd:donD c 0 er=none:=by unfold donD; rw [if_neg (fun h=>by omega)]
  refine ⟨{ L:=L',ps:=M.ps,g:=updG M.g v (some G'),T:=M.T },fun W a h=>h.upd (M:={ M with L:=L' }) hg e2 e1 M.T,⟨i1.up (Nat.le_succ _),by rw [hd]; exact s1,zero_range,fun _ h=>by omega,fun _ _=>⟨by omega,by omega,h0,h1⟩,fun _ h=>?_,fun h=>by omega⟩,G',updG_same _ _ _⟩;rw [h] at hk;cases hk
 ·have hL:L'=M.L:=by
   unfold protN at hP;split at hP
   ·split at hP
    ·simp only [Prod.mk.injEq] at hP;exact absurd hP.2.symm he
    ·simp only [Prod.mk.injEq] at hP;exact hP.1.symm
   ·simp only [Prod.mk.injEq] at hP;exact hP.1.symm
  subst hL;exact ⟨M,fun W a h=>h,dofail hi (by omega) (by omega) er he,G,hg⟩
theorem hprotect_any (h:IsHv w a M) (hi:HInv M t) (c:C) (hk:c.k=5) (hf:c.fits) (v:Nat) {G:GS} (hg:M.g v=some G) :
 Calls Tryz.prog 95 #[ptr a.hb,.int .i64 v,c.val] w (HvTo w a M t v c):=by
 have hA:=hf.1;have hB:=hf.2.1;have HRel:=hid (dofail (vm:=(v:Int)) hi (show c.k≠1 by omega) (show c.k≠3 by omega));have HK:=hid hk;clear hf hk;obtain ⟨k,A,B,D⟩:=c;obtain ⟨W0,hW0⟩:∃ W0,(w.alloc (.cells #[.int .i64 k,.int .u64 A,.int .u64 B,.int .u64 D] 30)).alloc (.cells #[.int .u64 0,.int .i64 0] 38)=W0:=⟨_,rfl⟩;have hF:=HvF.start h ⟨k,A,B,D⟩;dsimp only at hF;rw [hW0] at hF;have HF0:=hid hF;have HW0:=hid hW0;have hy:=hF.c;dsimp only at hy;have y0:=hy.at 0 (v:=.int .i64 k) rfl;have y1:=hy.at 1 (v:=.int .u64 A) rfl;have y2:=hy.at 2 (v:=.int .u64 B) rfl;have y3:=hy.at 3 (v:=.int .u64 D) rfl;have HBAD:=hid (fun W e=>hbad_any W e);clear hF hy hW0;rw [c_out];have hA:0≤A:=hA;have hB:0≤B:=hB;have HG:=hid hg;have HI:=hid hi;have HTK:=hid (htaken_any HF0.out.h hg A);clear h hg hi;by_cases h4:65536≤A
 ·have d4:decide (65536≤A)=true:=decide_eq_true h4;go_enter Tryz.func95,Tryz.ntmps95;go_upto_region 1 with fail;rw [HW0.out];go_wp2_with fail;refine (HBAD.out _ _).mono ?_;rintro en wz ⟨rfl,hoz⟩;have HFZ:=hid (HF0.out.quiet hoz);clear hoz;have hr:=HFZ.out.r;have r0:=hr.at 0 (v:=.int .u64 0) rfl;have r1:=hr.at 1 (v:=.int .i64 0) rfl;have g0:=hr.frozen 0;have g1:=hr.frozen 1;go_wp2_with fail;obtain ⟨z1,z2,z3,_⟩:=HFZ.out.out (.int .u64 (0)) (.int .i64 (2));have q0:=z3.at 0 (v:=.int .u64 (0)) rfl;have q1:=z3.at 1 (v:=.int .i64 (2)) rfl;refine bodyPost_ret (v:=.agg #[.int .u64 (0),.int .i64 (2)]) (by simp [results,Tryz.results95,go_sem,q0,q1]) rfl ⟨a,_,0,2,rfl,z2,z1,HRel.out _ (by decide),rfl,fun x hx=>.inl hx⟩
 have d4:decide (65536≤A)=false:=decide_eq_false h4;have ew:IntKind.i64.wrap A=A:=by rw [IntKind.wrap_i64]; omega
 by_cases h5:B < 1
 ·have d5:decide (B < 1)=true:=decide_eq_true h5;go_enter Tryz.func95,Tryz.ntmps95;go_upto_region 1 with fail;rw [HW0.out];go_wp2_with fail;refine (HBAD.out _ _).mono ?_;rintro en wz ⟨rfl,hoz⟩;have HFZ:=hid (HF0.out.quiet hoz);clear hoz;have hr:=HFZ.out.r;have r0:=hr.at 0 (v:=.int .u64 0) rfl;have r1:=hr.at 1 (v:=.int .i64 0) rfl;have g0:=hr.frozen 0;have g1:=hr.frozen 1;go_wp2_with fail;obtain ⟨z1,z2,z3,_⟩:=HFZ.out.out (.int .u64 (0)) (.int .i64 (7));have q0:=z3.at 0 (v:=.int .u64 (0)) rfl;have q1:=z3.at 1 (v:=.int .i64 (7)) rfl;refine bodyPost_ret (v:=.agg #[.int .u64 (0),.int .i64 (7)]) (by simp [results,Tryz.results95,go_sem,q0,q1]) rfl ⟨a,_,0,7,rfl,z2,z1,HRel.out _ (by decide),rfl,fun x hx=>.inl hx⟩
 have d5:decide (B < 1)=false:=decide_eq_false h5;by_cases h6:7 < B
 ·have d6:decide (7 < B)=true:=decide_eq_true h6;go_enter Tryz.func95,Tryz.ntmps95;go_upto_region 1 with fail;rw [HW0.out];go_wp2_with fail;refine (HBAD.out _ _).mono ?_;rintro en wz ⟨rfl,hoz⟩;have HFZ:=hid (HF0.out.quiet hoz);clear hoz;have hr:=HFZ.out.r;have r0:=hr.at 0 (v:=.int .u64 0) rfl;have r1:=hr.at 1 (v:=.int .i64 0) rfl;have g0:=hr.frozen 0;have g1:=hr.frozen 1;go_wp2_with fail;obtain ⟨z1,z2,z3,_⟩:=HFZ.out.out (.int .u64 (0)) (.int .i64 (7));have q0:=z3.at 0 (v:=.int .u64 (0)) rfl;have q1:=z3.at 1 (v:=.int .i64 (7)) rfl;refine bodyPost_ret (v:=.agg #[.int .u64 (0),.int .i64 (7)]) (by simp [results,Tryz.results95,go_sem,q0,q1]) rfl ⟨a,_,0,7,rfl,z2,z1,HRel.out _ (by decide),rfl,fun x hx=>.inl hx⟩
 have d6:decide (7 < B)=false:=decide_eq_false h6;have ew2:IntKind.i64.wrap B=B:=by rw [IntKind.wrap_i64]; omega
 go_enter Tryz.func95,Tryz.ntmps95;go_upto_region 1 with fail;rw [HW0.out];go_wp2_with fail;refine HTK.out.mono ?_;rintro e w1 ⟨rfl,ho⟩;have HF1:=hid (HF0.out.quiet ho);have hy:=HF1.out.c;dsimp only at hy;have u0:=hy.at 0 (v:=.int .i64 k) rfl;have u1:=hy.at 1 (v:=.int .u64 A) rfl;have u2:=hy.at 2 (v:=.int .u64 B) rfl;have u3:=hy.at 3 (v:=.int .u64 D) rfl;clear ho hy y0 y1 y2 y3;obtain ⟨⟨L',er⟩,hP⟩:∃ P,protN M.L G.root A B=P:=⟨_,rfl⟩;obtain ⟨M1,hM1,hrel,G1,hG1⟩:=prot_rel (c:=⟨k,A,B,D⟩) HI.out HK.out HG.out hA (show A < 65536 by omega) hP;have HP:=hid hP;have HM1:=hid hM1;have HREL:=hid hrel;have hvr:=HF1.out.h.gs v G HG.out;have hv1:=hvr.1;have hv2:=hvr.2.1;have HSF:=hid (fun (W:World) (b:HvP) (hh:IsHv W b M1) (hc:Blk W w.heap.size 30 #[.int .i64 k,.int .u64 A,.int .u64 B,.int .u64 D])=>show W.cell? ⟨b.hb,4+v,none⟩=some (ptr (b.gB v))∧W.cell? ⟨b.gB v,0,none⟩=some (ptr (b.tB v))∧W.cell? ⟨w.heap.size,1,none⟩=some (.int .u64 A)∧W.cell? ⟨w.heap.size,2,none⟩=some (.int .u64 B) from
  ⟨by have:=hh.cg (v:=v) (by omega); rw [gp_some hG1] at this; exact this,(hh.gs v G1 hG1).2.2.1.at 0 rfl,hc.at 1 rfl,hc.at 2 rfl⟩)
 clear hP hM1 hrel hvr;cases htk:(G.tk A).isSome
 case false=>
  go_upto_region 10 with fail;have HF3:=hid (HF1.out.drew);have hgx:=HF3.out.h.gs v G HG.out;have xg:=HF1.out.h.cg (v:=v) (by omega);rw [gp_some HG.out] at xg;have x1:=(HF1.out.h.gs v G HG.out).2.2.1.at 0 (v:=ptr (a.tB v)) rfl;have i0:(0:Int)≤v:=by omega
  have i1:(v:Int) < 17:=by omega
  have HPR:=hid (nprot_any (page:=A) (HF3.out.h.tab HG.out) (root_range HI.out HG.out).1 (root_range HI.out HG.out).2 B (small_of HI.out HG.out A));rw [HP.out] at HPR;clear hgx;refine pBegin rfl ?_;obtain ⟨S,hS⟩:∃ S:World→Prop,S=fun w'=>w'.cell? ⟨a.hb,4+v,none⟩=some (ptr (a.gB v))∧w'.cell? ⟨a.gB v,0,none⟩=some (ptr (a.tB v))∧w'.cell? ⟨w.heap.size,1,none⟩=some (.int .u64 A)∧w'.cell? ⟨w.heap.size,2,none⟩=some (.int .u64 B):=⟨_,rfl⟩;have HS:=hid hS;clear hS;refine pPhaseH S 99 (by rw [HS.out]; exact ⟨xg,x1,u1,u2⟩) fun HSW=>?_;refine pPure (i:=0) rfl (by kernel_rfl) rfl HSW.out ?_;apply Exists.intro;refine ⟨fun w'=>?_,?_⟩
  ·go_simp;with_reducible rfl
  go_simp;refine pPure (i:=1) rfl (by kernel_rfl) rfl HSW.out ?_;apply Exists.intro;refine ⟨fun w'=>?_,?_⟩
  ·go_simp;with_reducible rfl
  go_simp;refine pPure (i:=2) rfl (by kernel_rfl) rfl HSW.out ?_;apply Exists.intro;refine ⟨fun w'=>?_,?_⟩
  ·go_simp;with_reducible rfl
  go_simp;refine pPure (i:=3) rfl (by kernel_rfl) rfl HSW.out ?_;apply Exists.intro;refine ⟨fun w'=>?_,?_⟩
  ·go_simp;with_reducible rfl
  go_simp;refine pPure (i:=4) rfl (by kernel_rfl) rfl HSW.out ?_;apply Exists.intro;refine ⟨fun w'=>?_,?_⟩
  ·go_simp;with_reducible rfl
  go_simp;refine pTake (i:=5) rfl (by kernel_rfl) rfl HSW.out ?_;apply Exists.intro;refine ⟨fun w' hw'=>?_,?_⟩
  ·rw [HS.out] at hw';obtain ⟨p0,p1,p2,p3⟩:=hw';go_simp;with_reducible rfl
  go_simp;refine pPure (i:=6) rfl (by kernel_rfl) rfl HSW.out ?_;apply Exists.intro;refine ⟨fun w'=>?_,?_⟩
  ·go_simp;with_reducible rfl
  go_simp;refine pPure (i:=7) rfl (by kernel_rfl) rfl HSW.out ?_;apply Exists.intro;refine ⟨fun w'=>?_,?_⟩
  ·go_simp;with_reducible rfl
  go_simp;refine pTake (i:=8) rfl (by kernel_rfl) rfl HSW.out ?_;apply Exists.intro;refine ⟨fun w' hw'=>?_,?_⟩
  ·rw [HS.out] at hw';obtain ⟨p0,p1,p2,p3⟩:=hw';go_simp;with_reducible rfl
  go_simp;refine pPure (i:=9) rfl (by kernel_rfl) rfl HSW.out ?_;apply Exists.intro;refine ⟨fun w'=>?_,?_⟩
  ·go_simp;with_reducible rfl
  go_simp;refine pTake (i:=10) rfl (by kernel_rfl) rfl HSW.out ?_;apply Exists.intro;refine ⟨fun w' hw'=>?_,?_⟩
  ·rw [HS.out] at hw';obtain ⟨p0,p1,p2,p3⟩:=hw';go_simp;with_reducible rfl
  go_simp;refine pPure (i:=11) rfl (by kernel_rfl) rfl HSW.out ?_;apply Exists.intro;refine ⟨fun w'=>?_,?_⟩
  ·go_simp;with_reducible rfl
  go_simp;refine pPure (i:=12) rfl (by kernel_rfl) rfl HSW.out ?_;apply Exists.intro;refine ⟨fun w'=>?_,?_⟩
  ·go_simp;with_reducible rfl
  go_simp;refine pTake (i:=13) rfl (by kernel_rfl) rfl HSW.out ?_;apply Exists.intro;refine ⟨fun w' hw'=>?_,?_⟩
  ·rw [HS.out] at hw';obtain ⟨p0,p1,p2,p3⟩:=hw';go_simp;with_reducible rfl
  go_simp;refine pPure (i:=14) rfl (by kernel_rfl) rfl HSW.out ?_;apply Exists.intro;refine ⟨fun w'=>?_,?_⟩
  ·go_simp;with_reducible rfl
  go_simp;refine pStep (i:=15) rfl (by kernel_rfl) (by kernel_rfl) rfl fun K hK=>?_;go_simp;go_at_call 142;refine HPR.out.mono ?_;rintro e w5 ⟨rfl,ho,ht⟩;have HF4:=hid (HF3.out.step ho (fp_sub (by simp)) (HM1.out _ _ (HF3.out.h.words ho ht.mem)));have HSW2:=hid (show S w5 by rw [HS.out]; exact HSF.out w5 _ HF4.out.h HF4.out.c);refine hK _ _ HSW2.out ?_;clear hK K HSW ho ht;refine pStep (i:=16) rfl (by kernel_rfl) (by kernel_rfl) rfl fun K hK=>?_;go_simp;go_at_call 66;refine (HBAD.out _ _).mono ?_;rintro en wz ⟨rfl,hoz⟩;have HFZ:=hid (HF4.out.quiet hoz);have hsz:=HSF.out wz _ HFZ.out.h HFZ.out.c;have HSWZ:=hid (show S wz by rw [HS.out]; exact hsz);refine hK _ _ HSWZ.out ?_;clear hK K hoz hsz;have hr:=HFZ.out.r;have r0:=hr.at 0 (v:=.int .u64 0) rfl;have r1:=hr.at 1 (v:=.int .i64 0) rfl;have g0:=hr.frozen 0;have g1:=hr.frozen 1;refine pStep (i:=17) rfl (by kernel_rfl) (by kernel_rfl) rfl fun K hK=>?_;go_simp;obtain ⟨z1,z2,z3,z4⟩:=HFZ.out.out (.int .u64 0) (.int .i64 (er));refine hK _ _ (by rw [HS.out]; exact HSF.out _ _ z1 z4) ?_;clear hK K;refine pEnd (by kernel_rfl) ?_;have q0:=z3.at 0 (v:=.int .u64 0) rfl;have q1:=z3.at 1 (v:=.int .i64 (er)) rfl;go_wp2_with fail;refine bodyPost_ret (v:=.agg #[.int .u64 0,.int .i64 (er)]) (by simp [results,Tryz.results95,go_sem,q0,q1]) rfl ⟨a,_,0,er,rfl,z2,z1,HREL.out,rfl,fun x hx=>.inl hx⟩
 cases hbt:decide (0 < bits BinOp.and IntKind.u64 B 2)
 case false=>
  go_upto_region 10 with fail;have HF3:=hid (HF1.out.drew);have hgx:=HF3.out.h.gs v G HG.out;have xg:=HF1.out.h.cg (v:=v) (by omega);rw [gp_some HG.out] at xg;have x1:=(HF1.out.h.gs v G HG.out).2.2.1.at 0 (v:=ptr (a.tB v)) rfl;have i0:(0:Int)≤v:=by omega
  have i1:(v:Int) < 17:=by omega
  have HPR:=hid (nprot_any (page:=A) (HF3.out.h.tab HG.out) (root_range HI.out HG.out).1 (root_range HI.out HG.out).2 B (small_of HI.out HG.out A));rw [HP.out] at HPR;clear hgx;refine pBegin rfl ?_;obtain ⟨S,hS⟩:∃ S:World→Prop,S=fun w'=>w'.cell? ⟨a.hb,4+v,none⟩=some (ptr (a.gB v))∧w'.cell? ⟨a.gB v,0,none⟩=some (ptr (a.tB v))∧w'.cell? ⟨w.heap.size,1,none⟩=some (.int .u64 A)∧w'.cell? ⟨w.heap.size,2,none⟩=some (.int .u64 B):=⟨_,rfl⟩;have HS:=hid hS;clear hS;refine pPhaseH S 99 (by rw [HS.out]; exact ⟨xg,x1,u1,u2⟩) fun HSW=>?_;refine pPure (i:=0) rfl (by kernel_rfl) rfl HSW.out ?_;apply Exists.intro;refine ⟨fun w'=>?_,?_⟩
  ·go_simp;with_reducible rfl
  go_simp;refine pPure (i:=1) rfl (by kernel_rfl) rfl HSW.out ?_;apply Exists.intro;refine ⟨fun w'=>?_,?_⟩
  ·go_simp;with_reducible rfl
  go_simp;refine pPure (i:=2) rfl (by kernel_rfl) rfl HSW.out ?_;apply Exists.intro;refine ⟨fun w'=>?_,?_⟩
  ·go_simp;with_reducible rfl
  go_simp;refine pPure (i:=3) rfl (by kernel_rfl) rfl HSW.out ?_;apply Exists.intro;refine ⟨fun w'=>?_,?_⟩
  ·go_simp;with_reducible rfl
  go_simp;refine pPure (i:=4) rfl (by kernel_rfl) rfl HSW.out ?_;apply Exists.intro;refine ⟨fun w'=>?_,?_⟩
  ·go_simp;with_reducible rfl
  go_simp;refine pTake (i:=5) rfl (by kernel_rfl) rfl HSW.out ?_;apply Exists.intro;refine ⟨fun w' hw'=>?_,?_⟩
  ·rw [HS.out] at hw';obtain ⟨p0,p1,p2,p3⟩:=hw';go_simp;with_reducible rfl
  go_simp;refine pPure (i:=6) rfl (by kernel_rfl) rfl HSW.out ?_;apply Exists.intro;refine ⟨fun w'=>?_,?_⟩
  ·go_simp;with_reducible rfl
  go_simp;refine pPure (i:=7) rfl (by kernel_rfl) rfl HSW.out ?_;apply Exists.intro;refine ⟨fun w'=>?_,?_⟩
  ·go_simp;with_reducible rfl
  go_simp;refine pTake (i:=8) rfl (by kernel_rfl) rfl HSW.out ?_;apply Exists.intro;refine ⟨fun w' hw'=>?_,?_⟩
  ·rw [HS.out] at hw';obtain ⟨p0,p1,p2,p3⟩:=hw';go_simp;with_reducible rfl
  go_simp;refine pPure (i:=9) rfl (by kernel_rfl) rfl HSW.out ?_;apply Exists.intro;refine ⟨fun w'=>?_,?_⟩
  ·go_simp;with_reducible rfl
  go_simp;refine pTake (i:=10) rfl (by kernel_rfl) rfl HSW.out ?_;apply Exists.intro;refine ⟨fun w' hw'=>?_,?_⟩
  ·rw [HS.out] at hw';obtain ⟨p0,p1,p2,p3⟩:=hw';go_simp;with_reducible rfl
  go_simp;refine pPure (i:=11) rfl (by kernel_rfl) rfl HSW.out ?_;apply Exists.intro;refine ⟨fun w'=>?_,?_⟩
  ·go_simp;with_reducible rfl
  go_simp;refine pPure (i:=12) rfl (by kernel_rfl) rfl HSW.out ?_;apply Exists.intro;refine ⟨fun w'=>?_,?_⟩
  ·go_simp;with_reducible rfl
  go_simp;refine pTake (i:=13) rfl (by kernel_rfl) rfl HSW.out ?_;apply Exists.intro;refine ⟨fun w' hw'=>?_,?_⟩
  ·rw [HS.out] at hw';obtain ⟨p0,p1,p2,p3⟩:=hw';go_simp;with_reducible rfl
  go_simp;refine pPure (i:=14) rfl (by kernel_rfl) rfl HSW.out ?_;apply Exists.intro;refine ⟨fun w'=>?_,?_⟩
  ·go_simp;with_reducible rfl
  go_simp;refine pStep (i:=15) rfl (by kernel_rfl) (by kernel_rfl) rfl fun K hK=>?_;go_simp;go_at_call 142;refine HPR.out.mono ?_;rintro e w5 ⟨rfl,ho,ht⟩;have HF4:=hid (HF3.out.step ho (fp_sub (by simp)) (HM1.out _ _ (HF3.out.h.words ho ht.mem)));have HSW2:=hid (show S w5 by rw [HS.out]; exact HSF.out w5 _ HF4.out.h HF4.out.c);refine hK _ _ HSW2.out ?_;clear hK K HSW ho ht;refine pStep (i:=16) rfl (by kernel_rfl) (by kernel_rfl) rfl fun K hK=>?_;go_simp;go_at_call 66;refine (HBAD.out _ _).mono ?_;rintro en wz ⟨rfl,hoz⟩;have HFZ:=hid (HF4.out.quiet hoz);have hsz:=HSF.out wz _ HFZ.out.h HFZ.out.c;have HSWZ:=hid (show S wz by rw [HS.out]; exact hsz);refine hK _ _ HSWZ.out ?_;clear hK K hoz hsz;have hr:=HFZ.out.r;have r0:=hr.at 0 (v:=.int .u64 0) rfl;have r1:=hr.at 1 (v:=.int .i64 0) rfl;have g0:=hr.frozen 0;have g1:=hr.frozen 1;refine pStep (i:=17) rfl (by kernel_rfl) (by kernel_rfl) rfl fun K hK=>?_;go_simp;obtain ⟨z1,z2,z3,z4⟩:=HFZ.out.out (.int .u64 0) (.int .i64 (er));refine hK _ _ (by rw [HS.out]; exact HSF.out _ _ z1 z4) ?_;clear hK K;refine pEnd (by kernel_rfl) ?_;have q0:=z3.at 0 (v:=.int .u64 0) rfl;have q1:=z3.at 1 (v:=.int .i64 (er)) rfl;go_wp2_with fail;refine bodyPost_ret (v:=.agg #[.int .u64 0,.int .i64 (er)]) (by simp [results,Tryz.results95,go_sem,q0,q1]) rfl ⟨a,_,0,er,rfl,z2,z1,HREL.out,rfl,fun x hx=>.inl hx⟩
 have x2:=HF1.out.h.c2;obtain ⟨gs,hgs⟩:=HF1.out.h.gr;have HOF:=hid (gof_any hgs (tkId G A));clear hgs;go_wp2_with fail;refine HOF.out.mono ?_;rintro e w2 ⟨⟨⟨go,gp,gt,gw,gu⟩,ok,rfl⟩,ho⟩;rw [gr_out];have q2:=ho.alloc (.cells #[.int .i64 go,.int .i64 gp,.int .i64 gt,.bool gw,.int .i64 gu] 222);have HF2:=hid (HF1.out.quiet q2);have hy:=HF2.out.c;dsimp only at hy;clear u0 u1 u2 u3 ho q2 x2;have u0:=hy.at 0 (v:=.int .i64 k) rfl;have u1:=hy.at 1 (v:=.int .u64 A) rfl;have u2:=hy.at 2 (v:=.int .u64 B) rfl;have u3:=hy.at 3 (v:=.int .u64 D) rfl;clear hy;cases gw
 case false=>
  go_wp2_with fail;refine (HBAD.out _ _).mono ?_;rintro en wz ⟨rfl,hoz⟩;have HFZ:=hid (HF2.out.quiet hoz);clear hoz;have hr:=HFZ.out.r;have r0:=hr.at 0 (v:=.int .u64 0) rfl;have r1:=hr.at 1 (v:=.int .i64 0) rfl;have g0:=hr.frozen 0;have g1:=hr.frozen 1;go_wp2_with fail;obtain ⟨z1,z2,z3,_⟩:=HFZ.out.out (.int .u64 (0)) (.int .i64 (7));have q0:=z3.at 0 (v:=.int .u64 (0)) rfl;have q1:=z3.at 1 (v:=.int .i64 (7)) rfl;refine bodyPost_ret (v:=.agg #[.int .u64 (0),.int .i64 (7)]) (by simp [results,Tryz.results95,go_sem,q0,q1]) rfl ⟨a,_,0,7,rfl,z2,z1,HRel.out _ (by decide),rfl,fun x hx=>.inl hx⟩
 go_upto_region 10 with fail;have HF3:=hid (HF2.out.drew);have hgx:=HF3.out.h.gs v G HG.out;have xg:=HF2.out.h.cg (v:=v) (by omega);rw [gp_some HG.out] at xg;have x1:=(HF2.out.h.gs v G HG.out).2.2.1.at 0 (v:=ptr (a.tB v)) rfl;have i0:(0:Int)≤v:=by omega
 have i1:(v:Int) < 17:=by omega
 have HPR:=hid (nprot_any (page:=A) (HF3.out.h.tab HG.out) (root_range HI.out HG.out).1 (root_range HI.out HG.out).2 B (small_of HI.out HG.out A));rw [HP.out] at HPR;clear hgx;refine pBegin rfl ?_;obtain ⟨S,hS⟩:∃ S:World→Prop,S=fun w'=>w'.cell? ⟨a.hb,4+v,none⟩=some (ptr (a.gB v))∧w'.cell? ⟨a.gB v,0,none⟩=some (ptr (a.tB v))∧w'.cell? ⟨w.heap.size,1,none⟩=some (.int .u64 A)∧w'.cell? ⟨w.heap.size,2,none⟩=some (.int .u64 B):=⟨_,rfl⟩;have HS:=hid hS;clear hS;refine pPhaseH S 99 (by rw [HS.out]; exact ⟨xg,x1,u1,u2⟩) fun HSW=>?_;refine pPure (i:=0) rfl (by kernel_rfl) rfl HSW.out ?_;apply Exists.intro;refine ⟨fun w'=>?_,?_⟩
 ·go_simp;with_reducible rfl
 go_simp;refine pPure (i:=1) rfl (by kernel_rfl) rfl HSW.out ?_;apply Exists.intro;refine ⟨fun w'=>?_,?_⟩
 ·go_simp;with_reducible rfl
 go_simp;refine pPure (i:=2) rfl (by kernel_rfl) rfl HSW.out ?_;apply Exists.intro;refine ⟨fun w'=>?_,?_⟩
 ·go_simp;with_reducible rfl
 go_simp;refine pPure (i:=3) rfl (by kernel_rfl) rfl HSW.out ?_;apply Exists.intro;refine ⟨fun w'=>?_,?_⟩
 ·go_simp;with_reducible rfl
 go_simp;refine pPure (i:=4) rfl (by kernel_rfl) rfl HSW.out ?_;apply Exists.intro;refine ⟨fun w'=>?_,?_⟩
 ·go_simp;with_reducible rfl
 go_simp;refine pTake (i:=5) rfl (by kernel_rfl) rfl HSW.out ?_;apply Exists.intro;refine ⟨fun w' hw'=>?_,?_⟩
 ·rw [HS.out] at hw';obtain ⟨p0,p1,p2,p3⟩:=hw';go_simp;with_reducible rfl
 go_simp;refine pPure (i:=6) rfl (by kernel_rfl) rfl HSW.out ?_;apply Exists.intro;refine ⟨fun w'=>?_,?_⟩
 ·go_simp;with_reducible rfl
 go_simp;refine pPure (i:=7) rfl (by kernel_rfl) rfl HSW.out ?_;apply Exists.intro;refine ⟨fun w'=>?_,?_⟩
 ·go_simp;with_reducible rfl
 go_simp;refine pTake (i:=8) rfl (by kernel_rfl) rfl HSW.out ?_;apply Exists.intro;refine ⟨fun w' hw'=>?_,?_⟩
 ·rw [HS.out] at hw';obtain ⟨p0,p1,p2,p3⟩:=hw';go_simp;with_reducible rfl
 go_simp;refine pPure (i:=9) rfl (by kernel_rfl) rfl HSW.out ?_;apply Exists.intro;refine ⟨fun w'=>?_,?_⟩
 ·go_simp;with_reducible rfl
 go_simp;refine pTake (i:=10) rfl (by kernel_rfl) rfl HSW.out ?_;apply Exists.intro;refine ⟨fun w' hw'=>?_,?_⟩
 ·rw [HS.out] at hw';obtain ⟨p0,p1,p2,p3⟩:=hw';go_simp;with_reducible rfl
 go_simp;refine pPure (i:=11) rfl (by kernel_rfl) rfl HSW.out ?_;apply Exists.intro;refine ⟨fun w'=>?_,?_⟩
 ·go_simp;with_reducible rfl
 go_simp;refine pPure (i:=12) rfl (by kernel_rfl) rfl HSW.out ?_;apply Exists.intro;refine ⟨fun w'=>?_,?_⟩
 ·go_simp;with_reducible rfl
 go_simp;refine pTake (i:=13) rfl (by kernel_rfl) rfl HSW.out ?_;apply Exists.intro;refine ⟨fun w' hw'=>?_,?_⟩
 ·rw [HS.out] at hw';obtain ⟨p0,p1,p2,p3⟩:=hw';go_simp;with_reducible rfl
 go_simp;refine pPure (i:=14) rfl (by kernel_rfl) rfl HSW.out ?_;apply Exists.intro;refine ⟨fun w'=>?_,?_⟩
 ·go_simp;with_reducible rfl
 go_simp;refine pStep (i:=15) rfl (by kernel_rfl) (by kernel_rfl) rfl fun K hK=>?_;go_simp;go_at_call 142;refine HPR.out.mono ?_;rintro e w5 ⟨rfl,ho,ht⟩;have HF4:=hid (HF3.out.step ho (fp_sub (by simp)) (HM1.out _ _ (HF3.out.h.words ho ht.mem)));have HSW2:=hid (show S w5 by rw [HS.out]; exact HSF.out w5 _ HF4.out.h HF4.out.c);refine hK _ _ HSW2.out ?_;clear hK K HSW ho ht;refine pStep (i:=16) rfl (by kernel_rfl) (by kernel_rfl) rfl fun K hK=>?_;go_simp;go_at_call 66;refine (HBAD.out _ _).mono ?_;rintro en wz ⟨rfl,hoz⟩;have HFZ:=hid (HF4.out.quiet hoz);have hsz:=HSF.out wz _ HFZ.out.h HFZ.out.c;have HSWZ:=hid (show S wz by rw [HS.out]; exact hsz);refine hK _ _ HSWZ.out ?_;clear hK K hoz hsz;have hr:=HFZ.out.r;have r0:=hr.at 0 (v:=.int .u64 0) rfl;have r1:=hr.at 1 (v:=.int .i64 0) rfl;have g0:=hr.frozen 0;have g1:=hr.frozen 1;refine pStep (i:=17) rfl (by kernel_rfl) (by kernel_rfl) rfl fun K hK=>?_;go_simp;obtain ⟨z1,z2,z3,z4⟩:=HFZ.out.out (.int .u64 0) (.int .i64 (er));refine hK _ _ (by rw [HS.out]; exact HSF.out _ _ z1 z4) ?_;clear hK K;refine pEnd (by kernel_rfl) ?_;have q0:=z3.at 0 (v:=.int .u64 0) rfl;have q1:=z3.at 1 (v:=.int .i64 (er)) rfl;go_wp2_with fail;refine bodyPost_ret (v:=.agg #[.int .u64 0,.int .i64 (er)]) (by simp [results,Tryz.results95,go_sem,q0,q1]) rfl ⟨a,_,0,er,rfl,z2,z1,HREL.out,rfl,fun x hx=>.inl hx⟩
end
end Go.Proofs.YtadgpnoealegiaaGreat
