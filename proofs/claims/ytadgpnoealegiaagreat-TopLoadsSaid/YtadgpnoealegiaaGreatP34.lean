import Derived.Test.YtadgpnoealegiaaGreatP33
namespace Go.Proofs.YtadgpnoealegiaaGreat
open Go.RowKit
open Go.Lib (hid)
set_option maxRecDepth 100000
set_option maxHeartbeats 20000000
section
open Go.Shelf
attribute [local go_sem] Oper.semAt_some
theorem under_it (P:Nat→Int→Prop) (L:List Int) (hP0:∀ l f,P l f→0≤f∧f < 4096) (hP:∀ l f (i:Nat),P (l+1) f→i < 16→(entN L (16 * f+i)).table=true→P l (entN L (16 * f+i)).fr)
 (B tb mb ms pb pr:Nat) (o r:Int) (gone:Bool) (ps:List D):∀ (lv n b1 b2 b3:Nat) (f:Int) (w:World),lv+2≤n→lv≤3→UU B w b1 b2 b3 tb mb ms pb pr f lv→IsT w tb mb ms pb pr o r gone L ps→P lv f →
 ItS Fence.wide n Tryz.prog 213 #[ptr b1,ptr b2,ptr b3] (fun x:Int=>#[.int .i64 x]) (RK B) (fun xs=>(∀ x ∈ xs,∃ l,P l x)∧xs.length≤cntU lv) (fun _=>True) (cntU lv) [mb,ms] (fun W=>IsT W tb mb ms pb pr o r gone L ps) w:=by
 intro lv
 induction lv using Nat.strongRecOn with
 | _ lv ih=>
  intro n b1 b2 b3 f w hn hlv hu ht hp l J Jx W hW hJ hJx hY h0;have HY:=Lib.hid hY;have HJ:=Lib.hid hJ;have HX:=Lib.hid hJx;have HU:=Lib.hid (hu.only hW (by simp));have HT:=Lib.hid (ht.quiet hW);have HP:=Lib.hid hp;have H0:=Lib.hid h0;have HIH:=Lib.hid ih;have hf:=hP0 _ _ hp;have hn1:1≤n:=by omega
  clear hY hJ hJx hu ht hp h0 ih hW;refine callsIn_of_wp_marks Tryz.func213 rfl trivial ?_ rfl;simp only [Tryz.ntmps213,List.size_toArray,List.length_cons,List.length_nil,Nat.reduceAdd,Nat.reduceSub,Array.replicate_succ,Array.replicate_zero,List.push_toArray,List.append_toArray,List.nil_append,List.cons_append];obtain ⟨W1,hW1⟩:∃ W1,W.alloc (.cells #[.func (.yield l) #[] #[]] 107)=W1:=⟨_,rfl⟩;have q1:Only [] W W1:=by rw [← hW1]; exact (Only.refl [] W).alloc _
  obtain ⟨yb,hyb⟩:∃ yb,W.heap.size=yb:=⟨_,rfl⟩;have hy1:Blk W1 yb 107 #[.func (.yield l) #[] #[]]:=by rw [← hW1,← hyb]; exact Blk.new W _ _
  have HU1:=Lib.hid (HU.out.only q1 (by simp));have HT1:=Lib.hid (HT.out.quiet q1);have hmy:¬ Mine B W1 yb:=fun hm=>by
   have:=HU.out.lim _ (mine_same (q1.cell (p:=⟨B,0,none⟩) HU.out.lB (by simp)) hm);omega
  have hdy:yb ∉ [mb,ms]:=fun hm=>by
   have:=HU.out.z;simp at hm;omega
  have hBy:B < yb:=by have:=HU.out.lB; omega
  have hzz:∀ x ∈ [mb,ms],x < yb:=by have:=HU.out.z; simp; omega
  have c1:=HU1.out.c1;have HYB:=Lib.hid (And.intro hy1 (And.intro hmy hdy));have y0:=hy1.at 0 (v:=.func (.yield l) #[] #[]) rfl;obtain ⟨fn,tmps,assign,body,hy,hR⟩:=HY.out [] f W1 (HJ.out _ _ _ H0.out (StepD.of_only (q1.sub (by simp)))) (by have:=cntU_pos lv; simp; omega);have HRR:=Lib.hid hR;have HYY:=Lib.hid hyb;have hyz:yb < W1.heap.size:=hy1.lt;clear hy1 hmy hdy hR q1 H0;gi_wp2_with (first | (rw [hW1,hyb]; clear hW1 hyb) | fail);refine HRR.out.mono ?_;rintro e W4 (⟨rfl,hJ4,hk4,hko4⟩ | ⟨rfl,hJx4,_⟩)
  ·have HU4:=Lib.hid (HU1.out.rk hk4);have HT4:=Lib.hid (HT1.out.rk hk4 HU1.out);have HJ4:=Lib.hid (show J [f] W4 from hJ4);have HY4:=Lib.hid (And.intro (hk4.blk HYB.out.1 HYB.out.2.1) (And.intro (hk4.not hyz HYB.out.2.1) HYB.out.2.2));clear hJ4 hk4 hko4 hy HRR HU1 HT1 HYB c1 y0 hyz HU HT fn tmps assign body W1 hW1;gi_wp2;refine wpIn_loop (fun a W2=>∃ u5 u6 u7 u13 u14 u15 u16 u17 u18 u19 u20 u21 u22 u23 u24 u25 u26 u27 u28 u29 u30 u31 u32 u33 u34 u35 u36 u37 u38 u39:Value,∃ (i:Nat) (pre:List Int) (Ds:List Nat),a={ tmps:=#[.func (.yield l) #[] #[],ptr b1,ptr b2,ptr b3,ptr yb,u5,u6,u7,.func (.yield l) #[] #[],.int .i64 f,.bool true,.bool false,.int .i64 (i:Int),u13,u14,u15,u16,u17,u18,u19,u20,u21,u22,u23,u24,u25,u26,u27,u28,u29,u30,u31,u32,u33,u34,u35,u36,u37,u38,u39],defers:=Ds.map mkD }∧i≤16∧J pre W2∧(pre.length≤1+i * cntU (lv - 1)∧(lv=0→pre.length=1)∧∀ x ∈ pre,∃ l,P l x)∧UU B W2 b1 b2 b3 tb mb ms pb pr f lv∧IsT W2 tb mb ms pb pr o r gone L ps∧(Blk W2 yb 107 #[.func (.yield l) #[] #[]]∧¬ Mine B W2 yb∧yb ∉ [mb,ms])∧DOk yb Ds W2) (fun a _=>(16 - intOf (a.tmps.getD 12 undef)).toNat) ?_ ?_
   ·exact ⟨_,_,_,_,_,_,_,_,_,_,_,_,_,_,_,_,_,_,_,_,_,_,_,_,_,_,_,_,_,_,0,[f],[],rfl,by omega,HJ4.out,⟨by simp,fun _=>rfl,fun x hx=>⟨lv,List.mem_singleton.1 hx ▸ HP.out⟩⟩,HU4.out,HT4.out,HY4.out,⟨List.nodup_nil,fun x hx=>by cases hx⟩⟩
   ·rintro a W2 ⟨u5,u6,u7,u13,u14,u15,u16,u17,u18,u19,u20,u21,u22,u23,u24,u25,u26,u27,u28,u29,u30,u31,u32,u33,u34,u35,u36,u37,u38,u39,i,pre,Ds,rfl,hi,hJ2,hpre,hu2,ht2,hy2,hD⟩;have HJ2:=Lib.hid hJ2;have HPRE:=Lib.hid hpre;have HU2:=Lib.hid hu2;have HT2:=Lib.hid ht2;have HY2:=Lib.hid hy2;have HD:=Lib.hid hD;clear hJ2 hpre hu2 ht2 hy2 hD HU4 HT4 HJ4 HY4;dsimp only;rcases Nat.lt_or_ge i 16 with hi6 | hi6
    ·have hid:decide ((i:Int) < 16)=true:=decide_eq_true (by omega);have g1:=HU2.out.c1;have g2:=HU2.out.c2;have g3:=HU2.out.c3;have y0:=HY2.out.1.at 0 (v:=.func (.yield l) #[] #[]) rfl;have ew:IntKind.i64.wrap (16 * f)=16 * f:=by rw [IntKind.wrap_i64]; omega
     have ew2:IntKind.i64.wrap (16 * f+(i:Int))=16 * f+(i:Int):=by rw [IntKind.wrap_i64]; omega
     have ei:IntKind.i64.wrap ((i:Int)+1)=((i+1:Nat):Int):=by rw [IntKind.wrap_i64]; omega
     obtain ⟨pr',ri,la,fr,hen⟩:∃ a b c d,entN L (16 * f+(i:Int))=⟨a,b,c,d⟩:=⟨_,_,_,_,rfl⟩;have HNA:=Lib.hid (nat_any (16 * f+(i:Int)) HT2.out);rw [hen,pe_out] at HNA;dsimp only at HNA;have HEN:=Lib.hid hen;clear hen;gi_wp2;refine ⟨trivial,(callsIn_wide.2 HNA.out).mono ?_⟩;rintro e w3 ⟨rfl,ho,ht⟩;obtain ⟨xb,hxb⟩:∃ xb,w3.heap.size=xb:=⟨_,rfl⟩;obtain ⟨Wa,hWa⟩:∃ Wa,w3.alloc (.cells #[.bool pr',.int .i64 ri,.bool la,.int .i64 fr] 172)=Wa:=⟨_,rfl⟩;have qa:Only [] w3 Wa:=by rw [← hWa]; exact (Only.refl [] w3).alloc _
     have qb:=ho.then qa (fun x hx=>by cases hx);have hxa:Blk Wa xb 172 #[.bool pr',.int .i64 ri,.bool la,.int .i64 fr]:=by rw [← hWa,← hxb]; exact Blk.new w3 _ _
     have HJA:=Lib.hid (HJ.out _ _ _ HJ2.out (StepD.of_only qb));have HUA:=Lib.hid (HU2.out.only qb (List.Subset.refl _));have HTA:=Lib.hid (ht.quiet qa);have HYA:=Lib.hid (show Blk Wa yb 107 #[.func (.yield l) #[] #[]]∧¬ Mine B Wa yb∧yb ∉ [mb,ms] from ⟨HY2.out.1.only qb HY2.out.2.2,mine_only qb HU2.out.lB HU2.out.out.2.2.2 HY2.out.2.1,HY2.out.2.2⟩);have HDA:=Lib.hid (HD.out.only qb hzz);have HXA:=Lib.hid hxa;have g1:=HUA.out.c1;have g2:=HUA.out.c2;have g3:=HUA.out.c3;have y0:=HYA.out.1.at 0 (v:=.func (.yield l) #[] #[]) rfl;have e0:=HXA.out.at 0 (v:=.bool pr') rfl;have e1:=HXA.out.at 1 (v:=.int .i64 ri) rfl;have e2:=HXA.out.at 2 (v:=.bool la) rfl;have e3:=HXA.out.at 3 (v:=.int .i64 fr) rfl;have HTB:=Lib.hid (table_any Wa ⟨pr',ri,la,fr⟩);clear hxa qa qb ho ht HNA;by_cases h0:lv=0
     ·have hl0:(((lv:Nat):Int) == 0)=true:=by simp; omega
      gi_wp2_with (first | (rw [hWa,hxb]; clear hWa hxb) | fail);refine ⟨trivial,?_⟩;gi_wp2;exact ⟨⟨_,_,_,_,_,_,_,_,_,_,_,_,_,_,_,_,_,_,_,_,_,_,_,_,_,_,_,_,_,_,i+1,pre,Ds,rfl,by omega,HJA.out,⟨by have:=HPRE.out.1; rw [Nat.add_mul]; omega,HPRE.out.2.1,HPRE.out.2.2⟩,HUA.out,HTA.out,HYA.out,HDA.out⟩,by simp [intOf] <;> omega⟩
     ·have hl0:(((lv:Nat):Int) == 0)=false:=by simp; omega
      cases htb:PE.table ⟨pr',ri,la,fr⟩
      ·rw [htb,pe_out] at HTB;dsimp only at HTB;clear htb;gi_wp2_with (first | (rw [hWa,hxb]; clear hWa hxb) | fail);refine ⟨trivial,(callsIn_wide.2 HTB.out).mono ?_⟩;rintro e w5 ⟨rfl,ho⟩;have HJ5:=Lib.hid (HJ.out _ _ _ HJA.out (StepD.of_only (ho.sub (by simp))));have HU5:=Lib.hid (HUA.out.only ho (by simp));have HT5:=Lib.hid (HTA.out.quiet ho);have HY5:=Lib.hid (show Blk w5 yb 107 #[.func (.yield l) #[] #[]]∧¬ Mine B w5 yb∧yb ∉ [mb,ms] from ⟨HYA.out.1.only ho (by simp),mine_only ho HUA.out.lB (by simp) HYA.out.2.1,HYA.out.2.2⟩);have HD5:=Lib.hid (HDA.out.only ho (by simp));clear ho e0 e1 e2 e3 g1 g2 g3 y0;gi_wp2;exact ⟨⟨_,_,_,_,_,_,_,_,_,_,_,_,_,_,_,_,_,_,_,_,_,_,_,_,_,_,_,_,_,_,i+1,pre,Ds,rfl,by omega,HJ5.out,⟨by have:=HPRE.out.1; rw [Nat.add_mul]; omega,HPRE.out.2.1,HPRE.out.2.2⟩,HU5.out,HT5.out,HY5.out,HD5.out⟩,by simp [intOf] <;> omega⟩
      ·rw [htb,pe_out] at HTB;dsimp only at HTB;have HTT:=Lib.hid htb;clear htb;gi_wp2_with (first | (rw [hWa,hxb]; clear hWa hxb) | fail);refine ⟨trivial,(callsIn_wide.2 HTB.out).mono ?_⟩;rintro e w5 ⟨rfl,ho⟩;have HJ5:=Lib.hid (HJ.out _ _ _ HJA.out (StepD.of_only (ho.sub (by simp))));have HU5:=Lib.hid (HUA.out.only ho (by simp));have HT5:=Lib.hid (HTA.out.quiet ho);have HY5:=Lib.hid (show Blk w5 yb 107 #[.func (.yield l) #[] #[]]∧¬ Mine B w5 yb∧yb ∉ [mb,ms] from ⟨HYA.out.1.only ho (by simp),mine_only ho HUA.out.lB (by simp) HYA.out.2.1,HYA.out.2.2⟩);have HD5:=Lib.hid (HDA.out.only ho (by simp));have HX5:=Lib.hid (HXA.out.only ho (by simp));have g2:=HU5.out.c2;have g3:=HU5.out.c3;have z3:=HX5.out.at 3 (v:=.int .i64 fr) rfl;have el:IntKind.i64.wrap (((lv:Nat):Int) - 1)=((lv - 1:Nat):Int):=by rw [IntKind.wrap_i64]; omega
       obtain ⟨W6,hW6⟩:∃ W6,((w5.alloc (.cells #[ptr tb] 186)).alloc (.cells #[.int .i64 fr] 3)).alloc (.cells #[.int .i64 ((lv - 1:Nat):Int)] 3)=W6:=⟨_,rfl⟩;obtain ⟨s5,hs5⟩:∃ s5,w5.heap.size=s5:=⟨_,rfl⟩;have q6:Only [] w5 W6:=by rw [← hW6]; exact (((Only.refl [] w5).alloc _).alloc _).alloc _
       have k2:Blk W6 s5 186 #[ptr tb]:=by rw [← hW6,← hs5]; exact ((Blk.new w5 _ _).alloc _).alloc _
       have k1:Blk W6 (s5+1) 3 #[.int .i64 fr]:=by rw [← hW6,← hs5]; exact (Blk.new' _ _ _ (by simp)).alloc _
       have k3:Blk W6 (s5+2) 3 #[.int .i64 ((lv - 1:Nat):Int)]:=by rw [← hW6,← hs5]; exact Blk.new' _ _ _ (by simp)
       have HK:=Lib.hid (And.intro k1 (And.intro k2 k3));have HW6:=Lib.hid hW6;have HS5:=Lib.hid hs5;have HQ6:=Lib.hid q6;clear ho e0 e1 e2 e3 g1 y0 k1 k2 k3 q6 hW6 hs5;gi_wp2;refine ⟨trivial,(callsIn_wide.2 (nunder_any _ _ _ _)).mono ?_⟩;rintro e w6 ⟨rfl,rfl⟩;rw [HW6.out,HS5.out];clear g2 g3 z3 el;gi_wp2;have HJ6:=Lib.hid (HJ.out _ _ _ HJ5.out (StepD.of_only (HQ6.out.sub (by simp))));have HU6:=Lib.hid (HU5.out.only HQ6.out (by simp));have HT6:=Lib.hid (HT5.out.quiet HQ6.out);have HY6:=Lib.hid (show Blk W6 yb 107 #[.func (.yield l) #[] #[]]∧¬ Mine B W6 yb∧yb ∉ [mb,ms] from ⟨HY5.out.1.only HQ6.out (by simp),mine_only HQ6.out HU5.out.lB (by simp) HY5.out.2.1,HY5.out.2.2⟩);have HD6:=Lib.hid (HD5.out.only HQ6.out (by simp));have hz5:yb < s5:=by rw [← HS5.out]; exact HY5.out.1.lt
       have hz6:s5+2 < W6.heap.size:=HK.out.2.2.lt;have hms:∀ x,s5≤x→¬ Mine B W6 x:=fun x hx hm=>by
        have:=HU5.out.lim _ (mine_same (HQ6.out.cell (p:=⟨B,0,none⟩) HU5.out.lB (by simp)) hm);rw [HS5.out] at this;omega
       have hPm:P (lv - 1) fr:=by
        have h1:=hP (lv - 1) f i (by rw [Nat.sub_add_cancel (by omega)]; exact HP.out) hi6 (by rw [HEN.out]; exact HTT.out);rw [HEN.out] at h1;exact h1
       have hzm:=hzz mb (.head _);have hzs:=hzz ms (.tail _ (.head _));have HUI:=Lib.hid (show UU B W6 (s5+1) s5 (s5+2) tb mb ms pb pr fr ((lv - 1:Nat):Int) from
        ⟨HK.out.1.at 0 rfl,HK.out.2.1.at 0 rfl,HK.out.2.2.at 0 rfl,hms _ (by omega),hms _ (Nat.le_refl _),hms _ (by omega),HU6.out.nt,HU6.out.nm,HU6.out.ns,HU6.out.nb,HU6.out.nr,HU6.out.lB,HU6.out.lim,fun x hx=>by
         have:=hzz x hx;have:=(HU6.out.d x hx).2.2.2;omega,HU6.out.z⟩)
       have hDl:=HD6.out.lt;have hlen6:pre.length+cntU (lv - 1)≤cntU lv∧pre.length+cntU (lv - 1)≤1+(i+1) * cntU (lv - 1):=by
        have h1:=HPRE.out.1;have h2:cntU lv=1+16 * cntU (lv - 1):=by
         rcases lv with _ | m
         ·omega
         ·rfl
        have h3:(i+1) * cntU (lv - 1)≤16 * cntU (lv - 1):=Nat.mul_le_mul_right _ (by omega);rw [Nat.add_mul] at h3 ⊢;omega
       clear HQ6 HK HW6 HTB hms HJ2 HU2 HT2 HY2 HD HJA HUA HTA HYA HDA HXA HJ5 HU5 HT5 HY5 HD5 HX5;have hyS:W.heap.size≤W6.heap.size:=by rw [HYY.out]; omega
       refine wpIn_rangeFunc_S rfl hn1 (gf:=213) (lb:=#[ptr (s5+1),ptr s5,ptr (s5+2)]) rfl trivial (enters_of Tryz.func213 (by kernel_rfl) rfl)
        (HIH.out (lv - 1) (by omega) (n - 1) (s5+1) s5 (s5+2) fr W6 (by omega) (by omega) HUI.out HT6.out hPm) (fun _ _ hA st=>hA.stepD st) (fun h k=>h.trans k) (fun _ _ _ _ _ h ho=>RK.putLoop h ho) (Only.refl _ _) (fun _=>rfl) (fun x hx=>by have:=hzz x hx; omega)
        (fun xs W7=>J (pre ++ xs) W7∧UU B W7 b1 b2 b3 tb mb ms pb pr f lv∧(Blk W7 yb 107 #[.func (.yield l) #[] #[]]∧¬ Mine B W7 yb∧yb ∉ [mb,ms])∧DOk yb Ds W7)
        (fun c xs W7=>c=.ret∧Jx (pre ++ xs) W7∧DOk yb Ds W7)
        (fun xs A C hs st=>?hI) (fun c xs A C hs st=>?hIx) ⟨by rw [List.append_nil]; exact HJ6.out,HU6.out,HY6.out,HD6.out⟩
        (fun x a' _=>a'={ tmps:=#[.func (.yield l) #[] #[],ptr b1,ptr b2,ptr b3,ptr yb,.int .i64 (i:Int),ptr xb,.int .i64 x,.func (.yield l) #[] #[],.int .i64 f,.bool true,.bool false,.int .i64 (i:Int),.bool true,.int .i64 (i:Int),ptr tb,.int .i64 f,.int .i64 (16 * f),.int .i64 (i:Int),.int .i64 (16 * f+(i:Int)),.agg #[.bool pr',.int .i64 ri,.bool la,.int .i64 fr],.int .i64 (lv:Int),.bool false,.bool false,.agg #[.bool pr',.int .i64 ri,.bool la,.int .i64 fr],.bool true,.bool false,.bool false,ptr tb,.pointer (some ⟨xb,3,none⟩),.int .i64 fr,.int .i64 (lv:Int),.int .i64 ((lv - 1:Nat):Int),.func (.func 213) #[] #[ptr (s5+1),ptr s5,ptr (s5+2)],.int .i64 x,u35,u36,u37,u38,u39],defers:=[] }) (fun x a' A C h _=>h) ?assign ?body ?done ?stop
       case hI=>
        obtain ⟨k1,k2,k3,k4⟩:=hs;have k5:=k2.lB;exact ⟨HJ.out _ _ _ k1 (st.weak hyS),k2.stepD st (by omega),⟨st.blk k3.1 k3.2.2,fun hm=>k3.2.1 (st.mine k5 (by omega) k2.out.2.2.2 hm),k3.2.2⟩,k4.stepD st hzz hDl⟩
       case hIx=>
        obtain ⟨rfl,k1,k2⟩:=hs;exact ⟨rfl,HX.out _ _ _ k1 (st.weak hyS),k2.stepD st hzz hDl⟩
       case assign=>
        rintro l2 xs x W7 K hi7 hK;have HG:=Lib.hid (hK { tmps:=#[.func (.yield l) #[] #[],ptr b1,ptr b2,ptr b3,ptr yb,.int .i64 (i:Int),ptr xb,.int .i64 x,.func (.yield l) #[] #[],.int .i64 f,.bool true,.bool false,.int .i64 (i:Int),.bool true,.int .i64 (i:Int),ptr tb,.int .i64 f,.int .i64 (16 * f),.int .i64 (i:Int),.int .i64 (16 * f+(i:Int)),.agg #[.bool pr',.int .i64 ri,.bool la,.int .i64 fr],.int .i64 (lv:Int),.bool false,.bool false,.agg #[.bool pr',.int .i64 ri,.bool la,.int .i64 fr],.bool true,.bool false,.bool false,ptr tb,.pointer (some ⟨xb,3,none⟩),.int .i64 fr,.int .i64 (lv:Int),.int .i64 ((lv - 1:Nat):Int),.func (.func 213) #[] #[ptr (s5+1),ptr s5,ptr (s5+2)],.int .i64 x,u35,u36,u37,u38,u39],defers:=[] } W7 (KeepsOthers.refl _) (RK.refl _ _) hi7 rfl);clear hK hi7;gi_wp2;exact HG.out
       case body=>
        rintro l2 xs x a' W7 ⟨k1,k2,k3,k4⟩ rfl hlx;have HK1:=Lib.hid k1;have HK2:=Lib.hid k2;have HK3:=Lib.hid k3;have HK4:=Lib.hid k4;have y0:=k3.1.at 0 (v:=.func (.yield l) #[] #[]) rfl;obtain ⟨fn,tmps,assign,body,hy,hR⟩:=HY.out (pre ++ xs) x W7 k1 (by rw [List.length_append]; omega);have HRR:=Lib.hid hR;have hn3:1≤n - 1 - 1:=by omega
        clear k1 k2 k3 k4 hR;gi_wp2;refine (roundIn_wide HRR.out).mono ?_;rintro e W8 (⟨rfl,hJ8,hk8,hko8⟩ | ⟨rfl,hJx8,hkf8⟩)
        ·have HJ8:=Lib.hid hJ8;have HK8:=Lib.hid (And.intro hk8 hko8);clear hJ8 hk8 hko8 hy HRR y0;gi_wp2;exact ⟨HK8.out.2,HK8.out.1,by rw [← List.append_assoc]; exact HJ8.out,HK2.out.rk HK8.out.1,⟨HK8.out.1.blk HK3.out.1 HK3.out.2.1,HK8.out.1.not HK3.out.1.lt HK3.out.2.1,HK3.out.2.2⟩,HK4.out.others HK8.out.2⟩
        ·have HX8:=Lib.hid (And.intro hJx8 hkf8);clear hJx8 hkf8 hy HRR y0;gi_wp2;exact ⟨HX8.out.2.weak hyS,rfl,by rw [← List.append_assoc]; exact HX8.out.1,⟨HK4.out.1,fun z hz=>⟨(HK4.out.2 z hz).1,HX8.out.2.same z _ (by rw [HYY.out]; exact (HK4.out.2 z hz).1) (HK4.out.2 z hz).2 rfl⟩⟩⟩
       case done=>
        rintro D2 ys W7 hD2 hT7 ⟨hys,hyl⟩ ⟨k1,k2,k3,k4⟩ hK7;have HK1:=Lib.hid k1;have HK2:=Lib.hid k2;have HK3:=Lib.hid k3;have HT7:=Lib.hid hT7;have HK4:=Lib.hid (k4.cons hK7 (by omega) (fun z hz=>by have:=hDl z hz; omega));have HYS:=Lib.hid hys;clear k1 k2 k3 k4 hK7 hT7 hys;gi_wp2;refine ⟨⟨_,_,_,_,_,_,_,_,_,_,_,_,_,_,_,_,_,_,_,_,_,_,_,_,_,_,_,_,_,_,i+1,pre ++ ys,D2 :: Ds,rfl,by omega,HK1.out,⟨by rw [List.length_append]; omega,fun h=>absurd h h0,fun x hx=>?_⟩,HK2.out,HT7.out,HK3.out,HK4.out⟩,by simp [intOf] <;> omega⟩;rcases List.mem_append.1 hx with hx | hx
        ·exact HPRE.out.2.2 x hx
        ·exact HYS.out x hx
       case stop=>
        rintro D2 c xs W7 hD2 _ ⟨rfl,k1,k2⟩ hK7;have HK1:=Lib.hid k1;have HK2:=Lib.hid (k2.cons hK7 (by omega) (fun z hz=>by have:=hDl z hz; omega));clear k1 k2 hK7;gi_wp2;refine leaves_marks (n₀:=yb) (D2 :: Ds) _ HK2.out.1 HK2.out.2 fun W3 hst=>⟨_,results_none rfl _ _ _,⟨_,rfl⟩,.inr ⟨pre ++ xs,trivial,HX.out _ _ _ HK1.out (by rw [HYY.out]; exact hst.sub (by simp))⟩⟩
    ·have hi16:i=16:=by omega
     subst hi16;gi_wp2;refine leaves_marks (n₀:=yb) Ds _ HD.out.1 HD.out.2 fun W3 hst=>⟨_,results_none rfl _ _ _,⟨_,rfl⟩,.inl ⟨pre,⟨HPRE.out.2.2,?_⟩,HT2.out.stepD hst,HJ.out _ _ _ HJ2.out (by rw [HYY.out]; exact hst.sub (by simp))⟩⟩;obtain ⟨h1,h2,_⟩:=HPRE.out;cases lv with
     | zero=>rw [h2 rfl]; exact cntU_pos 0
     | succ lv=>unfold cntU; simpa using h1
  ·have HX4:=Lib.hid hJx4;clear hJx4 hy;gi_wp2;exact ⟨_,results_none rfl _ _ _,⟨_,rfl⟩,.inr ⟨[f],trivial,HX4.out⟩⟩
end
section
open Go.Shelf
attribute [local go_sem] Oper.semAt_some
theorem row_stepD {T:List Nat} {n₀:Nat} {A B:World} {base e sz k:Nat} {v:Value} {xs:List Value} (h:A.ownsRow base e sz v k xs) (st:StepD T n₀ A B) (hT:∀ x ∈ T,x < base):B.ownsRow base e sz v k xs:=by
 refine ⟨h.1,?_⟩;rcases h.2 with h2 | ⟨g,cap,cur,rfl,hg,hh,r⟩
 ·exact .inl h2
 ·have hb:Blk A g e cur:=hh;exact .inr ⟨g,cap,cur,rfl,hg,st.blk hb (fun hm=>by have:=hT g hm; omega),r⟩
theorem gatherU_any {w:World} {b1 b2 b3 tb mb ms pb pr:Nat} {f o r:Int} {gone:Bool} {L:List Int} {ps:List D} (P:Nat→Int→Prop) (hP0:∀ l f,P l f→0≤f∧f < 4096) (hP:∀ l f (i:Nat),P (l+1) f→i < 16→(entN L (16 * f+i)).table=true→P l (entN L (16 * f+i)).fr)
 (h:IsT w tb mb ms pb pr o r gone L ps) (h1:w.cell? ⟨b1,0,none⟩=some (.int .i64 f)) (h2:w.cell? ⟨b2,0,none⟩=some (ptr tb)) (h3:w.cell? ⟨b3,0,none⟩=some (.int .i64 ((3:Nat):Int))) (hd:∀ x ∈ [mb,ms],b1≠x∧b2≠x∧b3≠x) (hp:P 3 f) :
 Calls Tryz.prog 200 #[.func (.func 213) #[] #[ptr b1,ptr b2,ptr b3]] w fun e w'=>∃ (v:Value) (xs:List Int),e=.returned v∧Only [mb,ms] w w'∧IsT w' tb mb ms pb pr o r gone L ps∧w'.ownsRow w.heap.size 3 1 v xs.length (xs.map (Value.int .i64))∧(∀ x ∈ xs,∃ l,P l x)∧xs.length≤4369:=by
 obtain ⟨W0,hW0⟩:∃ W0,w.alloc (.cells #[.slice none 0 0] 66)=W0:=⟨_,rfl⟩;have hB0:Blk W0 w.heap.size 66 #[.slice none 0 0]:=by rw [← hW0]; exact Blk.new w _ _
 have hO0:Only [] w W0:=by rw [← hW0]; exact (Only.refl [] w).alloc _
 have hn:∀ g,g≠w.heap.size→¬ Mine w.heap.size W0 g:=by
  rintro g hg (e | ⟨v,q1,q2⟩)
  ·exact hg e
  ·rw [hB0.at 0 (v:=.slice none 0 0) rfl] at q1;cases q1;cases q2
 have hl:=h.lt;have l1:=cell_lt2 h1;have l2:=cell_lt2 h2;have l3:=cell_lt2 h3;have hsz:=hO0.size;have HT:=hid (h.quiet hO0);have HU:=hid (show UU w.heap.size W0 b1 b2 b3 tb mb ms pb pr f ((3:Nat):Int) from
  ⟨(hO0.cell (p:=⟨b1,0,none⟩) l1 (by simp)).trans h1,(hO0.cell (p:=⟨b2,0,none⟩) l2 (by simp)).trans h2,(hO0.cell (p:=⟨b3,0,none⟩) l3 (by simp)).trans h3,hn _ (by omega),hn _ (by omega),hn _ (by omega),hn _ (by omega),hn _ (by omega),hn _ (by omega),hn _ (by omega),hn _ (by omega),hB0.lt,fun k hk=>by
    by_cases e:k=w.heap.size
    ·rw [e]; exact hB0.lt
    ·exact absurd hk (hn k e),fun x hx=>by
     obtain ⟨d1,d2,d3⟩:=hd x hx;refine ⟨d1,d2,d3,?_⟩;simp at hx;omega,by omega⟩)
 have H0:=hid (And.intro hB0 (hO0.sub (show [] ⊆ [mb,ms] by simp)));have hz:w.heap.size≤W0.heap.size:=hO0.size;obtain ⟨i0,hi,hz0,hz1,hz2⟩:=info_parts Tryz.infoInt;have HI0:=hid (And.intro hi (And.intro hz0 (And.intro hz1 hz2)));have HP:=hid hp;have hc3:cntU 3=4369:=rfl;clear h h1 h2 h3 hd hi hz0 hz1 hz2 hB0 hn hp l1 l2 l3;refine (callsIn_wide (n:=8)).1 ?_;refine callsIn_of_wp_marks Tryz.func200 rfl trivial ?_ rfl;simp only [Tryz.ntmps200,List.size_toArray,List.length_cons,List.length_nil,Nat.reduceAdd,Nat.reduceSub,Array.replicate_succ,Array.replicate_zero,List.push_toArray,List.append_toArray,List.nil_append,List.cons_append];gi_wp2;clear hW0 hO0;refine wpIn_rangeFunc_S rfl (by omega) (gf:=213) (lb:=#[ptr b1,ptr b2,ptr b3]) rfl trivial (enters_of Tryz.func213 (by kernel_rfl) rfl)
  (under_it P L hP0 hP w.heap.size tb mb ms pb pr o r gone ps 3 7 b1 b2 b3 f W0 (by omega) (by omega) HU.out HT.out HP.out) (fun _ _ hA st=>hA.stepD st) (fun h k=>h.trans k) (fun _ _ _ _ _ h ho=>RK.putLoop h ho) (Only.refl _ _) (fun _=>rfl) (by simp; omega)
  (fun pre W=>(∃ v,Blk W w.heap.size 66 #[v]∧W.ownsRow w.heap.size 3 1 v pre.length (pre.map (Value.int .i64)))∧Only [mb,ms] w W) (fun _ _ _=>False)
  (fun s A B hs st=>?hI) (fun _ _ _ _ hs _=>hs) ⟨⟨_,H0.out.1,World.ownsRow_nil _ _ _ _⟩,H0.out.2⟩
  (fun x a' _=>a'={ tmps:=#[.func (.func 213) #[] #[ptr b1,ptr b2,ptr b3],undef,.slice none 0 0,ptr w.heap.size,.int .i64 x,.func (.func 213) #[] #[ptr b1,ptr b2,ptr b3],.int .i64 x,undef,undef,undef,undef,undef],defers:=[] }) (fun _ _ _ _ h _=>h) ?assign ?body ?done ?stop
 case hI=>
  obtain ⟨⟨v,hb,hr⟩,ho⟩:=hs;exact ⟨⟨v,st.blk hb (by simp; omega),row_stepD hr st (by simp; omega)⟩,st.only ho hz (by simp)⟩
 case assign=>
  rintro l pre x W K hi hK;have HG:=hid (hK { tmps:=#[.func (.func 213) #[] #[ptr b1,ptr b2,ptr b3],undef,.slice none 0 0,ptr w.heap.size,.int .i64 x,.func (.func 213) #[] #[ptr b1,ptr b2,ptr b3],.int .i64 x,undef,undef,undef,undef,undef],defers:=[] } W (KeepsOthers.refl _) (RK.refl _ _) hi rfl);clear hK hi;gi_wp2;exact HG.out
 case body=>
  rintro l pre x a' W ⟨⟨v,hb,hr⟩,ho⟩ rfl hlen;have HB:=hid hb;have HR:=hid hr;have HO:=hid ho;have c0:=hb.at 0 (v:=v) rfl;clear hb ho hr;gi_wp2_with (
   gi_at_builtin
   obtain ⟨hi,hz0,hz1,hz2⟩:=HI0.out;refine wpListIn_append_own_at _ rfl _ _ 66 rfl w.heap.size 3 i0 (.int .i64 0) 1 8 Tryz.underlying66 hi hz0 hz1 hz2 rfl (by decide) _ _ _ rfl (HR.out.alloc _) ⟨W.heap.size,0,none⟩ 1 1 [.int .i64 x] rfl rfl (one_new _ _ _) (by simp [Value.oneCell']) (by unfold maxLen; omega) (by omega) (by have:=HO.out.size; simp; omega) ?_;intro v' w1 hown' hgrow _ hat;obtain ⟨g',cap',rfl⟩:=ownsRow_succ hown';have HC:=hid (col_step HB.out HR.out rfl hown' hgrow hat (by decide) HO.out (Nat.le_refl _) (Nat.le_refl _));have hc1:w1.cell? ⟨w.heap.size,0,none⟩=some v:=col_cell HB.out HR.out hgrow (by decide);have hf1:w1.frozen? ⟨w.heap.size,0,none⟩=false:=col_frozen HB.out HR.out hgrow (by decide);clear hi hz0 hz1 hz2 hown' hgrow hat c0)
  exact ⟨HC.out.1,HC.out.2.1,⟨_,HC.out.2.2.1,by simpa using HC.out.2.2.2.1⟩,HC.out.2.2.2.2⟩
 case done=>
  rintro D ys W hD hT ⟨hys,hyl⟩ ⟨⟨v,hb,hr⟩,ho⟩ hK;have HB:=hid hb;have HR:=hid hr;have HO:=hid ho;have HT:=hid hT;have HYS:=hid hys;have c0:=hb.at 0 (v:=v) rfl;clear hb ho hr hT hys;gi_wp2;refine ⟨by simp,.inl ⟨_,_,rfl,run_takeDeferred hK,?_⟩⟩;have q:Only [D] W (W.putObj D (.deferred none)):=⟨rfl,rfl,rfl,by simp [World.putObj],fun i _ hn=>World.putObj_heap_other (by simpa using hn)⟩;exact ⟨_,results_tmp rfl _ _ _,_,ys,rfl,HO.out.putObj (by omega) _,HT.out.only q (by simp; omega) (by simp; omega) (by simp; omega) (by simp; omega) (by simp; omega),ownsRow_putObj HR.out _ hK rfl,HYS.out,by omega⟩
 case stop=>
  rintro D c pre W _ _ h _;exact h.elim
end
end Go.Proofs.YtadgpnoealegiaaGreat
