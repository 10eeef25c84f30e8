import Derived.Test.YtadgpnoealegiaaGreatP20
import Derived.Conc.SmallLaws
import Derived.Conc.LoneSelectN
namespace Go.Proofs.YtadgpnoealegiaaGreat
open Go.RowKit
open Go.Lib (hid)
set_option maxRecDepth 100000
set_option maxHeartbeats 20000000
section
open Go.Conc
theorem Tryz.infoChan : (Tryz.prog.info? 103).map (fun i=>(i.zero,i.size,i.bytes))=some (some (.chan none),1,8):=by kernel_rfl
section
variable {w w':World} {b:Nat} {bv ov:Value} {cs:List Nat} {s:Bx}
theorem bothers_any (h:IsBx w b bv ov cs s) (c:Nat) (hc:c < cs.length):Calls Tryz.prog 72 #[ptr b,.int .i64 c] w fun e w'=>∃ v,e=.returned v∧Only [] w w'∧RowR w' 103 1 v (cs.take c ++ cs.drop (c+1)).length ((cs.take c ++ cs.drop (c+1)).map fun c=>Value.chan (some c))∧∀ x,v.ownBlock=some x→w.heap.size≤x:=by
 obtain ⟨i0,hz,hz0,hz1,hz2⟩:=info_parts Tryz.infoChan;have HI0:=hid (And.intro hz (And.intro hz0 (And.intro hz1 hz2)));clear hz hz0 hz1 hz2;obtain ⟨g,cap,cur,hv,hb,hnc,hmx,_,hcc⟩:=h.row.has (by omega);obtain ⟨n,hn⟩:∃ n,cs.length=n:=⟨_,rfl⟩;have x0:=h.obj.at 0 (v:=bv) rfl;rw [hv,hn] at x0;have hn8:=h.cpus;rw [hn] at hc hnc hn8;have ew:IntKind.i64.wrap ((c:Int)+1)=(c:Int)+1:=by rw [IntKind.wrap_i64]; omega
 have HC:=hid hcc;have HB:=hid hb;have HN:=hid hn;have HBX:=hid h.obj;have HV:=hid hv;have hbl:=h.obj.lt;obtain ⟨ad,had⟩:∃ ad,(if cap=c+1 then some (⟨g,0,none⟩:Addr) else some ⟨g,c+1,none⟩)=some ad:=by split <;> exact ⟨_,rfl⟩
 have HAD:=hid had;have HU2:=hid (show ∀ W,Only [] w W→∀ j u,((cs.drop (c+1)).map fun c=>Value.chan (some c))[j]?=some u→W.cell? (ad.add j)=some u from fun W hW j u hu=>by
  have hj:=(List.getElem?_eq_some_iff.1 hu).1;simp at hj;have h1:(cs.map fun c=>Value.chan (some c))[c+1+j]?=some u:=by
   rw [← hu,List.getElem?_map,List.getElem?_map,List.getElem?_drop]
  have h2:=(HB.out.only hW (by simp)).at _ (HC.out _ u h1);have hcap:cap≠c+1:=by
   have:=HN.out;omega
  rw [if_neg hcap] at had;cases had;unfold Addr.add;split
  ·rename_i hj;subst hj;exact h2
  ·simpa using h2)
 have j0:(0:Int)≤(c:Int):=by omega
 have j1:(c:Int)≤(cap:Int):=by omega
 have j2:(c:Int)≤(n:Int):=by omega
 have j3:(c:Int)+1≤(n:Int):=by omega
 have j4:(n:Int)≤(cap:Int):=by omega
 have HU1:=hid (show ∀ j u,((cs.take c).map fun c=>Value.chan (some c))[j]?=some u→w.cell? ((⟨g,0,none⟩:Addr).add j)=some u from fun j u hu=>by
  have hj:j < c:=by
   have:=(List.getElem?_eq_some_iff.1 hu).1;simp at this;omega
  have h1:(cs.map fun c=>Value.chan (some c))[j]?=some u:=by
   rw [← hu,List.getElem?_map,List.getElem?_map,List.getElem?_take_of_lt hj]
  have h2:=HB.out.at j (HC.out j u h1);unfold Addr.add;split
  ·rename_i hj;subst hj;exact h2
  ·simpa using h2)
 have HN1:=hid (show ∀ u ∈ ((cs.take c).map fun c=>Value.chan (some c)),u.oneCell'=true from fun u hu=>by
  obtain ⟨y,_,rfl⟩:=List.mem_map.1 hu;rfl)
 have HN2:=hid (show ∀ u ∈ ((cs.drop (c+1)).map fun c=>Value.chan (some c)),u.oneCell'=true from fun u hu=>by
  obtain ⟨y,_,rfl⟩:=List.mem_map.1 hu;rfl)
 clear h hv hcc hb hn had;go_enter Tryz.func72,Tryz.ntmps72;go_wp2_with (first
  | (at_builtin; (refine wpList_append_R rfl (.const (.slice none 0 0)) (.tmp 11) 100 rfl 103 i0 (.chan none) 1 8 Tryz.underlying100 HI0.out.1 HI0.out.2.1 HI0.out.2.2.1 HI0.out.2.2.2 rfl (by decide) (.slice none 0 0) 0 [] (by with_unfolding_all rfl) (RowR.nil _ _ _) ⟨g,0,none⟩ c cap ((cs.take c).map fun c=>Value.chan (some c)) (by with_unfolding_all rfl) (by rw [List.length_map,List.length_take,HN.out]; omega) HU1.out HN1.out (by unfold maxLen at *; omega) (by omega) ?_)
     intro v5 w5 hr5 ho5 hw5;rw [Nat.zero_add,List.nil_append] at hr5;obtain ⟨A5,cap5,rfl⟩:=hr5.form;have HR5:=hid hr5;have HO5:=hid (show Only [] w w5 from ho5);have HW5:=hid hw5;have HB5:=hid (HBX.out.only HO5.out (by simp));have y0:=HB5.out.at 0 (v:=bv) rfl;rw [HV.out,HN.out] at y0;clear hr5 ho5 hw5)
  | (at_builtin; (rw [HAD.out]; refine wpList_append_R rfl (.tmp 13) (.tmp 20) 100 rfl 103 i0 (.chan none) 1 8 Tryz.underlying100 HI0.out.1 HI0.out.2.1 HI0.out.2.2.1 HI0.out.2.2.2 rfl (by decide) _ c _ (by with_unfolding_all rfl) HR5.out ad (n - (c+1)) (cap - (c+1)) ((cs.drop (c+1)).map fun c=>Value.chan (some c)) (by with_unfolding_all rfl) (by rw [List.length_map,List.length_drop,HN.out]; omega) (HU2.out _ HO5.out) HN2.out (by unfold maxLen at *; omega) (by omega) ?_)
     intro v6 w6 hr6 ho6 hw6;obtain ⟨A6,cap6,rfl⟩:=hr6.form;have HR6:=hid hr6;have HO6:=hid ho6;have HW6:=hid hw6;clear hr6 ho6 hw6)
  | fail)
 have hv5:∀ x,(Value.slice A5 c cap5).ownBlock=some x→w.heap.size≤x:=by
  intro x hx;rcases HW5.out with h | h
  ·have h:(Value.slice A5 c cap5).ownBlock=none:=by simpa [Value.ownBlock] using h
   rw [h] at hx;cases hx
  ·have h:(Value.slice A5 c cap5).ownBlock=some w.heap.size:=by simpa using h
   rw [h] at hx;cases hx;exact Nat.le_refl _
 have hv6:∀ x,(Value.slice A6 (c+(n - (c+1))) cap6).ownBlock=some x→w.heap.size≤x:=by
  intro x hx;rcases HW6.out with h | h
  ·have h:(Value.slice A6 (c+(n - (c+1))) cap6).ownBlock=(Value.slice A5 c cap5).ownBlock:=h;rw [h] at hx;exact hv5 x hx
  ·rw [h] at hx;cases hx;exact HO5.out.size
 have q6:Only [] w w6:=HO5.out.then HO6.out fun x hx=>.inr (hv5 x (Option.mem_toList.1 hx));have hlen:(cs.take c ++ cs.drop (c+1)).length=c+(n - (c+1)):=by
  rw [List.length_append,List.length_take,List.length_drop,HN.out];omega
 go_ret;refine ⟨_,rfl,q6,?_,hv6⟩;rw [hlen,List.map_append];exact HR6.out
end
end
section
open Go.Conc
theorem bnew_any (w:World) (cpus:Nat) (h0:1≤cpus) (h8:cpus≤8) :
 Calls Tryz.prog 13 #[.int .i64 cpus] w fun e w'=>∃ b bv cs,e=.returned (.tuple #[ptr b,.int .i64 0])∧Only [] w w'∧IsBx w' b bv (.slice none 0 0) cs ⟨List.replicate cpus [],[]⟩∧w.heap.size≤b∧(∀ x,bv.ownBlock=some x→w.heap.size≤x)∧∀ x ∈ cs,w.heap.size≤x:=by
 obtain ⟨i0,hz,hz0,hz1,hz2⟩:=info_parts Tryz.infoChan;have HI0:=hid (And.intro hz (And.intro hz0 (And.intro hz1 hz2)));clear hz hz0 hz1 hz2;have d1:decide ((cpus:Int) < 1)=false:=decide_eq_false (by omega);have d2:decide ((8:Int) < cpus)=false:=decide_eq_false (by omega);have HQ1:=hid ((Only.refl [] w).alloc (.cells #[.slice none 0 0,.slice none 0 0] 102));have HB1:=hid (Blk.new w 102 #[.slice none 0 0,.slice none 0 0]);obtain ⟨ia,hia⟩:∃ i,Tryz.prog.info? 71=some i:=Option.isSome_iff_exists.1 (by kernel_rfl);have hib:ia.bytes≤1000:=by
  have h:((Tryz.prog.info? 71).map (·.bytes)).getD 0≤1000:=by
   have:((Tryz.prog.info? 71).map (·.bytes)).getD 0=24:=by kernel_rfl
   omega
  rw [hia] at h;exact h
 have hmk:∀ W:World,(Instr.makeChan 103 (.int .i64 16)).run Tryz.prog W=.ok (.chan (some W.heap.size)) (W.alloc (.chan 16 #[] false 0 0 false)):=fun W=>run_makeChan (n:=16) Tryz.underlying103 hia .i64 (by omega) (by omega);clear hia hib;go_enter Tryz.func13,Tryz.ntmps13;go_wp2_with fail;go_loopg [14] cpus (fun k i wr=>k≤cpus∧i=.int .i64 ((cpus:Int) - k)∧Only [] w wr∧∃ bv cs,cs.length=cpus - k∧IsBx wr w.heap.size bv (.slice none 0 0) cs ⟨List.replicate (cpus - k) [],[]⟩∧(∀ x,bv.ownBlock=some x→w.heap.size≤x)∧∀ x ∈ cs,w.heap.size≤x)
 case atStart=>exact ⟨Nat.le_refl _,by simp,HQ1.out,.slice none 0 0,[],by simp,⟨HB1.out,by simpa using RowR.nil _ _ _,by simpa using RowR.nil _ _ _,by simp,by simp,by simp,by simp,by simp⟩,by simp [Value.ownBlock],by simp⟩
 case round=>
  obtain ⟨hk,rfl,ho,bv,cs,hl,hx,hv,hcs⟩:=hrel;cases gk with
  | zero=>
   have hlt1:¬ ((cpus:Int) - ((0:Nat):Int) < cpus):=by omega
   have HX:=hid hx;have HO:=hid ho;have HV:=hid hv;have HC:=hid hcs;clear hx ho hv hcs;go_wp2_with fail;go_ret2;exact ⟨_,rfl,HO.out,bv,cs,HX.out,Nat.le_refl _,HV.out,HC.out⟩
  | succ k=>
   obtain ⟨j,hj⟩:∃ j,cpus - (k+1)=j:=⟨_,rfl⟩;have ej:(cpus:Int) - ((k+1:Nat):Int)=(j:Int):=by omega
   have hjn:j < cpus:=by omega
   rw [ej];rw [hj] at hl hx;have hlt1:(j:Int) < cpus:=by omega
   have ew2:IntKind.i64.wrap ((j:Int)+1)=(j:Int)+1:=by rw [IntKind.wrap_i64]; omega
   obtain ⟨A,cap,rfl⟩:=hx.row.form;have x0:=hx.obj.at 0 (v:=.slice A cs.length cap) rfl;rw [hl] at x0;have HX:=hid hx;have HO:=hid ho;have HV:=hid hv;have HC:=hid hcs;have HL:=hid hl;clear hx ho hv hcs ej hl;go_upto_region 6 with fail;obtain ⟨S,hS⟩:∃ S:World→Prop,S=(fun w'=>w'.cell? ⟨w.heap.size,0,none⟩=some (.slice A j cap)):=⟨_,rfl⟩;have HS:=hid hS;clear hS;refine wp_region_lead 5 S (by kernel_rfl) (by kernel_rfl) (by rw [HS.out]; exact x0) ?_;simp only [List.take_succ_cons,List.take_zero,List.drop_succ_cons,List.drop_zero]
   repeat
    (refine lstep rfl ?_
     apply Exists.intro;refine ⟨fun w' hw'=>?_,?_⟩
     ·rw [HS.out] at hw';have p0:=hw';go_simp;with_reducible rfl
     go_simp)
   refine lnil ?_;refine ltail rfl fun K hK=>?_;go_simp;obtain ⟨w3,hw3⟩:∃ w3,(wr.alloc (.chan 16 #[] false 0 0 false)).drew=w3:=⟨_,rfl⟩;have q3:Only [] wr w3:=by rw [← hw3]; exact ((Only.refl [] wr).alloc _).drew
   have hch3:IsChan w3 wr.heap.size []:=by
    refine ⟨0,0,?_⟩;rw [← hw3];show (wr.heap.push _)[wr.heap.size]?=_;simp
   have hsz3:w3.heap.size=wr.heap.size+1:=by rw [← hw3]; simp [World.drew]
   rw [hw3];have HX3:=hid (HX.out.quiet q3);have HQ3:=hid (HO.out.trans q3);have HCH3:=hid hch3;have y3:=(HX.out.quiet q3).obj.at 0 (v:=.slice A cs.length cap) rfl;rw [HL.out] at y3;have HSZ3:=hid hsz3;clear hw3 q3 hch3 hsz3;refine hK _ _ (by rw [HS.out]; exact y3) ?_;clear hK K;refine ltail rfl fun K hK=>?_;go_simp;obtain ⟨w4,hw4⟩:∃ w4,w3.alloc (.cells #[.chan (some wr.heap.size)] 103)=w4:=⟨_,rfl⟩;have q4:Only [] w3 w4:=by rw [← hw4]; exact (Only.refl [] w3).alloc _
   have hb4:Blk w4 w3.heap.size 103 #[.chan (some wr.heap.size)]:=by rw [← hw4]; exact Blk.new w3 _ _
   rw [hw4];have HX4:=hid (HX3.out.quiet q4);have HQ4:=hid (HQ3.out.trans q4);have HCH4:=hid (HCH3.out.only q4 (by simp));have HB4:=hid hb4;have hrow4:=(HX3.out.quiet q4).row;have y4:=(HX3.out.quiet q4).obj.at 0 (v:=.slice A cs.length cap) rfl;rw [HL.out] at y4 hrow4;have HROW4:=hid hrow4;have hsz4:w3.heap.size≤w4.heap.size:=q4.size;clear hw4 q4 hb4 y3 hrow4;refine hK _ _ (by rw [HS.out]; exact y4) ?_;clear hK K;refine ltail rfl fun K hK=>?_;refine wp_append_R (.tmp 20) (.tmp 22) 100 rfl 103 i0 (.chan none) 1 8 Tryz.underlying100 HI0.out.1 HI0.out.2.1 HI0.out.2.2.1 HI0.out.2.2.2 rfl (by decide) _ j _ rfl HROW4.out ⟨w3.heap.size,0,none⟩ 1 1 [.chan (some wr.heap.size)] rfl rfl (fun i u hu=>?_) (by intro u hu; simp at hu; subst hu; rfl) (by unfold maxLen; omega) (by omega) ?_
   ·rcases i with _ | i
    ·have hu:Value.chan (some wr.heap.size)=u:=by simpa using hu
     subst hu;exact HB4.out.at 0 rfl
    ·simp at hu
   intro v5 w5 hr ho hown5;have ho:Only (Value.slice A j cap).ownBlock.toList w4 w5:=ho;have hown5:v5.ownBlock=(Value.slice A j cap).ownBlock∨v5.ownBlock=some w4.heap.size:=hown5;have HOA:=hid ho;have HR5:=hid hr;have HW5:=hid hown5;have hnb:w.heap.size ∉ (Value.slice A j cap).ownBlock.toList:=by
    simp only [Option.mem_toList];exact HROW4.out.ne HX4.out.obj (by decide)
   have HOBJ5:=hid (HX4.out.obj.only ho hnb);obtain ⟨A5,cap5,rfl⟩:=hr.form;have y5:=HOBJ5.out.at 0 (v:=.slice A cs.length cap) rfl;rw [HL.out] at y5;have g5:=HOBJ5.out.frozen 0;clear hr ho hown5 hnb y4;refine hK _ _ (by rw [HS.out]; exact y5) ?_;clear hK K;refine ltail rfl fun K hK=>?_;go_simp;refine hK _ _ (by rw [HS.out]; exact y5) ?_;clear hK K;refine ltail rfl fun K hK=>?_;go_simp;refine hK _ _ (by rw [HS.out]; exact y5) ?_;clear hK K;refine llast rfl fun K hK=>?_;go_simp;refine hK _ _ (NoPanic.normal ?_);clear hK K;go_wp2_with fail;go_roundg k
   case measure=>omega
   case rel=>
    have e1:(j:Int)+1=(cpus:Int) - k:=by omega
    have e2:cpus - k=j+1:=by omega
    have hwr:w.heap.size≤wr.heap.size:=HO.out.size;have hs34:=HSZ3.out;have qs:Only [w.heap.size] w5 (w5.setCell ⟨w.heap.size,0,none⟩ (.slice A5 (j+1) cap5)):=(Only.refl [w.heap.size] w5).setCell (p:=⟨w.heap.size,0,none⟩) (by simp) _;have hv5:∀ x,(Value.slice A5 (j+1) cap5).ownBlock=some x→w.heap.size≤x:=by
     intro x hx;rcases HW5.out with h | h
     ·rw [h] at hx;exact HV.out x (by cases A <;> exact hx)
     ·rw [h] at hx;have:w4.heap.size=x:=by simpa using hx
      omega
    have hAx:∀ x ∈ (Value.slice A j cap).ownBlock.toList,w.heap.size≤x:=fun x hx=>HV.out x (by
     have hx:=Option.mem_toList.1 hx;cases A <;> exact hx)
    have q5:Only [] w w5:=HQ4.out.then HOA.out fun x hx=>.inr (hAx x hx);have hnc:∀ c q,IsChan w4 c q→IsChan (w5.setCell ⟨w.heap.size,0,none⟩ (.slice A5 (j+1) cap5)) c q:=fun c q hq=>by
     have h1:IsChan w5 c q:=hq.only HOA.out fun hm=>by
      obtain ⟨_,cs',hb⟩:=HROW4.out.lt _ (Option.mem_toList.1 hm);exact hq.ne hb rfl
     exact h1.only qs (by
      simp only [List.mem_singleton];exact h1.ne HOBJ5.out)
    rw [e2];refine ⟨by omega,by rw [e1],q5.setCell (p:=⟨w.heap.size,0,none⟩) (.inr (Nat.le_refl _)) _,.slice A5 (j+1) cap5,cs ++ [wr.heap.size],by simp [HL.out],?_,hv5,fun x hx=>?_⟩
    ·refine ⟨by simpa using HOBJ5.out.set 0 (.slice A5 (j+1) cap5),?_,?_,by simp [HL.out],fun i c q h1 h2=>?_,?_,by simp [HL.out]; omega,fun q hq=>?_⟩
     ·have h5:=HR5.out.only qs (fun x hx e=>by
       have hx:x=w.heap.size:=by simpa using hx
       subst hx;exact HR5.out.ne HOBJ5.out (by decide) e)
      rw [List.length_append,HL.out,List.map_append];exact h5
     ·simpa using RowR.nil _ _ _
     ·dsimp only at h2;have hq:q=[]:=(List.mem_replicate.1 (List.mem_of_getElem? h2)).2;subst hq;rcases List.mem_append.1 (List.mem_of_getElem? h1) with h | h
      ·obtain ⟨i',hi'⟩:=List.mem_iff_getElem?.1 h;have hlt:=(List.getElem?_eq_some_iff.1 hi').1;exact hnc c [] (HX4.out.chans i' c [] hi' (by rw [List.getElem?_replicate,if_pos (by rw [← HL.out]; exact hlt)]))
      ·have h:c=wr.heap.size:=by simpa using h
       subst h;exact hnc _ [] HCH4.out
     ·rw [List.nodup_append];refine ⟨HX.out.nodup,by simp,fun a ha b hb e=>?_⟩;have hb:b=wr.heap.size:=by simpa using hb
      subst hb;subst e;obtain ⟨i',hi'⟩:=List.mem_iff_getElem?.1 ha;have hlt:=(List.getElem?_eq_some_iff.1 hi').1;have:=(HX.out.chans i' _ [] hi' (by rw [List.getElem?_replicate,if_pos (by rw [← HL.out]; exact hlt)])).lt;omega
     ·have hq:q=[]:=(List.mem_replicate.1 hq).2;subst hq;exact fun a ha=>by cases ha
    ·rcases List.mem_append.1 hx with h | h
     ·exact HC.out x h
     ·have h:x=wr.heap.size:=by simpa using h
      omega
end
section
open Go.Conc
theorem wp_region_speaks_at {P:Program} {Q:Exit→Act→World→Prop} {id:Nat} {a:Act} {w:World} {l:List Oper} (n:Nat) (o:Oper) (hn:l[n]?=some o)
 (h:wpPre P (fun a' w'=>o.guard=none∧∃ v w1,Speaks P o a' w' v w1∧wpList P l.toArray Q (l.drop (n+1)) (a'.put o.dst v) w1) (l.take n) a w):(Code.region id l.toArray false).wp P Q a w:=by
 have e:l.take n ++ o :: l.drop (n+1)=l:=by
  obtain ⟨hlt,he⟩:=List.getElem?_eq_some_iff.1 hn;rw [← he,List.getElem_cons_drop,List.take_append_drop]
 have:=wp_region_speaks (P:=P) (Q:=Q) (id:=id) (a:=a) (w:=w) (l.take n) o (l.drop (n+1)) (by rw [e]; exact h);rw [e] at this;exact this
theorem pre_step {P:Program} {K:Act→World→Prop} {o:Oper} {rest:List Oper} {a:Act} {w:World} (hg:o.guard=none) (h:∃ v w',(execOp a.eval o).run P w=.ok (.value v) w'∧wpPre P K rest (a.put o.dst v) w'):wpPre P K (o :: rest) a w:=⟨hg,h⟩
section
variable {w w':World} {b:Nat} {bv ov:Value} {cs:List Nat} {s:Bx}
theorem chan_len {W:World} {c:Nat} {q:List Ask} (h:IsChan W c q) (ty:TypeId):(Builtin.len_ #[103] ty #[.chan (some c)]).run Tryz.prog W=.ok (.int .i64 q.length) W:=by
 obtain ⟨s,r,h⟩:=h;have:=run_len_chan (P:=Tryz.prog) 103 ty Tryz.underlying103 h;simpa [goInt] using this
theorem other_at {c:Nat} (hl:cs.length=s.bs.length) (hc:c < cs.length) {j ch:Nat} (h:(cs.take c ++ cs.drop (c+1))[j]?=some ch):∃ i q,i≠c∧cs[i]?=some ch∧s.bs[i]?=some q∧i=if j < c then j else j+1:=by
 have key:∀ i,cs[i]?=some ch→∃ q,s.bs[i]?=some q:=fun i hi=>by
  have:=(List.getElem?_eq_some_iff.1 hi).1;exact ⟨_,List.getElem?_eq_getElem (by omega)⟩
 by_cases hj:j < c
 ·rw [List.getElem?_append_left (by rw [List.length_take]; omega),List.getElem?_take_of_lt hj] at h;obtain ⟨q,hq⟩:=key j h;exact ⟨j,q,by omega,h,hq,by rw [if_pos hj]⟩
 ·rw [List.getElem?_append_right (by rw [List.length_take]; omega),List.getElem?_drop,List.length_take,show c+1+(j - min c cs.length)=j+1 by omega] at h;obtain ⟨q,hq⟩:=key (j+1) h;exact ⟨j+1,q,by omega,h,hq,by rw [if_neg hj]⟩
theorem bpost_any (h:IsBx w b bv ov cs s) (c:Nat) (hc:c < cs.length) (t p:Int) (h1:1≤t) (h2:t≤16) (h3:-1≤p) (h4:p < 65536) (hroom:∀ i q,i≠c→s.bs[i]?=some q→q.length < 16) (hop:s.op.length < 1000000) :
 Calls Tryz.prog 42 #[ptr b,.int .i64 c,.int .i64 t,.int .i64 p] w fun e w'=>e=.returned (.tuple #[.int .i64 (s.op.length+1),.int .i64 0])∧Only (b :: ov.ownBlock.toList ++ cs) w w'∧∃ ov',IsBx w' b bv ov' cs (s.post c t p)∧(ov'.ownBlock=ov.ownBlock∨∀ x,ov'.ownBlock=some x→w.heap.size≤x):=by
 have HH:=hid (bhas_any h c hc);have HOT:=hid (bothers_any h c hc);have H0:=hid h;obtain ⟨A,cap,hv⟩:=h.row.form;obtain ⟨n,hn⟩:∃ n,cs.length=n:=⟨_,rfl⟩;have x0:=h.obj.at 0 (v:=bv) rfl;rw [hv,hn] at x0;rw [hn] at hc;have hn0:((n:Int) == 0)=false:=by
  rw [beq_eq_false_iff_ne];omega
 have d1:decide (t < 1)=false:=decide_eq_false (by omega);have d2:decide (16 < t)=false:=decide_eq_false (by omega);have d3:decide (p < -1)=false:=decide_eq_false (by omega);have d4:decide (65536≤p)=false:=decide_eq_false (by omega);have HN:=hid hn;have HV:=hid hv;have HROOM:=hid hroom;clear h hv hn hroom;go_enter Tryz.func42,Tryz.ntmps42;go_wp2_with fail;refine HH.out.mono ?_;rintro e w1 ⟨rfl,rfl⟩;go_wp2_with fail;refine HOT.out.mono ?_;rintro e w2 ⟨v2,rfl,ho,hr,hf⟩;obtain ⟨l,hl⟩:∃ l,cs.take c ++ cs.drop (c+1)=l:=⟨_,rfl⟩;rw [hl] at hr;obtain ⟨A2,cap2,rfl⟩:=hr.form;obtain ⟨m,hm⟩:∃ m,l.length=m:=⟨_,rfl⟩;have hmn:m=n - 1:=by
  rw [← hm,← hl,List.length_append,List.length_take,List.length_drop,HN.out];omega
 have HL:=hid hl;have HM:=hid hm;have HO2:=hid ho;have HR2:=hid hr;have HF2:=hid hf;have HB2:=hid (H0.out.quiet ho);have x2:=(H0.out.quiet ho).obj.at 1 (v:=ov) rfl;have hn8:=H0.out.cpus;rw [HN.out] at hn8;rw [hm];have hm8:m≤7:=by omega
 have HMN:=hid hmn;clear hmn;obtain ⟨Ao,capo,hov⟩:=H0.out.opn.form;have HOV:=hid hov;rw [hov] at x2;clear hov;clear ho hr hf hl hm x0;go_wp2_with fail;go_loopg [52] m (fun k i wr=>k≤m∧i=.int .i64 ((m:Int) - k)∧w2=wr)
 case atStart=>exact ⟨Nat.le_refl _,by simp,rfl⟩
 case round=>
  obtain ⟨hk,rfl,rfl⟩:=hrel;cases gk with
  | zero=>
   have hlt1:¬ ((m:Int) - ((0:Nat):Int) < m):=by omega
   obtain ⟨i0,hz,hz0,hz1,hz2⟩:=info_parts Tryz.infoInt;have HI0:=hid (And.intro hz (And.intro hz0 (And.intro hz1 hz2)));clear hz hz0 hz1 hz2;have q3:=(Only.refl [] w2).alloc (.cells #[.int .i64 m] 3);have HB3:=hid (HB2.out.quiet q3);have HR3:=hid (HR2.out.quiet q3);have hop3:=(HB2.out.quiet q3).opn;rw [HOV.out] at hop3;have HOP3:=hid hop3;have HU:=hid (show ∀ i u,[Value.int .i64 m][i]?=some u→(w2.alloc (.cells #[.int .i64 m] 3)).cell? ((⟨w2.heap.size,0,none⟩:Addr).add i)=some u from fun i u hu=>by
    rcases i with _ | i
    ·have hu:Value.int .i64 m=u:=by simpa using hu
     subst hu;exact (Blk.new w2 3 #[.int .i64 m]).at 0 rfl
    ·simp at hu)
   have hnb:b ∉ (Value.slice Ao s.op.length capo).ownBlock.toList:=by
    simp only [Option.mem_toList];have:=HB2.out.opn.ne HB2.out.obj (by decide);rwa [HOV.out] at this
   have HNB:=hid hnb;clear q3 hop3 hnb;go_wp2_with (first
    | (at_builtin; (refine wpList_append_R rfl (.tmp 64) (.tmp 67) 66 rfl 3 i0 (.int .i64 0) 1 8 Tryz.underlying66 HI0.out.1 HI0.out.2.1 HI0.out.2.2.1 HI0.out.2.2.2 rfl (by decide) (.slice Ao s.op.length capo) s.op.length (s.op.map (Value.int .i64)) (by with_unfolding_all rfl) HOP3.out ⟨w2.heap.size,0,none⟩ 1 1 [.int .i64 m] (by with_unfolding_all rfl) rfl HU.out (by intro u hu; simp at hu; subst hu; rfl) (by unfold maxLen; omega) (by omega) ?_)
       intro v5 w5 hr5 ho5 hw5;obtain ⟨A5,cap5,rfl⟩:=hr5.form;have HR5:=hid hr5;have HO5:=hid ho5;have HW5:=hid hw5;have HB5:=hid (HB3.out.obj.only ho5 HNB.out);have y1:=HB5.out.at 1 (v:=ov) rfl;have g5:=HB5.out.frozen 1;rw [HOV.out] at y1;clear hr5 ho5 hw5)
    | fail)
   have hMid:True:=trivial;obtain ⟨w6,hw6⟩:∃ w6,w5.setCell ⟨b,1,none⟩ (.slice A5 (s.op.length+1) cap5)=w6:=⟨_,rfl⟩
   try rw [hw6]
   go_loopg [78] m (fun k i wr=>k≤m∧i=.int .i64 ((m:Int) - k)∧Only (b :: ov.ownBlock.toList ++ cs) w wr∧RowR wr 103 1 (.slice A2 m cap2) m (l.map fun c=>Value.chan (some c))∧Blk wr b 102 #[bv,.slice A5 (s.op.length+1) cap5]∧RowR wr 3 1 (.slice A5 (s.op.length+1) cap5) (s.op.length+1) ((s.op ++ [(m:Int)]).map (Value.int .i64))∧RowR wr 103 1 bv cs.length (cs.map fun c=>Value.chan (some c))∧∀ (i ch:Nat) (q:List Ask),cs[i]?=some ch→s.bs[i]?=some q→IsChan wr ch (if i≠c∧(if i < c then i else i - 1) < m - k then q ++ [⟨s.op.length+1,t,p⟩] else q))
   case atStart=>
    have h5:=HO5.out;rw [← HOV.out] at h5;have hb3:=HB3.out.obj;have hne:∀ {e n v xs},RowR (w2.alloc (.cells #[.int .i64 m] 3)) e 1 v n xs→e≠3→∀ x ∈ ov.ownBlock.toList,v.ownBlock≠some x:=fun hr he x hx e1=>by
     obtain ⟨_,cs1,q1⟩:=hr.lt x e1;obtain ⟨_,cs2,q2⟩:=HB3.out.opn.lt x (Option.mem_toList.1 hx);exact he (q1.inj q2).1
    have h6:Only [b] w5 w6:=by rw [← hw6]; exact (Only.refl [b] w5).setCell (p:=⟨b,1,none⟩) (.inl (.head _)) _
    have hob:b ∉ ov.ownBlock.toList:=by
     have:=HNB.out;rwa [← HOV.out] at this
    have hrow:∀ {e n v xs},RowR (w2.alloc (.cells #[.int .i64 m] 3)) e 1 v n xs→e≠3→e≠102→RowR w6 e 1 v n xs:=fun hr he he2=>(hr.only h5 (hne hr he)).only h6 fun x hx e1=>by
     have hx:x=b:=by simpa using hx
     subst hx;obtain ⟨_,cs1,q1⟩:=hr.lt x e1;exact he2 (q1.inj hb3).1
    have h3:Only [] w (w2.alloc (.cells #[.int .i64 m] 3)):=HO2.out.alloc _;have hO:Only (b :: ov.ownBlock.toList ++ cs) w w6:=((h3.sub (show [] ⊆ b :: ov.ownBlock.toList ++ cs by simp)).trans (h5.sub (fun x hx=>List.mem_append_left _ (List.mem_cons_of_mem _ hx)))).trans (h6.sub (fun x hx=>List.mem_append_left _ (by
     have hx:x=b:=by simpa using hx
     rw [hx];exact .head _)))
    have hr3:=HR3.out;rw [HM.out] at hr3;refine ⟨Nat.le_refl _,by simp,hO,hrow hr3 (by decide) (by decide),?_,?_,hrow HB3.out.row (by decide) (by decide),fun i ch q h1 h2=>?_⟩
    ·rw [← hw6];simpa using HB5.out.set 1 (.slice A5 (s.op.length+1) cap5)
    ·have:=HR5.out.only h6 (fun x hx e1=>by
      have hx:x=b:=by simpa using hx
      subst hx;obtain ⟨_,cs1,q1⟩:=HR5.out.lt x e1;exact absurd (q1.inj HB5.out).1 (by decide))
     simpa using this
    ·rw [if_neg (by omega)];have h7:=HB3.out.chans i ch q h1 h2;refine (h7.only h5 (fun hm=>?_)).only h6 (by
      have:=h7.ne hb3;simpa using this)
     obtain ⟨_,cs2,q2⟩:=HB3.out.opn.lt ch (Option.mem_toList.1 hm);exact h7.ne q2 rfl
   case round=>
    obtain ⟨hk,rfl,ho,hr,hb,hop',hrb,hch⟩:=hrel;have HO:=hid ho;have HRr:=hid hr;have HBb:=hid hb;have HOPo:=hid hop';have HRB:=hid hrb;have HCH:=hid hch;cases gk with
    | zero=>
     have hlt1:¬ ((m:Int) - ((0:Nat):Int) < m):=by omega
     clear ho hr hb hop' hrb hch;go_wp2_with fail;go_ret2;have hsl:s.bs.length=n:=by rw [← HN.out,H0.out.len]
     refine ⟨rfl,HO.out,_,⟨HBb.out,HRB.out,?_,?_,fun i ch q h1 h2=>?_,H0.out.nodup,H0.out.cpus,fun q hq a ha=>?_⟩,?_⟩
     ·have:=HOPo.out;unfold Bx.post;dsimp only;rw [List.length_append,List.length_singleton];rw [show ((s.bs.length:Int) - 1)=(m:Int) by rw [hsl]; have:=HMN.out; omega];exact this
     ·unfold Bx.post;rw [List.length_mapIdx];exact H0.out.len
     ·unfold Bx.post at h2;dsimp only at h2;rw [List.getElem?_mapIdx] at h2;cases hq0:s.bs[i]? with
      | none=>rw [hq0] at h2; cases h2
      | some q0=>
       rw [hq0] at h2;simp only [Option.map_some,Option.some.injEq] at h2;have h3:=HCH.out i ch q0 h1 hq0;have hin:i < n:=by
        have:=(List.getElem?_eq_some_iff.1 h1).1;rw [← HN.out];exact this
       by_cases hic:i=c
       ·rw [if_pos hic] at h2;subst h2;rwa [if_neg (fun h=>h.1 hic)] at h3
       ·rw [if_neg hic] at h2;subst h2;rwa [if_pos ⟨hic,by have:=HMN.out; split <;> omega⟩] at h3
     ·unfold Bx.post at hq ⊢;dsimp only at hq ⊢;rw [List.length_append,List.length_singleton];obtain ⟨i,hi,e⟩:=List.mem_iff_getElem.1 hq;rw [List.getElem_mapIdx] at e;have hi':i < s.bs.length:=by simpa using hi
      have hold:∀ a ∈ s.bs[i],1≤a.id∧a.id≤s.op.length:=H0.out.ids _ (List.getElem_mem hi');split at e
      ·subst e;have:=hold a ha;omega
      ·subst e;rcases List.mem_append.1 ha with h | h
       ·have:=hold a h;omega
       ·have h:a=⟨s.op.length+1,t,p⟩:=by simpa using h
        subst h;constructor
        ·show (1:Int)≤(s.op.length:Int)+1;omega
        ·show ((s.op.length:Int)+1)≤_;omega
     ·rcases HW5.out with h | h
      ·exact .inl (by rw [h,HOV.out])
      ·right;intro x hx;rw [h] at hx;have hz2:=HO2.out.size;have:(w2.alloc (.cells #[.int .i64 m] 3)).heap.size=x:=by simpa using hx
       simp at this;omega
    | succ k=>
     obtain ⟨j,hj⟩:∃ j,m - (k+1)=j:=⟨_,rfl⟩;have ej:(m:Int) - ((k+1:Nat):Int)=(j:Int):=by omega
     have hjm:j < m:=by omega
     rw [ej];rw [hj] at HCH;have hlt1:(j:Int) < m:=by omega
     have i0':(0:Int)≤(j:Int):=by omega
     have ew2:IntKind.i64.wrap ((j:Int)+1)=(j:Int)+1:=by rw [IntKind.wrap_i64]; omega
     obtain ⟨ch,hch'⟩:∃ ch,l[j]?=some ch:=⟨l[j]'(by rw [HM.out]; exact hjm),List.getElem?_eq_getElem _⟩;obtain ⟨g,cap',cur,hv2,hb2,hnc2,_,_,hcc2⟩:=hr.has (by omega);have xg:=hb2.at j (hcc2 j (.chan (some ch)) (by simp [hch']));injection hv2 with e1 e2 e3;subst e1 e3;obtain ⟨i,q,hi1,hi2,hi3,hi4⟩:=other_at (s:=s) H0.out.len (by rw [HN.out]; exact hc) (by rw [HL.out]; exact hch');have hql:=HROOM.out i q hi1 hi3;have hisc:=HCH.out i ch q hi2 hi3;rw [if_neg (by
      rintro ⟨_,h⟩;subst hi4;by_cases hjc:j < c
      ·simp only [hjc,if_true] at h;omega
      ·simp only [hjc,if_false,show ¬ j+1 < c by omega] at h;omega)] at hisc
     obtain ⟨ss,rr,hcn⟩:=hisc;have HCN:=hid hcn;have HI:=hid (And.intro hi1 (And.intro hi2 (And.intro hi3 hi4)));clear ho hr hb hop' hrb hch hb2 hcc2 ej e2 hcn hi1 hi2 hi3 hi4;go_upto_region 19 with fail;refine wp_region_speaks_at 5 _ rfl ?_;simp only [List.take_succ_cons,List.take_zero,List.drop_succ_cons,List.drop_nil]
     repeat
      (refine pre_step rfl ?_
       apply Exists.intro;apply Exists.intro;refine ⟨?_,?_⟩
       ·first
         | (simp [execOp,Act.eval]; first | done | exact ⟨rfl,rfl⟩)
         | (go_simp; first | done | exact ⟨rfl,rfl⟩ | rfl)
       go_simp)
     unfold wpPre;obtain ⟨wz,hwz⟩:∃ wz,wr.setChan ch 16 ((List.map Ask.val q).toArray.push (Ask.val ⟨s.op.length+1,t,p⟩)) false (ss+1) rr false=wz:=⟨_,rfl⟩;refine ⟨_,wz,(by rw [← hwz]; exact speaks_send (c:=ch) (v:=Ask.val ⟨s.op.length+1,t,p⟩) (z':=.tuple #[]) (by simp [execOp,Act.eval,scase,ask_out]) HCN.out (by simpa using hql)),?_⟩;have HWZ:=hid hwz;clear hwz;go_wp2_with fail;go_roundg k
     case measure=>omega
     case rel=>
      obtain ⟨hi1,hi2,hi3,hi4⟩:=HI.out;have e1:(j:Int)+1=(m:Int) - k:=by omega
      have e2:m - k=j+1:=by omega
      have qs:Only [ch] wr (wr.setChan ch 16 ((List.map Ask.val q).toArray.push (Ask.val ⟨s.op.length+1,t,p⟩)) false (ss+1) rr false):=only_setChan;have hisc:IsChan wr ch q:=⟨ss,rr,HCN.out⟩;have hwz:=HWZ.out;subst hwz;have hnch:∀ {g t cur},Blk wr g t cur→g≠ch:=fun hb=>(hisc.ne hb).symm;have hrow:∀ {e n v xs},RowR wr e 1 v n xs→RowR (wr.setChan ch 16 ((List.map Ask.val q).toArray.push (Ask.val ⟨s.op.length+1,t,p⟩)) false (ss+1) rr false) e 1 v n xs:=fun hr=>hr.only qs fun x hx e=>by
       have hx:x=ch:=by simpa using hx
       subst hx;obtain ⟨_,cs',hb⟩:=hr.lt _ e;exact hnch hb rfl
      refine ⟨by omega,by rw [e1],HO.out.trans (qs.sub fun x hx=>?_),hrow HRr.out,HBb.out.only qs (by simpa using hnch HBb.out),hrow HOPo.out,hrow HRB.out,fun i' ch' q' h1 h2=>?_⟩
      ·have hx:x=ch:=by simpa using hx
       subst hx;exact List.mem_append_right _ (List.mem_of_getElem? hi2)
      ·rw [e2];by_cases hii:i'=i
       ·subst hii;rw [hi2] at h1;cases h1;rw [hi3] at h2;cases h2;rw [if_pos ⟨hi1,by
         subst hi4;by_cases hjc:j < c
         ·simp only [hjc,if_true];omega
         ·simp only [hjc,if_false,show ¬ j+1 < c by omega];omega⟩]
        refine ⟨ss+1,rr,?_⟩;rw [heap_setChan _ _ _ _ _ _ _ _ hisc.lt];simp
       ·have h3:=HCH.out i' ch' q' h1 h2;have hne:ch'≠ch:=fun e=>hii ((List.getElem?_inj (List.getElem?_eq_some_iff.1 h1).1 H0.out.nodup).1 (h1.trans (e ▸ hi2.symm)));have e3:(i'≠c∧(if i' < c then i' else i' - 1) < j+1)↔(i'≠c∧(if i' < c then i' else i' - 1) < j):=by
         constructor
         ·rintro ⟨q1,q2⟩;refine ⟨q1,?_⟩;rcases Nat.lt_or_ge (if i' < c then i' else i' - 1) j with h | h
          ·exact h
          ·exfalso;have:(if i' < c then i' else i' - 1)=j:=by omega
           apply hii;rw [hi4];split at this <;> split <;> omega
         ·rintro ⟨q1,q2⟩;exact ⟨q1,by omega⟩
        rw [show (if i'≠c∧(if i' < c then i' else i' - 1) < j+1 then q' ++ [(⟨s.op.length+1,t,p⟩:Ask)] else q')=(if i'≠c∧(if i' < c then i' else i' - 1) < j then q' ++ [(⟨s.op.length+1,t,p⟩:Ask)] else q') from by
         by_cases hh:i'≠c∧(if i' < c then i' else i' - 1) < j
         ·rw [if_pos hh,if_pos (e3.2 hh)]
         ·rw [if_neg hh,if_neg (fun h=>hh (e3.1 h))]]
        exact h3.only qs (by simpa using hne)
  | succ k=>
   obtain ⟨j,hj⟩:∃ j,m - (k+1)=j:=⟨_,rfl⟩;have ej:(m:Int) - ((k+1:Nat):Int)=(j:Int):=by omega
   have hjm:j < m:=by omega
   rw [ej];have hlt1:(j:Int) < m:=by omega
   have i0:(0:Int)≤(j:Int):=by omega
   have ew2:IntKind.i64.wrap ((j:Int)+1)=(j:Int)+1:=by rw [IntKind.wrap_i64]; omega
   obtain ⟨ch,hch⟩:∃ ch,l[j]?=some ch:=⟨l[j]'(by rw [HM.out]; exact hjm),List.getElem?_eq_getElem _⟩;obtain ⟨g,cap',cur,hv2,hb2,hnc2,_,_,hcc2⟩:=HR2.out.has (by rw [HM.out]; omega);have xg:=hb2.at j (hcc2 j (.chan (some ch)) (by simp [hch]));rw [HM.out] at hv2 hnc2;injection hv2 with e1 e2 e3;subst e1 e3;obtain ⟨i,q,hi1,hi2,hi3,_⟩:=other_at (s:=s) H0.out.len (by rw [HN.out]; exact hc) (by rw [HL.out]; exact hch);have hql:=HROOM.out i q hi1 hi3;have hlen:=chan_len (HB2.out.chans i ch q hi2 hi3);have hq16:((q.length:Int) == 16)=false:=by
    rw [beq_eq_false_iff_ne];omega
   clear hb2 hcc2 ej e2;go_wp2_with fail;go_roundg k
   case measure=>omega
   case rel=>
    have e1:(j:Int)+1=(m:Int) - k:=by omega
    exact ⟨by omega,by rw [e1],rfl⟩
end
end
end Go.Proofs.YtadgpnoealegiaaGreat
