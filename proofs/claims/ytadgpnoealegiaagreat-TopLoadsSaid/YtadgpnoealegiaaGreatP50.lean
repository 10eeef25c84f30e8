import Derived.Test.YtadgpnoealegiaaGreatP49
namespace Go.Proofs.YtadgpnoealegiaaGreat
open Go.RowKit
open Go.Lib (hid)
set_option maxRecDepth 100000
set_option maxHeartbeats 20000000
theorem encMk_one (ms:List Mk):∀ u ∈ ms.flatMap encMk,u.oneCell'=true:=fun u hu=>by
 obtain ⟨m,_,hm⟩:=List.mem_flatMap.1 hu;simp [encMk] at hm;rcases hm with rfl | rfl | rfl | rfl | rfl | rfl | rfl | rfl | rfl <;> rfl
theorem marks_len (ms:List Mk):(ms.flatMap encMk).length=ms.length * 9:=by
 induction ms with
 | nil=>rfl
 | cons m ms ih=>
  rw [List.flatMap_cons,List.length_append,ih,encMk_len,List.length_cons];omega
section
variable {w w':World} {p:MuP} {sz:Nat} {x:X}
theorem mmarks_any (h:IsMu w p sz x) (h0:0 < x.mks.length) (h1:x.mks.length < 100000000):Calls Tryz.prog 6 #[ptr p.b] w fun e w'=>∃ v,e=.returned v∧Only [] w w'∧RowR w' 40 9 v x.mks.length (x.mks.flatMap encMk)∧∀ g,v.ownBlock=some g→w.heap.size≤g:=by
 obtain ⟨n,hn⟩:∃ n,x.mks.length=n:=⟨_,rfl⟩;obtain ⟨g,cap,cur,hv,hb,hnc,_,_,hcc⟩:=h.mks.has h0;rw [hn] at hv hnc h0 h1;have x5:=h.obj.at 5 (v:=p.mv) rfl;rw [hv] at x5;obtain ⟨fl,hfl⟩:∃ fl,x.mks.flatMap encMk=fl:=⟨_,rfl⟩;have hfl9:fl.length=n * 9:=by rw [← hfl,marks_len,hn]
 have HL:=hid hfl9;have HONE:=hid (show ∀ u ∈ fl,u.oneCell'=true by rw [← hfl]; exact encMk_one _);rw [hfl] at hcc ⊢;rw [hn];have HU:=hid (show ∀ (j:Nat) u,fl[j]?=some u→w.cell? ((⟨g,0,none⟩:Addr).add j)=some u from fun j u hu=>by
  have e:(⟨g,0,none⟩:Addr).add j=⟨g,j,none⟩:=by
   unfold Addr.add;split
   ·rename_i hj;rw [hj]
   ·simp
  rw [e];exact hb.at j (hcc j u hu))
 obtain ⟨i0,hz,hz0,hz1,hz2⟩:=info_parts Tryz.infoMark;have HI0:=hid (And.intro hz (And.intro hz0 (And.intro hz1 hz2)));have HRN:=hid (RowR.nil w 40 9);have HLW:=hid (Nat.le_refl w.heap.size);clear h hn hv hb hcc hfl hfl9 hz hz0 hz1 hz2;go_enter Tryz.func6,Tryz.ntmps6;go_wp2_with (first
  | (at_builtin; (refine wpList_append_R rfl (.const (.slice none 0 0)) (.tmp 8) 34 rfl 40 i0 (.agg #[.int .i64 0,.int .i64 0,.int .i64 0,.int .i64 0,.int .u64 0,.int .u64 0,.int .u64 0,.int .u64 0,.int .i64 0]) 9 72 Tryz.underlying34 HI0.out.1 HI0.out.2.1 HI0.out.2.2.1 HI0.out.2.2.2 rfl (by decide) (.slice none 0 0) 0 [] (by with_unfolding_all rfl) HRN.out ⟨g,0,none⟩ n cap fl (by with_unfolding_all rfl) HL.out HU.out HONE.out (by unfold maxLen; omega) (by omega) (fun v5 w5 hr5 ho5 hw5=>?_)))
  | fail)
 obtain ⟨A5,cap5,rfl⟩:=hr5.form;have HR:=hid hr5;have HO:=hid ho5;have HW:=hid hw5;clear hr5 ho5 hw5;go_wp2_with fail;go_ret;have hr:=HR.out;rw [Nat.zero_add,List.nil_append] at hr;have ho:Only [] w w5:=HO.out;refine ⟨_,rfl,ho,?_,fun q hq=>?_⟩
 ·show RowR w5 _ 9 (.slice A5 (0+n) cap5) n fl;rw [Nat.zero_add];exact hr
 ·have hq:(Value.slice A5 (0+n) cap5).ownBlock=some q:=hq;rcases HW.out with h | h
  ·rw [h] at hq;cases hq
  ·rw [h] at hq;injection hq with hq;omega
end
theorem Tryz.infoPCpu : (Tryz.prog.info? 64).map (fun i=>(i.zero,i.size,i.bytes))=some (some (.pointer none),1,8):=by kernel_rfl
structure NwAt (w0:World) (n cpus lines:Nat) (p:MuP) (j:Nat) (w:World):Prop where
 obj:Blk w p.b 54 #[ptr p.a.hb,ptr p.eb,ptr p.xb,p.cpv,.map (some p.kr),.slice none 0 0]
 cpr:RowR w 64 1 p.cpv j ((List.range j).map fun i=>ptr (p.q i).cb)
 kn:IsMap w p.kr (fun _=>none)
 mv:p.mv=.slice none 0 0
 hv:IsHv w p.a (HS.new n)
 ep:IsEp w p.eb p.pv p.em ⟨0,List.replicate cpus (-1),fun _=>none⟩
 bx:IsBx w p.xb p.bv p.ov p.cs ⟨List.replicate cpus [],[]⟩
 cpu:∀ i,i < j→IsCpu w (p.q i) i lines (Cpu.rest [])
 ft:IsFoot w (p.foot j)
 fr:∀ i,∀ y ∈ p.foot j i,w0.heap.size≤y
 o:Only [] w0 w
def cpuNew (cb tb:Nat):CpP:=⟨cb,tb,.slice none 0 0,none,.slice none 0 0,.slice none 0 0⟩
def MuP.add (p:MuP) (j:Nat) (q:CpP) (v:Value):MuP:={ p with cpv:=v,q:=fun i=>if i=j then q else p.q i }
theorem NwAt.quiet {w0 w w':World} {n cpus lines j:Nat} {p:MuP} (h:NwAt w0 n cpus lines p j w) (o:Only [] w w'):NwAt w0 n cpus lines p j w':=
 ⟨h.obj.only o (by simp),h.cpr.quiet o,h.kn.only o (by simp),h.mv,h.hv.quiet o,h.ep.quiet o,h.bx.quiet o,fun i hi=>(h.cpu i hi).only o (by simp),h.ft.quiet o,h.fr,h.o.trans o⟩
theorem NwAt.step {w0 wr w4 w5 w6:World} {n cpus lines j:Nat} {p:MuP} (h:NwAt w0 n cpus lines p j wr) (q1:Only [] wr w4) {tb cb:Nat} (htb:wr.heap.size≤tb) (ht:IsTlb w4 tb (.slice none 0 0) [] lines) (hcb:wr.heap.size≤cb)
 (hb:Blk w4 cb 68 #[.int .i64 j,ptr tb,.int .i64 0,.int .i64 0,.int .i64 0,.int .u64 0,.int .u64 0,.int .u64 0,.pointer none,.int .i64 0,.int .u64 0,.int .i64 0,.int .i64 0,.slice none 0 0]) (o5:Only p.cpv.ownBlock.toList w4 w5) {v:Value} (hr:RowR w5 64 1 v (j+1) (((List.range j).map fun i=>ptr (p.q i).cb) ++ [ptr cb]))
 (hown:v.ownBlock=p.cpv.ownBlock∨v.ownBlock=some w4.heap.size) (h6:w6=w5.setCell ⟨p.b,3,none⟩ v):NwAt w0 n cpus lines (p.add j (cpuNew cb tb) v) (j+1) w6:=by
 have o6:Only [p.b] w5 w6:=by rw [h6]; exact (Only.refl [p.b] w5).setCell (p:=⟨p.b,3,none⟩) (.inl (.head _)) _
 have oall:Only (p.b :: p.cpv.ownBlock.toList) wr w6:=((q1.sub (by simp)).trans (o5.sub (by simp))).trans (o6.sub (by simp));have o46:Only (p.b :: p.cpv.ownBlock.toList) w4 w6:=(o5.sub (by simp)).trans (o6.sub (by simp));have hz1:=q1.size;have hz5:=o5.size;have hz6:=o6.size;have hz0:=h.o.size;have hT0:∀ y ∈ p.b :: p.cpv.ownBlock.toList,y ∈ p.foot j 0:=fun y hy=>by
  simp only [List.mem_cons,Option.mem_toList] at hy;rcases hy with rfl | hy
  ·simp [MuP.foot,MuP.own]
  ·simp [MuP.foot,MuP.own,hy]
 have hTl:∀ y ∈ p.b :: p.cpv.ownBlock.toList,y < wr.heap.size:=fun y hy=>h.ft.lim 0 y (hT0 y hy);have hnew:∀ {y},wr.heap.size≤y→y ∉ p.b :: p.cpv.ownBlock.toList:=fun {y} hy hm=>by
  have:=hTl y hm;omega
 have hout:∀ {i y},i≠0→y ∈ p.foot j i→y ∉ p.b :: p.cpv.ownBlock.toList:=fun {i y} hi hy ht=>h.ft.dis i 0 hi y hy (hT0 y ht);have hown2:∀ {i:Nat} {u:Value},i≠0→(∀ y,u.ownBlock=some y→y ∈ p.foot j i)→∀ y ∈ p.b :: p.cpv.ownBlock.toList,u.ownBlock≠some y:=fun {i u} hi hm y hy e=>hout hi (hm y e) hy;have hkr:p.kr ∉ p.b :: p.cpv.ownBlock.toList:=fun hm=>by
  simp only [List.mem_cons,Option.mem_toList] at hm;rcases hm with e | hm
  ·exact h.kn.ne_blk h.obj e
  ·obtain ⟨_,cs,hb⟩:=h.cpr.lt _ hm;exact h.kn.ne_blk hb rfl
 have hpb:p.b ∉ p.cpv.ownBlock.toList:=fun hm=>h.cpr.ne h.obj (by decide) (Option.mem_toList.1 hm);have hobj:=(((h.obj.only q1 (by simp)).only o5 hpb).set 3 v);rw [← h6] at hobj;have hvb:∀ y ∈ [p.b],v.ownBlock≠some y:=fun y hy e=>by
  rw [List.mem_singleton.1 hy] at e;exact hr.ne ((h.obj.only q1 (by simp)).only o5 hpb) (by decide) e
 have hqe:∀ i,(p.add j (cpuNew cb tb) v).q i=if i=j then cpuNew cb tb else p.q i:=fun i=>rfl;have hmv:(p.add j (cpuNew cb tb) v).mv=.slice none 0 0:=h.mv;have htl:=ht.obj.lt;have hcl:=hb.lt;have hfoot:∀ i,i≠0→i≠j+4→(p.add j (cpuNew cb tb) v).foot (j+1) i=p.foot j i:=fun i h0 hj4=>by
  match i with
  | 0=>exact absurd rfl h0
  | 1=>rfl
  | 2=>rfl
  | 3=>rfl
  | i+4=>
   have hij:i≠j:=by omega
   show (if i < j+1 then ((p.add j (cpuNew cb tb) v).q i).fp else [])=if i < j then (p.q i).fp else [];have e:(p.add j (cpuNew cb tb) v).q i=p.q i:=by rw [hqe,if_neg hij]
   rw [e];by_cases hl:i < j
   ·rw [if_pos hl,if_pos (by omega)]
   ·rw [if_neg hl,if_neg (by omega)]
 have hfj:(p.add j (cpuNew cb tb) v).foot (j+1) (j+4)=[cb,tb]:=by
  rw [foot_cpu (Nat.lt_succ_self j),hqe,if_pos rfl];rfl
 have hf0:∀ y ∈ (p.add j (cpuNew cb tb) v).foot (j+1) 0,y ∈ p.foot j 0∨y=w4.heap.size∧v.ownBlock=some y:=fun y hy=>by
  have hy:y ∈ p.b :: p.kr :: (v.ownBlock.toList ++ p.mv.ownBlock.toList):=hy;simp only [List.mem_cons,List.mem_append,Option.mem_toList] at hy;rcases hy with rfl | rfl | hy | hy
  ·left; simp [MuP.foot,MuP.own]
  ·left; simp [MuP.foot,MuP.own]
  ·rcases hown with e | e
   ·left;rw [e] at hy;simp [MuP.foot,MuP.own,hy]
   ·right;refine ⟨?_,hy⟩;rw [e] at hy;injection hy with hy;exact hy.symm
  ·left; simp [MuP.foot,MuP.own,hy]
 refine ⟨by simpa [MuP.add] using hobj,?_,h.kn.only oall hkr,hmv,h.hv.only oall (fun y hy hm=>hout (i:=1) (by omega) hm hy),
  h.ep.only oall (hout (i:=2) (by omega) (by simp [MuP.foot])) (hown2 (i:=2) (by omega) fun y e=>by simp [MuP.foot,e]) (hout (i:=2) (by omega) (by simp [MuP.foot])),
  h.bx.only oall (hout (i:=3) (by omega) (by simp [MuP.foot])) (hown2 (i:=3) (by omega) fun y e=>by simp [MuP.foot,e]) (hown2 (i:=3) (by omega) fun y e=>by simp [MuP.foot,e]) (fun y hy hm=>hout (i:=3) (by omega) (by simp [MuP.foot,hm]) hy),
  fun i hi=>?_,?_,fun i y hy=>?_,?_⟩
 ·have e:((List.range (j+1)).map fun i=>ptr ((p.add j (cpuNew cb tb) v).q i).cb)=((List.range j).map fun i=>ptr (p.q i).cb) ++ [ptr cb]:=by
   rw [List.range_succ,List.map_append];congr 1
   ·refine List.map_congr_left fun i hi=>?_;have hi:=List.mem_range.1 hi;rw [hqe,if_neg (by omega)]
   ·show [ptr ((p.add j (cpuNew cb tb) v).q j).cb]=_;rw [hqe,if_pos rfl];rfl
  rw [e];exact hr.only o6 hvb
 ·by_cases hij:i=j
  ·subst hij;rw [hqe,if_pos rfl];refine ⟨?_,ht.only o46 (hnew htb) (fun y hy=>nofun),fun h=>absurd h (show ¬ (0:Int)=2 by decide),RowR.nil _ _ _,fun y hy=>(by cases hy),by show (0:Int) < 9223372036854775808; decide,by show (0:Int)≤0; decide,by show (0:Int)≤4; decide⟩;exact hb.only o46 (hnew hcb)
  ·rw [hqe,if_neg hij];refine (h.cpu i (by omega)).only oall fun y hy hm=>hout (i:=i+4) (by omega) ?_ hy;rw [foot_cpu (show i < j by omega)];exact hm
 ·have F1:IsFoot w6 (fun i=>if i=j+4 then [cb,tb] else p.foot j i):=h.ft.step oall (j+4) (fun i hi=>if_neg hi) fun y hy=>by
   rw [if_pos rfl] at hy;have hy:y=cb∨y=tb:=by simpa using hy
   exact .inr (by rcases hy with rfl | rfl <;> exact ⟨by omega,by omega⟩)
  refine F1.step2 (Only.refl [] w6) 0 (fun i hi=>?_) fun y hy=>?_
  ·by_cases hj:i=j+4
   ·subst hj;rw [if_pos rfl];exact hfj
   ·rw [if_neg hj];exact hfoot i hi hj
  ·rw [if_neg (by omega)];rcases hf0 y hy with h1 | ⟨rfl,h1⟩
   ·exact .inl h1
   ·refine .inr ⟨fun i hi=>?_,?_⟩
    ·by_cases hj:i=j+4
     ·rw [if_pos hj] at hi;have hi:w4.heap.size=cb∨w4.heap.size=tb:=by simpa using hi
      omega
     ·rw [if_neg hj] at hi;have:=h.ft.lim i _ hi;omega
    ·have:=(hr.lt _ h1).1;omega
 ·by_cases h0:i=0
  ·subst h0;rcases hf0 y hy with h1 | ⟨rfl,_⟩
   ·exact h.fr 0 y h1
   ·omega
  ·by_cases hj:i=j+4
   ·subst hj;rw [hfj] at hy;have hy:y=cb∨y=tb:=by simpa using hy
    omega
   ·rw [hfoot i h0 hj] at hy;exact h.fr i y hy
 ·exact h.o.then oall fun y hy=>.inr (h.fr 0 y (hT0 y hy))
theorem NwAt.mu {w0 w:World} {n cpus lines:Nat} {p:MuP} (h:NwAt w0 n cpus lines p cpus w) (h1:1≤cpus) (h8:cpus≤8):IsMu w p lines (X.new n cpus):=by
 have hl:(X.new n cpus).cp.length=cpus:=by simp [X.new]
 refine ⟨by rw [h.mv]; exact h.obj,by rw [hl]; exact h.cpr,?_,by rw [h.mv]; exact RowR.nil _ _ _,h.hv,h.ep,h.bx,fun i u hu=>?_,by rw [hl]; exact h.ft,by rw [hl]; exact ⟨h1,h8⟩⟩
 ·have e:knV (X.new n cpus).kn=fun _=>none:=by
   funext k;rfl
  rw [e];exact h.kn
 ·have hu:(List.replicate cpus (Cpu.rest []))[i]?=some u:=hu;rw [List.getElem?_replicate] at hu;split at hu
  ·rename_i hi;injection hu with hu;rw [← hu];exact h.cpu i hi
  ·cases hu
theorem mnew_any (w:World) (n cpus lines:Nat) (h0:4≤n) (h1:n≤4096) (hc0:1≤cpus) (hc8:cpus≤8) (hl0:1≤lines) (hl1:lines≤64):Calls Tryz.prog 8 #[.int .i64 n,.int .i64 cpus,.int .i64 lines] w fun e w'=>∃ p,e=.returned (.tuple #[ptr p.b,.int .i64 0])∧Only [] w w'∧IsMu w' p lines (X.new n cpus)∧∀ i,∀ y ∈ p.foot cpus i,w.heap.size≤y:=by
 obtain ⟨i0,hz,hz0,hz1,hz2⟩:=info_parts Tryz.infoPCpu;have HI0:=hid (And.intro hz (And.intro hz0 (And.intro hz1 hz2)));clear hz hz0 hz1 hz2;have hmm:=@run_makeMap Tryz.prog;go_enter Tryz.func8,Tryz.ntmps8;go_wp2_with fail;refine (hnew_any w n h0 h1).mono ?_;rintro e w1 ⟨a,rfl,ho1,hf1,hh1⟩;have H1:=hid (And.intro ho1 (And.intro hf1 hh1));clear ho1 hf1 hh1;go_wp2_with fail;refine (enew_any w1 cpus hc0 hc8).mono ?_;rintro e w2 ⟨eb,em,pv,rfl,ho2,he2,hb2,hm2,hp2⟩;have H2:=hid (And.intro ho2 (And.intro he2 (And.intro hb2 (And.intro hm2 hp2))));clear ho2 he2 hb2 hm2 hp2;obtain ⟨W3,hW3⟩:∃ W3,(w2.alloc (.map #[] 0)).alloc (.cells #[ptr a.hb,ptr eb,.pointer none,.slice none 0 0,.map (some w2.heap.size),.slice none 0 0] 54)=W3:=⟨_,rfl⟩;have q3:Only [] w2 W3:=by rw [← hW3]; exact ((Only.refl [] w2).alloc _).alloc _
 have hs3:W3.heap.size=w2.heap.size+2:=by rw [← hW3]; simp
 have hb3:Blk W3 (w2.heap.size+1) 54 #[ptr a.hb,ptr eb,.pointer none,.slice none 0 0,.map (some w2.heap.size),.slice none 0 0]:=by rw [← hW3]; exact Blk.new' _ _ _ (by simp)
 have hm3:IsMap W3 w2.heap.size (fun _=>none):=by rw [← hW3]; exact (IsMap.new w2).only ((Only.refl [] _).alloc _) (by simp)
 have HW3:=hid (And.intro q3 (And.intro hs3 (And.intro hb3 hm3)));have HWE:=hid hW3;clear q3 hs3 hb3 hm3 hW3;go_upto_region 8 with fail;rw [HWE.out];go_wp2_with fail;refine (bnew_any W3 cpus hc0 hc8).mono ?_;rintro e w4 ⟨xb,bv,cs,rfl,ho4,hx4,hxb,hbv,hcs⟩;have hb4:=HW3.out.2.2.1.only ho4 (by simp);have c2:=hb4.at 2 (v:=.pointer none) rfl;have f2:=hb4.frozen 2;obtain ⟨W5,hW5⟩:∃ W5,w4.setCell ⟨w2.heap.size+1,2,none⟩ (ptr xb)=W5:=⟨_,rfl⟩;obtain ⟨p0,hp0⟩:∃ p0:MuP,p0=⟨w2.heap.size+1,a,eb,em,pv,xb,bv,.slice none 0 0,cs,.slice none 0 0,w2.heap.size,.slice none 0 0,fun _=>cpuNew 0 0⟩:=⟨_,rfl⟩;have hN:NwAt w n cpus lines p0 0 W5:=by
  obtain ⟨o1,fp1,hh1⟩:=H1.out;obtain ⟨o2,he2,eb2,em2,pv2⟩:=H2.out;obtain ⟨q3,hs3,hb3,hm3⟩:=HW3.out;have z1:=o1.size;have z2:=o2.size;have z4:=ho4.size;have o5:Only [w2.heap.size+1] w4 W5:=by rw [← hW5]; exact (Only.refl [w2.heap.size+1] w4).setCell (p:=⟨w2.heap.size+1,2,none⟩) (.inl (.head _)) _
  have z5:=o5.size;have oA:Only [w2.heap.size+1] w2 W5:=((q3.trans ho4).sub (by simp)).trans o5;have hobj:=hb4.set 2 (ptr xb);rw [hW5] at hobj;have l1:∀ y ∈ a.fp,y < w1.heap.size:=hh1.lim;have l2:eb < w2.heap.size:=he2.obj.lt;have l3:em < w2.heap.size:=he2.map.lt;have l4:∀ y,pv.ownBlock=some y→y < w2.heap.size:=fun y hy=>(he2.row.lt y hy).1;have l5:xb < w4.heap.size:=hx4.obj.lt;have l6:∀ y,bv.ownBlock=some y→y < w4.heap.size:=fun y hy=>(hx4.row.lt y hy).1;have l7:∀ y ∈ cs,y < w4.heap.size:=fun y hy=>by
   obtain ⟨k,hk,e⟩:=List.mem_iff_getElem.1 hy;have hl:k < cpus:=by
    have h1:cs.length=(List.replicate cpus ([]:List Ask)).length:=hx4.len;have h2:(List.replicate cpus ([]:List Ask)).length=cpus:=List.length_replicate;omega
   exact (hx4.chans k y [] (by rw [List.getElem?_eq_getElem hk,e]) (by
    show (List.replicate cpus ([]:List Ask))[k]?=some [];rw [List.getElem?_replicate,if_pos hl])).lt
  have hr:∀ i y,y ∈ p0.foot 0 i→(i=0∧w2.heap.size≤y∧y < w2.heap.size+2)∨(i=1∧w.heap.size≤y∧y < w1.heap.size)∨(i=2∧w1.heap.size≤y∧y < w2.heap.size)∨(i=3∧w2.heap.size+2≤y∧y < w4.heap.size):=fun i y hy=>by
   rw [hp0] at hy
   match i with
   | 0=>
    have hy:y=w2.heap.size+1∨y=w2.heap.size:=by simpa [MuP.foot,MuP.own,Value.ownBlock] using hy
    exact .inl ⟨rfl,by omega,by omega⟩
   | 1=>exact .inr (.inl ⟨rfl,fp1 y hy,l1 y hy⟩)
   | 2=>
    have hy:y=eb∨y=em∨pv.ownBlock=some y:=by simpa [MuP.foot] using hy
    refine .inr (.inr (.inl ⟨rfl,?_⟩));rcases hy with rfl | rfl | h
    ·exact ⟨eb2,l2⟩
    ·exact ⟨em2,l3⟩
    ·exact ⟨pv2 y h,l4 y h⟩
   | 3=>
    have hy:y=xb∨bv.ownBlock=some y∨y ∈ cs:=by
     simp only [MuP.foot,List.mem_cons,List.mem_append,Option.mem_toList] at hy;rcases hy with h | (h | h) | h
     ·exact .inl h
     ·exact .inr (.inl h)
     ·cases h
     ·exact .inr (.inr h)
    refine .inr (.inr (.inr ⟨rfl,?_⟩));rcases hy with rfl | h | h
    ·exact ⟨by omega,l5⟩
    ·exact ⟨by have:=hbv y h; omega,l6 y h⟩
    ·exact ⟨by have:=hcs y h; omega,l7 y h⟩
   | i+4=>
    simp [MuP.foot] at hy
  rw [hp0] at hr ⊢;refine ⟨by simpa using hobj,RowR.nil _ _ _,hm3.only ((ho4.sub (by simp)).trans o5) (by simp),rfl,hh1.only (o2.trans ((q3.trans ho4)) |>.sub (show [] ⊆ [w2.heap.size+1] by simp) |>.trans o5) (fun y hy hm=>?_),he2.only oA (by simp; omega) (fun y hy e=>?_) (by simp; omega),hx4.only o5 (by simp; omega) (fun y hy e=>?_) (fun y hy e=>(by cases e)) (fun y hy hm=>?_),fun i hi=>(by omega),⟨fun i j hij y hi hj=>?_,fun i y hy=>?_⟩,fun i y hy=>?_,?_⟩
  ·have h1:=l1 y hm;rw [List.mem_singleton.1 hy] at h1;omega
  ·have h1:=l4 y e;rw [List.mem_singleton.1 hy] at h1;omega
  ·have h1:=hbv y e;rw [List.mem_singleton.1 hy] at h1;omega
  ·have h1:=hcs y hm;rw [List.mem_singleton.1 hy] at h1;omega
  ·have h1:=hr i y hi;have h2:=hr j y hj;omega
  ·have h1:=hr i y hy;omega
  ·have h1:=hr i y hy;omega
  ·exact (o1.trans (o2.trans (q3.trans ho4))).then o5 fun y hy=>.inr (by rw [List.mem_singleton.1 hy]; omega)
 have HN:=hid hN;have HP0:=hid (show p0.b=w2.heap.size+1 by rw [hp0]);have HP1:=hid (show p0.cpv=.slice none 0 0 by rw [hp0]);clear ho4 hx4 hxb hbv hcs hb4 hN hp0 HW3 H1 H2;go_upto_region 9 with fail
 try rw [hW5]
 obtain ⟨b,hb⟩:∃ b,w2.heap.size+1=b:=⟨_,rfl⟩;rw [hb] at HP0
 try rw [hb]
 clear hW5 c2 f2 HWE;go_wp2_with fail;go_loopg [45] cpus (fun k i wr=>k≤cpus∧i=.int .i64 ((cpus:Int) - k)∧∃ pj,pj.b=b∧NwAt w n cpus lines pj (cpus - k) wr)
 case atStart=>
  refine ⟨Nat.le_refl _,by simp,p0,HP0.out,?_⟩;rw [Nat.sub_self];exact HN.out
 case round=>
  obtain ⟨hk,rfl,pj,hpb,hnw⟩:=hrel;cases gk with
  | zero=>
   have hlt1:¬ ((cpus:Int) - ((0:Nat):Int) < cpus):=by omega
   rw [Nat.sub_zero] at hnw;have HNW:=hid hnw;have HPB:=hid hpb;clear hnw hpb;go_wp2_with fail;go_ret2;exact ⟨pj,by rw [HPB.out]; rfl,HNW.out.o,HNW.out.mu hc0 hc8,HNW.out.fr⟩
  | succ k=>
   obtain ⟨j,hj⟩:∃ j,cpus - (k+1)=j:=⟨_,rfl⟩;have ej:(cpus:Int) - ((k+1:Nat):Int)=(j:Int):=by omega
   have hjn:j < cpus:=by omega
   rw [ej];rw [hj] at hnw;have hlt1:(j:Int) < cpus:=by omega
   have ew2:IntKind.i64.wrap ((j:Int)+1)=(j:Int)+1:=by rw [IntKind.wrap_i64]; omega
   have HNW:=hid hnw;have HPB:=hid hpb;have HTN:=hid (tnew_any wr lines hl0 hl1);clear hnw hpb ej;go_wp2_with fail;refine HTN.out.mono ?_;rintro e w2' ⟨tb,rfl,htb,ho,ht⟩;have hnw2:=HNW.out.quiet ho;have HNW2:=hid hnw2;have HTB:=hid (And.intro htb (And.intro ho ht));obtain ⟨A,cap,hcv⟩:=hnw2.cpr.form;have x3:=hnw2.obj.at 3 (v:=pj.cpv) rfl;rw [HPB.out,hcv] at x3;have HCV:=hid hcv;have hbl:=hnw2.obj.lt;rw [HPB.out] at hbl;clear hnw2 htb ho ht hcv;have q4:Only [] w2' ((w2'.alloc (.cells #[.int .i64 (j:Int),ptr tb,.int .i64 0,.int .i64 0,.int .i64 0,.int .u64 0,.int .u64 0,.int .u64 0,.pointer none,.int .i64 0,.int .u64 0,.int .i64 0,.int .i64 0,.slice none 0 0] 68)).alloc (.cells #[ptr w2'.heap.size] 64)):=((Only.refl [] w2').alloc _).alloc _;have HB4:=hid ((Blk.new w2' 68 #[.int .i64 (j:Int),ptr tb,.int .i64 0,.int .i64 0,.int .i64 0,.int .u64 0,.int .u64 0,.int .u64 0,.pointer none,.int .i64 0,.int .u64 0,.int .i64 0,.int .i64 0,.slice none 0 0]).alloc (.cells #[ptr w2'.heap.size] 64));have HN4:=hid (HNW2.out.quiet q4);have HQ4:=hid q4;have hrow4:=(HNW2.out.quiet q4).cpr;rw [HCV.out] at hrow4;have HROW4:=hid hrow4;have HU:=hid (show ∀ j' u,[ptr w2'.heap.size][j']?=some u→((w2'.alloc (.cells #[.int .i64 (j:Int),ptr tb,.int .i64 0,.int .i64 0,.int .i64 0,.int .u64 0,.int .u64 0,.int .u64 0,.pointer none,.int .i64 0,.int .u64 0,.int .i64 0,.int .i64 0,.slice none 0 0] 68)).alloc (.cells #[ptr w2'.heap.size] 64)).cell? ((⟨w2'.heap.size+1,0,none⟩:Addr).add j')=some u from fun j' u hu=>by
    have h:=one_new (w2'.alloc (.cells #[.int .i64 (j:Int),ptr tb,.int .i64 0,.int .i64 0,.int .i64 0,.int .u64 0,.int .u64 0,.int .u64 0,.pointer none,.int .i64 0,.int .u64 0,.int .i64 0,.int .i64 0,.slice none 0 0] 68)) (ptr w2'.heap.size) 64 j' u hu;rw [show (w2'.alloc (.cells #[.int .i64 (j:Int),ptr tb,.int .i64 0,.int .i64 0,.int .i64 0,.int .u64 0,.int .u64 0,.int .u64 0,.pointer none,.int .i64 0,.int .u64 0,.int .i64 0,.int .i64 0,.slice none 0 0] 68)).heap.size=w2'.heap.size+1 by simp] at h;exact h)
   clear q4 hrow4;go_wp2_with (first
    | (at_builtin; (refine wpList_append_R rfl (.tmp 60) (.tmp 65) 51 rfl 64 i0 (.pointer none) 1 8 Tryz.underlying51 HI0.out.1 HI0.out.2.1 HI0.out.2.2.1 HI0.out.2.2.2 rfl (by decide) (.slice A j cap) j ((List.range j).map fun i=>ptr (pj.q i).cb) (by with_unfolding_all rfl) HROW4.out ⟨w2'.heap.size+1,0,none⟩ 1 1 [ptr w2'.heap.size] (by with_unfolding_all rfl) rfl HU.out (by intro u hu; simp at hu; subst hu; rfl) (by unfold maxLen; omega) (by omega) (fun v5 w5 hr5 ho5 hw5=>?_)); obtain ⟨A5,cap5,rfl⟩:=hr5.form; have hob:=HN4.out.obj.only ho5 (fun hm=>HROW4.out.ne HN4.out.obj (by decide) (Option.mem_toList.1 hm)); have HR5:=hid hr5; have HO5:=hid ho5; have HW5:=hid hw5; rw [HPB.out] at hob; have y3:=hob.at 3 (v:=pj.cpv) rfl; have g3:=hob.frozen 3; clear hr5 ho5 hw5 hob)
    | fail)
   go_roundg k
   case measure=>omega
   case rel=>
    have e2:cpus - k=j+1:=by omega
    have hst:=HNW.out.step (tb:=tb) (cb:=w2'.heap.size) (HTB.out.2.1.trans HQ4.out) HTB.out.1 (HTB.out.2.2.quiet HQ4.out) HTB.out.2.1.size HB4.out (by rw [HCV.out]; exact HO5.out) HR5.out (by rw [HCV.out]; exact HW5.out) rfl;rw [HPB.out] at hst;refine ⟨by omega,by congr 1; omega,_,?_,by rw [e2]; exact hst⟩;exact HPB.out
theorem MStep.more {t i:Nat} {x x':X} {v e:Int} {d:Bool} (h:MStep t i x x' v e d):x.mks.length≤x'.mks.length:=by
 cases h <;> simp [goFree]
structure Run (w:World) (p:MuP) (sz n N t:Nat) (x:X):Prop where
 m:IsMu w p sz x
 i:∃ V W,XInv x n t V W
 l:x.cp.length=N
 k0:0 < x.mks.length
 k1:x.mks.length≤5000 * (t+1)
structure OpV where
 cpu:Int
 ask:Bool
 vm:Int
 c:C
def OpV.val (o:OpV):Value:=.agg #[.int .i64 o.cpu,.bool o.ask,.int .i64 o.vm,.int .i64 o.c.k,.int .u64 o.c.a,.int .u64 o.c.b,.int .u64 o.c.c]
def OpV.cells (o:OpV):List Value:=[.int .i64 o.cpu,.bool o.ask,.int .i64 o.vm,.int .i64 o.c.k,.int .u64 o.c.a,.int .u64 o.c.b,.int .u64 o.c.c]
def OpV.fits (o:OpV):Prop:=o.vm < 9223372036854775808∧o.c.fits
theorem op_out (cpu:Int) (ask:Bool) (vm k a b c:Int):OpV.val ⟨cpu,ask,vm,k,a,b,c⟩=.agg #[.int .i64 cpu,.bool ask,.int .i64 vm,.int .i64 k,.int .u64 a,.int .u64 b,.int .u64 c]:=rfl
section
variable {w w':World} {p:MuP} {sz n N t:Nat} {x:X}
theorem Run.quiet (h:Run w p sz n N t x) (o:Only [] w w'):Run w' p sz n N t x:=⟨h.m.quiet o,h.i,h.l,h.k0,h.k1⟩
theorem Run.asked {x':X} {i vm er:Int} {c:C} (h:Run w p sz n N t x) (hm:IsMu w' p sz x') (ha:AskTo x i vm c x' er) (hc:c.fits):Run w' p sz n N (t+1) x':=by
 obtain ⟨V,W,hx⟩:=h.i;rcases ha with ⟨j,u,_,hu,hp,_,rfl⟩ | ⟨rfl,_⟩
 ·exact ⟨hm,⟨V,W,(hx.ask hu hp vm c hc).up⟩,by simpa using h.l,h.k0,by have:=h.k1; show x.mks.length≤_; omega⟩
 ·exact ⟨hm,⟨V,W,hx.up⟩,h.l,h.k0,by have:=h.k1; omega⟩
theorem Run.stepped {p':MuP} {x':X} {k:Nat} {v e:Int} {d:Bool} (h:Run w p sz n N t x) (hm:IsMu w' p' sz x') (hl:x'.cp.length=x.cp.length) (hk:x'.mks.length≤x.mks.length+5000) (hs:MStep t k x x' v e d):Run w' p' sz n N (t+1) x':=by
 obtain ⟨V,W,hx⟩:=h.i;refine ⟨hm,hx.step hs,hl.trans h.l,Nat.lt_of_lt_of_le h.k0 hs.more,?_⟩;have:=h.k1;omega
theorem ldo_any (h:Run w p sz n N t x) (ht:t < 10000) (o:OpV) (ho:o.fits):Calls Tryz.prog 5 #[ptr p.b,o.val] w fun e w'=>e=.returned (.tuple #[])∧∃ p' x',Run w' p' sz n N (t+1) x'∧MuTo w w' p p' N:=by
 obtain ⟨cpu,ask,vm,⟨k,a,b,c⟩⟩:=o;rw [op_out];obtain ⟨W0,hW0⟩:∃ W0,w.alloc (.cells #[.int .i64 cpu,.bool ask,.int .i64 vm,.int .i64 k,.int .u64 a,.int .u64 b,.int .u64 c] 32)=W0:=⟨_,rfl⟩;have q0:Only [] w W0:=by rw [← hW0]; exact (Only.refl [] w).alloc _
 have hb:Blk W0 w.heap.size 32 #[.int .i64 cpu,.bool ask,.int .i64 vm,.int .i64 k,.int .u64 a,.int .u64 b,.int .u64 c]:=by rw [← hW0]; exact Blk.new _ _ _
 have h0:=h.quiet q0;have HR0:=hid h0;have HK:=hid (show MuTo w W0 p p N from .quiet h.m q0 h.l.symm);have HW0:=hid hW0;have HFI:=hid ho;have y0:=hb.at 0 (v:=.int .i64 cpu) rfl;have y1:=hb.at 1 (v:=.bool ask) rfl;have y2:=hb.at 2 (v:=.int .i64 vm) rfl;have y3:=hb.at 3 (v:=.int .i64 k) rfl;have y4:=hb.at 4 (v:=.int .u64 a) rfl;have y5:=hb.at 5 (v:=.int .u64 b) rfl;have y6:=hb.at 6 (v:=.int .u64 c) rfl;have HAS:=hid (muask_any h0.m cpu vm ⟨k,a,b,c⟩ ho.1);rw [c_out] at HAS;have HST:=hid (show Calls Tryz.prog 10 #[ptr p.b,.int .i64 cpu] W0 (StTo t W0 p sz x cpu) by
  obtain ⟨V,W,hx⟩:=h0.i;exact mstep_any h0.m hx (by omega) (by have:=h0.k1; omega) cpu)
 clear h h0 hW0 q0 hb ho;cases ask with
 | true=>
  go_enter Tryz.func5,Tryz.ntmps5;go_upto_region 1 with fail;rw [HW0.out];go_wp2_with fail;refine HAS.out.mono ?_;rintro e w1 ⟨er,x1,rfl,h1,k1,ha⟩;have HR1:=hid (HR0.out.asked h1 ha HFI.out.2);have HK1:=hid (HK.out.trans (by rw [HR0.out.l] at k1; exact k1));clear h1 k1 ha;go_wp2_with fail;refine bodyPost_ret (results_none rfl _ _ _) rfl ?_;exact ⟨rfl,_,_,HR1.out,HK1.out⟩
 | false=>
  go_enter Tryz.func5,Tryz.ntmps5;go_upto_region 1 with fail;rw [HW0.out];go_wp2_with fail;refine HST.out.mono ?_;rintro e w1 ⟨v,er,en,p1,x1,kk,rfl,h1,k1,hl1,hm1,hs1,_⟩;have HR1:=hid (HR0.out.stepped h1 hl1 hm1 hs1);have HK1:=hid (HK.out.trans (by rw [HR0.out.l] at k1; exact k1));clear h1 k1 hl1 hm1 hs1;go_wp2_with fail;go_end0;exact ⟨rfl,_,_,HR1.out,HK1.out⟩
end
end Go.Proofs.YtadgpnoealegiaaGreat
