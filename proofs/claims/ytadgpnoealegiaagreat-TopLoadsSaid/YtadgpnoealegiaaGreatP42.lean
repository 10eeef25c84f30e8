import Derived.Test.YtadgpnoealegiaaGreatP40
import Derived.Test.YtadgpnoealegiaaGreatP41
namespace Go.Proofs.YtadgpnoealegiaaGreat
open Go.RowKit
open Go.Lib (hid)
set_option maxRecDepth 100000
set_option maxHeartbeats 20000000
abbrev Foot:=Nat→List Nat
structure IsFoot (w:World) (F:Foot):Prop where
 dis:∀ i j,i≠j→∀ x ∈ F i,x ∉ F j
 lim:∀ i,∀ x ∈ F i,x < w.heap.size
theorem IsFoot.step2 {w w':World} {F F':Foot} {T:List Nat} (h:IsFoot w F) (o:Only T w w') (j:Nat) (hF:∀ i,i≠j→F' i=F i) (hj:∀ x ∈ F' j,x ∈ F j∨((∀ i,x ∉ F i)∧x < w'.heap.size)):IsFoot w' F':=by
 have hz:=o.size;refine ⟨fun i k hik x hx hk=>?_,fun i x hx=>?_⟩
 ·by_cases hi:i=j
  ·subst hi;rw [hF k (fun e=>hik e.symm)] at hk;rcases hj x hx with h1 | h1
   ·exact h.dis _ _ hik x h1 hk
   ·exact h1.1 k hk
  ·rw [hF i hi] at hx;by_cases hk2:k=j
   ·subst hk2;rcases hj x hk with h1 | h1
    ·exact h.dis _ _ hik x hx h1
    ·exact h1.1 i hx
   ·rw [hF k hk2] at hk;exact h.dis _ _ hik x hx hk
 ·by_cases hi:i=j
  ·subst hi;rcases hj x hx with h1 | h1
   ·have:=h.lim _ x h1;omega
   ·exact h1.2
  ·rw [hF i hi] at hx;have:=h.lim i x hx;omega
theorem IsFoot.step {w w':World} {F F':Foot} {T:List Nat} (h:IsFoot w F) (o:Only T w w') (j:Nat) (hF:∀ i,i≠j→F' i=F i) (hj:∀ x ∈ F' j,x ∈ F j∨(w.heap.size≤x∧x < w'.heap.size)):IsFoot w' F':=
 h.step2 o j hF fun x hx=>(hj x hx).imp id fun h1=>⟨fun i hi=>by have:=h.lim i x hi; omega,h1.2⟩
theorem IsFoot.quiet {w w':World} {F:Foot} (h:IsFoot w F) (o:Only [] w w'):IsFoot w' F:=h.step o 0 (fun _ _=>rfl) fun _ hx=>.inl hx
theorem IsFoot.out {w:World} {F:Foot} (h:IsFoot w F) {T:List Nat} {i j:Nat} (hT:T ⊆ F j) (hij:i≠j):∀ x ∈ T,x ∉ F i:=fun x hx hi=>h.dis i j hij x hi (hT hx)
structure CpP where
 cb:Nat
 tb:Nat
 tv:Value
 wp:Option Nat
 wv:Value
 fv:Value
def CpP.fp (q:CpP):List Nat:=q.cb :: q.tb :: (q.tv.ownBlock.toList ++ q.wp.toList ++ q.wv.ownBlock.toList ++ q.fv.ownBlock.toList)
def CpP.wpv (q:CpP):Value:=match q.wp with | some b=>ptr b | none=>.pointer none
structure IsCpu (w:World) (q:CpP) (i:Nat) (sz:Nat) (u:Cpu):Prop where
 obj:Blk w q.cb 68 #[.int .i64 i,ptr q.tb,.int .i64 u.ph,.int .i64 u.vm,.int .i64 u.c.k,.int .u64 u.c.a,.int .u64 u.c.b,.int .u64 u.c.c,q.wpv,.int .i64 u.fr,.int .u64 u.rv,.int .i64 u.re,.int .i64 u.ask,q.fv]
 tlb:IsTlb w q.tb q.tv u.ls sz
 wk:u.ph=2→∃ b,q.wp=some b∧IsWk w b u.wk q.wv
 row:RowR w 3 1 q.fv u.fs.length (u.fs.map (Value.int .i64))
 dj:∀ y,q.wv.ownBlock=some y→q.fv.ownBlock≠some y
 vr:u.vm < 9223372036854775808∧0≤u.ph∧u.ph≤4
theorem IsCpu.only {T:List Nat} {w w':World} {q:CpP} {i sz:Nat} {u:Cpu} (h:IsCpu w q i sz u) (o:Only T w w') (hT:∀ x ∈ T,x ∉ q.fp):IsCpu w' q i sz u:=by
 have hn:∀ {y},y ∈ q.fp→y ∉ T:=fun {y} hy ht=>hT y ht hy;refine ⟨h.obj.only o (hn (by simp [CpP.fp])),h.tlb.only o (hn (by simp [CpP.fp])) (fun x hx e=>hT x hx (by simp [CpP.fp,e])),fun hp=>?_,h.row.only o (fun x hx e=>hT x hx (by simp [CpP.fp,e])),h.dj,h.vr⟩;obtain ⟨b,e,hw⟩:=h.wk hp;exact ⟨b,e,hw.only o (hn (by simp [CpP.fp,e])) (fun x hx e=>hT x hx (by simp [CpP.fp,e]))⟩
structure MuP where
 b:Nat
 a:HvP
 eb:Nat
 em:Nat
 pv:Value
 xb:Nat
 bv:Value
 ov:Value
 cs:List Nat
 cpv:Value
 kr:Nat
 mv:Value
 q:Nat→CpP
def MuP.own (p:MuP):List Nat:=p.b :: p.kr :: (p.cpv.ownBlock.toList ++ p.mv.ownBlock.toList)
def MuP.foot (p:MuP) (n:Nat):Foot
 | 0=>p.own
 | 1=>p.a.fp
 | 2=>p.eb :: p.em :: p.pv.ownBlock.toList
 | 3=>p.xb :: (p.bv.ownBlock.toList ++ p.ov.ownBlock.toList ++ p.cs)
 | i+4=>if i < n then (p.q i).fp else []
def encMk (m:Mk):List Value:=[.int .i64 m.k,.int .i64 m.vm,.int .i64 m.at',.int .i64 m.c.k,.int .u64 m.c.a,.int .u64 m.c.b,.int .u64 m.c.c,.int .u64 m.v,.int .i64 m.e]
theorem encMk_len (m:Mk):(encMk m).length=9:=rfl
def knV (kn:Int→Bool):Int→Option Value:=fun k=>if kn k=true then some (.bool true) else none
structure IsMu (w:World) (p:MuP) (sz:Nat) (x:X):Prop where
 obj:Blk w p.b 54 #[ptr p.a.hb,ptr p.eb,ptr p.xb,p.cpv,.map (some p.kr),p.mv]
 cpr:RowR w 64 1 p.cpv x.cp.length ((List.range x.cp.length).map fun i=>ptr (p.q i).cb)
 kn:IsMap w p.kr (knV x.kn)
 mks:RowR w 40 9 p.mv x.mks.length (x.mks.flatMap encMk)
 hv:IsHv w p.a x.S
 ep:IsEp w p.eb p.pv p.em x.ep
 bx:IsBx w p.xb p.bv p.ov p.cs x.bx
 cpu:∀ i u,x.cp[i]?=some u→IsCpu w (p.q i) i sz u
 ft:IsFoot w (p.foot x.cp.length)
 cn:1≤x.cp.length∧x.cp.length≤8
section
variable {w w':World} {p:MuP} {sz:Nat} {x:X}
theorem foot_cpu {n i:Nat} (h:i < n):p.foot n (i+4)=(p.q i).fp:=by simp [MuP.foot,h]
theorem IsMu.only {T:List Nat} (h:IsMu w p sz x) (o:Only T w w') (hT:∀ y ∈ T,∀ i,y ∉ p.foot x.cp.length i):IsMu w' p sz x:=by
 have hn:∀ {i y},y ∈ p.foot x.cp.length i→y ∉ T:=fun {i y} hy ht=>hT y ht i hy;refine ⟨h.obj.only o (hn (i:=0) (by simp [MuP.foot,MuP.own])),h.cpr.only o (fun y hy e=>hT y hy 0 (by simp [MuP.foot,MuP.own,e])),h.kn.only o (hn (i:=0) (by simp [MuP.foot,MuP.own])),h.mks.only o (fun y hy e=>hT y hy 0 (by simp [MuP.foot,MuP.own,e])),
  h.hv.only o (fun y hy=>hT y hy 1),h.ep.only o (hn (i:=2) (by simp [MuP.foot])) (fun y hy e=>hT y hy 2 (by simp [MuP.foot,e])) (hn (i:=2) (by simp [MuP.foot])),
  h.bx.only o (hn (i:=3) (by simp [MuP.foot])) (fun y hy e=>hT y hy 3 (by simp [MuP.foot,e])) (fun y hy e=>hT y hy 3 (by simp [MuP.foot,e])) (fun y hy e=>hT y hy 3 (by simp [MuP.foot,e])),fun i u hu=>?_,?_,h.cn⟩
 ·have hi:=(List.getElem?_eq_some_iff.1 hu).1;refine (h.cpu i u hu).only o fun y hy hm=>hT y hy (i+4) ?_;rw [foot_cpu hi];exact hm
 ·exact h.ft.step o 0 (fun _ _=>rfl) fun _ hx=>.inl hx
theorem IsMu.quiet (h:IsMu w p sz x) (o:Only [] w w'):IsMu w' p sz x:=h.only o (by simp)
end
section
variable {w w':World} {p:MuP} {sz:Nat} {x:X}
theorem IsMu.cpus (h:IsMu w p sz x):∃ g cap cur,p.cpv=.slice (some ⟨g,0,none⟩) x.cp.length cap∧Blk w g 64 cur∧∀ i,i < x.cp.length→cur[i]?=some (ptr (p.q i).cb):=by
 obtain ⟨g,cap,cur,e,hb,_,_,_,hc⟩:=h.cpr.has h.cn.1;exact ⟨g,cap,cur,e,hb,fun i hi=>hc i _ (by simp [hi])⟩
theorem mat_any (h:IsMu w p sz x) (i:Int):Calls Tryz.prog 15 #[ptr p.b,.int .i64 i] w fun e w'=>e=.returned (if 0≤i∧i < x.cp.length then ptr (p.q i.toNat).cb else .pointer none)∧w=w':=by
 obtain ⟨g,cap,cur,e,hb,hc⟩:=h.cpus;have c3:=h.obj.at 3 (v:=p.cpv) rfl;rw [e] at c3;by_cases h1:i < 0
 ·rw [if_neg (by omega)];have d1:decide (i < 0)=true:=decide_eq_true h1;clear h hb hc;go_enter Tryz.func15,Tryz.ntmps15;go_wp2_with fail;go_ret;exact ⟨rfl,rfl⟩
 ·have d1:decide (i < 0)=false:=decide_eq_false h1;by_cases h2:i < x.cp.length
  ·rw [if_pos (by omega)];have d2:decide ((x.cp.length:Int)≤i)=false:=decide_eq_false (by omega);have h0:0≤i:=by omega
   have cy:=hb.at i.toNat (v:=ptr (p.q i.toNat).cb) (hc _ (by omega));clear h hb hc;go_enter Tryz.func15,Tryz.ntmps15;go_wp2_with fail;go_ret;exact ⟨rfl,rfl⟩
  ·rw [if_neg (by omega)];have d2:decide ((x.cp.length:Int)≤i)=true:=decide_eq_true (by omega);clear h hb hc;go_enter Tryz.func15,Tryz.ntmps15;go_wp2_with fail;go_ret;exact ⟨rfl,rfl⟩
theorem IsMu.ac (h:IsMu w p sz x) {i:Nat} {u:Cpu} (hu:x.cp[i]?=some u):IsCpu w (p.q i) i sz u:=h.cpu i u hu
end
section
variable {w w':World} {q:CpP} {i sz:Nat} {u:Cpu}
theorem cpage_any (h:IsCpu w q i sz u) (hf:0≤u.c.a) (hf2:u.c.a < 18446744073709551616):Calls Tryz.prog 48 #[ptr q.cb] w fun e w'=>e=.returned (.int .i64 u.page)∧w=w':=by
 have c5:=h.obj.at 5 (v:=.int .u64 u.c.a) rfl;have e1:IntKind.i64.wrap (u.c.a / 16)=u.c.a / 16:=by rw [IntKind.wrap_i64]; omega
 have e2:IntKind.u64.wrap (u.c.a / 16)=u.c.a / 16:=by rw [IntKind.wrap_u64]; omega
 have e3:u.c.a.tdiv 16=u.c.a / 16:=Int.tdiv_eq_ediv_of_nonneg hf;clear h;go_enter Tryz.func48,Tryz.ntmps48;go_wp2_with fail;go_ret;exact ⟨rfl,rfl⟩
theorem Tryz.underlyingII : Tryz.prog.underlying 96=some (.map 3 3):=by kernel_rfl
theorem cwant_any (h:IsCpu w q i sz u):Calls Tryz.prog 58 #[ptr q.cb] w fun e w'=>e=.returned (.int .i64 u.want)∧Only [] w w':=by
 have hmm:=@run_makeMap Tryz.prog;have HM:=hid (IsMap.new w);have HO:=hid (show Only [w.heap.size] w (w.alloc (.map #[] 0)) from (Only.refl _ _).alloc _);have HB:=hid h.obj;have hlt:=h.obj.lt;clear h;go_enter Tryz.func58,Tryz.ntmps58;go_wp2_with (first
  | (with_reducible (refine wpList_ins Tryz.underlyingII Tryz.underlying3 HM.out (by with_unfolding_all rfl) (by with_unfolding_all rfl) (by with_unfolding_all rfl) ?_)
     intro w1 hm ho hs;clear hs;have HM:=hid hm;have HO:=hid (HO.out.trans ho);have c4:=(HB.out.only HO.out (by simp; omega)).at 4 (v:=.int .i64 u.c.k) rfl;clear hm ho)
  | (with_reducible (refine wpList_look Tryz.underlyingII Tryz.underlying3 HM.out (by with_unfolding_all rfl) (by with_unfolding_all rfl) (zv_int _) ?_))
  | fail)
 have ev:(updM (updM (fun _=>none) 6 (some (Value.int .i64 1))) 7 (some (Value.int .i64 2)) u.c.k).getD (Value.int .i64 0)=.int .i64 u.want:=by
  unfold updM Cpu.want;by_cases h6:u.c.k=6
  ·rw [if_neg (by omega),if_pos h6,if_pos h6];rfl
  ·by_cases h7:u.c.k=7
   ·rw [if_pos h7,if_neg h6,if_pos h7];rfl
   ·rw [if_neg h7,if_neg h6,if_neg h6,if_neg h7];rfl
 rw [ev];go_ret;exact ⟨rfl,HO.out.os,HO.out.tape,HO.out.output,HO.out.size,fun j hj _=>HO.out.block j hj (by simp; omega)⟩
end
section
variable {w w':World} {p:MuP} {sz:Nat} {x:X}
def MuP.setQ (p:MuP) (i:Nat) (q:CpP):MuP:={ p with q:=fun j=>if j=i then q else p.q j }
theorem IsMu.turn2 {T:List Nat} (h:IsMu w p sz x) {i:Nat} (hi:i < x.cp.length) (o:Only T w w') (hT:T ⊆ (p.q i).fp) {q:CpP} {u':Cpu} (hq:IsCpu w' q i sz u') (hcb:q.cb=(p.q i).cb) (hf:∀ y ∈ q.fp,y ∈ (p.q i).fp∨((∀ j,y ∉ p.foot x.cp.length j)∧y < w'.heap.size)) :
 IsMu w' (p.setQ i q) sz { x with cp:=x.cp.set i u' }:=by
 have hTF:T ⊆ p.foot x.cp.length (i+4):=by rw [foot_cpu hi]; exact hT
 have hout:∀ {j y},j≠i+4→y ∈ p.foot x.cp.length j→y ∉ T:=fun {j y} hj hy ht=>h.ft.dis j (i+4) hj y hy (hTF ht);have hown:∀ {j:Nat} {v:Value},j≠i+4→(∀ y,v.ownBlock=some y→y ∈ p.foot x.cp.length j)→∀ y ∈ T,v.ownBlock≠some y:=fun {j v} hj hm y hy e=>hout hj (hm y e) hy;refine ⟨h.obj.only o (hout (j:=0) (by omega) (by simp [MuP.foot,MuP.own])),?_,h.kn.only o (hout (j:=0) (by omega) (by simp [MuP.foot,MuP.own])),h.mks.only o (hown (j:=0) (by omega) (fun y e=>by simp [MuP.foot,MuP.own,e])),
  h.hv.only o (fun y hy hm=>hout (j:=1) (by omega) hm hy),h.ep.only o (hout (j:=2) (by omega) (by simp [MuP.foot])) (hown (j:=2) (by omega) (fun y e=>by simp [MuP.foot,e])) (hout (j:=2) (by omega) (by simp [MuP.foot])),
  h.bx.only o (hout (j:=3) (by omega) (by simp [MuP.foot])) (hown (j:=3) (by omega) (fun y e=>by simp [MuP.foot,e])) (hown (j:=3) (by omega) (fun y e=>by simp [MuP.foot,e])) (fun y hy hm=>hout (j:=3) (by omega) (by simp [MuP.foot,hm]) hy),fun j u hu=>?_,?_,by simpa using h.cn⟩
 ·have e1:((List.range (x.cp.set i u').length).map fun j=>ptr ((p.setQ i q).q j).cb)=(List.range x.cp.length).map fun j=>ptr (p.q j).cb:=by
   rw [List.length_set];refine List.map_congr_left fun j _=>?_;unfold MuP.setQ;dsimp only;split
   ·rename_i e;subst e;rw [hcb]
   ·rfl
  dsimp only;rw [e1,List.length_set];exact h.cpr.only o (hown (j:=0) (by omega) (fun y e=>by simp [MuP.foot,MuP.own,e]))
 ·rcases set_get hu with ⟨rfl,rfl,_⟩ | ⟨hj,hu⟩
  ·have e:(p.setQ j q).q j=q:=by simp [MuP.setQ]
   rw [e];exact hq
  ·have e:(p.setQ i q).q j=p.q j:=by simp [MuP.setQ,hj]
   rw [e];have hjl:=(List.getElem?_eq_some_iff.1 hu).1;refine (h.cpu j u hu).only o fun y hy hm=>hout (j:=j+4) (by omega) ?_ hy;rw [foot_cpu hjl];exact hm
 ·dsimp only;rw [List.length_set];refine h.ft.step2 o (i+4) (fun j hj=>?_) fun y hy=>?_
  ·match j with
   | 0=>rfl
   | 1=>rfl
   | 2=>rfl
   | 3=>rfl
   | j+4=>
    have hji:j≠i:=by omega
    simp [MuP.foot,MuP.setQ,hji]
  ·rw [foot_cpu hi];rw [foot_cpu hi] at hy;have e:(p.setQ i q).q i=q:=by simp [MuP.setQ]
   rw [e] at hy;exact hf y hy
theorem IsMu.turn {T:List Nat} (h:IsMu w p sz x) {i:Nat} (hi:i < x.cp.length) (o:Only T w w') (hT:T ⊆ (p.q i).fp) {q:CpP} {u':Cpu} (hq:IsCpu w' q i sz u') (hcb:q.cb=(p.q i).cb) (hf:∀ y ∈ q.fp,y ∈ (p.q i).fp∨(w.heap.size≤y∧y < w'.heap.size)) :
 IsMu w' (p.setQ i q) sz { x with cp:=x.cp.set i u' }:=
 h.turn2 hi o hT hq hcb fun y hy=>(hf y hy).imp id fun h1=>⟨fun j hj=>by have:=h.ft.lim j y hj; omega,h1.2⟩
end
section
variable {w w':World} {q:CpP} {i sz:Nat} {u:Cpu}
def CpTo (w w':World) (q:CpP) (i sz:Nat) (u':Cpu):Prop:=
 ∃ T q',Only T w w'∧T ⊆ q.fp∧IsCpu w' q' i sz u'∧(q'.cb=q.cb∧q'.tb=q.tb)∧∀ y ∈ q'.fp,y ∈ q.fp∨(w.heap.size≤y∧y < w'.heap.size)
theorem IsCpu.tlbTo (h:IsCpu w q i sz u) {ls:List Ln} (k:TlbTo w w' q.tb q.tv ls sz):CpTo w w' q i sz { u with ls:=ls }:=by
 obtain ⟨v',o,ht,hv⟩:=k;have hS:(q.tb :: q.tv.ownBlock.toList) ⊆ q.fp:=fun y hy=>by
  rcases List.mem_cons.1 hy with rfl | hy
  ·simp [CpP.fp]
  ·have:q.tv.ownBlock=some y:=by simpa using hy
   simp [CpP.fp,this]
 have nb:∀ {g t:Nat} {cs:Array Value},Blk w g t cs→t≠106→t≠128→g ∉ q.tb :: q.tv.ownBlock.toList:=fun {g t cs} hb h1 h2 hm=>by
  rcases List.mem_cons.1 hm with e | hm
  ·exact hb.ne h.tlb.obj h1 e
  ·obtain ⟨_,cs',hb'⟩:=h.tlb.row.lt g (by simpa using hm);exact h2 (hb.inj hb').1
 have nr:∀ {v:Value} {n:Nat} {xs:List Value},RowR w 3 1 v n xs→∀ y ∈ q.tb :: q.tv.ownBlock.toList,v.ownBlock≠some y:=fun {v n xs} hr y hy e=>by
  obtain ⟨_,cs',hb'⟩:=hr.lt y e;exact nb hb' (by decide) (by decide) hy
 refine ⟨_,{ q with tv:=v' },o,hS,⟨h.obj.only o (nb h.obj (by decide) (by decide)),ht,fun hp=>?_,h.row.only o (nr h.row),h.dj,h.vr⟩,⟨rfl,rfl⟩,fun y hy=>?_⟩
 ·obtain ⟨b,e,hw⟩:=h.wk hp;obtain ⟨n,xs,hr,h1⟩:=hw.row;exact ⟨b,e,⟨hw.at'.only o (nb hw.at' (by decide) (by decide)),n,xs,hr.only o (nr hr),h1⟩⟩
 ·have hy2:y ∈ q.fp∨v'.ownBlock=some y:=by
   simp [CpP.fp] at hy ⊢;rcases hy with h | h | h | h | h | h <;> simp [h]
  rcases hy2 with h2 | h2
  ·exact .inl h2
  ·rcases hv with h3 | h3
   ·left;have:q.tv.ownBlock=some y:=h3 ▸ h2;simp [CpP.fp,this]
   ·exact .inr ⟨h3 y h2,(ht.row.lt y h2).1⟩
theorem cforget_any (h:IsCpu w q i sz u) (tag page:Int):Calls Tryz.prog 17 #[ptr q.cb,.int .i64 tag,.int .i64 page] w fun e w'=>e=.returned (.tuple #[])∧CpTo w w' q i sz { u with ls:=fgt u.ls tag page }:=by
 have c1:=h.obj.at 1 (v:=ptr q.tb) rfl;have HC:=hid h;unfold fgt;by_cases hp:page=-1
 ·have hd:(page == -1)=true:=by simp [hp]
  rw [if_pos hp];have HF:=hid (forget_any h.tlb tag);have HP:=hid hp;clear h hp;go_enter Tryz.func17,Tryz.ntmps17;go_wp2_with fail;refine HF.out.mono ?_;rintro e w1 ⟨⟨n,rfl⟩,hto⟩;have HT:=hid (HC.out.tlbTo hto);clear hto;go_wp2_with fail;refine bodyPost_ret (results_none rfl _ _ _) rfl ?_;exact ⟨rfl,HT.out⟩
 ·have hd:(page == -1)=false:=by simpa using hp
  rw [if_neg hp];have HF:=hid (flush_any h.tlb tag page);clear h hp;go_enter Tryz.func17,Tryz.ntmps17;go_wp2_with fail;refine HF.out.mono ?_;rintro e w1 ⟨rfl,hto⟩;have HT:=hid (HC.out.tlbTo hto);clear hto;go_wp2_with fail;go_end0;exact ⟨rfl,HT.out⟩
end
section
variable {w w':World} {p:MuP} {sz:Nat} {x:X}
structure MuKeeps (w w':World) (p:MuP) (sz:Nat) (x:X) (j:Nat):Prop where
 obj:j≠0→Blk w' p.b 54 #[ptr p.a.hb,ptr p.eb,ptr p.xb,p.cpv,.map (some p.kr),p.mv]
 cpr:j≠0→RowR w' 64 1 p.cpv x.cp.length ((List.range x.cp.length).map fun i=>ptr (p.q i).cb)
 kn:j≠0→IsMap w' p.kr (knV x.kn)
 mks:j≠0→RowR w' 40 9 p.mv x.mks.length (x.mks.flatMap encMk)
 hv:j≠1→IsHv w' p.a x.S
 ep:j≠2→IsEp w' p.eb p.pv p.em x.ep
 bx:j≠3→IsBx w' p.xb p.bv p.ov p.cs x.bx
 cpu:∀ i u,i+4≠j→x.cp[i]?=some u→IsCpu w' (p.q i) i sz u
theorem IsMu.keeps {T:List Nat} (h:IsMu w p sz x) (o:Only T w w') {k:Nat} (hT:T ⊆ p.foot x.cp.length k):MuKeeps w w' p sz x k:=by
 have hout:∀ {j y},k≠j→y ∈ p.foot x.cp.length j→y ∉ T:=fun {j y} hj hy ht=>h.ft.dis j k (fun e=>hj e.symm) y hy (hT ht);have hown:∀ {j:Nat} {v:Value},k≠j→(∀ y,v.ownBlock=some y→y ∈ p.foot x.cp.length j)→∀ y ∈ T,v.ownBlock≠some y:=fun {j v} hj hm y hy e=>hout hj (hm y e) hy;refine ⟨fun hk=>h.obj.only o (hout hk (by simp [MuP.foot,MuP.own])),fun hk=>h.cpr.only o (hown hk fun y e=>by simp [MuP.foot,MuP.own,e]),fun hk=>h.kn.only o (hout hk (by simp [MuP.foot,MuP.own])),fun hk=>h.mks.only o (hown hk fun y e=>by simp [MuP.foot,MuP.own,e]),
  fun hk=>h.hv.only o (fun y hy hm=>hout hk hm hy),fun hk=>h.ep.only o (hout hk (by simp [MuP.foot])) (hown hk fun y e=>by simp [MuP.foot,e]) (hout hk (by simp [MuP.foot])),
  fun hk=>h.bx.only o (hout hk (by simp [MuP.foot])) (hown hk fun y e=>by simp [MuP.foot,e]) (hown hk fun y e=>by simp [MuP.foot,e]) (fun y hy hm=>hout hk (j:=3) (by simp [MuP.foot,hm]) hy),fun i u hk hu=>?_⟩
 have hi:=(List.getElem?_eq_some_iff.1 hu).1;refine (h.cpu i u hu).only o fun y hy hm=>hout (j:=i+4) (fun e=>hk e.symm) ?_ hy;rw [foot_cpu hi];exact hm
theorem foot_turn {T:List Nat} {F F':Foot} (h:IsFoot w F) (o:Only T w w') (j:Nat) (hF:∀ i,i≠j→F' i=F i) (hj:∀ y ∈ F' j,y ∈ F j∨(w.heap.size≤y∧y < w'.heap.size)):IsFoot w' F':=h.step o j hF hj
structure MuTo (w w':World) (p p':MuP) (n:Nat):Prop where
 o:∃ T,Only T w w'∧∀ y ∈ T,∃ i,y ∈ p.foot n i
 f:∀ i,∀ y ∈ p'.foot n i,(∃ j,y ∈ p.foot n j)∨w.heap.size≤y
 b:p'.b=p.b
 hb:p'.a.hb=p.a.hb
 eb:p'.eb=p.eb
 xb:p'.xb=p.xb
 cpv:p'.cpv=p.cpv
 kr:p'.kr=p.kr
 cb:∀ i,(p'.q i).cb=(p.q i).cb
 tb:∀ i,(p'.q i).tb=(p.q i).tb
theorem MuTo.refl (w:World) (p:MuP) (n:Nat):MuTo w w p p n:=⟨⟨[],Only.refl _ _,by simp⟩,fun i y hy=>.inl ⟨i,hy⟩,rfl,rfl,rfl,rfl,rfl,rfl,fun _=>rfl,fun _=>rfl⟩
theorem MuTo.trans {w1:World} {p1 p2:MuP} {n:Nat} (h:MuTo w w1 p p1 n) (k:MuTo w1 w' p1 p2 n):MuTo w w' p p2 n:=by
 obtain ⟨T,o1,t1⟩:=h.o;obtain ⟨T',o2,t2⟩:=k.o;have hs:=o1.size;refine ⟨⟨T ++ T'.filter (fun y=>decide (y < w.heap.size)),(o1.sub (List.subset_append_left _ _)).then o2 fun y hy=>?_,fun y hy=>?_⟩,fun i y hy=>?_,k.b.trans h.b,k.hb.trans h.hb,k.eb.trans h.eb,k.xb.trans h.xb,k.cpv.trans h.cpv,k.kr.trans h.kr,fun i=>(k.cb i).trans (h.cb i),fun i=>(k.tb i).trans (h.tb i)⟩
 ·by_cases hl:y < w.heap.size
  ·exact .inl (List.mem_append_right _ (List.mem_filter.2 ⟨hy,by simpa using hl⟩))
  ·exact .inr (by omega)
 ·rcases List.mem_append.1 hy with hy | hy
  ·exact t1 y hy
  ·obtain ⟨hy,hl⟩:=List.mem_filter.1 hy;obtain ⟨i,hi⟩:=t2 y hy;rcases h.f i y hi with h3 | h3
   ·exact h3
   ·have:=of_decide_eq_true hl;omega
 ·rcases k.f i y hy with ⟨j,hj⟩ | h3
  ·exact h.f j y hj
  ·exact .inr (by omega)
theorem MuTo.one {T:List Nat} {p':MuP} {n:Nat} (o:Only T w w') (j:Nat) (hT:T ⊆ p.foot n j) (hF:∀ i,i≠j→p'.foot n i=p.foot n i) (hj:∀ y ∈ p'.foot n j,y ∈ p.foot n j∨w.heap.size≤y) (e1:p'.b=p.b) (e2:p'.a.hb=p.a.hb) (e3:p'.eb=p.eb) (e4:p'.xb=p.xb) (e5:p'.cpv=p.cpv) (e6:p'.kr=p.kr) (e7:∀ i,(p'.q i).cb=(p.q i).cb) (e8:∀ i,(p'.q i).tb=(p.q i).tb):MuTo w w' p p' n:=by
 refine ⟨⟨T,o,fun y hy=>⟨j,hT hy⟩⟩,fun i y hy=>?_,e1,e2,e3,e4,e5,e6,e7,e8⟩;by_cases hi:i=j
 ·subst hi;exact (hj y hy).imp (fun h=>⟨_,h⟩) id
 ·rw [hF i hi] at hy;exact .inl ⟨i,hy⟩
theorem IsMu.hvTo {T:List Nat} (h:IsMu w p sz x) (o:Only T w w') (hT:T ⊆ p.a.fp) {a':HvP} {S':HS} (hh:IsHv w' a' S') (ha:a'.hb=p.a.hb) (hf:∀ y ∈ a'.fp,y ∈ p.a.fp∨w.heap.size≤y):IsMu w' { p with a:=a' } sz { x with S:=S' }∧MuTo w w' p { p with a:=a' } x.cp.length:=by
 have k:=h.keeps o (k:=1) hT;have ob:=k.obj (by decide);rw [← ha] at ob;have hF:∀ i,i≠1→MuP.foot { p with a:=a' } x.cp.length i=p.foot x.cp.length i:=fun j hj=>by
  match j with
  | 0=>rfl
  | 1=>exact absurd rfl hj
  | 2=>rfl
  | 3=>rfl
  | j+4=>rfl
 have hJ:∀ y ∈ MuP.foot { p with a:=a' } x.cp.length 1,y ∈ p.foot x.cp.length 1∨(w.heap.size≤y∧y < w'.heap.size):=fun y hy=>(hf y hy).imp id fun hl=>⟨hl,hh.lim y hy⟩;exact ⟨⟨ob,k.cpr (by decide),k.kn (by decide),k.mks (by decide),hh,k.ep (by decide),k.bx (by decide),fun i u hu=>k.cpu i u (by omega) hu,foot_turn h.ft o 1 hF hJ,h.cn⟩,MuTo.one o 1 hT hF (fun y hy=>(hJ y hy).imp id And.left) rfl ha rfl rfl rfl rfl (fun _=>rfl) (fun _=>rfl)⟩
theorem IsMu.epTo {T:List Nat} (h:IsMu w p sz x) (o:Only T w w') (hT:T ⊆ p.eb :: p.em :: p.pv.ownBlock.toList) {s':Ep} (he:IsEp w' p.eb p.pv p.em s'):IsMu w' p sz { x with ep:=s' }∧MuTo w w' p p x.cp.length:=by
 have k:=h.keeps o (k:=2) hT;have hF:∀ i,i≠2→MuP.foot p x.cp.length i=p.foot x.cp.length i:=fun j hj=>by
  rfl
 have hJ:∀ y ∈ MuP.foot p x.cp.length 2,y ∈ p.foot x.cp.length 2∨(w.heap.size≤y∧y < w'.heap.size):=fun y hy=>.inl hy;exact ⟨⟨k.obj (by decide),k.cpr (by decide),k.kn (by decide),k.mks (by decide),k.hv (by decide),he,k.bx (by decide),fun i u hu=>k.cpu i u (by omega) hu,foot_turn h.ft o 2 hF hJ,h.cn⟩,MuTo.one o 2 hT hF (fun y hy=>(hJ y hy).imp id And.left) rfl rfl rfl rfl rfl rfl (fun _=>rfl) (fun _=>rfl)⟩
theorem IsMu.bxTo {T:List Nat} (h:IsMu w p sz x) (o:Only T w w') (hT:T ⊆ p.xb :: (p.bv.ownBlock.toList ++ p.ov.ownBlock.toList ++ p.cs)) {ov':Value} {s':Bx} (hb:IsBx w' p.xb p.bv ov' p.cs s') (hv:ov'.ownBlock=p.ov.ownBlock∨∀ y,ov'.ownBlock=some y→w.heap.size≤y):IsMu w' { p with ov:=ov' } sz { x with bx:=s' }∧MuTo w w' p { p with ov:=ov' } x.cp.length:=by
 have k:=h.keeps o (k:=3) hT;have hF:∀ i,i≠3→MuP.foot { p with ov:=ov' } x.cp.length i=p.foot x.cp.length i:=fun j hj=>by
  match j with
  | 0=>rfl
  | 1=>rfl
  | 2=>rfl
  | 3=>exact absurd rfl hj
  | j+4=>rfl
 have hJ:∀ y ∈ MuP.foot { p with ov:=ov' } x.cp.length 3,y ∈ p.foot x.cp.length 3∨(w.heap.size≤y∧y < w'.heap.size):=fun y hy=>by
  have hy2:y ∈ p.foot x.cp.length 3∨ov'.ownBlock=some y:=by
   simp [MuP.foot] at hy ⊢;rcases hy with h | h | h | h <;> simp [h]
  rcases hy2 with h2 | h2
  ·exact .inl h2
  ·rcases hv with h3 | h3
   ·rw [h3] at h2;exact .inl (by simp [MuP.foot,h2])
   ·exact .inr ⟨h3 y h2,(hb.opn.lt y h2).1⟩
 exact ⟨⟨k.obj (by decide),k.cpr (by decide),k.kn (by decide),k.mks (by decide),k.hv (by decide),k.ep (by decide),hb,fun i u hu=>k.cpu i u (by omega) hu,foot_turn h.ft o 3 hF hJ,h.cn⟩,MuTo.one o 3 hT hF (fun y hy=>(hJ y hy).imp id And.left) rfl rfl rfl rfl rfl rfl (fun _=>rfl) (fun _=>rfl)⟩
theorem IsMu.ownTo {T:List Nat} (h:IsMu w p sz x) (o:Only T w w') (hT:T ⊆ p.b :: p.kr :: (p.cpv.ownBlock.toList ++ p.mv.ownBlock.toList)) {mv':Value} {kn':Int→Bool} {mks':List Mk} (hobj:Blk w' p.b 54 #[ptr p.a.hb,ptr p.eb,ptr p.xb,p.cpv,.map (some p.kr),mv']) (hc:RowR w' 64 1 p.cpv x.cp.length ((List.range x.cp.length).map fun i=>ptr (p.q i).cb)) (hk:IsMap w' p.kr (knV kn')) (hm:RowR w' 40 9 mv' mks'.length (mks'.flatMap encMk)) (hv:mv'.ownBlock=p.mv.ownBlock∨∀ y,mv'.ownBlock=some y→w.heap.size≤y):IsMu w' { p with mv:=mv' } sz { x with kn:=kn',mks:=mks' }∧MuTo w w' p { p with mv:=mv' } x.cp.length:=by
 have k:=h.keeps o (k:=0) hT;have hF:∀ i,i≠0→MuP.foot { p with mv:=mv' } x.cp.length i=p.foot x.cp.length i:=fun j hj=>by
  match j with
  | 0=>exact absurd rfl hj
  | 1=>rfl
  | 2=>rfl
  | 3=>rfl
  | j+4=>rfl
 have hJ:∀ y ∈ MuP.foot { p with mv:=mv' } x.cp.length 0,y ∈ p.foot x.cp.length 0∨(w.heap.size≤y∧y < w'.heap.size):=fun y hy=>by
  have hy2:y ∈ p.foot x.cp.length 0∨mv'.ownBlock=some y:=by
   simp [MuP.foot,MuP.own] at hy ⊢;rcases hy with h | h | h | h <;> simp [h]
  rcases hy2 with h2 | h2
  ·exact .inl h2
  ·rcases hv with h3 | h3
   ·rw [h3] at h2;exact .inl (by simp [MuP.foot,MuP.own,h2])
   ·exact .inr ⟨h3 y h2,(hm.lt y h2).1⟩
 exact ⟨⟨hobj,hc,hk,hm,k.hv (by decide),k.ep (by decide),k.bx (by decide),fun i u hu=>k.cpu i u (by omega) hu,foot_turn h.ft o 0 hF hJ,h.cn⟩,MuTo.one o 0 hT hF (fun y hy=>(hJ y hy).imp id And.left) rfl rfl rfl rfl rfl rfl (fun _=>rfl) (fun _=>rfl)⟩
end
end Go.Proofs.YtadgpnoealegiaaGreat
