import Derived.Test.YtadgpnoealegiaaGreatP51
import Derived.Test.YtadgpnoealegiaaGreatRows
import Derived.ProofKit
import Derived.OpenShut
import Derived.ShutString
import Derived.Deep.Slices
import Derived.Deep.Fields
import Derived.ChangeArms
namespace Go.Proofs.YtadgpnoealegiaaGreat
open Go.RowKit
open Go.Lib (hid)
set_option maxRecDepth 100000
set_option maxHeartbeats 20000000
section
open Go.ChangeAt Go.ChangeShapes Go.Deep Go.WideShapes
theorem Tryz.own : ownKnob Tryz.prog.godebug=none:=by kernel_rfl
theorem Tryz.laidB : laidOutB Tryz.prog=true:=by kernel_rfl
theorem u8_of {x:Int} (h:(Lit.int .u8 x).wf=true):0≤x∧x≤255:=by
 simpa [Lit.wf,IntKind.min,IntKind.max,IntKind.signed,IntKind.bits] using h
section
variable {H:Type} {enc:TypeId×Value→H} {P:Program}
theorem trodAll_stay (hl:laidOutB P=true) {W W':World} (hb:Below W.heap.size W W'):∀ {ts:List TypeId} {vs:List Value} {ds:List (DataW H)} {ps:List MemPlace},
 (∀ t ∈ ts,P.readableRec t=true∧t < P.types.size)→DataW.TrodAll enc P W 0 (fun _=>true) true ts vs ds ps→(∀ x ∈ ps,x.block < W.heap.size) →
 DataW.TrodAll enc P W' 0 (fun b=>decide (b < W.heap.size)) true ts vs ds ps:=by
 intro ts
 induction ts with
 | nil=>
  intro vs ds ps _ h _;obtain ⟨rfl,rfl,rfl⟩:=trodAll_nil h;exact trodAll_mk0
 | cons t ts ih=>
  intro vs ds ps hr h hlt;obtain ⟨v,vs',d,ds',p,q,rfl,rfl,rfl,h0,h1⟩:=trodAll_cons h;have ht:=hr t (by simp);exact trodAll_cons_mk (Below.trod hl ht.1 ht.2 h0 hb fun x hx=>hlt x (by simp [hx])) (ih (fun u hu=>hr u (by simp [hu])) h1 fun x hx=>hlt x (by simp [hx]))
theorem post_law {f:Func} {s:ChangeSpec} {tb:TypeId} (hl:laidOutB P=true) (hr:∀ t ∈ f.params.toList,P.readableRec t=true∧t < P.types.size) (hv:s.vars=[]) (hrt:f.resultTypes=#[tb]) (htb:P.underlying tb=some .bool)
 {W W':World} {args:Array Value} {ds gs:List (DataW H)} {before:List MemPlace} (hs:s.fn H (ds ++ gs)={ results:=[.lit (.bool true)],args:=ds })
 (hW:DataW.Whole enc P f.params.toList s.vars false W args.toList ds gs before) (hb:Below W.heap.size W W'):s.post enc P f false true false false W args (.bool true) W':=by
 have hlt:∀ p ∈ before,p.block < W.heap.size:=fun p hp=>hW.lt p hp;obtain ⟨p,q,hA,hV,rfl,_,_⟩:=id hW;have hV':DataW.TrodVars enc P W (fun _=>true) [] gs q:=hv ▸ hV;obtain ⟨rfl,rfl⟩:=trodVars_none hV';refine ⟨ds,[],p ++ [],[],p,[],hW,?_,?_,?_,World.keptBut_mono (fun x hx=>⟨hx,?_⟩) (hb.frame (· ∈ p ++ [])),fun h=>by cases h⟩
 ·rw [hs,hrt];exact trodAll_mk1 (shut_bool htb true)
 ·rw [hs];exact trodAll_stay hl hb hr hA fun x hx=>hlt x (by simp [hx])
 ·rw [hv,hs];exact rfl
 ·rw [List.append_nil] at hx;exact .inr (.inl hx)
end
end
section
open Go.ChangeAt Go.ChangeShapes Go.Deep Go.WideShapes
theorem int_of {x:Int} (h:(Lit.int .i64 x).wf=true):-9223372036854775808≤x∧x < 9223372036854775808:=by
 simp [Lit.wf,IntKind.min,IntKind.max,IntKind.signed,IntKind.bits] at h;omega
theorem word_of {x:Int} (h:(Lit.int .u64 x).wf=true):0≤x∧x < 18446744073709551616:=by
 simp [Lit.wf,IntKind.min,IntKind.max,IntKind.signed,IntKind.bits] at h;omega
def OpAt (w:World) (a:Addr) (x:OpV):Prop:=
 w.cell? (a.add 0)=some (.int .i64 x.cpu)∧w.cell? (a.add 1)=some (.bool x.ask)∧w.cell? (a.add 2)=some (.int .i64 x.vm)∧w.cell? (a.add 3)=some (.int .i64 x.c.k) ∧
  w.cell? (a.add 4)=some (.int .u64 x.c.a)∧w.cell? (a.add 5)=some (.int .u64 x.c.b)∧w.cell? (a.add 6)=some (.int .u64 x.c.c)
theorem ops_of {w:World} {a:Addr} {len:Nat} (h:∀ i,i < len→∃ x:OpV,x.fits∧OpAt w (a.add (i * 7)) x):∃ l:List OpV,l.length=len∧(∀ x ∈ l,x.fits)∧ReadsO w (some a) l:=by
 have hx:∀ i,∃ x:OpV,i < len→x.fits∧OpAt w (a.add (i * 7)) x:=fun i=>by
  by_cases hi:i < len
  ·obtain ⟨x,hx⟩:=h i hi;exact ⟨x,fun _=>hx⟩
  ·exact ⟨⟨0,false,0,0,0,0,0⟩,fun hh=>absurd hh hi⟩
 refine ⟨(List.range len).map fun i=>Classical.choose (hx i),by simp,?_,?_⟩
 ·intro x hm;obtain ⟨i,hi,rfl⟩:=List.mem_map.1 hm;exact (Classical.choose_spec (hx i) (List.mem_range.1 hi)).1
 ·rcases Nat.eq_zero_or_pos len with rfl | hpos
  ·exact .inl rfl
  ·have h0:=(Classical.choose_spec (hx 0) hpos).2.1;have h0':w.cell? a=some (.int .i64 (Classical.choose (hx 0)).cpu):=by simpa [Addr.add] using h0
   obtain ⟨hlt,hsp⟩:=cell_lt h0';obtain ⟨g,o,sp⟩:=a;subst hsp;have hadd:∀ n m,((⟨g,o,none⟩:Addr).add n).add m=⟨g,o+n+m,none⟩:=fun n m=>by
    have h1:∀ o n,(⟨g,o,none⟩:Addr).add n=⟨g,o+n,none⟩:=fun o n=>by
     unfold Addr.add;split
     ·rename_i e; subst e; rfl
     ·rfl
    rw [h1,h1]
   refine .inr ⟨g,o,hlt,rfl,fun i x hix=>?_⟩;have hi:i < len:=by
    have:=(List.getElem?_eq_some_iff.1 hix).1;simpa using this
   have hxi:Classical.choose (hx i)=x:=by simpa [hi] using hix
   obtain ⟨_,c0,c1,c2,c3,c4,c5,c6⟩:=Classical.choose_spec (hx i) hi;rw [hxi,hadd] at c0 c1 c2 c3 c4 c5 c6;exact ⟨c0,c1,c2,c3,c4,c5,c6⟩
section
variable {H:Type} {enc:TypeId×Value→H} {P:Program}
theorem open_bytes3 {r:Reach} {b0:Nat} {t e:TypeId} {w:World} {v:Value} {d:DataW H} {p:List MemPlace} (ht:P.underlying t=some (.array 3 e)) (he:P.underlying e=some (.int .u8)) (hC:P.cellsOf t=3) (hE:P.cellsOf e=1)
 (hv:Value.okWide P w r b0 t v) (h:DataW.Trod enc P w 0 (fun _=>true) true t v d p):∃ x y z:Int,v=.agg #[.int .u8 x,.int .u8 y,.int .u8 z]∧(Lit.int .u8 x).wf=true∧(Lit.int .u8 y).wf=true∧(Lit.int .u8 z).wf=true:=by
 obtain ⟨cs,rfl,hsz⟩:∃ cs,v=.agg cs∧cs.size=P.cellsOf t:=by
  simp only [Value.okWide,ht] at hv;obtain ⟨cs,h1,h2,_⟩:=hv;exact ⟨cs,h1,h2⟩
 obtain ⟨l⟩:=cs
 match l,hsz.trans hC with
 | [c0,c1,c2],_=>
  obtain ⟨fuel,hf⟩:=h;obtain ⟨xs,n,_,_,_,hlen,hg⟩:=DataW.trod_array ht hf;rw [hE] at hg
  match xs,hlen with
  | [y0,y1,y2],_=>
   obtain ⟨x0,e0,_,z0⟩:=DataW.trod_int he (show DataW.trod enc P w 0 (fun _=>true) true n e [c0]=some y0 from hg 0 (by decide));obtain ⟨x1,e1,_,z1⟩:=DataW.trod_int he (show DataW.trod enc P w 0 (fun _=>true) true n e [c1]=some y1 from hg 1 (by decide));obtain ⟨x2,e2,_,z2⟩:=DataW.trod_int he (show DataW.trod enc P w 0 (fun _=>true) true n e [c2]=some y2 from hg 2 (by decide));simp only [List.cons.injEq,and_true] at e0 e1 e2;subst e0 e1 e2;exact ⟨x0,x1,x2,rfl,z0,z1,z2⟩
theorem open_ops {t e:TypeId} {f0 f1 f2 f3 g0 g1 g2 g3:Field} {w:World} {fuel:Nat} {v:Value} {x:DataW H×List MemPlace} (ht:P.underlying t=some (.slice e)) (he:P.underlying e=some (.struct #[f0,f1,f2,f3]))
 (hf:P.underlying f3.type=some (.struct #[g0,g1,g2,g3])) (ho:(f0.offset,f1.offset,f2.offset,f3.offset)=(0,1,2,3)) (hc:(P.cellsOf f0.type,P.cellsOf f1.type,P.cellsOf f2.type,P.cellsOf f3.type)=(1,1,1,4)) (hone:oneCellFields P #[g0,g1,g2,g3]=true) (hC:P.cellsOf e=7)
 (k0:P.underlying f0.type=some (.int .i64)) (k1:P.underlying f1.type=some .bool) (k2:P.underlying f2.type=some (.int .i64)) (m0:P.underlying g0.type=some (.int .i64)) (m1:P.underlying g1.type=some (.int .u64)) (m2:P.underlying g2.type=some (.int .u64)) (m3:P.underlying g3.type=some (.int .u64))
 (h:DataW.trod enc P w 0 (fun _=>true) true fuel t [v]=some x):∃ (A:Option Addr) (l:List OpV) (cap:Nat),v=.slice A l.length cap∧ReadsO w A l∧l.length≤9223372036854775807∧l.length≤cap∧∀ o ∈ l,o.fits:=by
 rcases Deep.open_slice ht h with h0 | ⟨a,len,cap,m,n,D,Pl,hcs,_,hlc,hm,hmm,_,hi⟩
 ·obtain rfl:v=.slice none 0 0:=by simpa using h0.1
  exact ⟨none,[],0,rfl,.inl rfl,by simp,by simp,by simp⟩
 ·obtain rfl:v=.slice (some a) len cap:=by simpa using hcs
  obtain ⟨l,hl,hfit,hr⟩:=ops_of (w:=w) (a:=a) (len:=len) fun i him=>by
   obtain ⟨cs',hcc,ht'⟩:=hi i (by rw [hmm]; split <;> omega);rw [hC] at hcc;obtain ⟨ys,n',_,_,hlen,hyl,hg⟩:=DataW.trod_struct he ht';obtain ⟨_,_,hat⟩:=World.cells?_some hcc;rw [hC] at hlen;simp only [Prod.mk.injEq] at ho hc;obtain ⟨o0,o1,o2,o3⟩:=ho;obtain ⟨j0,j1,j2,j3⟩:=hc
   match cs',hlen with
   | [v0,v1,v2,v3,v4,v5,v6],_=>
    match ys,hyl with
    | [y0,y1,y2,y3],_=>
     have q0:=hg 0 f0 rfl;have q1:=hg 1 f1 rfl;have q2:=hg 2 f2 rfl;have q3:=hg 3 f3 rfl;rw [o0,j0] at q0;rw [o1,j1] at q1;rw [o2,j2] at q2;rw [o3,j3] at q3;obtain ⟨x0,e0,_,z0⟩:=DataW.trod_int k0 (show DataW.trod enc P w 0 (fun _=>true) true n' f0.type [v0]=some y0 from q0);obtain ⟨x1,e1,_⟩:=DataW.trod_bool k1 (show DataW.trod enc P w 0 (fun _=>true) true n' f1.type [v1]=some y1 from q1);obtain ⟨x2,e2,_,z2⟩:=DataW.trod_int k2 (show DataW.trod enc P w 0 (fun _=>true) true n' f2.type [v2]=some y2 from q2);obtain ⟨us,n2,_,_,_,hul,hu⟩:=DataW.trod_struct hf (show DataW.trod enc P w 0 (fun _=>true) true n' f3.type [v3,v4,v5,v6]=some y3 from q3);obtain ⟨p0,i0⟩:=Deep.hone_of hone 0 g0 rfl;obtain ⟨p1,i1⟩:=Deep.hone_of hone 1 g1 rfl;obtain ⟨p2,i2⟩:=Deep.hone_of hone 2 g2 rfl;obtain ⟨p3,i3⟩:=Deep.hone_of hone 3 g3 rfl
     match us,hul with
     | [u0,u1,u2,u3],_=>
      have r0:=hu 0 g0 rfl;have r1:=hu 1 g1 rfl;have r2:=hu 2 g2 rfl;have r3:=hu 3 g3 rfl;rw [p0,i0] at r0;rw [p1,i1] at r1;rw [p2,i2] at r2;rw [p3,i3] at r3;obtain ⟨x3,e3,_,z3⟩:=DataW.trod_int m0 (show DataW.trod enc P w 0 (fun _=>true) true n2 g0.type [v3]=some u0 from r0);obtain ⟨x4,e4,_,z4⟩:=DataW.trod_int m1 (show DataW.trod enc P w 0 (fun _=>true) true n2 g1.type [v4]=some u1 from r1);obtain ⟨x5,e5,_,z5⟩:=DataW.trod_int m2 (show DataW.trod enc P w 0 (fun _=>true) true n2 g2.type [v5]=some u2 from r2);obtain ⟨x6,e6,_,z6⟩:=DataW.trod_int m3 (show DataW.trod enc P w 0 (fun _=>true) true n2 g3.type [v6]=some u3 from r3);simp only [List.cons.injEq,and_true] at e0 e1 e2 e3 e4 e5 e6;subst e0 e1 e2 e3 e4 e5 e6;refine ⟨⟨x0,x1,x2,x3,x4,x5,x6⟩,⟨(int_of z2).2,?_⟩,hat (i:=0) (by decide),hat (i:=1) (by decide),hat (i:=2) (by decide),hat (i:=3) (by decide),hat (i:=4) (by decide),hat (i:=5) (by decide),hat (i:=6) (by decide)⟩;exact ⟨(word_of z4).1,(word_of z5).1,(word_of z5).2⟩
  exact ⟨some a,l,cap,by rw [hl],hr,by unfold maxLen at hm; omega,by omega,hfit⟩
end
end
end Go.Proofs.YtadgpnoealegiaaGreat
