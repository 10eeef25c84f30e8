import Derived.Test.YtadgpnoealegiaaGreatP20
namespace Go.Proofs.YtadgpnoealegiaaGreat
open Go.RowKit
open Go.Lib (hid)
set_option maxRecDepth 100000
set_option maxHeartbeats 20000000
structure Cpu where
 ls:List Ln
 ph:Int
 vm:Int
 c:C
 wk:Wk
 fr:Int
 rv:Int
 re:Int
 ask:Int
 fs:List Int
def Cpu.rest (ls:List Ln):Cpu:=⟨ls,0,0,⟨0,0,0,0⟩,⟨0,0,0,0,0,0,0,0⟩,0,0,0,0,[]⟩
structure Mk where
 k:Int
 vm:Int
 at':Int
 c:C
 v:Int
 e:Int
def Mk.don (k:Mk):Bool:=k.k == 1 && k.c.k == 3 && k.e == 0
def Mk.go0 (k:Mk) (W:List Int):List Int:=if k.don=true then zeros W k.v 16 else W
def Mk.go (k:Mk) (W:List Int):List Int:=if k.k == 4 then st (k.go0 W) k.at' k.v else k.go0 W
def Mk.ok (n:Nat) (k:Mk) (W:List Int):Prop:=0≤k.at'∧k.at' < 16 * n∧(k.don=true→0≤k.v∧k.v < n)∧(k.k=3→ld W k.at'=k.v)
inductive Good (n:Nat):List Mk→List Int→Prop
 | nil:Good n [] (List.replicate (16 * n) 0)
 | snoc {ms:List Mk} {W:List Int} {k:Mk} (h:Good n ms W) (hk:k.ok n W):Good n (ms ++ [k]) (k.go W)
structure X where
 S:HS
 ep:Ep
 bx:Bx
 cp:List Cpu
 kn:Int→Bool
 mks:List Mk
def covA (a:Ask) (y:Ln):Prop:=a.t=y.t∧(a.p=-1∨a.p=y.p)
def fgt (ls:List Ln) (t p:Int):List Ln:=if p=-1 then ls.filter fun x=>!(x.t == t) else ls.filter fun x=>!x.of t p
theorem fgt_mem {ls:List Ln} {t p:Int} {y:Ln} (h:y ∈ fgt ls t p):y ∈ ls∧¬ (t=y.t∧(p=-1∨p=y.p)):=by
 unfold fgt at h;split at h
 ·obtain ⟨h1,h2⟩:=List.mem_filter.1 h;refine ⟨h1,fun h3=>?_⟩;simp at h2;exact h2 h3.1.symm
 ·rename_i hp;obtain ⟨h1,h2⟩:=List.mem_filter.1 h;refine ⟨h1,fun h3=>?_⟩;unfold Ln.of at h2;simp at h2;rcases h3 with ⟨rfl,h4 | rfl⟩
  ·exact hp h4
  ·simp at h2
def liveN (S:HS) (vm:Int):Bool:=decide (1≤vm∧vm≤16) && (S.g vm.toNat).isSome
def Cpu.want (u:Cpu):Int:=if u.c.k=6 then 1 else if u.c.k=7 then 2 else 0
def Cpu.page (u:Cpu):Int:=u.c.a / 16
def accN (S:HS) (u:Cpu):Bool:=decide (0 < u.want) && liveN S u.vm && rightC u.c && decide (u.c.a < 1048576)
def blk1 (u y:Cpu):Bool:=(u.c.k == 1 && (y.ph == 4 && y.c.k == 2)) || (u.c.k == 2 && (decide (2≤y.ph) && (decide (0 < y.vm) && y.vm == u.c.a)))
def blkN (cp:List Cpu) (i:Nat) (u:Cpu):Bool:=u.vm == 0 && (List.range cp.length).any fun j=>j != i && match cp[j]? with | some y=>blk1 u y | none=>false
def newTo (ps:List D) (kn:Int→Bool) (k:Nat):List Int:=((List.range k).filter fun (j:Nat)=>kd ps j == 5 && !kn j).map fun (j:Nat)=>(j:Int)
def newR (ps:List D) (kn:Int→Bool):List Int:=newTo ps kn ps.length
def knOr (kn:Int→Bool) (l:List Int):Int→Bool:=fun f=>kn f || l.contains f
def knNot (kn:Int→Bool) (l:List Int):Int→Bool:=fun f=>kn f && !l.contains f
def free1 (ps:List D) (f:Int):List D:=if inP ps f=true∧kd ps f=5 then (turnN ps f 0 0).1 else ps
def freeL (ps:List D) (l:List Int):List D:=l.foldl free1 ps
def covD (vm:Int) (c:C) (e:Int) (v p:Nat):Prop:=e=0∧((c.k=2∧(v:Int)=c.a)∨((c.k=4∨c.k=10)∧(v:Int)=vm∧(p:Int)=c.a))
def deadD (c:C) (e:Int) (v:Nat):Prop:=e=0∧c.k=2∧(v:Int)=c.a
def donD (c:C) (v e:Int):Option Int:=if c.k=3∧e=0 then some v else none
structure DoRel (S:HS) (t:Nat) (vm:Int) (c:C) (S':HS) (v e:Int):Prop where
 inv:HInv S' (t+1)
 step:HStep (covD vm c e) (deadD c e) (donD c v e) S S'
 v0:0≤v∧v < 18446744073709551616
 dst:e=0→c.k=2→vm=0∧1≤c.a∧c.a≤16
 pag:e=0→c.k=4∨c.k=5∨c.k=10→1≤vm∧vm≤16∧0≤c.a∧c.a < 65536
 cre:vm=0→c=⟨1,0,0,0⟩→∀ v0:Nat,1≤v0→v0≤16→(∀ u,1≤u→u < v0→S.g u≠none)→S.g v0=none→∀ f l,freeN S.ps=f :: l →
  v=v0∧e=0∧S'={ L:=zeros S.L f 16,ps:=setP S.ps f ⟨3,v0,0,0⟩,g:=updG S.g v0 (some (newG f)),T:=S.T }
 dna:c.k=3→rightC c=true→∀ (u:Nat) G,vm=(u:Int)→S.g u=some G→c.a < 65536→1≤c.b→c.b≤7→∀ f l,freeN S.ps=f :: l→(mapN S.L (setP S.ps f ⟨4,vm,0,0⟩) vm G.root c.a f c.b).2.2=0→v=f∧e=0
def goFree (x:X) (xs:List Int):X:=
 { x with S:={ x.S with ps:=freeL x.S.ps xs },ep:=x.ep.advance.drop xs,kn:=knNot x.kn xs,mks:=x.mks ++ xs.map fun f=>⟨2,0,f,⟨0,0,0,0⟩,0,0⟩ }
def mayFree (x:X) (xs:List Int):Prop:=∀ f ∈ xs,∃ e,x.ep.advance.wt f=some e∧e+2≤x.ep.advance.now
def posts (k:Int):Bool:=k == 2 || k == 4 || k == 5 || k == 10
inductive MStep (t:Nat) (i:Nat) (x:X):X→Int→Int→Bool→Prop
 | out (h:x.cp.length≤i):MStep t i x x 0 0 false
 | take {u:Cpu} {a:Ask} {q:List Ask} (hu:x.cp[i]?=some u) (hp:u.ph≠3) (hq:x.bx.bs[i]?=some (a :: q)) :
  MStep t i x { x with bx:=x.bx.take i a q,cp:=x.cp.set i { u with ls:=fgt u.ls a.t a.p } } 0 0 false
 | idle {u:Cpu} {xs:List Int} (hu:x.cp[i]?=some u) (hp:u.ph=0) (hx:mayFree x xs):MStep t i x (goFree x xs) 0 0 false
 | look {u:Cpu} {f:Int} {y:Ln} (hu:x.cp[i]?=some u) (hp:u.ph=1) (hq:x.bx.bs[i]?=some []) (ha:accN x.S u=true) (hy:y ∈ u.ls) (hof:y.of u.vm u.page=true) (hf:y.f=f) :
  MStep t i x { x with ep:=x.ep.set i x.ep.now,cp:=x.cp.set i { u with ph:=3,fr:=f } } 0 0 false
 | open' {u:Cpu} {G:GS} (hu:x.cp[i]?=some u) (hp:u.ph=1) (hq:x.bx.bs[i]?=some []) (ha:accN x.S u=true) (hg:x.S.g u.vm.toNat=some G) :
  MStep t i x { x with ep:=x.ep.set i x.ep.now,cp:=x.cp.set i { u with ph:=2,wk:=Wk.new G.root u.page u.want } } 0 0 false
 | busy {u:Cpu} (hu:x.cp[i]?=some u) (hp:u.ph=1) (hq:x.bx.bs[i]?=some []) (ha:accN x.S u=false) (hb:blkN x.cp i u=true):MStep t i x { x with cp:=x.cp.set i (Cpu.rest u.ls) } 0 9 true
 | sweep {u:Cpu} {xs:List Int} (hu:x.cp[i]?=some u) (hp:u.ph=1) (hq:x.bx.bs[i]?=some []) (ha:accN x.S u=false) (hc:u.vm=0∧u.c.k=17) (hx:mayFree x xs) {r:Int} :
  MStep t i x { goFree x xs with cp:=x.cp.set i (Cpu.rest u.ls) } r 0 true
 | call {u:Cpu} {S':HS} {v e:Int} (hu:x.cp[i]?=some u) (hp:u.ph=1) (hq:x.bx.bs[i]?=some []) (ha:accN x.S u=false) (hb:blkN x.cp i u=false) (hd:DoRel x.S t u.vm u.c S' v e) (hn:posts u.c.k=false∨e≠0) :
  MStep t i x { x with S:=S',kn:=knOr x.kn (newR S'.ps x.kn),mks:=x.mks ++ [⟨1,u.vm,0,u.c,v,e⟩],cp:=x.cp.set i (Cpu.rest u.ls) } v e true
 | post {u:Cpu} {S':HS} {v e tag page:Int} (hu:x.cp[i]?=some u) (hp:u.ph=1) (hq:x.bx.bs[i]?=some []) (ha:accN x.S u=false) (hb:blkN x.cp i u=false) (hd:DoRel x.S t u.vm u.c S' v e) (hn:posts u.c.k=true) (he:e=0)
  (htp:(u.c.k=2∧tag=u.c.a∧page=-1)∨(u.c.k≠2∧tag=u.vm∧page=u.c.a)) :
  MStep t i x { x with S:=S',kn:=knOr x.kn (newR S'.ps x.kn),mks:=x.mks ++ [⟨1,u.vm,0,u.c,v,e⟩],bx:=x.bx.post i tag page,cp:=x.cp.set i { u with ls:=fgt u.ls tag page,ph:=4,rv:=v,re:=e,ask:=x.bx.op.length+1,fs:=newR S'.ps x.kn } } 0 0 false
 | walk {u:Cpu} {s':Wk} (hu:x.cp[i]?=some u) (hp:u.ph=2) (hq:x.bx.bs[i]?=some []) (hs:TookTo u.wk (parseE (ld x.S.L (atN u.wk.f u.wk.p u.wk.l.toNat))) s') (hl:s'.l≠-1) :
  MStep t i x { x with cp:=x.cp.set i { u with wk:=s' } } 0 0 false
 | none {u:Cpu} {s':Wk} (hu:x.cp[i]?=some u) (hp:u.ph=2) (hq:x.bx.bs[i]?=some []) (hs:TookTo u.wk (parseE (ld x.S.L (atN u.wk.f u.wk.p u.wk.l.toNat))) s') (hl:s'.l=-1) (he:s'.fE≠0) :
  MStep t i x { x with ep:=x.ep.set i (-1),cp:=x.cp.set i (Cpu.rest u.ls) } 0 s'.fE true
 | fill {u:Cpu} {s':Wk} {ls:List Ln} (hu:x.cp[i]?=some u) (hp:u.ph=2) (hq:x.bx.bs[i]?=some []) (hs:TookTo u.wk (parseE (ld x.S.L (atN u.wk.f u.wk.p u.wk.l.toNat))) s') (hl:s'.l=-1) (he:s'.fE=0)
  (hls:∀ y ∈ ls,y ∈ u.ls∨y=⟨u.vm,u.page,s'.fF,s'.fR⟩) :
  MStep t i x { x with cp:=x.cp.set i { u with ls:=ls,wk:=s',ph:=3,fr:=s'.fF } } 0 0 false
 | store {u:Cpu} (hu:x.cp[i]?=some u) (hp:u.ph=3) (hk:u.c.k=7) :
  MStep t i x { x with S:={ x.S with L:=st x.S.L (16 * u.fr+u.c.a % 16) u.c.b },ep:=x.ep.set i (-1),mks:=x.mks ++ [⟨4,0,16 * u.fr+u.c.a % 16,⟨0,0,0,0⟩,u.c.b,0⟩],cp:=x.cp.set i (Cpu.rest u.ls) } 0 0 true
 | load {u:Cpu} (hu:x.cp[i]?=some u) (hp:u.ph=3) (hk:u.c.k≠7) :
  MStep t i x { x with ep:=x.ep.set i (-1),mks:=x.mks ++ [⟨3,0,16 * u.fr+u.c.a % 16,⟨0,0,0,0⟩,ld x.S.L (16 * u.fr+u.c.a % 16),0⟩],cp:=x.cp.set i (Cpu.rest u.ls) } (ld x.S.L (16 * u.fr+u.c.a % 16)) 0 true
 | wait {u:Cpu} (hu:x.cp[i]?=some u) (hp:u.ph=4) (hq:x.bx.bs[i]?=some []) (hd:x.bx.op.getD (u.ask.toNat - 1) 1≠0):MStep t i x x 0 0 false
 | done {u:Cpu} (hu:x.cp[i]?=some u) (hp:u.ph=4) (hq:x.bx.bs[i]?=some []) (hd:x.bx.op.getD (u.ask.toNat - 1) 1=0) :
  MStep t i x { x with ep:=u.fs.foldl Ep.retire x.ep,cp:=x.cp.set i (Cpu.rest u.ls) } u.rv u.re true
def C.fits (c:C):Prop:=0≤c.a∧0≤c.b∧c.b < 18446744073709551616
structure LineOk (S:HS) (V:Int→Prop) (q:List Ask) (y:Ln):Prop where
 v:V y.f
 p:0≤y.p
 ok:(∃ (vm:Nat) (G:GS) (ri:Int),y.t=vm∧S.g vm=some G∧G.lf y.p.toNat=some (y.f,ri))∨∃ a ∈ q,covA a y
def HeldBy (ep:Ep) (c:Nat) (f:Int):Prop:=∀ e,ep.wt f=some e→∃ p,ep.pins[c]?=some p∧p≤e
structure WalkOk (S:HS) (V:Int→Prop) (u:Cpu):Prop where
 l:0≤u.wk.l∧u.wk.l≤3
 p:u.wk.p=u.page
 a:0≤u.c.a∧u.c.a < 1048576
 vm:1≤u.vm
 ok:(∃ G,S.g u.vm.toNat=some G∧G.nd u.wk.l.toNat (pre u.page.toNat (u.wk.l.toNat+1))=some u.wk.f) ∨
  (inR S.ps u.wk.f∧kd S.ps u.wk.f=5∧¬ V u.wk.f∧∀ j:Nat,j < 16→ld S.L (16 * u.wk.f+j)=0)
structure WaitOk (x:X) (u:Cpu):Prop where
 r:1≤u.ask∧u.ask≤x.bx.op.length
 f:∀ f ∈ u.fs,inR x.S.ps f∧kd x.S.ps f=5∧x.ep.wt f=none
 q:∀ (c:Nat) (q:List Ask),x.bx.bs[c]?=some q→(∃ a ∈ q,a.id=u.ask)∨∀ a ∈ q,u.ask < a.id
 l:∀ f ∈ u.fs,∀ (c:Nat) (z:Cpu) (q:List Ask),x.cp[c]?=some z→x.bx.bs[c]?=some q→∀ y ∈ z.ls,y.f=f→∃ a ∈ q,a.id≤u.ask∧covA a y
def hasId (k:Int) (q:List Ask):Bool:=q.any fun a=>a.id == k
def cntId (bs:List (List Ask)) (k:Int):Nat:=(bs.filter (hasId k)).length
structure XInv (x:X) (n t:Nat) (V:Int→Prop) (W:List Int):Prop where
 hi:HInv x.S t
 pl:x.S.ps.length=n
 v1:∀ f,V f→inR x.S.ps f∧(kd x.S.ps f=4∨kd x.S.ps f=5)
 v4:∀ f,inR x.S.ps f→kd x.S.ps f=4→V f
 me:∀ f (j:Nat),V f→j < 16→ld x.S.L (16 * f+j)=ld W (16 * f+j)
 wl:W.length=16 * n
 gd:Good n x.mks W
 kn:∀ f,inR x.S.ps f→kd x.S.ps f=5→x.kn f=true
 wt:∀ f e,x.ep.wt f=some e→inR x.S.ps f∧kd x.S.ps f=5∧e≤x.ep.now
 el:x.ep.pins.length=x.cp.length
 bl:x.bx.bs.length=x.cp.length
 pr:∀ (c:Nat) (p:Int),x.ep.pins[c]?=some p→p=-1∨(0≤p∧x.ep.now≤p+1∧p≤x.ep.now)
 pn:∀ (c:Nat) (u:Cpu),x.cp[c]?=some u→(x.ep.pins[c]?=some (-1)↔¬ (u.ph=2∨u.ph=3))
 li:∀ (c:Nat) (u:Cpu) (q:List Ask),x.cp[c]?=some u→x.bx.bs[c]?=some q→∀ y ∈ u.ls,LineOk x.S V q y
 nl:∀ f e,x.ep.wt f=some e→∀ (c:Nat) (u:Cpu),x.cp[c]?=some u→∀ y ∈ u.ls,y.f≠f
 re:∀ (c:Nat) (u:Cpu),x.cp[c]?=some u→u.ph=3→V u.fr∧HeldBy x.ep c u.fr
 wk:∀ (c:Nat) (u:Cpu),x.cp[c]?=some u→u.ph=2→WalkOk x.S V u∧HeldBy x.ep c u.wk.f
 wa:∀ (c:Nat) (u:Cpu),x.cp[c]?=some u→u.ph=4→WaitOk x u
 wd:∀ (c:Nat) (u:Cpu) (c':Nat) (u':Cpu),x.cp[c]?=some u→x.cp[c']?=some u'→u.ph=4→u'.ph=4→c≠c'→u.ask≠u'.ask∧∀ f ∈ u.fs,f ∉ u'.fs
 id:∀ (c:Nat) (q:List Ask),x.bx.bs[c]?=some q→∀ a ∈ q,∃ (c':Nat) (u':Cpu),c'≠c∧x.cp[c']?=some u'∧u'.ph=4∧u'.ask=a.id
 so:∀ (c:Nat) (q:List Ask),x.bx.bs[c]?=some q→q.Pairwise fun a b=>a.id < b.id
 op:∀ (k:Nat) (m:Int),x.bx.op[k]?=some m→m=cntId x.bx.bs (k+1)
 ti:x.bx.op.length≤t∧x.ep.now≤t∧0≤x.ep.now
 ca:∀ (c:Nat) (u:Cpu),x.cp[c]?=some u→u.c.fits
theorem set_get {α:Type} {l:List α} {i c:Nat} {a u:α} (h:(l.set i a)[c]?=some u):(c=i∧u=a∧i < l.length)∨(c≠i∧l[c]?=some u):=by
 by_cases e:c=i
 ·subst e;have hl:c < l.length:=by
   have:=(List.getElem?_eq_some_iff.1 h).1;simpa using this
  rw [List.getElem?_set_self hl] at h;cases h;exact .inl ⟨rfl,rfl,hl⟩
 ·rw [List.getElem?_set_ne (fun h=>e h.symm)] at h;exact .inr ⟨e,h⟩
section
theorem WalkOk.to {S:HS} {V:Int→Prop} {u u':Cpu} (h:WalkOk S V u) (e1:u'.wk=u.wk) (e2:u'.c=u.c) (e3:u'.vm=u.vm):WalkOk S V u':=by
 obtain ⟨l,p,a,vm,ok⟩:=h;have e4:u'.page=u.page:=by unfold Cpu.page; rw [e2]
 exact ⟨by rw [e1]; exact l,by rw [e1,e4]; exact p,by rw [e2]; exact a,by rw [e3]; exact vm,by rw [e1,e3,e4]; exact ok⟩
theorem set_ls {cp:List Cpu} {i c:Nat} {u z:Cpu} {l:List Ln} (hu:cp[i]?=some u) (hz:(cp.set i { u with ls:=l })[c]?=some z) :
 ∃ z0 l',cp[c]?=some z0∧z={ z0 with ls:=l' }∧((c=i∧z0=u∧l'=l)∨(c≠i∧l'=z0.ls)):=by
 rcases set_get hz with ⟨rfl,rfl,_⟩ | ⟨h1,h2⟩
 ·exact ⟨u,l,hu,rfl,.inl ⟨rfl,rfl,rfl⟩⟩
 ·exact ⟨z,z.ls,h2,rfl,.inr ⟨h1,rfl⟩⟩
theorem get_ls {cp:List Cpu} {i c:Nat} {u z0:Cpu} {l:List Ln} (hu:cp[i]?=some u) (hz:cp[c]?=some z0) :
 ∃ l',(cp.set i { u with ls:=l })[c]?=some { z0 with ls:=l' }:=by
 by_cases e:c=i
 ·subst e;rw [hu] at hz;cases hz;exact ⟨l,List.getElem?_set_self (List.getElem?_eq_some_iff.1 hu).1⟩
 ·refine ⟨z0.ls,?_⟩;rw [List.getElem?_set_ne (fun h=>e h.symm)];exact hz
theorem cnt_set {bs:List (List Ask)} {i:Nat} {q q':List Ask} (h:bs[i]?=some q) (k:Int):cntId (bs.set i q') k+(if hasId k q=true then 1 else 0)=cntId bs k+if hasId k q'=true then 1 else 0:=by
 unfold cntId
 induction bs generalizing i with
 | nil=>simp at h
 | cons b bs ih=>
  cases i with
  | zero=>
   have h:b=q:=by simpa using h
   subst h;rw [List.set_cons_zero,List.filter_cons,List.filter_cons];split <;> split <;> simp_all
  | succ i=>
   have h:bs[i]?=some q:=by simpa using h
   have:=ih h;rw [List.set_cons_succ,List.filter_cons,List.filter_cons];split
   ·simp only [List.length_cons];omega
   ·exact this
theorem hasId_iff {k:Int} {q:List Ask}:hasId k q=true↔∃ a ∈ q,a.id=k:=by
 unfold hasId;simp
variable {x:X} {n t:Nat} {V:Int→Prop} {W:List Int}
theorem XInv.take (h:XInv x n t V W) {i:Nat} {u:Cpu} {a:Ask} {q:List Ask} (hu:x.cp[i]?=some u) (hp:u.ph≠3) (hq:x.bx.bs[i]?=some (a :: q)) :
 XInv { x with bx:=x.bx.take i a q,cp:=x.cp.set i { u with ls:=fgt u.ls a.t a.p } } n t V W:=by
 have hil:i < x.bx.bs.length:=(List.getElem?_eq_some_iff.1 hq).1;have hbs:∀ {c:Nat} {q':List Ask},(x.bx.take i a q).bs[c]?=some q'→(c=i∧q'=q)∨(c≠i∧x.bx.bs[c]?=some q'):=fun {c q'} hc=>by
  rcases set_get hc with ⟨h1,h2,_⟩ | h1
  ·exact .inl ⟨h1,h2⟩
  ·exact .inr h1
 have hso:=h.so i _ hq;rw [List.pairwise_cons] at hso;obtain ⟨c0,u0,hc0,hu0,hp0,ha0⟩:=h.id i _ hq a (.head _);have hw0:=(h.wa c0 u0 hu0 hp0).r;have hops:(x.bx.take i a q).op.length=x.bx.op.length:=by unfold Bx.take; simp
 have line:∀ {c:Nat} {z0:Cpu} {l':List Ln} {q':List Ask} {y:Ln},x.cp[c]?=some z0→((c=i∧z0=u∧l'=fgt u.ls a.t a.p)∨(c≠i∧l'=z0.ls))→(x.bx.take i a q).bs[c]?=some q'→y ∈ l' →
  ∃ q0,x.bx.bs[c]?=some q0∧y ∈ z0.ls∧(∀ b ∈ q0,covA b y→b ∈ q')∧(∀ b ∈ q',b ∈ q0):=fun {c z0 l' q' y} hz hl hc hy=>by
  rcases hbs hc with ⟨rfl,rfl⟩ | ⟨h1,h2⟩
  ·rcases hl with ⟨_,rfl,rfl⟩ | ⟨h3,_⟩
   ·obtain ⟨h4,h5⟩:=fgt_mem hy;refine ⟨_,hq,h4,fun b hb hcov=>?_,fun b hb=>.tail _ hb⟩;rcases List.mem_cons.1 hb with rfl | hb
    ·exact absurd hcov h5
    ·exact hb
   ·exact absurd rfl h3
  ·rcases hl with ⟨h3,_⟩ | ⟨_,rfl⟩
   ·exact absurd h3 h1
   ·exact ⟨_,h2,hy,fun b hb _=>hb,fun b hb=>hb⟩
 refine ⟨h.hi,h.pl,h.v1,h.v4,h.me,h.wl,h.gd,h.kn,h.wt,by rw [List.length_set]; exact h.el,by unfold Bx.take; simp only [List.length_set]; exact h.bl,h.pr,fun c z hz=>?_,fun c z q' hz hc y hy=>?_,fun f e hf c z hz y hy=>?_,fun c z hz hph=>?_,fun c z hz hph=>?_,fun c z hz hph=>?_,
  fun c z c' z' hz hz' hph hph' hne=>?_,fun c q' hc b hb=>?_,fun c q' hc=>?_,fun k m hk=>?_,by rw [hops]; exact h.ti,fun c z hz=>?_⟩
 ·obtain ⟨z0,l',h0,rfl,_⟩:=set_ls hu hz;exact h.pn c z0 h0
 ·obtain ⟨z0,l',h0,rfl,hl⟩:=set_ls hu hz;obtain ⟨q0,hq0,hy0,hcv,_⟩:=line h0 hl hc hy;obtain ⟨a1,a2,a3⟩:=h.li c z0 q0 h0 hq0 y hy0;exact ⟨a1,a2,a3.imp (fun h=>h) fun ⟨b,hb,hcov⟩=>⟨b,hcv b hb hcov,hcov⟩⟩
 ·obtain ⟨z0,l',h0,rfl,hl⟩:=set_ls hu hz;refine h.nl f e hf c z0 h0 y ?_;rcases hl with ⟨_,rfl,rfl⟩ | ⟨_,rfl⟩
  ·exact (fgt_mem hy).1
  ·exact hy
 ·obtain ⟨z0,l',h0,rfl,_⟩:=set_ls hu hz;exact h.re c z0 h0 hph
 ·obtain ⟨z0,l',h0,rfl,_⟩:=set_ls hu hz;exact ⟨(h.wk c z0 h0 hph).1.to rfl rfl rfl,(h.wk c z0 h0 hph).2⟩
 ·obtain ⟨z0,l',h0,rfl,_⟩:=set_ls hu hz;have hw:=h.wa c z0 h0 hph;refine ⟨⟨hw.r.1,by rw [hops]; exact hw.r.2⟩,hw.f,fun c' q' hc=>?_,fun f hf c' z' q' hz' hc y hy he=>?_⟩
  ·rcases hbs hc with ⟨rfl,rfl⟩ | ⟨_,h2⟩
   ·rcases hw.q c' _ hq with ⟨b,hb,he⟩ | h3
    ·rcases List.mem_cons.1 hb with rfl | hb
     ·exact .inr fun b' hb'=>by
       have h4:=hso.1 b' hb';show z0.ask < b'.id;omega
     ·exact .inl ⟨b,hb,he⟩
    ·exact .inr fun b hb=>h3 b (.tail _ hb)
   ·exact hw.q c' q' h2
  ·obtain ⟨z1,l1,h1,rfl,hl1⟩:=set_ls hu hz';obtain ⟨q0,hq0,hy0,hcv,_⟩:=line h1 hl1 hc hy;obtain ⟨b,hb,hle,hcov⟩:=hw.l f hf c' z1 q0 h1 hq0 y hy0 he;exact ⟨b,hcv b hb hcov,hle,hcov⟩
 ·obtain ⟨z0,l',h0,rfl,_⟩:=set_ls hu hz;obtain ⟨z1,l1,h1,rfl,_⟩:=set_ls hu hz';exact h.wd c z0 c' z1 h0 h1 hph hph' hne
 ·have hin:∃ q0,x.bx.bs[c]?=some q0∧b ∈ q0:=by
   rcases hbs hc with ⟨rfl,rfl⟩ | ⟨_,h2⟩
   ·exact ⟨_,hq,.tail _ hb⟩
   ·exact ⟨_,h2,hb⟩
  obtain ⟨q0,hq0,hb0⟩:=hin;obtain ⟨c',u',h1,h2,h3,h4⟩:=h.id c q0 hq0 b hb0;obtain ⟨l',h5⟩:=get_ls (l:=fgt u.ls a.t a.p) hu h2;exact ⟨c',_,h1,h5,h3,h4⟩
 ·rcases hbs hc with ⟨rfl,rfl⟩ | ⟨_,h2⟩
  ·exact hso.2
  ·exact h.so c q' h2
 ·have hcs:=cnt_set (q':=q) hq;have hid1:hasId a.id (a :: q)=true:=hasId_iff.2 ⟨a,.head _,rfl⟩;have hid2:hasId a.id q=false:=by
   rw [← Bool.not_eq_true,hasId_iff];rintro ⟨b,hb,e⟩;have:=hso.1 b hb;omega
  unfold Bx.take at hk;dsimp only at hk;have hj:(a.id.toNat - 1:Nat) < x.bx.op.length:=by omega
  rcases set_get hk with ⟨h1,h2,_⟩ | ⟨h1,h2⟩
  ·have h3:x.bx.op[a.id.toNat - 1]?=some x.bx.op[a.id.toNat - 1]:=List.getElem?_eq_getElem hj;have h4:=h.op _ _ h3;have e1:((a.id.toNat - 1:Nat):Int)+1=a.id:=by omega
   rw [e1] at h4;have h5:=hcs a.id;rw [hid1,hid2,if_pos rfl,if_neg (by simp)] at h5;rw [List.getD_eq_getElem?_getD,h3,Option.getD_some] at h2;show m=(cntId (x.bx.bs.set i q) ((k:Int)+1):Int);rw [h1,e1];omega
  ·have h5:=hcs ((k:Int)+1);have hne:((k:Int)+1)≠a.id:=by omega
   have e2:hasId ((k:Int)+1) (a :: q)=hasId ((k:Int)+1) q:=by
    unfold hasId;rw [List.any_cons];have:(a.id == (k:Int)+1)=false:=beq_eq_false_iff_ne.2 fun e=>hne e.symm;rw [this,Bool.false_or]
   rw [e2] at h5;have h4:=h.op k m h2;show m=(cntId (x.bx.bs.set i q) ((k:Int)+1):Int);omega
 ·obtain ⟨z0,l',h0,rfl,_⟩:=set_ls hu hz;exact h.ca c z0 h0
end
end Go.Proofs.YtadgpnoealegiaaGreat
