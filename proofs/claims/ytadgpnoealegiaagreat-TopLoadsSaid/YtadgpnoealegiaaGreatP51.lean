import Derived.Test.YtadgpnoealegiaaGreatP50
import Derived.Deep.CutBlock
namespace Go.Proofs.YtadgpnoealegiaaGreat
open Go.RowKit
open Go.Lib (hid)
set_option maxRecDepth 100000
set_option maxHeartbeats 20000000
theorem range_3 (k:Nat):List.range (k+3)=0 :: 1 :: 2 :: (List.range k).map (·+3):=by
 simp [List.range_succ_eq_map]
theorem freeN_3 {ps:List D} {k:Nat} (h:ps.length=k+3):freeN ps=((0 :: 1 :: 2 :: (List.range k).map (·+3)).filter fun (j:Nat)=>(dOf ps j).k == 0).map fun (j:Nat)=>(j:Int):=by
 unfold freeN suchN suchTo;rw [h,range_3]
def Sb (n:Nat):Nat→HS
 | 0=>HS.new n
 | i+1=>{ L:=zeros (Sb n i).L i 16,ps:=setP (Sb n i).ps i ⟨3,(i+1:Nat),0,0⟩,g:=updG (Sb n i).g (i+1) (some (newG i)),T:=(Sb n i).T }
theorem Sb_ps0 (m:Nat):(Sb (m+3) 0).ps=zD :: zD :: zD :: List.replicate m zD:=rfl
theorem Sb_ps1 (m:Nat):(Sb (m+3) 1).ps=⟨3,1,0,0⟩ :: zD :: zD :: List.replicate m zD:=rfl
theorem Sb_ps2 (m:Nat):(Sb (m+3) 2).ps=⟨3,1,0,0⟩ :: ⟨3,2,0,0⟩ :: zD :: List.replicate m zD:=rfl
theorem Sb_free (m i:Nat) (hi:i≤2):∃ l,freeN (Sb (m+3) i).ps=(i:Int) :: l:=by
 have:i=0∨i=1∨i=2:=by omega
 rcases this with rfl | rfl | rfl
 ·rw [Sb_ps0,freeN_3 (k:=m) (by simp)];exact ⟨_,rfl⟩
 ·rw [Sb_ps1,freeN_3 (k:=m) (by simp)];exact ⟨_,rfl⟩
 ·rw [Sb_ps2,freeN_3 (k:=m) (by simp)];exact ⟨_,rfl⟩
def Cpu.asks (vm:Int) (c:C):Cpu:=⟨[],1,vm,c,⟨0,0,0,0,0,0,0,0⟩,0,0,0,0,[]⟩
structure Bg (n cpus i:Nat) (x:X):Prop where
 ex:∃ V W,XInv x n i V W
 S:x.S=Sb n i
 cp:x.cp=List.replicate cpus (Cpu.rest [])
 bs:x.bx.bs=List.replicate cpus []
 mn:x.mks.length=i
theorem Bg.new {n cpus:Nat} (h0:4≤n) (h1:n≤4096):Bg n cpus 0 (X.new n cpus):=⟨⟨_,_,XInv.new n cpus h0 h1⟩,rfl,rfl,rfl,rfl⟩
theorem MStep.first {t:Nat} {x x2:X} {u:Cpu} {v e:Int} {d:Bool} (hu:x.cp[0]?=some u) (hp:u.ph=1) (hb:x.bx.bs[0]?=some []) (ha:accN x.S u=false) (hbl:blkN x.cp 0 u=false) (hsw:¬ (u.vm=0∧u.c.k=17)) (hpo:posts u.c.k=false) (h:MStep t 0 x x2 v e d) :
 d=true∧∃ S',DoRel x.S t u.vm u.c S' v e∧x2={ x with S:=S',kn:=knOr x.kn (newR S'.ps x.kn),mks:=x.mks ++ [⟨1,u.vm,0,u.c,v,e⟩],cp:=x.cp.set 0 (Cpu.rest u.ls) }:=by
 have hl:=(List.getElem?_eq_some_iff.1 hu).1;cases h with
 | out h=>omega
 | take hu' hp' hq'=>rw [hb] at hq'; cases hq'
 | idle hu' hp'=>rw [hu] at hu'; cases hu'; omega
 | look hu' hp' hq' ha'=>rw [hu] at hu'; cases hu'; rw [ha] at ha'; cases ha'
 | open' hu' hp' hq' ha'=>rw [hu] at hu'; cases hu'; rw [ha] at ha'; cases ha'
 | busy hu' hp' hq' ha' hb'=>rw [hu] at hu'; cases hu'; rw [hbl] at hb'; cases hb'
 | sweep hu' hp' hq' ha' hc'=>rw [hu] at hu'; cases hu'; exact absurd hc' hsw
 | call hu' hp' hq' ha' hb' hd' hn'=>rw [hu] at hu'; cases hu'; exact ⟨rfl,_,hd',rfl⟩
 | post hu' hp' hq' ha' hb' hd' hn'=>rw [hu] at hu'; cases hu'; rw [hpo] at hn'; cases hn'
 | walk hu' hp'=>rw [hu] at hu'; cases hu'; omega
 | none hu' hp'=>rw [hu] at hu'; cases hu'; omega
 | fill hu' hp'=>rw [hu] at hu'; cases hu'; omega
 | store hu' hp'=>rw [hu] at hu'; cases hu'; omega
 | load hu' hp'=>rw [hu] at hu'; cases hu'; omega
 | wait hu' hp'=>rw [hu] at hu'; cases hu'; omega
 | done hu' hp'=>rw [hu] at hu'; cases hu'; omega
theorem rest_blk (u:Cpu) (ls:List Ln):blk1 u (Cpu.rest ls)=false:=by
 simp [blk1,Cpu.rest]
theorem Bg.asked {n cpus i:Nat} {x x1:X} {vm er:Int} {c:C} (h:Bg n cpus i x) (hc:1≤cpus) (ha:AskTo x 0 vm c x1 er):er=0∧x1={ x with cp:=x.cp.set 0 (Cpu.asks vm c) }:=by
 have h0:x.cp[0]?=some (Cpu.rest []):=by
  rw [h.cp,List.getElem?_replicate,if_pos (by omega)]
 rcases ha with ⟨j,u,hj,hu,_,h1,h2⟩ | ⟨_,_,h3⟩
 ·have hj:j=0:=by omega
  subst hj;rw [h0] at hu;injection hu with hu;subst hu;exact ⟨h1,h2⟩
 ·exact absurd rfl (h3 0 _ rfl h0)
theorem Bg.first {n cpus i t:Nat} {x x2:X} {vm v e:Int} {c:C} {d:Bool} (h:Bg n cpus i x) (hc:1≤cpus) (hk:c.k=1∨c.k=3) (hs:MStep t 0 { x with cp:=x.cp.set 0 (Cpu.asks vm c) } x2 v e d) :
 d=true∧∃ S',DoRel x.S t vm c S' v e∧x2.S=S'∧x2.cp=List.replicate cpus (Cpu.rest [])∧x2.bx.bs=List.replicate cpus []∧x2.mks.length=i+1:=by
 have hl:0 < x.cp.length:=by rw [h.cp]; simp; omega
 obtain ⟨h1,S',h2,h3⟩:=hs.first (u:=Cpu.asks vm c) (by show (x.cp.set 0 _)[0]?=_; rw [List.getElem?_set_self hl]) rfl (by
  show x.bx.bs[0]?=some [];rw [h.bs,List.getElem?_replicate,if_pos (by omega)]) (by
  unfold accN Cpu.want;show (decide (0 < if c.k=6 then (1:Int) else if c.k=7 then 2 else 0) && _ && _ && _)=false;rw [if_neg (by omega),if_neg (by omega)];rfl) (blkN_no fun j y hj hy hji _=>by
  have hy:(x.cp.set 0 _)[j]?=some y:=hy;rw [List.getElem?_set_ne (by omega),h.cp,List.getElem?_replicate] at hy;split at hy
  ·injection hy with hy;rw [← hy];exact rest_blk _ _
  ·cases hy) (fun hh=>by
  have:c.k=17:=hh.2;omega) (by
  show posts c.k=false;rcases hk with hk | hk <;> (rw [hk]; rfl))
 refine ⟨h1,S',h2,by rw [h3],?_,by rw [h3]; exact h.bs,by rw [h3]; simp [h.mn]⟩;rw [h3];show (x.cp.set 0 _).set 0 (Cpu.rest [])=_;rw [List.set_set,h.cp];apply List.ext_getElem?;intro j;by_cases hj:j=0
 ·subst hj;rw [List.getElem?_set_self (by simp; omega),List.getElem?_replicate,if_pos (by omega)]
 ·rw [List.getElem?_set_ne (by omega)]
theorem Bg.create {m cpus i:Nat} {x x2:X} {v e:Int} {d:Bool} (h:Bg (m+3) cpus i x) (hi:i < 2) (hc:1≤cpus) (hs:MStep i 0 { x with cp:=x.cp.set 0 (Cpu.asks 0 ⟨1,0,0,0⟩) } x2 v e d) :
 d=true∧v=(i+1:Nat)∧e=0∧Bg (m+3) cpus (i+1) x2:=by
 obtain ⟨h1,S',hd,h2,h3,h4,h5⟩:=h.first hc (.inl rfl) hs;obtain ⟨l,hf⟩:=Sb_free m i (by omega);have hg:∀ k,1≤k→k < i+1→x.S.g k≠none:=fun k k1 k2=>by
  rw [h.S];have:k=1∧i=1:=by omega
  obtain ⟨rfl,rfl⟩:=this;simp [Sb,updG]
 have hn:x.S.g (i+1)=none:=by
  rw [h.S];have:i=0∨i=1:=by omega
  rcases this with rfl | rfl
  ·rfl
  ·simp [Sb,updG,HS.new]
 obtain ⟨a1,a2,a3⟩:=hd.cre rfl rfl (i+1) (by omega) (by omega) hg hn i l (by rw [h.S]; exact hf);obtain ⟨V,W,hx⟩:=h.ex;have hx1:=hx.ask (i:=0) (u:=Cpu.rest []) (by rw [h.cp,List.getElem?_replicate,if_pos (by omega)]) rfl 0 ⟨1,0,0,0⟩ ⟨Int.le_refl _,Int.le_refl _,by show (0:Int) < _; decide⟩;refine ⟨h1,a1,a2,⟨hx1.step hs,?_,h3,h4,h5⟩⟩;rw [h2,a3,h.S];rfl
theorem alive_map : (mapN (Sb 30 2).L (setP (Sb 30 2).ps 2 ⟨4,1,0,0⟩) 1 (newG 0).root 1 2 3).2.2=0:=by kernel_rfl
theorem Bg.donate {cpus:Nat} {x x2:X} {v e:Int} {d:Bool} (h:Bg 30 cpus 2 x) (hc:1≤cpus) (hs:MStep 2 0 { x with cp:=x.cp.set 0 (Cpu.asks 1 ⟨3,1,3,0⟩) } x2 v e d):d=true∧v=2∧e=0:=by
 obtain ⟨h1,S',hd,_⟩:=h.first hc (.inr rfl) hs;obtain ⟨l,hf⟩:∃ l,freeN (Sb 30 2).ps=(2:Int) :: l:=Sb_free 27 2 (by omega);have hm:=alive_map;obtain ⟨S,hS⟩:∃ S,Sb 30 2=S:=⟨_,rfl⟩;rw [hS] at hf hm;have hxS:x.S=S:=h.S.trans hS;have hg:x.S.g 1=some (newG 0):=by
  rw [h.S];simp [Sb,updG]
 obtain ⟨a1,a2⟩:=hd.dna rfl (by decide) 1 (newG 0) rfl hg (by show (1:Int) < 65536; omega) (by show (1:Int)≤3; omega) (by show (3:Int)≤7; omega) 2 l (by rw [hxS]; exact hf) (by rw [hxS]; exact hm);exact ⟨h1,a1,a2⟩
structure Fr (w0 w:World) (p:MuP) (N:Nat):Prop where
 o:Only [] w0 w
 f:∀ i,∀ y ∈ p.foot N i,w0.heap.size≤y
theorem Fr.to {w0 w w':World} {p p':MuP} {N:Nat} (h:Fr w0 w p N) (k:MuTo w w' p p' N):Fr w0 w' p' N:=by
 obtain ⟨T,o,hT⟩:=k.o;refine ⟨h.o.then o fun y hy=>.inr ?_,fun i y hy=>?_⟩
 ·obtain ⟨i,hi⟩:=hT y hy;exact h.f i y hi
 ·rcases k.f i y hy with ⟨j,hj⟩ | h2
  ·exact h.f j y hj
  ·have:=h.o.size;omega
theorem Fr.quiet {w0 w w':World} {p:MuP} {N:Nat} (h:Fr w0 w p N) (o:Only [] w w'):Fr w0 w' p N:=⟨h.o.trans o,h.f⟩
structure BgAt (w0:World) (n cpus lines b i:Nat) (p:MuP) (x:X) (w:World):Prop where
 m:IsMu w p lines x
 g:Bg n cpus i x
 f:Fr w0 w p cpus
 b:p.b=b
theorem BgAt.len {w0 w:World} {n cpus lines b i:Nat} {p:MuP} {x:X} (h:BgAt w0 n cpus lines b i p x w):x.cp.length=cpus:=by rw [h.g.cp]; simp
theorem BgAt.quiet {w0 w w':World} {n cpus lines b i:Nat} {p:MuP} {x:X} (h:BgAt w0 n cpus lines b i p x w) (o:Only [] w w'):BgAt w0 n cpus lines b i p x w':=⟨h.m.quiet o,h.g,h.f.quiet o,h.b⟩
theorem BgAt.ask {w0 w:World} {n cpus lines b i:Nat} {p:MuP} {x:X} (h:BgAt w0 n cpus lines b i p x w) (hc:1≤cpus) (vm:Int) (c:C) (hv:vm < 9223372036854775808):Calls Tryz.prog 9 #[ptr b,.int .i64 0,.int .i64 vm,c.val] w fun e w'=>e=.returned (.int .i64 0)∧IsMu w' p lines { x with cp:=x.cp.set 0 (Cpu.asks vm c) }∧Fr w0 w' p cpus:=by
 have:=muask_any h.m 0 vm c hv;rw [h.b] at this;refine this.mono ?_;rintro e w' ⟨er,x',rfl,hm,hk,ha⟩;obtain ⟨rfl,rfl⟩:=h.g.asked hc ha;rw [h.len] at hk;exact ⟨rfl,hm,h.f.to hk⟩
theorem BgAt.step {w0 w:World} {m cpus lines b i:Nat} {p:MuP} {x:X} (hg:Bg (m+3) cpus i x) (hm:IsMu w p lines { x with cp:=x.cp.set 0 (Cpu.asks 0 ⟨1,0,0,0⟩) }) (hf:Fr w0 w p cpus) (hb:p.b=b) (hc:1≤cpus) (hi:i < 2):Calls Tryz.prog 10 #[ptr b,.int .i64 0] w fun e w'=>e=.returned (.tuple #[.agg #[.int .u64 (i+1:Nat),.int .i64 0],.bool true])∧∃ p' x',BgAt w0 (m+3) cpus lines b (i+1) p' x' w':=by
 obtain ⟨V,W,hx⟩:=hg.ex;have hl:x.cp.length=cpus:=by rw [hg.cp]; simp
 have hx1:=hx.ask (i:=0) (u:=Cpu.rest []) (by rw [hg.cp,List.getElem?_replicate,if_pos (by omega)]) rfl 0 ⟨1,0,0,0⟩ ⟨Int.le_refl _,Int.le_refl _,by show (0:Int) < _; decide⟩;have:=mstep_any hm hx1 (by omega) (by have:=hg.mn; show x.mks.length < 80000000; omega) 0;rw [hb] at this;refine this.mono ?_;rintro e w' ⟨v,er,en,p',x',k,rfl,h1,h2,h3,h4,h5,h6⟩;have hk:k=0:=by have:=h6 (Int.le_refl _); omega
 subst hk;obtain ⟨rfl,rfl,rfl,hg'⟩:=hg.create hi hc h5;have hl2:(x.cp.set 0 (Cpu.asks 0 ⟨1,0,0,0⟩)).length=cpus:=by rw [List.length_set,hl]
 have h2:MuTo w w' p p' (x.cp.set 0 (Cpu.asks 0 ⟨1,0,0,0⟩)).length:=h2;rw [hl2] at h2;exact ⟨rfl,p',x',h1,hg',hf.to h2,h2.b.trans hb⟩
theorem lbegin_any (w:World) (m n cpus lines:Nat) (hn:n=m+3) (h0:1≤m) (h1:n≤4096) (hc0:1≤cpus) (hc8:cpus≤8) (hl0:1≤lines) (hl1:lines≤64):Calls Tryz.prog 4 #[.int .i64 n,.int .i64 cpus,.int .i64 lines] w fun e w'=>∃ p x,e=.returned (.tuple #[ptr p.b,.bool true])∧BgAt w n cpus lines p.b 2 p x w':=by
 have HN:=hid hn;clear hn;have HNEW:=hid (mnew_any w n cpus lines (by have:=HN.out; omega) h1 hc0 hc8 hl0 hl1);go_enter Tryz.func4,Tryz.ntmps4;go_wp2_with fail;refine HNEW.out.mono ?_;rintro e w1 ⟨p,rfl,ho,hm,hf⟩;obtain ⟨b,hb⟩:∃ b,p.b=b:=⟨_,rfl⟩;rw [hb];have HB:=hid (show BgAt w n cpus lines b 0 p (X.new n cpus) w1 from ⟨hm,Bg.new (by have:=HN.out; omega) h1,⟨ho,hf⟩,hb⟩);clear ho hm hf hb HNEW;go_wp2_with fail;go_loopg [10] 2 (fun q i wr=>q≤2∧i=.int .i64 ((2:Int) - q)∧∃ p x,BgAt w n cpus lines b (2 - q) p x wr)
 case atStart=>exact ⟨Nat.le_refl _,rfl,p,_,HB.out⟩
 case round=>
  obtain ⟨hq,rfl,p2,x2,hbg⟩:=hrel;have HG:=hid hbg;clear hbg;cases gk with
  | zero=>
   have hlt1:¬ ((2:Int) - ((0:Nat):Int) < 2):=by omega
   go_wp2_with fail;go_ret2;exact ⟨p2,by rw [HG.out.b]; rfl,x2,by rw [HG.out.b]; exact HG.out⟩
  | succ q=>
   obtain ⟨j,hj⟩:∃ j,2 - (q+1)=j:=⟨_,rfl⟩;have ej:(2:Int) - ((q+1:Nat):Int)=(j:Int):=by omega
   have hjn:j < 2:=by omega
   rw [ej];rw [hj] at HG;have hlt1:(j:Int) < 2:=by omega
   have ew1:IntKind.i64.wrap (1+(j:Int))=1+(j:Int):=by rw [IntKind.wrap_i64]; omega
   have ew2:IntKind.i64.wrap ((j:Int)+1)=(j:Int)+1:=by rw [IntKind.wrap_i64]; omega
   have ew3:IntKind.u64.wrap (1+(j:Int))=1+(j:Int):=by rw [IntKind.wrap_u64]; omega
   have HAS:=hid (HG.out.ask hc0 0 ⟨1,0,0,0⟩ (by decide));rw [c_out] at HAS;clear ej;go_wp2_with fail;refine HAS.out.mono ?_;rintro e w3 ⟨rfl,h3,f3⟩;have HST:=hid (BgAt.step (m:=m) (by rw [← HN.out]; exact HG.out.g) h3 f3 HG.out.b hc0 hjn);rw [← HN.out] at HST;clear h3 f3;go_wp2_with fail;refine HST.out.mono ?_;rintro e w4 ⟨rfl,p4,x4,h4⟩;have e4:((j+1:Nat):Int)=1+(j:Int):=by omega
   rw [e4];have HG4:=hid (h4.quiet ((Only.refl [] w4).alloc (.cells #[.int .u64 (1+(j:Int)),.int .i64 0] 38)));clear h4 e4;go_wp2_with fail;go_roundg q
   case measure=>omega
   case rel=>
    refine ⟨by omega,by congr 1; omega,p4,x4,?_⟩;rw [show 2 - q=j+1 by omega];exact HG4.out
theorem alive_any (w:World):Calls Tryz.prog 7 #[] w fun e w'=>e=.returned (.bool true)∧Only [] w w':=by
 have HBG:=hid (lbegin_any w 27 30 1 2 rfl (by decide) (by decide) (by decide) (by decide) (by decide) (by decide));go_enter Tryz.func7,Tryz.ntmps7;go_wp2_with fail;refine HBG.out.mono ?_;rintro e w1 ⟨p,x,rfl,hb⟩;have HG:=hid hb;have HAS:=hid (hb.ask (by decide) 1 ⟨3,1,3,0⟩ (by decide));rw [c_out] at HAS;clear hb HBG;go_wp2_with fail;refine HAS.out.mono ?_;rintro e w3 ⟨rfl,h3,f3⟩;have HST:=hid (show Calls Tryz.prog 10 #[ptr p.b,.int .i64 0] w3 fun e w'=>e=.returned (.tuple #[.agg #[.int .u64 2,.int .i64 0],.bool true])∧Only [] w w' from by
  obtain ⟨V,W,hx⟩:=HG.out.g.ex;have hl:x.cp.length=1:=HG.out.len;have hx1:=hx.ask (i:=0) (u:=Cpu.rest []) (by rw [HG.out.g.cp]; rfl) rfl 1 ⟨3,1,3,0⟩ ⟨by show (0:Int)≤1; decide,by show (0:Int)≤3; decide,by show (3:Int) < _; decide⟩;refine (mstep_any h3 hx1 (by omega) (by have:=HG.out.g.mn; show x.mks.length < 80000000; omega) 0).mono ?_;rintro e w' ⟨v,er,en,p',x',k,rfl,h1,h2,_,h4,h5,h6⟩;have hk:k=0:=by have:=h6 (Int.le_refl _); omega
  subst hk;obtain ⟨rfl,rfl,rfl⟩:=HG.out.g.donate (by decide) h5;have hl2:(x.cp.set 0 (Cpu.asks 1 ⟨3,1,3,0⟩)).length=1:=by rw [List.length_set,hl]
  have h2:MuTo w3 w' p p' (x.cp.set 0 (Cpu.asks 1 ⟨3,1,3,0⟩)).length:=h2;rw [hl2] at h2;exact ⟨rfl,(f3.to h2).o⟩)
 clear h3 f3;go_wp2_with fail;refine HST.out.mono ?_;rintro e w4 ⟨rfl,ho⟩;have HO:=hid (ho.alloc (.cells #[.int .u64 2,.int .i64 0] 38));clear ho;go_wp2_with fail;go_ret;exact ⟨rfl,HO.out⟩
section
attribute [local irreducible] wpQuiet
theorem Mk.go_len (k:Mk) (W:List Int):(k.go W).length=W.length:=by
 unfold Mk.go Mk.go0;split <;> split <;> simp [st_len,zeros_len]
theorem Good.at {n:Nat} {ms:List Mk} {W:List Int} (h:Good n ms W):∃ F:Nat→List Int,F 0=List.replicate (16 * n) 0∧F ms.length=W∧∀ j k,ms[j]?=some k→k.ok n (F j)∧F (j+1)=k.go (F j):=by
 induction h with
 | nil=>exact ⟨fun _=>List.replicate (16 * n) 0,rfl,rfl,fun j k hk=>by simp at hk⟩
 | @snoc ms W k h hk ih=>
  obtain ⟨F,h0,h1,h2⟩:=ih;refine ⟨fun j=>if j≤ms.length then F j else k.go W,by simpa using h0,?_,fun j k' hj=>?_⟩
  ·dsimp only;rw [if_neg (by simp)]
  ·have hl:j < (ms ++ [k]).length:=(List.getElem?_eq_some_iff.1 hj).1;have hl:j < ms.length+1:=by simpa using hl
   by_cases hjm:j < ms.length
   ·rw [List.getElem?_append_left hjm] at hj;obtain ⟨h3,h4⟩:=h2 j k' hj;dsimp only;rw [if_pos (by omega),if_pos (by omega)];exact ⟨h3,h4⟩
   ·have e:j=ms.length:=by omega
    subst e;rw [List.getElem?_append_right (Nat.le_refl _),Nat.sub_self] at hj;have hj:k=k':=by simpa using hj
    subst hj;dsimp only;rw [if_pos (Nat.le_refl _),if_neg (by omega),h1];exact ⟨hk,rfl⟩
theorem F_len {n:Nat} {ms:List Mk} {F:Nat→List Int} (h0:F 0=List.replicate (16 * n) 0) (h2:∀ (j:Nat) k,ms[j]?=some k→k.ok n (F j)∧F (j+1)=k.go (F j)):∀ j,j≤ms.length→(F j).length=16 * n
 | 0,_=>by rw [h0]; simp
 | j+1,hj=>by
  rw [(h2 j (ms[j]'(by omega)) (List.getElem?_eq_getElem _)).2,Mk.go_len];exact F_len h0 h2 j (by omega)
def ReadsO (w:World) (A:Option Addr) (l:List OpV):Prop:=
 l=[]∨∃ g o,g < w.heap.size∧A=some ⟨g,o,none⟩∧∀ i (x:OpV),l[i]?=some x →
  w.cell? ⟨g,o+i * 7,none⟩=some (.int .i64 x.cpu)∧w.cell? ⟨g,o+i * 7+1,none⟩=some (.bool x.ask)∧w.cell? ⟨g,o+i * 7+2,none⟩=some (.int .i64 x.vm)∧w.cell? ⟨g,o+i * 7+3,none⟩=some (.int .i64 x.c.k) ∧
  w.cell? ⟨g,o+i * 7+4,none⟩=some (.int .u64 x.c.a)∧w.cell? ⟨g,o+i * 7+5,none⟩=some (.int .u64 x.c.b)∧w.cell? ⟨g,o+i * 7+6,none⟩=some (.int .u64 x.c.c)
theorem ReadsO.only {w w':World} {A:Option Addr} {l:List OpV} (h:ReadsO w A l) (o:Only [] w w'):ReadsO w' A l:=by
 rcases h with h | ⟨g,q,hg,hA,h⟩
 ·exact .inl h
 ·refine .inr ⟨g,q,Nat.lt_of_lt_of_le hg o.size,hA,fun i x hx=>?_⟩;obtain ⟨h0,h1,h2,h3,h4,h5,h6⟩:=h i x hx;have e:∀ k,w'.cell? ⟨g,k,none⟩=w.cell? ⟨g,k,none⟩:=fun k=>o.cell (p:=⟨g,k,none⟩) hg (by simp);exact ⟨(e _).trans h0,(e _).trans h1,(e _).trans h2,(e _).trans h3,(e _).trans h4,(e _).trans h5,(e _).trans h6⟩
theorem word_at {w:World} {g:Nat} {L:List Int} (h:Blk w g 28 (cellsOf L)) {i:Nat} (hi:i < L.length):w.cell? ⟨g,i,none⟩=some (.int .u64 (ld L i)):=by
 refine h.at i ?_;unfold cellsOf ld;have:hasN L (i:Int)=true:=by
  unfold hasN;exact decide_eq_true ⟨by omega,by omega⟩
 rw [this,if_pos rfl,Int.toNat_natCast];simp [nth,hi]
theorem word_set {w:World} {g:Nat} {L:List Int} (h:Blk w g 28 (cellsOf L)) {i:Nat} (hi:i < L.length) (v:Int):Blk (w.setCell ⟨g,i,none⟩ (.int .u64 v)) g 28 (cellsOf (st L i v)):=by
 have h1:=h.set i (.int .u64 v);have:hasN L (i:Int)=true:=by
  unfold hasN;exact decide_eq_true ⟨by omega,by omega⟩
 have e:cellsOf (st L i v)=(cellsOf L).setIfInBounds i (.int .u64 v):=by
  unfold st cellsOf;rw [this,if_pos rfl,Int.toNat_natCast];simp [List.map_set]
 rw [e];exact h1
theorem flat_get {α:Type} {enc:α→List Value} {k:Nat} (hk:∀ x,(enc x).length=k):∀ (l:List α) (j:Nat) (x:α) (i:Nat),l[j]?=some x→i < k→(l.flatMap enc)[j * k+i]?=(enc x)[i]?
 | [],j,x,i,h,_=>by simp at h
 | y :: l,0,x,i,h,hi=>by
  have h:y=x:=by simpa using h
  subst h;rw [List.flatMap_cons,Nat.zero_mul,Nat.zero_add,List.getElem?_append_left (by rw [hk]; exact hi)]
 | y :: l,j+1,x,i,h,hi=>by
  rw [List.flatMap_cons,List.getElem?_append_right (by rw [hk,Nat.add_mul]; omega),hk];have e:(j+1) * k+i - k=j * k+i:=by rw [Nat.add_mul]; omega
  rw [e];exact flat_get hk l j x i (by simpa using h) hi
structure TpB (w0:World) (gw gl capl:Nat) (ms:List Mk) (L:List Int) (w:World):Prop where
 o:Only [] w0 w
 b:Blk w gw 28 (cellsOf L)
 r:RowR w 40 9 (.slice (some ⟨gl,0,none⟩) ms.length capl) ms.length (ms.flatMap encMk)
 l:w0.heap.size≤gw
theorem TpB.quiet {w0 w w':World} {gw gl capl:Nat} {ms:List Mk} {L:List Int} (h:TpB w0 gw gl capl ms L w) (o:Only [] w w'):TpB w0 gw gl capl ms L w':=⟨h.o.trans o,h.b.only o (by simp),h.r.quiet o,h.l⟩
theorem TpB.set {w0 w:World} {gw gl capl:Nat} {ms:List Mk} {L:List Int} (h:TpB w0 gw gl capl ms L w) {i:Nat} (hi:i < L.length) (v:Int):TpB w0 gw gl capl ms (st L i v) (w.setCell ⟨gw,i,none⟩ (.int .u64 v)):=by
 have o:Only [gw] w (w.setCell ⟨gw,i,none⟩ (.int .u64 v)):=(Only.refl [gw] w).setCell (p:=⟨gw,i,none⟩) (.inl (.head _)) _;refine ⟨h.o.then o fun y hy=>.inr (by rw [List.mem_singleton.1 hy]; exact h.l),word_set h.b hi v,h.r.only o fun y hy e=>?_,h.l⟩;rw [List.mem_singleton.1 hy] at e;exact h.r.ne h.b (by decide) e
theorem TpB.mark {w0 w:World} {gw gl capl:Nat} {ms:List Mk} {L:List Int} (h:TpB w0 gw gl capl ms L w) {j:Nat} {k:Mk} (hk:ms[j]?=some k):ms.length≤capl∧∀ q v,(encMk k)[q]?=some v→w.cell? ⟨gl,j * 9+q,none⟩=some v:=by
 have hj:=(List.getElem?_eq_some_iff.1 hk).1;obtain ⟨g',cap',cur,e,hb,h1,_,_,hc⟩:=h.r.has (by omega);injection e with e1 _ e2;injection e1 with e1;injection e1 with e1;subst e1 e2;refine ⟨h1,fun q v hv=>hb.at _ (hc _ _ ?_)⟩;have hq:q < 9:=by
  have:=(List.getElem?_eq_some_iff.1 hv).1;rw [encMk_len] at this;exact this
 rw [flat_get encMk_len ms j k q hk hq];exact hv
theorem toploads_walk (w:World) (A:Option Addr) (cap:Nat) (l:List OpV) (a b c:Int) (ha:0≤a∧a≤255) (hb:0≤b∧b≤255) (hr:ReadsO w A l) (hl:l.length≤9223372036854775807) (hlc:l.length≤cap) (hfit:∀ o ∈ l,o.fits) :
 Calls Tryz.prog 3 #[.agg #[.int .u8 a,.int .u8 b,.int .u8 c],.slice A l.length cap] w fun e w'=>e=.returned (.bool true)∧Only [] w w':=by
 obtain ⟨N,hN,hN1,hN8⟩:∃ N:Nat,1+b % 8=N∧1≤N∧N≤8:=⟨(1+b % 8).toNat,by omega,by omega,by omega⟩;obtain ⟨m,hm,hm1,hm2⟩:∃ m:Nat,20+a % 60=(m+3:Nat)∧17≤m∧m≤76:=⟨(17+a % 60).toNat,by omega,by omega,by omega⟩;obtain ⟨n,hn⟩:∃ n,m+3=n:=⟨_,rfl⟩;rw [hn] at hm;have e1:IntKind.i64.wrap b=b:=by rw [IntKind.wrap_i64]; omega
 have e2:IntKind.i64.wrap a=a:=by rw [IntKind.wrap_i64]; omega
 have t1:b.tmod 8=b % 8:=Int.tmod_eq_emod_of_nonneg hb.1;have t2:a.tmod 60=a % 60:=Int.tmod_eq_emod_of_nonneg ha.1;have e3:IntKind.i64.wrap (b % 8)=b % 8:=by rw [IntKind.wrap_i64]; omega
 have e4:IntKind.i64.wrap (a % 60)=a % 60:=by rw [IntKind.wrap_i64]; omega
 have e5:IntKind.i64.wrap (1+b % 8)=N:=by rw [IntKind.wrap_i64]; omega
 have e6:IntKind.i64.wrap (20+a % 60)=n:=by rw [IntKind.wrap_i64]; omega
 have e7:IntKind.i64.wrap (16 * (n:Int))=16 * (n:Int):=by rw [IntKind.wrap_i64]; omega
 have HN:=hid (And.intro hN1 (And.intro hN8 (And.intro hm1 (And.intro hm2 (And.intro hn (And.intro hl hlc))))));obtain ⟨W0,hW0⟩:∃ W0,w.alloc (.cells #[.int .u8 a,.int .u8 b,.int .u8 c] 22)=W0:=⟨_,rfl⟩;have q0:Only [] w W0:=by rw [← hW0]; exact (Only.refl [] w).alloc _
 have hb0:Blk W0 w.heap.size 22 #[.int .u8 a,.int .u8 b,.int .u8 c]:=by rw [← hW0]; exact Blk.new _ _ _
 have y0:=hb0.at 0 (v:=.int .u8 a) rfl;have y1:=hb0.at 1 (v:=.int .u8 b) rfl;have y2:=hb0.at 2 (v:=.int .u8 c) rfl;have HRO:=hid (hr.only q0);have HFIT:=hid hfit;have HQ0:=hid q0;have HW0:=hid hW0;have HBG:=hid (lbegin_any W0 m n N 4 hn.symm (by omega) (by omega) hN1 hN8 (by decide) (by decide));have hn80:n≤79:=by omega
 have hl1:=hl;clear hr hfit hb0 q0 hW0 hN hm hn hm1 hm2;go_enter Tryz.func3,Tryz.ntmps3;go_upto_region 1 with fail;rw [HW0.out];go_wp2_with fail;refine HBG.out.mono ?_;rintro e w1 ⟨p,x,rfl,hbg⟩;obtain ⟨pb,hpb⟩:∃ pb,p.b=pb:=⟨_,rfl⟩;rw [hpb] at hbg ⊢;have HST:=hid (show Run w1 p 4 n N 2 x∧Fr W0 w1 p N∧p.b=pb from ⟨⟨hbg.m,hbg.g.ex,hbg.len,by have:=hbg.g.mn; omega,by have:=hbg.g.mn; omega⟩,hbg.f,hpb⟩);clear hbg hpb HBG y0 y1 y2;obtain ⟨M,hM⟩:∃ M,min l.length 300=M:=⟨_,rfl⟩;have hM1:M≤300:=by omega
 have hM2:M≤l.length:=by omega
 have HM:=hid hM;clear hM;go_wp2_with fail;go_loopg [9] M (fun q i wr=>q≤M∧i=.int .i64 ((M:Int) - q)∧∃ p x t,Run wr p 4 n N t x∧Fr W0 wr p N∧p.b=pb∧t≤2+(M - q))
 case atStart=>exact ⟨Nat.le_refl _,by simp,p,x,2,HST.out.1,HST.out.2.1,HST.out.2.2,by omega⟩
 case round=>
  obtain ⟨hq,rfl,p2,x2,t,hrun,hfr,hpb,ht⟩:=hrel;cases gk with
  | succ q=>
   obtain ⟨j,hj⟩:∃ j,M - (q+1)=j:=⟨_,rfl⟩;have ej:(M:Int) - ((q+1:Nat):Int)=(j:Int):=by omega
   have hjn:j < M:=by omega
   rw [ej];have hlt1:decide ((j:Int) < (l.length:Int))=true:=decide_eq_true (by omega);have hlt2:decide ((j:Int) < 300)=true:=decide_eq_true (by omega);have hj0:(0:Int)≤j:=by omega
   have hjl:(j:Int) < (l.length:Int):=by omega
   have ew2:IntKind.i64.wrap ((j:Int)+1)=(j:Int)+1:=by rw [IntKind.wrap_i64]; omega
   obtain ⟨⟨ocpu,oask,ovm,⟨ok,oa,ob,oc⟩⟩,ho⟩:∃ o,l[j]?=some o:=⟨l[j]'(by omega),List.getElem?_eq_getElem _⟩;rcases HRO.out.only hfr.o with h | ⟨g,o,hg,hA,hcc⟩
   ·rw [h] at ho;simp at ho
   ·obtain ⟨c0,c1,c2,c3,c4,c5,c6⟩:=hcc j _ ho;dsimp only at c0 c1 c2 c3 c4 c5 c6;subst hA;have HDO:=hid (ldo_any hrun (by omega) ⟨ocpu,oask,ovm,⟨ok,oa,ob,oc⟩⟩ (HFIT.out _ (List.mem_of_getElem? ho)));rw [op_out,hpb] at HDO;have HFR:=hid hfr;have HPB:=hid hpb;have HCC:=hid hlc;clear ho hcc hrun hfr hpb ej;go_wp2_with fail;refine HDO.out.mono ?_;rintro e w3 ⟨rfl,p3,x3,hr3,k3⟩;have HS3:=hid (show Run w3 p3 4 n N (t+1) x3∧Fr W0 w3 p3 N∧p3.b=pb from ⟨hr3,HFR.out.to k3,k3.b.trans HPB.out⟩);clear hr3 k3 c0 c1 c2 c3 c4 c5 c6;go_wp2_with fail;go_roundg q
    case measure=>omega
    case rel=>exact ⟨by omega,by congr 1; omega,p3,x3,t+1,HS3.out.1,HS3.out.2.1,HS3.out.2.2,by omega⟩
  | zero=>
   have e0:(M:Int) - ((0:Nat):Int)=(M:Int):=by omega
   rw [e0];have ht2:t≤302:=by omega
   have HRUN:=hid hrun;have HFR:=hid hfr;have HPB:=hid hpb;clear hrun hfr hpb e0 ht HST HRO HFIT;go_upto_region 7 with fail;go_cut [40] (fun v wc=>v=.bool false∧wr=wc)
   case first=>
    by_cases h3:(M:Int) < 300
    ·have hlm:l.length=M:=by have:=HM.out; omega
     have d1:decide ((M:Int) < (l.length:Int))=false:=decide_eq_false (by omega);have hn1:¬ (M:Int) < (l.length:Int):=by omega
     clear hlm;go_wp2_with fail;go_meet;exact ⟨rfl,rfl⟩
    ·have d2:decide ((M:Int) < 300)=false:=decide_eq_false h3;by_cases h4:(M:Int) < (l.length:Int)
     ·have d1:decide ((M:Int) < (l.length:Int))=true:=decide_eq_true h4;go_wp2_with fail;go_meet;exact ⟨rfl,rfl⟩
     ·have d1:decide ((M:Int) < (l.length:Int))=false:=decide_eq_false h4;go_wp2_with fail;go_meet;exact ⟨rfl,rfl⟩
   case rest=>
    obtain ⟨rfl,rfl⟩:=hcut;have hmk:=mk40 (16 * (n:Int)) (by omega) (by omega);go_upto_region 11 with fail;obtain ⟨gw,hgw⟩:∃ gw,wr.heap.size=gw:=⟨_,rfl⟩;obtain ⟨WA,hWA⟩:∃ WA,wr.alloc (.cells (cellsOf (List.replicate (16 * n) 0)) 28)=WA:=⟨_,rfl⟩;have qA:Only [] wr WA:=by rw [← hWA]; exact (Only.refl [] wr).alloc _
    have hbA:Blk WA gw 28 (cellsOf (List.replicate (16 * n) 0)):=by rw [← hWA,← hgw]; exact Blk.new _ _ _
    try rw [hWA]
    try rw [hgw]
    have hoA:Only [] w WA:=HQ0.out.trans (HFR.out.o.trans qA);have hlw:w.heap.size≤gw:=by
     rw [← hgw];exact (HQ0.out.trans HFR.out.o).size
    have hk1:=HRUN.out.k1;have HMA:=hid (mmarks_any (HRUN.out.quiet qA).m HRUN.out.k0 (by omega));rw [HPB.out] at HMA;have HA:=hid (And.intro hoA (And.intro hbA hlw));clear hgw hWA qA hbA hoA hlw hk1 hmk;go_wp2_with fail;refine HMA.out.mono ?_;rintro e wb ⟨v,rfl,ho,hrow,hown⟩;obtain ⟨gl,capl,_,rfl,_⟩:=hrow.has HRUN.out.k0;obtain ⟨V,W,hx⟩:=HRUN.out.i;obtain ⟨F,hF0,hF1,hF2⟩:=hx.gd.at;have hFL:=F_len hF0 hF2;obtain ⟨ms,hms⟩:∃ ms,x2.mks=ms:=⟨_,rfl⟩;rw [hms] at hrow hF2 hFL ⊢;have HB:=hid (show TpB w gw gl capl ms (F 0) wb from by
     rw [hF0];exact (⟨HA.out.1.trans ho,HA.out.2.1.only ho (by simp),hrow,HA.out.2.2⟩:TpB _ _ _ _ _ _ _))
    have HF:=hid (And.intro hF2 hFL);obtain ⟨K,hK⟩:∃ K,ms.length=K:=⟨_,rfl⟩;have hK4:K < 100000000:=by
     have h1:=HRUN.out.k1;rw [hms] at h1;omega
    have HK:=hid hK;rw [hK];clear ho hrow hown hx hF0 hF1 hF2 hFL hms hK HMA HA HRUN HFR HPB;go_wp2_with fail;go_loopg [12] K (fun q i wz=>q≤K∧i=.int .i64 ((K:Int) - q)∧TpB w gw gl capl ms (F (K - q)) wz)
    case atStart=>
     refine ⟨Nat.le_refl _,by simp,?_⟩;rw [Nat.sub_self];exact HB.out
    case round=>
     obtain ⟨hq2,rfl,htp⟩:=hrel;have HT:=hid htp;clear htp;cases gk with
     | zero=>
      have hlt1:¬ ((K:Int) - ((0:Nat):Int) < K):=by omega
      go_wp2_with fail;refine (alive_any _).mono ?_;rintro e wc ⟨rfl,ho⟩;have HO:=hid (HT.out.o.trans ho);clear ho;go_wp2_with fail;go_ret;exact ⟨rfl,HO.out⟩
     | succ q=>
      obtain ⟨j,hj⟩:∃ j,K - (q+1)=j:=⟨_,rfl⟩;have ej:(K:Int) - ((q+1:Nat):Int)=(j:Int):=by omega
      have hjn:j < K:=by omega
      rw [ej];rw [hj] at HT;have hlt1:(j:Int) < (K:Int):=by omega
      have hj0:(0:Int)≤j:=by omega
      have ew2:IntKind.i64.wrap ((j:Int)+1)=(j:Int)+1:=by rw [IntKind.wrap_i64]; omega
      obtain ⟨⟨kk,kvm,kat,⟨ck,ca,cb,cc⟩,kv,ke⟩,hk⟩:∃ k,ms[j]?=some k:=⟨ms[j]'(by rw [HK.out]; exact hjn),List.getElem?_eq_getElem _⟩;obtain ⟨hcap,hcell⟩:=HT.out.mark hk;obtain ⟨⟨hat0,hat1,hdon,hld⟩,hgo⟩:=HF.out.1 j _ hk;have hfl:=HF.out.2 j (by rw [HK.out]; omega);obtain ⟨at',rfl⟩:=Int.eq_ofNat_of_zero_le (show 0≤kat from hat0);have hat:at' < 16 * n:=by
       have h:((at':Nat):Int) < 16 * n:=hat1;omega
      have z0:wr.cell? ⟨gl,j * 9,none⟩=some (.int .i64 kk):=hcell 0 (.int .i64 kk) rfl;have z1:=hcell 1 (.int .i64 kvm) rfl;have z2:=hcell 2 (.int .i64 at') rfl;have z3:=hcell 3 (.int .i64 ck) rfl;have z4:=hcell 4 (.int .u64 ca) rfl;have z5:=hcell 5 (.int .u64 cb) rfl;have z6:=hcell 6 (.int .u64 cc) rfl;have z7:=hcell 7 (.int .u64 kv) rfl;have z8:=hcell 8 (.int .i64 ke) rfl;have HMK:=hid (And.intro hdon (And.intro hld (And.intro hgo hfl)));rw [HK.out] at hcap;clear hk hcell hat0 hat1 hdon hld hgo hfl ej;go_upto_region 16 with fail;obtain ⟨kb,hkb⟩:∃ kb,wr.heap.size=kb:=⟨_,rfl⟩;obtain ⟨WB,hWB⟩:∃ WB,wr.alloc (.cells #[.int .i64 kk,.int .i64 kvm,.int .i64 at',.int .i64 ck,.int .u64 ca,.int .u64 cb,.int .u64 cc,.int .u64 kv,.int .i64 ke] 40)=WB:=⟨_,rfl⟩;have qB:Only [] wr WB:=by rw [← hWB]; exact (Only.refl [] wr).alloc _
      have hbB:Blk WB kb 40 #[.int .i64 kk,.int .i64 kvm,.int .i64 at',.int .i64 ck,.int .u64 ca,.int .u64 cb,.int .u64 cc,.int .u64 kv,.int .i64 ke]:=by rw [← hWB,← hkb]; exact Blk.new _ _ _
      have hgk:gw < kb:=by rw [← hkb]; exact HT.out.b.lt
      try rw [hWB]
      try rw [hkb]
      have HT2:=hid (HT.out.quiet qB);have HKB:=hid hbB;have y0:=hbB.at 0 (v:=.int .i64 kk) rfl;have y2:=hbB.at 2 (v:=.int .i64 at') rfl;have y3:=hbB.at 3 (v:=.int .i64 ck) rfl;have y7:=hbB.at 7 (v:=.int .u64 kv) rfl;have y8:=hbB.at 8 (v:=.int .i64 ke) rfl;obtain ⟨b1,f1⟩:∃ b,(kk == 1)=b:=⟨_,rfl⟩;obtain ⟨b2,f2⟩:∃ b,(ck == 3)=b:=⟨_,rfl⟩;obtain ⟨b3,f3⟩:∃ b,(ke == 0)=b:=⟨_,rfl⟩;obtain ⟨don,hdon⟩:∃ don,(b1 && b2 && b3)=don:=⟨_,rfl⟩;have HDON:=hid (show (⟨kk,kvm,at',⟨ck,ca,cb,cc⟩,kv,ke⟩:Mk).don=don by
       unfold Mk.don;show (kk == 1 && ck == 3 && ke == 0)=don;rw [f1,f2,f3,hdon])
      have hge:¬ 16 * (n:Int)≤(at':Int):=by omega
      have hlt0:¬ (at':Int) < 0:=by omega
      have HDN:=hid hdon;clear z0 z1 z2 z3 z4 z5 z6 z7 z8 qB hbB hkb hWB hdon;go_upto_region 18 with fail;go_cut [88] (fun v wc=>v=.bool don∧WB=wc)
      case first=>
       cases b1
       ·go_wp2_with fail;go_meet;exact ⟨by rw [← HDN.out]; rfl,rfl⟩
       cases b2
       ·go_wp2_with fail;go_meet;exact ⟨by rw [← HDN.out]; rfl,rfl⟩
       cases b3
       ·go_wp2_with fail;go_meet;exact ⟨by rw [← HDN.out]; rfl,rfl⟩
       ·go_wp2_with fail;go_meet;exact ⟨by rw [← HDN.out]; rfl,rfl⟩
      case rest=>
       obtain ⟨rfl,rfl⟩:=hcut;clear f1 f2 f3
       go_upto_if 88 with fail
       go_cut [14] (fun _ wc=>TpB w gw gl capl ms ((⟨kk,kvm,at',⟨ck,ca,cb,cc⟩,kv,ke⟩:Mk).go0 (F j)) wc∧Blk wc kb 40 #[.int .i64 kk,.int .i64 kvm,.int .i64 at',.int .i64 ck,.int .u64 ca,.int .u64 cb,.int .u64 cc,.int .u64 kv,.int .i64 ke])
       case first=>
        cases don with
        | false=>
         go_wp2_with fail;go_meet;unfold Mk.go0;rw [HDON.out,if_neg (by decide)];exact ⟨HT2.out,HKB.out⟩
        | true=>
         obtain ⟨hv0,hv1⟩:=HMK.out.1 HDON.out;have hv0:0≤kv:=hv0;have hv1:kv < n:=hv1;have eu:IntKind.u64.wrap (n:Int)=(n:Int):=by rw [IntKind.wrap_u64]; omega
         have hnv:¬ (n:Int)≤kv:=by omega
         have ei:IntKind.i64.wrap kv=kv:=by rw [IntKind.wrap_i64]; omega
         have ei2:IntKind.i64.wrap (16 * kv)=16 * kv:=by rw [IntKind.wrap_i64]; omega
         go_wp2_with fail;go_loopg [14] 16 (fun q i wy=>∃ jj:Nat,jj+q=16∧i=.int .i64 jj∧TpB w gw gl capl ms (zeros (F j) kv jj) wy∧Blk wy kb 40 #[.int .i64 kk,.int .i64 kvm,.int .i64 at',.int .i64 ck,.int .u64 ca,.int .u64 cb,.int .u64 cc,.int .u64 kv,.int .i64 ke])
         case atStart=>exact ⟨0,rfl,rfl,HT2.out,HKB.out⟩
         case round=>
          obtain ⟨jj,hjj,rfl,ht3,hk3⟩:=hrel;have HT3:=hid ht3;have HK3:=hid hk3;cases gk with
          | zero=>
           obtain rfl:jj=16:=by omega
           clear ht3 hk3;go_wp2_with fail;go_meet;unfold Mk.go0;rw [HDON.out,if_pos rfl];exact ⟨HT3.out,HK3.out⟩
          | succ q3=>
           have hj16:(jj:Int) < 16:=by omega
           have hjj0:(0:Int)≤jj:=by omega
           have ew4:IntKind.i64.wrap ((jj:Int)+1)=(jj:Int)+1:=by rw [IntKind.wrap_i64]; omega
           obtain ⟨ix,hix⟩:∃ ix:Nat,16 * kv+(jj:Int)=ix:=⟨(16 * kv+jj).toNat,by omega⟩;have ei3:IntKind.i64.wrap (16 * kv+(jj:Int))=ix:=by rw [IntKind.wrap_i64]; omega
           have hixn:(ix:Int) < ((16 * n:Nat):Int):=by omega
           have hix0:(0:Int)≤ix:=by omega
           have hixl:ix < (zeros (F j) kv jj).length:=by
            rw [zeros_len,HMK.out.2.2.2];omega
           have v7:=hk3.at 7 (v:=.int .u64 kv) rfl;have cw:=word_at ht3.b hixl;have fw:=ht3.b.frozen ix;have HIX:=hid (And.intro hix hixl);have hst:=HT3.out.set hixl 0;have e16:st (zeros (F j) kv jj) ix 0=zeros (F j) kv (jj+1):=by
            show _=st (zeros (F j) kv jj) (16 * kv+jj) 0;rw [hix]
           rw [e16] at hst;have HST3:=hid (show TpB w gw gl capl ms (zeros (F j) kv (jj+1)) (wr.setCell ⟨gw,ix,none⟩ (.int .u64 0))∧Blk (wr.setCell ⟨gw,ix,none⟩ (.int .u64 0)) kb 40 #[.int .i64 kk,.int .i64 kvm,.int .i64 at',.int .i64 ck,.int .u64 ca,.int .u64 cb,.int .u64 cc,.int .u64 kv,.int .i64 ke] from ⟨hst,hk3.only ((Only.refl [gw] wr).setCell (p:=⟨gw,ix,none⟩) (.inl (.head _)) _) (by simp; omega)⟩);clear ht3 hk3 hst e16 hix hixl;go_wp2_with fail;go_roundg q3
           case measure=>omega
           case rel=>exact ⟨jj+1,by omega,by first | rfl | (congr 1; omega),HST3.out⟩
       case rest=>
        obtain ⟨ht4,hk4⟩:=hcut;have HT4:=hid ht4;have HK4:=hid hk4;clear ht4 hk4 y0 y2 y3 y7 y8;have v0:=HK4.out.at 0 (v:=.int .i64 kk) rfl;have v2:=HK4.out.at 2 (v:=.int .i64 at') rfl;have v7:=HK4.out.at 7 (v:=.int .u64 kv) rfl;have hl4:((⟨kk,kvm,at',⟨ck,ca,cb,cc⟩,kv,ke⟩:Mk).go0 (F j)).length=16 * n:=by
         unfold Mk.go0;split
         ·rw [zeros_len,HMK.out.2.2.2]
         ·exact HMK.out.2.2.2
        have hatl:at' < ((⟨kk,kvm,at',⟨ck,ca,cb,cc⟩,kv,ke⟩:Mk).go0 (F j)).length:=by rw [hl4]; exact hat
        have cw:=word_at HT4.out.b hatl;have fw:=HT4.out.b.frozen at';have hatn:(at':Int) < ((16 * n:Nat):Int):=by omega
        have hat0:(0:Int)≤at':=by omega
        have hatn2:(at':Int) < 16 * (n:Int):=by omega
        have hatd:decide ((at':Int) < 16 * (n:Int))=true:=decide_eq_true hatn2;have hatd0:decide ((0:Int)≤at')=true:=decide_eq_true hat0;have HSE:=hid (HT4.out.set hatl kv);have HGO:=hid (show ∀ b,(kk == 4)=b→F (j+1)=if b=true then st ((⟨kk,kvm,at',⟨ck,ca,cb,cc⟩,kv,ke⟩:Mk).go0 (F j)) at' kv else (⟨kk,kvm,at',⟨ck,ca,cb,cc⟩,kv,ke⟩:Mk).go0 (F j) from fun b hb=>by
         rw [HMK.out.2.2.1];unfold Mk.go;show (if (kk == 4)=true then _ else _)=_;rw [hb])
        clear hl4 hatl;obtain ⟨b4,f4⟩:∃ b,(kk == 4)=b:=⟨_,rfl⟩;have HB4:=hid f4
        go_upto_if 110 with fail
        go_cut [] (fun wc=>TpB w gw gl capl ms (F (j+1)) wc∧Blk wc kb 40 #[.int .i64 kk,.int .i64 kvm,.int .i64 at',.int .i64 ck,.int .u64 ca,.int .u64 cb,.int .u64 cc,.int .u64 kv,.int .i64 ke])
        case first=>
         cases b4 with
         | false=>
          go_wp2_with fail;go_meet;rw [HGO.out false HB4.out,if_neg (by decide)];exact ⟨HT4.out,HK4.out⟩
         | true=>
          go_wp2_with fail;go_meet;rw [HGO.out true HB4.out,if_pos rfl];exact ⟨HSE.out,HK4.out.only ((Only.refl [gw] _).setCell (p:=⟨gw,at',none⟩) (.inl (.head _)) _) (by simp; omega)⟩
        case rest=>
         obtain ⟨ht5,hk5⟩:=hcut;have HT5:=hid ht5;have HK5:=hid hk5;have hl5:at' < (F (j+1)).length:=by
          rw [HMK.out.2.2.1,Mk.go_len,HMK.out.2.2.2];exact hat
         clear ht5 hk5 v0 v2 v7 cw fw f4;obtain ⟨vw,hvw⟩:∃ vw,ld (F (j+1)) at'=vw:=⟨_,rfl⟩;have HFX:=hid (show ∀ wx,Only [] wc wx→wx.cell? ⟨kb,0,none⟩=some (.int .i64 kk)∧wx.cell? ⟨kb,2,none⟩=some (.int .i64 at')∧wx.cell? ⟨kb,7,none⟩=some (.int .u64 kv)∧wx.cell? ⟨gw,at',none⟩=some (.int .u64 vw) from fun wx hx=>by
          have h1:=HK5.out.only hx (by simp);have h2:=word_at (HT5.out.quiet hx).b hl5;rw [hvw] at h2;exact ⟨h1.at 0 rfl,h1.at 2 rfl,h1.at 7 rfl,h2⟩)
         have HEQ:=hid (show (kk == 3)=true→(vw != kv)=false from fun h=>by
          have h3:kk=3:=by simpa using h
          have h4:ld (F j) at'=kv:=HMK.out.2.1 h3;have h5:F (j+1)=F j:=by
           rw [HMK.out.2.2.1];unfold Mk.go Mk.go0 Mk.don;subst h3;rfl
          rw [← hvw,h5,h4];simp)
         clear hl5 hvw;obtain ⟨b5,f5⟩:∃ b,(kk == 3)=b:=⟨_,rfl⟩;have HB5:=hid f5;go_upto_region 27 with fail;go_cut [131] (fun v wd=>v=.bool false∧Only [] wc wd)
         case first=>
          cases b5 with
          | false=>
           refine wp_region_quiet_tailG 13 (by kernel_rfl) (by kernel_rfl) (fun w'=>Only [] wc w') ((Only.refl _ _).drew) ?_;simp only [List.take_succ_cons,List.take_zero,List.drop_succ_cons,List.drop_zero]
           repeat
            (first
             | (refine qskip (by rfl) ?_
                go_simp)
             | (refine qstepG (by rfl) ?_
                apply Exists.intro;refine ⟨fun w' hw'=>?_,?_⟩
                ·obtain ⟨p0,p1,p2,p3⟩:=HFX.out w' hw';go_simp
                 first
                  | with_reducible rfl
                  | exact quiet_val
                go_simp))
           refine wpQuiet_nil ?_;intro wf hwf;have HQ:=hid hwf;clear hwf;go_wp2_with fail;go_meet;exact ⟨rfl,HQ.out⟩
          | true=>
           have hne:=HEQ.out HB5.out;refine wp_region_quiet_tailG 13 (by kernel_rfl) (by kernel_rfl) (fun w'=>Only [] wc w') ((Only.refl _ _).drew) ?_;simp only [List.take_succ_cons,List.take_zero,List.drop_succ_cons,List.drop_zero]
           repeat
            (first
             | (refine qskip (by rfl) ?_
                go_simp)
             | (refine qstepG (by rfl) ?_
                apply Exists.intro;refine ⟨fun w' hw'=>?_,?_⟩
                ·obtain ⟨p0,p1,p2,p3⟩:=HFX.out w' hw';go_simp
                 first
                  | with_reducible rfl
                  | exact quiet_val
                go_simp))
           refine wpQuiet_nil ?_;intro wf hwf;have HQ:=hid hwf;clear hwf;go_wp2_with fail;go_meet;exact ⟨rfl,HQ.out⟩
         case rest=>
          obtain ⟨rfl,ho⟩:=hcut;have HT6:=hid (HT5.out.quiet ho);clear ho f5;go_wp2_with fail;go_roundg q
          case measure=>omega
          case rel=>
           refine ⟨by omega,by congr 1; omega,?_⟩;rw [show K - q=j+1 by omega];exact HT6.out
end
end Go.Proofs.YtadgpnoealegiaaGreat
