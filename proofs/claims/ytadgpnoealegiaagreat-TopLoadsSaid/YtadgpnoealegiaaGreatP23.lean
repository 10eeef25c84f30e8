import Derived.Test.YtadgpnoealegiaaGreatP22
namespace Go.Proofs.YtadgpnoealegiaaGreat
open Go.RowKit
open Go.Lib (hid)
set_option maxRecDepth 100000
set_option maxHeartbeats 20000000
section
variable {x:X} {n t:Nat} {V:Int→Prop} {W:List Int}
theorem page_of {u:Cpu} (h0:0≤u.c.a) (h1:u.c.a < 1048576):0≤u.page∧u.page < 65536:=by
 unfold Cpu.page;omega
theorem accN_spec {S:HS} {u:Cpu} (h:accN S u=true):(u.c.k=6∨u.c.k=7)∧1≤u.vm∧u.vm≤16∧(∃ G,S.g u.vm.toNat=some G)∧u.c.a < 1048576:=by
 unfold accN liveN at h;simp only [Bool.and_eq_true,decide_eq_true_eq] at h;obtain ⟨⟨⟨h1,⟨h2,h3⟩,h4⟩,_⟩,h5⟩:=h;refine ⟨?_,h2,h3,Option.isSome_iff_exists.1 h4,h5⟩;unfold Cpu.want at h1;split at h1
 ·exact .inl (by assumption)
 ·split at h1
  ·exact .inr (by assumption)
  ·omega
theorem XInv.pinned (h:XInv x n t V W) {i:Nat} {u u':Cpu} (hu:x.cp[i]?=some u) (hp:u.ph=1∨u.ph=2) (hp':u'.ph=2∨u'.ph=3) (hc:u'.c=u.c)
 (hls:∀ q,x.bx.bs[i]?=some q→∀ y ∈ u'.ls,LineOk x.S V q y) (hnl:∀ f e,x.ep.wt f=some e→∀ y ∈ u'.ls,y.f≠f)
 (hsub:∀ y ∈ u'.ls,y ∈ u.ls∨kd x.S.ps y.f=4)
 (h3:u'.ph=3→V u'.fr∧∀ e,x.ep.wt u'.fr≠some e) (h2:u'.ph=2→WalkOk x.S V u'∧(HeldBy x.ep i u'.wk.f∧u.ph=2∨∀ e,x.ep.wt u'.wk.f≠some e)) :
 XInv { x with ep:=if u.ph=1 then x.ep.set i x.ep.now else x.ep,cp:=x.cp.set i u' } n t V W:=by
 have hil:i < x.ep.pins.length:=by rw [h.el]; exact (List.getElem?_eq_some_iff.1 hu).1
 obtain ⟨ep',hep⟩:∃ ep',ep'=if u.ph=1 then x.ep.set i x.ep.now else x.ep:=⟨_,rfl⟩;rw [← hep];have hnn:=h.ti.2.2;have facts:ep'.wt=x.ep.wt∧ep'.now=x.ep.now∧ep'.pins.length=x.ep.pins.length∧(∀ c,c≠i→ep'.pins[c]?=x.ep.pins[c]?)∧(∃ p,ep'.pins[i]?=some p∧p≠-1∧((u.ph=1∧p=x.ep.now)∨x.ep.pins[i]?=some p)):=by
  rw [hep];by_cases e:u.ph=1
  ·rw [if_pos e];have hpin:x.ep.pins[i]?=some (-1):=(h.pn i u hu).2 (by omega);have e2:(x.ep.now == -1)=false:=beq_eq_false_iff_ne.2 (by omega);have es:x.ep.set i x.ep.now={ x.ep with pins:=x.ep.pins.set i x.ep.now }:=by
    unfold Ep.set;rw [List.getD_eq_getElem?_getD,hpin,Option.getD_some,e2,if_neg (by decide)]
   rw [es];exact ⟨rfl,rfl,by simp,fun c hc=>List.getElem?_set_ne (fun h=>hc h.symm),x.ep.now,List.getElem?_set_self hil,by omega,.inl ⟨e,rfl⟩⟩
  ·rw [if_neg e];obtain ⟨p,hpp⟩:∃ p,x.ep.pins[i]?=some p:=⟨_,List.getElem?_eq_getElem hil⟩;refine ⟨rfl,rfl,rfl,fun _ _=>rfl,p,hpp,fun e0=>?_,.inr hpp⟩;rw [e0] at hpp;exact (h.pn i u hu).1 hpp (by omega)
 obtain ⟨ewt,enow,elen,eoth,p0,ep0,hp0,hp1⟩:=facts;clear hep;have hheld:∀ {c f},c≠i→HeldBy x.ep c f→HeldBy ep' c f:=fun {c f} hc hh e he=>by
  rw [ewt] at he;obtain ⟨p,hp,h1⟩:=hh e he;exact ⟨p,by rw [eoth c hc]; exact hp,h1⟩
 have hno:∀ {f},(∀ e,x.ep.wt f≠some e)→HeldBy ep' i f:=fun {f} hh e he=>by
  rw [ewt] at he;exact absurd he (hh e)
 refine ⟨h.hi,h.pl,h.v1,h.v4,h.me,h.wl,h.gd,h.kn,fun f e hf=>?_,?_,by rw [List.length_set]; exact h.bl,fun c p hpc=>?_,fun c z hz=>?_,fun c z q hz hc y hy=>?_,fun f e hf c z hz y hy=>?_,fun c z hz hph=>?_,fun c z hz hph=>?_,fun c z hz hph=>?_,
  fun c z c' z' hz hz' hph hph' hne=>?_,fun c q hc b hb=>?_,h.so,h.op,?_,fun c z hz=>?_⟩
 ·have hf2:ep'.wt f=some e:=hf;rw [ewt] at hf2;show _∧_∧e≤ep'.now;rw [enow];exact h.wt f e hf2
 ·show ep'.pins.length=_;rw [elen,List.length_set];exact h.el
 ·have hpc2:ep'.pins[c]?=some p:=hpc;show p=-1∨(0≤p∧ep'.now≤p+1∧p≤ep'.now);rw [enow];by_cases e:c=i
  ·rw [e,ep0] at hpc2;cases hpc2;rcases hp1 with ⟨_,rfl⟩ | h1
   ·right; omega
   ·exact h.pr i _ h1
  ·rw [eoth c e] at hpc2;exact h.pr c p hpc2
 ·show ep'.pins[c]?=some (-1)↔_;rcases set_get hz with ⟨rfl,rfl,_⟩ | ⟨h1,h2'⟩
  ·rw [ep0];constructor
   ·intro e;cases e;exact absurd rfl hp0
   ·intro e;exact absurd hp' e
  ·rw [eoth c h1];exact h.pn c z h2'
 ·rcases set_get hz with ⟨rfl,rfl,_⟩ | ⟨h1,h2'⟩
  ·exact hls q hc y hy
  ·exact h.li c z q h2' hc y hy
 ·have hf2:ep'.wt f=some e:=hf;rw [ewt] at hf2;rcases set_get hz with ⟨rfl,rfl,_⟩ | ⟨h1,h2'⟩
  ·exact hnl f e hf2 y hy
  ·exact h.nl f e hf2 c z h2' y hy
 ·rcases set_get hz with ⟨rfl,rfl,_⟩ | ⟨h1,h2'⟩
  ·exact ⟨(h3 hph).1,hno (h3 hph).2⟩
  ·exact ⟨(h.re c z h2' hph).1,hheld h1 (h.re c z h2' hph).2⟩
 ·rcases set_get hz with ⟨rfl,rfl,_⟩ | ⟨h1,h2'⟩
  ·obtain ⟨q1,q2⟩:=h2 hph;refine ⟨q1,?_⟩;rcases q2 with ⟨q2,q3⟩ | q2
   ·intro e he;have he2:ep'.wt z.wk.f=some e:=he;rw [ewt] at he2;obtain ⟨p,hp,hpe⟩:=q2 e he2;rcases hp1 with hp1 | hp1
    ·omega
    ·rw [hp1] at hp;cases hp;exact ⟨p0,ep0,hpe⟩
   ·exact hno q2
  ·exact ⟨(h.wk c z h2' hph).1,hheld h1 (h.wk c z h2' hph).2⟩
 ·rcases set_get hz with ⟨rfl,rfl,_⟩ | ⟨h1,h2'⟩
  ·omega
  ·have hw:=h.wa c z h2' hph;refine ⟨hw.r,fun f hf=>?_,hw.q,fun f hf c' z' q' hz' hc y hy he=>?_⟩
   ·show _∧_∧ep'.wt f=none;rw [ewt];exact hw.f f hf
   ·rcases set_get hz' with ⟨rfl,rfl,_⟩ | ⟨h3',h4'⟩
    ·rcases hsub y hy with hy2 | hy2
     ·exact hw.l f hf c' u q' hu hc y hy2 he
     ·have:=(hw.f f hf).2.1;rw [he] at hy2;omega
    ·exact hw.l f hf c' z' q' h4' hc y hy he
 ·rcases set_get hz with ⟨rfl,rfl,_⟩ | ⟨h1,h2'⟩
  ·omega
  ·rcases set_get hz' with ⟨rfl,rfl,_⟩ | ⟨h3',h4'⟩
   ·omega
   ·exact h.wd c z c' z' h2' h4' hph hph' hne
 ·obtain ⟨c',u2,h1,h2',h3',h4'⟩:=h.id c q hc b hb;refine ⟨c',u2,h1,?_,h3',h4'⟩;rw [List.getElem?_set_ne]
  ·exact h2'
  ·rintro rfl;rw [hu] at h2';cases h2';omega
 ·show x.bx.op.length≤t∧ep'.now≤(t:Int)∧0≤ep'.now;rw [enow];exact h.ti
 ·rcases set_get hz with ⟨rfl,rfl,_⟩ | ⟨h1,h2'⟩
  ·rw [hc];exact h.ca c u hu
  ·exact h.ca c z h2'
theorem wt_no (h:XInv x n t V W) {f:Int} (hk:kd x.S.ps f≠5):∀ e,x.ep.wt f≠some e:=fun e he=>hk (h.wt f e he).2.1
theorem XInv.look (h:XInv x n t V W) {i:Nat} {u:Cpu} {f:Int} {y:Ln} (hu:x.cp[i]?=some u) (hp:u.ph=1) (hq:x.bx.bs[i]?=some []) (hy:y ∈ u.ls) (hf:y.f=f) :
 XInv { x with ep:=x.ep.set i x.ep.now,cp:=x.cp.set i { u with ph:=3,fr:=f } } n t V W:=by
 have:=h.pinned (u':={ u with ph:=3,fr:=f }) hu (.inl hp) (.inr rfl) rfl (fun q hq' y hy=>h.li i u q hu hq' y hy) (fun f e hf y hy=>h.nl f e hf i u hu y hy) (fun y hy=>.inl hy)
  (fun _=>⟨by have:=(h.li i u [] hu hq y hy).v; rw [hf] at this; exact this,fun e he=>h.nl f e he i u hu y hy hf⟩) (fun h2=>absurd h2 (by show ¬ (3:Int)=2; decide))
 rwa [if_pos hp] at this
theorem XInv.open' (h:XInv x n t V W) {i:Nat} {u:Cpu} {G:GS} (hu:x.cp[i]?=some u) (hp:u.ph=1) (ha:accN x.S u=true) (hg:x.S.g u.vm.toNat=some G) :
 XInv { x with ep:=x.ep.set i x.ep.now,cp:=x.cp.set i { u with ph:=2,wk:=Wk.new G.root u.page u.want } } n t V W:=by
 obtain ⟨_,hv1,hv2,_,ha2⟩:=accN_spec ha;have ha0:=(h.ca i u hu).1;obtain ⟨p0,p1⟩:=page_of ha0 ha2;obtain ⟨_,_,tr,_⟩:=h.hi.gs _ G hg;have hn:G.nd 3 (pre u.page.toNat 4)=some G.root:=by
  rw [show pre u.page.toNat 4=0 by unfold pre; simp; omega];exact tr.root
 have hk:=(h.hi.node3 hg hn).2.1;have:=h.pinned (u':={ u with ph:=2,wk:=Wk.new G.root u.page u.want }) hu (.inl hp) (.inl rfl) rfl (fun q hq' y hy=>h.li i u q hu hq' y hy) (fun f e hf y hy=>h.nl f e hf i u hu y hy) (fun y hy=>.inl hy)
  (fun h2=>absurd h2 (by show ¬ (2:Int)=3; decide)) (fun _=>⟨⟨⟨by show (0:Int)≤3; decide,by show (3:Int)≤3; decide⟩,rfl,⟨ha0,ha2⟩,hv1,.inl ⟨G,hg,hn⟩⟩,.inr (wt_no h (by show kd x.S.ps G.root≠5; omega))⟩)
 rwa [if_pos hp] at this
theorem WalkOk.reads (h:XInv x n t V W) {u:Cpu} (hw:WalkOk x.S V u) :
 (∃ (G:GS) (l:Nat),u.wk.l=l∧x.S.g u.vm.toNat=some G∧G.nd l (pre u.page.toNat (l+1))=some u.wk.f ∧
  parseE (ld x.S.L (atN u.wk.f u.wk.p u.wk.l.toNat))=(match l with | 0=>(match G.lf u.page.toNat with | some (y,ri)=>leafE y ri | none=>zE) | l+1=>(match G.nd l (pre u.page.toNat (l+1)) with | some y=>leadsE y | none=>zE))) ∨
 parseE (ld x.S.L (atN u.wk.f u.wk.p u.wk.l.toNat))=zE:=by
 obtain ⟨l0,p,a,vm,ok⟩:=hw;obtain ⟨l,hl⟩:=Int.eq_ofNat_of_zero_le l0.1;obtain ⟨p0,p1⟩:=page_of a.1 a.2;obtain ⟨pg,hpg⟩:=Int.eq_ofNat_of_zero_le p0;rw [p];rcases ok with ⟨G,hg,hn⟩ | ⟨_,_,_,hz⟩
 ·left;obtain ⟨_,_,tr,_⟩:=h.hi.gs _ G hg;refine ⟨G,l,hl,hg,?_,?_⟩
  ·rw [hl] at hn;exact hn
  ·rw [hl,hpg] at hn ⊢;simp only [Int.toNat_natCast] at hn ⊢;cases l with
   | zero=>exact tr.lf_at h.hi.ps1 hn
   | succ l=>exact tr.nd_at h.hi.ps1 hn
 ·right;rw [hpg,at_pre,hz _ (Nat.mod_lt _ (by decide))];exact parse_zero
theorem TookTo.zero {s s':Wk} (h:TookTo s zE s'):s'.l=-1∧s'.fE≠0:=by
 rcases h with ⟨_,rfl⟩ | ⟨h1,_⟩ | ⟨_,h1,_⟩ | rfl
 ·exact ⟨rfl,by show (4:Int)≠0; decide⟩
 ·exact absurd h1 (by rw [zE_table]; decide)
 ·exact absurd h1 (by decide)
 ·exact ⟨rfl,by show (11:Int)≠0; decide⟩
theorem TookTo.goes {s s':Wk} {e:PE} (h:TookTo s e s') (hl:s'.l≠-1):e.table=true∧0 < s.l∧s'={ s with f:=e.fr,l:=s.l - 1 }:=by
 rcases h with ⟨_,rfl⟩ | h1 | ⟨_,_,_,_,al,rfl⟩ | rfl
 ·exact absurd rfl hl
 ·exact h1
 ·exact absurd (by unfold Wk.inn; split; rfl; split <;> rfl) hl
 ·exact absurd rfl hl
theorem TookTo.ends {s s':Wk} {e:PE} (h:TookTo s e s') (hl:s'.l=-1) (he:s'.fE=0):e.pr=true∧0 < e.ri∧s.l=0∧s'.fF=e.fr∧s'.fR=e.ri:=by
 rcases h with ⟨_,rfl⟩ | ⟨_,h1,rfl⟩ | ⟨_,h1,h2,h3,al,rfl⟩ | rfl
 ·exact absurd he (by show ¬ (4:Int)=0; decide)
 ·dsimp only at hl;omega
 ·refine ⟨h3,h1,h2,?_⟩;unfold Wk.inn at he ⊢;split
  ·rename_i h4;rw [if_pos h4] at he;exact absurd he (by show ¬ (11:Int)=0; decide)
  ·rename_i h4;rw [if_neg h4] at he;cases al with
   | true=>exact ⟨rfl,rfl⟩
   | false=>exact absurd he (by show ¬ (7:Int)=0; decide)
 ·exact absurd he (by show ¬ (11:Int)=0; decide)
theorem XInv.walk (h:XInv x n t V W) {i:Nat} {u:Cpu} {s':Wk} (hu:x.cp[i]?=some u) (hp:u.ph=2) (hs:TookTo u.wk (parseE (ld x.S.L (atN u.wk.f u.wk.p u.wk.l.toNat))) s') (hl:s'.l≠-1) :
 XInv { x with cp:=x.cp.set i { u with wk:=s' } } n t V W:=by
 obtain ⟨hw,hh⟩:=h.wk i u hu hp;have key:WalkOk x.S V { u with wk:=s' }∧kd x.S.ps s'.f≠5:=by
  rcases WalkOk.reads h hw with ⟨G,l,hll,hg,hn,hr⟩ | hr
  ·rw [hr] at hs;obtain ⟨h1,h2,rfl⟩:=hs.goes hl;cases l with
   | zero=>omega
   | succ l=>
    dsimp only at h1 h2 ⊢;cases hc:G.nd l (pre u.page.toNat (l+1)) with
    | none=>rw [hc] at h1; exact absurd h1 (by rw [zE_table]; decide)
    | some y=>
     have e1:((leadsE y).fr)=y:=rfl;dsimp only;rw [e1];have hk:=(h.hi.node3 hg hc).2.1;refine ⟨⟨⟨by show 0≤u.wk.l - 1; omega,by show u.wk.l - 1≤3; have:=hw.l; omega⟩,hw.p,hw.a,hw.vm,.inl ⟨G,hg,?_⟩⟩,by omega⟩;show G.nd (u.wk.l - 1).toNat (pre u.page.toNat ((u.wk.l - 1).toNat+1))=some y;rw [show (u.wk.l - 1).toNat=l by omega];exact hc
  ·rw [hr] at hs;exact absurd hs.zero.1 hl
 have:=h.pinned (u':={ u with wk:=s' }) hu (.inr hp) (.inl hp) rfl (fun q hq' y hy=>h.li i u q hu hq' y hy) (fun f e hf y hy=>h.nl f e hf i u hu y hy) (fun y hy=>.inl hy)
  (fun h2=>by dsimp only at h2; omega) (fun _=>⟨key.1,.inr (wt_no h key.2)⟩)
 rwa [if_neg (by omega)] at this
theorem XInv.fill (h:XInv x n t V W) {i:Nat} {u:Cpu} {s':Wk} {ls:List Ln} (hu:x.cp[i]?=some u) (hp:u.ph=2) (hs:TookTo u.wk (parseE (ld x.S.L (atN u.wk.f u.wk.p u.wk.l.toNat))) s') (hl:s'.l=-1) (he:s'.fE=0)
 (hls:∀ y ∈ ls,y ∈ u.ls∨y=⟨u.vm,u.page,s'.fF,s'.fR⟩):XInv { x with cp:=x.cp.set i { u with ls:=ls,wk:=s',ph:=3,fr:=s'.fF } } n t V W:=by
 obtain ⟨hw,hh⟩:=h.wk i u hu hp;have key:∃ G ri,x.S.g u.vm.toNat=some G∧G.lf u.page.toNat=some (s'.fF,ri):=by
  rcases WalkOk.reads h hw with ⟨G,l,hll,hg,hn,hr⟩ | hr
  ·rw [hr] at hs;obtain ⟨h1,h2,h3,h4,h5⟩:=hs.ends hl he;have:l=0:=by omega
   subst this;dsimp only at h1 h2 h4 h5;cases hc:G.lf u.page.toNat with
   | none=>rw [hc] at h1; exact absurd h1 (by decide)
   | some y=>
    obtain ⟨y,ri⟩:=y;rw [hc] at h4;exact ⟨G,ri,hg,by rw [hc,h4]; rfl⟩
  ·rw [hr] at hs;exact absurd he hs.zero.2
 obtain ⟨G,ri,hg,hlf⟩:=key;obtain ⟨q1,q2⟩:=h.hi.leaf4 hg hlf;have hv:=h.v4 _ q1 q2;obtain ⟨p0,p1⟩:=page_of hw.a.1 hw.a.2;have hvm:=hw.vm;have:=h.pinned (u':={ u with ls:=ls,wk:=s',ph:=3,fr:=s'.fF }) hu (.inr hp) (.inr rfl) rfl (fun q hq' y hy=>by
  rcases hls y hy with h1 | rfl
  ·exact h.li i u q hu hq' y h1
  ·exact ⟨hv,p0,.inl ⟨u.vm.toNat,G,ri,by show u.vm=(u.vm.toNat:Int); omega,hg,hlf⟩⟩) (fun f e hf y hy=>by
  rcases hls y hy with h1 | rfl
  ·exact h.nl f e hf i u hu y h1
  ·rintro rfl;exact wt_no h (by show kd x.S.ps s'.fF≠5; omega) e hf) (fun y hy=>by
  rcases hls y hy with h1 | rfl
  ·exact .inl h1
  ·exact .inr q2)
  (fun _=>⟨hv,wt_no h (by show kd x.S.ps s'.fF≠5; omega)⟩) (fun h2=>absurd h2 (by show ¬ (3:Int)=2; decide))
 rwa [if_neg (by omega)] at this
end
section
variable {x:X} {n t:Nat} {V:Int→Prop} {W:List Int}
theorem wordIn {f:Int} {r:Int} (h0:0≤r) (h1:r < 16):∃ j:Nat,j < 16∧16 * f+r=16 * f+(j:Int):=⟨r.toNat,by omega,by omega⟩
theorem XInv.laid (h:XInv x n t V W) {f r v:Int} (hv:V f) (h0:0≤r) (h1:r < 16) :
 XInv { x with S:={ x.S with L:=st x.S.L (16 * f+r) v },mks:=x.mks ++ [⟨4,0,16 * f+r,⟨0,0,0,0⟩,v,0⟩] } n t V (st W (16 * f+r) v):=by
 obtain ⟨j0,hj0,hr⟩:=wordIn (f:=f) h0 h1;obtain ⟨hf,hk⟩:=h.v1 f hv;have hlen:x.S.L.length=16 * n:=by rw [← h.pl]; exact h.hi.len
 have hfn:f < n:=by have:=hf.2; rw [h.pl] at this; exact this
 have far:∀ {y:Int} {i:Nat} {M:List Int},y≠f→i < 16→ld (st M (16 * f+r) v) (16 * y+i)=ld M (16 * y+i):=fun {y i M} hy hi=>by
  rw [hr];exact ld_st_far (word_ne (.inl fun e=>hy e.symm) hj0 hi)
 have core:=h.hi.toHCore.pool (L':=st x.S.L (16 * f+r) v) (ps':=x.S.ps) (st_len _ _ _) rfl h.hi.wf (fun vm G l q y hg hn=>⟨rfl,fun i hi=>far (by
  rintro rfl;have:=(h.hi.node3 hg hn).2.1;omega) hi⟩) (fun vm G p y ri hg hl=>by
  refine ⟨(h.hi.leaf4 hg hl).2,rfl⟩)
 have hgo:Mk.go ⟨4,0,16 * f+r,⟨0,0,0,0⟩,v,0⟩ W=st W (16 * f+r) v:=rfl;have hf0:=hf.1;refine ⟨⟨core,h.hi.cnt,h.hi.rmax⟩,h.pl,h.v1,h.v4,fun y j hy hj=>?_,by rw [st_len]; exact h.wl,?_,h.kn,h.wt,h.el,h.bl,h.pr,h.pn,fun c z q hz hc y hy=>?_,h.nl,h.re,fun c z hz hph=>?_,fun c z hz hph=>?_,h.wd,h.id,h.so,h.op,h.ti,h.ca⟩
 ·show ld (st x.S.L (16 * f+r) v) (16 * y+j)=ld (st W (16 * f+r) v) (16 * y+j);by_cases e:16 * y+(j:Int)=16 * f+r
  ·rw [e,ld_st_same (by omega) (by omega),ld_st_same (by omega) (by rw [h.wl]; omega)]
  ·rw [ld_st_far (fun h=>e h.symm),ld_st_far (fun h=>e h.symm)];exact h.me y j hy hj
 ·rw [← hgo];refine .snoc h.gd ⟨by show 0≤16 * f+r; omega,by show 16 * f+r < 16 * (n:Int); omega,fun hd=>(by cases hd),fun h3=>(by cases h3)⟩
 ·obtain ⟨a1,a2,a3⟩:=h.li c z q hz hc y hy;exact ⟨a1,a2,a3⟩
 ·obtain ⟨⟨l,p,a,vm,ok⟩,h2⟩:=h.wk c z hz hph;refine ⟨⟨l,p,a,vm,?_⟩,h2⟩;rcases ok with h3 | ⟨h3,h4,h5,h6⟩
  ·exact .inl h3
  ·exact .inr ⟨h3,h4,h5,fun j hj=>by
    show ld (st x.S.L (16 * f+r) v) _=0;rw [far (by rintro rfl; exact h5 hv) hj];exact h6 j hj⟩
 ·have hw:=h.wa c z hz hph;exact ⟨hw.r,hw.f,hw.q,hw.l⟩
theorem XInv.store (h:XInv x n t V W) {i:Nat} {u:Cpu} (hu:x.cp[i]?=some u) (hp:u.ph=3) :
 ∃ W',XInv { x with S:={ x.S with L:=st x.S.L (16 * u.fr+u.c.a % 16) u.c.b },ep:=x.ep.set i (-1),mks:=x.mks ++ [⟨4,0,16 * u.fr+u.c.a % 16,⟨0,0,0,0⟩,u.c.b,0⟩],cp:=x.cp.set i (Cpu.rest u.ls) } n t V W':=by
 obtain ⟨hv,_⟩:=h.re i u hu hp;have h1:=h.laid (v:=u.c.b) hv (Int.emod_nonneg u.c.a (by decide)) (Int.emod_lt_of_pos u.c.a (by decide));exact ⟨_,h1.rest hu (by omega)⟩
theorem XInv.load (h:XInv x n t V W) {i:Nat} {u:Cpu} (hu:x.cp[i]?=some u) (hp:u.ph=3) :
 ∃ W',XInv { x with ep:=x.ep.set i (-1),mks:=x.mks ++ [⟨3,0,16 * u.fr+u.c.a % 16,⟨0,0,0,0⟩,ld x.S.L (16 * u.fr+u.c.a % 16),0⟩],cp:=x.cp.set i (Cpu.rest u.ls) } n t V W':=by
 obtain ⟨hv,_⟩:=h.re i u hu hp;obtain ⟨j,hj,hr⟩:=wordIn (f:=u.fr) (Int.emod_nonneg u.c.a (by decide)) (Int.emod_lt_of_pos u.c.a (by decide):u.c.a % 16 < 16);obtain ⟨hf,_⟩:=h.v1 _ hv;have hfn:u.fr < n:=by have:=hf.2; rw [h.pl] at this; exact this
 have hf0:=hf.1;have e:=h.me u.fr j hv hj;rw [← hr] at e;have hgo:Mk.go ⟨3,0,16 * u.fr+u.c.a % 16,⟨0,0,0,0⟩,ld x.S.L (16 * u.fr+u.c.a % 16),0⟩ W=W:=rfl;have g2:Good n (x.mks ++ [⟨3,0,16 * u.fr+u.c.a % 16,⟨0,0,0,0⟩,ld x.S.L (16 * u.fr+u.c.a % 16),0⟩]) W:=by
  rw [← hgo];refine .snoc h.gd ⟨by show 0≤16 * u.fr+u.c.a % 16; omega,by show 16 * u.fr+u.c.a % 16 < 16 * (n:Int); omega,fun hd=>(by cases hd),fun _=>e.symm⟩
 have h1:XInv { x with mks:=x.mks ++ [⟨3,0,16 * u.fr+u.c.a % 16,⟨0,0,0,0⟩,ld x.S.L (16 * u.fr+u.c.a % 16),0⟩] } n t V W:=
  ⟨h.hi,h.pl,h.v1,h.v4,h.me,h.wl,g2,h.kn,h.wt,h.el,h.bl,h.pr,h.pn,h.li,h.nl,h.re,h.wk,fun c z hz hph=>⟨(h.wa c z hz hph).r,(h.wa c z hz hph).f,(h.wa c z hz hph).q,(h.wa c z hz hph).l⟩,h.wd,h.id,h.so,h.op,h.ti,h.ca⟩
 exact ⟨_,h1.rest hu (by omega)⟩
theorem retire_facts (fs:List Int):∀ s:Ep,(fs.foldl Ep.retire s).pins=s.pins∧(fs.foldl Ep.retire s).now=s.now∧∀ f e,(fs.foldl Ep.retire s).wt f=some e→s.wt f=some e∨(f ∈ fs∧e=s.now):=by
 induction fs with
 | nil=>intro s; exact ⟨rfl,rfl,fun f e h=>.inl h⟩
 | cons g fs ih=>
  intro s;obtain ⟨h1,h2,h3⟩:=ih (s.retire g);have e1:(s.retire g).pins=s.pins∧(s.retire g).now=s.now:=by unfold Ep.retire; split <;> exact ⟨rfl,rfl⟩
  refine ⟨h1.trans e1.1,h2.trans e1.2,fun f e h=>?_⟩;rcases h3 f e h with h4 | ⟨h4,h5⟩
  ·unfold Ep.retire at h4;split at h4
   ·exact .inl h4
   ·dsimp only at h4;unfold updM at h4;split at h4
    ·rename_i h6;cases h4;exact .inr ⟨by rw [h6]; exact .head _,rfl⟩
    ·exact .inl h4
  ·exact .inr ⟨.tail _ h4,h5.trans e1.2⟩
theorem XInv.done (h:XInv x n t V W) {i:Nat} {u:Cpu} (hu:x.cp[i]?=some u) (hp:u.ph=4) (hd:x.bx.op.getD (u.ask.toNat - 1) 1=0) :
 XInv { x with ep:=u.fs.foldl Ep.retire x.ep,cp:=x.cp.set i (Cpu.rest u.ls) } n t V W:=by
 obtain ⟨epin,enow,ewt⟩:=retire_facts u.fs x.ep;obtain ⟨ep',hep⟩:∃ ep',ep'=u.fs.foldl Ep.retire x.ep:=⟨_,rfl⟩;rw [← hep] at epin enow ewt ⊢;clear hep;have hw:=h.wa i u hu hp;have hnone:∀ (c:Nat) (q:List Ask),x.bx.bs[c]?=some q→∀ a ∈ q,u.ask < a.id:=fun c q hc=>by
  obtain ⟨r0,r1⟩:=hw.r;have hj:u.ask.toNat - 1 < x.bx.op.length:=by omega
  have h1:x.bx.op[u.ask.toNat - 1]?=some x.bx.op[u.ask.toNat - 1]:=List.getElem?_eq_getElem hj;have h2:=h.op _ _ h1;rw [List.getD_eq_getElem?_getD,h1,Option.getD_some] at hd;rw [hd] at h2;have e1:((u.ask.toNat - 1:Nat):Int)+1=u.ask:=by omega
  rw [e1] at h2;have h3:cntId x.bx.bs u.ask=0:=by omega
  rcases hw.q c q hc with ⟨a,ha,e⟩ | h4
  ·exfalso;unfold cntId at h3;rw [List.length_eq_zero_iff,List.filter_eq_nil_iff] at h3;exact h3 q (List.mem_of_getElem? hc) (hasId_iff.2 ⟨a,ha,e⟩)
  ·exact h4
 have noline:∀ f ∈ u.fs,∀ (c:Nat) (z:Cpu),x.cp[c]?=some z→∀ y ∈ z.ls,y.f≠f:=fun f hf c z hz y hy e=>by
  have hcl:c < x.bx.bs.length:=by rw [h.bl]; exact (List.getElem?_eq_some_iff.1 hz).1
  have hc:x.bx.bs[c]?=some x.bx.bs[c]:=List.getElem?_eq_getElem hcl;obtain ⟨a,ha,h1,_⟩:=hw.l f hf c z _ hz hc y hy e;have:=hnone c _ hc a ha;omega
 have hpin:x.ep.pins[i]?=some (-1):=(h.pn i u hu).2 (by omega);have hheld:∀ {c:Nat} {z:Cpu} {f:Int},x.cp[c]?=some z→HeldBy x.ep c f→HeldBy ep' c f:=fun {c z f} hz hh e he=>by
  rcases ewt f e he with h1 | ⟨_,h2⟩
  ·obtain ⟨p,hp,h3⟩:=hh e h1;exact ⟨p,by rw [epin]; exact hp,h3⟩
  ·have hcl:c < x.ep.pins.length:=by rw [h.el]; exact (List.getElem?_eq_some_iff.1 hz).1
   have hpp:x.ep.pins[c]?=some x.ep.pins[c]:=List.getElem?_eq_getElem hcl;refine ⟨_,by rw [epin]; exact hpp,?_⟩;have:=h.ti.2.2;rcases h.pr c _ hpp with h3 | ⟨_,_,h3⟩ <;> omega
 refine ⟨h.hi,h.pl,h.v1,h.v4,h.me,h.wl,h.gd,h.kn,fun f e hf=>?_,by show ep'.pins.length=_; rw [epin,List.length_set]; exact h.el,by rw [List.length_set]; exact h.bl,fun c p hpc=>?_,fun c z hz=>?_,fun c z q hz hc y hy=>?_,fun f e hf c z hz y hy=>?_,fun c z hz hph=>?_,fun c z hz hph=>?_,fun c z hz hph=>?_,
  fun c z c' z' hz hz' hph hph' hne=>?_,fun c q hc b hb=>?_,h.so,h.op,?_,fun c z hz=>?_⟩
 ·show _∧_∧e≤ep'.now;rw [enow];rcases ewt f e hf with h1 | ⟨h1,h2⟩
  ·exact h.wt f e h1
  ·obtain ⟨q1,q2,_⟩:=hw.f f h1;exact ⟨q1,q2,by omega⟩
 ·have hpc2:ep'.pins[c]?=some p:=hpc;rw [epin] at hpc2;show p=-1∨(0≤p∧ep'.now≤p+1∧p≤ep'.now);rw [enow];exact h.pr c p hpc2
 ·show ep'.pins[c]?=some (-1)↔_;rw [epin];rcases set_get hz with ⟨rfl,rfl,_⟩ | ⟨h1,h2⟩
  ·exact ⟨fun _=>by show ¬ ((0:Int)=2∨(0:Int)=3); omega,fun _=>hpin⟩
  ·exact h.pn c z h2
 ·rcases set_get hz with ⟨rfl,rfl,_⟩ | ⟨h1,h2⟩
  ·exact h.li c u q hu hc y hy
  ·exact h.li c z q h2 hc y hy
 ·have hold:∃ z0,x.cp[c]?=some z0∧y ∈ z0.ls:=by
   rcases set_get hz with ⟨rfl,rfl,_⟩ | ⟨h1,h2⟩
   ·exact ⟨u,hu,hy⟩
   ·exact ⟨z,h2,hy⟩
  obtain ⟨z0,hz0,hy0⟩:=hold;rcases ewt f e hf with h1 | ⟨h1,_⟩
  ·exact h.nl f e h1 c z0 hz0 y hy0
  ·exact noline f h1 c z0 hz0 y hy0
 ·rcases set_get hz with ⟨rfl,rfl,_⟩ | ⟨h1,h2⟩
  ·exact absurd hph (by show ¬ (0:Int)=3; decide)
  ·exact ⟨(h.re c z h2 hph).1,hheld h2 (h.re c z h2 hph).2⟩
 ·rcases set_get hz with ⟨rfl,rfl,_⟩ | ⟨h1,h2⟩
  ·exact absurd hph (by show ¬ (0:Int)=2; decide)
  ·exact ⟨(h.wk c z h2 hph).1,hheld h2 (h.wk c z h2 hph).2⟩
 ·rcases set_get hz with ⟨rfl,rfl,_⟩ | ⟨h1,h2⟩
  ·exact absurd hph (by show ¬ (0:Int)=4; decide)
  ·have hw2:=h.wa c z h2 hph;refine ⟨hw2.r,fun f hf=>?_,hw2.q,fun f hf c' z' q' hz' hc y hy he=>?_⟩
   ·obtain ⟨q1,q2,q3⟩:=hw2.f f hf;refine ⟨q1,q2,?_⟩;show ep'.wt f=none;cases hwf:ep'.wt f with
    | none=>rfl
    | some e=>
     exfalso;rcases ewt f e hwf with h3 | ⟨h3,_⟩
     ·rw [q3] at h3;cases h3
     ·exact (h.wd c z i u h2 hu hph hp h1).2 f hf h3
   ·rcases set_get hz' with ⟨rfl,rfl,_⟩ | ⟨h3,h4⟩
    ·exact hw2.l f hf c' u q' hu hc y hy he
    ·exact hw2.l f hf c' z' q' h4 hc y hy he
 ·rcases set_get hz with ⟨rfl,rfl,_⟩ | ⟨h1,h2⟩
  ·exact absurd hph (by show ¬ (0:Int)=4; decide)
  ·rcases set_get hz' with ⟨rfl,rfl,_⟩ | ⟨h3,h4⟩
   ·exact absurd hph' (by show ¬ (0:Int)=4; decide)
   ·exact h.wd c z c' z' h2 h4 hph hph' hne
 ·obtain ⟨c',u',h1,h2,h3,h4⟩:=h.id c q hc b hb;refine ⟨c',u',h1,?_,h3,h4⟩;rw [List.getElem?_set_ne]
  ·exact h2
  ·rintro rfl;rw [hu] at h2;cases h2;have:=hnone c q hc b hb;omega
 ·show x.bx.op.length≤t∧ep'.now≤(t:Int)∧0≤ep'.now;rw [enow];exact h.ti
 ·rcases set_get hz with ⟨rfl,rfl,_⟩ | ⟨h1,h2⟩
  ·exact rest_fits _
  ·exact h.ca c z h2
theorem XInv.step (h:XInv x n t V W) {i:Nat} {x':X} {v e:Int} {d:Bool} (hs:MStep t i x x' v e d):∃ V' W',XInv x' n (t+1) V' W':=by
 cases hs with
 | out _=>exact ⟨V,W,h.up⟩
 | take hu hp hq=>exact ⟨V,W,(h.take hu hp hq).up⟩
 | idle _ _ hx=>
  obtain ⟨V',h'⟩:=h.free hx;exact ⟨V',W,h'⟩
 | look hu hp hq _ hy _ hf=>exact ⟨V,W,(h.look hu hp hq hy hf).up⟩
 | open' hu hp _ ha hg=>exact ⟨V,W,(h.open' hu hp ha hg).up⟩
 | busy hu hp _ _ _=>exact ⟨V,W,(h.rest' hu (.inr hp)).up⟩
 | sweep hu hp _ _ _ hx=>
  obtain ⟨V',h'⟩:=h.free hx;exact ⟨V',W,h'.rest' (x:=goFree x _) hu (.inr hp)⟩
 | call hu hp hq _ hb hd hn=>exact h.call hu hp hq hb hd hn
 | post hu hp hq _ hb hd _ _ htp=>exact h.post hu hp hq hb hd htp
 | walk hu hp _ hs hl=>exact ⟨V,W,(h.walk hu hp hs hl).up⟩
 | none hu hp _ _ _ _=>exact ⟨V,W,(h.rest hu (by omega)).up⟩
 | fill hu hp _ hs hl he hls=>exact ⟨V,W,(h.fill hu hp hs hl he hls).up⟩
 | store hu hp _=>
  obtain ⟨W',h'⟩:=h.store hu hp;exact ⟨V,W',h'.up⟩
 | load hu hp _=>
  obtain ⟨W',h'⟩:=h.load hu hp;exact ⟨V,W',h'.up⟩
 | wait _ _ _ _=>exact ⟨V,W,h.up⟩
 | done hu hp _ hd=>exact ⟨V,W,(h.done hu hp hd).up⟩
end
end Go.Proofs.YtadgpnoealegiaaGreat
