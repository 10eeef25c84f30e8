import Derived.Test.YtadgpnoealegiaaGreatP09
namespace Go.Proofs.YtadgpnoealegiaaGreat
open Go.RowKit
open Go.Lib (hid)
set_option maxRecDepth 100000
set_option maxHeartbeats 20000000
def fillN (page o:Int):Nat→List Int→List D→Int→List Int×List D×Int
 | 0,L,ps,w=>(L,ps,w)
 | l+1,L,ps,w=>fillN page o l (layN (ntakeN L ps o).1 w (leadsE (ntakeN L ps o).2.2.1)) (ntakeN L ps o).2.1 (atN (ntakeN L ps o).2.2.1 page l)
def putN (L:List Int) (ps:List D) (o r page:Int) (e:PE):List Int×List D×Int:=
 if (entN L (endN L page 3 r).w).pr=true then (L,ps,5)
 else if ((freeN ps).length:Int) < (endN L page 3 r).l then (L,ps,12)
 else (layN (fillN page o (endN L page 3 r).l.toNat L ps (endN L page 3 r).w).1 (fillN page o (endN L page 3 r).l.toNat L ps (endN L page 3 r).w).2.2 e,(fillN page o (endN L page 3 r).l.toNat L ps (endN L page 3 r).w).2.1,0)
def mapN (L:List Int) (ps:List D) (o r page f ri:Int):List Int×List D×Int:=
 if rightN page f ri=0 then putN L ps o r page ⟨true,ri,false,f⟩ else (L,ps,rightN page f ri)
def Small (L:List Int) (page r:Int):Prop:=(entN L (endN L page 3 r).w).pr=true→(endN L page 3 r).l=0∧(entN L (endN L page 3 r).w).la=false
def pageE (L:List Int) (page r:Int):PE:=entN L (endN L page 3 r).w
def queryN (L:List Int) (r page:Int):Int×Int×Int:=
 if page < 0∨65536≤page then (0,0,2) else if (pageE L page r).pr=true then ((pageE L page r).fr,(pageE L page r).ri,0) else (0,0,4)
def zeroF (L:List Int) (f:Int) (n:Nat):Bool:=(List.range n).all fun (i:Nat)=>ld L (16 * f+i) == 0
def thinR : List Int→List D→List Pl→List Int×List D
 | L,ps,x :: y :: l=>if zeroF L x.f 16=true then thinR (st L y.w 0) (turnN ps x.f 5 0).1 (y :: l) else (L,ps)
 | L,ps,_=>(L,ps)
def unmapN (L:List Int) (ps:List D) (r page:Int):List Int×List D:=
 if (queryN L r page).2.2=0 then thinR (st L (endN L page 3 r).w 0) ps (wayN L page 3 r).reverse else (L,ps)
def protN (L:List Int) (r page ri:Int):List Int×Int:=
 if rightN page 0 ri=0 then (if (pageE L page r).pr=true then (layN L (endN L page 3 r).w ⟨true,ri,false,(pageE L page r).fr⟩,0) else (L,4)) else (L,rightN page 0 ri)
theorem hasN_iff {L:List Int} {i:Int}:hasN L i=true↔0≤i∧i < L.length:=by unfold hasN; simp
theorem ld_st_same {L:List Int} {i v:Int} (h0:0≤i) (h1:i < L.length):ld (st L i v) i=v:=by
 unfold ld st;rw [if_pos (hasN_iff.2 ⟨h0,h1⟩),if_pos (hasN_iff.2 ⟨h0,by simpa using h1⟩)];unfold nth;rw [List.getD_eq_getElem?_getD,List.getElem?_set_self (by omega)];rfl
theorem ld_st_far {L:List Int} {i j v:Int} (h:i≠j):ld (st L i v) j=ld L j:=by
 unfold st;split
 ·rename_i hi;have hi:=hasN_iff.1 hi;unfold ld hasN;simp only [List.length_set];split
  ·rename_i hj;have hj:=of_decide_eq_true hj;unfold nth;rw [List.getD_eq_getElem?_getD,List.getD_eq_getElem?_getD,List.getElem?_set_ne (by omega)]
  ·rfl
 ·rfl
theorem parse_zero : parseE 0=zE:=by decide
theorem parse_pack {e:PE} (h:e.right=true):parseE (packE e)=e∧okE (packE e).toNat=true:=by
 obtain ⟨pr,ri,la,fr⟩:=e;have hr:=pe_range h;unfold parseE packE;rw [if_pos h,Int.toNat_natCast];dsimp only;obtain ⟨a,rfl⟩:=Int.eq_ofNat_of_zero_le hr.1;obtain ⟨b,rfl⟩:=Int.eq_ofNat_of_zero_le hr.2.2.1;rw [Int.toNat_natCast,Int.toNat_natCast];have ha:a < 8:=by omega
 have hb:b < 4096:=by omega
 have e1:rawE (bitN pr+a % 8 * 2+bitN la * 16+b % 4096 * 4096)=⟨pr,a,la,b⟩:=by
  unfold rawE;have q1:(bitN pr+a % 8 * 2+bitN la * 16+b % 4096 * 4096) % 2=bitN pr:=by have:=bitN_lt pr; omega
  have q2:(bitN pr+a % 8 * 2+bitN la * 16+b % 4096 * 4096) / 2 % 8=a:=by have:=bitN_lt pr; have:=bitN_lt la; omega
  have q3:(bitN pr+a % 8 * 2+bitN la * 16+b % 4096 * 4096) / 16 % 2=bitN la:=by have:=bitN_lt pr; have:=bitN_lt la; omega
  have q4:(bitN pr+a % 8 * 2+bitN la * 16+b % 4096 * 4096) / 4096 % 4096=b:=by have:=bitN_lt pr; have:=bitN_lt la; omega
  rw [q1,q2,q3,q4];cases pr <;> cases la <;> rfl
 have e2:okE (bitN pr+a % 8 * 2+bitN la * 16+b % 4096 * 4096)=true:=by
  unfold okE;rw [e1];have:=bitN_lt pr;have:=bitN_lt la;exact decide_eq_true ⟨by omega,by omega,h⟩
 exact ⟨by rw [if_pos e2,e1],e2⟩
theorem leads_right {f:Int} (h0:0≤f) (h1:f < 4096):(leadsE f).right=true:=by
 unfold PE.right leadsE;simp;omega
theorem leads_table {f:Int} (h0:0≤f) (h1:f < 4096):(leadsE f).table=true:=by
 unfold PE.table;simp [leads_right h0 h1];exact ⟨rfl,rfl⟩
def leafE (x ri:Int):PE:=⟨true,ri,false,x⟩
theorem leaf_right {x ri:Int} (h0:0≤x) (h1:x < 4096) (r0:1≤ri) (r1:ri≤7):(leafE x ri).right=true:=by
 unfold PE.right leafE;simp;omega
theorem zE_table : zE.table=false:=by decide
def pre (p l:Nat):Nat:=p / 16 ^ l
theorem pre_zero (p:Nat):pre p 0=p:=by simp [pre]
theorem pre_succ (p l:Nat):pre p (l+1)=pre p l / 16:=by unfold pre; rw [Nat.pow_succ,Nat.div_div_eq_div_mul]
theorem pre_join (p l:Nat):16 * pre p (l+1)+pre p l % 16=pre p l:=by rw [pre_succ]; omega
theorem index_pre (p l:Nat):indexN (p:Int) l=((pre p l % 16:Nat):Int):=by unfold indexN pre; rw [Int.toNat_natCast]
theorem at_pre (f:Int) (p l:Nat):atN f (p:Int) l=16 * f+((pre p l % 16:Nat):Int):=by unfold atN; rw [index_pre]
theorem pre_lt {p:Nat} (h:p < 65536) (l:Nat) (hl:l≤3):pre p (l+1) < 16 ^ (3 - l):=by
 unfold pre;have:l=0∨l=1∨l=2∨l=3:=by omega
 rcases this with rfl | rfl | rfl | rfl <;> simp <;> omega
structure GS where
 root:Int
 tk:Int→Option (Int×Int)
 nd:Nat→Nat→Option Int
 lf:Nat→Option (Int×Int)
def ndW : Option Int→Int
 | some f=>packE (leadsE f)
 | none=>0
def lfW : Option (Int×Int)→Int
 | some (x,ri)=>packE (leafE x ri)
 | none=>0
def kd (ps:List D) (f:Int):Int:=(dOf ps f).k
def ow (ps:List D) (f:Int):Int:=(dOf ps f).o
def rf (ps:List D) (f:Int):Int:=(dOf ps f).r
def inR (ps:List D) (f:Int):Prop:=0≤f∧f < ps.length
structure Tree (L:List Int) (ps:List D) (vm:Nat) (G:GS):Prop where
 root:G.nd 3 0=some G.root
 rng:∀ l q f,G.nd l q=some f→l≤3∧q < 16 ^ (3 - l)∧inR ps f∧kd ps f=3∧ow ps f=vm∧rf ps f=0
 inj:∀ l q l' q' f,G.nd l q=some f→G.nd l' q'=some f→l=l'∧q=q'
 up:∀ l q f,G.nd l q=some f→l < 3→∃ f',G.nd (l+1) (q / 16)=some f'
 wd:∀ l q f (i:Nat),G.nd (l+1) q=some f→i < 16→ld L (16 * f+i)=ndW (G.nd l (16 * q+i))
 lw:∀ q f (i:Nat),G.nd 0 q=some f→i < 16→ld L (16 * f+i)=lfW (G.lf (16 * q+i))
 leaf:∀ p x ri,G.lf p=some (x,ri)→p < 65536∧1≤ri∧ri≤7∧inR ps x∧kd ps x=4∧∃ f,G.nd 0 (p / 16)=some f
section
variable {L L':List Int} {ps ps':List D} {vm:Nat} {G:GS}
theorem Tree.nd_word (t:Tree L ps vm G) (hps:ps.length≤4096) {l q:Nat} {f:Int} {i:Nat} (h:G.nd (l+1) q=some f) (hi:i < 16) :
 entN L (16 * f+i)=(match G.nd l (16 * q+i) with | some x=>leadsE x | none=>zE):=by
 unfold entN;rw [t.wd l q f i h hi];cases hn:G.nd l (16 * q+i) with
 | none=>exact parse_zero
 | some x=>
  obtain ⟨_,_,⟨h0,h1⟩,_⟩:=t.rng _ _ _ hn;exact (parse_pack (leads_right h0 (by omega))).1
theorem Tree.lf_word (t:Tree L ps vm G) (hps:ps.length≤4096) {q:Nat} {f:Int} {i:Nat} (h:G.nd 0 q=some f) (hi:i < 16) :
 entN L (16 * f+i)=(match G.lf (16 * q+i) with | some (x,ri)=>leafE x ri | none=>zE):=by
 unfold entN;rw [t.lw q f i h hi];cases hn:G.lf (16 * q+i) with
 | none=>exact parse_zero
 | some y=>
  obtain ⟨x,ri⟩:=y;obtain ⟨_,r0,r1,⟨h0,h1⟩,_⟩:=t.leaf _ _ _ hn;exact (parse_pack (leaf_right h0 (by omega) r0 r1)).1
theorem Tree.nd_at (t:Tree L ps vm G) (hps:ps.length≤4096) {l p:Nat} {f:Int} (h:G.nd (l+1) (pre p (l+2))=some f) :
 entN L (atN f (p:Int) (l+1))=(match G.nd l (pre p (l+1)) with | some x=>leadsE x | none=>zE):=by
 rw [at_pre,t.nd_word hps h (Nat.mod_lt _ (by decide)),pre_join]
theorem Tree.lf_at (t:Tree L ps vm G) (hps:ps.length≤4096) {p:Nat} {f:Int} (h:G.nd 0 (pre p 1)=some f) :
 entN L (atN f (p:Int) 0)=(match G.lf p with | some (x,ri)=>leafE x ri | none=>zE):=by
 rw [at_pre,t.lf_word hps h (Nat.mod_lt _ (by decide)),pre_join,pre_zero]
theorem Tree.end_spec (t:Tree L ps vm G) (hps:ps.length≤4096) (p:Nat):∀ (l:Nat) (f:Int),G.nd l (pre p (l+1))=some f →
 ∃ l' f',l'≤l∧endN L (p:Int) l f=⟨f',l',atN f' p l'⟩∧G.nd l' (pre p (l'+1))=some f'∧(0 < l'→G.nd (l' - 1) (pre p l')=none)
 | 0,f,h=>⟨0,f,Nat.le_refl _,rfl,h,fun h=>absurd h (by decide)⟩
 | l+1,f,h=>by
  unfold endN;rw [t.nd_at hps h];cases hn:G.nd l (pre p (l+1)) with
  | none=>
   dsimp only;rw [if_neg (by rw [zE_table]; decide)];exact ⟨l+1,f,Nat.le_refl _,rfl,h,fun _=>hn⟩
  | some x=>
   obtain ⟨_,_,⟨h0,h1⟩,_⟩:=t.rng _ _ _ hn;dsimp only;rw [if_pos (leads_table h0 (by omega))];obtain ⟨l',f',q1,q2,q3,q4⟩:=t.end_spec hps p l x hn;exact ⟨l',f',by omega,q2,q3,q4⟩
theorem Tree.page_spec (t:Tree L ps vm G) (hps:ps.length≤4096) (p:Nat) :
 (∃ f x ri,endN L (p:Int) 3 G.root=⟨f,0,atN f p 0⟩∧G.nd 0 (pre p 1)=some f∧G.lf p=some (x,ri)∧pageE L p G.root=leafE x ri) ∨
 (∃ (l:Nat) (f:Int),l≤3∧endN L (p:Int) 3 G.root=⟨f,l,atN f p l⟩∧G.nd l (pre p (l+1))=some f∧(0 < l→G.nd (l - 1) (pre p l)=none)∧G.lf p=none∧pageE L p G.root=zE)∨65536≤p:=by
 by_cases hp:p < 65536
 ·obtain ⟨l,f,h1,h2,h3,h4⟩:=t.end_spec hps p 3 G.root (by rw [show pre p 4=0 by unfold pre; simp; omega]; exact t.root);unfold pageE;rw [h2];dsimp only;cases l with
  | zero=>
   rw [t.lf_at hps h3];cases hl:G.lf p with
   | none=>exact .inr (.inl ⟨0,f,by omega,rfl,h3,fun h=>absurd h (by decide),rfl,rfl⟩)
   | some y=>exact .inl ⟨f,y.1,y.2,rfl,h3,rfl,rfl⟩
  | succ l=>
   have h5:=h4 (Nat.succ_pos _);simp only [Nat.add_sub_cancel] at h5;rw [t.nd_at hps h3,h5];refine .inr (.inl ⟨l+1,f,h1,rfl,h3,h4,?_,rfl⟩);cases hl:G.lf p with
   | none=>rfl
   | some y=>
    obtain ⟨_,_,_,_,_,g,hg⟩:=t.leaf p y.1 y.2 hl;exfalso;have key:∀ k,k≤l→∃ g,G.nd k (pre p (k+1))=some g:=by
     intro k
     induction k with
     | zero=>intro _; exact ⟨g,by rw [pre_succ,pre_zero]; exact hg⟩
     | succ k ih=>
      intro hk;obtain ⟨g',hg'⟩:=ih (by omega);obtain ⟨g2,hg2⟩:=t.up _ _ _ hg' (by omega);exact ⟨g2,by rw [pre_succ]; exact hg2⟩
    obtain ⟨g',hg'⟩:=key l (Nat.le_refl _);rw [h5] at hg';cases hg'
 ·exact .inr (.inr (by omega))
theorem Tree.small (t:Tree L ps vm G) (hps:ps.length≤4096) (p:Nat) (hp:p < 65536):Small L p G.root:=by
 intro h;rcases t.page_spec hps p with ⟨f,x,ri,h1,_,_,h2⟩ | ⟨l,f,_,h1,_,_,_,h2⟩ | h1
 ·rw [h1];unfold pageE at h2;rw [h1] at h2;exact ⟨rfl,by rw [h2]; rfl⟩
 ·unfold pageE at h2;rw [h2] at h;cases h
 ·omega
theorem Tree.congr (t:Tree L ps vm G) (hw:∀ f (i:Nat),inR ps f→kd ps f=3→ow ps f=vm→i < 16→ld L' (16 * f+i)=ld L (16 * f+i))
 (hl:ps'.length=ps.length) (h3:∀ f,inR ps f→kd ps f=3→ow ps f=vm→rf ps f=0→kd ps' f=3∧ow ps' f=vm∧rf ps' f=0) (h4:∀ p x ri,G.lf p=some (x,ri)→inR ps x→kd ps x=4→kd ps' x=4):Tree L' ps' vm G:=
 ⟨t.root,fun l q f h=>by
  obtain ⟨a1,a2,a3,a4,a5,a6⟩:=t.rng l q f h;obtain ⟨b1,b2,b3⟩:=h3 f a3 a4 a5 a6;exact ⟨a1,a2,by unfold inR at *; rw [hl]; exact a3,b1,b2,b3⟩,t.inj,t.up,
  fun l q f i h hi=>by
   obtain ⟨a1,a2,a3,a4,a5,a6⟩:=t.rng _ q f h;rw [hw f i a3 a4 a5 hi];exact t.wd l q f i h hi,
  fun q f i h hi=>by
   obtain ⟨a1,a2,a3,a4,a5,a6⟩:=t.rng _ q f h;rw [hw f i a3 a4 a5 hi];exact t.lw q f i h hi,
  fun p x ri h=>by
   obtain ⟨b1,b2,b3,b4,b5,b6⟩:=t.leaf p x ri h;exact ⟨b1,b2,b3,by unfold inR at *; rw [hl]; exact b4,h4 _ _ _ h b4 b5,b6⟩⟩
theorem word_ne {f g:Int} {i j:Nat} (h:f≠g∨i≠j) (hi:i < 16) (hj:j < 16):16 * f+(i:Int)≠16 * g+(j:Int):=by omega
theorem Tree.setLeaf (t:Tree L ps vm G) (hlen:L.length=16 * ps.length) {p:Nat} (hp:p < 65536) {f:Int} (hf:G.nd 0 (pre p 1)=some f) (v:Option (Int×Int))
 (hv:∀ x ri,v=some (x,ri)→1≤ri∧ri≤7∧inR ps x∧kd ps x=4):Tree (st L (atN f p 0) (lfW v)) ps vm { G with lf:=fun p'=>if p'=p then v else G.lf p' }:=by
 obtain ⟨_,_,hfr,_⟩:=t.rng _ _ _ hf;have hat:atN f p 0=16 * f+((p % 16:Nat):Int):=by rw [at_pre,pre_zero]
 have hpm:p % 16 < 16:=Nat.mod_lt _ (by decide);have hp1:pre p 1=p / 16:=by rw [pre_succ,pre_zero]
 refine ⟨t.root,t.rng,t.inj,t.up,fun l q g i h hi=>?_,fun q g i h hi=>?_,fun p' x ri h=>?_⟩
 ·rw [hat,ld_st_far,t.wd l q g i h hi];refine word_ne (.inl ?_) hpm hi;rintro rfl;have:=(t.inj _ _ _ _ _ hf h).1;omega
 ·by_cases e:16 * q+i=p
  ·dsimp only;rw [if_pos e];have e1:pre p 1=q:=by omega
   rw [e1] at hf;rw [hf] at h;cases h;rw [hat,show (p % 16:Nat)=i by omega,ld_st_same (by have:=hfr.1; omega) (by have:=hfr.2; omega)]
  ·dsimp only;rw [if_neg e,hat,ld_st_far,t.lw q g i h hi];refine word_ne ?_ hpm hi;by_cases e2:f=g
   ·subst e2;have:=(t.inj _ _ _ _ _ hf h).2;right;omega
   ·exact .inl e2
 ·dsimp only at h;split at h
  ·rename_i e;subst e;obtain ⟨b1,b2,b3,b4⟩:=hv x ri h;exact ⟨hp,b1,b2,b3,b4,f,by rw [← hp1]; exact hf⟩
  ·exact t.leaf p' x ri h
theorem Tree.addNode (t:Tree L ps vm G) (hlen:L.length=16 * ps.length) {l p:Nat} (hl:l < 3) (hp:p < 65536) {g f:Int} (hg:G.nd (l+1) (pre p (l+2))=some g) (hn:G.nd l (pre p (l+1))=none)
 (hlp:ps'.length=ps.length) (hr:inR ps f) (hk0:kd ps f=0) (hk:kd ps' f=3∧ow ps' f=vm∧rf ps' f=0) (hfar:∀ x,0≤x→x≠f→dOf ps' x=dOf ps x)
 (hz:∀ i:Nat,i < 16→ld L' (16 * f+i)=0) (hw:∀ x (i:Nat),x≠f→i < 16→ld L' (16 * x+i)=ld L (16 * x+i)) (hL:L'.length=L.length) :
 Tree (st L' (atN g p (l+1)) (packE (leadsE f))) ps' vm { G with nd:=fun l' q'=>if l'=l∧q'=pre p (l+1) then some f else G.nd l' q' }:=by
 have old:∀ {l q x},G.nd l q=some x→x≠f:=fun h e=>by
  obtain ⟨_,_,_,h3,_⟩:=t.rng _ _ _ h;subst e;omega
 have hgr:=t.rng _ _ _ hg;have hkd:∀ x,0≤x→x≠f→kd ps' x=kd ps x:=fun x h0 h=>by unfold kd; rw [hfar x h0 h]
 have how:∀ x,0≤x→x≠f→ow ps' x=ow ps x:=fun x h0 h=>by unfold ow; rw [hfar x h0 h]
 have hrf:∀ x,0≤x→x≠f→rf ps' x=rf ps x:=fun x h0 h=>by unfold rf; rw [hfar x h0 h]
 have hat:atN g p (l+1)=16 * g+((pre p (l+1) % 16:Nat):Int):=at_pre _ _ _;have hpm:pre p (l+1) % 16 < 16:=Nat.mod_lt _ (by decide);have hin:∀ x,inR ps x→inR ps' x:=fun x h=>by unfold inR at *; rw [hlp]; exact h
 refine ⟨?_,fun l' q x h=>?_,fun l1 q1 l2 q2 x h1 h2=>?_,fun l' q x h hl3=>?_,fun l' q x i h hi=>?_,fun q x i h hi=>?_,fun p' x ri h=>?_⟩
 ·dsimp only;rw [if_neg (by omega)];exact t.root
 ·dsimp only at h;split at h
  ·rename_i e;obtain ⟨rfl,rfl⟩:=e;cases h;exact ⟨by omega,pre_lt hp _ (by omega),hin _ hr,hk⟩
  ·obtain ⟨a1,a2,a3,a4,a5,a6⟩:=t.rng _ _ _ h;have hne:=old h;exact ⟨a1,a2,hin _ a3,by rw [hkd _ a3.1 hne]; exact a4,by rw [how _ a3.1 hne]; exact a5,by rw [hrf _ a3.1 hne]; exact a6⟩
 ·dsimp only at h1 h2;split at h1
  ·rename_i e1;cases h1;split at h2
   ·rename_i e2;exact ⟨e1.1.trans e2.1.symm,e1.2.trans e2.2.symm⟩
   ·exact absurd rfl (old h2)
  ·split at h2
   ·cases h2;exact absurd rfl (old h1)
   ·exact t.inj _ _ _ _ _ h1 h2
 ·dsimp only at h ⊢;split at h
  ·rename_i e;obtain ⟨rfl,rfl⟩:=e;refine ⟨g,?_⟩;rw [if_neg (by omega),← pre_succ];exact hg
  ·obtain ⟨f',h'⟩:=t.up _ _ _ h hl3;by_cases e:l'+1=l∧q / 16=pre p (l+1)
   ·exact ⟨f,by rw [if_pos e]⟩
   ·exact ⟨f',by rw [if_neg e]; exact h'⟩
 ·dsimp only at h ⊢;split at h
  ·rename_i e;obtain ⟨e1,rfl⟩:=e;cases h;rw [hat,ld_st_far (word_ne (.inl (old hg)) hpm hi),hz i hi,if_neg (by omega)];cases hc:G.nd l' (16 * pre p (l+1)+i) with
   | none=>rfl
   | some y=>
    exfalso;obtain ⟨y',hy'⟩:=t.up _ _ _ hc (by omega);rw [e1,show (16 * pre p (l+1)+i) / 16=pre p (l+1) by omega,hn] at hy';cases hy'
  ·by_cases e:l'=l∧16 * q+i=pre p (l+1)
   ·rw [if_pos e];obtain ⟨rfl,e2⟩:=e;have e3:q=pre p (l'+2):=by rw [pre_succ]; omega
    subst e3;rw [hg] at h;cases h;rw [hat,show (pre p (l'+1) % 16:Nat)=i by omega,ld_st_same (by have:=hgr.2.2.1.1; omega) (by have:=hgr.2.2.1.2; omega)];rfl
   ·rw [if_neg e,hat,ld_st_far,hw _ _ (old h) hi,t.wd l' q x i h hi];refine word_ne ?_ hpm hi;by_cases e2:g=x
    ·subst e2;have:=t.inj _ _ _ _ _ hg h;right;intro e3;have h1:l'=l:=by omega
     have h2:=pre_join p (l+1);rw [this.2,e3] at h2;exact e ⟨h1,h2⟩
    ·exact .inl e2
 ·dsimp only at h;split at h
  ·rename_i e;obtain ⟨e1,rfl⟩:=e;cases h;rw [hat,ld_st_far (word_ne (.inl (old hg)) hpm hi),hz i hi];dsimp only;cases hc:G.lf (16 * pre p (l+1)+i) with
   | none=>rfl
   | some y=>
    exfalso;obtain ⟨_,_,_,_,_,y',hy'⟩:=t.leaf _ y.1 y.2 hc;rw [show (16 * pre p (l+1)+i) / 16=pre p (l+1) by omega,e1,hn] at hy';cases hy'
  ·rw [hat,ld_st_far,hw _ _ (old h) hi,t.lw q x i h hi];refine word_ne (.inl ?_) hpm hi;rintro rfl;have:=(t.inj _ _ _ _ _ hg h).1;omega
 ·dsimp only at h ⊢;obtain ⟨b1,b2,b3,b4,b5,y,b6⟩:=t.leaf _ _ _ h;have hxf:x≠f:=by
   rintro rfl;omega
  refine ⟨b1,b2,b3,hin _ b4,by rw [hkd _ b4.1 hxf]; exact b5,y,?_⟩;rw [if_neg ?_]
  ·exact b6
  ·rintro ⟨e1,e2⟩;rw [e1,e2,hn] at b6;cases b6
theorem Tree.delNode (t:Tree L ps vm G) (hlen:L.length=16 * ps.length) {l p:Nat} (hl:l < 3) {g f:Int} (hg:G.nd (l+1) (pre p (l+2))=some g) (hf:G.nd l (pre p (l+1))=some f)
 (hz:∀ i:Nat,i < 16→ld L (16 * f+i)=0) (hps:ps.length≤4096) (hlp:ps'.length=ps.length) (hfar:∀ x,0≤x→x≠f→dOf ps' x=dOf ps x) :
 Tree (st L (atN g p (l+1)) 0) ps' vm { G with nd:=fun l' q'=>if l'=l∧q'=pre p (l+1) then none else G.nd l' q' }:=by
 have hgr:=t.rng _ _ _ hg;have hfr:=t.rng _ _ _ hf;have hat:atN g p (l+1)=16 * g+((pre p (l+1) % 16:Nat):Int):=at_pre _ _ _;have hpm:pre p (l+1) % 16 < 16:=Nat.mod_lt _ (by decide);have hin:∀ x,inR ps x→inR ps' x:=fun x h=>by unfold inR at *; rw [hlp]; exact h
 have nz:∀ e:PE,e.right=true→e.pr=true→packE e≠0:=fun e h h1 h2=>by
  have:=(parse_pack h).1;rw [h2,parse_zero] at this;rw [← this] at h1;cases h1
 have nol:∀ (i:Nat) y,i < 16→l=0→G.lf (16 * pre p (l+1)+i)≠some y:=by
  rintro i ⟨x,ri⟩ hi rfl hc;have h1:=t.lw _ _ i hf hi;rw [hz i hi,hc] at h1;obtain ⟨_,r0,r1,⟨h0,h2⟩,_⟩:=t.leaf _ _ _ hc;exact nz _ (leaf_right h0 (by omega) r0 r1) rfl h1.symm
 have noc:∀ (l' i:Nat) y,i < 16→l=l'+1→G.nd l' (16 * pre p (l+1)+i)≠some y:=by
  rintro l' i y hi rfl hc;have h1:=t.wd _ _ _ i hf hi;rw [hz i hi,hc] at h1;obtain ⟨_,_,⟨h0,h2⟩,_⟩:=t.rng _ _ _ hc;exact nz _ (leads_right h0 (by omega)) rfl h1.symm
 have oth:∀ l' q x,G.nd l' q=some x→¬ (l'=l∧q=pre p (l+1))→x≠f:=fun l' q x h hn e=>by
  subst e;obtain ⟨e1,e2⟩:=t.inj _ _ _ _ _ h hf;exact hn ⟨e1,e2⟩
 have hkd:∀ x,0≤x→x≠f→kd ps' x=kd ps x:=fun x h0 h=>by unfold kd; rw [hfar x h0 h]
 have how:∀ x,0≤x→x≠f→ow ps' x=ow ps x:=fun x h0 h=>by unfold ow; rw [hfar x h0 h]
 have hrf:∀ x,0≤x→x≠f→rf ps' x=rf ps x:=fun x h0 h=>by unfold rf; rw [hfar x h0 h]
 refine ⟨?_,fun l' q x h=>?_,fun l1 q1 l2 q2 x h1 h2=>?_,fun l' q x h hl3=>?_,fun l' q x i h hi=>?_,fun q x i h hi=>?_,fun p' x ri h=>?_⟩
 ·dsimp only;rw [if_neg (by omega)];exact t.root
 ·dsimp only at h;split at h
  ·cases h
  ·rename_i e;have hne:=oth _ _ _ h e;obtain ⟨a1,a2,a3,a4,a5,a6⟩:=t.rng _ _ _ h;exact ⟨a1,a2,hin _ a3,by rw [hkd _ a3.1 hne]; exact a4,by rw [how _ a3.1 hne]; exact a5,by rw [hrf _ a3.1 hne]; exact a6⟩
 ·dsimp only at h1 h2;split at h1
  ·cases h1
  ·split at h2
   ·cases h2
   ·exact t.inj _ _ _ _ _ h1 h2
 ·dsimp only at h ⊢;split at h
  ·cases h
  ·rename_i e;obtain ⟨f',h'⟩:=t.up _ _ _ h hl3;refine ⟨f',?_⟩;rw [if_neg]
   ·exact h'
   ·rintro ⟨e1,e2⟩;refine noc l' (q % 16) x (Nat.mod_lt _ (by decide)) e1.symm ?_;rw [show 16 * pre p (l+1)+q % 16=q by omega];exact h
 ·dsimp only at h ⊢;split at h
  ·cases h
  ·rename_i e;have hne:=oth _ _ _ h e;by_cases e:l'=l∧16 * q+i=pre p (l+1)
   ·rw [if_pos e];obtain ⟨rfl,e2⟩:=e;have e3:q=pre p (l'+2):=by rw [pre_succ]; omega
    subst e3;rw [hg] at h;cases h;rw [hat,show (pre p (l'+1) % 16:Nat)=i by omega,ld_st_same (by have:=hgr.2.2.1.1; omega) (by have:=hgr.2.2.1.2; omega)];rfl
   ·rw [if_neg e,hat,ld_st_far,t.wd l' q x i h hi];refine word_ne ?_ hpm hi;by_cases e2:g=x
    ·subst e2;have:=t.inj _ _ _ _ _ hg h;right;intro e3;have h1:l'=l:=by omega
     have h2:=pre_join p (l+1);rw [this.2,e3] at h2;exact e ⟨h1,h2⟩
    ·exact .inl e2
 ·dsimp only at h;split at h
  ·cases h
  ·rw [hat,ld_st_far,t.lw q x i h hi];refine word_ne (.inl ?_) hpm hi;rintro rfl;have:=(t.inj _ _ _ _ _ hg h).1;omega
 ·dsimp only at h ⊢;obtain ⟨b1,b2,b3,b4,b5,y,b6⟩:=t.leaf _ _ _ h;have hxf:x≠f:=by
   rintro rfl;omega
  refine ⟨b1,b2,b3,hin _ b4,by rw [hkd _ b4.1 hxf]; exact b5,y,?_⟩;rw [if_neg ?_]
  ·exact b6
  ·rintro ⟨e1,e2⟩;refine nol (p' % 16) (x,ri) (Nat.mod_lt _ (by decide)) e1.symm ?_;rw [← e2,show 16 * (p' / 16)+p' % 16=p' by omega];exact h
end
end Go.Proofs.YtadgpnoealegiaaGreat
