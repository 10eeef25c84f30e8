import Derived.Test.YtadgpnoealegiaaGreatP23
namespace Go.Proofs.YtadgpnoealegiaaGreat
open Go.RowKit
open Go.Lib (hid)
set_option maxRecDepth 100000
set_option maxHeartbeats 20000000
section
variable {x:X} {n t:Nat} {V:Int→Prop} {W:List Int}
theorem XInv.ask (h:XInv x n t V W) {i:Nat} {u:Cpu} (hu:x.cp[i]?=some u) (hp:u.ph=0) (vm:Int) (c:C) (hc:c.fits):XInv { x with cp:=x.cp.set i { u with ph:=1,vm:=vm,c:=c } } n t V W:=by
 have hpin:x.ep.pins[i]?=some (-1):=(h.pn i u hu).2 (by omega);obtain ⟨u',hu'⟩:∃ u',u'={ u with ph:=1,vm:=vm,c:=c }:=⟨_,rfl⟩;have eph:u'.ph=1:=by rw [hu']
 have els:u'.ls=u.ls:=by rw [hu']
 have ec:u'.c=c:=by rw [hu']
 rw [← hu'];clear hu';refine ⟨h.hi,h.pl,h.v1,h.v4,h.me,h.wl,h.gd,h.kn,h.wt,by rw [List.length_set]; exact h.el,by rw [List.length_set]; exact h.bl,h.pr,fun c z hz=>?_,fun c z q hz hc y hy=>?_,fun f e hf c z hz y hy=>?_,fun c z hz hph=>?_,fun c z hz hph=>?_,fun c z hz hph=>?_,
  fun c z c' z' hz hz' hph hph' hne=>?_,fun c q hc b hb=>?_,h.so,h.op,h.ti,fun c z hz=>?_⟩
 ·rcases set_get hz with ⟨rfl,rfl,_⟩ | ⟨h1,h2⟩
  ·exact ⟨fun _=>by omega,fun _=>hpin⟩
  ·exact h.pn c z h2
 ·rcases set_get hz with ⟨rfl,rfl,_⟩ | ⟨h1,h2⟩
  ·rw [els] at hy;exact h.li c u q hu hc y hy
  ·exact h.li c z q h2 hc y hy
 ·rcases set_get hz with ⟨rfl,rfl,_⟩ | ⟨h1,h2⟩
  ·rw [els] at hy;exact h.nl f e hf c u hu y hy
  ·exact h.nl f e hf c z h2 y hy
 ·rcases set_get hz with ⟨rfl,rfl,_⟩ | ⟨h1,h2⟩
  ·omega
  ·exact h.re c z h2 hph
 ·rcases set_get hz with ⟨rfl,rfl,_⟩ | ⟨h1,h2⟩
  ·omega
  ·exact h.wk c z h2 hph
 ·rcases set_get hz with ⟨rfl,rfl,_⟩ | ⟨h1,h2⟩
  ·omega
  ·have hw:=h.wa c z h2 hph;refine ⟨hw.r,hw.f,hw.q,fun f hf c' z' q' hz' hc y hy he=>?_⟩;rcases set_get hz' with ⟨rfl,rfl,_⟩ | ⟨h3,h4⟩
   ·rw [els] at hy;exact hw.l f hf c' u q' hu hc y hy he
   ·exact hw.l f hf c' z' q' h4 hc y hy he
 ·rcases set_get hz with ⟨rfl,rfl,_⟩ | ⟨h1,h2⟩
  ·omega
  ·rcases set_get hz' with ⟨rfl,rfl,_⟩ | ⟨h3,h4⟩
   ·omega
   ·exact h.wd c z c' z' h2 h4 hph hph' hne
 ·obtain ⟨c',u2,h1,h2,h3,h4⟩:=h.id c q hc b hb;refine ⟨c',u2,h1,?_,h3,h4⟩;rw [List.getElem?_set_ne]
  ·exact h2
  ·rintro rfl;rw [hu] at h2;cases h2;omega
 ·rcases set_get hz with ⟨rfl,rfl,_⟩ | ⟨h1,h2⟩
  ·rw [ec];exact hc
  ·exact h.ca c z h2
def X.new (n cpus:Nat):X:=
 ⟨⟨List.replicate (16 * n) 0,List.replicate n zD,fun _=>none,[]⟩,⟨0,List.replicate cpus (-1),fun _=>none⟩,⟨List.replicate cpus [],[]⟩,List.replicate cpus (Cpu.rest []),fun _=>false,[]⟩
theorem dOf_new (n:Nat) (f:Int):dOf (List.replicate n zD) f=zD:=by
 unfold dOf;rw [List.getD_eq_getElem?_getD,List.getElem?_replicate];split <;> rfl
theorem XInv.new (n cpus:Nat) (h0:4≤n) (h1:n≤4096):XInv (X.new n cpus) n 0 (fun _=>False) (List.replicate (16 * n) 0):=by
 have kz:∀ f,kd (List.replicate n zD) f=0:=fun f=>by unfold kd; rw [dOf_new]
 have rz:∀ f,rf (List.replicate n zD) f=0:=fun f=>by unfold rf; rw [dOf_new]
 have cpu:∀ {c:Nat} {z:Cpu},(List.replicate cpus (Cpu.rest []))[c]?=some z→z=Cpu.rest []:=fun {c z} hz=>by
  rw [List.getElem?_replicate] at hz;split at hz
  ·cases hz; rfl
  ·cases hz
 have box:∀ {c:Nat} {q:List Ask},(List.replicate cpus ([]:List Ask))[c]?=some q→q=[]:=fun {c q} hz=>by
  rw [List.getElem?_replicate] at hz;split at hz
  ·cases hz; rfl
  ·cases hz
 refine ⟨⟨⟨by simp [X.new],by simpa [X.new] using h0,by simpa [X.new] using h1,fun d hd=>?_,fun vm G hg=>(by cases hg),fun vm p y hm=>(by cases hm),List.Pairwise.nil⟩,fun f _=>?_,fun f _=>?_⟩,by simp [X.new],fun f hf=>hf.elim,fun f _ hk=>?_,fun f j hf=>hf.elim,by simp,.nil,fun f _ hk=>?_,fun f e hf=>(by cases hf),by simp [X.new],by simp [X.new],
  fun c p hp=>?_,fun c z hz=>?_,fun c z q hz hc y hy=>?_,fun f e hf=>(by cases hf),fun c z hz hph=>?_,fun c z hz hph=>?_,fun c z hz hph=>?_,fun c z c' z' hz hz' hph=>?_,fun c q hc a ha=>?_,fun c q hc=>?_,fun k m hk=>?_,⟨Nat.le_refl _,Int.le_refl _,Int.le_refl _⟩,fun c z hz=>?_⟩
 ·rw [(List.mem_replicate.1 hd).2];exact zD_wf
 ·show ((0:Nat):Int)≤rf (List.replicate n zD) f;rw [rz];exact Int.le_refl _
 ·show rf (List.replicate n zD) f≤((0:Nat):Int);rw [rz];exact Int.le_refl _
 ·have hk2:kd (List.replicate n zD) f=4:=hk;rw [kz] at hk2;cases hk2
 ·have hk2:kd (List.replicate n zD) f=5:=hk;rw [kz] at hk2;cases hk2
 ·have hp2:(List.replicate cpus (-1:Int))[c]?=some p:=hp;rw [List.getElem?_replicate] at hp2;split at hp2
  ·cases hp2; exact .inl rfl
  ·cases hp2
 ·have hc:c < cpus:=by
   have:=(List.getElem?_eq_some_iff.1 hz).1;simpa [X.new] using this
  rw [cpu hz];show (List.replicate cpus (-1:Int))[c]?=some (-1)↔¬ ((0:Int)=2∨(0:Int)=3);rw [List.getElem?_replicate,if_pos hc];simp
 ·rw [cpu hz] at hy;cases hy
 ·rw [cpu hz] at hph;exact absurd hph (by show ¬ (0:Int)=3; decide)
 ·rw [cpu hz] at hph;exact absurd hph (by show ¬ (0:Int)=2; decide)
 ·rw [cpu hz] at hph;exact absurd hph (by show ¬ (0:Int)=4; decide)
 ·rw [cpu hz] at hph;exact absurd hph (by show ¬ (0:Int)=4; decide)
 ·rw [box hc] at ha;cases ha
 ·rw [box hc];exact List.Pairwise.nil
 ·simp [X.new] at hk
 ·rw [cpu hz];exact rest_fits _
theorem nodup_le {α:Type} [DecidableEq α]:∀ (l l':List α),l.Nodup→(∀ a ∈ l,a ∈ l')→l.length≤l'.length
 | [],_,_,_=>Nat.zero_le _
 | a :: l,l',hn,hs=>by
  rw [List.nodup_cons] at hn;have h1:=nodup_le l (l'.erase a) hn.2 fun b hb=>(List.mem_erase_of_ne (fun e=>hn.1 (by rw [← e]; exact hb))).2 (hs b (.tail _ hb));rw [List.length_erase_of_mem (hs a (.head _))] at h1;have:=List.length_pos_of_mem (hs a (.head _));rw [List.length_cons];omega
theorem XInv.room (h:XInv x n t V W) {c:Nat} {q:List Ask} (hq:x.bx.bs[c]?=some q):q.length≤x.cp.length:=by
 have h1:=nodup_le (q.map Ask.id) (x.cp.map Cpu.ask) (by
  rw [List.Nodup,List.pairwise_map];exact (h.so c q hq).imp fun hlt e=>by omega) (fun k hk=>by
  obtain ⟨a,ha,rfl⟩:=List.mem_map.1 hk;obtain ⟨c',u',_,h2,_,h4⟩:=h.id c q hq a ha;exact List.mem_map.2 ⟨u',List.mem_of_getElem? h2,h4⟩)
 simpa using h1
theorem XInv.ops (h:XInv x n t V W):∀ y ∈ x.bx.op,0≤y∧y≤x.cp.length:=fun y hy=>by
 obtain ⟨k,hk,e⟩:=List.mem_iff_getElem.1 hy;have:=h.op k y (by rw [List.getElem?_eq_getElem hk,e]);rw [this];refine ⟨by omega,?_⟩;unfold cntId;have:=List.length_filter_le (hasId ((k:Int)+1)) x.bx.bs;rw [h.bl] at this;omega
theorem WalkOk.word (h:XInv x n t V W) {u:Cpu} (hw:WalkOk x.S V u):∃ l:Nat,u.wk.l=l∧l < 4∧0≤u.wk.p∧u.wk.p < 65536∧0≤u.wk.f∧u.wk.f < 4096∧hasN x.S.L (atN u.wk.f u.wk.p l)=true∧okE (ld x.S.L (atN u.wk.f u.wk.p l)).toNat=true∧(parseE (ld x.S.L (atN u.wk.f u.wk.p l))).la=false:=by
 have hrd:=WalkOk.reads h hw;obtain ⟨l0,p,a,vm,ok⟩:=hw;obtain ⟨l,hl⟩:=Int.eq_ofNat_of_zero_le l0.1;obtain ⟨p0,p1⟩:=page_of a.1 a.2;obtain ⟨pg,hpg⟩:=Int.eq_ofNat_of_zero_le p0;have hps:=h.hi.ps1;have hlen:=h.hi.len;have hf:inR x.S.ps u.wk.f:=by
  rcases ok with ⟨G,hg,hn⟩ | ⟨h1,_⟩
  ·exact (h.hi.node3 hg hn).1
  ·exact h1
 obtain ⟨f0,f1⟩:=hf;have hm:=Nat.mod_lt (pre pg l) (show 0 < 16 by decide);rw [hl,Int.toNat_natCast] at hrd;refine ⟨l,hl,by omega,by rw [p]; exact p0,by rw [p]; exact p1,f0,by omega,?_,?_,?_⟩
 ·rw [p,hpg,at_pre,hasN_iff];omega
 ·rw [p,hpg,at_pre];rcases ok with ⟨G,hg,hn⟩ | ⟨_,_,_,hz⟩
  ·obtain ⟨_,_,tr,_⟩:=h.hi.gs _ G hg;rw [hl,Int.toNat_natCast] at hn;cases l with
   | zero=>
    rw [tr.lw _ _ _ hn hm];cases hc:G.lf (16 * pre u.page.toNat 1+pre pg 0 % 16) with
    | none=>exact (by decide:okE (0:Int).toNat=true)
    | some y=>
     obtain ⟨y,ri⟩:=y;obtain ⟨_,r0,r1,⟨y0,y1⟩,_⟩:=tr.leaf _ _ _ hc;exact (parse_pack (leaf_right y0 (by omega) r0 r1)).2
   | succ l=>
    rw [tr.wd _ _ _ _ hn hm];cases hc:G.nd l (16 * pre u.page.toNat (l+1+1)+pre pg (l+1) % 16) with
    | none=>exact (by decide:okE (0:Int).toNat=true)
    | some y=>
     obtain ⟨_,_,⟨y0,y1⟩,_⟩:=tr.rng _ _ _ hc;exact (parse_pack (leads_right y0 (by omega))).2
  ·rw [hz _ hm];decide
 ·rcases hrd with ⟨G,l',_,_,_,hr⟩ | hr
  ·rw [hr];cases l' with
   | zero=>dsimp only; split <;> rfl
   | succ l'=>dsimp only; split <;> rfl
  ·rw [hr]
end
structure Gr where
 o:Int
 p:Int
 t:Int
 w:Bool
 u:Int
def Gr.val (g:Gr):Value:=.agg #[.int .i64 g.o,.int .i64 g.p,.int .i64 g.t,.bool g.w,.int .i64 g.u]
theorem gr_out (o p t:Int) (w:Bool) (u:Int):Gr.val ⟨o,p,t,w,u⟩=.agg #[.int .i64 o,.int .i64 p,.int .i64 t,.bool w,.int .i64 u]:=rfl
def encG (g:Gr):List Value:=[.int .i64 g.o,.int .i64 g.p,.int .i64 g.t,.bool g.w,.int .i64 g.u]
theorem encG_len : ∀ g,(encG g).length=5:=fun _=>rfl
def Gr.ok (g:Gr):Prop:=0≤g.u∧g.u≤1000
structure IsGr (w:World) (b r:Nat) (gs:List Gr):Prop where
 obj:Blk w b 119 #[.slice (some ⟨r,0,none⟩) 16 16]
 row:Blk w r 222 (recs encG gs)
 len:gs.length=16
 ok:∀ g ∈ gs,g.ok
def IsGrs (w:World) (b r:Nat):Prop:=∃ gs,IsGr w b r gs
section
variable {w w':World} {b r:Nat} {gs:List Gr}
theorem IsGr.only {S:List Nat} (h:IsGr w b r gs) (o:Only S w w') (hb:b ∉ S) (hr:r ∉ S):IsGr w' b r gs:=⟨h.obj.only o hb,h.row.only o hr,h.len,h.ok⟩
theorem IsGr.quiet (h:IsGr w b r gs) (o:Only [] w w'):IsGr w' b r gs:=h.only o (by simp) (by simp)
theorem IsGr.cell (h:IsGr w b r gs) {j:Nat} {g:Gr} (hd:gs[j]?=some g):w.cell? ⟨r,j * 5,none⟩=some (.int .i64 g.o)∧w.cell? ⟨r,j * 5+1,none⟩=some (.int .i64 g.p)∧w.cell? ⟨r,j * 5+2,none⟩=some (.int .i64 g.t)∧w.cell? ⟨r,j * 5+3,none⟩=some (.bool g.w)∧w.cell? ⟨r,j * 5+4,none⟩=some (.int .i64 g.u):=
 ⟨h.row.at _ (by have:=recs_get encG_len gs hd 0 (by decide); simpa [encG] using this),h.row.at _ (by have:=recs_get encG_len gs hd 1 (by decide); simpa [encG] using this),h.row.at _ (by have:=recs_get encG_len gs hd 2 (by decide); simpa [encG] using this),h.row.at _ (by have:=recs_get encG_len gs hd 3 (by decide); simpa [encG] using this),h.row.at _ (by have:=recs_get encG_len gs hd 4 (by decide); simpa [encG] using this)⟩
theorem IsGr.lt (h:IsGr w b r gs):b < w.heap.size∧r < w.heap.size:=⟨h.obj.lt,h.row.lt⟩
theorem setG (h:IsGr w b r gs) {j:Nat} (hj:j < 16) (y:Gr) (hy:y.ok) :
 IsGr (((((w.setCell ⟨r,j * 5,none⟩ (.int .i64 y.o)).setCell ⟨r,j * 5+1,none⟩ (.int .i64 y.p)).setCell ⟨r,j * 5+2,none⟩ (.int .i64 y.t)).setCell ⟨r,j * 5+3,none⟩ (.bool y.w)).setCell ⟨r,j * 5+4,none⟩ (.int .i64 y.u)) b r (gs.set j y) ∧
 Only [r] w (((((w.setCell ⟨r,j * 5,none⟩ (.int .i64 y.o)).setCell ⟨r,j * 5+1,none⟩ (.int .i64 y.p)).setCell ⟨r,j * 5+2,none⟩ (.int .i64 y.t)).setCell ⟨r,j * 5+3,none⟩ (.bool y.w)).setCell ⟨r,j * 5+4,none⟩ (.int .i64 y.u)):=by
 have hl:=h.len;have hx:gs[j]?=some gs[j]:=List.getElem?_eq_getElem (by omega);have hz:=recs_size encG_len gs;have hbr:b≠r:=h.obj.ne h.row (by decide);have o:Only [r] w (((((w.setCell ⟨r,j * 5,none⟩ (.int .i64 y.o)).setCell ⟨r,j * 5+1,none⟩ (.int .i64 y.p)).setCell ⟨r,j * 5+2,none⟩ (.int .i64 y.t)).setCell ⟨r,j * 5+3,none⟩ (.bool y.w)).setCell ⟨r,j * 5+4,none⟩ (.int .i64 y.u)):=
  ((((((Only.refl [r] w).setCell (.inl (.head _)) _).setCell (.inl (.head _)) _).setCell (.inl (.head _)) _).setCell (.inl (.head _)) _).setCell (.inl (.head _)) _)
 refine ⟨⟨h.obj.only o (by simpa using hbr),?_,by simpa using h.len,fun g hg=>?_⟩,o⟩
 ·have e:=recs_set encG_len gs hx y ((((((recs encG gs).setIfInBounds (j * 5) (.int .i64 y.o)).setIfInBounds (j * 5+1) (.int .i64 y.p)).setIfInBounds (j * 5+2) (.int .i64 y.t)).setIfInBounds (j * 5+3) (.bool y.w)).setIfInBounds (j * 5+4) (.int .i64 y.u)) (fun i hi=>?_) (fun m hm=>?_)
  ·rw [← e];exact ((((h.row.set _ _).set _ _).set _ _).set _ _).set _ _
  ·have:i=0∨i=1∨i=2∨i=3∨i=4:=by omega
   rcases this with rfl | rfl | rfl | rfl | rfl <;> simp [Array.getElem?_setIfInBounds,encG,hz,hl] <;> omega
  ·simp only [Array.getElem?_setIfInBounds];rw [if_neg (by omega),if_neg (by omega),if_neg (by omega),if_neg (by omega),if_neg (by omega)]
 ·rcases List.mem_or_eq_of_mem_set hg with h2 | rfl
  ·exact h.ok g h2
  ·exact hy
theorem setU (h:IsGr w b r gs) {j:Nat} (hj:j < 16) (u:Int) (h0:0≤u) (h1:u≤1000):IsGrs (w.setCell ⟨r,j * 5+4,none⟩ (.int .i64 u)) b r∧Only [r] w (w.setCell ⟨r,j * 5+4,none⟩ (.int .i64 u)):=by
 have hl:=h.len;have hx:gs[j]?=some gs[j]:=List.getElem?_eq_getElem (by omega);obtain ⟨g,hg⟩:∃ g,gs[j]=g:=⟨_,rfl⟩;rw [hg] at hx;have hz:=recs_size encG_len gs;have hbr:b≠r:=h.obj.ne h.row (by decide);have o:Only [r] w (w.setCell ⟨r,j * 5+4,none⟩ (.int .i64 u)):=(Only.refl [r] w).setCell (.inl (.head _)) _;refine ⟨⟨gs.set j { g with u:=u },h.obj.only o (by simpa using hbr),?_,by simpa using h.len,fun g hg=>?_⟩,o⟩
 ·have e:=recs_set encG_len gs hx { g with u:=u } ((recs encG gs).setIfInBounds (j * 5+4) (.int .i64 u)) (fun i hi=>?_) (fun m hm=>?_)
  ·rw [← e];exact h.row.set _ _
  ·have h3:=recs_get encG_len gs hx i hi;have:i=0∨i=1∨i=2∨i=3∨i=4:=by omega
   rcases this with rfl | rfl | rfl | rfl | rfl
   ·rw [Array.getElem?_setIfInBounds_ne (by omega),h3]; rfl
   ·rw [Array.getElem?_setIfInBounds_ne (by omega),h3]; rfl
   ·rw [Array.getElem?_setIfInBounds_ne (by omega),h3]; rfl
   ·rw [Array.getElem?_setIfInBounds_ne (by omega),h3]; rfl
   ·rw [Array.getElem?_setIfInBounds_self_of_lt (by omega)]; rfl
  ·rw [Array.getElem?_setIfInBounds_ne (by omega)]
 ·rcases List.mem_or_eq_of_mem_set hg with h2 | rfl
  ·exact h.ok g h2
  ·exact ⟨h0,h1⟩
theorem gthere_any (h:IsGr w b r gs):Calls Tryz.prog 187 #[ptr b] w fun e w'=>e=.returned (.bool true)∧w=w':=by
 have x0:=h.obj.at 0 (v:=.slice (some ⟨r,0,none⟩) 16 16) rfl;clear h;go_enter Tryz.func187,Tryz.ntmps187;go_wp2_with fail;go_ret;exact ⟨rfl,rfl⟩
theorem gguest_any (w:World) (n:Int):Calls Tryz.prog 188 #[.int .i64 n] w fun e w'=>SaysB e∧w=w':=by
 go_enter Tryz.func188,Tryz.ntmps188;go_wp2_with fail
 all_goals
  go_ret;exact ⟨⟨_,rfl⟩,rfl⟩
theorem gfree_any (w:World) (g:Gr):Calls Tryz.prog 169 #[g.val] w fun e w'=>SaysB e∧Only [] w w':=by
 obtain ⟨o,p,t,wr,u⟩:=g;rw [gr_out];go_enter Tryz.func169,Tryz.ntmps169;go_wp2_with fail
 all_goals
  go_ret;exact ⟨⟨_,rfl⟩,(Only.refl _ _).alloc _⟩
def AtTo (r:Nat) (e:Ending):Prop:=(∃ er:Int,er≠0∧e=.returned (.tuple #[.pointer none,.int .i64 er]))∨∃ k:Nat,k < 16∧e=.returned (.tuple #[.pointer (some ⟨r,k * 5,none⟩),.int .i64 0])
theorem gat_any (h:IsGr w b r gs) (id:Int):Calls Tryz.prog 182 #[ptr b,.int .i64 id] w fun e w'=>AtTo r e∧Only [] w w':=by
 have HT:=hid (gthere_any h);have x0:=h.obj.at 0 (v:=.slice (some ⟨r,0,none⟩) 16 16) rfl;by_cases h1:id < 0
 ·have d1:decide (id < 0)=true:=decide_eq_true h1;clear h;go_enter Tryz.func182,Tryz.ntmps182;go_wp2_with fail;refine HT.out.mono ?_;rintro e w1 ⟨rfl,rfl⟩;go_wp2_with fail;go_ret2;exact ⟨.inl ⟨4,by decide,rfl⟩,Only.refl _ _⟩
 ·have d1:decide (id < 0)=false:=decide_eq_false h1;obtain ⟨k,rfl⟩:=Int.eq_ofNat_of_zero_le (show 0≤id by omega);by_cases h2:16≤k
  ·have d2:decide ((16:Int)≤(k:Int))=true:=decide_eq_true (by omega);clear h;go_enter Tryz.func182,Tryz.ntmps182;go_wp2_with fail;refine HT.out.mono ?_;rintro e w1 ⟨rfl,rfl⟩;go_wp2_with fail;go_ret2;exact ⟨.inl ⟨4,by decide,rfl⟩,Only.refl _ _⟩
  ·have d2:decide ((16:Int)≤(k:Int))=false:=decide_eq_false (by omega);have hk:k < 16:=by omega
   have hlt:(k:Int) < 16:=by omega
   obtain ⟨g,hg⟩:∃ g,gs[k]?=some g:=⟨_,List.getElem?_eq_getElem (by have:=h.len; omega)⟩;obtain ⟨y0,y1,y2,y3,y4⟩:=h.cell hg;obtain ⟨o,p,t,wr,u⟩:=g;dsimp only at y0 y1 y2 y3 y4;have HF:=hid (fun W=>gfree_any W ⟨o,p,t,wr,u⟩);have H0:=hid h;clear h hg;go_enter Tryz.func182,Tryz.ntmps182;go_wp2_with fail;refine HT.out.mono ?_;rintro e w1 ⟨rfl,rfl⟩;go_wp2_with fail;refine (HF.out _).mono ?_;rintro e w1 ⟨⟨bb,rfl⟩,ho⟩;have HO:=hid ho;have q0:=(H0.out.quiet ho).obj.at 0 (v:=.slice (some ⟨r,0,none⟩) 16 16) rfl;clear ho y0 y1 y2 y3 y4 x0;cases bb
   ·go_wp2_with fail;go_ret2;exact ⟨.inr ⟨k,hk,rfl⟩,HO.out⟩
   ·go_wp2_with fail;go_ret2;exact ⟨.inl ⟨4,by decide,rfl⟩,HO.out⟩
theorem set5 {W:World} {b t:Nat} {x0 x1 x2 x3 x4:Value} (h:Blk W b t #[x0,x1,x2,x3,x4]) (y0 y1 y2 y3 y4:Value) :
 Blk (((((W.setCell ⟨b,0,none⟩ y0).setCell ⟨b,1,none⟩ y1).setCell ⟨b,2,none⟩ y2).setCell ⟨b,3,none⟩ y3).setCell ⟨b,4,none⟩ y4) b t #[y0,y1,y2,y3,y4]:=by
 simpa using ((((h.set 0 y0).set 1 y1).set 2 y2).set 3 y3).set 4 y4
def OfTo (e:Ending):Prop:=∃ (g:Gr) (ok:Bool),e=.returned (.tuple #[g.val,.bool ok])
theorem gof_any (h:IsGr w b r gs) (id:Int):Calls Tryz.prog 141 #[ptr b,.int .i64 id] w fun e w'=>OfTo e∧Only [] w w':=by
 have q0:=(Only.refl [] w).alloc (.cells #[.int .i64 0,.int .i64 0,.int .i64 0,.bool false,.int .i64 0] 222);have HZ:=hid (Blk.new w 222 #[.int .i64 0,.int .i64 0,.int .i64 0,.bool false,.int .i64 0]);have HA:=hid (gat_any (h.quiet q0) id);have H0:=hid (h.quiet q0);have HQ:=hid q0;have hrl:=h.lt.2;clear h q0;go_enter Tryz.func141,Tryz.ntmps141;go_wp2_with fail;refine HA.out.mono ?_;rintro e w1 ⟨hto,ho⟩;have HZ1:=hid (HZ.out.only ho (by simp));have HO:=hid (HQ.out.trans ho);have z0:=HZ1.out.at 0 (v:=.int .i64 0) rfl;have z1:=HZ1.out.at 1 (v:=.int .i64 0) rfl;have z2:=HZ1.out.at 2 (v:=.int .i64 0) rfl;have z3:=HZ1.out.at 3 (v:=.bool false) rfl;have z4:=HZ1.out.at 4 (v:=.int .i64 0) rfl;have f0:=HZ1.out.frozen 0;have f1:=HZ1.out.frozen 1;have f2:=HZ1.out.frozen 2;have f3:=HZ1.out.frozen 3;have f4:=HZ1.out.frozen 4;rcases hto with ⟨er,hne,rfl⟩ | ⟨k,hk,rfl⟩
 ·have d1:(er == 0)=false:=beq_eq_false_iff_ne.2 hne;have d2:(er != 0)=true:=by rw [bne,d1]; rfl
  clear ho;go_wp2_with fail;have H5:=set5 HZ1.out (.int .i64 0) (.int .i64 0) (.int .i64 0) (.bool false) (.int .i64 0);have q0:=H5.at 0 (v:=.int .i64 0) rfl;have q1:=H5.at 1 (v:=.int .i64 0) rfl;have q2:=H5.at 2 (v:=.int .i64 0) rfl;have q3:=H5.at 3 (v:=.bool false) rfl;have q4:=H5.at 4 (v:=.int .i64 0) rfl;refine bodyPost_ret (v:=.tuple #[.agg #[.int .i64 0,.int .i64 0,.int .i64 0,.bool false,.int .i64 0],.bool false]) (by simp [results,Tryz.results141,go_sem,q0,q1,q2,q3,q4]) rfl ⟨⟨⟨0,0,0,false,0⟩,false,rfl⟩,?_⟩;exact ((((HO.out.setCell (.inr (Nat.le_refl _)) _).setCell (.inr (Nat.le_refl _)) _).setCell (.inr (Nat.le_refl _)) _).setCell (.inr (Nat.le_refl _)) _).setCell (.inr (Nat.le_refl _)) _
 ·have H1:=hid (H0.out.quiet ho);obtain ⟨g,hg⟩:∃ g,gs[k]?=some g:=⟨_,List.getElem?_eq_getElem (by have:=H1.out.len; omega)⟩;obtain ⟨y0,y1,y2,y3,y4⟩:=H1.out.cell hg;obtain ⟨o,p,t,wr,u⟩:=g;dsimp only at y0 y1 y2 y3 y4;have hne:r≠w.heap.size:=by omega
  clear ho hg;go_wp2_with fail;have H5:=set5 HZ1.out (.int .i64 o) (.int .i64 p) (.int .i64 t) (.bool wr) (.int .i64 u);have q0:=H5.at 0 (v:=.int .i64 o) rfl;have q1:=H5.at 1 (v:=.int .i64 p) rfl;have q2:=H5.at 2 (v:=.int .i64 t) rfl;have q3:=H5.at 3 (v:=.bool wr) rfl;have q4:=H5.at 4 (v:=.int .i64 u) rfl;refine bodyPost_ret (v:=.tuple #[.agg #[.int .i64 o,.int .i64 p,.int .i64 t,.bool wr,.int .i64 u],.bool true]) (by simp [results,Tryz.results141,go_sem,q0,q1,q2,q3,q4]) rfl ⟨⟨⟨o,p,t,wr,u⟩,true,rfl⟩,?_⟩;exact ((((HO.out.setCell (.inr (Nat.le_refl _)) _).setCell (.inr (Nat.le_refl _)) _).setCell (.inr (Nat.le_refl _)) _).setCell (.inr (Nat.le_refl _)) _).setCell (.inr (Nat.le_refl _)) _
def GrTo (w w':World) (b r:Nat):Prop:=Only [r] w w'∧IsGrs w' b r
def SaysI (e:Ending):Prop:=∃ er:Int,e=.returned (.int .i64 er)
theorem gtake_any (h:IsGr w b r gs) (id g:Int) (wr:Bool):Calls Tryz.prog 146 #[ptr b,.int .i64 id,.int .i64 g,.bool wr] w fun e w'=>SaysI e∧GrTo w w' b r:=by
 have HA:=hid (gat_any h id);have H0:=hid h;clear h;go_enter Tryz.func146,Tryz.ntmps146;go_wp2_with fail;refine HA.out.mono ?_;rintro e w1 ⟨hto,ho⟩;have H1:=hid (H0.out.quiet ho);have HO:=hid (ho.sub (show [] ⊆ [r] by simp));rcases hto with ⟨er,hne,rfl⟩ | ⟨k,hk,rfl⟩
 ·have d1:(er == 0)=false:=beq_eq_false_iff_ne.2 hne;have d2:(er != 0)=true:=by rw [bne,d1]; rfl
  clear ho;go_wp2_with fail;go_ret;exact ⟨⟨_,rfl⟩,HO.out,_,H1.out⟩
 ·obtain ⟨y,hy⟩:∃ g,gs[k]?=some g:=⟨_,List.getElem?_eq_getElem (by have:=H1.out.len; omega)⟩;obtain ⟨y0,y1,y2,y3,y4⟩:=H1.out.cell hy;have hok:=H1.out.ok y (List.mem_of_getElem? hy);obtain ⟨o,p,t,w0,u⟩:=y;obtain ⟨u0,u1⟩:=hok;dsimp only at y0 y1 y2 y3 y4 u0 u1;have f4:=H1.out.row.frozen (k * 5+4);have HS:=hid (fun hu:(u == 1000)=false=>setU H1.out hk (u+1) (by omega) (by have:=beq_eq_false_iff_ne.1 hu; omega));clear ho hy;go_wp2_with fail
  all_goals
   go_ret
   first
    | exact ⟨⟨_,rfl⟩,HO.out,_,H1.out⟩
    | exact ⟨⟨_,rfl⟩,HO.out.trans (HS.out ‹_›).2,(HS.out ‹_›).1⟩
theorem gback_any (h:IsGr w b r gs) (id g:Int):Calls Tryz.prog 147 #[ptr b,.int .i64 id,.int .i64 g] w fun e w'=>SaysI e∧GrTo w w' b r:=by
 have HA:=hid (gat_any h id);have H0:=hid h;clear h;go_enter Tryz.func147,Tryz.ntmps147;go_wp2_with fail;refine HA.out.mono ?_;rintro e w1 ⟨hto,ho⟩;have H1:=hid (H0.out.quiet ho);have HO:=hid (ho.sub (show [] ⊆ [r] by simp));rcases hto with ⟨er,hne,rfl⟩ | ⟨k,hk,rfl⟩
 ·have d1:(er == 0)=false:=beq_eq_false_iff_ne.2 hne;have d2:(er != 0)=true:=by rw [bne,d1]; rfl
  clear ho;go_wp2_with fail;go_ret;exact ⟨⟨_,rfl⟩,HO.out,_,H1.out⟩
 ·obtain ⟨y,hy⟩:∃ g,gs[k]?=some g:=⟨_,List.getElem?_eq_getElem (by have:=H1.out.len; omega)⟩;obtain ⟨y0,y1,y2,y3,y4⟩:=H1.out.cell hy;have hok:=H1.out.ok y (List.mem_of_getElem? hy);obtain ⟨o,p,t,w0,u⟩:=y;obtain ⟨u0,u1⟩:=hok;dsimp only at y0 y1 y2 y3 y4 u0 u1;have f4:=H1.out.row.frozen (k * 5+4);have HS:=hid (fun hu:(u == 0)=false=>setU H1.out hk (u - 1) (by have:=beq_eq_false_iff_ne.1 hu; omega) (by omega));clear ho hy;go_wp2_with fail
  all_goals
   go_ret
   first
    | exact ⟨⟨_,rfl⟩,HO.out,_,H1.out⟩
    | exact ⟨⟨_,rfl⟩,HO.out.trans (HS.out ‹_›).2,(HS.out ‹_›).1⟩
theorem grevoke_any (h:IsGr w b r gs) (id g:Int):Calls Tryz.prog 149 #[ptr b,.int .i64 id,.int .i64 g] w fun e w'=>SaysI e∧GrTo w w' b r:=by
 have HA:=hid (gat_any h id);have H0:=hid h;clear h;go_enter Tryz.func149,Tryz.ntmps149;go_wp2_with fail;refine HA.out.mono ?_;rintro e w1 ⟨hto,ho⟩;have H1:=hid (H0.out.quiet ho);have HO:=hid (ho.sub (show [] ⊆ [r] by simp));rcases hto with ⟨er,hne,rfl⟩ | ⟨k,hk,rfl⟩
 ·have d1:(er == 0)=false:=beq_eq_false_iff_ne.2 hne;have d2:(er != 0)=true:=by rw [bne,d1]; rfl
  clear ho;go_wp2_with fail;go_ret;exact ⟨⟨_,rfl⟩,HO.out,_,H1.out⟩
 ·obtain ⟨y,hy⟩:∃ g,gs[k]?=some g:=⟨_,List.getElem?_eq_getElem (by have:=H1.out.len; omega)⟩;obtain ⟨y0,y1,y2,y3,y4⟩:=H1.out.cell hy;have hok:=H1.out.ok y (List.mem_of_getElem? hy);obtain ⟨o,p,t,w0,u⟩:=y;obtain ⟨u0,u1⟩:=hok;dsimp only at y0 y1 y2 y3 y4 u0 u1;have f0:=H1.out.row.frozen (k * 5);have f1:=H1.out.row.frozen (k * 5+1);have f2:=H1.out.row.frozen (k * 5+2);have f3:=H1.out.row.frozen (k * 5+3);have f4:=H1.out.row.frozen (k * 5+4);have HS:=hid (setG H1.out hk ⟨0,0,0,false,0⟩ ⟨by decide,by decide⟩);clear ho hy;go_wp2_with fail
  all_goals
   go_ret
   first
    | exact ⟨⟨_,rfl⟩,HO.out,_,H1.out⟩
    | exact ⟨⟨_,rfl⟩,HO.out.trans HS.out.2,_,HS.out.1⟩
end
end Go.Proofs.YtadgpnoealegiaaGreat
