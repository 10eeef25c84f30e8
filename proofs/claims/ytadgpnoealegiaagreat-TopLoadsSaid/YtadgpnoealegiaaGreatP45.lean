import Derived.Test.YtadgpnoealegiaaGreatP44
namespace Go.Proofs.YtadgpnoealegiaaGreat
open Go.RowKit
open Go.Lib (hid)
set_option maxRecDepth 100000
set_option maxHeartbeats 20000000
section
variable {w w':World} {p:MuP} {sz:Nat} {x:X}
theorem IsMu.cpuNew {T:List Nat} (h:IsMu w p sz x) {i:Nat} (hi:i < x.cp.length) (o:Only T w w') (hT:T ⊆ (p.q i).fp) {q:CpP} {u':Cpu} (hq:IsCpu w' q i sz u') (hcb:q.cb=(p.q i).cb) (htb:q.tb=(p.q i).tb) (hf:∀ y ∈ q.fp,y ∈ (p.q i).fp∨(w.heap.size≤y∧y < w'.heap.size)) :
 IsMu w' (p.setQ i q) sz { x with cp:=x.cp.set i u' }∧MuTo w w' p (p.setQ i q) x.cp.length:=by
 have hqe:∀ j,(p.setQ i q).q j=if j=i then q else p.q j:=fun j=>rfl;refine ⟨h.turn hi o hT hq hcb hf,MuTo.one o (i+4) (by rw [foot_cpu hi]; exact hT) (fun j hj=>?_) (fun y hy=>?_) rfl rfl rfl rfl rfl rfl (fun j=>?_) fun j=>?_⟩
 ·match j with
  | 0=>rfl
  | 1=>rfl
  | 2=>rfl
  | 3=>rfl
  | j+4=>
   show (if j < x.cp.length then ((p.setQ i q).q j).fp else [])=if j < x.cp.length then (p.q j).fp else [];have e:(p.setQ i q).q j=p.q j:=by rw [hqe,if_neg (show ¬ j=i by omega)]
   rw [e]
 ·rw [foot_cpu hi] at hy ⊢;rw [hqe,if_pos rfl] at hy;exact (hf y hy).imp id And.left
 ·rw [hqe];split
  ·rename_i e;rw [e,hcb]
  ·rfl
 ·rw [hqe];split
  ·rename_i e;rw [e,htb]
  ·rfl
def OpTo (t:Nat) (w:World) (p:MuP) (sz:Nat) (x:X) (i:Nat) (e:Ending) (w':World):Prop:=
 ∃ p' x',e=.returned (.tuple #[])∧IsMu w' p' sz x'∧MuTo w w' p p' x.cp.length∧x'.cp.length=x.cp.length∧x'.mks=x.mks∧MStep t i x x' 0 0 false
theorem mopen_any {t:Nat} (h:IsMu w p sz x) {i:Nat} {u:Cpu} (hu:x.cp[i]?=some u) (hp:u.ph=1) (hq:x.bx.bs[i]?=some []) (ha:accN x.S u=true) (hc:u.c.fits) (hel:x.ep.pins.length=x.cp.length) (hroot:∀ v G,x.S.g v=some G→0≤G.root∧G.root < 4096):Calls Tryz.prog 37 #[ptr p.b,ptr (p.q i).cb] w (OpTo t w p sz x i):=by
 have hi:=(List.getElem?_eq_some_iff.1 hu).1;obtain ⟨hk,v1,v2,⟨G,hG⟩,ha2⟩:=accN_spec ha;have ha0:=hc.1;obtain ⟨v,hv⟩:=Int.eq_ofNat_of_zero_le (show 0≤u.vm by omega);rw [hv,Int.toNat_natCast] at hG;have hpg:=page_of ha0 ha2;have hwt:0≤u.want∧u.want≤7:=by
  unfold Cpu.want;split
  ·omega
  ·split <;> omega
 obtain ⟨pg,epg⟩:∃ pg,u.page=pg:=⟨_,rfl⟩;obtain ⟨wt,ewt⟩:∃ wt,u.want=wt:=⟨_,rfl⟩;have HPGE:=hid (And.intro epg ewt);rw [epg] at hpg;rw [ewt] at hwt;have HU:=hid (And.intro hu (And.intro hp (And.intro hq ha)));have HV:=hid hv;have HG:=hid hG;have HRT:=hid (hroot v G hG);have HCR:=hid (show 0≤u.c.a∧u.c.a < 18446744073709551616 by omega);have H0:=hid h;have HPIN:=hid (fun wx (hx:Only [] w wx)=>epin_any (h.quiet hx).ep i (by rw [hel]; exact hi));have HFA:=hid (show ∀ wx,Only [] w wx→wx.cell? ⟨p.b,1,none⟩=some (ptr p.eb)∧wx.cell? ⟨(p.q i).cb,0,none⟩=some (.int .i64 i) from fun wx hx=>by
  have hm:=h.quiet hx;exact ⟨hm.obj.at 1 rfl,(hm.cpu i u hu).obj.at 0 rfl⟩)
 clear h hu hp hq ha hc hel hroot hk v1 v2 hG ha2 ha0 hv epg ewt;go_enter Tryz.func37,Tryz.ntmps37;go_wp2_with fail;refine wp_region_quiet_tail 8 (by kernel_rfl) (by kernel_rfl) (fun w'=>Only [] w w') ((Only.refl _ _).drew) ?_;simp only [List.take_succ_cons,List.take_zero,List.drop_succ_cons,List.drop_zero]
 repeat
  (refine qstep rfl ?_
   apply Exists.intro;refine ⟨fun w' hw'=>?_,?_⟩
   ·obtain ⟨p0,p1⟩:=HFA.out w' hw';go_simp
    first
     | with_reducible rfl
     | exact quiet_val
   go_simp)
 refine wpQuiet_nil ?_;intro wf hwf;have HP2:=hid (HPIN.out wf hwf);have H2:=hid (H0.out.quiet hwf);have HQ2:=hid hwf;clear hwf HPIN HFA;go_wp2_with fail;refine HP2.out.mono ?_;rintro e w3 ⟨⟨er,rfl⟩,ho,he⟩;obtain ⟨h3,k3⟩:=H2.out.epTo ho (by intro y hy; exact .tail _ (.tail _ hy)) he;have H3:=hid h3;have K3:=hid ((MuTo.quiet H0.out HQ2.out rfl).trans k3);clear h3 k3 ho he HP2 HQ2 H2;have HSF:=hid (show ∀ wx,Only [] w3 wx→wx.cell? ⟨(p.q i).cb,1,none⟩=some (ptr (p.q i).tb)∧wx.cell? ⟨(p.q i).cb,3,none⟩=some (.int .i64 (v:Int))∧wx.cell? ⟨p.b,0,none⟩=some (ptr p.a.hb) from fun wx hx=>by
  have hm:=H3.out.quiet hx;have hc:=(hm.cpu i u HU.out.1).obj;rw [HV.out] at hc;exact ⟨hc.at 1 rfl,hc.at 3 rfl,hm.obj.at 0 rfl⟩)
 have HPG:=hid (show ∀ wx,Only [] w3 wx→Calls Tryz.prog 48 #[ptr (p.q i).cb] wx fun e w'=>e=.returned (.int .i64 pg)∧wx=w' from fun wx hx=>by
  have:=cpage_any ((H3.out.quiet hx).cpu i u HU.out.1) HCR.out.1 HCR.out.2;rw [HPGE.out.1] at this;exact this)
 have HWT:=hid (show ∀ wx,Only [] w3 wx→Calls Tryz.prog 58 #[ptr (p.q i).cb] wx fun e w'=>e=.returned (.int .i64 wt)∧Only [] wx w' from fun wx hx=>by
  have:=cwant_any ((H3.out.quiet hx).cpu i u HU.out.1);rw [HPGE.out.2] at this;exact this)
 have HLK:=hid (fun wx (hx:Only [] w3 wx)=>look_any ((H3.out.quiet hx).cpu i u HU.out.1).tlb (v:Int) pg wt);obtain ⟨y1,y3,y0⟩:=HSF.out w3 (Only.refl _ _);go_upto_region 1 with fail;go_cut [4,5] (fun a b wc=>∃ f er:Int,a=.int .i64 f∧b=.int .i64 er∧(er=0→∃ y ∈ u.ls,y.of v pg=true∧y.f=f)∧Only [] w3 wc)
 case first=>
  refine pBegin rfl ?_;obtain ⟨S,hS⟩:∃ S:World→Prop,S=fun w'=>w'.cell? ⟨(p.q i).cb,1,none⟩=some (ptr (p.q i).tb)∧w'.cell? ⟨(p.q i).cb,3,none⟩=some (.int .i64 (v:Int))∧w'.cell? ⟨p.b,0,none⟩=some (ptr p.a.hb):=⟨_,rfl⟩;have HS:=hid hS;clear hS;refine pPhaseH S 99 (by rw [HS.out]; exact ⟨y1,y3,y0⟩) fun HSW=>?_;refine pPure (i:=0) rfl (by kernel_rfl) rfl HSW.out ?_;apply Exists.intro;refine ⟨fun w'=>?_,?_⟩
  ·go_simp;with_reducible rfl
  go_simp;refine pPure (i:=1) rfl (by kernel_rfl) rfl HSW.out ?_;apply Exists.intro;refine ⟨fun w'=>?_,?_⟩
  ·go_simp;with_reducible rfl
  go_simp;refine pPure (i:=2) rfl (by kernel_rfl) rfl HSW.out ?_;apply Exists.intro;refine ⟨fun w'=>?_,?_⟩
  ·go_simp;with_reducible rfl
  go_simp;refine pTake (i:=3) rfl (by kernel_rfl) rfl HSW.out ?_;apply Exists.intro;refine ⟨fun w' hw'=>?_,?_⟩
  ·rw [HS.out] at hw';obtain ⟨p0,p1,p2⟩:=hw';go_simp;with_reducible rfl
  go_simp;refine pPure (i:=4) rfl (by kernel_rfl) rfl HSW.out ?_;apply Exists.intro;refine ⟨fun w'=>?_,?_⟩
  ·go_simp;with_reducible rfl
  go_simp;refine pPure (i:=5) rfl (by kernel_rfl) rfl HSW.out ?_;apply Exists.intro;refine ⟨fun w'=>?_,?_⟩
  ·go_simp;with_reducible rfl
  go_simp;refine pPure (i:=6) rfl (by kernel_rfl) rfl HSW.out ?_;apply Exists.intro;refine ⟨fun w'=>?_,?_⟩
  ·go_simp;with_reducible rfl
  go_simp;refine pTake (i:=7) rfl (by kernel_rfl) rfl HSW.out ?_;apply Exists.intro;refine ⟨fun w' hw'=>?_,?_⟩
  ·rw [HS.out] at hw';obtain ⟨p0,p1,p2⟩:=hw';go_simp;with_reducible rfl
  go_simp;refine pPure (i:=8) rfl (by kernel_rfl) rfl HSW.out ?_;apply Exists.intro;refine ⟨fun w'=>?_,?_⟩
  ·go_simp;with_reducible rfl
  go_simp;refine pPure (i:=10) rfl (by kernel_rfl) rfl HSW.out ?_;apply Exists.intro;refine ⟨fun w'=>?_,?_⟩
  ·go_simp;with_reducible rfl
  go_simp;have HQD:=hid ((Only.refl [] w3).drew);refine pStep (i:=9) rfl (by kernel_rfl) (by kernel_rfl) rfl fun K hK=>?_;go_simp;go_at_call 48;refine (HPG.out _ HQD.out).mono ?_;rintro e w4 ⟨rfl,rfl⟩;refine hK _ _ HSW.out ?_;clear hK K;refine pStep (i:=11) rfl (by kernel_rfl) (by kernel_rfl) rfl fun K hK=>?_;go_simp;go_at_call 58;refine (HWT.out _ HQD.out).mono ?_;rintro e w4 ⟨rfl,ho⟩;have HQ4:=hid (HQD.out.trans ho);have HSW4:=hid (show S w4 by rw [HS.out]; exact HSF.out _ HQ4.out);refine hK _ _ HSW4.out ?_;clear hK K ho;refine pStep (i:=12) rfl (by kernel_rfl) (by kernel_rfl) rfl fun K hK=>?_;go_simp;go_at_call 62;refine (HLK.out _ HQ4.out).mono ?_;rintro e w5 ⟨⟨f,er,rfl,hf⟩,ho⟩;have HQ5:=hid (HQ4.out.trans ho);have HSW5:=hid (show S w5 by rw [HS.out]; exact HSF.out _ HQ5.out);refine hK _ _ HSW5.out ?_;have HF:=hid hf;clear hK K ho hf;refine pPure (i:=13) rfl (by kernel_rfl) rfl HSW5.out ?_;apply Exists.intro;refine ⟨fun w'=>?_,?_⟩
  ·go_simp;with_reducible rfl
  go_simp;refine pPure (i:=14) rfl (by kernel_rfl) rfl HSW5.out ?_;apply Exists.intro;refine ⟨fun w'=>?_,?_⟩
  ·go_simp;with_reducible rfl
  go_simp;refine pPure (i:=15) rfl (by kernel_rfl) rfl HSW5.out ?_;apply Exists.intro;refine ⟨fun w'=>?_,?_⟩
  ·go_simp;with_reducible rfl
  go_simp;refine pPure (i:=16) rfl (by kernel_rfl) rfl HSW5.out ?_;apply Exists.intro;refine ⟨fun w'=>?_,?_⟩
  ·go_simp;with_reducible rfl
  go_simp;refine pPure (i:=17) rfl (by kernel_rfl) rfl HSW5.out ?_;apply Exists.intro;refine ⟨fun w'=>?_,?_⟩
  ·go_simp;with_reducible rfl
  go_simp;refine pEnd (by kernel_rfl) ?_;go_wp2_with fail;go_meet;exact ⟨f,er,rfl,rfl,HF.out,HQ5.out⟩
 case rest=>
  obtain ⟨f,er,rfl,rfl,hf,hq⟩:=hcut;have h4:=H3.out.quiet hq;have HF:=hid hf;have HQ4:=hid hq;have H4:=hid h4;have hcp:=(h4.cpu i u HU.out.1).obj;have HCP:=hid hcp;have f2:=hcp.frozen 2;have c2:=hcp.at 2 (v:=.int .i64 u.ph) rfl;clear y1 y3 y0 hf hq h4;by_cases h0:er=0
  ·subst h0;have f9:=hcp.frozen 9;have c9:=hcp.at 9 (v:=.int .i64 u.fr) rfl;have HEND:=hid (show IsMu ((wc.setCell ⟨(p.q i).cb,2,none⟩ (.int .i64 3)).setCell ⟨(p.q i).cb,9,none⟩ (.int .i64 f)) p sz { x with ep:=x.ep.set i x.ep.now,cp:=x.cp.set i { u with ph:=3,fr:=f } }∧MuTo wc ((wc.setCell ⟨(p.q i).cb,2,none⟩ (.int .i64 3)).setCell ⟨(p.q i).cb,9,none⟩ (.int .i64 f)) p p x.cp.length from by
    have o:Only [(p.q i).cb] wc ((wc.setCell ⟨(p.q i).cb,2,none⟩ (.int .i64 3)).setCell ⟨(p.q i).cb,9,none⟩ (.int .i64 f)):=((Only.refl [(p.q i).cb] wc).setCell (p:=⟨(p.q i).cb,2,none⟩) (.inl (.head _)) _).setCell (p:=⟨(p.q i).cb,9,none⟩) (.inl (.head _)) _;have hb:=(HCP.out.set 2 (.int .i64 3)).set 9 (.int .i64 f);exact H4.out.cpuTo (u':={ u with ph:=3,fr:=f }) HU.out.1 o rfl rfl rfl (fun h=>absurd h (show ¬ (3:Int)=2 by decide)) ⟨(H4.out.cpu i u HU.out.1).vr.1,by show (0:Int)≤3; decide,by show (3:Int)≤4; decide⟩ (by simpa using hb))
   clear hcp;go_wp2_with fail;go_end0;obtain ⟨y,hy,hyo,hyf⟩:=HF.out trivial;refine ⟨p,_,rfl,HEND.out.1,(K3.out.trans (MuTo.quiet H3.out HQ4.out rfl)).trans HEND.out.2,by simp,rfl,.look HU.out.1 HU.out.2.1 HU.out.2.2.1 HU.out.2.2.2 hy ?_ hyf⟩;rw [HV.out,HPGE.out.1];exact hyo
  ·have de:(er == 0)=false:=by simpa using h0
   have f8:=hcp.frozen 8;have c8:=hcp.at 8 (v:=(p.q i).wpv) rfl;have HRO:=hid (fun wx (hx:Only [] wc wx)=>hroot_any (H4.out.quiet hx).hv HG.out);obtain ⟨z1,z3,z0⟩:=HSF.out wc HQ4.out;clear hcp;go_wp2_with fail;refine pBegin rfl ?_;obtain ⟨S,hS⟩:∃ S:World→Prop,S=fun w'=>w'.cell? ⟨(p.q i).cb,1,none⟩=some (ptr (p.q i).tb)∧w'.cell? ⟨(p.q i).cb,3,none⟩=some (.int .i64 (v:Int))∧w'.cell? ⟨p.b,0,none⟩=some (ptr p.a.hb):=⟨_,rfl⟩;have HS:=hid hS;clear hS;refine pPhaseH S 99 (by rw [HS.out]; exact ⟨z1,z3,z0⟩) fun HSW=>?_;refine pPure (i:=0) rfl (by kernel_rfl) rfl HSW.out ?_;apply Exists.intro;refine ⟨fun w'=>?_,?_⟩
   ·go_simp;with_reducible rfl
   go_simp;refine pPure (i:=1) rfl (by kernel_rfl) rfl HSW.out ?_;apply Exists.intro;refine ⟨fun w'=>?_,?_⟩
   ·go_simp;with_reducible rfl
   go_simp;refine pPure (i:=2) rfl (by kernel_rfl) rfl HSW.out ?_;apply Exists.intro;refine ⟨fun w'=>?_,?_⟩
   ·go_simp;with_reducible rfl
   go_simp;refine pPure (i:=3) rfl (by kernel_rfl) rfl HSW.out ?_;apply Exists.intro;refine ⟨fun w'=>?_,?_⟩
   ·go_simp;with_reducible rfl
   go_simp;refine pPure (i:=4) rfl (by kernel_rfl) rfl HSW.out ?_;apply Exists.intro;refine ⟨fun w'=>?_,?_⟩
   ·go_simp;with_reducible rfl
   go_simp;refine pTake (i:=5) rfl (by kernel_rfl) rfl HSW.out ?_;apply Exists.intro;refine ⟨fun w' hw'=>?_,?_⟩
   ·rw [HS.out] at hw';obtain ⟨p0,p1,p2⟩:=hw';go_simp;with_reducible rfl
   go_simp;refine pPure (i:=6) rfl (by kernel_rfl) rfl HSW.out ?_;apply Exists.intro;refine ⟨fun w'=>?_,?_⟩
   ·go_simp;with_reducible rfl
   go_simp;refine pPure (i:=7) rfl (by kernel_rfl) rfl HSW.out ?_;apply Exists.intro;refine ⟨fun w'=>?_,?_⟩
   ·go_simp;with_reducible rfl
   go_simp;refine pPure (i:=8) rfl (by kernel_rfl) rfl HSW.out ?_;apply Exists.intro;refine ⟨fun w'=>?_,?_⟩
   ·go_simp;with_reducible rfl
   go_simp;refine pTake (i:=9) rfl (by kernel_rfl) rfl HSW.out ?_;apply Exists.intro;refine ⟨fun w' hw'=>?_,?_⟩
   ·rw [HS.out] at hw';obtain ⟨p0,p1,p2⟩:=hw';go_simp;with_reducible rfl
   go_simp;refine pPure (i:=11) rfl (by kernel_rfl) rfl HSW.out ?_;apply Exists.intro;refine ⟨fun w'=>?_,?_⟩
   ·go_simp;with_reducible rfl
   go_simp;refine pPure (i:=13) rfl (by kernel_rfl) rfl HSW.out ?_;apply Exists.intro;refine ⟨fun w'=>?_,?_⟩
   ·go_simp;with_reducible rfl
   go_simp;have HQD:=hid ((Only.refl [] wc).drew);refine pStep (i:=10) rfl (by kernel_rfl) (by kernel_rfl) rfl fun K hK=>?_;go_simp;go_at_call 64;refine (HRO.out _ HQD.out).mono ?_;rintro e w4 ⟨rfl,rfl⟩;refine hK _ _ HSW.out ?_;clear hK K;refine pStep (i:=12) rfl (by kernel_rfl) (by kernel_rfl) rfl fun K hK=>?_;go_simp;go_at_call 48;refine (HPG.out _ (HQ4.out.trans HQD.out)).mono ?_;rintro e w4 ⟨rfl,rfl⟩;refine hK _ _ HSW.out ?_;clear hK K;refine pStep (i:=14) rfl (by kernel_rfl) (by kernel_rfl) rfl fun K hK=>?_;go_simp;go_at_call 58;refine (HWT.out _ (HQ4.out.trans HQD.out)).mono ?_;rintro e w4 ⟨rfl,ho⟩;have HQ5:=hid (HQD.out.trans ho);have HSW4:=hid (show S w4 by rw [HS.out]; exact HSF.out _ (HQ4.out.trans HQ5.out));refine hK _ _ HSW4.out ?_;clear hK K ho;refine pStep (i:=15) rfl (by kernel_rfl) (by kernel_rfl) rfl fun K hK=>?_;go_simp;go_at_call 63;refine (wnew_any w4 G.root pg wt hpg.1 hpg.2 HRT.out.1 HRT.out.2 hwt.1 hwt.2).mono ?_;rintro e w5 ⟨rfl,ho,hwk⟩;have HQ6:=hid (HQ5.out.trans ho);have HWK:=hid hwk;have HSW5:=hid (show S w5 by rw [HS.out]; exact HSF.out _ (HQ4.out.trans HQ6.out));have hl4:wc.heap.size≤w4.heap.size:=HQ5.out.size;have hcp:=HCP.out.only HQ6.out (by simp);have HCP5:=hid hcp;have c2:=hcp.at 2 (v:=.int .i64 u.ph) rfl;have f2:=hcp.frozen 2;have c8:=hcp.at 8 (v:=(p.q i).wpv) rfl;have f8:=hcp.frozen 8;refine hK _ _ HSW5.out ?_;clear hK K ho hwk hcp;refine pPure (i:=16) rfl (by kernel_rfl) rfl HSW5.out ?_;apply Exists.intro;refine ⟨fun w'=>?_,?_⟩
   ·go_simp;with_reducible rfl
   go_simp;refine pPure (i:=17) rfl (by kernel_rfl) rfl HSW5.out ?_;apply Exists.intro;refine ⟨fun w'=>?_,?_⟩
   ·go_simp;with_reducible rfl
   go_simp;refine pStep (i:=18) rfl (by kernel_rfl) (by kernel_rfl) rfl fun K hK=>?_;go_simp;have q1:Only [(p.q i).cb] w5 (w5.setCell ⟨(p.q i).cb,2,none⟩ (.int .i64 2)):=(Only.refl [(p.q i).cb] w5).setCell (p:=⟨(p.q i).cb,2,none⟩) (by simp) _;obtain ⟨e1,e3,e0⟩:=HSF.out _ (HQ4.out.trans HQ6.out);have HNB:=hid (show p.b≠(p.q i).cb from fun e=>by
    have:=(H4.out.obj.inj (e ▸ HCP.out)).1;exact absurd this (by decide))
   have HSW6:=hid (show S (w5.setCell ⟨(p.q i).cb,2,none⟩ (.int .i64 2)) by
    have hn:=HNB.out;have hn2:=HNB.out.symm;rw [HS.out];exact ⟨by go_simp,by go_simp,by go_simp⟩)
   refine hK _ _ HSW6.out ?_;clear hK K;refine pPure (i:=19) rfl (by kernel_rfl) rfl HSW6.out ?_;apply Exists.intro;refine ⟨fun w'=>?_,?_⟩
   ·go_simp;with_reducible rfl
   go_simp;refine pPure (i:=20) rfl (by kernel_rfl) rfl HSW6.out ?_;apply Exists.intro;refine ⟨fun w'=>?_,?_⟩
   ·go_simp;with_reducible rfl
   go_simp;refine pStep (i:=21) rfl (by kernel_rfl) (by kernel_rfl) rfl fun K hK=>?_;go_simp;have HSW7:=hid (show S ((w5.setCell ⟨(p.q i).cb,2,none⟩ (.int .i64 2)).setCell ⟨(p.q i).cb,8,none⟩ (ptr w4.heap.size)) by
    have hn:=HNB.out;have hn2:=HNB.out.symm;rw [HS.out];exact ⟨by go_simp,by go_simp,by go_simp⟩)
   refine hK _ _ HSW7.out ?_;clear hK K e1 e3 e0 q1;refine pEnd (by kernel_rfl) ?_;have HEND:=hid (show IsMu ((w5.setCell ⟨(p.q i).cb,2,none⟩ (.int .i64 2)).setCell ⟨(p.q i).cb,8,none⟩ (ptr w4.heap.size)) (p.setQ i { p.q i with wp:=some w4.heap.size,wv:=.slice none 0 0 }) sz { x with ep:=x.ep.set i x.ep.now,cp:=x.cp.set i { u with ph:=2,wk:=Wk.new G.root pg wt } }∧MuTo wc ((w5.setCell ⟨(p.q i).cb,2,none⟩ (.int .i64 2)).setCell ⟨(p.q i).cb,8,none⟩ (ptr w4.heap.size)) p (p.setQ i { p.q i with wp:=some w4.heap.size,wv:=.slice none 0 0 }) x.cp.length from by
    have o:Only [(p.q i).cb] wc ((w5.setCell ⟨(p.q i).cb,2,none⟩ (.int .i64 2)).setCell ⟨(p.q i).cb,8,none⟩ (ptr w4.heap.size)):=((HQ6.out.sub (show [] ⊆ [(p.q i).cb] by simp)).setCell (p:=⟨(p.q i).cb,2,none⟩) (.inl (.head _)) _).setCell (p:=⟨(p.q i).cb,8,none⟩) (.inl (.head _)) _;have o2:Only [(p.q i).cb] w5 ((w5.setCell ⟨(p.q i).cb,2,none⟩ (.int .i64 2)).setCell ⟨(p.q i).cb,8,none⟩ (ptr w4.heap.size)):=((Only.refl [(p.q i).cb] w5).setCell (p:=⟨(p.q i).cb,2,none⟩) (.inl (.head _)) _).setCell (p:=⟨(p.q i).cb,8,none⟩) (.inl (.head _)) _;have hq:=H4.out.cpu i u HU.out.1;have hb:=(HCP5.out.set 2 (.int .i64 2)).set 8 (ptr w4.heap.size);have hwk:=HWK.out.only o2 (by
     have:=HCP.out.lt;simp;omega)
    have ht1:(p.q i).cb≠(p.q i).tb:=fun e=>absurd (hq.obj.inj (e ▸ hq.tlb.obj)).1 (by decide);refine H4.out.cpuNew hi o (fun y hy=>by rw [List.mem_singleton.1 hy]; simp [CpP.fp]) ⟨by simpa [CpP.wpv] using hb,hq.tlb.only o (by simpa using ht1.symm) (fun y hy e=>?_),fun _=>⟨_,rfl,hwk,0,[],.nil _ _ _,by decide,fun _=>rfl⟩,hq.row.only o (fun y hy e=>?_),fun y hy=>(by cases hy),⟨hq.vr.1,by show (0:Int)≤2; decide,by show (2:Int)≤4; decide⟩⟩ rfl rfl fun y hy=>?_
    ·rw [List.mem_singleton.1 hy] at e;exact hq.tlb.row.ne hq.obj (by decide) e
    ·rw [List.mem_singleton.1 hy] at e;exact hq.row.ne hq.obj (by decide) e
    ·have hy2:y ∈ (p.q i).fp∨y=w4.heap.size:=by
      simp [CpP.fp] at hy ⊢;rcases hy with h | h | h | h | h
      ·exact .inl (.inl h)
      ·exact .inl (.inr (.inl h))
      ·exact .inl (.inr (.inr (.inl h)))
      ·exact .inr h
      ·exact .inl (.inr (.inr (.inr (.inr (.inr (h.resolve_left nofun))))))
     rcases hy2 with h | h
     ·exact .inl h
     ·have:=hwk.lt;exact .inr ⟨by omega,by rw [h]; exact this⟩)
   clear HSW HSW4 HSW5 HSW6 HSW7;go_wp2_with fail;go_end0;refine ⟨_,_,rfl,HEND.out.1,(K3.out.trans (MuTo.quiet H3.out HQ4.out rfl)).trans HEND.out.2,by simp,rfl,?_⟩;have hs:=MStep.open' (t:=t) (G:=G) HU.out.1 HU.out.2.1 HU.out.2.2.1 HU.out.2.2.2 (by rw [HV.out,Int.toNat_natCast]; exact HG.out);rw [HPGE.out.1,HPGE.out.2] at hs;exact hs
end
section
variable {w w':World} {p:MuP} {sz:Nat} {x:X}
theorem retire_next {x:X} {fs:List Int} {j:Nat} {f:Int} (hf:fs[j]?=some f):{ x with ep:=((fs.take j).foldl Ep.retire x.ep).retire f }={ x with ep:=(fs.take (j+1)).foldl Ep.retire x.ep }:=by
 have e:fs.take (j+1)=fs.take j ++ [f]:=by
  rw [List.take_add_one,hf];rfl
 rw [e,List.foldl_append];rfl
theorem mwait_any {t:Nat} (h:IsMu w p sz x) {i:Nat} {u:Cpu} (hu:x.cp[i]?=some u) (hp:u.ph=4) (hq:x.bx.bs[i]?=some []) (ha:1≤u.ask∧u.ask≤x.bx.op.length) (hfs:∀ f ∈ u.fs,0≤f∧f < 4096):Calls Tryz.prog 30 #[ptr p.b,ptr (p.q i).cb] w (PhTo t w p sz x i):=by
 obtain ⟨W0,hW0⟩:∃ W0,w.alloc (.cells #[.int .u64 0,.int .i64 0] 38)=W0:=⟨_,rfl⟩;have hF:=PhF.start h;rw [hW0] at hF;have HF0:=hid hF;have HW0:=hid hW0;have HU:=hid (And.intro hu (And.intro hp hq));obtain ⟨ask,hak⟩:∃ ask,u.ask=ask:=⟨_,rfl⟩;have HAK:=hid hak;have HFA:=hid (show ∀ wx,Only [] W0 wx→wx.cell? ⟨p.b,2,none⟩=some (ptr p.xb)∧wx.cell? ⟨(p.q i).cb,12,none⟩=some (.int .i64 ask) from fun wx hx=>by
  have hm:=(hF.quiet hx).m;have hq:=(hm.cpu i u hu).obj;rw [hak] at hq;exact ⟨hm.obj.at 2 rfl,hq.at 12 rfl⟩)
 have HDN:=hid (fun wx (hx:Only [] W0 wx)=>bdone_any (hF.quiet hx).m.bx ask);obtain ⟨d,hd⟩:∃ d,decide (1≤ask∧ask≤x.bx.op.length∧x.bx.op.getD (ask.toNat - 1) 1=0)=d:=⟨_,rfl⟩;rw [hd] at HDN;have HD:=hid hd;have HA:=hid ha;have HFS:=hid hfs;clear h hF hW0 hu hp hq ha hfs hak hd;go_enter Tryz.func30,Tryz.ntmps30;go_upto_region 1 with fail;rw [HW0.out];refine wp_region_quiet_tail 8 (by kernel_rfl) (by kernel_rfl) (fun w'=>Only [] W0 w') ((Only.refl _ _).drew) ?_;simp only [List.take_succ_cons,List.take_zero,List.drop_succ_cons,List.drop_zero]
 repeat
  (refine qstep rfl ?_
   apply Exists.intro;refine ⟨fun w' hw'=>?_,?_⟩
   ·obtain ⟨p0,p1⟩:=HFA.out w' hw';go_simp
    first
     | with_reducible rfl
     | exact quiet_val
   go_simp)
 refine wpQuiet_nil ?_;intro wf hwf;have HF1:=hid (HF0.out.quiet hwf);have HD1:=hid (HDN.out wf hwf);clear hwf HDN HFA HF0 HW0;go_wp2_with fail;refine HD1.out.mono ?_;rintro e w2 ⟨rfl,rfl⟩;cases d with
 | false=>
  have hr:=HF1.out.res;have r0:=hr.at 0 (v:=.int .u64 0) rfl;have r1:=hr.at 1 (v:=.int .i64 0) rfl;have g0:=hr.frozen 0;have g1:=hr.frozen 1;go_wp2_with fail;obtain ⟨z1,z2,z3⟩:=HF1.out.out (.int .u64 (0)) (.int .i64 (0));have q0:=z3.at 0 (v:=.int .u64 (0)) rfl;have q1:=z3.at 1 (v:=.int .i64 (0)) rfl;refine bodyPost_ret (v:=.tuple #[.agg #[.int .u64 (0),.int .i64 (0)],.bool false]) (by simp [results,Tryz.results30,go_sem,q0,q1]) rfl ?_;refine ⟨0,0,false,_,_,rfl,z1,z2,rfl,by omega,.inl ⟨rfl,.wait HU.out.1 HU.out.2.1 HU.out.2.2 fun h=>?_⟩⟩;rw [HAK.out] at h;have h2:=of_decide_eq_false HD.out;have h3:=HA.out;rw [HAK.out] at h3;exact h2 ⟨h3.1,h3.2,h⟩
 | true=>
  obtain ⟨n,hn⟩:∃ n,u.fs.length=n:=⟨_,rfl⟩;obtain ⟨A,cap,hv⟩:=(HF1.out.m.cpu i u HU.out.1).row.form;rw [hn] at hv;have HN:=hid hn;have HV:=hid hv;have c13:=(HF1.out.m.cpu i u HU.out.1).obj.at 13 (v:=(p.q i).fv) rfl;rw [hv] at c13;clear hn hv;go_wp2_with fail;clear c13;go_loopg [24] n (fun k j wr=>k≤n∧j=.int .i64 ((n:Int) - k)∧PhF w p sz x.cp.length w.heap.size wr p { x with ep:=(u.fs.take (n - k)).foldl Ep.retire x.ep })
  case atStart=>
   refine ⟨Nat.le_refl _,by simp,?_⟩;rw [Nat.sub_self,List.take_zero];exact HF1.out
  case round=>
   obtain ⟨hk,rfl,hph⟩:=hrel;have HPH:=hid hph;clear hph;cases gk with
   | zero=>
    have hlt1:¬ ((n:Int) - ((0:Nat):Int) < n):=by omega
    have hcp:=(HPH.out.m.cpu i u HU.out.1).obj;have c10:=hcp.at 10 (v:=.int .u64 u.rv) rfl;have c11:=hcp.at 11 (v:=.int .i64 u.re) rfl;clear hcp;have hr:=HPH.out.res;have r0:=hr.at 0 (v:=.int .u64 0) rfl;have r1:=hr.at 1 (v:=.int .i64 0) rfl;have g0:=hr.frozen 0;have g1:=hr.frozen 1;go_wp2_with fail;obtain ⟨z1,z2,z3⟩:=HPH.out.out (.int .u64 (u.rv)) (.int .i64 (u.re));have q0:=z3.at 0 (v:=.int .u64 (u.rv)) rfl;have q1:=z3.at 1 (v:=.int .i64 (u.re)) rfl;refine bodyPost_ret (v:=.tuple #[.agg #[.int .u64 (u.rv),.int .i64 (u.re)],.bool true]) (by simp [results,Tryz.results30,go_sem,q0,q1]) rfl ?_;refine ⟨_,_,true,_,_,rfl,z1,z2,rfl,by simp,.inr ⟨rfl,u,HU.out.1,?_⟩⟩;have hs:=MStep.done (t:=t) HU.out.1 HU.out.2.1 HU.out.2.2 (by rw [HAK.out]; exact (of_decide_eq_true HD.out).2.2);have e:u.fs.take (n - 0)=u.fs:=by rw [Nat.sub_zero,← HN.out,List.take_length]
    rw [e];exact hs
   | succ k=>
    obtain ⟨j,hj⟩:∃ j,n - (k+1)=j:=⟨_,rfl⟩;have ej:(n:Int) - ((k+1:Nat):Int)=(j:Int):=by omega
    have hjn:j < n:=by omega
    rw [ej];rw [hj] at HPH;have hlt1:(j:Int) < n:=by omega
    have hj0:(0:Int)≤j:=by omega
    have hrow:=(HPH.out.m.cpu i u HU.out.1).row;rw [HV.out,HN.out] at hrow;obtain ⟨g,cap',cur,hv,hb,hcap,hcm,hcs,hcur⟩:=hrow.has (by omega);injection hv with hv1 _ hv2;have ew2:IntKind.i64.wrap ((j:Int)+1)=(j:Int)+1:=by
     unfold maxLen at hcm;rw [IntKind.wrap_i64];omega
    obtain ⟨f,hf⟩:∃ f,u.fs[j]?=some f:=⟨u.fs[j]'(by rw [HN.out]; exact hjn),by simp [HN.out,hjn]⟩;have cy:=hb.at j (v:=.int .i64 f) (hcur j _ (by simp [hf]));have hfr:=HFS.out f (List.mem_of_getElem? hf);have x1:=HPH.out.m.obj.at 1 (v:=ptr p.eb) rfl;have HRE:=hid (eretire_any HPH.out.m.ep f hfr.1 hfr.2);have HX:=hid hf;rw [hv1];have HV1:=hid hv1;clear hrow hb hcap hcm hcs hcur hf hfr ej hv1 hv2;go_wp2_with fail;refine HRE.out.mono ?_;rintro e w4 ⟨⟨er,rfl⟩,ho,he⟩;obtain ⟨h4,k4⟩:=HPH.out.m.epTo ho (by intro y hy; rw [List.mem_singleton.1 hy]; exact .tail _ (.head _)) he;have h5:=HPH.out.to h4 k4 rfl;rw [show ({ x with ep:=(List.foldl Ep.retire x.ep (List.take j u.fs)).retire f }:X)=_ from retire_next HX.out] at h5;have HF5:=hid h5;clear h4 k4 h5 ho he cy x1;go_wp2_with fail;rw [← HV1.out];go_roundg k
    case measure=>omega
    case rel=>
     have e2:n - k=j+1:=by omega
     refine ⟨by omega,by congr 1; omega,?_⟩;rw [e2];exact HF5.out
end
end Go.Proofs.YtadgpnoealegiaaGreat
