import Derived.Test.YtadgpnoealegiaaGreatP46
import Derived.LaidEqlPtr
namespace Go.Proofs.YtadgpnoealegiaaGreat
open Go.RowKit
open Go.Lib (hid)
set_option maxRecDepth 100000
set_option maxHeartbeats 20000000
section
attribute [local irreducible] wpQuiet
section
variable {w w':World} {p:MuP} {sz:Nat} {x:X}
theorem blkN_yes {cp:List Cpu} {i j:Nat} {u y:Cpu} (hv:u.vm=0) (hj:cp[j]?=some y) (hji:j≠i) (hb:blk1 u y=true):blkN cp i u=true:=by
 unfold blkN;rw [hv,Bool.and_eq_true];refine ⟨rfl,List.any_eq_true.2 ⟨j,List.mem_range.2 (List.getElem?_eq_some_iff.1 hj).1,?_⟩⟩;rw [hj];dsimp only;rw [hb];simpa using hji
theorem blkN_no {cp:List Cpu} {i:Nat} {u:Cpu} (h:∀ (j:Nat) (y:Cpu),j < cp.length→cp[j]?=some y→j≠i→u.vm=0→blk1 u y=false):blkN cp i u=false:=by
 unfold blkN;by_cases hv:u.vm=0
 ·rw [Bool.and_eq_false_iff];right;rw [List.any_eq_false];intro j hj;have hj:=List.mem_range.1 hj;obtain ⟨y,hy⟩:∃ y,cp[j]?=some y:=⟨cp[j],List.getElem?_eq_getElem hj⟩;rw [hy];dsimp only;by_cases hji:j=i
  ·simp [hji]
  ·rw [h j y hj hy hji hv];simp
 ·have:(u.vm == 0)=false:=by simpa using hv
  rw [this];rfl
theorem IsMu.cb_ne (h:IsMu w p sz x) {i j:Nat} (hi:i < x.cp.length) (hj:j < x.cp.length) (hij:i≠j):(p.q i).cb≠(p.q j).cb:=fun e=>by
 refine h.ft.dis (i+4) (j+4) (by omega) (p.q i).cb ?_ ?_
 ·rw [foot_cpu hi];simp [CpP.fp]
 ·rw [foot_cpu hj,e];simp [CpP.fp]
theorem Tryz.infoCpu : (Tryz.prog.info? 68).map (fun i=>i.size)=some 14:=by kernel_rfl
theorem info_cpu : ∃ j,Tryz.prog.info? 68=some j∧j.size≠0:=by
 have h:=Tryz.infoCpu;cases hj:Tryz.prog.info? 68 with
 | none=>rw [hj] at h; cases h
 | some j=>
  rw [hj] at h;have h:j.size=14:=by simpa using h
  exact ⟨j,rfl,by omega⟩
theorem cpu_same (W:World) (b:Nat):(binOp .eql 64 (ptr b) (ptr b)).run Tryz.prog W=.ok (.bool true) W:=by
 obtain ⟨j,hj,_⟩:=info_cpu;exact run_eql_ptr_same W _ Tryz.underlying64 hj
theorem cpu_other {W:World} {b c t t':Nat} {cs cs':Array Value} (h:Blk W b t cs) (h':Blk W c t' cs') (hne:b≠c):(binOp .eql 64 (ptr b) (ptr c)).run Tryz.prog W=.ok (.bool false) W:=by
 obtain ⟨j,hj,hs⟩:=info_cpu;exact run_eql_ptr_other W Tryz.underlying64 hj hs (fun e=>hne (by injection e)) h h'
theorem mblocked_any (h:IsMu w p sz x) {i:Nat} {u:Cpu} (hu:x.cp[i]?=some u):Calls Tryz.prog 38 #[ptr p.b,ptr (p.q i).cb] w fun e w'=>e=.returned (.bool (blkN x.cp i u))∧Only [] w w':=by
 have hi:=(List.getElem?_eq_some_iff.1 hu).1;obtain ⟨g,cap,cur,hcv,hgb,hgc⟩:=h.cpus;obtain ⟨n,hn⟩:∃ n,x.cp.length=n:=⟨_,rfl⟩;have hn8:=h.cn.2;rw [hn] at hcv hgc hn8 hi;obtain ⟨k,ek⟩:∃ k,u.c.k=k:=⟨_,rfl⟩;obtain ⟨a,ea⟩:∃ a,u.c.a=a:=⟨_,rfl⟩;obtain ⟨vm,ev⟩:∃ vm,u.vm=vm:=⟨_,rfl⟩;have x3:=h.obj.at 3 (v:=p.cpv) rfl;rw [hcv] at x3;have HFA:=hid (show ∀ wx,Only [] w wx→wx.cell? ⟨(p.q i).cb,3,none⟩=some (.int .i64 vm)∧wx.cell? ⟨(p.q i).cb,4,none⟩=some (.int .i64 k)∧wx.cell? ⟨(p.q i).cb,5,none⟩=some (.int .u64 a) from fun wx hx=>by
  have hc:=((h.quiet hx).cpu i u hu).obj;rw [ek,ea,ev] at hc;exact ⟨hc.at 3 rfl,hc.at 4 rfl,hc.at 5 rfl⟩)
 have HFB:=hid (show ∀ wx (j:Nat) (y:Cpu),Only [] w wx→x.cp[j]?=some y→wx.cell? ⟨(p.q j).cb,2,none⟩=some (.int .i64 y.ph)∧wx.cell? ⟨(p.q j).cb,3,none⟩=some (.int .i64 y.vm)∧wx.cell? ⟨(p.q j).cb,4,none⟩=some (.int .i64 y.c.k) from fun wx j y hx hy=>by
  have hc:=((h.quiet hx).cpu j y hy).obj;exact ⟨hc.at 2 rfl,hc.at 3 rfl,hc.at 4 rfl⟩)
 have HFG:=hid (show ∀ wx j,Only [] w wx→j < n→wx.cell? ⟨g,j,none⟩=some (ptr (p.q j).cb)∧n≤cap from fun wx j hx hj=>by
  refine ⟨(hgb.only hx (by simp)).at j (hgc j hj),?_⟩;obtain ⟨g',cap',cur',e1,_,h1,_⟩:=h.cpr.has h.cn.1;rw [hn] at e1 h1;rw [hcv] at e1;injection e1 with _ _ e2;omega)
 have HEQ:=hid (And.intro ek (And.intro ea (And.intro ev hn)));have HOT:=hid (show ∀ wx (j:Nat),Only [] w wx→j < n→j≠i→(binOp .eql 64 (ptr (p.q j).cb) (ptr (p.q i).cb)).run Tryz.prog wx=.ok (.bool false) wx from fun wx j hx hj hji=>by
  obtain ⟨y,hy⟩:∃ y,x.cp[j]?=some y:=⟨x.cp[j]'(by omega),List.getElem?_eq_getElem _⟩;exact cpu_other ((h.quiet hx).cpu j y hy).obj ((h.quiet hx).cpu i u hu).obj (h.cb_ne (by rw [hn]; exact hj) (by rw [hn]; exact hi) hji))
 have HCV:=hid hcv;have HVR:=hid (show ∀ (j:Nat) (y:Cpu),x.cp[j]?=some y→y.vm < 9223372036854775808 from fun j y hy=>(h.cpu j y hy).vr.1);have HU:=hid hu;clear h hu hgb hgc hn ek ea ev hcv;go_enter Tryz.func38,Tryz.ntmps38;go_wp2_with fail;clear x3;go_loopg [12] n (fun q j wr=>q≤n∧j=.int .i64 ((n:Int) - q)∧Only [] w wr∧∀ (j:Nat) (y:Cpu),j < n - q→x.cp[j]?=some y→j≠i→u.vm=0→blk1 u y=false)
 case atStart=>exact ⟨Nat.le_refl _,by simp,Only.refl _ _,fun j y hj=>by omega⟩
 case round=>
  obtain ⟨hq,rfl,ho,hno⟩:=hrel;have HO:=hid ho;have HNO:=hid hno;clear ho hno;cases gk with
  | zero=>
   have hlt1:¬ ((n:Int) - ((0:Nat):Int) < n):=by omega
   go_wp2_with fail;go_ret;have e:blkN x.cp i u=false:=blkN_no fun j y hj=>HNO.out j y (by have:=HEQ.out.2.2.2; omega);rw [e];exact ⟨rfl,HO.out⟩
  | succ q=>
   obtain ⟨j,hj⟩:∃ j,n - (q+1)=j:=⟨_,rfl⟩;have ej:(n:Int) - ((q+1:Nat):Int)=(j:Int):=by omega
   have hjn:j < n:=by omega
   rw [ej];rw [hj] at HNO;have hlt1:(j:Int) < n:=by omega
   have hj0:(0:Int)≤j:=by omega
   have ew2:IntKind.i64.wrap ((j:Int)+1)=(j:Int)+1:=by rw [IntKind.wrap_i64]; omega
   obtain ⟨y,hy⟩:∃ y,x.cp[j]?=some y:=⟨x.cp[j]'(by have:=HEQ.out.2.2.2; omega),List.getElem?_eq_getElem _⟩;obtain ⟨cg,hcap⟩:=HFG.out wr j HO.out hjn;have HY:=hid hy;have hvr:=HVR.out j y hy;have HNX:=hid (show (j≠i→u.vm=0→blk1 u y=false)→∀ (j':Nat) (y':Cpu),j' < j+1→x.cp[j']?=some y'→j'≠i→u.vm=0→blk1 u y'=false from fun h1 j' y' hj' hy' hji hv=>by
    by_cases he:j'=j
    ·subst he;rw [hy] at hy';injection hy' with hy';rw [← hy'];exact h1 hji hv
    ·exact HNO.out j' y' (by omega) hy' hji hv)
   have HG:=hid (show ∀ wz,Only [] w wz→(j≠i→u.vm=0→blk1 u y=false)→q≤n∧Value.int .i64 ((j:Int)+1)=.int .i64 ((n:Int) - q)∧Only [] w wz∧∀ (j:Nat) (y:Cpu),j < n - q→x.cp[j]?=some y→j≠i→u.vm=0→blk1 u y=false from fun wz hz h1=>by
    refine ⟨by omega,by congr 1; omega,hz,fun j' y' hj'=>HNX.out h1 j' y' (by omega)⟩)
   clear hy ej;by_cases hji:j=i
   ·subst hji;have heq:=cpu_same wr (p.q j).cb;go_wp2_with fail;go_roundg q
    case measure=>omega
    case rel=>exact HG.out _ HO.out fun h=>absurd rfl h
   ·have heq:=HOT.out wr j HO.out hjn hji;by_cases hv:vm=0
    case neg=>
     have dv:(vm != 0)=true:=by simpa using hv
     obtain ⟨c3,c4,c5⟩:=HFA.out wr HO.out;go_wp2_with fail;go_roundg q
     case measure=>omega
     case rel=>exact HG.out _ HO.out fun _ h=>absurd (HEQ.out.2.2.1.symm.trans h) hv
    case pos=>
     subst hv;obtain ⟨c3,c4,c5⟩:=HFA.out wr HO.out;obtain ⟨d2,d3,d4⟩:=HFB.out wr j y HO.out HY.out;go_upto_region 5 with fail;obtain ⟨b1,e1⟩:∃ b,(k == 1)=b:=⟨_,rfl⟩;obtain ⟨b2,e2⟩:∃ b,(y.ph == 4)=b:=⟨_,rfl⟩;obtain ⟨b3,e3⟩:∃ b,(y.c.k == 2)=b:=⟨_,rfl⟩;have HB:=hid (And.intro e1 (And.intro e2 e3));go_cut [27] (fun v wc=>v=.bool (b1 && (b2 && b3))∧wr=wc)
     case first=>
      clear HB;cases b1
      ·go_wp2_with fail;go_meet;exact ⟨rfl,rfl⟩
      cases b2
      ·go_wp2_with fail;go_meet;exact ⟨rfl,rfl⟩
      cases b3
      ·go_wp2_with fail;go_meet;exact ⟨rfl,rfl⟩
      ·go_wp2_with fail;go_meet;exact ⟨rfl,rfl⟩
     case rest=>
      obtain ⟨rfl,rfl⟩:=hcut;clear e1 e2 e3;obtain ⟨bb,hbb⟩:∃ bb,(b1 && (b2 && b3))=bb:=⟨_,rfl⟩;rw [hbb];have HBB:=hid hbb;clear hbb;cases bb with
      | true=>
       go_wp2_with fail;go_ret;have e:blkN x.cp i u=true:=blkN_yes HEQ.out.2.2.1 HY.out hji (by
        unfold blk1;rw [HEQ.out.1,HB.out.1,HB.out.2.1,HB.out.2.2,HBB.out];rfl)
       rw [e];exact ⟨rfl,HO.out⟩
      | false=>
       obtain ⟨c1,f1⟩:∃ b,(k == 2)=b:=⟨_,rfl⟩;obtain ⟨c2,f2⟩:∃ b,decide (2≤y.ph)=b:=⟨_,rfl⟩;obtain ⟨c3',f3⟩:∃ b,decide (0 < y.vm)=b:=⟨_,rfl⟩;obtain ⟨c4',f4⟩:∃ b,(y.vm == a)=b:=⟨_,rfl⟩;have HC:=hid (And.intro f1 (And.intro f2 (And.intro f3 f4)));have HFX:=hid (show ∀ wx,Only [] wr wx→wx.cell? ⟨(p.q i).cb,4,none⟩=some (.int .i64 k)∧wx.cell? ⟨(p.q i).cb,5,none⟩=some (.int .u64 a)∧wx.cell? ⟨(p.q j).cb,2,none⟩=some (.int .i64 y.ph)∧wx.cell? ⟨(p.q j).cb,3,none⟩=some (.int .i64 y.vm) from fun wx hx=>by
        obtain ⟨z1,z2,z3⟩:=HFA.out wx (HO.out.trans hx);obtain ⟨v1,v2,v3⟩:=HFB.out wx j y (HO.out.trans hx) HY.out;exact ⟨z2,z3,v1,v2⟩)
       clear c3 c4 c5 d2 d3 d4 heq cg;go_upto_region 7 with fail;cases c1
       ·skip;refine wp_region_quiet_tailG 33 (by kernel_rfl) (by kernel_rfl) (fun w'=>Only [] wr w') ((Only.refl _ _).drew) ?_;simp only [List.take_succ_cons,List.take_zero,List.drop_succ_cons,List.drop_zero]
        repeat
         (first
          | (refine qskip (by rfl) ?_
             go_simp)
          | (refine qstepG (by rfl) ?_
             apply Exists.intro;refine ⟨fun w' hw'=>?_,?_⟩
             ·obtain ⟨p0,p1,p2,p3⟩:=HFX.out w' hw';go_simp
              first
               | with_reducible rfl
               | exact quiet_val
             go_simp))
        refine wpQuiet_nil ?_;intro wf hwf;have HO2:=hid (HO.out.trans hwf);clear hwf;go_wp2_with fail;go_roundg q
        case measure=>omega
        case rel=>
         refine HG.out _ HO2.out fun _ _=>?_;unfold blk1;rw [HEQ.out.1,HEQ.out.2.1,HB.out.1,HB.out.2.1,HB.out.2.2,HBB.out,HC.out.1,HC.out.2.1,HC.out.2.2.1,HC.out.2.2.2];rfl
       cases c2
       ·skip;refine wp_region_quiet_tailG 33 (by kernel_rfl) (by kernel_rfl) (fun w'=>Only [] wr w') ((Only.refl _ _).drew) ?_;simp only [List.take_succ_cons,List.take_zero,List.drop_succ_cons,List.drop_zero]
        repeat
         (first
          | (refine qskip (by rfl) ?_
             go_simp)
          | (refine qstepG (by rfl) ?_
             apply Exists.intro;refine ⟨fun w' hw'=>?_,?_⟩
             ·obtain ⟨p0,p1,p2,p3⟩:=HFX.out w' hw';go_simp
              first
               | with_reducible rfl
               | exact quiet_val
             go_simp))
        refine wpQuiet_nil ?_;intro wf hwf;have HO2:=hid (HO.out.trans hwf);clear hwf;go_wp2_with fail;go_roundg q
        case measure=>omega
        case rel=>
         refine HG.out _ HO2.out fun _ _=>?_;unfold blk1;rw [HEQ.out.1,HEQ.out.2.1,HB.out.1,HB.out.2.1,HB.out.2.2,HBB.out,HC.out.1,HC.out.2.1,HC.out.2.2.1,HC.out.2.2.2];rfl
       cases c3'
       ·skip;refine wp_region_quiet_tailG 33 (by kernel_rfl) (by kernel_rfl) (fun w'=>Only [] wr w') ((Only.refl _ _).drew) ?_;simp only [List.take_succ_cons,List.take_zero,List.drop_succ_cons,List.drop_zero]
        repeat
         (first
          | (refine qskip (by rfl) ?_
             go_simp)
          | (refine qstepG (by rfl) ?_
             apply Exists.intro;refine ⟨fun w' hw'=>?_,?_⟩
             ·obtain ⟨p0,p1,p2,p3⟩:=HFX.out w' hw';go_simp
              first
               | with_reducible rfl
               | exact quiet_val
             go_simp))
        refine wpQuiet_nil ?_;intro wf hwf;have HO2:=hid (HO.out.trans hwf);clear hwf;go_wp2_with fail;go_roundg q
        case measure=>omega
        case rel=>
         refine HG.out _ HO2.out fun _ _=>?_;unfold blk1;rw [HEQ.out.1,HEQ.out.2.1,HB.out.1,HB.out.2.1,HB.out.2.2,HBB.out,HC.out.1,HC.out.2.1,HC.out.2.2.1,HC.out.2.2.2];rfl
       have hv0:0 < y.vm:=of_decide_eq_true f3;have ew5:IntKind.u64.wrap y.vm=y.vm:=by rw [IntKind.wrap_u64]; omega
       cases c4'
       ·skip;refine wp_region_quiet_tailG 33 (by kernel_rfl) (by kernel_rfl) (fun w'=>Only [] wr w') ((Only.refl _ _).drew) ?_;simp only [List.take_succ_cons,List.take_zero,List.drop_succ_cons,List.drop_zero]
        repeat
         (first
          | (refine qskip (by rfl) ?_
             go_simp)
          | (refine qstepG (by rfl) ?_
             apply Exists.intro;refine ⟨fun w' hw'=>?_,?_⟩
             ·obtain ⟨p0,p1,p2,p3⟩:=HFX.out w' hw';go_simp
              first
               | with_reducible rfl
               | exact quiet_val
             go_simp))
        refine wpQuiet_nil ?_;intro wf hwf;have HO2:=hid (HO.out.trans hwf);clear hwf;go_wp2_with fail;go_roundg q
        case measure=>omega
        case rel=>
         refine HG.out _ HO2.out fun _ _=>?_;unfold blk1;rw [HEQ.out.1,HEQ.out.2.1,HB.out.1,HB.out.2.1,HB.out.2.2,HBB.out,HC.out.1,HC.out.2.1,HC.out.2.2.1,HC.out.2.2.2];rfl
       ·skip;refine wp_region_quiet_tailG 33 (by kernel_rfl) (by kernel_rfl) (fun w'=>Only [] wr w') ((Only.refl _ _).drew) ?_;simp only [List.take_succ_cons,List.take_zero,List.drop_succ_cons,List.drop_zero]
        repeat
         (first
          | (refine qskip (by rfl) ?_
             go_simp)
          | (refine qstepG (by rfl) ?_
             apply Exists.intro;refine ⟨fun w' hw'=>?_,?_⟩
             ·obtain ⟨p0,p1,p2,p3⟩:=HFX.out w' hw';go_simp
              first
               | with_reducible rfl
               | exact quiet_val
             go_simp))
        refine wpQuiet_nil ?_;intro wf hwf;have HO2:=hid (HO.out.trans hwf);clear hwf;go_wp2_with fail;go_ret;have e:blkN x.cp i u=true:=blkN_yes HEQ.out.2.2.1 HY.out hji (by
         unfold blk1;rw [HEQ.out.1,HEQ.out.2.1,HC.out.1,HC.out.2.1,HC.out.2.2.1,HC.out.2.2.2];exact Bool.or_true _)
        rw [e];exact ⟨rfl,HO2.out⟩
end
end
theorem zv_boolT (W:World):(zeroValue 4).run Tryz.prog W=.ok (.bool false) W:=by kernel_rfl
theorem newTo_next (ps:List D) (kn:Int→Bool) (j:Nat):newTo ps kn (j+1)=newTo ps kn j ++ if (kd ps j == 5 && !kn j)=true then [(j:Int)] else []:=by
 unfold newTo;rw [List.range_succ,List.filter_append,List.map_append,List.filter_cons];split <;> rfl
theorem newTo_lt {ps:List D} {kn:Int→Bool} {j:Nat} {f:Int} (h:f ∈ newTo ps kn j):f < j:=by
 unfold newTo at h;obtain ⟨q,hq,rfl⟩:=List.mem_map.1 h;have:=List.mem_range.1 (List.mem_filter.1 hq).1;omega
theorem newTo_len (ps:List D) (kn:Int→Bool) (j:Nat):(newTo ps kn j).length≤j:=by
 unfold newTo;rw [List.length_map];exact Nat.le_trans (List.length_filter_le _ _) (by rw [List.length_range]; exact Nat.le_refl _)
theorem knOr_at (kn:Int→Bool) (ps:List D) (j:Nat):knOr kn (newTo ps kn j) j=kn j:=by
 unfold knOr;have:(newTo ps kn j).contains (j:Int)=false:=by
  rw [List.contains_eq_mem,decide_eq_false_iff_not];exact fun h=>by
   have:=newTo_lt h;omega
 rw [this,Bool.or_false]
theorem knOr_snoc (kn:Int→Bool) (l:List Int) (f:Int):updM (knV (knOr kn l)) f (some (.bool true))=knV (knOr kn (l ++ [f])):=by
 funext k;unfold updM knV knOr;by_cases h:k=f
 ·subst h;simp
 ·simp [h]
theorem knOr_nil (kn:Int→Bool):knOr kn []=kn:=by
 funext k;simp [knOr]
section
variable {w w':World} {p:MuP} {sz:Nat} {x:X}
structure RtAt (w:World) (p:MuP) (sz:Nat) (x:X) (b s cap:Nat) (j:Nat) (v:Value) (wr:World):Prop where
 m:IsMu wr p sz { x with kn:=knOr x.kn (newTo x.S.ps x.kn j) }
 k:MuTo w wr p p x.cp.length
 row:RowR wr 3 1 v (newTo x.S.ps x.kn j).length ((newTo x.S.ps x.kn j).map (Value.int .i64))
 own:∀ g,v.ownBlock=some g→w.heap.size≤g∧g≠b∧g≠s
 pool:PoolR wr b s cap x.S.ps
theorem RtAt.quiet {b s cap j:Nat} {v:Value} {wr wz:World} (h:RtAt w p sz x b s cap j v wr) (o:Only [] wr wz):RtAt w p sz x b s cap j v wz:=
 ⟨h.m.quiet o,h.k.trans (.quiet h.m o rfl),h.row.quiet o,h.own,h.pool.only o (by simp) (by simp)⟩
theorem IsMap.no_cell {W:World} {r:Nat} {f:Int→Option Value} (h:IsMap W r f) {b o:Nat} {u:Value} (hc:W.cell? ⟨b,o,none⟩=some u):b≠r:=by
 rintro rfl;obtain ⟨es,c,hb,_⟩:=h;unfold World.cell? at hc;rw [hb] at hc;cases hc
theorem IsMap.no_pool {W:World} {r b s cap j:Nat} {f:Int→Option Value} {ps:List D} (h:IsMap W r f) (hp:PoolR W b s cap ps) (hj:j < ps.length):r≠b∧r≠s:=by
 obtain ⟨h1,_⟩:=hp.cell j _ (List.getElem?_eq_getElem hj);exact ⟨(h.no_cell hp.c0).symm,(h.no_cell h1).symm⟩
theorem mretired_any (h:IsMu w p sz x) (hlen:x.S.ps.length≤4096):Calls Tryz.prog 41 #[ptr p.b] w fun e w'=>∃ v,e=.returned v∧RowR w' 3 1 v (newR x.S.ps x.kn).length ((newR x.S.ps x.kn).map (Value.int .i64))∧(∀ g,v.ownBlock=some g→w.heap.size≤g)∧IsMu w' p sz { x with kn:=knOr x.kn (newR x.S.ps x.kn) }∧MuTo w w' p p x.cp.length:=by
 have H0:=hid h;have HFR:=hid (hframes_any h.hv);have x0:=h.obj.at 0 (v:=ptr p.a.hb) rfl;obtain ⟨n,hn⟩:∃ n,x.S.ps.length=n:=⟨_,rfl⟩;have HN:=hid hn;rw [hn] at hlen;clear h hn;go_enter Tryz.func41,Tryz.ntmps41;go_wp2_with fail;refine HFR.out.mono ?_;rintro e w1 ⟨b,s,cap,rfl,ho,hpl⟩;have HST:=hid (show RtAt w p sz x b s cap 0 (.slice none 0 0) w1 from ⟨by
  have h1:=H0.out.quiet ho;have e:knOr x.kn (newTo x.S.ps x.kn 0)=x.kn:=knOr_nil x.kn;rw [e];exact h1,.quiet H0.out ho rfl,RowR.nil _ _ _,fun g hg=>(by cases hg),hpl⟩)
 have HLN:=hid (plenR_any hpl);rw [HN.out] at HLN;clear ho hpl HFR x0;go_wp2_with fail;refine HLN.out.mono ?_;rintro e w2 ⟨rfl,rfl⟩;go_wp2_with fail;go_loopg [4,15] n (fun q v i wr=>q≤n∧i=.int .i64 ((n:Int) - q)∧RtAt w p sz x b s cap (n - q) v wr)
 case atStart=>
  refine ⟨Nat.le_refl _,by simp,?_⟩;rw [Nat.sub_self];exact HST.out
 case round=>
  obtain ⟨hq,rfl,hrt⟩:=hrel;cases gk with
  | zero=>
   have hlt1:¬ ((n:Int) - ((0:Nat):Int) < n):=by omega
   rw [Nat.sub_zero] at hrt;obtain ⟨A,cp,rfl⟩:=hrt.row.form;have HRT:=hid hrt;clear hrt;go_wp2_with fail;go_ret;have en:newR x.S.ps x.kn=newTo x.S.ps x.kn n:=by
    unfold newR;rw [HN.out]
   rw [en];exact ⟨_,rfl,HRT.out.row,fun g hg=>(HRT.out.own g hg).1,HRT.out.m,HRT.out.k⟩
  | succ q=>
   obtain ⟨j,hj⟩:∃ j,n - (q+1)=j:=⟨_,rfl⟩;have ej:(n:Int) - ((q+1:Nat):Int)=(j:Int):=by omega
   have hjn:j < n:=by omega
   rw [ej];rw [hj] at hrt;obtain ⟨A,cp,rfl⟩:=hrt.row.form;have hlt1:(j:Int) < n:=by omega
   have hj0:(0:Int)≤j:=by omega
   have ew2:IntKind.i64.wrap ((j:Int)+1)=(j:Int)+1:=by rw [IntKind.wrap_i64]; omega
   have hin:inP x.S.ps j=true:=by
    unfold inP;rw [HN.out];exact decide_eq_true ⟨hj0,hlt1⟩
   have HOF:=hid (ofR_any (j:Int) hrt.pool);rw [hin,if_pos rfl,dval_out] at HOF;obtain ⟨⟨dk,do',dr,de⟩,hd⟩:∃ d,dOf x.S.ps j=d:=⟨_,rfl⟩;rw [hd] at HOF;dsimp only at HOF;have HKD:=hid (show kd x.S.ps j=dk by unfold kd; rw [hd]);have HRT:=hid hrt;obtain ⟨m,hm⟩:∃ m,(newTo x.S.ps x.kn j).length=m:=⟨_,rfl⟩;have HM:=hid hm;have hm4:m≤4095:=by
    have:=newTo_len x.S.ps x.kn j;omega
   rw [hm];have HG:=hid (show ∀ v wz,RtAt w p sz x b s cap (j+1) v wz→q≤n∧Value.int .i64 ((j:Int)+1)=.int .i64 ((n:Int) - q)∧RtAt w p sz x b s cap (n - q) v wz from fun v wz hz=>by
    rw [show n - q=j+1 by omega];exact ⟨by omega,by congr 1; omega,hz⟩)
   clear hrt hd hin ej hm;go_wp2_with fail;refine HOF.out.mono ?_;rintro e w3 ⟨rfl,ho⟩;have HR3:=hid (HRT.out.quiet ho);clear ho;go_upto_region 7 with fail;obtain ⟨W4,hW4⟩:∃ W4,w3.alloc (.cells #[.int .i64 dk,.int .i64 do',.int .i64 dr,.int .i64 de] 159)=W4:=⟨_,rfl⟩;rw [hW4];have q4:Only [] w3 W4:=by rw [← hW4]; exact (Only.refl [] w3).alloc _
   have hb4:Blk W4 w3.heap.size 159 #[.int .i64 dk,.int .i64 do',.int .i64 dr,.int .i64 de]:=by rw [← hW4]; exact Blk.new _ _ _
   have HR4:=hid (HR3.out.quiet q4);have y0:=hb4.at 0 (v:=.int .i64 dk) rfl;have x4:=HR4.out.m.obj.at 4 (v:=.map (some p.kr)) rfl;obtain ⟨kk,hkk⟩:∃ kk,x.kn j=kk:=⟨_,rfl⟩;have hlk:=HR4.out.m.kn.look (P:=Tryz.prog) Tryz.underlyingKn Tryz.underlying3 (j:Int) (zv_boolT _) false;have hkv:(knV (knOr x.kn (newTo x.S.ps x.kn j)) (j:Int)).getD (.bool false)=.bool kk:=by
    unfold knV;rw [knOr_at,hkk];cases kk <;> rfl
   dsimp only at hlk;rw [if_neg (by decide),hkv] at hlk;have HKK:=hid hkk;clear hkk hkv q4 hW4 hb4;obtain ⟨d5,hd5⟩:∃ d5,(dk == 5)=d5:=⟨_,rfl⟩;have HD5:=hid hd5;have HSK:=hid (show (d5 && !kk)=false→RtAt w p sz x b s cap (j+1) (.slice A m cp) W4 from fun h=>by
    have e:newTo x.S.ps x.kn (j+1)=newTo x.S.ps x.kn j:=by
     rw [newTo_next,HKD.out,HKK.out,HD5.out,if_neg (by rw [h]; decide),List.append_nil]
    have h4:=HR4.out;rw [HM.out] at h4;refine ⟨?_,h4.k,?_,h4.own,h4.pool⟩
    ·rw [e];exact h4.m
    ·rw [e];exact h4.row)
   cases d5 with
   | false=>
    go_wp2_with fail;go_roundg q
    case measure=>omega
    case rel=>exact HG.out _ _ (HSK.out rfl)
   | true=>
    cases kk with
    | true=>
     go_wp2_with fail;go_roundg q
     case measure=>omega
     case rel=>exact HG.out _ _ (HSK.out rfl)
    | false=>
     have HKN:=hid HR4.out.m.kn;dsimp only at HKN;go_upto_region 9 with (first
      | (with_reducible (refine wpList_upd Tryz.underlyingKn Tryz.underlying3 HKN.out (by with_unfolding_all rfl) (by with_unfolding_all rfl) (by with_unfolding_all rfl) (fun w5 hm5 ho5 hs5=>?_)))
      | fail)
     clear hs5;have en:newTo x.S.ps x.kn (j+1)=newTo x.S.ps x.kn j ++ [(j:Int)]:=by
      rw [newTo_next,HKD.out,HKK.out,HD5.out,if_pos (by decide)]
     have hm5:IsMap w5 p.kr (updM (knV (knOr x.kn (newTo x.S.ps x.kn j))) j (some (.bool true))):=hm5;rw [knOr_snoc,← en] at hm5;obtain ⟨h5,k5⟩:=HR4.out.m.knTo ho5 hm5;obtain ⟨hnb,hns⟩:=HKN.out.no_pool HR4.out.pool (j:=j) (by rw [HN.out]; exact hjn);have hp5:=HR4.out.pool.only ho5 (by simpa using hnb.symm) (by simpa using hns.symm);have hr5:=HR4.out.row.only ho5 (fun y hy e=>by
      obtain ⟨_,cs,hb⟩:=HR4.out.row.lt y e;exact HKN.out.ne_blk hb (List.mem_singleton.1 hy).symm)
     rw [HM.out] at hr5;have q6:=(Only.refl [] w5).alloc (.cells #[.int .i64 (j:Int)] 3);have HB6:=hid (Blk.new w5 3 #[.int .i64 (j:Int)]);have HROW6:=hid (hr5.quiet q6);have HP6:=hid (hp5.only q6 (by simp) (by simp));have HH6:=hid (h5.quiet q6);have HK6:=hid ((HR4.out.k.trans k5).trans (.quiet h5 q6 rfl));have HU:=hid (show ∀ j' u,[Value.int .i64 (j:Int)][j']?=some u→(w5.alloc (.cells #[.int .i64 (j:Int)] 3)).cell? ((⟨w5.heap.size,0,none⟩:Addr).add j')=some u from one_new w5 _ _);have HEN:=hid en;have hl5:w.heap.size≤w5.heap.size:=(HR4.out.k.trans k5).size;obtain ⟨i0,hz,hz0,hz1,hz2⟩:=info_parts Tryz.infoInt;have HI0:=hid (And.intro hz (And.intro hz0 (And.intro hz1 hz2)));have HOW:=hid (show ∀ g,(Value.slice A m cp).ownBlock=some g→w.heap.size≤g∧g≠b∧g≠s from by
      have h9:=HR4.out.own;rw [HM.out] at h9;exact h9)
     clear hz hz0 hz1 hz2 en hm5 ho5 h5 k5 hp5 hr5 q6 hlk y0 x4;go_wp2_with (first
      | (at_builtin; (refine wpList_append_R rfl (.tmp 41) (.tmp 43) 66 rfl 3 i0 (.int .i64 0) 1 8 Tryz.underlying66 HI0.out.1 HI0.out.2.1 HI0.out.2.2.1 HI0.out.2.2.2 rfl (by decide) (.slice A m cp) m ((newTo x.S.ps x.kn j).map (Value.int .i64)) (by with_unfolding_all rfl) HROW6.out ⟨w5.heap.size,0,none⟩ 1 1 [.int .i64 (j:Int)] (by with_unfolding_all rfl) rfl HU.out (by intro u hu; simp at hu; subst hu; rfl) (by unfold maxLen; omega) (by omega) (fun v7 w7 hr7 ho7 hw7=>?_)))
      | fail)
     have hz5:(w5.alloc (.cells #[.int .i64 (j:Int)] 3)).heap.size=w5.heap.size+1:=by simp
     have hend:RtAt w p sz x b s cap (j+1) v7 w7:=by
      have hlen:(newTo x.S.ps x.kn (j+1)).length=m+1:=by
       rw [HEN.out,List.length_append,HM.out];rfl
      have hown:∀ g,v7.ownBlock=some g→w.heap.size≤g∧g≠b∧g≠s:=fun g hg=>by
       rcases hw7 with h | h
       ·rw [h] at hg;exact HOW.out g hg
       ·rw [h] at hg;have hg:w5.heap.size+1=g:=by rw [← hz5]; injection hg
        have h1:=HP6.out.lb;have h2:=HP6.out.lr;rw [hz5] at h1 h2;omega
      have hT:∀ y ∈ (Value.slice A m cp).ownBlock.toList,w.heap.size≤y∧y≠b∧y≠s:=fun y hy=>HOW.out y (Option.mem_toList.1 hy);refine ⟨HH6.out.only ho7 fun y hy i=>H0.out.off (hT y hy).1 i,⟨?_,HK6.out.f,rfl,rfl,rfl,rfl,rfl,rfl,fun _=>rfl,fun _=>rfl⟩,?_,hown,HP6.out.only ho7 (fun hm=>(hT _ hm).2.1 rfl) (fun hm=>(hT _ hm).2.2 rfl)⟩
      ·obtain ⟨T,o,hTT⟩:=HK6.out.o;exact ⟨T,o.then ho7 fun y hy=>.inr (hT y hy).1,hTT⟩
      ·rw [hlen,HEN.out,List.map_append];exact hr7
     have HEND:=hid hend;clear hend hr7 ho7 hw7;go_wp2_with fail;go_roundg q
     case measure=>omega
     case rel=>exact HG.out _ _ HEND.out
end
end Go.Proofs.YtadgpnoealegiaaGreat
