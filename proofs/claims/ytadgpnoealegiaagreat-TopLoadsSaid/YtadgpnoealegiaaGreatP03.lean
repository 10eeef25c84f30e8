import Derived.Test.YtadgpnoealegiaaGreatP02
namespace Go.Proofs.YtadgpnoealegiaaGreat
open Go.RowKit
open Go.Lib (hid)
set_option maxRecDepth 100000
set_option maxHeartbeats 20000000
theorem right_no (w:World) (ri fr:Int) (la:Bool):Calls Tryz.prog 113 #[PE.val ⟨false,ri,la,fr⟩] w fun e w'=>e=.returned (.bool (PE.right ⟨false,ri,la,fr⟩))∧Only [] w w':=by
 unfold PE.val PE.right;by_cases h1:ri=0
 ·subst h1;cases la
  ·by_cases h2:fr=0
   ·subst h2;go_enter Tryz.func113,Tryz.ntmps113;go_wp2;go_ret;exact ⟨by simp,(Only.refl _ _).alloc _⟩
   ·have h3:(fr == 0)=false:=by simp [h2]
    go_enter Tryz.func113,Tryz.ntmps113;go_wp2;go_ret;exact ⟨by simp,(Only.refl _ _).alloc _⟩
  ·skip;go_enter Tryz.func113,Tryz.ntmps113;go_wp2;go_ret;exact ⟨by simp,(Only.refl _ _).alloc _⟩
 ·have h3:(ri == 0)=false:=by simp [h1]
  go_enter Tryz.func113,Tryz.ntmps113;go_wp2;go_ret;exact ⟨by simp,(Only.refl _ _).alloc _⟩
theorem right_yes (w:World) (ri fr:Int) (la:Bool):Calls Tryz.prog 113 #[PE.val ⟨true,ri,la,fr⟩] w fun e w'=>e=.returned (.bool (PE.right ⟨true,ri,la,fr⟩))∧Only [] w w':=by
 unfold PE.val PE.right;by_cases h1:ri < 0
 ·skip;go_enter Tryz.func113,Tryz.ntmps113;go_wp2;go_ret;exact ⟨by simp <;> omega,(Only.refl _ _).alloc _⟩
 ·by_cases h2:7 < ri
  ·skip;go_enter Tryz.func113,Tryz.ntmps113;go_wp2;go_ret;exact ⟨by simp <;> omega,(Only.refl _ _).alloc _⟩
  ·by_cases h3:fr < 0
   ·skip;go_enter Tryz.func113,Tryz.ntmps113;go_wp2;go_ret;exact ⟨by simp <;> omega,(Only.refl _ _).alloc _⟩
   ·by_cases h4:4096≤fr
    ·skip;go_enter Tryz.func113,Tryz.ntmps113;go_wp2;go_ret;exact ⟨by simp <;> omega,(Only.refl _ _).alloc _⟩
    ·by_cases h5:0 < ri
     ·skip;go_enter Tryz.func113,Tryz.ntmps113;go_wp2;go_ret;exact ⟨by simp <;> omega,(Only.refl _ _).alloc _⟩
     ·skip;go_enter Tryz.func113,Tryz.ntmps113;go_wp2;go_ret;exact ⟨by cases la <;> simp <;> omega,(Only.refl _ _).alloc _⟩
theorem right_any (w:World) (x:PE):Calls Tryz.prog 113 #[x.val] w fun e w'=>e=.returned (.bool x.right)∧Only [] w w':=by
 obtain ⟨pr,ri,la,fr⟩:=x;cases pr
 ·exact right_no w ri fr la
 ·exact right_yes w ri fr la
theorem table_any (w:World) (x:PE):Calls Tryz.prog 115 #[x.val] w fun e w'=>e=.returned (.bool x.table)∧Only [] w w':=by
 obtain ⟨pr,ri,la,fr⟩:=x;have HV:=hid (show PE.val ⟨pr,ri,la,fr⟩=.agg #[.bool pr,.int .i64 ri,.bool la,.int .i64 fr] from rfl);have HR:=hid (right_any · ⟨pr,ri,la,fr⟩);rw [HV.out];cases pr
 ·skip;go_enter Tryz.func115,Tryz.ntmps115;go_wp2;go_ret;exact ⟨by simp [PE.table],(Only.refl _ _).alloc _⟩
 ·by_cases h1:ri=0
  ·subst h1;obtain ⟨b,hb⟩:∃ b,PE.right ⟨true,0,la,fr⟩=b:=⟨_,rfl⟩;have HB:=hid hb;clear hb;have h:=HR.out;go_enter Tryz.func115,Tryz.ntmps115;go_wp2_with fail;refine (HR.out _).mono ?_;rintro e w1 ⟨rfl,ho⟩;rw [HB.out];go_wp2_with fail;go_ret;exact ⟨by simp [PE.table,HB.out],((Only.refl _ _).alloc _).trans ho⟩
  ·have h3:(ri == 0)=false:=by simp [h1]
   go_enter Tryz.func115,Tryz.ntmps115;go_wp2;go_ret;exact ⟨by simp [PE.table,h1],(Only.refl _ _).alloc _⟩
theorem bit_any (w:World) (b:Bool):Calls Tryz.prog 215 #[.bool b] w fun e w'=>e=.returned (.int .u64 (bitN b:Nat))∧w=w':=by
 cases b
 ·skip;go_enter Tryz.func215,Tryz.ntmps215;go_wp2;go_ret;exact ⟨rfl,rfl⟩
 ·skip;go_enter Tryz.func215,Tryz.ntmps215;go_wp2;go_ret;exact ⟨rfl,rfl⟩
theorem span_in (w:World) (l:Nat) (h:l < 4):Calls Tryz.prog 119 #[.int .i64 l] w fun e w'=>(∃ k:Int,e=.returned (.int .i64 k)∧0 < k)∧w=w':=by
 obtain rfl | rfl | rfl | rfl:l=0∨l=1∨l=2∨l=3:=by omega
 all_goals
  go_enter Tryz.func119,Tryz.ntmps119;go_wp2;go_ret;exact ⟨⟨_,rfl,by decide⟩,rfl⟩
theorem index_in (w:World) (page:Int) (l:Nat) (h:l < 4) (h0:0≤page) (h1:page < 65536):Calls Tryz.prog 126 #[.int .i64 page,.int .i64 l] w fun e w'=>e=.returned (.int .i64 (indexN page l))∧w=w':=by
 have e1:IntKind.u64.wrap page=page:=by rw [IntKind.wrap_u64]; omega
 have HG:=hid (fun w=>get_any w page.toNat (4 * l) 4 (by omega) (by omega) (by omega) (by omega));have HS:=hid (fun w=>span_in w l h);obtain ⟨z,hz⟩:∃ z,page.toNat / 2 ^ (4 * l) % 2 ^ 4=z:=⟨_,rfl⟩;have HX:=hid (show indexN page l=z by unfold indexN; rw [← hz,Nat.pow_mul]);have hz2:z < 16:=by rw [← hz]; exact Nat.mod_lt _ (by decide)
 rw [hz,Int.toNat_of_nonneg h0] at HG;rw [HX.out];clear hz HX;obtain rfl | rfl | rfl | rfl:l=0∨l=1∨l=2∨l=3:=by omega
 all_goals
  clear h;go_enter Tryz.func126,Tryz.ntmps126;go_wp2_with fail;refine (HS.out _).mono ?_;rintro e w1 ⟨⟨k,rfl,hk⟩,rfl⟩;have hk2:(k == 0)=false:=by simp; omega
  go_wp2_with fail;refine (HG.out _).mono ?_;rintro e w1 ⟨rfl,rfl⟩;go_wp2_with fail;go_ret;exact ⟨rfl,rfl⟩
theorem pteAt_any (w:World) (f page:Int) (l:Nat) (h:l < 4) (h0:0≤page) (h1:page < 65536) (h2:0≤f) (h3:f < 4096):Calls Tryz.prog 88 #[.int .i64 f,.int .i64 page,.int .i64 l] w fun e w'=>e=.returned (.int .i64 (atN f page l))∧w=w':=by
 obtain ⟨z,hz⟩:∃ z,indexN page l=z:=⟨_,rfl⟩;have hz2:0≤z∧z < 16:=by
  rw [← hz];unfold indexN;have:=Nat.mod_lt (page.toNat / 16 ^ l) (show 0 < 16 by decide);omega
 unfold atN;have e1:IntKind.i64.wrap (16 * f)=16 * f:=by rw [IntKind.wrap_i64]; omega
 have e2:IntKind.i64.wrap (16 * f+z)=16 * f+z:=by rw [IntKind.wrap_i64]; omega
 have HZ:=hid hz;clear hz;go_enter Tryz.func88,Tryz.ntmps88;go_wp2_with fail;refine (index_in _ page l h h0 h1).mono ?_;rintro e w1 ⟨rfl,rfl⟩;rw [HZ.out];go_wp2_with fail;go_ret;exact ⟨by rw [HZ.out]; rfl,rfl⟩
theorem packE_eq (pr la:Bool) (ri fr:Int) (hr:PE.right ⟨pr,ri,la,fr⟩=true):packN [(bitN pr,1),(ri.toNat,3),(bitN la,1),(0,7),(fr.toNat,12)] 0 0=(packE ⟨pr,ri,la,fr⟩).toNat:=by
 have h1:bitN pr % 2=bitN pr:=by cases pr <;> rfl
 have h2:bitN la % 2=bitN la:=by cases la <;> rfl
 unfold packE;rw [if_pos hr];simp only [packN,Int.toNat_natCast];simp [h1,h2]
theorem fit5 (a b c d:Nat) (ha:a < 18446744073709551616) (hb:b < 18446744073709551616) (hc:c < 18446744073709551616) (hd:d < 18446744073709551616):fitN [(a,1),(b,3),(c,1),(0,7),(d,12)] 0:=by
 simp [fitN];omega
theorem cells5 (W:World) (t:TypeId) (a b c d:Nat) (b' d':Int) (hb:(b:Int)=b') (hd:(d:Int)=d'):∀ j v s:Nat,[(a,1),(b,3),(c,1),(0,7),(d,12)][j]?=some (v,s) →
 (W.alloc (.cells #[.int .u64 a,.int .i64 1,.int .u64 b',.int .i64 3,.int .u64 c,.int .i64 1,.int .u64 0,.int .i64 7,.int .u64 d',.int .i64 12] t)).cell? ⟨W.heap.size,j * 2,none⟩=some (.int .u64 v) ∧
 (W.alloc (.cells #[.int .u64 a,.int .i64 1,.int .u64 b',.int .i64 3,.int .u64 c,.int .i64 1,.int .u64 0,.int .i64 7,.int .u64 d',.int .i64 12] t)).cell? ⟨W.heap.size,j * 2+1,none⟩=some (.int .i64 s):=by
 subst hb hd;intro j v s h;rcases j with _ | _ | _ | _ | _ | j
 all_goals simp at h
 all_goals
  obtain ⟨rfl,rfl⟩:=h;exact ⟨(Blk.new W t _).at _ rfl,(Blk.new W t _).at _ rfl⟩
theorem pe_range {pr la:Bool} {ri fr:Int} (hr:PE.right ⟨pr,ri,la,fr⟩=true):0≤ri∧ri≤7∧0≤fr∧fr < 4096:=by
 unfold PE.right at hr;cases pr
 ·have:=of_decide_eq_true hr;simp at this;omega
 ·have:=of_decide_eq_true hr;simp at this;omega
theorem bitN_lt (b:Bool):bitN b < 2:=by cases b <;> decide
theorem ptepack_any (w:World) (x:PE) (hr:x.right=true):Calls Tryz.prog 207 #[x.val] w fun e w'=>e=.returned (.tuple #[.int .u64 (packE x),.int .i64 0])∧Only [] w w':=by
 obtain ⟨pr,ri,la,fr⟩:=x;have hb:=pe_range hr;have HV:=hid (show PE.val ⟨pr,ri,la,fr⟩=.agg #[.bool pr,.int .i64 ri,.bool la,.int .i64 fr] from rfl);have HR:=hid hr;have e1:IntKind.u64.wrap ri=ri:=by rw [IntKind.wrap_u64]; omega
 have e2:IntKind.u64.wrap fr=fr:=by rw [IntKind.wrap_u64]; omega
 have HQ:=hid (packE_eq pr la ri fr hr);have HF:=hid (fit5 (bitN pr) ri.toNat (bitN la) fr.toNat (by have:=bitN_lt pr; omega) (by omega) (by have:=bitN_lt la; omega) (by omega));have HN:=hid (show (ri.toNat:Int)=ri∧(fr.toNat:Int)=fr from ⟨Int.toNat_of_nonneg hb.1,Int.toNat_of_nonneg hb.2.2.1⟩);have HP:=hid (show 0≤packE ⟨pr,ri,la,fr⟩ by unfold packE; split <;> omega);rw [HV.out];clear hb hr;go_enter Tryz.func207,Tryz.ntmps207;go_wp2_with fail;refine (show Calls Tryz.prog 113 #[.agg #[.bool pr,.int .i64 ri,.bool la,.int .i64 fr]] _ _ from (right_any _ ⟨pr,ri,la,fr⟩).mono (R':=fun e w1=>e=.returned (.bool true)∧Only [] (w.alloc (.cells #[.bool pr,.int .i64 ri,.bool la,.int .i64 fr] 172)) w1) ?_ |>.mono ?_)
 ·rintro e w1 ⟨rfl,ho⟩;exact ⟨by rw [HR.out],ho⟩
 rintro e w1 ⟨rfl,ho⟩;have HB:=hid ((Blk.new w 172 #[.bool pr,.int .i64 ri,.bool la,.int .i64 fr]).only ho (by simp));have HO:=hid (((Only.refl [] w).alloc (.cells #[.bool pr,.int .i64 ri,.bool la,.int .i64 fr] 172)).trans ho);clear ho;have HF2:Hid (∀ wx,Blk wx w.heap.size 172 #[.bool pr,.int .i64 ri,.bool la,.int .i64 fr]→wx.cell? ⟨w.heap.size,0,none⟩=some (.bool pr)∧wx.cell? ⟨w.heap.size,1,none⟩=some (.int .i64 ri)∧wx.cell? ⟨w.heap.size,2,none⟩=some (.bool la)∧wx.cell? ⟨w.heap.size,3,none⟩=some (.int .i64 fr)):=hid fun wx h=>⟨h.at 0 rfl,h.at 1 rfl,h.at 2 rfl,h.at 3 rfl⟩;go_upto_region 3 with fail;have hz:w.heap.size < w1.heap.size:=HB.out.lt;go_region_held3 (fun w'=>w'.cell? ⟨w.heap.size,0,none⟩=some (.bool pr)∧w'.cell? ⟨w.heap.size,1,none⟩=some (.int .i64 ri)∧w'.cell? ⟨w.heap.size,2,none⟩=some (.bool la)∧w'.cell? ⟨w.heap.size,3,none⟩=some (.int .i64 fr))
  (first | exact HF2.out _ HB.out | exact HF2.out _ (HB.out.alloc _).drew | exact HF2.out _ HB2.out)
  (first
   | (go_at_call 215; refine (bit_any _ _).mono ?_; rintro e w3 ⟨rfl,rfl⟩)
   | (go_at_call 214
      refine (pack_any (World.drew _) w1.heap.size 5 [(bitN pr,1),(ri.toNat,3),(bitN la,1),(0,7),(fr.toNat,12)] rfl (by decide) (by simp) (by exact fun j v s h=>cells5 w1 _ _ _ _ _ _ _ HN.out.1 HN.out.2 j v s h) HF.out).mono ?_;rintro e w3 ⟨rfl,ho⟩;have HB2:=hid ((HB.out.alloc _).drew.only ho (by simp));have HO2:=hid ((HO.out.alloc _).drew.trans ho);clear ho))
 rw [HQ.out,Int.toNat_of_nonneg HP.out];go_wp2_with fail;go_ret2;exact ⟨rfl,HO2.out⟩
theorem beq_one (k:Nat):((k:Int) == 1)=(k == 1):=by
 rw [Bool.eq_iff_iff];simp;omega
theorem split6 (n:Nat):∃ a0 a1 a2 a3 a4 a5:Int,splitN n [1,3,1,7,12,40] 0=[a0,a1,a2,a3,a4,a5]∧(a0 == 1)=(rawE n).pr∧a1=(rawE n).ri∧(a2 == 1)=(rawE n).la∧a4=(rawE n).fr ∧
 (0≤a1∧a1 < 8∧0≤a3∧0≤a4∧a4 < 4096∧0≤a5)∧okE n=(decide (a3=0∧a5=0) && (rawE n).right):=by
 refine ⟨_,_,_,_,_,_,rfl,?_,?_,?_,?_,?_,?_⟩
 ·rw [beq_one];simp [rawE]
 ·simp [rawE]
 ·rw [beq_one];simp [rawE]
 ·simp [rawE]
 ·refine ⟨?_,?_,?_,?_,?_,?_⟩ <;> omega
 ·unfold okE;rw [Bool.eq_iff_iff];simp only [decide_eq_true_eq,Bool.and_eq_true];constructor
  ·rintro ⟨h1,h2,h3⟩;refine ⟨⟨?_,?_⟩,h3⟩ <;> simp <;> omega
  ·rintro ⟨⟨h1,h2⟩,h3⟩;simp at h1 h2;refine ⟨?_,?_,h3⟩ <;> omega
theorem cells6 (W:World) (t:TypeId) (g:Nat) (hg:g=W.heap.size):∀ j s:Nat,[1,3,1,7,12,40][j]?=some s →
 (W.alloc (.cells #[.int .i64 1,.int .i64 3,.int .i64 1,.int .i64 7,.int .i64 12,.int .i64 40] t)).cell? ⟨g,j,none⟩=some (.int .i64 s):=by
 intro j s h;rcases j with _ | _ | _ | _ | _ | _ | j
 all_goals simp at h
 all_goals
  subst h;exact (Blk.new' W t _ hg).at _ rfl
theorem set4 {W:World} {b t:Nat} {x0 x1 x2 x3:Value} (h:Blk W b t #[x0,x1,x2,x3]) (y0 y1 y2 y3:Value) :
 Blk ((((W.setCell ⟨b,0,none⟩ y0).setCell ⟨b,1,none⟩ y1).setCell ⟨b,2,none⟩ y2).setCell ⟨b,3,none⟩ y3) b t #[y0,y1,y2,y3]:=by
 simpa using (((h.set 0 y0).set 1 y1).set 2 y2).set 3 y3
theorem only4 {W w:World} {b:Nat} (h:Only [] w W) (hb:w.heap.size≤b) (y0 y1 y2 y3:Value) :
 Only [] w ((((W.setCell ⟨b,0,none⟩ y0).setCell ⟨b,1,none⟩ y1).setCell ⟨b,2,none⟩ y2).setCell ⟨b,3,none⟩ y3):=
 (((h.setCell (p:=⟨b,0,none⟩) (.inr hb) y0).setCell (p:=⟨b,1,none⟩) (.inr hb) y1).setCell (p:=⟨b,2,none⟩) (.inr hb) y2).setCell (p:=⟨b,3,none⟩) (.inr hb) y3
theorem parse_any (w:World) (x:Int) (h0:0≤x) (h1:x < 18446744073709551616):Calls Tryz.prog 75 #[.int .u64 x] w fun e w'=>e=.returned (.tuple #[(parseE x).val,.bool (okE x.toNat)])∧Only [] w w':=by
 obtain ⟨n,rfl⟩:=Int.eq_ofNat_of_zero_le h0;rw [Int.toNat_natCast];obtain ⟨R,hR⟩:∃ R,(parseE n).val=R:=⟨_,rfl⟩;obtain ⟨B,hB⟩:∃ B,okE n=B:=⟨_,rfl⟩;rw [hR,hB];unfold parseE at hR;rw [Int.toNat_natCast,hB] at hR;obtain ⟨a0,a1,a2,a3,a4,a5,hs,hp,hr,hl,hf,hb,ho⟩:=split6 n;rcases hraw:rawE n with ⟨pr,ri,la,fr⟩;rw [hraw] at hp hr hl hf ho hR;rw [hB] at ho;dsimp only at hp hr hl hf ho;subst hr hf;have e1:IntKind.i64.wrap a1=a1:=by rw [IntKind.wrap_i64]; omega
 have e4:IntKind.i64.wrap a4=a4:=by rw [IntKind.wrap_i64]; omega
 have HS:=hid hs;have HO:=hid ho;have HRS:=hid hR;clear hR hB;clear hs ho hraw;have HR:=hid (fun w=>right_any w ⟨pr,a1,la,a4⟩);clear h0;go_enter Tryz.func75,Tryz.ntmps75;go_wp2_with fail;refine (split_any _ n (w.heap.size+1) 6 [1,3,1,7,12,40] (by omega) rfl (by decide) (by simp) (by exact fun j s h=>cells6 _ _ _ (by simp) j s h) (by simp [fitS])).mono ?_;rintro e w1 ⟨v,rfl,ho,hrow⟩;rw [HS.out] at hrow;obtain ⟨g,cap,cur,rfl,hg,hb1,hc⟩:=row_cells hrow (by decide);have c0:=hb1.at 0 (v:=.int .u64 a0) (by rw [hc 0 (by decide)]; rfl);have c1:=hb1.at 1 (v:=.int .u64 a1) (by rw [hc 1 (by decide)]; rfl);have c2:=hb1.at 2 (v:=.int .u64 a2) (by rw [hc 2 (by decide)]; rfl);have c3:=hb1.at 3 (v:=.int .u64 a3) (by rw [hc 3 (by decide)]; rfl);have c4:=hb1.at 4 (v:=.int .u64 a4) (by rw [hc 4 (by decide)]; rfl);have c5:=hb1.at 5 (v:=.int .u64 a5) (by rw [hc 5 (by decide)]; rfl);have HB:=hid (((Blk.new w 172 #[.bool false,.int .i64 0,.bool false,.int .i64 0]).alloc (.cells #[.int .i64 1,.int .i64 3,.int .i64 1,.int .i64 7,.int .i64 12,.int .i64 40] 3)).only ho (by simp));have HW:=hid ((((Only.refl [] w).alloc (.cells #[.bool false,.int .i64 0,.bool false,.int .i64 0] 172)).alloc (.cells #[.int .i64 1,.int .i64 3,.int .i64 1,.int .i64 7,.int .i64 12,.int .i64 40] 3)).trans ho);have HB1:=hid hb1;have hz:=hb1.lt;have HC3:=hid (show cur[3]?=some (.int .u64 a3) by rw [hc 3 (by decide)]; rfl);have HC5:=hid (show cur[5]?=some (.int .u64 a5) by rw [hc 5 (by decide)]; rfl);clear ho hrow hc hg hb1 c3 c5;go_upto_region 2 with fail;go_region_held3 (fun w'=>w'.cell? ⟨g,0,none⟩=some (.int .u64 a0)∧w'.cell? ⟨g,1,none⟩=some (.int .u64 a1)∧w'.cell? ⟨g,2,none⟩=some (.int .u64 a2)∧w'.cell? ⟨g,4,none⟩=some (.int .u64 a4))
  (first | exact ⟨c0,c1,c2,c4⟩ | go_keep)
  (fail)
 rename_i hHeld;clear hHeld c0 c1 c2 c4;obtain ⟨W,hW⟩:∃ W,(w1.alloc (.cells #[.bool pr,.int .i64 a1,.bool la,.int .i64 a4] 172)).drew=W:=⟨_,rfl⟩;rw [hW];have HB1:=hid (show Blk W g 28 cur by rw [← hW]; exact (HB1.out.alloc _).drew);have HE:=hid (show Blk W w1.heap.size 172 #[.bool pr,.int .i64 a1,.bool la,.int .i64 a4] by rw [← hW]; exact (Blk.new w1 _ _).drew);have HB:=hid (show Blk W w.heap.size 172 #[.bool false,.int .i64 0,.bool false,.int .i64 0] by rw [← hW]; exact (HB.out.alloc _).drew);have HW:=hid (show Only [] w W by rw [← hW]; exact (HW.out.alloc _).drew);obtain ⟨x,hx⟩:∃ x,w1.heap.size=x:=⟨_,rfl⟩;rw [hx] at HE ⊢;clear hW hz hx;have c3:=HB1.out.at 3 HC3.out;have c5:=HB1.out.at 5 HC5.out;have d0:=HE.out.at 0 (v:=.bool pr) rfl;have d1:=HE.out.at 1 (v:=.int .i64 a1) rfl;have d2:=HE.out.at 2 (v:=.bool la) rfl;have d3:=HE.out.at 3 (v:=.int .i64 a4) rfl;have r0:=HB.out.at 0 (v:=.bool false) rfl;have r1:=HB.out.at 1 (v:=.int .i64 0) rfl;have r2:=HB.out.at 2 (v:=.bool false) rfl;have r3:=HB.out.at 3 (v:=.int .i64 0) rfl;have f0:=HB.out.frozen 0;have f1:=HB.out.frozen 1;have f2:=HB.out.frozen 2;have f3:=HB.out.frozen 3;have HL:=hid (And.intro hl hp);clear hl hp;by_cases h3:0 < a3
 ·have HC:=hid hb;clear hb e1 e4 h1 d0 d1 d2 d3 c5;go_wp2_with fail;have H4:=set4 HB.out (.bool false) (.int .i64 0) (.bool false) (.int .i64 0);have q0:=H4.at 0 (v:=.bool false) rfl;have q1:=H4.at 1 (v:=.int .i64 0) rfl;have q2:=H4.at 2 (v:=.bool false) rfl;have q3:=H4.at 3 (v:=.int .i64 0) rfl;refine bodyPost_ret (v:=.tuple #[.agg #[.bool false,.int .i64 0,.bool false,.int .i64 0],.bool false]) (by simp [results,Tryz.results75,go_sem,q0,q1,q2,q3]) rfl ⟨?_,only4 HW.out (Nat.le_refl _) _ _ _ _⟩;have hB:B=false:=by rw [HO.out]; simp; omega
  rw [hB,← HRS.out,hB];rfl
 ·by_cases h5:0 < a5
  ·have HC:=hid hb;clear hb e1 e4 h1 d0 d1 d2 d3;go_wp2_with fail;have H4:=set4 HB.out (.bool false) (.int .i64 0) (.bool false) (.int .i64 0);have q0:=H4.at 0 (v:=.bool false) rfl;have q1:=H4.at 1 (v:=.int .i64 0) rfl;have q2:=H4.at 2 (v:=.bool false) rfl;have q3:=H4.at 3 (v:=.int .i64 0) rfl;refine bodyPost_ret (v:=.tuple #[.agg #[.bool false,.int .i64 0,.bool false,.int .i64 0],.bool false]) (by simp [results,Tryz.results75,go_sem,q0,q1,q2,q3]) rfl ⟨?_,only4 HW.out (Nat.le_refl _) _ _ _ _⟩;have hB:B=false:=by rw [HO.out]; simp; omega
   rw [hB,← HRS.out,hB];rfl
  ·have h35:a3=0∧a5=0:=by omega
   have H35:=hid h35;have HC:=hid hb;clear hb e1 e4 h1 h35;cases hrr:PE.right ⟨pr,a1,la,a4⟩
   ·have HRR:=hid hrr;clear hrr;go_wp2_with fail;refine (HR.out _).mono ?_;rintro e w3 ⟨rfl,ho⟩;rw [HRR.out];have HB:=hid (HB.out.only ho (by simp));have HE:=hid (HE.out.only ho (by simp));have HW:=hid (HW.out.trans ho);clear ho c3 c5 d0 d1 d2 d3 r0 r1 r2 r3 f0 f1 f2 f3;have r0:=HB.out.at 0 (v:=.bool false) rfl;have r1:=HB.out.at 1 (v:=.int .i64 0) rfl;have r2:=HB.out.at 2 (v:=.bool false) rfl;have r3:=HB.out.at 3 (v:=.int .i64 0) rfl;have f0:=HB.out.frozen 0;have f1:=HB.out.frozen 1;have f2:=HB.out.frozen 2;have f3:=HB.out.frozen 3;go_wp2_with fail;have H4:=set4 HB.out (.bool false) (.int .i64 0) (.bool false) (.int .i64 0);have q0:=H4.at 0 (v:=.bool false) rfl;have q1:=H4.at 1 (v:=.int .i64 0) rfl;have q2:=H4.at 2 (v:=.bool false) rfl;have q3:=H4.at 3 (v:=.int .i64 0) rfl;refine bodyPost_ret (v:=.tuple #[.agg #[.bool false,.int .i64 0,.bool false,.int .i64 0],.bool false]) (by simp [results,Tryz.results75,go_sem,q0,q1,q2,q3]) rfl ⟨?_,only4 HW.out (Nat.le_refl _) _ _ _ _⟩;have hB:B=false:=by rw [HO.out,HRR.out]; simp
    rw [hB,← HRS.out,hB];rfl
   ·have HRR:=hid hrr;clear hrr;go_wp2_with fail;refine (HR.out _).mono ?_;rintro e w3 ⟨rfl,ho⟩;rw [HRR.out];have HB:=hid (HB.out.only ho (by simp));have HE:=hid (HE.out.only ho (by simp));have HW:=hid (HW.out.trans ho);clear ho c3 c5 d0 d1 d2 d3 r0 r1 r2 r3 f0 f1 f2 f3;have d0:=HE.out.at 0 (v:=.bool pr) rfl;have d1:=HE.out.at 1 (v:=.int .i64 a1) rfl;have d2:=HE.out.at 2 (v:=.bool la) rfl;have d3:=HE.out.at 3 (v:=.int .i64 a4) rfl;have r0:=HB.out.at 0 (v:=.bool false) rfl;have r1:=HB.out.at 1 (v:=.int .i64 0) rfl;have r2:=HB.out.at 2 (v:=.bool false) rfl;have r3:=HB.out.at 3 (v:=.int .i64 0) rfl;have f0:=HB.out.frozen 0;have f1:=HB.out.frozen 1;have f2:=HB.out.frozen 2;have f3:=HB.out.frozen 3;go_wp2_with fail;have H4:=set4 HB.out (.bool pr) (.int .i64 a1) (.bool la) (.int .i64 a4);have q0:=H4.at 0 (v:=.bool pr) rfl;have q1:=H4.at 1 (v:=.int .i64 a1) rfl;have q2:=H4.at 2 (v:=.bool la) rfl;have q3:=H4.at 3 (v:=.int .i64 a4) rfl;refine bodyPost_ret (v:=.tuple #[.agg #[.bool pr,.int .i64 a1,.bool la,.int .i64 a4],.bool true]) (by simp [results,Tryz.results75,go_sem,q0,q1,q2,q3]) rfl ⟨?_,only4 HW.out (Nat.le_refl _) _ _ _ _⟩;have hB:B=true:=by rw [HO.out,HRR.out]; simp [H35.out]
    rw [hB,← HRS.out,hB];rfl
def SaysB (e:Ending):Prop:=∃ b,e=.returned (.bool b)
theorem allows_any (w:World) (x:PE) (want:Int):Calls Tryz.prog 159 #[x.val,.int .i64 want] w fun e w'=>SaysB e∧Only [] w w':=by
 obtain ⟨pr,ri,la,fr⟩:=x;have HV:=hid (show PE.val ⟨pr,ri,la,fr⟩=.agg #[.bool pr,.int .i64 ri,.bool la,.int .i64 fr] from rfl);have HR:=hid (right_any · ⟨pr,ri,la,fr⟩);rw [HV.out];cases hrr:PE.right ⟨pr,ri,la,fr⟩
 ·have HRR:=hid hrr;clear hrr;go_enter Tryz.func159,Tryz.ntmps159;go_wp2_with fail;refine (HR.out _).mono ?_;rintro e w1 ⟨rfl,ho⟩;rw [HRR.out];have HO:=hid (((Only.refl [] w).alloc (.cells #[.bool pr,.int .i64 ri,.bool la,.int .i64 fr] 172)).trans ho);clear ho;go_wp2_with fail;go_ret;exact ⟨⟨_,rfl⟩,HO.out⟩
 ·have HRR:=hid hrr;clear hrr;by_cases h1:0 < ri
  ·by_cases h2:0≤want
   ·by_cases h3:want≤7
    ·skip;go_enter Tryz.func159,Tryz.ntmps159;go_wp2_with fail;refine (HR.out _).mono ?_;rintro e w1 ⟨rfl,ho⟩;rw [HRR.out];have HO:=hid (((Only.refl [] w).alloc (.cells #[.bool pr,.int .i64 ri,.bool la,.int .i64 fr] 172)).trans ho);have HB:=hid ((Blk.new w 172 #[.bool pr,.int .i64 ri,.bool la,.int .i64 fr]).only ho (by simp));have c1:=HB.out.at 1 (v:=.int .i64 ri) rfl;clear ho;go_wp2_with fail;go_ret;exact ⟨⟨_,rfl⟩,HO.out⟩
    ·skip;go_enter Tryz.func159,Tryz.ntmps159;go_wp2_with fail;refine (HR.out _).mono ?_;rintro e w1 ⟨rfl,ho⟩;rw [HRR.out];have HO:=hid (((Only.refl [] w).alloc (.cells #[.bool pr,.int .i64 ri,.bool la,.int .i64 fr] 172)).trans ho);have HB:=hid ((Blk.new w 172 #[.bool pr,.int .i64 ri,.bool la,.int .i64 fr]).only ho (by simp));have c1:=HB.out.at 1 (v:=.int .i64 ri) rfl;clear ho;go_wp2_with fail;go_ret;exact ⟨⟨_,rfl⟩,HO.out⟩
   ·skip;go_enter Tryz.func159,Tryz.ntmps159;go_wp2_with fail;refine (HR.out _).mono ?_;rintro e w1 ⟨rfl,ho⟩;rw [HRR.out];have HO:=hid (((Only.refl [] w).alloc (.cells #[.bool pr,.int .i64 ri,.bool la,.int .i64 fr] 172)).trans ho);have HB:=hid ((Blk.new w 172 #[.bool pr,.int .i64 ri,.bool la,.int .i64 fr]).only ho (by simp));have c1:=HB.out.at 1 (v:=.int .i64 ri) rfl;clear ho;go_wp2_with fail;go_ret;exact ⟨⟨_,rfl⟩,HO.out⟩
  ·skip;go_enter Tryz.func159,Tryz.ntmps159;go_wp2_with fail;refine (HR.out _).mono ?_;rintro e w1 ⟨rfl,ho⟩;rw [HRR.out];have HO:=hid (((Only.refl [] w).alloc (.cells #[.bool pr,.int .i64 ri,.bool la,.int .i64 fr] 172)).trans ho);have HB:=hid ((Blk.new w 172 #[.bool pr,.int .i64 ri,.bool la,.int .i64 fr]).only ho (by simp));have c1:=HB.out.at 1 (v:=.int .i64 ri) rfl;clear ho;go_wp2_with fail;go_ret;exact ⟨⟨_,rfl⟩,HO.out⟩
structure IsM (w:World) (b s:Nat) (L:List Int):Prop where
 cl:∃ c l,MemAt w b s L c l
 wf:∀ x ∈ L,0≤x∧x < 18446744073709551616
section
variable {w w':World} {b s:Nat} {L:List Int}
theorem IsM.only {S:List Nat} (h:IsM w b s L) (o:Only S w w') (hb:b ∉ S) (hs:s ∉ S):IsM w' b s L:=by
 obtain ⟨⟨c,l,hm⟩,hw⟩:=h;exact ⟨⟨c,l,hm.only o hb hs⟩,hw⟩
theorem IsM.lt (h:IsM w b s L):b < w.heap.size∧s < w.heap.size:=by
 obtain ⟨⟨c,l,hm⟩,hw⟩:=h;exact ⟨hm.obj.lt,hm.row.lt⟩
theorem IsM.len (h:IsM w b s L):1≤L.length∧L.length≤65536:=by
 obtain ⟨⟨c,l,hm⟩,hw⟩:=h;exact ⟨hm.len,hm.max⟩
theorem IsM.blk (h:IsM w b s L):∃ cs cs',Blk w b 113 cs∧Blk w s 28 cs':=by
 obtain ⟨⟨c,l,hm⟩,hw⟩:=h;exact ⟨_,_,hm.obj,hm.row⟩
theorem IsM.ld_range (h:IsM w b s L) (i:Int):0≤ld L i∧ld L i < 18446744073709551616:=by
 unfold ld;split
 ·rename_i hi;have hi:=of_decide_eq_true hi;have:=h.wf (nth L i.toNat) (by
   unfold nth;rw [List.getD_eq_getElem?_getD,List.getElem?_eq_getElem (by omega)];exact List.getElem_mem _)
  exact this
 ·decide
theorem st_wf {L:List Int} (h:∀ x ∈ L,0≤x∧x < 18446744073709551616) {i v:Int} (h0:0≤v) (h1:v < 18446744073709551616):∀ x ∈ st L i v,0≤x∧x < 18446744073709551616:=by
 unfold st;split
 ·intro x hx;rcases List.mem_or_eq_of_mem_set hx with h2 | rfl
  ·exact h x h2
  ·exact ⟨h0,h1⟩
 ·exact h
theorem st_len (L:List Int) (i v:Int):(st L i v).length=L.length:=by
 unfold st;split <;> simp
theorem lod_any (hm:IsM w b s L) (i:Int):Calls Tryz.prog 50 #[.pointer (some ⟨b,0,none⟩),.int .i64 i] w fun e w'=>
 e=.returned (.tuple #[.int .u64 (ld L i),.int .i64 (eN L i)])∧Only [b,s] w w'∧IsM w' b s L:=by
 obtain ⟨⟨c,l,h⟩,hw⟩:=hm;unfold ld eN hasN;by_cases hc:0≤i∧i < L.length
 ·rw [decide_eq_true hc,if_pos rfl,if_pos rfl];refine (load_in w b s L c l i h hc.1 hc.2).mono ?_;rintro e w' ⟨rfl,ho,h'⟩;exact ⟨rfl,ho.sub (by simp),⟨_,_,h'⟩,hw⟩
 ·rw [decide_eq_false hc,if_neg (by simp),if_neg (by simp)];refine (load_out w b s L c l i h (by omega)).mono ?_;rintro e w' ⟨rfl,ho⟩;exact ⟨rfl,ho.sub (by simp),⟨_,_,h.only ho (by simp) (by simp)⟩,hw⟩
theorem sto_any (hm:IsM w b s L) (i v:Int) (h0:0≤v) (h1:v < 18446744073709551616):Calls Tryz.prog 49 #[.pointer (some ⟨b,0,none⟩),.int .i64 i,.int .u64 v] w fun e w'=>
 e=.returned (.int .i64 (eN L i))∧Only [b,s] w w'∧IsM w' b s (st L i v):=by
 have hs:=st_wf hm.wf (i:=i) h0 h1;obtain ⟨⟨c,l,h⟩,hw⟩:=hm;unfold st at hs ⊢;unfold eN hasN at *;by_cases hc:0≤i∧i < L.length
 ·rw [decide_eq_true hc,if_pos rfl] at *;rw [if_pos rfl];refine (store_in w b s L c l i v h hc.1 hc.2).mono ?_;rintro e w' ⟨rfl,ho,h'⟩;exact ⟨rfl,ho,⟨_,_,h'⟩,hs⟩
 ·rw [decide_eq_false hc,if_neg (by simp)] at *;rw [if_neg (by simp)];refine (store_out w b s L c l i v h (by omega)).mono ?_;rintro e w' ⟨rfl,ho⟩;exact ⟨rfl,ho.sub (by simp),⟨_,_,h.only ho (by simp) (by simp)⟩,hs⟩
theorem mlen_any (hm:IsM w b s L):Calls Tryz.prog 122 #[.pointer (some ⟨b,0,none⟩)] w fun e w'=>e=.returned (.int .i64 L.length)∧w=w':=by
 obtain ⟨⟨c,l,h⟩,hw⟩:=hm;exact len_at w b s L.length h.c0
end
end Go.Proofs.YtadgpnoealegiaaGreat
