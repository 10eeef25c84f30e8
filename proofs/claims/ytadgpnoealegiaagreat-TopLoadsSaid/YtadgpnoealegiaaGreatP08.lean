import Derived.Test.YtadgpnoealegiaaGreatP07
import Derived.Maps.AppendAt
import Derived.Maps.OwnIn
namespace Go.Proofs.YtadgpnoealegiaaGreat
open Go.RowKit
open Go.Lib (hid)
set_option maxRecDepth 100000
set_option maxHeartbeats 20000000
section
open Go.Shelf
attribute [local go_sem] Oper.semAt_some
theorem suchTo_succ (ps:List D) (is:D→Bool) (k:Nat):suchTo ps is (k+1)=suchTo ps is k ++ (if is (dOf ps k)=true then [(k:Int)] else []):=by
 unfold suchTo;rw [List.range_succ,List.filter_append,List.map_append];congr 1;by_cases h:is (dOf ps k)=true <;> simp [h]
theorem suchTo_len (ps:List D) (is:D→Bool) (k:Nat):(suchTo ps is k).length≤k:=by
 unfold suchTo;rw [List.length_map];exact Nat.le_trans (List.length_filter_le _ _) (by simp)
theorem such_any (w:World) (pb:Nat) (f:Nat) (caps:Array Value):Calls Tryz.prog 165 #[ptr pb,.func (.func f) #[] caps] w fun e w'=>e=.returned (.func (.func 199) #[] #[ptr w.heap.size,ptr (w.heap.size+1)])∧w'=(w.alloc (.cells #[ptr pb] 81)).alloc (.cells #[.func (.func f) #[] caps] 244):=by
 go_enter Tryz.func165,Tryz.ntmps165;go_wp2;go_ret;exact ⟨rfl,rfl⟩
theorem pof_any (w:World) (pb:Nat) (k:Int):Calls Tryz.prog 174 #[ptr pb,.int .i64 k] w fun e w'=>e=.returned (.func (.func 199) #[] #[ptr (w.heap.size+1),ptr (w.heap.size+1+1)])∧w'=((w.alloc (.cells #[.int .i64 k] 3)).alloc (.cells #[ptr pb] 81)).alloc (.cells #[.func (.func 202) #[] #[ptr w.heap.size]] 244):=by
 go_enter Tryz.func174,Tryz.ntmps174;go_wp2_with fail;refine (such_any _ _ _ _).mono ?_;rintro e w1 ⟨rfl,rfl⟩;go_wp2_with fail;go_ret;exact ⟨rfl,rfl⟩
theorem suchTo_pre (ps:List D) (is:D→Bool) {j m:Nat} (h:j≤m):suchTo ps is j <+: suchTo ps is m:=by
 induction m with
 | zero=>obtain rfl:j=0:=by omega
         exact List.prefix_rfl
 | succ m ih=>
  by_cases e:j=m+1
  ·rw [e];exact List.prefix_rfl
  ·rw [suchTo_succ];exact (ih (by omega)).trans (List.prefix_append _ _)
theorem cell_blk {w:World} {b i:Nat} {v:Value} (h:w.cell? ⟨b,i,none⟩=some v):∃ t cs f,w.heap[b]?=some (.cells cs t f)∧b < w.heap.size:=by
 unfold World.cell? at h;split at h
 ·rename_i cs t f hb;exact ⟨t,cs,f,hb,(Array.getElem?_eq_some_iff.1 hb).1⟩
 ·cases h
theorem RK.cell {B:Nat} {W W':World} (h:RK B W W') {b i:Nat} {v:Value} (hc:W.cell? ⟨b,i,none⟩=some v) (hn:¬ Mine B W b):W'.cell? ⟨b,i,none⟩=some v:=by
 obtain ⟨t,cs,f,hb,_⟩:=cell_blk hc;rw [← hc];exact World.cell?_of_block (w:=W) ((h.block b _ hb (fun r e=>by cases e) hn).trans hb.symm)
theorem ofD_any (w:World) (d:D) (b:Nat) (k:Int) (hc:w.cell? ⟨b,0,none⟩=some (.int .i64 k)) (hb:b < w.heap.size):Calls Tryz.prog 202 #[d.val,ptr b] w fun e w'=>e=.returned (.bool (d.k == k))∧Only [] w w':=by
 obtain ⟨kk,oo,rr,ee⟩:=d;have hc2:=(((Only.refl [] w).alloc (.cells #[.int .i64 kk,.int .i64 oo,.int .i64 rr,.int .i64 ee] 159)).cell (p:=⟨b,0,none⟩) hb (by simp)).trans hc;rw [dval_out];dsimp only;clear hc;go_enter Tryz.func202,Tryz.ntmps202;go_wp2;go_ret;exact ⟨rfl,(Only.refl _ _).alloc _⟩
structure It_of (B:Nat) (w:World) (b1 b2 b3 pb pr:Nat) (k:Int) (ps:List D):Prop where
 c1:w.cell? ⟨b1,0,none⟩=some (ptr pb)
 c2:w.cell? ⟨b2,0,none⟩=some (.func (.func 202) #[] #[ptr b3])
 c3:w.cell? ⟨b3,0,none⟩=some (.int .i64 k)
 n1:¬ Mine B w b1
 n2:¬ Mine B w b2
 n3:¬ Mine B w b3
 nb:¬ Mine B w pb
 nr:¬ Mine B w pr
 lB:B < w.heap.size
 pool:IsPool w pb pr ps
theorem It_of.rk {B:Nat} {w w':World} {b1 b2 b3 pb pr:Nat} {k:Int} {ps:List D} (h:It_of B w b1 b2 b3 pb pr k ps) (r:RK B w w'):It_of B w' b1 b2 b3 pb pr k ps:=
 ⟨r.cell h.c1 h.n1,r.cell h.c2 h.n2,r.cell h.c3 h.n3,r.not (cell_blk h.c1).choose_spec.choose_spec.choose_spec.2 h.n1,r.not (cell_blk h.c2).choose_spec.choose_spec.choose_spec.2 h.n2,r.not (cell_blk h.c3).choose_spec.choose_spec.choose_spec.2 h.n3,
  r.not h.pool.lt.1 h.nb,r.not h.pool.lt.2 h.nr,Nat.lt_of_lt_of_le h.lB r.size,⟨r.blk h.pool.obj h.nb,r.blk h.pool.row h.nr,h.pool.len,h.pool.max,h.pool.wf⟩⟩
theorem It_of.only {B:Nat} {w w':World} {b1 b2 b3 pb pr:Nat} {k:Int} {ps:List D} (h:It_of B w b1 b2 b3 pb pr k ps) (o:Only [] w w'):It_of B w' b1 b2 b3 pb pr k ps:=
 ⟨(o.cell (p:=⟨b1,0,none⟩) (cell_blk h.c1).choose_spec.choose_spec.choose_spec.2 (by simp)).trans h.c1,(o.cell (p:=⟨b2,0,none⟩) (cell_blk h.c2).choose_spec.choose_spec.choose_spec.2 (by simp)).trans h.c2,(o.cell (p:=⟨b3,0,none⟩) (cell_blk h.c3).choose_spec.choose_spec.choose_spec.2 (by simp)).trans h.c3,
   mine_only o h.lB (by simp) h.n1,mine_only o h.lB (by simp) h.n2,mine_only o h.lB (by simp) h.n3,mine_only o h.lB (by simp) h.nb,mine_only o h.lB (by simp) h.nr,Nat.lt_of_lt_of_le h.lB o.size,h.pool.only o (by simp) (by simp)⟩
theorem of_it (n B b1 b2 b3 pb pr:Nat) (k:Int) (ps:List D) (w:World) (hn:1≤n) (h:It_of B w b1 b2 b3 pb pr k ps) :
 ItK Fence.wide n Tryz.prog 199 #[ptr b1,ptr b2] (fun x:Int=>#[.int .i64 x]) (RK B) (fun xs=>xs=suchN ps fun d=>d.k == k) (fun pre=>pre≠[]∧pre <+: suchN ps fun d=>d.k == k) 4096 [] (fun _=>True) w:=by
 intro l J Jx W hW hJ hJx hY h0;obtain ⟨m,hm⟩:∃ m,ps.length=m:=⟨_,rfl⟩;have hm1:=h.pool.len;have hm2:=h.pool.max;rw [hm] at hm1 hm2;have hst:=h.only hW;have c1:=hst.c1;have p0:=hst.pool.obj.at 0 (v:=.slice (some ⟨pr,0,none⟩) m m) (by rw [hm]; rfl);have HM:=hid hm;have HY:=hid hY;have HJ:=hid hJ;have HX:=hid hJx;have HI:=hid hst;have H0:=hid h0;clear hm hY hJ hJx hst h h0 hW;refine callsIn_of_wp Tryz.func199 rfl trivial ?_ rfl;simp only [Tryz.ntmps199,List.size_toArray,List.length_cons,List.length_nil,Nat.reduceAdd,Nat.reduceSub,Array.replicate_succ,Array.replicate_zero,List.push_toArray,List.append_toArray,List.nil_append,List.cons_append];gi_wp2
 gi_loopw [13] (fun i wr=>∃ j:Nat,j≤m∧i=.int .i64 j∧J (suchTo ps (fun d=>d.k == k) j) wr∧It_of B wr b1 b2 b3 pb pr k ps) (fun i _=>m - (intOf i).toNat)
 case atStart=>exact ⟨0,Nat.zero_le _,rfl,H0.out,HI.out⟩
 case round=>
  have HR:=hid hrel;clear hrel HI H0 c1 p0;obtain ⟨j,hj,rfl,hJs,hI⟩:=HR.out;have HI:=hid hI;have HJS:=hid hJs;clear hI hJs HR;by_cases hlt:j < m
  ·have hlti:(j:Int) < m:=by omega
   have hjl:j < ps.length:=by rw [HM.out]; exact hlt
   obtain ⟨d,hd⟩:∃ d,dOf ps j=d:=⟨_,rfl⟩;have hat:=HI.out.pool.at hjl;rw [hd] at hat;have HD:=hid hd;obtain ⟨kk,oo,rr,ee⟩:=d;obtain ⟨x0,x1,x2,x3⟩:=HI.out.pool.cell hat.1;dsimp only at x0 x1 x2 x3;clear hat hd hjl;have ho0:=(Only.refl [] wr).alloc (.cells #[.int .i64 kk,.int .i64 oo,.int .i64 rr,.int .i64 ee] 159);have HI2:=hid (HI.out.only ho0);have HO0:=hid ho0;clear ho0;have c2:=HI2.out.c2;gi_wp2;refine ⟨trivial,?_⟩;refine (callsIn_wide.2 (ofD_any _ ⟨kk,oo,rr,ee⟩ b3 k HI2.out.c3 (cell_blk HI2.out.c3).choose_spec.choose_spec.choose_spec.2)).mono ?_;rintro e w3 ⟨rfl,ho⟩;dsimp only;have HI3:=hid (HI2.out.only ho);have HO3:=hid (HO0.out.trans ho);clear ho x0 x1 x2 x3 c2;cases hb:(kk == k)
   ·have HB:=hid hb;clear hb;gi_wp2;refine ⟨fun _ h=>(by cases h),?_⟩;gi_wp2
    go_roundw
    case rel=>exact ⟨j+1,by omega,by simp,by rw [suchTo_succ,if_neg (by rw [HD.out]; dsimp only; rw [HB.out]; simp),List.append_nil]; exact HJ.out _ _ _ HJS.out HO3.out,HI3.out⟩
    case measure=>simp [intOf]; omega
   ·have HB:=hid hb;clear hb;have HS:=hid (show suchTo ps (fun d=>d.k == k) (j+1)=suchTo ps (fun d=>d.k == k) j ++ [(j:Int)] by rw [suchTo_succ,if_pos (by rw [HD.out]; dsimp only; rw [HB.out])]);obtain ⟨fn,tmps,assign,body,hy,hR⟩:=HY.out (suchTo ps (fun d=>d.k == k) j) (j:Int) w3 (HJ.out _ _ _ HJS.out HO3.out) (by have:=suchTo_len ps (fun d=>d.k == k) j; omega);have HRR:=hid hR;clear hR;gi_wp2;refine HRR.out.mono ?_;rintro e W3 (⟨rfl,hJ3,hk3⟩ | ⟨rfl,hJx3⟩)
    ·have H3:=hid (And.intro hJ3 hk3);clear hJ3 hk3 hy;gi_wp2
     go_roundw
     case rel=>exact ⟨j+1,by omega,by simp,by rw [HS.out]; exact H3.out.1,HI3.out.rk H3.out.2⟩
     case measure=>simp [intOf]; omega
    ·have H3:=hid hJx3;clear hJx3 hy;gi_wp2;refine bodyPost_ret (results_none rfl _ _ _) rfl ?_;refine ⟨⟨_,rfl⟩,.inr ⟨suchTo ps (fun d=>d.k == k) (j+1),⟨by rw [HS.out]; simp,?_⟩,by rw [HS.out]; exact H3.out⟩⟩;unfold suchN;rw [HM.out];exact suchTo_pre ps _ (by omega)
  ·obtain rfl:j=m:=by omega
   gi_wp2;go_end0;exact ⟨⟨_,rfl⟩,.inl ⟨_,by unfold suchN; rw [HM.out],trivial,HJS.out⟩⟩
theorem ownedD_any (w:World) (d:D) (b:Nat) (k:Int) (hc:w.cell? ⟨b,0,none⟩=some (.int .i64 k)) (hb:b < w.heap.size):Calls Tryz.prog 166 #[d.val,ptr b] w fun e w'=>e=.returned (.bool (d.o == k))∧Only [] w w':=by
 obtain ⟨kk,oo,rr,ee⟩:=d;have hc2:=(((Only.refl [] w).alloc (.cells #[.int .i64 kk,.int .i64 oo,.int .i64 rr,.int .i64 ee] 159)).cell (p:=⟨b,0,none⟩) hb (by simp)).trans hc;rw [dval_out];dsimp only;clear hc;go_enter Tryz.func166,Tryz.ntmps166;go_wp2;go_ret;exact ⟨rfl,(Only.refl _ _).alloc _⟩
structure It_owned (B:Nat) (w:World) (b1 b2 b3 pb pr:Nat) (k:Int) (ps:List D):Prop where
 c1:w.cell? ⟨b1,0,none⟩=some (ptr pb)
 c2:w.cell? ⟨b2,0,none⟩=some (.func (.func 166) #[] #[ptr b3])
 c3:w.cell? ⟨b3,0,none⟩=some (.int .i64 k)
 n1:¬ Mine B w b1
 n2:¬ Mine B w b2
 n3:¬ Mine B w b3
 nb:¬ Mine B w pb
 nr:¬ Mine B w pr
 lB:B < w.heap.size
 pool:IsPool w pb pr ps
theorem It_owned.rk {B:Nat} {w w':World} {b1 b2 b3 pb pr:Nat} {k:Int} {ps:List D} (h:It_owned B w b1 b2 b3 pb pr k ps) (r:RK B w w'):It_owned B w' b1 b2 b3 pb pr k ps:=
 ⟨r.cell h.c1 h.n1,r.cell h.c2 h.n2,r.cell h.c3 h.n3,r.not (cell_blk h.c1).choose_spec.choose_spec.choose_spec.2 h.n1,r.not (cell_blk h.c2).choose_spec.choose_spec.choose_spec.2 h.n2,r.not (cell_blk h.c3).choose_spec.choose_spec.choose_spec.2 h.n3,
  r.not h.pool.lt.1 h.nb,r.not h.pool.lt.2 h.nr,Nat.lt_of_lt_of_le h.lB r.size,⟨r.blk h.pool.obj h.nb,r.blk h.pool.row h.nr,h.pool.len,h.pool.max,h.pool.wf⟩⟩
theorem It_owned.only {B:Nat} {w w':World} {b1 b2 b3 pb pr:Nat} {k:Int} {ps:List D} (h:It_owned B w b1 b2 b3 pb pr k ps) (o:Only [] w w'):It_owned B w' b1 b2 b3 pb pr k ps:=
 ⟨(o.cell (p:=⟨b1,0,none⟩) (cell_blk h.c1).choose_spec.choose_spec.choose_spec.2 (by simp)).trans h.c1,(o.cell (p:=⟨b2,0,none⟩) (cell_blk h.c2).choose_spec.choose_spec.choose_spec.2 (by simp)).trans h.c2,(o.cell (p:=⟨b3,0,none⟩) (cell_blk h.c3).choose_spec.choose_spec.choose_spec.2 (by simp)).trans h.c3,
   mine_only o h.lB (by simp) h.n1,mine_only o h.lB (by simp) h.n2,mine_only o h.lB (by simp) h.n3,mine_only o h.lB (by simp) h.nb,mine_only o h.lB (by simp) h.nr,Nat.lt_of_lt_of_le h.lB o.size,h.pool.only o (by simp) (by simp)⟩
theorem owned_it (n B b1 b2 b3 pb pr:Nat) (k:Int) (ps:List D) (w:World) (hn:1≤n) (h:It_owned B w b1 b2 b3 pb pr k ps) :
 ItK Fence.wide n Tryz.prog 199 #[ptr b1,ptr b2] (fun x:Int=>#[.int .i64 x]) (RK B) (fun xs=>xs=suchN ps fun d=>d.o == k) (fun pre=>pre≠[]∧pre <+: suchN ps fun d=>d.o == k) 4096 [] (fun _=>True) w:=by
 intro l J Jx W hW hJ hJx hY h0;obtain ⟨m,hm⟩:∃ m,ps.length=m:=⟨_,rfl⟩;have hm1:=h.pool.len;have hm2:=h.pool.max;rw [hm] at hm1 hm2;have hst:=h.only hW;have c1:=hst.c1;have p0:=hst.pool.obj.at 0 (v:=.slice (some ⟨pr,0,none⟩) m m) (by rw [hm]; rfl);have HM:=hid hm;have HY:=hid hY;have HJ:=hid hJ;have HX:=hid hJx;have HI:=hid hst;have H0:=hid h0;clear hm hY hJ hJx hst h h0 hW;refine callsIn_of_wp Tryz.func199 rfl trivial ?_ rfl;simp only [Tryz.ntmps199,List.size_toArray,List.length_cons,List.length_nil,Nat.reduceAdd,Nat.reduceSub,Array.replicate_succ,Array.replicate_zero,List.push_toArray,List.append_toArray,List.nil_append,List.cons_append];gi_wp2
 gi_loopw [13] (fun i wr=>∃ j:Nat,j≤m∧i=.int .i64 j∧J (suchTo ps (fun d=>d.o == k) j) wr∧It_owned B wr b1 b2 b3 pb pr k ps) (fun i _=>m - (intOf i).toNat)
 case atStart=>exact ⟨0,Nat.zero_le _,rfl,H0.out,HI.out⟩
 case round=>
  have HR:=hid hrel;clear hrel HI H0 c1 p0;obtain ⟨j,hj,rfl,hJs,hI⟩:=HR.out;have HI:=hid hI;have HJS:=hid hJs;clear hI hJs HR;by_cases hlt:j < m
  ·have hlti:(j:Int) < m:=by omega
   have hjl:j < ps.length:=by rw [HM.out]; exact hlt
   obtain ⟨d,hd⟩:∃ d,dOf ps j=d:=⟨_,rfl⟩;have hat:=HI.out.pool.at hjl;rw [hd] at hat;have HD:=hid hd;obtain ⟨kk,oo,rr,ee⟩:=d;obtain ⟨x0,x1,x2,x3⟩:=HI.out.pool.cell hat.1;dsimp only at x0 x1 x2 x3;clear hat hd hjl;have ho0:=(Only.refl [] wr).alloc (.cells #[.int .i64 kk,.int .i64 oo,.int .i64 rr,.int .i64 ee] 159);have HI2:=hid (HI.out.only ho0);have HO0:=hid ho0;clear ho0;have c2:=HI2.out.c2;gi_wp2;refine ⟨trivial,?_⟩;refine (callsIn_wide.2 (ownedD_any _ ⟨kk,oo,rr,ee⟩ b3 k HI2.out.c3 (cell_blk HI2.out.c3).choose_spec.choose_spec.choose_spec.2)).mono ?_;rintro e w3 ⟨rfl,ho⟩;dsimp only;have HI3:=hid (HI2.out.only ho);have HO3:=hid (HO0.out.trans ho);clear ho x0 x1 x2 x3 c2;cases hb:(oo == k)
   ·have HB:=hid hb;clear hb;gi_wp2;refine ⟨fun _ h=>(by cases h),?_⟩;gi_wp2
    go_roundw
    case rel=>exact ⟨j+1,by omega,by simp,by rw [suchTo_succ,if_neg (by rw [HD.out]; dsimp only; rw [HB.out]; simp),List.append_nil]; exact HJ.out _ _ _ HJS.out HO3.out,HI3.out⟩
    case measure=>simp [intOf]; omega
   ·have HB:=hid hb;clear hb;have HS:=hid (show suchTo ps (fun d=>d.o == k) (j+1)=suchTo ps (fun d=>d.o == k) j ++ [(j:Int)] by rw [suchTo_succ,if_pos (by rw [HD.out]; dsimp only; rw [HB.out])]);obtain ⟨fn,tmps,assign,body,hy,hR⟩:=HY.out (suchTo ps (fun d=>d.o == k) j) (j:Int) w3 (HJ.out _ _ _ HJS.out HO3.out) (by have:=suchTo_len ps (fun d=>d.o == k) j; omega);have HRR:=hid hR;clear hR;gi_wp2;refine HRR.out.mono ?_;rintro e W3 (⟨rfl,hJ3,hk3⟩ | ⟨rfl,hJx3⟩)
    ·have H3:=hid (And.intro hJ3 hk3);clear hJ3 hk3 hy;gi_wp2
     go_roundw
     case rel=>exact ⟨j+1,by omega,by simp,by rw [HS.out]; exact H3.out.1,HI3.out.rk H3.out.2⟩
     case measure=>simp [intOf]; omega
    ·have H3:=hid hJx3;clear hJx3 hy;gi_wp2;refine bodyPost_ret (results_none rfl _ _ _) rfl ?_;refine ⟨⟨_,rfl⟩,.inr ⟨suchTo ps (fun d=>d.o == k) (j+1),⟨by rw [HS.out]; simp,?_⟩,by rw [HS.out]; exact H3.out⟩⟩;unfold suchN;rw [HM.out];exact suchTo_pre ps _ (by omega)
  ·obtain rfl:j=m:=by omega
   gi_wp2;go_end0;exact ⟨⟨_,rfl⟩,.inl ⟨_,by unfold suchN; rw [HM.out],trivial,HJS.out⟩⟩
end
section
open Go.Shelf
attribute [local go_sem] Oper.semAt_some
theorem RK.setPlain {B:Nat} {W:World} {t:TypeId} {cs:Array Value} (h:Blk W B t cs) {u v:Value} (hc:cs=#[u]) (hv:v.ownBlock=none):RK B W (W.setCell ⟨B,0,none⟩ v):=by
 subst hc;have hlt:=h.lt;have hb:Blk (W.setCell ⟨B,0,none⟩ v) B t #[v]:=by simpa using h.set 0 v
 have hm:∀ k,Mine B (W.setCell ⟨B,0,none⟩ v) k→k=B:=fun k hm=>by
  rcases hm with rfl | ⟨x,h1,h2⟩
  ·rfl
  ·rw [hb.at 0 (v:=v) rfl] at h1;cases h1;rw [hv] at h2;cases h2
 exact ⟨by simp [World.setCell],fun k o hk _ hn=>(Below.heap_setCell W ⟨B,0,none⟩ v k (fun e=>hn (.inl e))).trans hk,fun k h1=>.inl (.inl (hm k h1)),fun _ k h1=>by rw [hm k h1]; simpa [World.setCell] using hlt⟩
theorem Only.putObj {S:List Nat} {a w:World} {D:Nat} (h:Only S a w) (hD:a.heap.size≤D) (o:Obj):Only S a (w.putObj D o):=
 ⟨h.os,h.tape,h.output,by simpa [World.putObj] using h.size,fun k hk hn=>(World.putObj_heap_other (by omega)).trans (h.block k hk hn)⟩
theorem row_blk {w:World} {b0 e sz n:Nat} {sl:Value} {xs:List Value} (h:w.ownsRow b0 e sz sl n xs):∀ x ∈ sl.ownBlock.toList,b0≤x∧∃ cs,Blk w x e cs:=fun x hx=>by
 rcases h.2 with ⟨rfl,_⟩ | ⟨g,cap,cur,rfl,hb,hh,_⟩
 ·simp [Value.ownBlock] at hx
 ·simp [Value.ownBlock] at hx;subst hx;exact ⟨hb,cur,hh⟩
theorem news_blk {w:World} {g t:Nat} {cs:Array Value} (hb:Blk w g t cs):∀ j u,cs.toList[j]?=some u→w.cell? ((⟨g,0,none⟩:Addr).add j)=some u:=fun j u hu=>by
 have hadd:(⟨g,0,none⟩:Addr).add j=⟨g,j,none⟩:=by unfold Addr.add; split <;> simp_all
 rw [hadd];exact hb.at j (by simpa using hu)
theorem RK.alloc {B:Nat} (W:World) (hB:B < W.heap.size) (o:Obj):RK B W (W.alloc o):=
 ⟨by simp,fun k x hk _ _=>(Below.heap_alloc W o k (Array.getElem?_eq_some_iff.1 hk).1).trans hk,fun k hm=>.inl (mine_same (((Only.refl [] W).alloc o).cell (p:=⟨B,0,none⟩) hB (by simp)) hm),
  fun hl k hm=>by have:=hl k (mine_same (((Only.refl [] W).alloc o).cell (p:=⟨B,0,none⟩) hB (by simp)) hm); simp; omega⟩
theorem col_step {w W W1 W2:World} {S:List Nat} {B t e sz k base:Nat} {v v':Value} {xs ys:List Value} {o:Obj} (hv:Blk W B t #[v]) (hrow:W.ownsRow base e sz v k xs) (hW1:W1=W.alloc o) (hown:W2.ownsRow base e sz v' (k+1) ys)
 (hg:W1.grownBy W2 v.ownBlock) (hat:v'.ownBlock=v.ownBlock∨v'.ownBlock=some W1.heap.size) (ht:t≠e) (ho:Only S w W) (hB:w.heap.size≤B) (hb:w.heap.size≤base) :
 KeepsOthers W (W2.setCell ⟨B,0,none⟩ v')∧RK B W (W2.setCell ⟨B,0,none⟩ v')∧Blk (W2.setCell ⟨B,0,none⟩ v') B t #[v']∧(W2.setCell ⟨B,0,none⟩ v').ownsRow base e sz v' (k+1) ys∧Only S w (W2.setCell ⟨B,0,none⟩ v'):=by
 subst hW1;have hrb:=row_blk hrow;have hv1:Blk (W.alloc o) B t #[v]:=hv.alloc o;have hnB:B ∉ v.ownBlock.toList:=fun hm=>by
  obtain ⟨_,cs,hb1⟩:=hrb B hm;exact ht (Blk.inj hv hb1).1
 have hv2:Blk W2 B t #[v]:=hv1.only (grown_only hg) hnB;have hv3:Blk (W2.setCell ⟨B,0,none⟩ v') B t #[v']:=by simpa using hv2.set 0 v'
 have hnB':B ∉ v'.ownBlock.toList:=fun hm=>by
  obtain ⟨_,cs,hb1⟩:=row_blk hown B hm;exact ht (Blk.inj hv2 hb1).1
 have hrow3:(W2.setCell ⟨B,0,none⟩ v').ownsRow base e sz v' (k+1) ys:=row_rest hown ((Only.refl [B] W2).setCell (p:=⟨B,0,none⟩) (by simp) v') (fun x hx=>by
  have:x=B:=by simpa using hx
  subst this;exact fun e1=>hnB' (by rw [e1]; simp))
 have ho1:=(ho.alloc o).then (grown_only hg) (fun x hx=>.inr (by
  have:=(hrb x hx).1;omega))
 refine ⟨?_,⟨?_,fun i o' hi _ hn=>?_,fun i hm=>?_,fun _ i hm=>?_⟩,hv3,hrow3,ho1.setCell (p:=⟨B,0,none⟩) (.inr hB) v'⟩
 ·refine (KeepsOthers.alloc W o).trans ((KeepsOthers.of_grownBy hg fun j o' e1 hj=>?_).trans (KeepsOthers.setCell _ _ _));obtain ⟨_,cs,hb1⟩:=hrb j (by rw [e1]; simp);rw [show (W.alloc o).heap[j]?=_ from hb1.alloc o] at hj;cases hj;rfl
 ·have h1:=hg.size;simp [World.setCell] at h1 ⊢;omega
 ·have hlt:=(Array.getElem?_eq_some_iff.1 hi).1;refine (Below.heap_setCell W2 ⟨B,0,none⟩ v' i (fun e1=>hn (.inl e1))).trans ?_;refine (hg.block i (by simp; omega) (fun e1=>hn (.inr ⟨v,hv.at 0 rfl,e1.symm⟩))).trans ?_;exact (Below.heap_alloc W o i hlt).trans hi
 ·rcases hm with rfl | ⟨u,h1,h2⟩
  ·exact .inl (.inl rfl)
  ·rw [hv3.at 0 (v:=v') rfl] at h1;cases h1;rcases hat with e1 | e1
   ·exact .inl (.inr ⟨v,hv.at 0 rfl,by rw [← e1]; exact h2⟩)
   ·rw [h2] at e1;cases e1;exact .inr (by simp)
 ·rcases hm with rfl | ⟨u,h1,h2⟩
  ·exact hv3.lt
  ·rw [hv3.at 0 (v:=v') rfl] at h1;cases h1;obtain ⟨_,cs,hb1⟩:=row_blk hrow3 i (by rw [h2]; simp);exact hb1.lt
theorem col_blk {W W1 W2:World} {B t e sz k base:Nat} {v:Value} {xs:List Value} {o:Obj} (hv:Blk W B t #[v]) (hrow:W.ownsRow base e sz v k xs) (hW1:W1=W.alloc o) (hg:W1.grownBy W2 v.ownBlock) (ht:t≠e):Blk W2 B t #[v]:=by
 subst hW1;refine (hv.alloc o).only (grown_only hg) fun hm=>?_;obtain ⟨_,cs,hb1⟩:=row_blk hrow B hm;exact ht (Blk.inj hv hb1).1
theorem col_cell {W W2:World} {B t e sz k base:Nat} {v:Value} {xs:List Value} {o:Obj} (hv:Blk W B t #[v]) (hrow:W.ownsRow base e sz v k xs) (hg:(W.alloc o).grownBy W2 v.ownBlock) (ht:t≠e):W2.cell? ⟨B,0,none⟩=some v:=(col_blk hv hrow rfl hg ht).at 0 rfl
theorem col_frozen {W W2:World} {B t e sz k base:Nat} {v:Value} {xs:List Value} {o:Obj} (hv:Blk W B t #[v]) (hrow:W.ownsRow base e sz v k xs) (hg:(W.alloc o).grownBy W2 v.ownBlock) (ht:t≠e):W2.frozen? ⟨B,0,none⟩=false:=(col_blk hv hrow rfl hg ht).frozen 0
theorem row_step {T:List Nat} {n₀:Nat} {A B:World} {base e sz k:Nat} {v:Value} {xs:List Value} (h:A.ownsRow base e sz v k xs) (st:StepT T n₀ A B) (hT:∀ x ∈ T,v.ownBlock≠some x:=by simp):B.ownsRow base e sz v k xs:=by
 refine ⟨h.1,?_⟩;rcases h.2 with h2 | ⟨g,cap,cur,rfl,hg,hh,r⟩
 ·exact .inl h2
 ·have hb:Blk A g e cur:=hh;exact .inr ⟨g,cap,cur,rfl,hg,st.blk hb (fun hm=>hT g hm rfl),r⟩
theorem It_of.new {w:World} {pb pr:Nat} {ps:List D} (h:IsPool w pb pr ps) (k:Int) (u:Value) (t:TypeId) (hu:u.ownBlock=none) :
 It_of w.heap.size ((((w.alloc (.cells #[u] t)).alloc (.cells #[.int .i64 k] 3)).alloc (.cells #[ptr pb] 81)).alloc (.cells #[.func (.func 202) #[] #[ptr (w.heap.size+1)]] 244)) (w.heap.size+1+1) (w.heap.size+1+1+1) (w.heap.size+1) pb pr k ps:=by
 have ho:=((((Only.refl [] w).alloc (.cells #[u] t)).alloc (.cells #[.int .i64 k] 3)).alloc (.cells #[ptr pb] 81)).alloc (.cells #[.func (.func 202) #[] #[ptr (w.heap.size+1)]] 244);have b0:Blk ((((w.alloc (.cells #[u] t)).alloc (.cells #[.int .i64 k] 3)).alloc (.cells #[ptr pb] 81)).alloc (.cells #[.func (.func 202) #[] #[ptr (w.heap.size+1)]] 244)) w.heap.size t #[u]:=(((Blk.new w t #[u]).alloc _).alloc _).alloc _;have hn:∀ g,g≠w.heap.size→¬ Mine w.heap.size ((((w.alloc (.cells #[u] t)).alloc (.cells #[.int .i64 k] 3)).alloc (.cells #[ptr pb] 81)).alloc (.cells #[.func (.func 202) #[] #[ptr (w.heap.size+1)]] 244)) g:=by
  rintro g hg (e | ⟨v,h1,h2⟩)
  ·exact hg e
  ·rw [b0.at 0 (v:=u) rfl] at h1;cases h1;rw [hu] at h2;cases h2
 have l:=h.lt;refine ⟨?_,?_,?_,hn _ (by omega),hn _ (by omega),hn _ (by omega),hn _ (by omega),hn _ (by omega),by simp; omega,h.only ho (by simp) (by simp)⟩
 ·exact ((Blk.new' (((w.alloc (.cells #[u] t)).alloc (.cells #[.int .i64 k] 3))) 81 #[ptr pb] (by simp)).alloc _).at 0 rfl
 ·exact (Blk.new' ((((w.alloc (.cells #[u] t)).alloc (.cells #[.int .i64 k] 3)).alloc (.cells #[ptr pb] 81))) 244 #[.func (.func 202) #[] #[ptr (w.heap.size+1)]] (by simp)).at 0 rfl
 ·exact (((Blk.new' (w.alloc (.cells #[u] t)) 3 #[.int .i64 k] (by simp)).alloc _).alloc _).at 0 rfl
theorem count_any {w:World} {pb pr:Nat} {ps:List D} (k:Int) (h:IsPool w pb pr ps):Calls Tryz.prog 203 #[ptr pb,.int .i64 k] w fun e w'=>e=.returned (.int .i64 (suchN ps fun d=>d.k == k).length)∧Only [] w w':=by
 have HI:=hid (It_of.new h k (.int .i64 0) 3 rfl);have HL:=hid (show (suchN ps fun d=>d.k == k).length≤4096 from Nat.le_trans (suchTo_len _ _ _) h.max);clear h;refine (callsIn_wide (n:=5)).1 ?_;refine callsIn_of_wp_marks Tryz.func203 rfl trivial ?_ rfl;simp only [Tryz.ntmps203,List.size_toArray,List.length_cons,List.length_nil,Nat.reduceAdd,Nat.reduceSub,Array.replicate_succ,Array.replicate_zero,List.push_toArray,List.append_toArray,List.nil_append,List.cons_append];gi_wp2_with (refine ⟨trivial,?_⟩; gi_at_call 174; refine (callsIn_wide.2 (pof_any _ _ _)).mono ?_; rintro e w' ⟨rfl,rfl⟩);obtain ⟨W0,hW0⟩:∃ W0,((((w.alloc (.cells #[.int .i64 0] 3)).alloc (.cells #[.int .i64 k] 3)).alloc (.cells #[ptr pb] 81)).alloc (.cells #[.func (.func 202) #[] #[ptr (w.heap.size+1)]] 244))=W0:=⟨_,rfl⟩;have hB0:Blk W0 w.heap.size 3 #[.int .i64 0]:=by rw [← hW0]; exact (((Blk.new w 3 #[.int .i64 0]).alloc _).alloc _).alloc _
 have hO0:Only [] w W0:=by rw [← hW0]; exact ((((Only.refl [] w).alloc _).alloc _).alloc _).alloc _
 rw [hW0] at HI ⊢;have H0:=hid (And.intro hB0 hO0);have hz:w.heap.size≤W0.heap.size:=hO0.size;clear hW0 hB0 hO0;refine wpIn_rangeFunc_T rfl (by omega) (gf:=199) (lb:=#[ptr (w.heap.size+1+1),ptr (w.heap.size+1+1+1)]) rfl trivial (enters_of Tryz.func199 (by kernel_rfl) rfl)
  (of_it 4 w.heap.size _ _ _ pb pr k ps W0 (by omega) HI.out) (fun _ _ h _=>h) (fun h k=>h.trans k) (fun _ _ _ _ _ h ho=>RK.putLoop h ho) (Only.refl _ _) (fun _=>rfl) (by simp)
  (fun pre W=>Blk W w.heap.size 3 #[.int .i64 pre.length]∧Only [] w W) (fun _ _ _=>False)
  (fun s A B hs st=>⟨st.blk hs.1 (by simp),st.only hs.2 hz (by simp)⟩) (fun _ _ _ _ hs _=>hs) H0.out
  (fun x a' _=>a'={ tmps:=#[ptr pb,.int .i64 k,undef,undef,.int .i64 0,ptr w.heap.size,ptr pb,.int .i64 k,.func (.func 199) #[] #[ptr (w.heap.size+1+1),ptr (w.heap.size+1+1+1)],.int .i64 x,undef,undef,undef],defers:=[] }) (fun _ _ _ _ h _=>h) ?assign ?body ?done ?stop
 case assign=>
  intro l pre x W K hi hK;gi_wp2;exact hK _ _ (KeepsOthers.refl _) (RK.refl _ _) hi (by simp)
 case body=>
  rintro l pre x a' W ⟨hb,ho⟩ rfl hlen;have HB:=hid hb;have HO:=hid ho;have c0:=hb.at 0 (v:=.int .i64 pre.length) rfl;have f0:=hb.frozen 0;have e1:IntKind.i64.wrap ((pre.length:Int)+1)=pre.length+1:=by rw [IntKind.wrap_i64]; omega
  clear hb ho;gi_wp2;exact ⟨KeepsOthers.setCell _ _ _,RK.setPlain HB.out rfl rfl,by simpa using HB.out.set 0 (.int .i64 ((pre.length:Int)+1)),HO.out.setCell (p:=⟨w.heap.size,0,none⟩) (.inr (Nat.le_refl _)) _⟩
 case done=>
  rintro D ys W hD _ rfl ⟨hb,ho⟩ hK;have HB:=hid hb;have HO:=hid ho;have c0:=hb.at 0 (v:=.int .i64 (suchN ps fun d=>d.k == k).length) rfl;clear hb ho;gi_wp2;refine ⟨by simp,.inl ⟨_,_,rfl,run_takeDeferred hK,?_⟩⟩;exact ⟨_,results_tmp rfl _ _ _,rfl,HO.out.putObj (by omega) _⟩
 case stop=>
  rintro D c pre W _ _ h _;exact h.elim
theorem It_owned.new {w:World} {pb pr:Nat} {ps:List D} (h:IsPool w pb pr ps) (k:Int) (t:TypeId) :
 It_owned (w.heap.size+1) ((((w.alloc (.cells #[.int .i64 k] 3)).alloc (.cells #[.slice none 0 0] t)).alloc (.cells #[ptr pb] 81)).alloc (.cells #[.func (.func 166) #[] #[ptr w.heap.size]] 244)) (w.heap.size+1+1) (w.heap.size+1+1+1) w.heap.size pb pr k ps:=by
 have ho:=((((Only.refl [] w).alloc (.cells #[.int .i64 k] 3)).alloc (.cells #[.slice none 0 0] t)).alloc (.cells #[ptr pb] 81)).alloc (.cells #[.func (.func 166) #[] #[ptr w.heap.size]] 244);have b0:Blk ((((w.alloc (.cells #[.int .i64 k] 3)).alloc (.cells #[.slice none 0 0] t)).alloc (.cells #[ptr pb] 81)).alloc (.cells #[.func (.func 166) #[] #[ptr w.heap.size]] 244)) (w.heap.size+1) t #[.slice none 0 0]:=((Blk.new' (w.alloc (.cells #[.int .i64 k] 3)) t #[.slice none 0 0] (by simp)).alloc _).alloc _;have hn:∀ g,g≠w.heap.size+1→¬ Mine (w.heap.size+1) ((((w.alloc (.cells #[.int .i64 k] 3)).alloc (.cells #[.slice none 0 0] t)).alloc (.cells #[ptr pb] 81)).alloc (.cells #[.func (.func 166) #[] #[ptr w.heap.size]] 244)) g:=by
  rintro g hg (e | ⟨v,h1,h2⟩)
  ·exact hg e
  ·rw [b0.at 0 (v:=.slice none 0 0) rfl] at h1;cases h1;cases h2
 have l:=h.lt;refine ⟨?_,?_,?_,hn _ (by omega),hn _ (by omega),hn _ (by omega),hn _ (by omega),hn _ (by omega),by simp <;> omega,h.only ho (by simp) (by simp)⟩
 ·exact ((Blk.new' (((w.alloc (.cells #[.int .i64 k] 3)).alloc (.cells #[.slice none 0 0] t))) 81 #[ptr pb] (by simp)).alloc _).at 0 rfl
 ·exact (Blk.new' ((((w.alloc (.cells #[.int .i64 k] 3)).alloc (.cells #[.slice none 0 0] t)).alloc (.cells #[ptr pb] 81))) 244 #[.func (.func 166) #[] #[ptr w.heap.size]] (by simp)).at 0 rfl
 ·exact ((((Blk.new w 3 #[.int .i64 k]).alloc _).alloc _).alloc _).at 0 rfl
theorem Tryz.infoInt : (Tryz.prog.info? 3).map (fun i=>(i.zero,i.size,i.bytes))=some (some (.int .i64 0),1,8):=by kernel_rfl
theorem powned_any {w:World} {pb pr:Nat} {ps:List D} (k:Int) (h:IsPool w pb pr ps):Calls Tryz.prog 130 #[ptr pb,.int .i64 k] w fun e w'=>∃ v,e=.returned v∧Only [] w w'∧w'.ownsRow w.heap.size 3 1 v (suchN ps fun d=>d.o == k).length ((suchN ps fun d=>d.o == k).map (Value.int .i64)):=by
 have HI:=hid (It_owned.new h k 66);have HL:=hid (show (suchN ps fun d=>d.o == k).length≤4096 from Nat.le_trans (suchTo_len _ _ _) h.max);obtain ⟨i0,hi,hz0,hz1,hz2⟩:=info_parts Tryz.infoInt;have HI0:=hid (And.intro hi (And.intro hz0 (And.intro hz1 hz2)));clear h hi hz0 hz1 hz2;refine (callsIn_wide (n:=5)).1 ?_;refine callsIn_of_wp_marks Tryz.func130 rfl trivial ?_ rfl;simp only [Tryz.ntmps130,List.size_toArray,List.length_cons,List.length_nil,Nat.reduceAdd,Nat.reduceSub,Array.replicate_succ,Array.replicate_zero,List.push_toArray,List.append_toArray,List.nil_append,List.cons_append];gi_wp2_with (refine ⟨trivial,?_⟩; gi_at_call 165; refine (callsIn_wide.2 (such_any _ _ _ _)).mono ?_; rintro e w' ⟨rfl,rfl⟩);obtain ⟨W0,hW0⟩:∃ W0,((((w.alloc (.cells #[.int .i64 k] 3)).alloc (.cells #[.slice none 0 0] 66)).alloc (.cells #[ptr pb] 81)).alloc (.cells #[.func (.func 166) #[] #[ptr w.heap.size]] 244))=W0:=⟨_,rfl⟩;have hB0:Blk W0 (w.heap.size+1) 66 #[.slice none 0 0]:=by rw [← hW0]; exact ((Blk.new' (w.alloc (.cells #[.int .i64 k] 3)) 66 #[.slice none 0 0] (by simp)).alloc _).alloc _
 have hO0:Only [] w W0:=by rw [← hW0]; exact ((((Only.refl [] w).alloc _).alloc _).alloc _).alloc _
 rw [hW0] at HI ⊢;have H0:=hid (And.intro hB0 hO0);have hz:w.heap.size≤W0.heap.size:=hO0.size;clear hW0 hB0 hO0;refine wpIn_rangeFunc_T rfl (by omega) (gf:=199) (lb:=#[ptr (w.heap.size+1+1),ptr (w.heap.size+1+1+1)]) rfl trivial (enters_of Tryz.func199 (by kernel_rfl) rfl)
  (owned_it 4 (w.heap.size+1) _ _ _ pb pr k ps W0 (by omega) HI.out) (fun _ _ h _=>h) (fun h k=>h.trans k) (fun _ _ _ _ _ h ho=>RK.putLoop h ho) (Only.refl _ _) (fun _=>rfl) (by simp)
  (fun pre W=>(∃ v,Blk W (w.heap.size+1) 66 #[v]∧W.ownsRow w.heap.size 3 1 v pre.length (pre.map (Value.int .i64)))∧Only [] w W) (fun _ _ _=>False)
  (fun s A B hs st=>?hI) (fun _ _ _ _ hs _=>hs) ⟨⟨_,H0.out.1,World.ownsRow_nil _ _ _ _⟩,H0.out.2⟩
  (fun x a' _=>a'={ tmps:=#[ptr pb,.int .i64 k,undef,ptr w.heap.size,.slice none 0 0,ptr (w.heap.size+1),.int .i64 x,ptr pb,.func (.func 166) #[] #[ptr w.heap.size],.func (.func 199) #[] #[ptr (w.heap.size+1+1),ptr (w.heap.size+1+1+1)],.int .i64 x,undef,undef,undef,undef,undef],defers:=[] }) (fun _ _ _ _ h _=>h) ?assign ?body ?done ?stop
 case hI=>
  obtain ⟨⟨v,hb,hr⟩,ho⟩:=hs;refine ⟨⟨v,st.blk hb (by simp),row_step hr st⟩,st.only ho hz (by simp)⟩
 case assign=>
  intro l pre x W K hi hK;gi_wp2;exact hK _ _ (KeepsOthers.refl _) (RK.refl _ _) hi (by simp)
 case body=>
  rintro l pre x a' W ⟨⟨v,hb,hr⟩,ho⟩ rfl hlen;have HB:=hid hb;have HR:=hid hr;have HO:=hid ho;have c0:=hb.at 0 (v:=v) rfl;clear hb ho hr;gi_wp2_with (
   gi_at_builtin
   obtain ⟨hi,hz0,hz1,hz2⟩:=HI0.out;refine wpListIn_append_own_at _ rfl _ _ 66 rfl w.heap.size 3 i0 (.int .i64 0) 1 8 Tryz.underlying66 hi hz0 hz1 hz2 rfl (by decide) _ _ _ rfl (HR.out.alloc _) ⟨W.heap.size,0,none⟩ 1 1 [.int .i64 x] rfl rfl (one_new _ _ _) (by simp [Value.oneCell']) (by unfold maxLen; omega) (by omega) (by have:=HO.out.size; simp; omega) ?_;intro v' w1 hown' hgrow _ hat;obtain ⟨g',cap',rfl⟩:=ownsRow_succ hown';have HC:=hid (col_step HB.out HR.out rfl hown' hgrow hat (by decide) HO.out (Nat.le_succ _) (Nat.le_refl _));have hc1:w1.cell? ⟨w.heap.size+1,0,none⟩=some v:=col_cell HB.out HR.out hgrow (by decide);have hf1:w1.frozen? ⟨w.heap.size+1,0,none⟩=false:=col_frozen HB.out HR.out hgrow (by decide);clear hi hz0 hz1 hz2 hown' hgrow hat c0)
  exact ⟨HC.out.1,HC.out.2.1,⟨_,HC.out.2.2.1,by simpa using HC.out.2.2.2.1⟩,HC.out.2.2.2.2⟩
 case done=>
  rintro D ys W hD _ rfl ⟨⟨v,hb,hr⟩,ho⟩ hK;have HB:=hid hb;have HR:=hid hr;have HO:=hid ho;have c0:=hb.at 0 (v:=v) rfl;clear hb ho hr;gi_wp2;refine ⟨by simp,.inl ⟨_,_,rfl,run_takeDeferred hK,?_⟩⟩;exact ⟨_,results_tmp rfl _ _ _,_,rfl,HO.out.putObj (by omega) _,ownsRow_putObj HR.out _ hK rfl⟩
 case stop=>
  rintro D c pre W _ _ h _;exact h.elim
end
end Go.Proofs.YtadgpnoealegiaaGreat
