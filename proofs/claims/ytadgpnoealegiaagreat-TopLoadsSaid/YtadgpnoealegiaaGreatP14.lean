import Derived.Test.YtadgpnoealegiaaGreatP09
import Derived.Deep.Quiet
import Derived.StillTail
import Derived.Tactics
import Derived.OrdersHeld
import Derived.Deep.RegionHeld3
namespace Go.Proofs.YtadgpnoealegiaaGreat
open Go.RowKit
open Go.Lib (hid)
set_option maxRecDepth 100000
set_option maxHeartbeats 20000000
def RowR (w:World) (e:TypeId) (size:Nat) (v:Value) (n:Nat) (xs:List Value):Prop:=
 xs.length=n * size∧((v=.slice none 0 0∧n=0)∨∃ g cap cur,v=.slice (some ⟨g,0,none⟩) n cap∧Blk w g e cur∧n≤cap∧cap≤maxLen∧cap * size≤cur.size∧cur.toList.take (n * size)=xs)
section
variable {P:Program} {w w':World} {e size:Nat} {v:Value} {n:Nat} {xs:List Value}
theorem RowR.nil (w:World) (e size:Nat):RowR w e size (.slice none 0 0) 0 []:=⟨by simp,.inl ⟨rfl,rfl⟩⟩
theorem RowR.own {base:Nat} (h:w.ownsRow base e size v n xs):RowR w e size v n xs:=by
 refine ⟨h.1,h.2.imp id ?_⟩;rintro ⟨g,cap,cur,rfl,_,hb,h1,h2,h3,h4⟩;exact ⟨g,cap,cur,rfl,hb,h1,h2,by omega,h4⟩
theorem RowR.only {S:List Nat} (h:RowR w e size v n xs) (o:Only S w w') (hS:∀ x ∈ S,v.ownBlock≠some x):RowR w' e size v n xs:=by
 refine ⟨h.1,h.2.imp id ?_⟩;rintro ⟨g,cap,cur,rfl,hb,h1⟩;exact ⟨g,cap,cur,rfl,hb.only o fun hm=>hS g hm rfl,h1⟩
theorem RowR.quiet (h:RowR w e size v n xs) (o:Only [] w w'):RowR w' e size v n xs:=h.only o (by simp)
theorem RowR.lt (h:RowR w e size v n xs):∀ g,v.ownBlock=some g→g < w.heap.size∧∃ cs,Blk w g e cs:=by
 intro g hg;rcases h.2 with ⟨rfl,_⟩ | ⟨g',cap,cur,rfl,hb,_⟩
 ·cases hg
 ·cases hg;exact ⟨hb.lt,_,hb⟩
theorem RowR.form (h:RowR w e size v n xs):∃ A cap,v=.slice A n cap:=by
 rcases h.2 with ⟨rfl,rfl⟩ | ⟨g,cap,cur,rfl,_⟩
 ·exact ⟨none,0,rfl⟩
 ·exact ⟨_,cap,rfl⟩
theorem RowR.ne (h:RowR w e size v n xs) {x t:Nat} {cs:Array Value} (hb:Blk w x t cs) (ht:t≠e):v.ownBlock≠some x:=by
 intro hx;obtain ⟨_,cs',hb'⟩:=h.lt x hx;exact ht (hb.inj hb').1
theorem RowR.has (h:RowR w e size v n xs) (hn:0 < n):∃ g cap cur,v=.slice (some ⟨g,0,none⟩) n cap∧Blk w g e cur∧n≤cap∧cap≤maxLen∧cap * size≤cur.size∧∀ (j:Nat) (u:Value),xs[j]?=some u→cur[j]?=some u:=by
 rcases h.2 with ⟨rfl,rfl⟩ | ⟨g,cap,cur,rfl,hb,h1,h2,h3,h4⟩
 ·omega
 ·refine ⟨g,cap,cur,rfl,hb,h1,h2,h3,fun j u hu=>?_⟩;rw [← h4,List.getElem?_take] at hu;split at hu
  ·simpa using hu
  ·cases hu
theorem run_append_R (w:World) (t ty e:TypeId) (i:TypeInfo) (z:Value) (size bytes:Nat) (ht:P.underlying t=some (.slice e)) (hi:P.info? e=some i) (hz:i.zero=some z)
 (hsize:i.size=size) (hby:i.bytes=bytes) (hzs:z.cells.size=size) (hsz:0 < size)
 (v:Value) (n:Nat) (xs:List Value) (hown:RowR w e size v n xs)
 (a:Addr) (m c:Nat) (news:List Value) (hl:news.length=m * size) (hnews:∀ j u,news[j]?=some u→w.cell? (a.add j)=some u) (h1:∀ u ∈ news,u.oneCell'=true)
 (h63:n+m≤maxLen) (hbytes:(n+m) * bytes≤140737488355328) :
 ∃ v' w',(Builtin.append_ #[t,t] ty #[v,.slice (some a) m c]).run P w=.ok v' w'∧RowR w' e size v' (n+m) (xs ++ news)∧Only v.ownBlock.toList w w' ∧
  (v'.ownBlock=v.ownBlock∨v'.ownBlock=some w.heap.size):=by
 subst hsize;subst hby;have hsmall:n+m≤9223372036854775807:=by simp only [maxLen] at h63; omega
 have hlen:(xs ++ news).length=(n+m) * i.size:=by rw [List.length_append,hown.1,hl,Nat.add_mul]
 have grown:∀ (old:Nat),old < n+m→∀ (S:List Nat),
  RowR (w.drew.alloc (.cells (xs.toArray ++ news.toArray ++ Builtin.zeroCells z.cells (grownCap w (n+m) old e - (n+m))) e)) e i.size
   (.slice (some ⟨w.heap.size,0,none⟩) (n+m) (grownCap w (n+m) old e)) (n+m) (xs ++ news) ∧
  Only S w (w.drew.alloc (.cells (xs.toArray ++ news.toArray ++ Builtin.zeroCells z.cells (grownCap w (n+m) old e - (n+m))) e)):=by
  intro old ho S;have hge:=grownCap_ge w (n+m) old e;have hcm:grownCap w (n+m) old e≤maxLen:=grownCap_le_maxLen w (n+m) old e h63;refine ⟨⟨hlen,.inr ⟨w.heap.size,_,_,rfl,heap_alloc_new w.drew _,hge,hcm,?_,?_⟩⟩,((Only.refl S w).drew).alloc _⟩
  ·simp only [Array.size_append,List.size_toArray,size_zeroCells,hzs,hown.1,hl,← Nat.add_mul];apply Nat.le_of_eq;congr 1;omega
  ·simp only [Array.toList_append,List.append_assoc];rw [← List.append_assoc,← hlen];exact List.take_left
 rcases hown.2 with ⟨rfl,rfl⟩ | ⟨g,cap,cur,rfl,hg,hnc,hcm,hcs,htake⟩
 ·have hx:xs=[]:=List.eq_nil_of_length_eq_zero (by simpa using hown.1);subst hx;by_cases hm:m=0
  ·subst hm;have hn:news=[]:=List.eq_nil_of_length_eq_zero (by simpa using hl);subst hn;refine ⟨.slice none 0 0,w,?_,RowR.nil w e i.size,Only.refl _ _,.inl rfl⟩;simp [Builtin.append_,run_underlying ht,sizeOf,typeInfo,hi,Builtin.lenOf,Builtin.firstCells,loadCells,loadCellsFrom]
  ·have hr:=run_append_nil (P:=P) w t ty e i z ht hi hz a m c news hl hnews (by omega) (by omega) (by have hb:=hbytes; simp only [Nat.zero_add] at hb; omega);have hgr:=grown 0 (by omega) (Value.ownBlock (.slice none 0 0)).toList;simp only [Nat.zero_add,List.nil_append,Array.empty_append] at hgr ⊢;exact ⟨_,_,hr,hgr.1,hgr.2,.inr rfl⟩
 ·by_cases hroom:n+m≤cap
  ·have hfit:n * i.size+news.length≤cur.size:=by rw [hl,← Nat.add_mul]; exact Nat.le_trans (Nat.mul_le_mul_right _ hroom) hcs
   have hr:=run_append_room (P:=P) w t ty e i ht hi g n cap cur hg a m c news hl hnews h1 hroom hfit;refine ⟨_,_,hr,⟨hlen,.inr ⟨g,cap,_,rfl,Blk.row hg _,hroom,hcm,?_,?_⟩⟩,Only.setRow (Only.refl _ _) (.inl (by simp [Value.ownBlock])) _,.inl rfl⟩
   ·simp only [List.size_toArray,List.length_append,List.length_take,List.length_drop,Array.length_toList];omega
   ·rw [htake,← hlen];exact List.take_left
  ·have holds:∀ j u,xs[j]?=some u→w.cell? ((⟨g,0,none⟩:Addr).add j)=some u:=fun j u hu=>by
    have:cur[j]?=some u:=by
     rw [← htake,List.getElem?_take] at hu;split at hu
     ·simpa using hu
     ·cases hu
    have q:=Blk.at hg j this;cases j with
    | zero=>simpa [Addr.add] using q
    | succ j=>simpa [Addr.add] using q
   have hr:=run_append_grow (P:=P) w t ty e i z ht hi hz ⟨g,0,none⟩ n cap xs hown.1 holds a m c news hl hnews (by omega) (by omega) (growslice_fits (by omega) hbytes);have hgr:=grown cap (by omega) (Value.ownBlock (.slice (some ⟨g,0,none⟩) n cap)).toList;exact ⟨_,_,hr,hgr.1,hgr.2,.inr rfl⟩
theorem wp_append_R {o:Oper} {a:Act} {w:World} {K:Act→World→Prop} {Q:Exit→Act→World→Prop} (s x:Operand) (t:TypeId)
 (ho:o.op=.call { callee:=.builtin .append,args:=#[s,x],argTypes:=#[t,t] })
 (e:TypeId) (i:TypeInfo) (z:Value) (size bytes:Nat) (ht:P.underlying t=some (.slice e)) (hi:P.info? e=some i) (hz:i.zero=some z)
 (hsize:i.size=size) (hby:i.bytes=bytes) (hzs:z.cells.size=size) (hsz:0 < size)
 (v:Value) (n:Nat) (xs:List Value) (hs:a.eval s=v) (hown:RowR w e size v n xs)
 (ad:Addr) (m c:Nat) (news:List Value) (hx:a.eval x=.slice (some ad) m c) (hl:news.length=m * size) (hnews:∀ j u,news[j]?=some u→w.cell? (ad.add j)=some u) (h1:∀ u ∈ news,u.oneCell'=true)
 (h63:n+m≤maxLen) (hbytes:(n+m) * bytes≤140737488355328)
 (h:∀ v' w',RowR w' e size v' (n+m) (xs ++ news)→Only v.ownBlock.toList w w'→(v'.ownBlock=v.ownBlock∨v'.ownBlock=some w.heap.size)→K (a.put o.dst v') w'):o.wp P a w K Q:=by
 obtain ⟨v',w',hr,h2,h3,h4⟩:=run_append_R (P:=P) w t o.type e i z size bytes ht hi hz hsize hby hzs hsz v n xs hown ad m c news hl hnews h1 h63 hbytes;unfold Oper.wp execOp;simp only [ho,resolve,invoke,builtin,Sem.run_bind,Sem.run_pure,Result.andThen_ok,List.map_toArray,List.map_cons,List.map_nil,hs,hx,hr];exact h v' w' h2 h3 h4
theorem wpList_append_R {ops:Array Oper} {rest:List Oper} {o:Oper} {a:Act} {w:World} {Q:Exit→Act→World→Prop} (hgd:o.guard=none) (s x:Operand) (t:TypeId)
 (ho:o.op=.call { callee:=.builtin .append,args:=#[s,x],argTypes:=#[t,t] })
 (e:TypeId) (i:TypeInfo) (z:Value) (size bytes:Nat) (ht:P.underlying t=some (.slice e)) (hi:P.info? e=some i) (hz:i.zero=some z)
 (hsize:i.size=size) (hby:i.bytes=bytes) (hzs:z.cells.size=size) (hsz:0 < size)
 (v:Value) (n:Nat) (xs:List Value) (hs:a.eval s=v) (hown:RowR w e size v n xs)
 (ad:Addr) (m c:Nat) (news:List Value) (hx:a.eval x=.slice (some ad) m c) (hl:news.length=m * size) (hnews:∀ j u,news[j]?=some u→w.cell? (ad.add j)=some u) (h1:∀ u ∈ news,u.oneCell'=true)
 (h63:n+m≤maxLen) (hbytes:(n+m) * bytes≤140737488355328)
 (h:∀ v' w',RowR w' e size v' (n+m) (xs ++ news)→Only v.ownBlock.toList w w'→(v'.ownBlock=v.ownBlock∨v'.ownBlock=some w.heap.size)→wpList P ops Q rest (a.put o.dst v') w'):wpList P ops Q (o :: rest) a w:=
 wpList_plain hgd fun _ hK=>wp_append_R s x t ho e i z size bytes ht hi hz hsize hby hzs hsz v n xs hs hown ad m c news hx hl hnews h1 h63 hbytes fun v' w' h2 h3 h4=>hK _ _ (h v' w' h2 h3 h4)
end
theorem Tryz.infoDesc : (Tryz.prog.info? 159).map (fun i=>(i.zero,i.size,i.bytes))=some (some (.agg #[.int .i64 0,.int .i64 0,.int .i64 0,.int .i64 0]),4,32):=by kernel_rfl
theorem recs_zero (n:Nat):madeCells (Value.agg #[.int .i64 0,.int .i64 0,.int .i64 0,.int .i64 0]).cells (n * 4)=recs encD (List.replicate n zD):=by
 apply Array.ext_getElem?;intro i;by_cases hi:i < n * 4
 ·have e:(List.replicate n zD)[i / 4]?=some zD:=by rw [List.getElem?_replicate,if_pos (by omega)]
  have h:=recs_get encD_len (List.replicate n zD) e (i % 4) (Nat.mod_lt _ (by decide));rw [show i / 4 * 4+i % 4=i by omega] at h;rw [h];have hm:i % 4=0∨i % 4=1∨i % 4=2∨i % 4=3:=by omega
  rcases hm with hm | hm | hm | hm <;> simp [madeCells,Value.cells,encD,hi,hm]
 ·have hs:=recs_size encD_len (List.replicate n zD);rw [List.length_replicate] at hs;rw [Array.getElem?_eq_none (by simp [madeCells]; omega),Array.getElem?_eq_none (by omega)]
theorem mkDesc (n:Int) (h0:0≤n) (h1:n≤65536) (W:World):(Instr.makeSlice 114 (.int .i64 n) (.int .i64 n)).run Tryz.prog W =
 .ok (.slice (some ⟨W.heap.size,0,none⟩) n.toNat n.toNat) (W.alloc (.cells (recs encD (List.replicate n.toNat zD)) 159)):=by
 obtain ⟨i0,hi,hz0,hz1,hz2⟩:=info_parts Tryz.infoDesc;rw [run_make W 114 159 i0 _ Tryz.underlying114 hi hz0 .i64 .i64 n n h0 (Int.le_refl _) (by rw [hz2]; omega) (by omega),hz1,recs_zero]
theorem pnew_any (w:World) (n:Int) (h0:1≤n) (h1:n≤4096):Calls Tryz.prog 20 #[.int .i64 n] w fun e w'=>∃ b s,e=.returned (.tuple #[ptr b,.int .i64 0])∧w.heap.size≤b∧w.heap.size≤s∧Only [] w w'∧IsPool w' b s (List.replicate n.toNat zD):=by
 have hmk:=mkDesc n (by omega) (by omega);go_enter Tryz.func20,Tryz.ntmps20;go_wp2;go_ret2;refine ⟨_,_,rfl,Nat.le_succ _,Nat.le_refl _,((Only.refl _ _).alloc _).alloc _,?_,(Blk.new _ _ _).alloc _,by rw [List.length_replicate]; omega,by rw [List.length_replicate]; omega,fun d hd=>?_⟩
 ·rw [List.length_replicate];exact Blk.new' _ _ _ (by simp)
 ·rw [(List.mem_replicate.1 hd).2];exact zD_wf
theorem recs_one {α:Type} {enc:α→List Value} (l:List α) (h:∀ x,∀ v ∈ enc x,v.oneCell'=true):∀ v ∈ l.flatMap enc,v.oneCell'=true:=by
 intro v hv;obtain ⟨x,_,hx⟩:=List.mem_flatMap.1 hv;exact h x v hx
theorem pcopy_any {w:World} {pb pr:Nat} {ps:List D} (h:IsPool w pb pr ps):Calls Tryz.prog 107 #[ptr pb] w fun e w'=>∃ b s cap,e=.returned (ptr b)∧Only [] w w'∧PoolR w' b s cap ps:=by
 obtain ⟨i0,hi,hz0,hz1,hz2⟩:=info_parts Tryz.infoDesc;have hn0:((ps.length:Int) == 0)=false:=by have:=h.len; rw [beq_eq_false_iff_ne]; intro e; simp at e; rw [e] at this; simp at this
 have HL:=hid (plen_any h);have c0:=h.obj.at 0 (v:=.slice (some ⟨pr,0,none⟩) ps.length ps.length) rfl;have HP:=hid h;have hm:=h.max;have hl1:=h.len;have HZ:=hid (recs_len encD_len ps);clear h;go_enter Tryz.func107,Tryz.ntmps107;go_wp2_with fail;refine HL.out.mono ?_;rintro e w1 ⟨rfl,rfl⟩;go_wp2_with (
  at_builtin
  (refine wpList_append_own _ rfl (.const (.slice none 0 0)) (.tmp 9) 114 rfl w.heap.size 159 i0 (.agg #[.int .i64 0,.int .i64 0,.int .i64 0,.int .i64 0]) 4 32 Tryz.underlying114 hi hz0 hz1 hz2 rfl (by decide) _ 0 [] rfl (World.ownsRow_nil _ _ _ _) ⟨pr,0,none⟩ ps.length ps.length (ps.flatMap encD) rfl (by exact HZ.out) (by exact fun j u hu=>news_blk HP.out.row j u (by simpa [recs] using hu)) (recs_one _ (by intro x v hv; simp [encD] at hv; rcases hv with rfl | rfl | rfl | rfl <;> rfl)) (by unfold maxLen; omega) (by omega) (Nat.le_refl _) ?_)
  intro v' w1 hown hg _;have HO:=hid (show Only [] w w1 from grown_only (row:=none) hg);rw [Nat.zero_add] at hown;obtain ⟨g,cap,cur,rfl,hgb,hb,hc⟩:=row_cells hown hl1;have HB:=hid (And.intro hb hc);have hlt:=hb.lt;clear hown hg hgb hb hc hi hz0 hz1 hz2)
 go_ret;refine ⟨_,g,cap,rfl,HO.out.alloc _,?_⟩;refine ⟨(Blk.new w1 _ _).at 0 rfl,fun j d hd=>?_,by simp,by simp; omega⟩;have hj:=(List.getElem?_eq_some_iff.1 hd).1;have h4:∀ i,i < 4→∀ v,(encD d)[i]?=some v→(w1.alloc (.cells #[.slice (some ⟨g,0,none⟩) ps.length cap] 116)).cell? ⟨g,j * 4+i,none⟩=some v:=fun i hi v hv=>by
  refine (HB.out.1.alloc _).at _ ?_;have e1:=HB.out.2 (j * 4+i) (by omega);have e2:=recs_get encD_len ps hd i hi;rw [e1,List.nil_append,← hv,← e2];simp [recs]
 exact ⟨h4 0 (by decide) _ rfl,h4 1 (by decide) _ rfl,h4 2 (by decide) _ rfl,h4 3 (by decide) _ rfl⟩
section
variable {P:Program} {Q:Exit→Act→World→Prop} {C:World→Prop}
theorem any_more {md:Region.Mode} {ops:Array Oper}:∀ (f:Nat) (listed:Array Bool) (a:Act) (w:World),wpAny P md ops Q f listed a w→wpAny P md ops Q (f+1) listed a w
 | 0,listed,a,w,h=>⟨fun _=>h.2,fun i hi=>by rw [h.1] at hi; cases hi⟩
 | f+1,listed,a,w,h=>⟨h.1,fun i hi=>wpOp_mono (fun a' w' h'=>any_more f _ a' w' h') (h.2 i hi)⟩
theorem any_more' {md:Region.Mode} {ops:Array Oper} (k f:Nat) (listed:Array Bool) (a:Act) (w:World) (h:wpAny P md ops Q f listed a w):wpAny P md ops Q (k+f) listed a w:=by
 induction k with
 | zero=>rw [Nat.zero_add]; exact h
 | succ k ih=>rw [show k+1+f=k+f+1 by omega]; exact any_more _ _ _ _ ih
def depsB (md:Region.Mode) (l:List Oper):Bool:=
 (List.range l.length).all fun i=>match l[i]? with
  | some o=>o.after.all fun e=>!Region.binds md e || decide (e.on < i)
  | none=>true
def listed0 (n g:Nat):Array Bool:=(List.replicate n true ++ List.replicate g false).toArray
def quietTailB (md:Region.Mode) (l:List Oper) (n:Nat):Bool:=
 l.all (fun o=>o.guard.isNone) && decide (n < l.length) && Region.sinkB md l.toArray n && Region.chainB md l.toArray n && depsB md l && Region.seqB md l.toArray (l.length - n) n (listed0 n (l.length - n)) && Region.lexB md (l.take n).toArray
theorem depsB_spec {md:Region.Mode} {l:List Oper} (h:depsB md l=true) {i:Nat} {o:Oper} (ho:l[i]?=some o):∀ e ∈ o.after,Region.binds md e=true→e.on < i:=by
 intro e he hb;have hi:i < l.length:=(List.getElem?_eq_some_iff.1 ho).1;have h1:=List.all_eq_true.1 h i (List.mem_range.2 hi);simp only [ho] at h1;have h2:=Array.all_eq_true'.1 h1 e he;simpa [hb] using h2
theorem least_un (p:Nat→Bool):∀ n,(∃ i,i < n∧p i=false)→∃ i,i < n∧p i=false∧∀ j,j < i→p j=true:=by
 intro n
 induction n with
 | zero=>rintro ⟨i,hi,_⟩; omega
 | succ n ih=>
  rintro ⟨i,hi,hp⟩;by_cases h:∃ i,i < n∧p i=false
  ·obtain ⟨k,hk,h1,h2⟩:=ih h;exact ⟨k,by omega,h1,h2⟩
  ·refine ⟨i,hi,hp,fun j hj=>?_⟩;cases hpj:p j
   ·exact absurd ⟨j,by omega,hpj⟩ h
   ·rfl
theorem listed_eq {l:List Oper} {n:Nat} {listed:Array Bool} (hn:n≤l.length) (inv:HeadInv .any l.toArray n listed) (hall:∀ i,i < n→listed.getD i false=true):listed=listed0 n (l.length - n):=by
 apply Array.ext
 ·rw [inv.size]; simp [listed0]; omega
 ·intro i h1 h2;by_cases hi:i < n
  ·have:=hall i hi;simp [h1] at this;simp [listed0,List.getElem_append_left,hi,this]
  ·have:=inv.tail i (by omega) (by rw [← inv.size]; exact h1);simp [h1] at this;rw [this];show false=(List.replicate n true ++ List.replicate (l.length - n) false)[i]'(by simpa [listed0] using h2);rw [List.getElem_append_right (by simp; omega)];simp
theorem head_op {l:List Oper} {n i:Nat} {K:Act→Prop} {K':Act→World→Prop} {a:Act} {w:World} (hg:l.all (fun o=>o.guard.isNone)=true) (hin:i < n) (hil:i < l.length) (hC:C w) (h:∀ a w',C w'→K a→K' a w')
 (hh:qOp P (l.take n).toArray C i K a):wpOp P l.toArray Q i K' a w:=by
 have h1:l.toArray[i]?=some l[i]:=by simp [hil]
 have h2:(l.take n).toArray[i]?=some l[i]:=by simp [List.getElem?_take_of_lt hin,hil]
 have h3:l[i].guard=none:=by
  have:=List.all_eq_true.1 hg _ (List.getElem_mem hil);simpa using this
 have hw:∀ y,Region.wanted l[i] y=true:=fun y=>by simp [Region.wanted,h3]
 unfold qOp at hh;unfold wpOp;simp only [h1,h2,hw,if_true] at hh ⊢;exact .inl (Oper.wp_of_quiet hC h hh)
theorem head_any {l:List Oper} {n:Nat} {Qf:Act→Prop} (hg:l.all (fun o=>o.guard.isNone)=true) (hn:n < l.length) (hs:Region.sinkB .any l.toArray n=true) (hc:Region.chainB .any l.toArray n=true) (hd:depsB .any l=true)
 (hQ:∀ a w,C w→Qf a→wpAny P .any l.toArray Q (l.length - n) (listed0 n (l.length - n)) a w) :
 ∀ (f:Nat) (listed listed':Array Bool) (a:Act) (w:World),HeadInv .any l.toArray n listed→listed'.size=n→(∀ i,i < n→listed'.getD i false=listed.getD i false)→C w →
  wpAnyQ P .any (l.take n).toArray C Qf f listed' a→wpAny P .any l.toArray Q (f+(l.length - n)) listed a w:=by
 intro f
 induction f with
 | zero=>
  intro listed listed' a w inv hsz hsame hC h;by_cases hall:∀ i,i < n→listed.getD i false=true
  ·rw [Nat.zero_add];have:listed=listed0 n (l.length - n):=listed_eq (by omega) inv hall;rw [this];exact hQ a w hC h.2
  ·exfalso;obtain ⟨i,hi,h1,h2⟩:=least_un (fun i=>listed.getD i false) n (by
    refine Classical.byContradiction fun hne=>hall fun i hi=>?_;cases hp:listed.getD i false
    ·exact absurd ⟨i,hi,hp⟩ hne
    ·rfl)
   have hmem:i ∈ Region.ready .any (l.take n).toArray listed':=by
    refine mem_ready.2 ⟨getD_in (by omega) ((hsame i hi).trans h1),l[i]'(by omega),by simp [List.getElem?_take_of_lt hi,show i < l.length by omega],fun e he hb=>?_⟩;have hlt:=depsB_spec hd (show l[i]?=some _ from by simp [show i < l.length by omega]) e he hb;rw [hsame e.on (by omega)];exact h2 _ hlt
   rw [h.1] at hmem;cases hmem
 | succ f ih=>
  intro listed listed' a w inv hsz hsame hC h;by_cases hall:∀ i,i < n→listed.getD i false=true
  ·have hr:Region.ready .any (l.take n).toArray listed'=[]:=by
    apply List.eq_nil_iff_forall_not_mem.2;intro j hj;obtain ⟨h1,o,h2,_⟩:=mem_ready.1 hj;have hjn:j < n:=by
     have:=(Array.getElem?_eq_some_iff.1 h2).1;simp at this;omega
    have h3:=getD_both h1;rw [hsame j hjn,hall j hjn] at h3;cases h3
   have hQa:=h.1 hr;have:listed=listed0 n (l.length - n):=listed_eq (by omega) inv hall;rw [this];exact any_more' _ _ _ _ _ (hQ a w hC hQa)
  ·obtain ⟨i,hi,h1,h2⟩:=least_un (fun i=>listed.getD i false) n (by
    refine Classical.byContradiction fun hne=>hall fun i hi=>?_;cases hp:listed.getD i false
    ·exact absurd ⟨i,hi,hp⟩ hne
    ·rfl)
   have hun:listed.getD i true=false:=getD_in (by rw [inv.size]; simp; omega) h1;rw [show f+1+(l.length - n)=f+(l.length - n)+1 by omega];refine ⟨fun h0=>?_,fun j hj=>?_⟩
   ·have hmem:i ∈ Region.ready .any l.toArray listed:=by
     refine mem_ready.2 ⟨hun,l[i]'(by omega),by simp [show i < l.length by omega],fun e he hb=>?_⟩;exact h2 _ (depsB_spec hd (show l[i]?=some _ from by simp [show i < l.length by omega]) e he hb)
    rw [h0] at hmem;cases hmem
   ·have hjn:j < n:=by
     rcases Nat.lt_or_ge j n with h3 | h3
     ·exact h3
     ·exact absurd hj (tail_waits hs hc (by simpa using hn) inv _ i rfl hi hun j h3)
    obtain ⟨g1,o,g2,g3⟩:=mem_ready.1 hj;have hj':j ∈ Region.ready .any (l.take n).toArray listed':=by
     refine mem_ready.2 ⟨getD_in (by omega) ((hsame j hjn).trans (getD_both g1)),o,by simp only [List.getElem?_toArray] at g2 ⊢; rw [List.getElem?_take_of_lt hjn]; exact g2,fun e he hb=>?_⟩;have hlt:=depsB_spec hd (show l[j]?=some o from by simpa using g2) e he hb;rw [hsame e.on (by omega)];exact g3 e he hb
    refine head_op hg hjn (by omega) hC (fun a' w' hC' h'=>ih _ _ a' w' (inv.set hj hjn) (by simpa using hsz) (fun k hk=>?_) hC' h') (h.2 j hj');by_cases e:j=k
    ·subst e;have s1:j < listed.size:=by rw [inv.size]; simp; omega
     simp [s1,show j < listed'.size by omega]
    ·rw [getD_set_ne false e,getD_set_ne false e];exact hsame k hk
theorem wp_region_quiet_tail {id:Nat} {a:Act} {w:World} {l:List Oper} (n:Nat) (hm:P.follows .mixedOrders=true) (hB:quietTailB .any l n=true) (C:World→Prop) (hC:C w.drew)
 (h:wpQuiet P (l.take n).toArray C (fun a'=>∀ w',C w'→wpList P l.toArray Q (l.drop n) a' w') (l.take n) a):(Code.region id l.toArray true).wp P Q a w:=by
 simp only [quietTailB,Bool.and_eq_true,decide_eq_true_eq] at hB;obtain ⟨⟨⟨⟨⟨⟨hg,hn⟩,hs⟩,hc⟩,hd⟩,hq⟩,hx⟩:=hB;refine wp_region_any hm ?_;have hx':=hx;simp only [Region.lexB,Bool.and_eq_true] at hx';have H:=wpAnyQ_lex (P:=P) (C:=C) (md:=.any) hx'.1 (l.take n) 0 (Array.replicate (l.take n).toArray.size false) a (by simp) (by simpa using hx'.2) h;have hsz:l.toArray.size=(l.take n).length+(l.length - n):=by simp; omega
 rw [hsz];refine head_any (C:=C) hg hn hs hc hd (fun a' w' hC' h'=>?_) _ _ _ a _ ?_ ?_ ?_ hC H
 ·have:=wpAny_of_seq (P:=P) (Q':=Q) (md:=.any) (ops:=l.toArray) (l.drop n) n (listed0 n (l.length - n)) a' w' (fun j=>by simp [List.getElem?_drop]) (by rw [List.length_drop]; exact hq) (h' w' hC');rw [List.length_drop] at this;exact this
 ·exact ⟨by simp; omega,fun j oj _ hl=>(by rw [getD_replicate_false] at hl; cases hl),fun t _ ht=>getD_in (by simp at ht ⊢; omega) (getD_replicate_false _ _)⟩
 ·simp; omega
 ·intro i hi;rw [getD_replicate_false,getD_replicate_false]
theorem qstep {ops:Array Oper} {Qf:Act→Prop} {a:Act} {o:Oper} {rest:List Oper} (hg:o.guard=none) (h:∃ v,(∀ w,C w→Oper.quietUpon P C w v ((execOp a.eval o).run P w))∧wpQuiet P ops C Qf rest (a.put o.dst v)):wpQuiet P ops C Qf (o :: rest) a:=by
 have hw:∀ y,Region.wanted o y=true:=fun y=>by simp [Region.wanted,hg]
 unfold wpQuiet;rw [if_pos (hw _)];exact h
theorem quiet_val {w:World} {v:Value}:Oper.quietUpon P C w v (.ok (.value v) w):=⟨rfl,rfl⟩
theorem quiet_call {w:World} {v:Value} {f:FuncId} {args:Array Value} (h:Calls P f args w fun e w''=>e=.returned v∧C w''):Oper.quietUpon P C w v (.ok (.enter f args) w):=⟨rfl,h⟩
end
section
variable {P:Program} {ops:Array Oper} {Q:Exit→Act→World→Prop} {md:Region.Mode} {S:World→Prop} {z:Nat}
def wpAnyL (P:Program) (md:Region.Mode) (ops:Array Oper) (Q:Exit→Act→World→Prop) (S:World→Prop) (z:Nat):Nat→Array Bool→Act→World→Prop
 | 0,listed,a,w=>Region.ready md ops listed=[]∧Q .normal a w
 | fuel+1,listed,a,w=>
  (Region.ready md ops listed=[]→Q .normal a w) ∧
  ∀ i ∈ Region.ready md ops listed,wpOp P ops Q i (fun a' w'=>(S w'∨i=z)∧wpAnyL P md ops Q S z fuel (listed.setIfInBounds i true) a' w') a w
theorem wpAny_of_L : ∀ (fuel:Nat) (listed:Array Bool) (a:Act) (w:World),wpAnyL P md ops Q S z fuel listed a w→wpAny P md ops Q fuel listed a w
 | 0,_,_,_,h=>h
 | fuel+1,_,_,_,h=>⟨h.1,fun i hi=>wpOp_mono (fun a' w' h'=>wpAny_of_L fuel _ a' w' h'.2) (h.2 i hi)⟩
theorem wpAnyL_first {i:Nat} {oi:Oper} {v:Value} (hi:ops[i]?=some oi) (hsel:∀ (j:Nat) (o:Oper) cs b,ops[j]?=some o→o.op≠.select cs b)
 (hQ:∀ c a w,Q (.panic c) (a.put oi.dst v) w→Q (.panic c) a w) (hz:∃ oz,ops[z]?=some oz∧∃ e ∈ oz.after,Region.binds md e=true∧e.on=i) (hiz:i≠z) :
 ∀ (fuel:Nat) (listed:Array Bool) (a:Act) (w:World),
  (∀ j oj,ops[j]?=some oj→j≠i→listed.getD j true=false→(∀ e ∈ oj.after,Region.binds md e=true→e.on≠i)→oi.apart ops oj=true) →
  i ∈ Region.ready md ops listed→YieldsIf P ops S oi v a→S w →
  wpAnyL P md ops Q S z fuel (listed.setIfInBounds i true) (a.put oi.dst v) w→wpAnyL P md ops Q S z (fuel+1) listed a w:=by
 intro fuel
 induction fuel with
 | zero=>
  intro listed a w _ hr hy hS H;refine ⟨fun h=>(by rw [h] at hr; cases hr),fun j hj=>?_⟩;by_cases hji:j=i
  ·subst hji; exact hy.wpOp hi hS ⟨.inl hS,H⟩
  ·have:=ready_mono hj hji;rw [H.1] at this;cases this
 | succ fuel ih=>
  intro listed a w hfree hr hy hS H;refine ⟨fun h=>(by rw [h] at hr; cases hr),fun j hj=>?_⟩;by_cases hji:j=i
  ·subst hji; exact hy.wpOp hi hS ⟨.inl hS,H⟩
  ·have h1:=H.2 j (ready_mono hj hji);obtain ⟨hjun,oj,hoj,hall⟩:=mem_ready.1 hj;have hnot:∀ e ∈ oj.after,Region.binds md e=true→e.on≠i:=fun e he hb heq=>by
    have h1:=hall e he hb;have h0:=(mem_ready.1 hr).1;rw [heq] at h1;rcases Nat.lt_or_ge i listed.size with h' | h'
    ·simp [h'] at h0 h1; rw [h0] at h1; cases h1
    ·simp [Array.getElem?_eq_none h'] at h1
   have h2:=wpOp_putIf hoj (hfree j oj hoj hji hjun hnot) (fun cs b=>hsel i oi cs b hi) (fun cs b=>hsel j oj cs b hoj) hQ hy h1;have hfree':∀ k ok,ops[k]?=some ok→k≠i→(listed.setIfInBounds j true).getD k true=false →
    (∀ e ∈ ok.after,Region.binds md e=true→e.on≠i)→oi.apart ops ok=true:=fun k ok hk hki hun hno=>by
    refine hfree k ok hk hki ?_ hno;by_cases hjk:j=k
    ·subst hjk; exact hjun
    ·rw [getD_set_ne true hjk] at hun; exact hun
   have hjz:j≠z:=fun e=>by
    obtain ⟨oz,ho,e1,he1,hb1,hon⟩:=hz;rw [e,ho] at hoj;cases hoj;exact hnot e1 he1 hb1 hon
   have hri:=ready_mono hr (Ne.symm hji);refine wpOp_mono (fun a' w' h3=>?_) h2;obtain ⟨hy',hs',h4⟩:=h3;have hS':S w':=hs'.resolve_right hjz;rw [Array.setIfInBounds_comm _ _ (Ne.symm hji)] at h4;exact ⟨.inl hS',ih (listed.setIfInBounds j true) a' w' hfree' hri hy' hS' h4⟩
def wpLead (P:Program) (ops:Array Oper) (S:World→Prop) (Qf:Act→Prop):List Oper→Act→Prop
 | [],a=>Qf a
 | o :: rest,a=>∃ v,YieldsIf P ops S o v a∧wpLead P ops S Qf rest (a.put o.dst v)
def wpTailL (P:Program) (ops:Array Oper) (Q:Exit→Act→World→Prop) (S:World→Prop):List Oper→Act→World→Prop
 | [],a,w=>Q .normal a w
 | o :: rest,a,w=>o.guard=none∧Oper.wp P o a w (fun a' w'=>(rest≠[]→S w')∧wpTailL P ops Q S rest a' w') Q
def waitsB (md:Region.Mode) (ops:Array Oper) (z i:Nat):Bool:=match ops[z]? with
 | some oz=>oz.after.any fun e=>Region.binds md e && e.on == i
 | none=>false
theorem waitsB_spec {z i:Nat} (h:waitsB md ops z i=true):∃ oz,ops[z]?=some oz∧∃ e ∈ oz.after,Region.binds md e=true∧e.on=i:=by
 unfold waitsB at h;split at h
 ·rename_i oz ho;obtain ⟨e,he,h2⟩:=Array.any_eq_true'.1 h;simp at h2;exact ⟨oz,ho,e,he,h2.1,h2.2⟩
 ·cases h
def leadB (md:Region.Mode) (ops:Array Oper) (z:Nat):Nat→Nat→Array Bool→Bool
 | 0,k,listed=>Region.seqB md ops (ops.size - k) k listed
 | g+1,k,listed=>(Region.ready md ops listed).contains k && Region.free md ops listed k && waitsB md ops z k && decide (k≠z) && leadB md ops z g (k+1) (listed.setIfInBounds k true)
theorem wpAnyL_of_seq {Q':Exit→Act→World→Prop}:∀ (l:List Oper) (k:Nat) (listed:Array Bool) (a:Act) (w:World),(∀ j,l[j]?=ops[k+j]?)→(l=[]∨z=k+l.length - 1) →
 Region.seqB md ops l.length k listed=true→wpTailL P ops Q' S l a w→wpAnyL P md ops Q' S z l.length listed a w
 | [],_,_,_,_,_,_,hB,h=>⟨by simpa [Region.seqB] using hB,h⟩
 | o :: l,k,listed,a,w,hl,hz,hB,h=>by
  have h0:ops[k]?=some o:=by simpa using (hl 0).symm
  simp only [List.length_cons,Region.seqB,Bool.and_eq_true,decide_eq_true_eq] at hB;refine ⟨fun h1=>(by rw [hB.1] at h1; cases h1),fun i hi=>?_⟩;rw [hB.1] at hi;have hik:i=k:=by simpa using hi
  subst hik;have hz':z=i+l.length:=by
   rcases hz with hz | hz
   ·cases hz
   ·simp at hz;omega
  have hw:wpOp P ops Q' i (fun a' w'=>(l≠[]→S w')∧wpTailL P ops Q' S l a' w') a w:=by
   unfold wpOp;simp only [h0];have hwt:∀ y,Region.wanted o y=true:=fun y=>by simp [Region.wanted,h.1]
   rw [if_pos (hwt _)];exact .inl h.2
  refine wpOp_mono (fun a' w' h'=>⟨?_,wpAnyL_of_seq l (i+1) _ a' w' (fun j=>by have:=hl (j+1); simpa [Nat.add_assoc,Nat.add_comm 1 j] using this) (by
   rcases l with _ | ⟨o2,l⟩
   ·exact .inl rfl
   ·right;simp at hz' ⊢;omega) hB.2 h'.2⟩) hw
  rcases l with _ | ⟨o2,l⟩
  ·right;simp at hz';exact hz'.symm
  ·exact .inl (h'.1 (by simp))
theorem wpAnyL_lead (hs:Region.noSelect ops=true) (hnp:∀ c a w,Q (.panic c) a w=False) (hz:z+1=ops.size):∀ (l:List Oper) (k:Nat) (rest:List Oper) (listed:Array Bool) (a:Act) (w:World),(∀ j,(l ++ rest)[j]?=ops[k+j]?)→rest≠[] →
 leadB md ops z l.length k listed=true→S w→wpLead P ops S (fun a'=>wpTailL P ops Q S rest a' w) l a→wpAnyL P md ops Q S z (l.length+rest.length) listed a w
 | [],k,rest,listed,a,w,hl,hr,hB,hS,h=>by
  have hk:k+rest.length=ops.size:=by
   have h1:=hl rest.length;have h2:=hl (rest.length - 1);have hp:0 < rest.length:=List.length_pos_iff.2 hr;simp only [List.nil_append,List.getElem?_eq_none (Nat.le_refl _)] at h1;have h3:ops.size≤k+rest.length:=by
    rcases Nat.lt_or_ge (k+rest.length) ops.size with h4 | h4
    ·rw [Array.getElem?_eq_getElem h4] at h1;cases h1
    ·exact h4
   have h5:k+(rest.length - 1) < ops.size:=by
    rcases Nat.lt_or_ge (k+(rest.length - 1)) ops.size with h4 | h4
    ·exact h4
    ·rw [Array.getElem?_eq_none h4,List.nil_append,List.getElem?_eq_getElem (by omega)] at h2;cases h2
   omega
  simp only [List.length_nil,leadB] at hB;rw [show ops.size - k=rest.length by omega] at hB;have:=wpAnyL_of_seq (P:=P) (Q':=Q) (S:=S) (z:=z) rest k listed a w (fun j=>by simpa using hl j) (.inr (by omega)) hB h;simpa using this
 | o :: l,k,rest,listed,a,w,hl,hr,hB,hS,h=>by
  have h0:ops[k]?=some o:=by simpa using (hl 0).symm
  simp only [List.length_cons,leadB,Bool.and_eq_true,decide_eq_true_eq] at hB;obtain ⟨⟨⟨⟨h1,h2⟩,h3⟩,h4⟩,h5⟩:=hB;obtain ⟨v,hy,hK⟩:=h;rw [show (o :: l).length+rest.length=l.length+rest.length+1 by simp; omega];exact wpAnyL_first h0 (Region.noSelect_spec hs) (fun c a' w' hq=>by rw [hnp] at hq; exact hq.elim) (waitsB_spec h3) h4 _ listed a w (Region.free_spec h0 h2) (by simpa using h1) hy hS
   (wpAnyL_lead hs hnp hz l (k+1) rest _ _ w (fun j=>by have:=hl (j+1); simpa [Nat.add_assoc,Nat.add_comm 1 j] using this) hr h5 hS hK)
theorem wp_region_lead {id:Nat} {a:Act} {w:World} {l:List Oper} (n:Nat) (S:World→Prop) (hm:P.follows .mixedOrders=true) (hB:(Region.noSelect l.toArray && decide (n < l.length) && leadB .any l.toArray (l.length - 1) n 0 (Array.replicate l.length false))=true) (hS:S w.drew)
 (h:wpLead P l.toArray S (fun a'=>wpTailL P l.toArray (NoPanic Q) S (l.drop n) a' w.drew) (l.take n) a):(Code.region id l.toArray true).wp P Q a w:=by
 simp only [Bool.and_eq_true,decide_eq_true_eq] at hB;obtain ⟨⟨h1,h2⟩,h3⟩:=hB;refine wp_region_noPanic (wp_region_any hm (wpAny_of_L (S:=S) (z:=l.length - 1) _ _ _ _ ?_));have hlen:(l.take n).length=n:=by simp; omega
 have:=wpAnyL_lead (P:=P) (Q:=NoPanic Q) (S:=S) (md:=.any) (z:=l.length - 1) h1 (fun c a w=>rfl) (by simp; omega) (l.take n) 0 (l.drop n) (Array.replicate l.length false) a w.drew (fun j=>by simp) (by
  intro e;have:=congrArg List.length e;simp at this;omega) (by rw [hlen]; exact h3) hS h
 rw [show (l.take n).length+(l.drop n).length=l.length by simp; omega] at this;simpa using this
theorem lstep {Qf:Act→Prop} {a:Act} {o:Oper} {rest:List Oper} (hg:o.guard=none) (h:∃ v,(∀ w,S w→(execOp a.eval o).run P w=.ok (.value v) w)∧wpLead P ops S Qf rest (a.put o.dst v)):wpLead P ops S Qf (o :: rest) a:=by
 obtain ⟨v,h1,h2⟩:=h;exact ⟨v,.inl ⟨by simp [Region.wanted,hg],h1⟩,h2⟩
theorem lnil {Qf:Act→Prop} {a:Act} (h:Qf a):wpLead P ops S Qf [] a:=h
theorem ltail {a:Act} {w:World} {o o2:Oper} {rest:List Oper} (hg:o.guard=none) (h:∀ K:Act→World→Prop,(∀ a' w',S w'→wpTailL P ops Q S (o2 :: rest) a' w'→K a' w')→Oper.wp P o a w K Q):wpTailL P ops Q S (o :: o2 :: rest) a w:=
 ⟨hg,h _ fun _ _ h1 h2=>⟨fun _=>h1,h2⟩⟩
theorem llast {a:Act} {w:World} {o:Oper} (hg:o.guard=none) (h:∀ K:Act→World→Prop,(∀ a' w',Q .normal a' w'→K a' w')→Oper.wp P o a w K Q):wpTailL P ops Q S [o] a w:=
 ⟨hg,h _ fun _ _ h2=>⟨fun h=>absurd rfl h,h2⟩⟩
end
end Go.Proofs.YtadgpnoealegiaaGreat
