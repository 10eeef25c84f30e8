import Derived.Test.YtadgpnoealegiaaGreatP06
import Derived.RangeFuncNested
import Derived.RangeFuncBound
import Derived.RangeFuncCalls
import Derived.RangeFuncLeaves
import Derived.Shelf.Abstract
import Derived.Shelf.RegionOpen
import Derived.WalkKit
import Derived.OwnWalkIn
import Derived.TacticsInMore
import Derived.LoopNIn
import Derived.LoopIn
namespace Go.Proofs.YtadgpnoealegiaaGreat
open Go.RowKit
open Go.Lib (hid)
set_option maxRecDepth 100000
set_option maxHeartbeats 20000000
structure IsT (w:World) (tb mb ms pb pr:Nat) (o r:Int) (gone:Bool) (L:List Int) (ps:List D):Prop where
 obj:Blk w tb 211 #[ptr mb,ptr pb,.int .i64 o,.int .i64 r,.bool gone]
 mem:IsM w mb ms L
 pool:IsPool w pb pr ps
section
variable {w w':World} {tb mb ms pb pr:Nat} {o r:Int} {gone:Bool} {L L':List Int} {ps ps':List D}
theorem IsT.only {S:List Nat} (h:IsT w tb mb ms pb pr o r gone L ps) (q:Only S w w') (h1:tb ∉ S) (h2:mb ∉ S) (h3:ms ∉ S) (h4:pb ∉ S) (h5:pr ∉ S):IsT w' tb mb ms pb pr o r gone L ps:=
 ⟨h.obj.only q h1,h.mem.only q h2 h3,h.pool.only q h4 h5⟩
theorem IsT.quiet (h:IsT w tb mb ms pb pr o r gone L ps) (q:Only [] w w'):IsT w' tb mb ms pb pr o r gone L ps:=h.only q (by simp) (by simp) (by simp) (by simp) (by simp)
theorem IsT.ne (h:IsT w tb mb ms pb pr o r gone L ps):tb≠mb∧tb≠ms∧tb≠pb∧tb≠pr∧mb≠pb∧mb≠pr∧ms≠pb∧ms≠pr:=by
 obtain ⟨_,_,h1,h2⟩:=h.mem.blk;exact ⟨h.obj.ne h1 (by decide),h.obj.ne h2 (by decide),h.obj.ne h.pool.obj (by decide),h.obj.ne h.pool.row (by decide),h1.ne h.pool.obj (by decide),h1.ne h.pool.row (by decide),h2.ne h.pool.obj (by decide),h2.ne h.pool.row (by decide)⟩
theorem IsT.words (h:IsT w tb mb ms pb pr o r gone L ps) (q:Only [mb,ms] w w') (hm:IsM w' mb ms L'):IsT w' tb mb ms pb pr o r gone L' ps:=by
 have hn:=h.ne;exact ⟨h.obj.only q (by simp; omega),hm,h.pool.only q (by simp; omega) (by simp; omega)⟩
theorem IsT.frames (h:IsT w tb mb ms pb pr o r gone L ps) (q:Only [pr] w w') (hp:IsPool w' pb pr ps'):IsT w' tb mb ms pb pr o r gone L ps':=by
 have hn:=h.ne;exact ⟨h.obj.only q (by simp; omega),h.mem.only q (by simp; omega) (by simp; omega),hp⟩
theorem IsT.lt (h:IsT w tb mb ms pb pr o r gone L ps):tb < w.heap.size∧mb < w.heap.size∧ms < w.heap.size∧pb < w.heap.size∧pr < w.heap.size:=
 ⟨h.obj.lt,h.mem.lt.1,h.mem.lt.2,h.pool.lt.1,h.pool.lt.2⟩
theorem IsT.c0 (h:IsT w tb mb ms pb pr o r gone L ps):w.cell? ⟨tb,0,none⟩=some (ptr mb):=h.obj.at 0 rfl
theorem IsT.c1 (h:IsT w tb mb ms pb pr o r gone L ps):w.cell? ⟨tb,1,none⟩=some (ptr pb):=h.obj.at 1 rfl
theorem IsT.c2 (h:IsT w tb mb ms pb pr o r gone L ps):w.cell? ⟨tb,2,none⟩=some (.int .i64 o):=h.obj.at 2 rfl
theorem IsT.c3 (h:IsT w tb mb ms pb pr o r gone L ps):w.cell? ⟨tb,3,none⟩=some (.int .i64 r):=h.obj.at 3 rfl
theorem IsT.c4 (h:IsT w tb mb ms pb pr o r gone L ps):w.cell? ⟨tb,4,none⟩=some (.bool gone):=h.obj.at 4 rfl
end
theorem pe_out (x:PE):x.val=.agg #[.bool x.pr,.int .i64 x.ri,.bool x.la,.int .i64 x.fr]:=rfl
section
variable {w:World} {tb mb ms pb pr:Nat} {o r:Int} {gone:Bool} {L:List Int} {ps:List D}
theorem nat_any (i:Int) (h:IsT w tb mb ms pb pr o r gone L ps):Calls Tryz.prog 209 #[ptr tb,.int .i64 i] w fun e w'=>e=.returned (entN L i).val∧Only [mb,ms] w w'∧IsT w' tb mb ms pb pr o r gone L ps:=by
 have hq:=(Only.refl [] w).alloc (.cells #[.bool false,.int .i64 0,.bool false,.int .i64 0] 172);have hz:=Blk.new w 172 #[.bool false,.int .i64 0,.bool false,.int .i64 0];have ht:=h.quiet hq;have hlt:=h.lt;have hr:=h.mem.ld_range i;have c0:=ht.c0;have HT:=hid ht;have HL:=hid (lod_any ht.mem i);obtain ⟨v,hv⟩:∃ v,ld L i=v:=⟨_,rfl⟩;rw [hv] at HL hr;have HP:=hid (fun W=>parse_any W v hr.1 hr.2);obtain ⟨⟨pr',ri,la,fr⟩,hx⟩:∃ x,parseE v=x:=⟨_,rfl⟩;have HX:=hid (show entN L i=⟨pr',ri,la,fr⟩ by unfold entN; rw [hv,hx]);rw [hx] at HP;rw [HX.out];rw [pe_out] at HP ⊢;dsimp only at HP ⊢;have HQ:=hid hq;have HZ:=hid hz;clear hq hz ht h hv hx hr;go_enter Tryz.func209,Tryz.ntmps209;go_wp2_with fail;refine HL.out.mono ?_;rintro e w1 ⟨rfl,ho,hm⟩;have HT:=hid (HT.out.words ho hm);have HZ:=hid (HZ.out.only ho (by simp; omega));have HO:=hid ((HQ.out.sub (by simp)).trans ho);clear ho hm c0;go_wp2_with fail;refine (HP.out _).mono ?_;rintro e w2 ⟨rfl,ho⟩;have HT:=hid (HT.out.quiet ho);have HZ:=hid (HZ.out.only ho (by simp));have HO:=hid (HO.out.trans (ho.sub (by simp)));have HT:=hid (HT.out.quiet ((Only.refl [] w2).alloc (.cells #[.bool pr',.int .i64 ri,.bool la,.int .i64 fr] 172)));have HZ:=hid (HZ.out.alloc (.cells #[.bool pr',.int .i64 ri,.bool la,.int .i64 fr] 172));have HO:=hid (HO.out.alloc (.cells #[.bool pr',.int .i64 ri,.bool la,.int .i64 fr] 172));have r0:=HZ.out.at 0 (v:=.bool false) rfl;have r1:=HZ.out.at 1 (v:=.int .i64 0) rfl;have r2:=HZ.out.at 2 (v:=.bool false) rfl;have r3:=HZ.out.at 3 (v:=.int .i64 0) rfl;have f0:=HZ.out.frozen 0;have f1:=HZ.out.frozen 1;have f2:=HZ.out.frozen 2;have f3:=HZ.out.frozen 3;clear ho;go_wp2_with fail;have H4:=set4 HZ.out (.bool pr') (.int .i64 ri) (.bool la) (.int .i64 fr);have q0:=H4.at 0 (v:=.bool pr') rfl;have q1:=H4.at 1 (v:=.int .i64 ri) rfl;have q2:=H4.at 2 (v:=.bool la) rfl;have q3:=H4.at 3 (v:=.int .i64 fr) rfl;have HO4:=((((HO.out.setCell (p:=⟨w.heap.size,0,none⟩) (.inr (Nat.le_refl _)) (.bool pr')).setCell (p:=⟨w.heap.size,1,none⟩) (.inr (Nat.le_refl _)) (.int .i64 ri)).setCell (p:=⟨w.heap.size,2,none⟩) (.inr (Nat.le_refl _)) (.bool la)).setCell (p:=⟨w.heap.size,3,none⟩) (.inr (Nat.le_refl _)) (.int .i64 fr));refine bodyPost_ret (v:=.agg #[.bool pr',.int .i64 ri,.bool la,.int .i64 fr]) (by simp [results,Tryz.results209,go_sem,q0,q1,q2,q3]) rfl ⟨rfl,HO4,?_⟩;exact HT.out.only (put4 (i:=0) (Only.refl [w.heap.size] _) (.head _) (.bool pr') (.int .i64 ri) (.bool la) (.int .i64 fr)) (by simp; omega) (by simp; omega) (by simp; omega) (by simp; omega) (by simp; omega)
theorem nlay_any (i:Int) (x:PE) (hx:x.right=true) (h:IsT w tb mb ms pb pr o r gone L ps):Calls Tryz.prog 185 #[ptr tb,.int .i64 i,x.val] w fun e w'=>e=.returned (.tuple #[])∧Only [mb,ms] w w'∧IsT w' tb mb ms pb pr o r gone (layN L i x) ps:=by
 have hq:=(Only.refl [] w).alloc (.cells #[.bool x.pr,.int .i64 x.ri,.bool x.la,.int .i64 x.fr] 172);have HP:=hid (fun W=>ptepack_any W x hx);have hr:0≤packE x∧packE x < 18446744073709551616:=by
  unfold packE;have:=bitN_lt x.pr;have:=bitN_lt x.la;split <;> omega
 obtain ⟨v,hv⟩:∃ v,packE x=v:=⟨_,rfl⟩;rw [hv] at HP hr;have HL:=hid (show layN L i x=st L i v by unfold layN; rw [hv]);rw [HL.out];have HT:=hid (h.quiet hq);have HQ:=hid hq;rw [pe_out] at HP ⊢;obtain ⟨pr',ri,la,fr⟩:=x;dsimp only at HP HT HQ ⊢;clear hq h hv hx;go_enter Tryz.func185,Tryz.ntmps185;go_wp2_with fail;refine (HP.out _).mono ?_;rintro e w1 ⟨rfl,ho⟩;have HT:=hid (HT.out.quiet ho);have HO:=hid (HQ.out.trans ho);have c0:=HT.out.c0;clear ho;go_wp2_with fail;refine (sto_any HT.out.mem i v hr.1 hr.2).mono ?_;rintro e w2 ⟨rfl,ho,hm⟩;have HT:=hid (HT.out.words ho hm);have HO:=hid ((HO.out.sub (by simp)).trans ho);clear ho hm c0;go_wp2_with fail;go_end0;exact ⟨rfl,HO.out,HT.out⟩
theorem nleads_any (w:World) (f:Int):Calls Tryz.prog 205 #[.int .i64 f] w fun e w'=>e=.returned (leadsE f).val∧Only [] w w':=by
 go_enter Tryz.func205,Tryz.ntmps205;go_wp2;refine bodyPost_ret (v:=(leadsE f).val) (by simp [results,Tryz.results205,go_sem,leadsE,PE.val]) rfl ⟨rfl,(Only.refl _ _).alloc _⟩
theorem state_any (h:IsT w tb mb ms pb pr o r gone L ps):Calls Tryz.prog 127 #[ptr tb] w fun e w'=>e=.returned (.int .i64 (if gone=true then 6 else 0))∧w=w':=by
 have c0:=h.c0;have c4:=h.c4;clear h;cases gone
 all_goals
  go_enter Tryz.func127,Tryz.ntmps127;go_wp2;go_ret;exact ⟨rfl,rfl⟩
theorem root_any (h:IsT w tb mb ms pb pr o r gone L ps):Calls Tryz.prog 89 #[ptr tb] w fun e w'=>e=.returned (.int .i64 (if gone=true then -1 else r))∧w=w':=by
 have HS:=hid (state_any h);have c3:=h.c3;clear h;cases gone
 all_goals
  go_enter Tryz.func89,Tryz.ntmps89;go_wp2_with fail;refine HS.out.mono ?_;rintro e w1 ⟨rfl,rfl⟩;go_wp2_with fail;go_ret;exact ⟨rfl,rfl⟩
def rightN (p f r:Int):Int:=if p < 0∨65536≤p∨f < 0∨4096≤f then 2 else if r < 1∨7 < r then 7 else 0
theorem nright_any (w:World) (p f r:Int):Calls Tryz.prog 175 #[.int .i64 p,.int .i64 f,.int .i64 r] w fun e w'=>e=.returned (.int .i64 (rightN p f r))∧w=w':=by
 unfold rightN;by_cases h1:p < 0
 ·rw [if_pos (.inl h1)];go_enter Tryz.func175,Tryz.ntmps175;go_wp2;go_ret;exact ⟨rfl,rfl⟩
 ·by_cases h2:65536≤p
  ·rw [if_pos (.inr (.inl h2))];go_enter Tryz.func175,Tryz.ntmps175;go_wp2;go_ret;exact ⟨rfl,rfl⟩
  ·by_cases h3:f < 0
   ·rw [if_pos (.inr (.inr (.inl h3)))];go_enter Tryz.func175,Tryz.ntmps175;go_wp2;go_ret;exact ⟨rfl,rfl⟩
   ·by_cases h4:4096≤f
    ·rw [if_pos (.inr (.inr (.inr h4)))];go_enter Tryz.func175,Tryz.ntmps175;go_wp2;go_ret;exact ⟨rfl,rfl⟩
    ·rw [if_neg (by omega)];by_cases h5:r < 1
     ·rw [if_pos (.inl h5)];go_enter Tryz.func175,Tryz.ntmps175;go_wp2;go_ret;exact ⟨rfl,rfl⟩
     ·by_cases h6:7 < r
      ·rw [if_pos (.inr h6)];go_enter Tryz.func175,Tryz.ntmps175;go_wp2;go_ret;exact ⟨rfl,rfl⟩
      ·rw [if_neg (by omega)];go_enter Tryz.func175,Tryz.ntmps175;go_wp2;go_ret;exact ⟨rfl,rfl⟩
theorem nframe_any (w:World) (p:Int) (x:Pl) (e:PE) (hl:x.l≠1):Calls Tryz.prog 184 #[.int .i64 p,x.val,e.val] w fun e' w'=>e'=.returned (.int .i64 e.fr)∧Only [] w w':=by
 have hl2:(x.l == 1)=false:=by simp [hl]
 obtain ⟨f,l,i⟩:=x;obtain ⟨pr',ri,la,fr⟩:=e;rw [pe_out,show Pl.val ⟨f,l,i⟩=.agg #[.int .i64 f,.int .i64 l,.int .i64 i] from rfl];dsimp only at hl2 ⊢;clear hl;go_enter Tryz.func184,Tryz.ntmps184;go_wp2;go_ret;exact ⟨rfl,((Only.refl _ _).alloc _).alloc _⟩
end
section
structure StepT (T:List Nat) (n₀:Nat) (A B:World):Prop where
 os:B.os=A.os
 tape:B.tape=A.tape
 output:B.output=A.output
 size:A.heap.size≤B.heap.size
 block:∀ k o,A.heap[k]?=some o→(k < n₀∨∀ r,o≠.loop r)→k ∉ T→B.heap[k]?=some o
theorem StepT.of_only {T:List Nat} {n₀:Nat} {A B:World} (h:Only T A B):StepT T n₀ A B:=
 ⟨h.os,h.tape,h.output,h.size,fun k _ hk _ hn=>(h.block k (Array.getElem?_eq_some_iff.1 hk).1 hn).trans hk⟩
theorem StepT.alloc {T:List Nat} {n₀:Nat} (A:World) (b:Obj):StepT T n₀ A (A.alloc b):=.of_only ((Only.refl T A).alloc b)
theorem StepT.putLoop {T:List Nat} {n₀:Nat} {A:World} {l:Nat} {r:Loop} (h:A.heap[l]?=some (.loop r)) (hl:n₀≤l) (b:Obj):StepT T n₀ A (A.putObj l b):=
 ⟨rfl,rfl,rfl,by simp [World.putObj],fun k _ hk hc _=>by
  by_cases e:k=l
  ·subst e;rw [h] at hk;cases hk;rcases hc with hc | hc
   ·omega
   ·exact absurd rfl (hc r)
  ·exact (World.putObj_heap_other e).trans hk⟩
theorem StepT.only {S T:List Nat} {n₀:Nat} {w A B:World} (h:Only S w A) (k:StepT T n₀ A B) (hn:w.heap.size≤n₀) (hT:∀ x ∈ T,x ∈ S∨w.heap.size≤x):Only S w B:=
 ⟨k.os.trans h.os,k.tape.trans h.tape,k.output.trans h.output,Nat.le_trans h.size k.size,fun i hi hs=>by
  have h1:=h.block i hi hs;have hlt:=Nat.lt_of_lt_of_le hi h.size;obtain ⟨o,ho⟩:∃ o,A.heap[i]?=some o:=⟨A.heap[i],by simp [hlt]⟩;rw [k.block i o ho (.inl (by omega)) (fun hm=>by
   rcases hT i hm with h2 | h2
   ·exact hs h2
   ·omega),← h1,ho]⟩
theorem StepT.blk {T:List Nat} {n₀:Nat} {A B:World} (k:StepT T n₀ A B) {g t:Nat} {cs:Array Value} (h:Blk A g t cs) (hT:g ∉ T):Blk B g t cs:=k.block g _ h (.inr fun r e=>by cases e) hT
def ItK {α:Type} (F:Fence) (n:Nat) (P:Program) (g:Nat) (lb:Array Value) (encs:α→Array Value) (Kp:World→World→Prop) (S Sp:List α→Prop) (N:Nat) (T:List Nat) (Z:World→Prop) (w:World):Prop:=
 ∀ (l:Nat) (J Jx:List α→World→Prop) (W:World),Only [] w W→(∀ s A B,J s A→Only T A B→J s B)→(∀ s A B,Jx s A→Only T A B→Jx s B) →
  (∀ pre x W1,J pre W1→pre.length < N→YieldAt F (n - 1) P l (encs x) W1 fun e W'=>
   (e=.returned (.bool true)∧J (pre ++ [x]) W'∧Kp W1 W')∨(e=.returned (.bool false)∧Jx (pre ++ [x]) W')) →
  J [] W →
  CallsIn F n P g (#[.func (.yield l) #[] #[]] ++ lb) W fun e W'=>(∃ v,e=.returned v)∧((∃ xs,S xs∧Z W'∧J xs W')∨(∃ pre,Sp pre∧Jx pre W'))
theorem only_loop {T:List Nat} {A B:World} (h:Only T A B) {l:Nat} {o:Obj} (ho:A.heap[l]?=some o) (hl:l ∉ T):B.heap[l]?=some o:=
 (h.block l (Array.getElem?_eq_some_iff.1 ho).1 hl).trans ho
variable {F:Fence} {n:Nat} {P:Program}
theorem wpIn_rangeFunc_T {α:Type} {g:Operand} {ps:Array Tmp} {assign body:Code} {Q:Exit→Act→World→Prop} {a:Act} {w:World}
 (hro:F.round=none) (h1:1≤n) {gf:Nat} {lb:Array Value} (hg:a.eval g=.func (.func gf) #[] lb) (hFg:F.fn gf) (eg:∀ args w,(callFunc gf args).run P w=.ok (.enter gf args) w)
 {encs:α→Array Value} {Kp:World→World→Prop} {S Sp:List α→Prop} {N:Nat} {T:List Nat} {Z:World→Prop} {w0:World} (hseq:ItK F (n - 1) P gf lb encs Kp S Sp N T Z w0) (hZ:∀ A B,Z A→StepT [] w.heap.size A B→Z B)
 (hKt:∀ {A B C:World},Kp A B→Kp B C→Kp A C) (hKb:∀ (W:World) (l:Nat) (r:Loop) (o':Obj),w.heap.size≤l→W.heap[l]?=some (.loop r)→o'.isCells=false→Kp W (W.putObj l o')) (hb0:Only [] w0 w) (hps:∀ x,(encs x).size=ps.size)
 (hT:∀ x ∈ T,x < w.heap.size)
 (I:List α→World→Prop) (Ix:Code→List α→World→Prop) (hI:∀ s A B,I s A→StepT T w.heap.size A B→I s B) (hIx:∀ c s A B,Ix c s A→StepT T w.heap.size A B→Ix c s B) (h0:I [] w)
 (Ax:α→Act→World→Prop) (hAx:∀ x a' A B,Ax x a' A→StepT T w.heap.size A B→Ax x a' B)
 (hassign:∀ (l:Nat) (pre:List α) (x:α) (W:World) (K:Act→World→Prop),I pre W→(∀ a' W',KeepsOthers W W'→Kp W W'→I pre W'→Ax x a' W'→K a' W') →
  assign.wpIn (F.inRound l) (n - 1 - 1) P (Exit.then K (fun _ _ _=>False)) { tmps:=(ps.zip (encs x)).foldl (fun t (p,v)=>t.setIfInBounds p v) a.tmps,defers:=[] } W)
 (hbody:∀ (l:Nat) (pre:List α) (x:α) (a':Act) (W:World),I pre W→Ax x a' W→pre.length < N→body.wpIn (F.inRound l) (n - 1 - 1) P (ownPostK Kp I Ix (pre ++ [x]) W) a' W)
 (hdone:∀ (D:Nat) (xs:List α) (W:World),w.heap.size≤D→Z W→S xs→I xs W→W.heap[D]?=some (.deferred (some []))→Q .normal { a with defers:={ target:=.collected D,args:=#[] } :: a.defers } W)
 (hstop:∀ (D:Nat) (c:Code) (pre:List α) (W:World),w.heap.size≤D→Sp pre→Ix c pre W→W.heap[D]?=some (.deferred (some []))→c.wpIn F n P Q { a with defers:={ target:=.collected D,args:=#[] } :: a.defers } W) :
 (Code.rangeFunc g ps assign body).wpIn F n P Q a w:=by
 refine wpIn_rangeFunc ?_;intro fn hfn;rw [hro];obtain ⟨rec,hrec⟩:∃ rec:LoopState→Option Code→Loop,rec=fun st pe=>{ state:=st,pending:=pe,fn,tmps:=a.tmps,params:=ps,assign,body,defers:=w.heap.size }:=⟨_,rfl⟩;obtain ⟨W1,hW1⟩:∃ W1,(w.alloc (.deferred (some []))).alloc (.loop (rec .ready none))=W1:=⟨_,rfl⟩;have hL1:W1.heap[w.heap.size+1]?=some (.loop (rec .ready none)):=by
  rw [← hW1]; have:=World.alloc_heap_new (w.alloc (.deferred (some []))) (.loop (rec .ready none)); rwa [World.size_alloc] at this
 have hK1:W1.heap[w.heap.size]?=some (.deferred (some [])):=by
  rw [← hW1]; exact (Below.heap_alloc _ _ _ (by simp)).trans (World.alloc_heap_new w _)
 have hI1:I [] W1:=by rw [← hW1]; exact hI _ _ _ (hI _ _ _ h0 (StepT.alloc _ _)) (StepT.alloc _ _)
 have hb1:Only [] w0 W1:=by
  rw [← hW1]; exact (hb0.alloc _).alloc _
 have ht0:w.heap.size ∉ T:=fun h=>by have:=hT _ h; omega
 have ht1:w.heap.size+1 ∉ T:=fun h=>by have:=hT _ h; omega
 refine ⟨w.heap.size+1,[{ target:=.collected w.heap.size,args:=#[] }],W1,{ target:=.fn (.func gf) lb,args:=#[.func (.yield (w.heap.size+1)) #[] #[]] },W1,gf,
  #[.func (.yield (w.heap.size+1)) #[] #[]] ++ lb,W1,?_,?_,?_,?_,fun _=>h1,?_⟩
 ·rw [← hW1,hrec]; exact run_enterLoop_outer _ _ _ _ _
 ·simp only [resolve,hg];simp [go_sem]
 ·intro f' hf'; simp [Target.leads] at hf'; subst hf'; exact hFg
 ·simp [invoke,go_sem,eg]
 ·refine (hseq (w.heap.size+1)
   (fun pre W=>I pre W∧W.heap[w.heap.size+1]?=some (.loop (rec .ready none))∧W.heap[w.heap.size]?=some (.deferred (some [])))
   (fun pre W=>∃ c,Ix c pre W∧W.heap[w.heap.size+1]?=some (.loop (rec .done (some c)))∧W.heap[w.heap.size]?=some (.deferred (some [])))
   W1 hb1
   (fun s A B hs ho=>⟨hI s A B hs.1 (.of_only ho),only_loop ho hs.2.1 ht1,only_loop ho hs.2.2 ht0⟩)
   (fun s A B hs ho=>by
    obtain ⟨c,hc,hl,hk⟩:=hs;exact ⟨c,hIx c s A B hc (.of_only ho),only_loop ho hl ht1,only_loop ho hk ht0⟩)
   ?_ ⟨hI1,hL1,hK1⟩).mono ?_
  ·rintro pre x W ⟨hi,hl,hk⟩ hlen;have hlt:w.heap.size+1 < W.heap.size:=(Array.getElem?_eq_some_iff.1 hl).1;have hy:=run_yield (P:=P) (args:=encs x) hl (by rw [hrec]; exact hps x);rw [hrec] at hy;refine ⟨fn,_,assign,body,hy,roundIn_of_wpIn hfn (hassign _ pre x W _ hi ?_)⟩;clear hy;intro a' Wa hkfa hkpa hia hax;replace hl:=hkfa.same _ _ hl rfl;replace hk:=hkfa.same _ _ hk rfl;replace hlt:w.heap.size+1 < Wa.heap.size:=(Array.getElem?_eq_some_iff.1 hl).1;replace hi:=hia;clear hia;revert hkpa hkfa;generalize W=Wb;intro hkfa hkpa;obtain ⟨W,rfl⟩:∃ W,W=Wa:=⟨_,rfl⟩;refine ⟨_,run_beginRound hl (by rw [hrec]),?_⟩;have hl2:(W.putObj (w.heap.size+1) (.loop { rec .ready none with state:=.busy })).heap[w.heap.size+1]?=some (.loop { rec .ready none with state:=.busy }):=World.putObj_heap_same hlt;have hk2:(W.putObj (w.heap.size+1) (.loop { rec .ready none with state:=.busy })).heap[w.heap.size]?=some (.deferred (some [])):=(World.putObj_heap_other (by omega)).trans hk;have hw2:Kp W (W.putObj (w.heap.size+1) (.loop { rec .ready none with state:=.busy })):=hKb _ _ _ _ (by omega) hl rfl;refine wpIn_mono (hbody _ pre x a' _ (hI _ _ _ hi (StepT.putLoop hl (by omega) _)) (hAx x a' _ _ hax (StepT.putLoop hl (by omega) _)) hlen) ?_;have fin:∀ (jump:Option Code) (W3:World),KeepsOthers (W.putObj (w.heap.size+1) (.loop { rec .ready none with state:=.busy })) W3 →
    (Instr.endRound (w.heap.size+1) jump).run P W3=.ok (.bool jump.isNone) (W3.putObj (w.heap.size+1) (.loop (rec (if jump.isNone then .ready else .done) jump))) ∧
    W3.heap[w.heap.size+1]?=some (.loop { rec .ready none with state:=.busy }) ∧
    (W3.putObj (w.heap.size+1) (.loop (rec (if jump.isNone then .ready else .done) jump))).heap[w.heap.size+1]?=some (.loop (rec (if jump.isNone then .ready else .done) jump)) ∧
    (W3.putObj (w.heap.size+1) (.loop (rec (if jump.isNone then .ready else .done) jump))).heap[w.heap.size]?=some (.deferred (some [])):=fun jump W3 hk3=>by
    have hl3:=hk3.same _ _ hl2 rfl;have:=run_endRound (P:=P) jump hl3;rw [hrec] at this ⊢;exact ⟨this,by rw [hrec] at hl3; exact hl3,World.putObj_heap_same (Array.getElem?_eq_some_iff.1 hl3).1,(World.putObj_heap_other (by omega)).trans (hk3.same _ _ hk2 rfl)⟩
   rintro e a3 W3 hp;cases e with
   | normal=>
    obtain ⟨hk3,hkp3,hi3⟩:=hp;obtain ⟨hr,hl3,hl4,hk4⟩:=fin none W3 hk3;exact ⟨_,_,hr,.inl ⟨rfl,⟨hI _ _ _ hi3 (StepT.putLoop hl3 (by omega) _),hl4,hk4⟩,hKt hkpa (hKt (hKt hw2 hkp3) (hKb _ _ _ _ (by omega) hl3 rfl))⟩⟩
   | ret=>
    obtain ⟨hk3,hi3⟩:=hp;obtain ⟨hr,hl3,hl4,hk4⟩:=fin (some .ret) W3 hk3;exact ⟨_,_,hr,.inr ⟨rfl,.ret,hIx _ _ _ _ hi3 (StepT.putLoop hl3 (by omega) _),hl4,hk4⟩⟩
   | exit id=>
    obtain ⟨hk3,hi3⟩:=hp;obtain ⟨hr,hl3,hl4,hk4⟩:=fin (some (.exit id)) W3 hk3;exact ⟨_,_,hr,.inr ⟨rfl,.exit id,hIx _ _ _ _ hi3 (StepT.putLoop hl3 (by omega) _),hl4,hk4⟩⟩
   | goto t=>
    obtain ⟨hk3,hi3⟩:=hp;obtain ⟨hr,hl3,hl4,hk4⟩:=fin (some (.goto t)) W3 hk3;exact ⟨_,_,hr,.inr ⟨rfl,.goto t,hIx _ _ _ _ hi3 (StepT.putLoop hl3 (by omega) _),hl4,hk4⟩⟩
   | panic ch=>exact hp.elim
   | outgrown=>exact hp.elim
  ·rintro e W2 ⟨⟨v,rfl⟩,(⟨xs,hS,hz,hi,hl,hk⟩ | ⟨pre,hSp,c,hi,hl,hk⟩)⟩
   ·exact ⟨none,_,by have:=run_endLoop (P:=P) hl (by rw [hrec]; simp); rw [hrec] at this; exact this,hdone _ xs _ (Nat.le_refl _) (hZ _ _ hz (StepT.putLoop hl (by omega) _)) hS (hI _ _ _ hi (StepT.putLoop hl (by omega) _)) ((World.putObj_heap_other (by omega)).trans hk)⟩
   ·exact ⟨some c,_,by have:=run_endLoop (P:=P) hl (by rw [hrec]; simp); rw [hrec] at this; exact this,hstop _ c pre _ (Nat.le_refl _) hSp (hIx _ _ _ _ hi (StepT.putLoop hl (by omega) _)) ((World.putObj_heap_other (by omega)).trans hk)⟩
def Mine (B:Nat) (W:World) (k:Nat):Prop:=k=B∨∃ v,W.cell? ⟨B,0,none⟩=some v∧v.ownBlock=some k
structure RK (B:Nat) (W W':World):Prop where
 size:W.heap.size≤W'.heap.size
 block:∀ k o,W.heap[k]?=some o→(∀ r,o≠.loop r)→¬ Mine B W k→W'.heap[k]?=some o
 fresh:∀ k,Mine B W' k→Mine B W k∨W.heap.size≤k
 lim:(∀ k,Mine B W k→k < W.heap.size)→∀ k,Mine B W' k→k < W'.heap.size
theorem RK.trans {B:Nat} {W W' W'':World} (h:RK B W W') (k:RK B W' W''):RK B W W'':=
 ⟨Nat.le_trans h.size k.size,fun i o hi hl hn=>k.block i o (h.block i o hi hl hn) hl fun hm=>by
  have:=(Array.getElem?_eq_some_iff.1 hi).1;rcases h.fresh i hm with h1 | h1
  ·exact hn h1
  ·omega,fun i hi=>by
  rcases k.fresh i hi with h1 | h1
  ·exact h.fresh i h1
  ·exact .inr (Nat.le_trans h.size h1),fun hl=>k.lim (h.lim hl)⟩
theorem RK.refl (B:Nat) (W:World):RK B W W:=⟨Nat.le_refl _,fun _ _ h _ _=>h,fun _ h=>.inl h,fun h=>h⟩
theorem mine_same {B:Nat} {W W':World} (h:W'.cell? ⟨B,0,none⟩=W.cell? ⟨B,0,none⟩) {k:Nat} (hm:Mine B W' k):Mine B W k:=by
 rcases hm with rfl | ⟨v,h1,h2⟩
 ·exact .inl rfl
 ·exact .inr ⟨v,h.symm.trans h1,h2⟩
theorem RK.putLoop {B:Nat} {W:World} {l:Nat} {r:Loop} (h:W.heap[l]?=some (.loop r)) {o':Obj} (ho:o'.isCells=false):RK B W (W.putObj l o'):=by
 have hlt:=(Array.getElem?_eq_some_iff.1 h).1;have hm:∀ k,Mine B (W.putObj l o') k→Mine B W k:=fun k hm=>by
  rcases hm with rfl | ⟨v,h1,h2⟩
  ·exact .inl rfl
  ·refine .inr ⟨v,?_,h2⟩;by_cases e:B=l
   ·subst e;unfold World.cell? at h1;rw [World.putObj_heap_same hlt] at h1;cases o' <;> simp_all [Obj.isCells]
   ·rw [← h1];unfold World.cell?;rw [World.putObj_heap_other e]
 refine ⟨by simp [World.putObj],fun k o hk hl _=>?_,fun k h1=>.inl (hm k h1),fun hl k h1=>by simpa [World.putObj] using hl k (hm k h1)⟩;by_cases e:k=l
 ·subst e;rw [h] at hk;cases hk;exact absurd rfl (hl r)
 ·exact (World.putObj_heap_other e).trans hk
theorem RK.blk {B:Nat} {W W':World} (h:RK B W W') {g t:Nat} {cs:Array Value} (hb:Blk W g t cs) (hn:¬ Mine B W g):Blk W' g t cs:=h.block g _ hb (fun r e=>by cases e) hn
theorem RK.not {B:Nat} {W W':World} (h:RK B W W') {g:Nat} (hg:g < W.heap.size) (hn:¬ Mine B W g):¬ Mine B W' g:=fun hm=>by
 rcases h.fresh g hm with h1 | h1
 ·exact hn h1
 ·omega
theorem mine_only {B:Nat} {T:List Nat} {W W':World} (h:Only T W W') (hB:B < W.heap.size) (hT:B ∉ T) {g:Nat} (hn:¬ Mine B W g):¬ Mine B W' g:=fun hm=>hn (mine_same (h.cell (p:=⟨B,0,none⟩) hB hT) hm)
end
end Go.Proofs.YtadgpnoealegiaaGreat
