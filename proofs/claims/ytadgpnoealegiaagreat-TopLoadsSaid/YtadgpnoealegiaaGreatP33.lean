import Derived.Test.YtadgpnoealegiaaGreatP27
namespace Go.Proofs.YtadgpnoealegiaaGreat
open Go.RowKit
open Go.Lib (hid)
set_option maxRecDepth 100000
set_option maxHeartbeats 20000000
section
def recB : Obj→Bool
 | .loop _=>true
 | .deferred _=>true
 | _=>false
structure StepD (T:List Nat) (n₀:Nat) (A B:World):Prop where
 os:B.os=A.os
 tape:B.tape=A.tape
 output:B.output=A.output
 size:A.heap.size≤B.heap.size
 block:∀ k o,A.heap[k]?=some o→(k < n₀∨recB o=false)→k ∉ T→B.heap[k]?=some o
theorem StepD.of_only {T:List Nat} {n₀:Nat} {A B:World} (h:Only T A B):StepD T n₀ A B:=
 ⟨h.os,h.tape,h.output,h.size,fun k _ hk _ hn=>(h.block k (Array.getElem?_eq_some_iff.1 hk).1 hn).trans hk⟩
theorem StepD.refl (T:List Nat) (n₀:Nat) (A:World):StepD T n₀ A A:=.of_only (Only.refl T A)
theorem StepD.alloc {T:List Nat} {n₀:Nat} (A:World) (b:Obj):StepD T n₀ A (A.alloc b):=.of_only ((Only.refl T A).alloc b)
theorem StepD.putRec {T:List Nat} {n₀:Nat} {A:World} {l:Nat} {r:Obj} (h:A.heap[l]?=some r) (hr:recB r=true) (hl:n₀≤l) (b:Obj):StepD T n₀ A (A.putObj l b):=
 ⟨rfl,rfl,rfl,by simp [World.putObj],fun k _ hk hc _=>by
  by_cases e:k=l
  ·subst e;rw [h] at hk;cases hk;rcases hc with hc | hc
   ·omega
   ·rw [hr] at hc;cases hc
  ·exact (World.putObj_heap_other e).trans hk⟩
theorem StepD.putLoop {T:List Nat} {n₀:Nat} {A:World} {l:Nat} {r:Loop} (h:A.heap[l]?=some (.loop r)) (hl:n₀≤l) (b:Obj):StepD T n₀ A (A.putObj l b):=.putRec h rfl hl b
theorem StepD.trans {T:List Nat} {n₀:Nat} {A B C:World} (h:StepD T n₀ A B) (k:StepD T n₀ B C):StepD T n₀ A C:=
 ⟨k.os.trans h.os,k.tape.trans h.tape,k.output.trans h.output,Nat.le_trans h.size k.size,fun i o hi hc hT=>k.block i o (h.block i o hi hc hT) hc hT⟩
theorem StepD.weak {T:List Nat} {n₀ n₁:Nat} {A B:World} (h:StepD T n₁ A B) (hn:n₀≤n₁):StepD T n₀ A B:=
 ⟨h.os,h.tape,h.output,h.size,fun k o hk hc hT=>h.block k o hk (hc.imp (fun h=>Nat.lt_of_lt_of_le h hn) (fun h=>h)) hT⟩
theorem StepD.sub {T T':List Nat} {n₀:Nat} {A B:World} (h:StepD T n₀ A B) (hs:T ⊆ T'):StepD T' n₀ A B:=
 ⟨h.os,h.tape,h.output,h.size,fun k o hk hc hT=>h.block k o hk hc fun hm=>hT (hs hm)⟩
theorem StepD.only {S T:List Nat} {n₀:Nat} {w A B:World} (h:Only S w A) (k:StepD T n₀ A B) (hn:w.heap.size≤n₀) (hT:∀ x ∈ T,x ∈ S∨w.heap.size≤x):Only S w B:=
 ⟨k.os.trans h.os,k.tape.trans h.tape,k.output.trans h.output,Nat.le_trans h.size k.size,fun i hi hs=>by
  have h1:=h.block i hi hs;have hlt:=Nat.lt_of_lt_of_le hi h.size;obtain ⟨o,ho⟩:∃ o,A.heap[i]?=some o:=⟨A.heap[i],by simp [hlt]⟩;rw [k.block i o ho (.inl (by omega)) (fun hm=>by
   rcases hT i hm with h2 | h2
   ·exact hs h2
   ·omega),← h1,ho]⟩
theorem StepD.blk {T:List Nat} {n₀:Nat} {A B:World} (k:StepD T n₀ A B) {g t:Nat} {cs:Array Value} (h:Blk A g t cs) (hT:g ∉ T):Blk B g t cs:=k.block g _ h (.inr rfl) hT
theorem StepD.cell {T:List Nat} {n₀:Nat} {A B:World} (k:StepD T n₀ A B) {b i:Nat} {v:Value} (h:A.cell? ⟨b,i,none⟩=some v) (hT:b ∉ T):B.cell? ⟨b,i,none⟩=some v:=by
 obtain ⟨t,cs,f,hb,_⟩:=cell_blk h;have h2:=k.block b _ hb (.inr rfl) hT;unfold World.cell? at h ⊢;rw [hb] at h;rw [h2];exact h
theorem StepD.mine {T:List Nat} {n₀ B:Nat} {A C:World} (k:StepD T n₀ A C) (hB:B < A.heap.size) (hn:B < n₀) (hT:B ∉ T) {x:Nat} (hm:Mine B C x):Mine B A x:=by
 refine mine_same ?_ hm;obtain ⟨o,ho⟩:∃ o,A.heap[B]?=some o:=⟨A.heap[B],by simp [hB]⟩;unfold World.cell?;rw [k.block B o ho (.inl hn) hT,ho]
structure KeepsFrom (n₀:Nat) (W W':World):Prop where
 size:W.heap.size≤W'.heap.size
 same:∀ (k:Nat) (o:Obj),n₀≤k→W.heap[k]?=some o→o.isCells=false→W'.heap[k]?=some o
theorem KeepsFrom.weak {n₀ n₁:Nat} {W W':World} (h:KeepsFrom n₀ W W') (hn:n₀≤n₁):KeepsFrom n₁ W W':=⟨h.size,fun k o hk=>h.same k o (Nat.le_trans hn hk)⟩
theorem KeepsFrom.of_others {n₀:Nat} {W W':World} (h:KeepsOthers W W'):KeepsFrom n₀ W W':=⟨h.size,fun k o _=>h.same k o⟩
def ownPostS {α:Type} (n₀:Nat) (Kp:World→World→Prop) (I:List α→World→Prop) (Ix:Code→List α→World→Prop) (xs:List α) (W:World):Exit→Act→World→Prop
 | .normal,_,W'=>KeepsOthers W W'∧Kp W W'∧I xs W'
 | .ret,_,W'=>KeepsFrom n₀ W W'∧Ix .ret xs W'
 | .exit id,_,W'=>KeepsFrom n₀ W W'∧Ix (.exit id) xs W'
 | .goto t,_,W'=>KeepsFrom n₀ W W'∧Ix (.goto t) xs W'
 | .panic _,_,_=>False
 | .outgrown,_,_=>False
def ItS {α:Type} (F:Fence) (n:Nat) (P:Program) (g:Nat) (lb:Array Value) (encs:α→Array Value) (Kp:World→World→Prop) (S Sp:List α→Prop) (N:Nat) (T:List Nat) (Z:World→Prop) (w:World):Prop:=
 ∀ (l:Nat) (J Jx:List α→World→Prop) (W:World),Only [] w W→(∀ s A B,J s A→StepD T W.heap.size A B→J s B)→(∀ s A B,Jx s A→StepD T W.heap.size A B→Jx s B) →
  (∀ pre x W1,J pre W1→pre.length < N→YieldAt F (n - 1) P l (encs x) W1 fun e W'=>
   (e=.returned (.bool true)∧J (pre ++ [x]) W'∧Kp W1 W'∧KeepsOthers W1 W')∨(e=.returned (.bool false)∧Jx (pre ++ [x]) W'∧KeepsFrom W.heap.size W1 W')) →
  J [] W →
  CallsIn F n P g (#[.func (.yield l) #[] #[]] ++ lb) W fun e W'=>(∃ v,e=.returned v)∧((∃ xs,S xs∧Z W'∧J xs W')∨(∃ pre,Sp pre∧Jx pre W'))
theorem ItK.s {α:Type} {F:Fence} {n:Nat} {P:Program} {g:Nat} {lb:Array Value} {encs:α→Array Value} {Kp:World→World→Prop} {S Sp:List α→Prop} {N:Nat} {T:List Nat} {Z:World→Prop} {w:World}
 (h:ItK F n P g lb encs Kp S Sp N T Z w):ItS F n P g lb encs Kp S Sp N T Z w:=
 fun l J Jx W hW hJ hJx hY h0=>h l J Jx W hW (fun s A B hs ho=>hJ s A B hs (.of_only ho)) (fun s A B hs ho=>hJx s A B hs (.of_only ho)) (fun pre x W1 h1 h2=>(hY pre x W1 h1 h2).mono fun _ _ h3=>h3.imp (fun h4=>⟨h4.1,h4.2.1,h4.2.2.1⟩) (fun h4=>⟨h4.1,h4.2.1⟩)) h0
theorem roundIn_wide {m m' l0:Nat} {P:Program} {l:Nat} {f:FuncId} {tmps:Array Value} {assign body:Code} {w:World} {R:Ending→World→Prop} (h:RoundIn Fence.wide m P l f tmps assign body w R):RoundIn (Fence.wide.inRound l0) m' P l f tmps assign body w R:=
 ⟨trivial,fun c cs _=>h.2 c cs (room_wide _)⟩
variable {F:Fence} {n:Nat} {P:Program}
theorem wpIn_rangeFunc_S {α:Type} {g:Operand} {ps:Array Tmp} {assign body:Code} {Q:Exit→Act→World→Prop} {a:Act} {w:World}
 (hro:F.round=none) (h1:1≤n) {gf:Nat} {lb:Array Value} (hg:a.eval g=.func (.func gf) #[] lb) (hFg:F.fn gf) (eg:∀ args w,(callFunc gf args).run P w=.ok (.enter gf args) w)
 {encs:α→Array Value} {Kp:World→World→Prop} {S Sp:List α→Prop} {N:Nat} {T:List Nat} {Z:World→Prop} {w0:World} (hseq:ItS F (n - 1) P gf lb encs Kp S Sp N T Z w0) (hZ:∀ A B,Z A→StepD [] w.heap.size A B→Z B)
 (hKt:∀ {A B C:World},Kp A B→Kp B C→Kp A C) (hKb:∀ (W:World) (l:Nat) (r:Loop) (o':Obj),w.heap.size≤l→W.heap[l]?=some (.loop r)→o'.isCells=false→Kp W (W.putObj l o')) (hb0:Only [] w0 w) (hps:∀ x,(encs x).size=ps.size)
 (hT:∀ x ∈ T,x < w.heap.size)
 (I:List α→World→Prop) (Ix:Code→List α→World→Prop) (hI:∀ s A B,I s A→StepD T w.heap.size A B→I s B) (hIx:∀ c s A B,Ix c s A→StepD T w.heap.size A B→Ix c s B) (h0:I [] w)
 (Ax:α→Act→World→Prop) (hAx:∀ x a' A B,Ax x a' A→StepD T w.heap.size A B→Ax x a' B)
 (hassign:∀ (l:Nat) (pre:List α) (x:α) (W:World) (K:Act→World→Prop),I pre W→(∀ a' W',KeepsOthers W W'→Kp W W'→I pre W'→Ax x a' W'→K a' W') →
  assign.wpIn (F.inRound l) (n - 1 - 1) P (Exit.then K (fun _ _ _=>False)) { tmps:=(ps.zip (encs x)).foldl (fun t (p,v)=>t.setIfInBounds p v) a.tmps,defers:=[] } W)
 (hbody:∀ (l:Nat) (pre:List α) (x:α) (a':Act) (W:World),I pre W→Ax x a' W→pre.length < N→body.wpIn (F.inRound l) (n - 1 - 1) P (ownPostS w.heap.size Kp I Ix (pre ++ [x]) W) a' W)
 (hdone:∀ (D:Nat) (xs:List α) (W:World),w.heap.size≤D→Z W→S xs→I xs W→W.heap[D]?=some (.deferred (some []))→Q .normal { a with defers:={ target:=.collected D,args:=#[] } :: a.defers } W)
 (hstop:∀ (D:Nat) (c:Code) (pre:List α) (W:World),w.heap.size≤D→Sp pre→Ix c pre W→W.heap[D]?=some (.deferred (some []))→c.wpIn F n P Q { a with defers:={ target:=.collected D,args:=#[] } :: a.defers } W) :
 (Code.rangeFunc g ps assign body).wpIn F n P Q a w:=by
 refine wpIn_rangeFunc ?_;intro fn hfn;rw [hro];obtain ⟨rec,hrec⟩:∃ rec:LoopState→Option Code→Loop,rec=fun st pe=>{ state:=st,pending:=pe,fn,tmps:=a.tmps,params:=ps,assign,body,defers:=w.heap.size }:=⟨_,rfl⟩;obtain ⟨W1,hW1⟩:∃ W1,(w.alloc (.deferred (some []))).alloc (.loop (rec .ready none))=W1:=⟨_,rfl⟩;have hL1:W1.heap[w.heap.size+1]?=some (.loop (rec .ready none)):=by
  rw [← hW1]; have:=World.alloc_heap_new (w.alloc (.deferred (some []))) (.loop (rec .ready none)); rwa [World.size_alloc] at this
 have hK1:W1.heap[w.heap.size]?=some (.deferred (some [])):=by
  rw [← hW1]; exact (Below.heap_alloc _ _ _ (by simp)).trans (World.alloc_heap_new w _)
 have hsz:w.heap.size≤W1.heap.size∧w.heap.size+1 < W1.heap.size:=by rw [← hW1]; simp; omega
 have hI1:I [] W1:=by rw [← hW1]; exact hI _ _ _ (hI _ _ _ h0 (StepD.alloc _ _)) (StepD.alloc _ _)
 have hb1:Only [] w0 W1:=by
  rw [← hW1]; exact (hb0.alloc _).alloc _
 have ht0:w.heap.size ∉ T:=fun h=>by have:=hT _ h; omega
 have ht1:w.heap.size+1 ∉ T:=fun h=>by have:=hT _ h; omega
 refine ⟨w.heap.size+1,[{ target:=.collected w.heap.size,args:=#[] }],W1,{ target:=.fn (.func gf) lb,args:=#[.func (.yield (w.heap.size+1)) #[] #[]] },W1,gf,
  #[.func (.yield (w.heap.size+1)) #[] #[]] ++ lb,W1,?_,?_,?_,?_,fun _=>h1,?_⟩
 ·rw [← hW1,hrec]; exact run_enterLoop_outer _ _ _ _ _
 ·simp only [resolve,hg];simp [go_sem]
 ·intro f' hf'; simp [Target.leads] at hf'; subst hf'; exact hFg
 ·simp [invoke,go_sem,eg]
 ·refine (hseq (w.heap.size+1)
   (fun pre W=>I pre W∧W.heap[w.heap.size+1]?=some (.loop (rec .ready none))∧W.heap[w.heap.size]?=some (.deferred (some [])))
   (fun pre W=>∃ c,Ix c pre W∧W.heap[w.heap.size+1]?=some (.loop (rec .done (some c)))∧W.heap[w.heap.size]?=some (.deferred (some [])))
   W1 hb1
   (fun s A B hs ho=>⟨hI s A B hs.1 (ho.weak hsz.1),ho.block _ _ hs.2.1 (.inl hsz.2) ht1,ho.block _ _ hs.2.2 (.inl (by omega)) ht0⟩)
   (fun s A B hs ho=>by
    obtain ⟨c,hc,hl,hk⟩:=hs;exact ⟨c,hIx c s A B hc (ho.weak hsz.1),ho.block _ _ hl (.inl hsz.2) ht1,ho.block _ _ hk (.inl (by omega)) ht0⟩)
   ?_ ⟨hI1,hL1,hK1⟩).mono ?_
  ·rintro pre x W ⟨hi,hl,hk⟩ hlen;have hlt:w.heap.size+1 < W.heap.size:=(Array.getElem?_eq_some_iff.1 hl).1;have hy:=run_yield (P:=P) (args:=encs x) hl (by rw [hrec]; exact hps x);rw [hrec] at hy;refine ⟨fn,_,assign,body,hy,roundIn_of_wpIn hfn (hassign _ pre x W _ hi ?_)⟩;clear hy;intro a' Wa hkfa hkpa hia hax;replace hl:=hkfa.same _ _ hl rfl;replace hk:=hkfa.same _ _ hk rfl;replace hlt:w.heap.size+1 < Wa.heap.size:=(Array.getElem?_eq_some_iff.1 hl).1;replace hi:=hia;clear hia;revert hkpa hkfa;generalize W=Wb;intro hkfa hkpa;obtain ⟨W,rfl⟩:∃ W,W=Wa:=⟨_,rfl⟩;refine ⟨_,run_beginRound hl (by rw [hrec]),?_⟩;have hl2:(W.putObj (w.heap.size+1) (.loop { rec .ready none with state:=.busy })).heap[w.heap.size+1]?=some (.loop { rec .ready none with state:=.busy }):=World.putObj_heap_same hlt;have hk2:(W.putObj (w.heap.size+1) (.loop { rec .ready none with state:=.busy })).heap[w.heap.size]?=some (.deferred (some [])):=(World.putObj_heap_other (by omega)).trans hk;have hw2:Kp W (W.putObj (w.heap.size+1) (.loop { rec .ready none with state:=.busy })):=hKb _ _ _ _ (by omega) hl rfl;refine wpIn_mono (hbody _ pre x a' _ (hI _ _ _ hi (StepD.putLoop hl (by omega) _)) (hAx x a' _ _ hax (StepD.putLoop hl (by omega) _)) hlen) ?_;have fin:∀ (jump:Option Code) (W3:World),KeepsFrom w.heap.size (W.putObj (w.heap.size+1) (.loop { rec .ready none with state:=.busy })) W3 →
    (Instr.endRound (w.heap.size+1) jump).run P W3=.ok (.bool jump.isNone) (W3.putObj (w.heap.size+1) (.loop (rec (if jump.isNone then .ready else .done) jump))) ∧
    W3.heap[w.heap.size+1]?=some (.loop { rec .ready none with state:=.busy }) ∧
    (W3.putObj (w.heap.size+1) (.loop (rec (if jump.isNone then .ready else .done) jump))).heap[w.heap.size+1]?=some (.loop (rec (if jump.isNone then .ready else .done) jump)) ∧
    (W3.putObj (w.heap.size+1) (.loop (rec (if jump.isNone then .ready else .done) jump))).heap[w.heap.size]?=some (.deferred (some [])):=fun jump W3 hk3=>by
    have hl3:=hk3.same _ _ (Nat.le_succ _) hl2 rfl;have:=run_endRound (P:=P) jump hl3;rw [hrec] at this ⊢;exact ⟨this,by rw [hrec] at hl3; exact hl3,World.putObj_heap_same (Array.getElem?_eq_some_iff.1 hl3).1,(World.putObj_heap_other (by omega)).trans (hk3.same _ _ (Nat.le_refl _) hk2 rfl)⟩
   have kf:∀ (jump:Option Code) (W3:World),KeepsFrom w.heap.size (W.putObj (w.heap.size+1) (.loop { rec .ready none with state:=.busy })) W3 →
    KeepsFrom W1.heap.size Wb (W3.putObj (w.heap.size+1) (.loop (rec (if jump.isNone then .ready else .done) jump))):=fun jump W3 hk3=>by
    refine ⟨?_,fun k o hk0 hk1 ho=>?_⟩
    ·have h1:=hkfa.size;have h2:=hk3.size;simp only [World.putObj,Array.size_setIfInBounds] at h2 ⊢;omega
    ·have hne:k≠w.heap.size+1:=by omega
     exact (World.putObj_heap_other hne).trans (hk3.same k o (by omega) ((World.putObj_heap_other hne).trans (hkfa.same k o hk1 ho)) ho)
   rintro e a3 W3 hp;cases e with
   | normal=>
    obtain ⟨hk3,hkp3,hi3⟩:=hp;obtain ⟨hr,hl3,hl4,hk4⟩:=fin none W3 (.of_others hk3);refine ⟨_,_,hr,.inl ⟨rfl,⟨hI _ _ _ hi3 (StepD.putLoop hl3 (by omega) _),hl4,hk4⟩,hKt hkpa (hKt (hKt hw2 hkp3) (hKb _ _ _ _ (by omega) hl3 rfl)),?_⟩⟩;refine ⟨?_,fun k o hk1 ho=>?_⟩
    ·have h1:=hkfa.size;have h2:=hk3.size;simp only [World.putObj,Array.size_setIfInBounds] at h2 ⊢;omega
    ·have h1:=hkfa.same k o hk1 ho;by_cases e:k=w.heap.size+1
     ·subst e;rw [hl] at h1;cases h1;exact hl4
     ·exact (World.putObj_heap_other e).trans (hk3.same k o ((World.putObj_heap_other e).trans h1) ho)
   | ret=>
    obtain ⟨hk3,hi3⟩:=hp;obtain ⟨hr,hl3,hl4,hk4⟩:=fin (some .ret) W3 hk3;exact ⟨_,_,hr,.inr ⟨rfl,⟨.ret,hIx _ _ _ _ hi3 (StepD.putLoop hl3 (by omega) _),hl4,hk4⟩,kf (some .ret) W3 hk3⟩⟩
   | exit id=>
    obtain ⟨hk3,hi3⟩:=hp;obtain ⟨hr,hl3,hl4,hk4⟩:=fin (some (.exit id)) W3 hk3;exact ⟨_,_,hr,.inr ⟨rfl,⟨.exit id,hIx _ _ _ _ hi3 (StepD.putLoop hl3 (by omega) _),hl4,hk4⟩,kf (some (.exit id)) W3 hk3⟩⟩
   | goto t=>
    obtain ⟨hk3,hi3⟩:=hp;obtain ⟨hr,hl3,hl4,hk4⟩:=fin (some (.goto t)) W3 hk3;exact ⟨_,_,hr,.inr ⟨rfl,⟨.goto t,hIx _ _ _ _ hi3 (StepD.putLoop hl3 (by omega) _),hl4,hk4⟩,kf (some (.goto t)) W3 hk3⟩⟩
   | panic ch=>exact hp.elim
   | outgrown=>exact hp.elim
  ·rintro e W2 ⟨⟨v,rfl⟩,(⟨xs,hS,hz,hi,hl,hk⟩ | ⟨pre,hSp,c,hi,hl,hk⟩)⟩
   ·exact ⟨none,_,by have:=run_endLoop (P:=P) hl (by rw [hrec]; simp); rw [hrec] at this; exact this,hdone _ xs _ (Nat.le_refl _) (hZ _ _ hz (StepD.putLoop hl (by omega) _)) hS (hI _ _ _ hi (StepD.putLoop hl (by omega) _)) ((World.putObj_heap_other (by omega)).trans hk)⟩
   ·exact ⟨some c,_,by have:=run_endLoop (P:=P) hl (by rw [hrec]; simp); rw [hrec] at this; exact this,hstop _ c pre _ (Nat.le_refl _) hSp (hIx _ _ _ _ hi (StepD.putLoop hl (by omega) _)) ((World.putObj_heap_other (by omega)).trans hk)⟩
end
section
open Go.Shelf
structure UU (B:Nat) (w:World) (b1 b2 b3 tb mb ms pb pr:Nat) (f lv:Int):Prop where
 c1:w.cell? ⟨b1,0,none⟩=some (.int .i64 f)
 c2:w.cell? ⟨b2,0,none⟩=some (ptr tb)
 c3:w.cell? ⟨b3,0,none⟩=some (.int .i64 lv)
 n1:¬ Mine B w b1
 n2:¬ Mine B w b2
 n3:¬ Mine B w b3
 nt:¬ Mine B w tb
 nm:¬ Mine B w mb
 ns:¬ Mine B w ms
 nb:¬ Mine B w pb
 nr:¬ Mine B w pr
 lB:B < w.heap.size
 lim:∀ k,Mine B w k→k < w.heap.size
 d:∀ x ∈ [mb,ms],b1≠x∧b2≠x∧b3≠x∧B≠x
 z:tb < w.heap.size∧mb < w.heap.size∧ms < w.heap.size∧pb < w.heap.size∧pr < w.heap.size
section
variable {B:Nat} {w w':World} {b1 b2 b3 tb mb ms pb pr:Nat} {f lv o r:Int} {gone:Bool} {L:List Int} {ps:List D}
theorem UU.out (h:UU B w b1 b2 b3 tb mb ms pb pr f lv):b1 ∉ [mb,ms]∧b2 ∉ [mb,ms]∧b3 ∉ [mb,ms]∧B ∉ [mb,ms]:=
 ⟨fun hm=>(h.d _ hm).1 rfl,fun hm=>(h.d _ hm).2.1 rfl,fun hm=>(h.d _ hm).2.2.1 rfl,fun hm=>(h.d _ hm).2.2.2 rfl⟩
theorem UU.rk (h:UU B w b1 b2 b3 tb mb ms pb pr f lv) (k:RK B w w'):UU B w' b1 b2 b3 tb mb ms pb pr f lv:=by
 obtain ⟨l1,l2,l3,l4,l5⟩:=h.z;have hz:=k.size;exact ⟨k.cell h.c1 h.n1,k.cell h.c2 h.n2,k.cell h.c3 h.n3,k.not (cell_lt2 h.c1) h.n1,k.not (cell_lt2 h.c2) h.n2,k.not (cell_lt2 h.c3) h.n3,k.not l1 h.nt,k.not l2 h.nm,k.not l3 h.ns,k.not l4 h.nb,k.not l5 h.nr,Nat.lt_of_lt_of_le h.lB k.size,k.lim h.lim,h.d,by omega⟩
theorem UU.stepD {n₀:Nat} (h:UU B w b1 b2 b3 tb mb ms pb pr f lv) (k:StepD [mb,ms] n₀ w w') (hn:B < n₀):UU B w' b1 b2 b3 tb mb ms pb pr f lv:=by
 obtain ⟨d1,d2,d3,d4⟩:=h.out;have hz:=k.size;obtain ⟨l1,l2,l3,l4,l5⟩:=h.z;have m:∀ {x},Mine B w' x→Mine B w x:=fun hm=>k.mine h.lB hn d4 hm;exact ⟨k.cell h.c1 d1,k.cell h.c2 d2,k.cell h.c3 d3,fun hm=>h.n1 (m hm),fun hm=>h.n2 (m hm),fun hm=>h.n3 (m hm),fun hm=>h.nt (m hm),fun hm=>h.nm (m hm),fun hm=>h.ns (m hm),fun hm=>h.nb (m hm),fun hm=>h.nr (m hm),by have:=h.lB; omega,fun x hx=>Nat.lt_of_lt_of_le (h.lim x (m hx)) hz,h.d,by omega⟩
theorem UU.only {S:List Nat} (h:UU B w b1 b2 b3 tb mb ms pb pr f lv) (q:Only S w w') (hs:S ⊆ [mb,ms]):UU B w' b1 b2 b3 tb mb ms pb pr f lv:=
 h.stepD (StepD.of_only (q.sub hs) (n₀:=w.heap.size)) h.lB
theorem IsT.stepD {n₀:Nat} {A C:World} (h:IsT A tb mb ms pb pr o r gone L ps) (st:StepD [] n₀ A C):IsT C tb mb ms pb pr o r gone L ps:=by
 obtain ⟨⟨c,l,hm⟩,hw⟩:=h.mem;exact ⟨st.blk h.obj (by simp),⟨⟨c,l,st.blk hm.obj (by simp),st.blk hm.row (by simp),hm.len,hm.max⟩,hw⟩,st.blk h.pool.obj (by simp),st.blk h.pool.row (by simp),h.pool.len,h.pool.max,h.pool.wf⟩
theorem IsT.rk (h:IsT w tb mb ms pb pr o r gone L ps) (k:RK B w w') (u:UU B w b1 b2 b3 tb mb ms pb pr f lv):IsT w' tb mb ms pb pr o r gone L ps:=by
 obtain ⟨⟨c,l',hm⟩,hw⟩:=h.mem;exact ⟨k.blk h.obj u.nt,⟨⟨c,l',k.blk hm.obj u.nm,k.blk hm.row u.ns,hm.len,hm.max⟩,hw⟩,k.blk h.pool.obj u.nb,k.blk h.pool.row u.nr,h.pool.len,h.pool.max,h.pool.wf⟩
end
theorem nunder_any (w:World) (tb:Nat) (f lv:Int):Calls Tryz.prog 201 #[ptr tb,.int .i64 f,.int .i64 lv] w fun e w'=>e=.returned (.func (.func 213) #[] #[ptr (w.heap.size+1),ptr w.heap.size,ptr (w.heap.size+2)]) ∧
 w'=((w.alloc (.cells #[ptr tb] 186)).alloc (.cells #[.int .i64 f] 3)).alloc (.cells #[.int .i64 lv] 3):=by
 go_enter Tryz.func201,Tryz.ntmps201;go_wp2;go_ret;exact ⟨rfl,rfl⟩
def mkD (x:Nat):Deferred:={ target:=.collected x,args:=#[] }
theorem leaves_marks {F:Fence} {n:Nat} {P:Program} {fn:Func} {tmps:Array Value} {R:Ending→World→Prop} {n₀:Nat}:∀ (Ds:List Nat) (W:World),Ds.Nodup→(∀ x ∈ Ds,n₀≤x∧W.heap[x]?=some (.deferred (some []))) →
 (∀ W',StepD [] n₀ W W'→LeavesIn F n P fn tmps R [] .returning W')→LeavesInM F n P fn tmps R (Ds.map mkD) .returning W
 | [],W,_,_,hR=>hR W (.refl _ _ _)
 | x :: Ds,W,hn,hD,hR=>by
  obtain ⟨h1,h2⟩:=List.nodup_cons.1 hn;obtain ⟨g1,g2⟩:=hD x (.head _);refine ⟨by simp,.inl ⟨x,_,rfl,run_takeDeferred g2,leaves_marks Ds _ h2 (fun y hy=>?_) fun W' h3=>hR W' (StepD.trans (StepD.putRec g2 rfl g1 _) h3)⟩⟩;obtain ⟨k1,k2⟩:=hD y (.tail _ hy);refine ⟨k1,(World.putObj_heap_other (fun e=>?_)).trans k2⟩;subst e;exact h1 hy
def DOk (yb:Nat) (Ds:List Nat) (W:World):Prop:=Ds.Nodup∧∀ x ∈ Ds,yb≤x∧W.heap[x]?=some (.deferred (some []))
theorem DOk.only {yb:Nat} {Ds S:List Nat} {W W':World} (h:DOk yb Ds W) (q:Only S W W') (hs:∀ x ∈ S,x < yb):DOk yb Ds W':=
 ⟨h.1,fun x hx=>by
  obtain ⟨h1,h2⟩:=h.2 x hx;exact ⟨h1,(q.block x (Array.getElem?_eq_some_iff.1 h2).1 (fun hm=>by have:=hs x hm; omega)).trans h2⟩⟩
theorem DOk.stepD {yb n₀:Nat} {Ds S:List Nat} {W W':World} (h:DOk yb Ds W) (q:StepD S n₀ W W') (hs:∀ x ∈ S,x < yb) (hn:∀ x ∈ Ds,x < n₀):DOk yb Ds W':=
 ⟨h.1,fun x hx=>by
  obtain ⟨h1,h2⟩:=h.2 x hx;exact ⟨h1,q.block x _ h2 (.inl (hn x hx)) (fun hm=>by have:=hs x hm; omega)⟩⟩
theorem DOk.others {yb:Nat} {Ds:List Nat} {W W':World} (h:DOk yb Ds W) (k:KeepsOthers W W'):DOk yb Ds W':=
 ⟨h.1,fun x hx=>by
  obtain ⟨h1,h2⟩:=h.2 x hx;exact ⟨h1,k.same x _ h2 rfl⟩⟩
theorem DOk.lt {yb:Nat} {Ds:List Nat} {W:World} (h:DOk yb Ds W):∀ x ∈ Ds,x < W.heap.size:=fun x hx=>(Array.getElem?_eq_some_iff.1 (h.2 x hx).2).1
theorem DOk.cons {yb x:Nat} {Ds:List Nat} {W:World} (h:DOk yb Ds W) (hx:W.heap[x]?=some (.deferred (some []))) (hy:yb≤x) (hn:∀ z ∈ Ds,z < x):DOk yb (x :: Ds) W:=
 ⟨List.nodup_cons.2 ⟨fun hm=>by have:=hn x hm; omega,h.1⟩,fun z hz=>by
  rcases List.mem_cons.1 hz with rfl | hz
  ·exact ⟨hy,hx⟩
  ·exact h.2 z hz⟩
def cntU : Nat→Nat
 | 0=>1
 | l+1=>1+16 * cntU l
theorem cntU_pos : ∀ l,1≤cntU l
 | 0=>Nat.le_refl _
 | l+1=>by unfold cntU; omega
end
end Go.Proofs.YtadgpnoealegiaaGreat
