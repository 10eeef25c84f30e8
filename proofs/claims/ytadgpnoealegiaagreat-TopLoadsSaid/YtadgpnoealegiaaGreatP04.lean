import Derived.Test.YtadgpnoealegiaaGreatP03
import Derived.Maps.RangeWalk
import Derived.MapKept
namespace Go.Proofs.YtadgpnoealegiaaGreat
open Go.RowKit
open Go.Lib (hid)
set_option maxRecDepth 100000
set_option maxHeartbeats 20000000
section
open Go.ChangeMaps
def updM {α:Type} (f:Int→Option α) (k:Int) (v:Option α):Int→Option α:=fun j=>if j=k then v else f j
theorem updM_same {α:Type} (f:Int→Option α) (k:Int) (v:Option α):updM f k v k=v:=by simp [updM]
theorem updM_far {α:Type} (f:Int→Option α) (k:Int) (v:Option α) {j:Int} (h:j≠k):updM f k v j=f j:=by simp [updM,h]
def IsMap (w:World) (r:Nat) (f:Int→Option Value):Prop:=
 ∃ es c,w.heap[r]?=some (.map es c)∧MapKept.Stamped es c∧(∀ x ∈ es.toList,∃ k,x.key=.int .i64 k∧f k=some x.val)∧∀ k v,f k=some v→∃ x ∈ es.toList,x.key=.int .i64 k
section
variable {P:Program} {w w':World} {r:Nat} {f:Int→Option Value} {T K E:TypeId}
theorem IsMap.lt (h:IsMap w r f):r < w.heap.size:=by
 obtain ⟨es,c,hb,_⟩:=h;exact (Array.getElem?_eq_some_iff.1 hb).1
theorem IsMap.keep (h:IsMap w r f) (hk:w'.heap[r]?=w.heap[r]?):IsMap w' r f:=by
 obtain ⟨es,c,hb,h'⟩:=h;exact ⟨es,c,hk.trans hb,h'⟩
theorem IsMap.only {S:List Nat} (h:IsMap w r f) (o:Only S w w') (hr:r ∉ S):IsMap w' r f:=h.keep (o.block r h.lt hr)
theorem IsMap.ne_blk (h:IsMap w r f) {g:Nat} {t:TypeId} {cs:Array Value} (hb:Blk w g t cs):r≠g:=by
 rintro rfl;obtain ⟨es,c,hm,_⟩:=h;rw [Blk,hm] at hb;cases hb
theorem IsMap.new (w:World):IsMap (w.alloc (.map #[] 0)) w.heap.size (fun _=>none):=
 ⟨#[],0,by show (w.heap.push _)[w.heap.size]?=_; simp,MapKept.stamped_empty 0,by simp,by simp⟩
theorem isKeyI (k:Int):MapKept.IsKey (.int .i64) (.int .i64 k):=by simp [MapKept.IsKey]
theorem only_setBlock {o':Obj}:Only [r] w { w with heap:=w.heap.setIfInBounds r o' }:=
 ⟨rfl,rfl,rfl,by simp,fun k _ hn=>by
  have:k≠r:=by simpa using hn
  simp [Ne.symm this]⟩
theorem IsMap.keys (h:IsMap w r f) {es:Array MapEntry} {c:Nat} (hb:w.heap[r]?=some (.map es c)):∀ x ∈ es.toList,MapKept.IsKey (.int .i64) x.key:=by
 obtain ⟨es',c',hb',_,hk,_⟩:=h;rw [hb] at hb';cases hb';intro x hx;obtain ⟨k,e,_⟩:=hk x hx;rw [e];exact isKeyI k
theorem stamp_key {es:Array MapEntry} {c:Nat} (hs:MapKept.Stamped es c) {x y:MapEntry} (hx:x ∈ es.toList) (hy:y ∈ es.toList) (e:x.key=y.key):x=y:=by
 rw [MapKept.stamped_iff] at hs;exact entry_eq_of_key hs.2.2 hx hy e
theorem IsMap.find (h:IsMap w r f) (k:Int) {es:Array MapEntry} {c:Nat} (hb:w.heap[r]?=some (.map es c)) :
 (Instr.findNow (.int .i64) (.int .i64 k) es.toList 0=some none∧f k=none∧∀ x ∈ es.toList,x.key≠.int .i64 k) ∨
 ∃ j e,Instr.findNow (.int .i64) (.int .i64 k) es.toList 0=some (some (j,e.val))∧es.toList[j]?=some e∧e.key=.int .i64 k∧f k=some e.val:=by
 have hks:=h.keys hb;obtain ⟨es',c',hb',hs,hk,ho⟩:=h;rw [hb] at hb';cases hb';rcases MapKept.findNow_spec (isKeyI k) es.toList 0 hks with ⟨h1,h2⟩ | ⟨j,e,h1,h2,h3⟩
 ·refine .inl ⟨h1,?_,h2⟩;cases hf:f k with
  | none=>rfl
  | some v=>
   obtain ⟨x,hx,e⟩:=ho k v hf;exact absurd e (h2 x hx)
 ·refine .inr ⟨j,e,by simpa using h1,h2,h3,?_⟩;obtain ⟨k',e1,e2⟩:=hk e (List.mem_of_getElem? h2);rw [h3] at e1;cases e1;exact e2
theorem IsMap.look (h:IsMap w r f) (hT:P.underlying T=some (.map K E)) (hK:P.underlying K=some (.int .i64)) (k:Int) {z:Value} (hz:(zeroValue E).run P w=.ok z w) (ok:Bool) :
 (Instr.lookup T (.map (some r)) (.int .i64 k) ok).run P w=.ok (if ok=true then .tuple #[(f k).getD z,.bool (f k).isSome] else (f k).getD z) w:=by
 obtain ⟨es,c,hb,h'⟩:=id h;rcases h.find k hb with ⟨h1,h2,_⟩ | ⟨j,e,h1,_,_,h2⟩
 ·simp [Instr.lookup,run_underlying hT,MapKept.run_getObj_map hb,MapKept.run_checkKey hK (isKeyI k),MapKept.run_findKey hK h1,Result.andThen,hz,h2]
 ·simp [Instr.lookup,run_underlying hT,MapKept.run_getObj_map hb,MapKept.run_checkKey hK (isKeyI k),MapKept.run_findKey hK h1,Result.andThen,h2]
theorem IsMap.update (h:IsMap w r f) (hT:P.underlying T=some (.map K E)) (hK:P.underlying K=some (.int .i64)) (k:Int) (v:Value) :
 ∃ w',(Instr.mapUpdate T (.map (some r)) (.int .i64 k) v).run P w=.ok () w'∧Only [r] w w'∧w'.heap.size=w.heap.size∧IsMap w' r (updM f k (some v)):=by
 obtain ⟨es,c,hb,hs,hk,ho⟩:=id h;have hlt:=h.lt;rcases h.find k hb with ⟨h1,h2,h3⟩ | ⟨j,e,h1,h2,h3,h4⟩
 ·refine ⟨{ w with heap:=w.heap.setIfInBounds r (.map (es.push ⟨.int .i64 k,v,c⟩) (c+1)) },?_,only_setBlock,by simp,?_⟩
  ·simp [Instr.mapUpdate,run_underlying hT,MapKept.run_getObj_map hb,MapKept.run_checkKey hK (isKeyI k),MapKept.run_findKey hK h1,MapKept.run_setObj_map _ hb,Result.andThen]
  ·refine ⟨es.push ⟨.int .i64 k,v,c⟩,c+1,by simp [hlt],MapKept.stamped_push hs h3,fun x hx=>?_,fun k' v' hf=>?_⟩
   ·simp only [Array.toList_push,List.mem_append,List.mem_singleton] at hx;rcases hx with hx | rfl
    ·obtain ⟨k',e1,e2⟩:=hk x hx;refine ⟨k',e1,?_⟩;rw [updM_far]
     ·exact e2
     ·rintro rfl;exact h3 x hx e1
    ·exact ⟨k,rfl,updM_same _ _ _⟩
   ·by_cases e:k'=k
    ·subst e;exact ⟨⟨.int .i64 k',v,c⟩,by simp,rfl⟩
    ·rw [updM_far _ _ _ e] at hf;obtain ⟨x,hx,e1⟩:=ho k' v' hf;exact ⟨x,by simp at hx ⊢; exact .inl hx,e1⟩
 ·have hj:es[j]?=some e:=by simpa using h2
  obtain ⟨g,hg⟩:∃ g:MapEntry→MapEntry,g=fun e=>{ e with key:=.int .i64 k,val:=v }:=⟨_,rfl⟩;refine ⟨{ w with heap:=w.heap.setIfInBounds r (.map (es.modify j g) c) },?_,only_setBlock,by simp,?_⟩
  ·rw [hg];simp [Instr.mapUpdate,run_underlying hT,MapKept.run_getObj_map hb,MapKept.run_checkKey hK (isKeyI k),MapKept.run_findKey hK h1,hj,h3,MapKept.run_keyThatStays (isKeyI k),MapKept.run_setObj_map _ hb,Result.andThen]
  ·have hkey:∀ e',es[j]?=some e'→(g e').key=e'.key:=fun e' he'=>by rw [hj] at he'; cases he'; rw [hg]; exact h3.symm
   refine ⟨es.modify j g,c,by simp [hlt],MapKept.stamped_modify hs _ _ (fun _ _=>by rw [hg]) (fun e' _ he'=>hkey e' he'),fun x hx=>?_,fun k' v' hf=>?_⟩
   ·obtain ⟨i,hi,rfl⟩:=List.getElem_of_mem hx;have hi':i < es.size:=by simpa using hi
    by_cases hij:j=i
    ·subst hij;refine ⟨k,?_,?_⟩ <;> simp [updM_same,hg]
    ·have hx':es[i] ∈ es.toList:=by simp
     obtain ⟨k',e1,e2⟩:=hk _ hx';refine ⟨k',by simpa [Array.getElem_modify,hij] using e1,?_⟩;have hne:k'≠k:=by
      rintro rfl;have hnd:=((MapKept.stamped_iff es c).1 hs).2.2;have hj':j < es.toList.length:=(List.getElem?_eq_some_iff.1 h2).1;have h5:es.toList[j].key=es.toList[i].key:=by
       rw [(List.getElem?_eq_some_iff.1 h2).2,h3];simpa using e1.symm
      rcases Nat.lt_or_gt_of_ne hij with hl | hl
      ·exact (List.pairwise_iff_getElem.1 hnd) j i _ (by simpa using hi') hl h5
      ·exact (List.pairwise_iff_getElem.1 hnd) i j (by simpa using hi') _ hl h5.symm
     rw [updM_far _ _ _ hne];simpa [Array.getElem_modify,hij] using e2
   ·have hmem:∀ x ∈ es.toList,∃ y ∈ (es.modify j g).toList,y.key=x.key:=fun x hx=>by
     have hm:x.key ∈ (es.modify j g).toList.map (·.key):=by
      rw [MapKept.modify_keys j _ hkey];exact List.mem_map.2 ⟨x,hx,rfl⟩
     obtain ⟨y,hy,e⟩:=List.mem_map.1 hm;exact ⟨y,hy,e⟩
    by_cases e5:k'=k
    ·subst e5;obtain ⟨y,hy,e6⟩:=hmem e (List.mem_of_getElem? h2);exact ⟨y,hy,e6.trans h3⟩
    ·rw [updM_far _ _ _ e5] at hf;obtain ⟨x,hx,e1⟩:=ho k' v' hf;obtain ⟨y,hy,e6⟩:=hmem x hx;exact ⟨y,hy,e6.trans e1⟩
theorem IsMap.del (h:IsMap w r f) (hT:P.underlying T=some (.map K E)) (hK:P.underlying K=some (.int .i64)) (k:Int) (ty:TypeId) :
 ∃ w',(Builtin.delete_ #[T,K] ty #[.map (some r),.int .i64 k]).run P w=.ok (.tuple #[]) w'∧Only [r] w w'∧w'.heap.size=w.heap.size∧IsMap w' r (updM f k none):=by
 obtain ⟨es,c,hb,hs,hk,ho⟩:=id h;have hlt:=h.lt;rcases h.find k hb with ⟨h1,h2,h3⟩ | ⟨j,e,h1,h2,h3,h4⟩
 ·refine ⟨{ w with heap:=w.heap.setIfInBounds r (.map es c) },?_,only_setBlock,by simp,?_⟩
  ·simp [Builtin.delete_,run_underlying hT,MapKept.run_getObj_map hb,MapKept.run_checkKey hK (isKeyI k),MapKept.run_findKey hK h1,MapKept.run_setObj_map _ hb,Result.andThen]
  ·have e:updM f k none=f:=by
    funext j;by_cases hj:j=k
    ·subst hj; rw [updM_same,h2]
    ·rw [updM_far _ _ _ hj]
   rw [e];exact ⟨es,c,by simp [hlt],hs,hk,ho⟩
 ·have hj:es[j]?=some e:=by simpa using h2
  refine ⟨{ w with heap:=w.heap.setIfInBounds r (.map (es.eraseIdxIfInBounds j) c) },?_,only_setBlock,by simp,?_⟩
  ·simp [Builtin.delete_,run_underlying hT,MapKept.run_getObj_map hb,MapKept.run_checkKey hK (isKeyI k),MapKept.run_findKey hK h1,MapKept.run_setObj_map _ hb,Result.andThen]
  ·have hjl:j < es.size:=(Array.getElem?_eq_some_iff.1 hj).1;have hl:(es.eraseIdxIfInBounds j).toList=es.toList.eraseIdx j:=by
    unfold Array.eraseIdxIfInBounds;rw [dif_pos hjl,Array.toList_eraseIdx]
   have hnd:=((MapKept.stamped_iff es c).1 hs).2.2;have hjn:es.toList[j]'(by simpa using hjl)=e:=by
    have:=(List.getElem?_eq_some_iff.1 h2).2;exact this
   refine ⟨es.eraseIdxIfInBounds j,c,by simp [hlt],MapKept.stamped_erase hs j,fun x hx=>?_,fun k' v' hf=>?_⟩
   ·rw [hl,List.mem_eraseIdx_iff_getElem] at hx;obtain ⟨i,hi,hij,rfl⟩:=hx;have hm:es.toList[i] ∈ es.toList:=List.getElem_mem _;obtain ⟨k',e1,e2⟩:=hk _ hm;refine ⟨k',e1,?_⟩;rw [updM_far]
    ·exact e2
    ·rintro rfl;have h5:es.toList[j].key=es.toList[i].key:=by rw [hjn,h3,e1]
     rcases Nat.lt_or_gt_of_ne hij with hl | hl
     ·exact (List.pairwise_iff_getElem.1 hnd) i j hi (by simpa using hjl) hl h5.symm
     ·exact (List.pairwise_iff_getElem.1 hnd) j i (by simpa using hjl) hi hl h5
   ·by_cases e5:k'=k
    ·subst e5;rw [updM_same] at hf;cases hf
    ·rw [updM_far _ _ _ e5] at hf;obtain ⟨x,hx,e1⟩:=ho k' v' hf;obtain ⟨i,hi,rfl⟩:=List.getElem_of_mem hx;refine ⟨es.toList[i],?_,e1⟩;rw [hl,List.mem_eraseIdx_iff_getElem];refine ⟨i,hi,?_,rfl⟩;rintro rfl;rw [hjn,h3] at e1;cases e1;exact e5 rfl
theorem IsMap.len (h:IsMap w r f) (hT:P.underlying T=some (.map K E)) (ty:TypeId):∃ n:Nat,(Builtin.len_ #[T] ty #[.map (some r)]).run P w=.ok (.int .i64 n) w∧(n=0↔∀ k,f k=none):=by
 obtain ⟨es,c,hb,hs,hk,ho⟩:=id h;refine ⟨es.size,?_,?_⟩
 ·simp [Builtin.len_,run_underlying hT,MapKept.run_getObj_map hb,Result.andThen];rfl
 ·constructor
  ·intro h0 k;cases hf:f k with
   | none=>rfl
   | some v=>
    obtain ⟨x,hx,_⟩:=ho k v hf;have:es.toList=[]:=by simpa using h0
    rw [this] at hx;cases hx
  ·intro hn;rcases Nat.eq_zero_or_pos es.size with h0 | h0
   ·exact h0
   ·obtain ⟨k,_,e⟩:=hk es[0] (by simp);rw [hn k] at e;cases e
end
end
section
open Go.ChangeMaps
def IsRange (w:World) (r m:Nat) (f:Int→Option Value) (l:Int→Bool) (n:Nat):Prop:=
 ∃ es c seen,w.heap[m]?=some (.map es c)∧w.heap[r]?=some (.mapIter (some m) c seen c)∧IsMap w m f∧n=(leftOf es seen).size∧∀ k,l k=true↔∃ x ∈ (leftOf es seen).toList,x.key=.int .i64 k
section
variable {P:Program} {w w':World} {r m n:Nat} {f:Int→Option Value} {l:Int→Bool} {T K E:TypeId}
theorem IsRange.map (h:IsRange w r m f l n):IsMap w m f:=by
 obtain ⟨_,_,_,_,_,h,_⟩:=h;exact h
theorem IsRange.lt (h:IsRange w r m f l n):r < w.heap.size∧m < w.heap.size:=by
 obtain ⟨_,_,_,_,hr,h,_⟩:=h;exact ⟨(Array.getElem?_eq_some_iff.1 hr).1,h.lt⟩
theorem IsRange.only {S:List Nat} (h:IsRange w r m f l n) (o:Only S w w') (hr:r ∉ S) (hm:m ∉ S):IsRange w' r m f l n:=by
 have hl:=h.lt;obtain ⟨es,c,seen,h1,h2,h3,h4⟩:=h;exact ⟨es,c,seen,(o.block m hl.2 hm).trans h1,(o.block r hl.1 hr).trans h2,h3.only o hm,h4⟩
theorem IsMap.range (h:IsMap w m f) (hT:P.underlying T=some (.map K E)) :
 ∃ w',(Instr.range T (.map (some m))).run P w=.ok (.pointer (some ⟨w.heap.size,0,none⟩)) w'∧Only [] w w'∧w'.heap.size=w.heap.size+1∧∃ n,IsRange w' w.heap.size m f (fun k=>(f k).isSome) n:=by
 obtain ⟨es,c,hb,hs,hk,ho⟩:=id h;have o:Only [] w (w.alloc (.mapIter (some m) c #[] c)):=(Only.refl [] w).alloc _;refine ⟨w.alloc (.mapIter (some m) c #[] c),?_,o,by simp,_,es,c,#[],(o.block m h.lt (by simp)).trans hb,by show (w.heap.push _)[w.heap.size]?=_; simp,h.only o (by simp),rfl,fun k=>?_⟩
 ·simp [Instr.range,run_underlying hT,MapKept.run_getObj_map hb,Result.andThen]
 ·have e:leftOf es #[]=es:=by simp [leftOf]
  rw [e];constructor
  ·intro hf;dsimp only at hf;cases hv:f k with
   | none=>rw [hv] at hf; cases hf
   | some v=>exact ho k v hv
  ·rintro ⟨x,hx,e1⟩;obtain ⟨k',e2,e3⟩:=hk x hx;rw [e1] at e2;cases e2;dsimp only;rw [e3];rfl
theorem IsRange.next (h:IsRange w r m f l n) (ty:TypeId) :
 (n=0∧(∀ k,l k=false)∧(Instr.next (.pointer (some ⟨r,0,none⟩)) false ty).run P w=.ok (.tuple #[.bool false]) w) ∨
 ∃ k v w' n',f k=some v∧l k=true∧(Instr.next (.pointer (some ⟨r,0,none⟩)) false ty).run P w=.ok (.tuple #[.bool true,.int .i64 k,v]) w'∧IsRange w' r m f (fun j=>l j && decide (j≠k)) n'∧n' < n∧Only [r] w w'∧w'.heap.size=w.heap.size ∧
  (Instr.entry (.pointer (some ⟨r,0,none⟩))).run P w'=.ok (.tuple #[.int .i64 k,v]) w':=by
 have hlt:=h.lt;obtain ⟨es,c,seen,hm,hr,hf,hn,hl⟩:=h;obtain ⟨es',c',hb',hs,hk,ho⟩:=id hf;rw [hm] at hb';cases hb';have hne:m≠r:=by rintro rfl; rw [hm] at hr; cases hr
 rcases run_next_at (P:=P) w ty r m c c seen es c hr hm hs.1 (Nat.le_refl _) with ⟨h0,hrun⟩ | ⟨e,he,w1,hw1,hrun⟩
 ·refine .inl ⟨hn.trans h0,fun k=>?_,hrun⟩;cases hlk:l k with
  | false=>rfl
  | true=>
   obtain ⟨x,hx,_⟩:=(hl k).1 hlk;have:leftOf es seen=#[]:=Array.eq_empty_of_size_eq_zero h0;rw [this] at hx;simp at hx
 ·have hee:e ∈ es.toList∧seen.contains e.born=false:=by
   unfold leftOf at he;simpa using he
  obtain ⟨k,ek,ev⟩:=hk e hee.1;have ho1:Only [r] w w1:=by
   rcases hw1 with rfl | rfl
   ·exact Only.refl _ _
   ·exact (Only.refl _ _).drew
  have hsz1:w1.heap.size=w.heap.size:=by rcases hw1 with rfl | rfl <;> rfl
  have hh1:w1.heap=w.heap:=by rcases hw1 with rfl | rfl <;> rfl
  have ho2:Only [r] w (setBlock w1 r (.mapIter (some m) c (seen.push e.born) c)):=ho1.trans only_setBlock;have hr2:(setBlock w1 r (.mapIter (some m) c (seen.push e.born) c)).heap[r]?=some (.mapIter (some m) c (seen.push e.born) c):=by
   simp [setBlock,hsz1,hlt.1]
  have hm2:(setBlock w1 r (.mapIter (some m) c (seen.push e.born) c)).heap[m]?=some (.map es c):=(ho2.block m hlt.2 (by simpa using hne)).trans hm;have hnd:=((MapKept.stamped_iff es c).1 hs);have hleft:∀ x,x ∈ (leftOf es (seen.push e.born)).toList↔x ∈ (leftOf es seen).toList∧x≠e:=by
   intro x;unfold leftOf;simp only [Array.toList_filter,List.mem_filter,Bool.not_eq_true',Array.contains_push,Bool.or_eq_false_iff];constructor
   ·rintro ⟨h1,h2,h3⟩;refine ⟨⟨h1,h2⟩,?_⟩;rintro rfl;simp at h3
   ·rintro ⟨⟨h1,h2⟩,h3⟩;refine ⟨h1,h2,?_⟩;have:x.born≠e.born:=fun hb=>h3 (by
     have h4:=find_born e es.toList hs.2.1 hee.1;have h5:=find_born x es.toList hs.2.1 h1;rw [hb] at h5;rw [h4] at h5;exact (Option.some.inj h5).symm)
    simpa using this
  refine .inr ⟨k,e.val,_,(leftOf es (seen.push e.born)).size,ev,(hl k).2 ⟨e,he,ek⟩,by rw [← ek]; exact hrun,⟨es,c,seen.push e.born,hm2,hr2,hf.only ho2 (by simpa using hne),rfl,fun j=>?_⟩,?_,ho2,by simp [setBlock,hsz1],?_⟩
  ·simp only [Bool.and_eq_true,decide_eq_true_eq];constructor
   ·rintro ⟨h1,h2⟩;obtain ⟨x,hx,e1⟩:=(hl j).1 h1;refine ⟨x,(hleft x).2 ⟨hx,?_⟩,e1⟩;rintro rfl;rw [ek] at e1;cases e1;exact h2 rfl
   ·rintro ⟨x,hx,e1⟩;obtain ⟨h1,h2⟩:=(hleft x).1 hx;refine ⟨(hl j).2 ⟨x,h1,e1⟩,?_⟩;rintro rfl;refine h2 (stamp_key hs ?_ hee.1 (e1.trans ek.symm));unfold leftOf at h1;simp at h1;simpa using h1.1
  ·rw [hn];have h1:(leftOf es (seen.push e.born)).toList=(leftOf es seen).toList.filter fun x=>decide (x.born≠e.born):=by
    unfold leftOf;rw [Array.toList_filter,Array.toList_filter,List.filter_filter];congr 1;funext x;by_cases hx:x.born=e.born <;> simp [hx]
   have h2:=List.length_filter_le (fun x=>decide (x.born≠e.born)) (leftOf es seen).toList;rw [← Array.length_toList,← Array.length_toList,h1];rcases Nat.lt_or_ge ((leftOf es seen).toList.filter fun x=>decide (x.born≠e.born)).length (leftOf es seen).toList.length with h3 | h3
   ·exact h3
   ·have h4:=List.length_filter_eq_length_iff.1 (Nat.le_antisymm h2 h3) e he;simp at h4
  ·have:=run_entry_at (P:=P) (setBlock w1 r (.mapIter (some m) c (seen.push e.born) c)) r m c seen es c e hr2 hm2 hee.1 hs.2.1;rw [← ek];exact this
end
section
variable {P:Program} {w:World} {ops:Array Oper} {rest:List Oper} {o:Oper} {a:Act} {Q:Exit→Act→World→Prop} {r m n:Nat} {f:Int→Option Value} {l:Int→Bool}
theorem wpList_insert_is (hg:o.guard=none) (x y v:Operand) (T:TypeId) (hop:o.op=Op.insert T x y v∨o.op=Op.mapUpdate T x y v) {K E:TypeId} (hT:P.underlying T=some (.map K E)) (hK:P.underlying K=some (.int .i64))
 (h:IsMap w r f) (hx:a.eval x=.map (some r)) {k:Int} (hy:a.eval y=.int .i64 k) {u:Value} (hv:a.eval v=u)
 (hC:∀ w',IsMap w' r (updM f k (some u))→Only [r] w w'→w'.heap.size=w.heap.size→wpList P ops Q rest (a.put o.dst undef) w'):wpList P ops Q (o :: rest) a w:=by
 refine wpList_plain hg fun K' hK'=>?_;obtain ⟨w',hrun,r1,r2,r3⟩:=h.update hT hK k u;unfold Oper.wp;rcases hop with hop | hop
 ·simp [execOp,hop,hx,hy,hv,hrun,Result.andThen];exact hK' _ _ (hC w' r3 r1 r2)
 ·simp [execOp,hop,hx,hy,hv,hrun,Result.andThen];exact hK' _ _ (hC w' r3 r1 r2)
theorem wpList_look_is (hg:o.guard=none) (x y:Operand) (T:TypeId) (ok:Bool) (hop:o.op=Op.lookup T x y ok) {K E:TypeId} (hT:P.underlying T=some (.map K E)) (hK:P.underlying K=some (.int .i64))
 (h:IsMap w r f) (hx:a.eval x=.map (some r)) {k:Int} (hy:a.eval y=.int .i64 k) {z:Value} (hz:(zeroValue E).run P w=.ok z w)
 (hC:wpList P ops Q rest (a.put o.dst (if ok=true then .tuple #[(f k).getD z,.bool (f k).isSome] else (f k).getD z)) w):wpList P ops Q (o :: rest) a w:=by
 refine wpList_plain hg fun K' hK'=>?_;unfold Oper.wp;simp [execOp,hop,hx,hy,h.look hT hK k hz ok,Result.andThen];exact hK' _ _ hC
theorem wpList_del_is (hg:o.guard=none) (x y:Operand) (T K:TypeId) (hop:o.op=Op.call { callee:=Callee.builtin Builtin.delete,args:=#[x,y],argTypes:=#[T,K] }) {E:TypeId} (hT:P.underlying T=some (.map K E)) (hK:P.underlying K=some (.int .i64))
 (h:IsMap w r f) (hx:a.eval x=.map (some r)) {k:Int} (hy:a.eval y=.int .i64 k)
 (hC:∀ w',IsMap w' r (updM f k none)→Only [r] w w'→w'.heap.size=w.heap.size→wpList P ops Q rest (a.put o.dst (.tuple #[])) w'):wpList P ops Q (o :: rest) a w:=by
 refine wpList_plain hg fun K' hK'=>?_;obtain ⟨w',hrun,r1,r2,r3⟩:=h.del hT hK k o.type;unfold Oper.wp;simp [execOp,hop,resolve,invoke,builtin,hx,hy,hrun,Result.andThen];exact hK' _ _ (hC w' r3 r1 r2)
theorem wpList_range_is (hg:o.guard=none) (x:Operand) (T:TypeId) (hop:o.op=Op.range T x) {K E:TypeId} (hT:P.underlying T=some (.map K E)) (h:IsMap w m f) (hx:a.eval x=.map (some m))
 (hC:∀ w' n,IsRange w' w.heap.size m f (fun k=>(f k).isSome) n→Only [] w w'→w'.heap.size=w.heap.size+1→wpList P ops Q rest (a.put o.dst (.pointer (some ⟨w.heap.size,0,none⟩))) w'):wpList P ops Q (o :: rest) a w:=by
 refine wpList_plain hg fun K' hK'=>?_;obtain ⟨w',hrun,r1,r2,n,r3⟩:=h.range hT;unfold Oper.wp;simp [execOp,hop,hx,hrun,Result.andThen];exact hK' _ _ (hC w' n r3 r1 r2)
theorem wpList_next_is (hg:o.guard=none) (x:Operand) (hop:o.op=Op.next x false) (h:IsRange w r m f l n) (hx:a.eval x=.pointer (some ⟨r,0,none⟩))
 (hD:n=0→(∀ k,l k=false)→wpList P ops Q rest (a.put o.dst (.tuple #[.bool false])) w)
 (hC:∀ k v w' n',f k=some v→l k=true→IsRange w' r m f (fun j=>l j && decide (j≠k)) n'→n' < n→Only [r] w w'→w'.heap.size=w.heap.size→(Instr.entry (.pointer (some ⟨r,0,none⟩))).run P w'=.ok (.tuple #[.int .i64 k,v]) w'→wpList P ops Q rest (a.put o.dst (.tuple #[.bool true,.int .i64 k,v])) w'):wpList P ops Q (o :: rest) a w:=by
 refine wpList_plain hg fun K' hK'=>?_;unfold Oper.wp;rcases h.next (P:=P) o.type with ⟨h0,hl,hrun⟩ | ⟨k,v,w',n',h1,h2,hrun,h3,h4,h5,h6,h7⟩
 ·simp [execOp,hop,hx,hrun,Result.andThen];exact hK' _ _ (hD h0 hl)
 ·simp [execOp,hop,hx,hrun,Result.andThen];exact hK' _ _ (hC k v w' n' h1 h2 h3 h4 h5 h6 h7)
variable {dst:Option Tmp} {x y v:Operand} {T K E:TypeId} {ty:TypeId} {pos:String} {after:Array Edge}
theorem wpList_ins (hT:P.underlying T=some (.map K E)) (hK:P.underlying K=some (.int .i64)) (h:IsMap w r f) (hx:a.eval x=.map (some r)) {k:Int} (hy:a.eval y=.int .i64 k) {u:Value} (hv:a.eval v=u)
 (hC:∀ w',IsMap w' r (updM f k (some u))→Only [r] w w'→w'.heap.size=w.heap.size→wpList P ops Q rest (a.put dst undef) w'):wpList P ops Q ({ dst:=dst,op:=Op.insert T x y v,type:=ty,pos:=pos,after:=after,guard:=none } :: rest) a w:=
 wpList_insert_is rfl x y v T (.inl rfl) hT hK h hx hy hv hC
theorem wpList_upd (hT:P.underlying T=some (.map K E)) (hK:P.underlying K=some (.int .i64)) (h:IsMap w r f) (hx:a.eval x=.map (some r)) {k:Int} (hy:a.eval y=.int .i64 k) {u:Value} (hv:a.eval v=u)
 (hC:∀ w',IsMap w' r (updM f k (some u))→Only [r] w w'→w'.heap.size=w.heap.size→wpList P ops Q rest (a.put dst undef) w'):wpList P ops Q ({ dst:=dst,op:=Op.mapUpdate T x y v,type:=ty,pos:=pos,after:=after,guard:=none } :: rest) a w:=
 wpList_insert_is rfl x y v T (.inr rfl) hT hK h hx hy hv hC
theorem wpList_look (hT:P.underlying T=some (.map K E)) (hK:P.underlying K=some (.int .i64)) (h:IsMap w r f) (hx:a.eval x=.map (some r)) {k:Int} (hy:a.eval y=.int .i64 k) {z:Value} (hz:(zeroValue E).run P w=.ok z w)
 (hC:wpList P ops Q rest (a.put dst ((f k).getD z)) w):wpList P ops Q ({ dst:=dst,op:=Op.lookup T x y false,type:=ty,pos:=pos,after:=after,guard:=none } :: rest) a w:=
 wpList_look_is rfl x y T false rfl hT hK h hx hy hz (by simpa using hC)
theorem wpList_lookOk (hT:P.underlying T=some (.map K E)) (hK:P.underlying K=some (.int .i64)) (h:IsMap w r f) (hx:a.eval x=.map (some r)) {k:Int} (hy:a.eval y=.int .i64 k) {z:Value} (hz:(zeroValue E).run P w=.ok z w)
 (hC:wpList P ops Q rest (a.put dst (.tuple #[(f k).getD z,.bool (f k).isSome])) w):wpList P ops Q ({ dst:=dst,op:=Op.lookup T x y true,type:=ty,pos:=pos,after:=after,guard:=none } :: rest) a w:=
 wpList_look_is rfl x y T true rfl hT hK h hx hy hz (by simpa using hC)
theorem wpList_del (hT:P.underlying T=some (.map K E)) (hK:P.underlying K=some (.int .i64)) (h:IsMap w r f) (hx:a.eval x=.map (some r)) {k:Int} (hy:a.eval y=.int .i64 k)
 (hC:∀ w',IsMap w' r (updM f k none)→Only [r] w w'→w'.heap.size=w.heap.size→wpList P ops Q rest (a.put dst (.tuple #[])) w'):wpList P ops Q ({ dst:=dst,op:=Op.call { callee:=Callee.builtin Builtin.delete,args:=#[x,y],argTypes:=#[T,K] },type:=ty,pos:=pos,after:=after,guard:=none } :: rest) a w:=
 wpList_del_is rfl x y T K rfl hT hK h hx hy hC
theorem wpList_rng (hT:P.underlying T=some (.map K E)) (h:IsMap w m f) (hx:a.eval x=.map (some m))
 (hC:∀ w' n,IsRange w' w.heap.size m f (fun k=>(f k).isSome) n→Only [] w w'→w'.heap.size=w.heap.size+1→wpList P ops Q rest (a.put dst (.pointer (some ⟨w.heap.size,0,none⟩))) w'):wpList P ops Q ({ dst:=dst,op:=Op.range T x,type:=ty,pos:=pos,after:=after,guard:=none } :: rest) a w:=
 wpList_range_is rfl x T rfl hT h hx hC
theorem wpList_nxt (h:IsRange w r m f l n) (hx:a.eval x=.pointer (some ⟨r,0,none⟩))
 (hD:n=0→(∀ k,l k=false)→wpList P ops Q rest (a.put dst (.tuple #[.bool false])) w)
 (hC:∀ k v w' n',f k=some v→l k=true→IsRange w' r m f (fun j=>l j && decide (j≠k)) n'→n' < n→Only [r] w w'→w'.heap.size=w.heap.size→(Instr.entry (.pointer (some ⟨r,0,none⟩))).run P w'=.ok (.tuple #[.int .i64 k,v]) w'→wpList P ops Q rest (a.put dst (.tuple #[.bool true,.int .i64 k,v])) w'):wpList P ops Q ({ dst:=dst,op:=Op.next x false,type:=ty,pos:=pos,after:=after,guard:=none } :: rest) a w:=
 wpList_next_is rfl x rfl h hx hD hC
end
end
theorem dright_wf (w:World) (d:D) (h:d.wf):Calls Tryz.prog 197 #[d.val] w fun e w'=>e=.returned (.bool true)∧Only [] w w':=by
 obtain ⟨k,o,r,e⟩:=d;obtain ⟨e0,r0,r1,o0,o1,hk⟩:=h;dsimp only at e0 r0 r1 o0 o1 hk;subst e0;unfold D.val;rcases hk with ⟨rfl,rfl,rfl⟩ | ⟨rfl,h1⟩ | ⟨rfl,h1⟩ | ⟨rfl,rfl⟩
 all_goals
  go_enter Tryz.func197,Tryz.ntmps197;go_wp2;go_ret;exact ⟨rfl,(Only.refl _ _).alloc _⟩
def LeadsOk (w:World) (r:Nat) (f:Int→Option Value):Prop:=
 ∀ k v,f k=some v→∃ g,v=.slice (some ⟨g,0,none⟩) (leadsN k).length (leadsN k).length∧g≠r∧Blk w g 3 ((leadsN k).map (Value.int .i64)).toArray
theorem LeadsOk.add {w W w':World} {r:Nat} {f:Int→Option Value} {k:Int} {cs:Array Value} (h:LeadsOk w r f) (hm:IsMap w r f) (hW:W=w.alloc (.cells cs 3)) (ho:Only [r] W w') {n b:Nat} (hm':IsMap w' r (updM f k (some (.slice (some ⟨b,0,none⟩) n n)))) (hb:b=w.heap.size)
 (hc:cs=((leadsN k).map (Value.int .i64)).toArray) (hn:n=(leadsN k).length):LeadsOk w' r (updM f k (some (.slice (some ⟨b,0,none⟩) n n))):=by
 have hlt:=hm.lt;have _:=hm';subst hW hb;intro k' v hf;by_cases e:k'=k
 ·subst e;rw [updM_same] at hf;cases hf;refine ⟨w.heap.size,by rw [hn],by omega,?_⟩;rw [← hc];exact (Blk.new w 3 cs).only ho (by simp; omega)
 ·rw [updM_far _ _ _ e] at hf;obtain ⟨g,e1,e2,hb⟩:=h k' v hf;exact ⟨g,e1,e2,(hb.alloc _).only ho (by simpa using e2)⟩
theorem zv_ints (W:World):(zeroValue 66).run Tryz.prog W=.ok (.slice none 0 0) W:=by kernel_rfl
theorem found4 {w:World} {r:Nat} {k:Int} {a b c d e f:Value} {g:Int→Option Value} (h:kindOk k) (_:IsMap w r (updM (updM (updM (updM (updM (updM g 0 (some a)) 1 (some b)) 2 (some c)) 3 (some d)) 4 (some e)) 5 (some f))) :
 ∃ v,updM (updM (updM (updM (updM (updM g 0 (some a)) 1 (some b)) 2 (some c)) 3 (some d)) 4 (some e)) 5 (some f) k=some v:=by
 rcases h with rfl | rfl | rfl | rfl
 all_goals exact ⟨_,rfl⟩
theorem leads_any (w:World) (k:Int) (h:kindOk k):Calls Tryz.prog 212 #[.int .i64 k] w fun e w'=>
 (∃ g,e=.returned (.slice (some ⟨g,0,none⟩) (leadsN k).length (leadsN k).length)∧Blk w' g 3 ((leadsN k).map (Value.int .i64)).toArray)∧Only [] w w':=by
 have hmm:=@run_makeMap Tryz.prog;have HM:=hid (IsMap.new w);have HL:=hid (show LeadsOk (w.alloc (.map #[] 0)) w.heap.size (fun _=>none) from fun _ _ h=>by cases h);have HO:=hid (show Only [w.heap.size] w (w.alloc (.map #[] 0)) from (Only.refl _ _).alloc _);have HK:=hid h;clear h;go_enter Tryz.func212,Tryz.ntmps212;go_wp2_with (first
  | (with_reducible (refine wpList_ins Tryz.underlying280 Tryz.underlying3 (HM.out.only ((Only.refl [] _).alloc _) (by simp)) (by with_unfolding_all rfl) (by with_unfolding_all rfl) (by with_unfolding_all rfl) ?_)
     intro w1 hm ho hs;clear hs;have HL:=hid (HL.out.add HM.out rfl ho hm (by simp) rfl rfl);have HM:=hid hm;have HO:=hid ((HO.out.alloc _).trans ho);clear hm ho)
  | (with_reducible (refine wpList_look Tryz.underlying280 Tryz.underlying3 HM.out (by with_unfolding_all rfl) (by with_unfolding_all rfl) (zv_ints _) ?_)
     obtain ⟨v,hv⟩:=found4 HK.out HM.out;rw [hv,Option.getD_some];obtain ⟨g,e1,_,hb⟩:=HL.out k v hv;have HB:=hid (And.intro e1 hb);clear hv e1 hb))
 go_ret;refine ⟨⟨g,?_,HB.out.2⟩,?_⟩
 ·rw [← HB.out.1];rfl
 ·exact ⟨HO.out.os,HO.out.tape,HO.out.output,HO.out.size,fun i hi _=>HO.out.block i hi (by simp; omega)⟩
def hasL (l:List Int) (b:Int):Bool:=l.contains b
theorem hasL_cons (x:Int) (l:List Int) (b:Int):hasL (x :: l) b=(decide (x=b) || hasL l b):=by
 unfold hasL;rw [List.contains_cons];by_cases h:x=b
 ·subst h; simp
 ·simp [h,Ne.symm h]
theorem can_any (w:World) (k b:Int) (h:kindOk k):Calls Tryz.prog 198 #[.int .i64 k,.int .i64 b] w fun e w'=>e=.returned (.bool (canN k b))∧Only [] w w':=by
 have hR:canN k b=hasL (leadsN k) b:=rfl;rw [hR];clear hR;obtain ⟨ls,hls⟩:∃ ls,leadsN k=ls:=⟨_,rfl⟩;have hll:ls.length≤4:=by
  rw [← hls];unfold leadsN
  repeat' split
  all_goals decide
 have HC:=hid (fun w=>leads_any w k h);rw [hls] at HC ⊢;obtain ⟨n,hn⟩:∃ n,ls.length=n:=⟨_,rfl⟩;have HN:=hid hn;rw [hn] at HC hll;clear hls hn h;go_enter Tryz.func198,Tryz.ntmps198;go_wp2_with fail;refine (HC.out _).mono ?_;rintro e w1 ⟨⟨g,rfl,hb⟩,ho⟩;have HB:=hid hb;have HO:=hid ho;clear hb ho HC;go_wp2_with fail
 go_loopw [10,6] (fun i _ wr=>wr=w1∧∃ j:Nat,j≤n∧i=.int .i64 j∧hasL ls b=hasL (ls.drop j) b) (fun i _ _=>n - (intOf i).toNat)
 case atStart=>exact ⟨rfl,0,by omega,rfl,rfl⟩
 case round=>
  obtain ⟨rfl,j,hj,rfl,hc⟩:=hrel;by_cases hlt:j < n
  ·have hlti:(j:Int) < n:=by omega
   have hjl:j < ls.length:=by rw [HN.out]; exact hlt
   obtain ⟨x,hx⟩:∃ x,ls[j]?=some x:=⟨ls[j],by simp [hjl]⟩;have d0:=HB.out.at j (v:=.int .i64 x) (by simp [hx]);have hd:ls.drop j=x :: ls.drop (j+1):=by
    rw [List.drop_eq_getElem_cons hjl];congr 1;exact (List.getElem?_eq_some_iff.1 hx).choose_spec
   rw [hd,hasL_cons] at hc;have HCC:=hid hc;clear hc hd hx hjl;by_cases hxb:x=b
   ·subst hxb;go_wp2_with fail;go_ret;exact ⟨by rw [HCC.out]; simp,HO.out⟩
   ·have hxb2:(x == b)=false:=by simp [hxb]
    have HX:=hid hxb;go_wp2_with fail;exact ⟨⟨trivial,j+1,by omega,by go_num,by rw [HCC.out]; simp [HX.out]⟩,by simp [intOf]; omega⟩
  ·have hlti:¬ (j:Int) < n:=by omega
   rw [List.drop_eq_nil_of_le (by rw [HN.out]; omega)] at hc;have HCC:=hid hc;clear hc;go_wp2_with fail;go_ret;exact ⟨by rw [HCC.out]; rfl,HO.out⟩
end Go.Proofs.YtadgpnoealegiaaGreat
