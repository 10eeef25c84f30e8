import Derived.WalkKit
import Derived.Deep.Draws
import Derived.Lib.Hide
import Derived.Test.YtadgpnoealegiaaGreatProg
import Derived.Outline
import Derived.Laws.CopyOwn
import Derived.Laws.MakeOwn
import Derived.Laws.EntriesVeiled
namespace Go.Proofs.YtadgpnoealegiaaGreat
open Go.RowKit
open Go.Lib (hid)
set_option maxRecDepth 100000
set_option maxHeartbeats 20000000
def Blk (w:World) (g:Nat) (t:TypeId) (cs:Array Value):Prop:=w.heap[g]?=some (.cells cs t (0,0))
section
variable {w w':World} {g:Nat} {t:TypeId} {cs:Array Value}
theorem Blk.lt (h:Blk w g t cs):g < w.heap.size:=by
 rcases Nat.lt_or_ge g w.heap.size with hl | hg
 ·exact hl
 ·rw [Blk,Array.getElem?_eq_none hg] at h;cases h
theorem Blk.cell (h:Blk w g t cs) (i:Nat):w.cell? ⟨g,i,none⟩=cs[i]?:=by
 rw [Blk] at h;simp [World.cell?,h]
theorem Blk.at (h:Blk w g t cs) (i:Nat) {v:Value} (hv:cs[i]?=some v):w.cell? ⟨g,i,none⟩=some v:=(h.cell i).trans hv
theorem Blk.frozen (h:Blk w g t cs) (i:Nat):w.frozen? ⟨g,i,none⟩=false:=by
 rw [Blk] at h;simp [World.frozen?,h]
theorem Blk.drew (h:Blk w g t cs):Blk w.drew g t cs:=h
theorem Blk.alloc (h:Blk w g t cs) (o:Obj):Blk (w.alloc o) g t cs:=(Below.heap_alloc w o g h.lt).trans h
theorem Blk.new (w:World) (t:TypeId) (cs:Array Value):Blk (w.alloc (.cells cs t)) w.heap.size t cs:=by
 show (w.heap.push _)[w.heap.size]?=_;simp
theorem Blk.new' (w:World) (t:TypeId) (cs:Array Value) {g:Nat} (hg:g=w.heap.size):Blk (w.alloc (.cells cs t)) g t cs:=hg ▸ Blk.new w t cs
theorem Blk.set (h:Blk w g t cs) (i:Nat) (u:Value):Blk (w.setCell ⟨g,i,none⟩ u) g t (cs.setIfInBounds i u):=by
 rw [Blk] at h ⊢;simp [World.setCell,Array.getElem?_modify,h]
theorem Blk.far (h:Blk w g t cs) {p:Addr} (hp:g≠p.block) (u:Value):Blk (w.setCell p u) g t cs:=(Below.heap_setCell w p u g hp).trans h
theorem Blk.row (h:Blk w g t cs) (us:Array Value):Blk (w.setRow g us) g t us:=setRow_heap w g cs us t (0,0) h
theorem Blk.ne (h:Blk w g t cs) {g':Nat} {t':TypeId} {cs':Array Value} (h':Blk w g' t' cs') (hn:t≠t'):g≠g':=by
 rintro rfl;rw [Blk] at h h';rw [h] at h';injection h' with h';injection h' with _ ht;exact hn ht
theorem Blk.inj (h:Blk w g t cs) {t':TypeId} {cs':Array Value} (h':Blk w g t' cs'):t=t'∧cs=cs':=by
 rw [Blk] at h h';rw [h] at h';injection h' with h';injection h' with h1 h2;exact ⟨h2,h1⟩
end
structure Only (S:List Nat) (w w':World):Prop where
 os:w'.os=w.os
 tape:w'.tape=w.tape
 output:w'.output=w.output
 size:w.heap.size≤w'.heap.size
 block:∀ k,k < w.heap.size→k ∉ S→w'.heap[k]?=w.heap[k]?
section
variable {S T:List Nat} {w w' a b c:World}
theorem Only.refl (S:List Nat) (w:World):Only S w w:=⟨rfl,rfl,rfl,Nat.le_refl _,fun _ _ _=>rfl⟩
theorem Only.trans (h:Only S a b) (k:Only S b c):Only S a c:=
 ⟨k.os.trans h.os,k.tape.trans h.tape,k.output.trans h.output,Nat.le_trans h.size k.size,
  fun i hi hn=>(k.block i (Nat.lt_of_lt_of_le hi h.size) hn).trans (h.block i hi hn)⟩
theorem Only.mono (h:Only S a b) (hs:∀ k,k < a.heap.size→k ∈ S→k ∈ T):Only T a b:=
 ⟨h.os,h.tape,h.output,h.size,fun i hi hn=>h.block i hi fun hm=>hn (hs i hi hm)⟩
theorem Only.sub (h:Only S a b) (hs:S ⊆ T):Only T a b:=h.mono fun _ _ hm=>hs hm
theorem Only.then (h:Only S w a) (k:Only T a b) (hT:∀ x ∈ T,x ∈ S∨w.heap.size≤x):Only S w b:=
 ⟨k.os.trans h.os,k.tape.trans h.tape,k.output.trans h.output,Nat.le_trans h.size k.size,
  fun i hi hn=>(k.block i (Nat.lt_of_lt_of_le hi h.size) (fun hm=>by
   rcases hT i hm with h1 | h1
   ·exact hn h1
   ·omega)).trans (h.block i hi hn)⟩
theorem Only.drew (h:Only S a w):Only S a w.drew:=⟨h.os,h.tape,h.output,h.size,h.block⟩
theorem Only.alloc (h:Only S a w) (o:Obj):Only S a (w.alloc o):=
 ⟨h.os,h.tape,h.output,Nat.le_trans h.size (by simp),fun i hi hn=>(Below.heap_alloc w o i (Nat.lt_of_lt_of_le hi h.size)).trans (h.block i hi hn)⟩
theorem Only.setCell (h:Only S a w) {p:Addr} (hp:p.block ∈ S∨a.heap.size≤p.block) (u:Value):Only S a (w.setCell p u):=
 ⟨h.os,h.tape,h.output,by simpa [World.setCell] using h.size,fun i hi hn=>(Below.heap_setCell w p u i (by
  rintro rfl;rcases hp with hp | hp
  ·exact hn hp
  ·omega)).trans (h.block i hi hn)⟩
theorem Only.setRow (h:Only S a w) {g:Nat} (hg:g ∈ S∨a.heap.size≤g) (us:Array Value):Only S a (w.setRow g us):=
 ⟨h.os,h.tape,h.output,by rw [setRow_size]; exact h.size,fun i hi hn=>(setRow_other w g i us (by
  rintro rfl;rcases hg with hg | hg
  ·exact hn hg
  ·omega)).trans (h.block i hi hn)⟩
theorem Only.below (h:Only S a w) (hs:∀ k ∈ S,a.heap.size≤k):Below a.heap.size a w:=
 ⟨h.os,h.tape,h.output,h.size,fun i hi=>h.block i hi fun hm=>by have:=hs i hm; omega⟩
theorem Only.grown {row:Option Nat} (h:Only S a w) (hg:w.grownBy w' row) (hr:∀ k,row=some k→k ∈ S∨a.heap.size≤k):Only S a w':=
 ⟨hg.os.trans h.os,hg.tape.trans h.tape,hg.output.trans h.output,Nat.le_trans h.size hg.size,fun i hi hn=>
  (hg.block i (Nat.lt_of_lt_of_le hi h.size) (fun e=>by
   rcases hr i e.symm with h1 | h1
   ·exact hn h1
   ·omega)).trans (h.block i hi hn)⟩
theorem Blk.only {g:Nat} {t:TypeId} {cs:Array Value} (h:Blk w g t cs) (o:Only S w w') (hn:g ∉ S):Blk w' g t cs:=(o.block g h.lt hn).trans h
theorem Only.cell (o:Only S w w') {p:Addr} (hp:p.block < w.heap.size) (hn:p.block ∉ S):w'.cell? p=w.cell? p:=World.cell?_of_block (w:=w) (o.block p.block hp hn)
end
abbrev u64 (n:Int):Value:=.int .u64 n
abbrev i64 (n:Int):Value:=.int .i64 n
def cellsOf (L:List Int):Array Value:=(L.map (Value.int .u64)).toArray
def nth (L:List Int) (i:Nat):Int:=L.getD i 0
structure MemAt (w:World) (b s:Nat) (L:List Int) (c l:Int):Prop where
 obj:Blk w b 113 #[.slice (some ⟨s,0,none⟩) L.length L.length,.int .i64 c,.int .i64 l]
 row:Blk w s 28 (cellsOf L)
 len:1≤L.length
 max:L.length≤65536
section
variable {w w':World} {b s:Nat} {L:List Int} {c l:Int}
theorem MemAt.ne (h:MemAt w b s L c l):b≠s:=h.obj.ne h.row (by decide)
theorem MemAt.only {S:List Nat} (h:MemAt w b s L c l) (o:Only S w w') (hb:b ∉ S) (hs:s ∉ S):MemAt w' b s L c l:=
 ⟨h.obj.only o hb,h.row.only o hs,h.len,h.max⟩
theorem MemAt.counted (h:MemAt w b s L c l) (v:Int):MemAt (w.setCell ⟨b,1,none⟩ (.int .i64 v)) b s L v l:=
 ⟨by simpa using h.obj.set 1 (.int .i64 v),h.row.far (by simpa using h.ne.symm) _,h.len,h.max⟩
theorem MemAt.laid (h:MemAt w b s L c l) (v:Int):MemAt (w.setCell ⟨b,2,none⟩ (.int .i64 v)) b s L c v:=
 ⟨by simpa using h.obj.set 2 (.int .i64 v),h.row.far (by simpa using h.ne.symm) _,h.len,h.max⟩
theorem MemAt.stored (h:MemAt w b s L c l) (i:Nat) (v:Int):MemAt (w.setCell ⟨s,i,none⟩ (.int .u64 v)) b s (L.set i v) c l:=
 ⟨by rw [List.length_set]; exact h.obj.far (by simpa using h.ne) _,by
  have:=h.row.set i (.int .u64 v);simpa [cellsOf,List.map_set] using this,by rw [List.length_set]; exact h.len,by rw [List.length_set]; exact h.max⟩
theorem MemAt.cell (h:MemAt w b s L c l) {i:Nat} (hi:i < L.length):w.cell? ⟨s,i,none⟩=some (.int .u64 (nth L i)):=by
 rw [h.row.cell];simp [cellsOf,nth,hi]
theorem MemAt.c0 (h:MemAt w b s L c l):w.cell? ⟨b,0,none⟩=some (.slice (some ⟨s,0,none⟩) L.length L.length):=h.obj.at 0 rfl
theorem MemAt.c1 (h:MemAt w b s L c l):w.cell? ⟨b,1,none⟩=some (.int .i64 c):=h.obj.at 1 rfl
theorem MemAt.c2 (h:MemAt w b s L c l):w.cell? ⟨b,2,none⟩=some (.int .i64 l):=h.obj.at 2 rfl
end
theorem len_at (w:World) (b s n:Nat) (hc:w.cell? ⟨b,0,none⟩=some (.slice (some ⟨s,0,none⟩) n n)):Calls Tryz.prog 122 #[.pointer (some ⟨b,0,none⟩)] w fun e w'=>e=.returned (.int .i64 n)∧w=w':=by
 go_enter Tryz.func122,Tryz.ntmps122;go_wp2;go_ret;exact ⟨rfl,rfl⟩
theorem at_in (w:World) (s n:Nat) (i:Int) (h0:0≤i) (hi:i < n):Calls Tryz.prog 123 #[.agg #[.slice (some ⟨s,0,none⟩) n n],.int .i64 i] w fun e w'=>e=.returned (.pointer (some ⟨s,i.toNat,none⟩))∧Only [] w w':=by
 obtain ⟨j,rfl⟩:=Int.eq_ofNat_of_zero_le h0;go_enter Tryz.func123,Tryz.ntmps123;go_wp2;go_ret;exact ⟨rfl,(Only.refl _ _).alloc _⟩
theorem at_out (w:World) (s n:Nat) (i:Int) (h:i < 0∨n≤i):Calls Tryz.prog 123 #[.agg #[.slice (some ⟨s,0,none⟩) n n],.int .i64 i] w fun e w'=>e=.returned (.pointer none)∧Only [] w w':=by
 rcases h with h | h
 ·go_enter Tryz.func123,Tryz.ntmps123;go_wp2;go_ret;exact ⟨rfl,(Only.refl _ _).alloc _⟩
 ·have h2:¬ i < 0:=by omega
  go_enter Tryz.func123,Tryz.ntmps123;go_wp2;go_ret;exact ⟨rfl,(Only.refl _ _).alloc _⟩
theorem word_in (w:World) (b s:Nat) (L:List Int) (c l i:Int) (hm:MemAt w b s L c l) (h0:0≤i) (hi:i < L.length) :
 Calls Tryz.prog 80 #[.pointer (some ⟨b,0,none⟩),.int .i64 i] w fun e w'=>e=.returned (.tuple #[.pointer (some ⟨s,i.toNat,none⟩),.int .i64 0])∧Only [b] w w'∧MemAt w' b s L (wrap64 (c+1)) l:=by
 have h1:((L.length:Int) == 0)=false:=by have:=hm.len; simp; intro e; simp [e] at this
 have c0:=hm.c0;have HM:=hid hm;clear hm;go_enter Tryz.func80,Tryz.ntmps80;go_wp2_with fail;refine (len_at _ _ s L.length c0).mono ?_;rintro e w' ⟨rfl,rfl⟩;go_wp2_with fail;refine (at_in _ _ _ _ h0 hi).mono ?_;rintro e w' ⟨rfl,ho⟩;have hm:=HM.out.only ho (by simp) (by simp);have c1:=hm.c1;have f1:=hm.obj.frozen 1;go_wp2;go_ret2;exact ⟨rfl,(ho.sub (by simp)).setCell (by simp) _,hm.counted _⟩
theorem word_out (w:World) (b s:Nat) (L:List Int) (c l i:Int) (hm:MemAt w b s L c l) (h:i < 0∨L.length≤i) :
 Calls Tryz.prog 80 #[.pointer (some ⟨b,0,none⟩),.int .i64 i] w fun e w'=>e=.returned (.tuple #[.pointer none,.int .i64 2])∧Only [] w w':=by
 have h1:((L.length:Int) == 0)=false:=by have:=hm.len; simp; intro e; simp [e] at this
 have c0:=hm.c0;clear hm;have H:=hid h;clear h;go_enter Tryz.func80,Tryz.ntmps80;go_wp2_with fail;refine (len_at _ _ s L.length c0).mono ?_;rintro e w' ⟨rfl,rfl⟩;go_wp2_with fail;refine (at_out _ _ _ _ H.out).mono ?_;rintro e w' ⟨rfl,ho⟩;go_wp2;go_ret2;exact ⟨rfl,ho⟩
theorem load_in (w:World) (b s:Nat) (L:List Int) (c l i:Int) (hm:MemAt w b s L c l) (h0:0≤i) (hi:i < L.length) :
 Calls Tryz.prog 50 #[.pointer (some ⟨b,0,none⟩),.int .i64 i] w fun e w'=>e=.returned (.tuple #[.int .u64 (nth L i.toNat),.int .i64 0])∧Only [b] w w'∧MemAt w' b s L (wrap64 (c+1)) l:=by
 go_enter Tryz.func50,Tryz.ntmps50;go_wp2_with fail;refine (word_in _ _ _ _ _ _ _ hm h0 hi).mono ?_;rintro e w' ⟨rfl,ho,hm'⟩;clear hm;have c1:=hm'.cell (i:=i.toNat) (by omega);have HM:=hid hm';clear hm';go_wp2;go_ret2;exact ⟨rfl,ho,HM.out⟩
theorem load_out (w:World) (b s:Nat) (L:List Int) (c l i:Int) (hm:MemAt w b s L c l) (h:i < 0∨L.length≤i) :
 Calls Tryz.prog 50 #[.pointer (some ⟨b,0,none⟩),.int .i64 i] w fun e w'=>e=.returned (.tuple #[.int .u64 0,.int .i64 2])∧Only [] w w':=by
 go_enter Tryz.func50,Tryz.ntmps50;go_wp2_with fail;refine (word_out _ _ _ _ _ _ _ hm h).mono ?_;rintro e w' ⟨rfl,ho⟩;clear hm h;go_wp2;go_ret2;exact ⟨rfl,ho⟩
theorem store_in (w:World) (b s:Nat) (L:List Int) (c l i v:Int) (hm:MemAt w b s L c l) (h0:0≤i) (hi:i < L.length) :
 Calls Tryz.prog 49 #[.pointer (some ⟨b,0,none⟩),.int .i64 i,.int .u64 v] w fun e w'=>e=.returned (.int .i64 0)∧Only [b,s] w w'∧MemAt w' b s (L.set i.toNat v) (wrap64 (c+1)) (wrap64 (l+1)):=by
 have hn:=hm.ne;go_enter Tryz.func49,Tryz.ntmps49;go_wp2_with fail;refine (word_in _ _ _ _ _ _ _ hm h0 hi).mono ?_;rintro e w' ⟨rfl,ho,hm'⟩;clear hm;have c1:=hm'.cell (i:=i.toNat) (by omega);have f1:=hm'.row.frozen i.toNat;have hm2:=hm'.stored i.toNat v;have c2:=hm2.c2;have f2:=hm2.obj.frozen 2;have HM:=hid hm2;clear hm' hm2;go_wp2;go_ret;exact ⟨rfl,((ho.sub (by simp)).setCell (by simp) _).setCell (by simp) _,HM.out.laid _⟩
theorem store_out (w:World) (b s:Nat) (L:List Int) (c l i v:Int) (hm:MemAt w b s L c l) (h:i < 0∨L.length≤i) :
 Calls Tryz.prog 49 #[.pointer (some ⟨b,0,none⟩),.int .i64 i,.int .u64 v] w fun e w'=>e=.returned (.int .i64 2)∧Only [] w w':=by
 go_enter Tryz.func49,Tryz.ntmps49;go_wp2_with fail;refine (word_out _ _ _ _ _ _ _ hm h).mono ?_;rintro e w' ⟨rfl,ho⟩;clear hm h;go_wp2;go_ret;exact ⟨rfl,ho⟩
theorem cas_yes (w:World) (b s:Nat) (L:List Int) (c l i x y:Int) (hm:MemAt w b s L c l) (h0:0≤i) (hi:i < L.length) (hx:nth L i.toNat=x) :
 Calls Tryz.prog 155 #[.pointer (some ⟨b,0,none⟩),.int .i64 i,.int .u64 x,.int .u64 y] w fun e w'=>e=.returned (.tuple #[.bool true,.int .i64 0])∧Only [b,s] w w'∧MemAt w' b s (L.set i.toNat y) (wrap64 (c+1)) (wrap64 (l+1)):=by
 subst hx;go_enter Tryz.func155,Tryz.ntmps155;go_wp2_with fail;refine (word_in _ _ _ _ _ _ _ hm h0 hi).mono ?_;rintro e w' ⟨rfl,ho,hm'⟩;clear hm;have c1:=hm'.cell (i:=i.toNat) (by omega);have f1:=hm'.row.frozen i.toNat;have hm2:=hm'.stored i.toNat y;have c2:=hm2.c2;have f2:=hm2.obj.frozen 2;have HM:=hid hm2;clear hm' hm2;go_wp2;go_ret2;exact ⟨rfl,((ho.sub (by simp)).setCell (by simp) _).setCell (by simp) _,HM.out.laid _⟩
theorem cas_no (w:World) (b s:Nat) (L:List Int) (c l i x y:Int) (hm:MemAt w b s L c l) (h0:0≤i) (hi:i < L.length) (hx:nth L i.toNat≠x) :
 Calls Tryz.prog 155 #[.pointer (some ⟨b,0,none⟩),.int .i64 i,.int .u64 x,.int .u64 y] w fun e w'=>e=.returned (.tuple #[.bool false,.int .i64 0])∧Only [b] w w'∧MemAt w' b s L (wrap64 (c+1)) l:=by
 have hx1:(nth L i.toNat != x)=true:=by simpa using hx
 clear hx;go_enter Tryz.func155,Tryz.ntmps155;go_wp2_with fail;refine (word_in _ _ _ _ _ _ _ hm h0 hi).mono ?_;rintro e w' ⟨rfl,ho,hm'⟩;clear hm;have c1:=hm'.cell (i:=i.toNat) (by omega);have HM:=hid hm';clear hm';go_wp2;go_ret2;exact ⟨rfl,ho,HM.out⟩
theorem cas_out (w:World) (b s:Nat) (L:List Int) (c l i x y:Int) (hm:MemAt w b s L c l) (h:i < 0∨L.length≤i) :
 Calls Tryz.prog 155 #[.pointer (some ⟨b,0,none⟩),.int .i64 i,.int .u64 x,.int .u64 y] w fun e w'=>e=.returned (.tuple #[.bool false,.int .i64 2])∧Only [] w w':=by
 go_enter Tryz.func155,Tryz.ntmps155;go_wp2_with fail;refine (word_out _ _ _ _ _ _ _ hm h).mono ?_;rintro e w' ⟨rfl,ho⟩;clear hm h;go_wp2;go_ret2;exact ⟨rfl,ho⟩
theorem add_in (w:World) (b s:Nat) (L:List Int) (c l i v:Int) (hm:MemAt w b s L c l) (h0:0≤i) (hi:i < L.length) :
 Calls Tryz.prog 156 #[.pointer (some ⟨b,0,none⟩),.int .i64 i,.int .u64 v] w fun e w'=>e=.returned (.tuple #[.int .u64 (nth L i.toNat),.int .i64 0])∧Only [b,s] w w' ∧
  MemAt w' b s (L.set i.toNat (IntKind.u64.wrap (nth L i.toNat+v))) (wrap64 (c+1)) (wrap64 (l+1)):=by
 go_enter Tryz.func156,Tryz.ntmps156;go_wp2_with fail;refine (word_in _ _ _ _ _ _ _ hm h0 hi).mono ?_;rintro e w' ⟨rfl,ho,hm'⟩;clear hm;have c1:=hm'.cell (i:=i.toNat) (by omega);have f1:=hm'.row.frozen i.toNat;have hm2:=hm'.stored i.toNat (IntKind.u64.wrap (nth L i.toNat+v));have c2:=hm2.c2;have f2:=hm2.obj.frozen 2;have HM:=hid hm2;clear hm' hm2;go_wp2;go_ret2;exact ⟨rfl,((ho.sub (by simp)).setCell (by simp) _).setCell (by simp) _,HM.out.laid _⟩
theorem add_out (w:World) (b s:Nat) (L:List Int) (c l i v:Int) (hm:MemAt w b s L c l) (h:i < 0∨L.length≤i) :
 Calls Tryz.prog 156 #[.pointer (some ⟨b,0,none⟩),.int .i64 i,.int .u64 v] w fun e w'=>e=.returned (.tuple #[.int .u64 0,.int .i64 2])∧Only [] w w':=by
 go_enter Tryz.func156,Tryz.ntmps156;go_wp2_with fail;refine (word_out _ _ _ _ _ _ _ hm h).mono ?_;rintro e w' ⟨rfl,ho⟩;clear hm h;go_wp2;go_ret2;exact ⟨rfl,ho⟩
theorem Tryz.info28 : (Tryz.prog.info? 28).map (fun i=>(i.zero,i.size,i.bytes))=some (some (.int .u64 0),1,8):=by kernel_rfl
theorem cells_zero (n:Nat):madeCells (Value.int .u64 0).cells n=cellsOf (List.replicate n 0):=by
 apply Array.ext';show (madeCells #[Value.int .u64 0] n).toList=_;rw [toList_madeCells_one];simp [cellsOf]
theorem mk40 (n:Int) (h0:0≤n) (h1:n≤65536) (W:World):(Instr.makeSlice 33 (.int .i64 n) (.int .i64 n)).run Tryz.prog W =
 .ok (.slice (some ⟨W.heap.size,0,none⟩) n.toNat n.toNat) (W.alloc (.cells (cellsOf (List.replicate n.toNat 0)) 28)):=by
 obtain ⟨i0,hi,hz0,hz1,hz2⟩:=info_parts Tryz.info28;rw [run_make W 33 28 i0 _ Tryz.underlying33 hi hz0 .i64 .i64 n n h0 (Int.le_refl _) (by rw [hz2]; omega) (by omega),hz1,Nat.mul_one,cells_zero]
theorem new_in (w:World) (n:Int) (h0:1≤n) (h1:n≤65536) :
 Calls Tryz.prog 19 #[.int .i64 n] w fun e w'=>∃ b s,e=.returned (.tuple #[.pointer (some ⟨b,0,none⟩),.int .i64 0])∧w.heap.size≤b∧w.heap.size≤s∧Only [] w w'∧MemAt w' b s (List.replicate n.toNat 0) 0 0:=by
 have hmk:=mk40 n (by omega) h1;go_enter Tryz.func19,Tryz.ntmps19;go_wp2;go_ret2;exact ⟨_,_,rfl,Nat.le_succ _,Nat.le_refl _,((Only.refl _ _).alloc _).alloc _,
  ⟨by rw [List.length_replicate]; exact Blk.new' _ _ _ (by simp),(Blk.new _ _ _).alloc _,by rw [List.length_replicate]; omega,by rw [List.length_replicate]; omega⟩⟩
def cutL (L:List Int) (i n:Int):List Int:=if 1≤n∧0≤i∧i≤L.length∧n≤L.length - i then (L.drop i.toNat).take n.toNat else []
def NewWords (w w':World) (v:Value) (L:List Int):Prop:=
 (L=[]∧v=.slice none 0 0)∨(L≠[]∧∃ g,w.heap.size≤g∧v=.slice (some ⟨g,0,none⟩) L.length L.length∧Blk w' g 28 (cellsOf L))
theorem cut_none (w:World) (s k:Nat) (i n:Int) (h:¬ (1≤n∧0≤i∧i≤k∧n≤k - i)) (hk:k≤65536) :
 Calls Tryz.prog 216 #[.agg #[.slice (some ⟨s,0,none⟩) k k],.int .i64 i,.int .i64 n] w fun e w'=>e=.returned (.slice none 0 0)∧Only [] w w':=by
 by_cases h1:n < 1
 ·clear h;go_enter Tryz.func216,Tryz.ntmps216;go_wp2;go_ret;exact ⟨rfl,(Only.refl _ _).alloc _⟩
 by_cases h2:i < 0
 ·clear h;go_enter Tryz.func216,Tryz.ntmps216;go_wp2;go_ret;exact ⟨rfl,(Only.refl _ _).alloc _⟩
 by_cases h3:(k:Int) < i
 ·clear h;go_enter Tryz.func216,Tryz.ntmps216;go_wp2;go_ret;exact ⟨rfl,(Only.refl _ _).alloc _⟩
 have h4:(k:Int) - i < n:=by omega
 have h5:0≤(k:Int) - i:=by omega
 clear h;go_enter Tryz.func216,Tryz.ntmps216;go_wp2;go_ret;exact ⟨rfl,(Only.refl _ _).alloc _⟩
theorem oneCell_cells (L:List Int):∀ v ∈ L.map (Value.int .u64),v.oneCell'=true:=by
 intro v hv;obtain ⟨x,_,rfl⟩:=List.mem_map.1 hv;rfl
theorem run_copy_whole (W:World) (g s o n m:Nat) (L:List Int) (cur:Array Value) (hg:Blk W g 28 cur) (hn:cur.size=n) (hs:Blk W s 28 (cellsOf L)) (ho:o+n≤L.length) (hm:n≤m) (ty:TypeId) (c:Nat) :
 Sem.run Tryz.prog (Builtin.copy_ #[33,33] ty #[.slice (some ⟨g,0,none⟩) n n,.slice (some ⟨s,o,none⟩) m c]) W=.ok (.int .i64 n) (W.setRow g (cellsOf ((L.drop o).take n))):=by
 have h:=run_copy_row (P:=Tryz.prog) W 33 33 ty 28 g 0 n n ⟨s,o,none⟩ m c cur 28 (((L.drop o).take n).map (Value.int .u64)) Tryz.underlying33 (by kernel_rfl) hg
  (by rw [List.length_map,List.length_take,List.length_drop]; show _=min m n; omega) (fun j v hj=>by
   have hlt:j < n:=by
    have:=(List.getElem?_eq_some_iff.1 hj).1;simp at this; omega
   have e:(⟨s,o,none⟩:Addr).add j=⟨s,o+j,none⟩:=by
    unfold Addr.add;split
    ·rename_i h0; subst h0; rfl
    ·rfl
   rw [e,hs.cell];simp [cellsOf,show j < n from hlt,show j < L.length - o from by omega] at hj ⊢;exact ⟨_,List.getElem?_eq_getElem (by omega),hj⟩) (by simp; omega) (oneCell_cells _)
 have e1:min n (L.length - o)=n:=by omega
 have e2:cur.toList.drop n=[]:=by rw [List.drop_eq_nil_iff]; simp [hn]
 simpa [cellsOf,goInt,e1,e2] using h
theorem cut_some (w:World) (s:Nat) (L:List Int) (i n:Int) (h1:1≤n) (h2:0≤i) (h3:n≤L.length - i) (hk:L.length≤65536) (hr:Blk w s 28 (cellsOf L)) :
 Calls Tryz.prog 216 #[.agg #[.slice (some ⟨s,0,none⟩) L.length L.length],.int .i64 i,.int .i64 n] w fun e w'=>∃ g,e=.returned (.slice (some ⟨g,0,none⟩) n.toNat n.toNat)∧w.heap.size≤g∧Only [] w w'∧Blk w' g 28 (cellsOf ((L.drop i.toNat).take n.toNat)):=by
 have hmk:=mk40 n (by omega) (by omega);have h4:i < L.length:=by omega
 have hb:Blk ((w.alloc (Obj.cells #[Value.slice (some ⟨s,0,none⟩) L.length L.length] 111)).alloc (Obj.cells (cellsOf (List.replicate n.toNat 0)) 28)) (w.heap.size+1) 28 (cellsOf (List.replicate n.toNat 0)):=Blk.new' _ _ _ (by simp);have hcp:=run_copy_whole _ (w.heap.size+1) s i.toNat n.toNat (L.length - i.toNat) L _ hb (by simp [cellsOf]) ((hr.alloc _).alloc _) (by omega) (by omega) 3 (L.length - i.toNat);have HB:=hid hb;clear hr hb;go_enter Tryz.func216,Tryz.ntmps216;go_wp2;go_ret;exact ⟨_,rfl,Nat.le_succ _,(((Only.refl _ _).alloc _).alloc _).setRow (.inr (Nat.le_succ _)) _,HB.out.row _⟩
theorem cut_any (w:World) (s:Nat) (L:List Int) (i n:Int) (hk:L.length≤65536) (hr:Blk w s 28 (cellsOf L)) :
 Calls Tryz.prog 216 #[.agg #[.slice (some ⟨s,0,none⟩) L.length L.length],.int .i64 i,.int .i64 n] w fun e w'=>∃ v,e=.returned v∧Only [] w w'∧NewWords w w' v (cutL L i n):=by
 by_cases h:1≤n∧0≤i∧i≤L.length∧n≤L.length - i
 ·obtain ⟨h1,h2,h3,h4⟩:=h;refine (cut_some w s L i n h1 h2 h4 hk hr).mono ?_;rintro e w' ⟨g,rfl,hg,ho,hb⟩;have hl:(cutL L i n).length=n.toNat:=by
   unfold cutL;rw [if_pos ⟨h1,h2,h3,h4⟩,List.length_take,List.length_drop];omega
  refine ⟨_,rfl,ho,.inr ⟨by intro e; rw [e] at hl; simp at hl; omega,g,hg,by rw [hl],?_⟩⟩;unfold cutL;rw [if_pos ⟨h1,h2,h3,h4⟩];exact hb
 ·refine (cut_none w s L.length i n h hk).mono ?_;rintro e w' ⟨rfl,ho⟩;exact ⟨_,rfl,ho,.inl ⟨by unfold cutL; rw [if_neg h],rfl⟩⟩
theorem words_any (w:World) (b s:Nat) (L:List Int) (c l i n:Int) (hm:MemAt w b s L c l) :
 Calls Tryz.prog 210 #[.pointer (some ⟨b,0,none⟩),.int .i64 i,.int .i64 n] w fun e w'=>∃ v,e=.returned v∧Only [] w w'∧NewWords w w' v (cutL L i n):=by
 have c0:=hm.c0;have HM:=hid hm;clear hm;go_enter Tryz.func210,Tryz.ntmps210;go_wp2_with fail;refine (cut_any _ s L i n HM.out.max HM.out.row).mono ?_;rintro e w' ⟨v,rfl,h⟩;have H:=hid h;clear h;go_wp2;go_ret;exact ⟨_,rfl,H.out⟩
def Reads (w:World) (A:Option Addr) (L:List Int):Prop:=
 L=[]∨∃ g o,g < w.heap.size∧A=some ⟨g,o,none⟩∧∀ i,i < L.length→w.cell? ⟨g,o+i,none⟩=some (.int .u64 (nth L i))
theorem Reads.nil (w:World) (A:Option Addr):Reads w A []:=.inl rfl
theorem Reads.blk {w:World} {g:Nat} {L:List Int} (h:Blk w g 28 (cellsOf L)):Reads w (some ⟨g,0,none⟩) L:=
 .inr ⟨g,0,h.lt,rfl,fun i hi=>by
  rw [Nat.zero_add,h.cell];simp [cellsOf,nth,hi]⟩
theorem Reads.only {w w':World} {S:List Nat} {A:Option Addr} {L:List Int} (h:Reads w A L) (o:Only S w w') (hn:∀ ad,A=some ad→ad.block ∉ S):Reads w' A L:=by
 rcases h with h | ⟨g,o',hg,rfl,hc⟩
 ·exact .inl h
 ·exact .inr ⟨g,o',Nat.lt_of_lt_of_le hg o.size,rfl,fun i hi=>(o.cell (p:=⟨g,o'+i,none⟩) hg (hn ⟨g,o',none⟩ rfl)).trans (hc i hi)⟩
def IsRow (w:World) (v:Value) (L:List Int):Prop:=∃ A c,v=.slice A L.length c∧Reads w A L∧L.length≤9223372036854775807
theorem IsRow.alloc {w:World} {v:Value} {L:List Int} (h:IsRow w v L) (o:Obj):IsRow (w.alloc o) v L:=by
 obtain ⟨A,c,rfl,hr,hm⟩:=h;refine ⟨A,c,rfl,?_,hm⟩;rcases hr with h | ⟨g,o',hg,rfl,hc⟩
 ·exact .inl h
 ·exact .inr ⟨g,o',by simp; omega,rfl,fun i hi=>(((Only.refl [] w).alloc o).cell (p:=⟨g,o'+i,none⟩) hg (by simp)).trans (hc i hi)⟩
theorem IsRow.only {w w':World} {v:Value} {L:List Int} {S:List Nat} (h:IsRow w v L) (o:Only S w w') (hn:∀ k ∈ S,w.heap.size≤k):IsRow w' v L:=by
 obtain ⟨A,c,rfl,hr,hm⟩:=h;refine ⟨A,c,rfl,?_,hm⟩;rcases hr with h | ⟨g,o',hg,rfl,hc⟩
 ·exact .inl h
 ·exact .inr ⟨g,o',Nat.lt_of_lt_of_le hg o.size,rfl,fun i hi=>(o.cell (p:=⟨g,o'+i,none⟩) hg (fun hm=>by have:=hn _ hm; simp at this; omega)).trans (hc i hi)⟩
def doF (f:Nat):Value:=.func (.func f) #[] #[]
def doE (k:Int) (f n:Nat):MapEntry:=⟨.int .i64 k,doF f,n⟩
def doM1 : Array MapEntry:=#[doE 1 108 0]
def doM2 : Array MapEntry:=#[doE 1 108 0,doE 2 109 1]
def doM3 : Array MapEntry:=#[doE 1 108 0,doE 2 109 1,doE 3 110 2]
def doM4 : Array MapEntry:=#[doE 1 108 0,doE 2 109 1,doE 3 110 2,doE 4 111 3]
theorem map_ins (W:World) (r:Nat) (hr:r=W.heap.size) (es:Array MapEntry) (c:Nat) (k:Int) (v:Value) (hf:Instr.findNow (.int .i64) (.int .i64 k) es.toList 0=some none) :
 Sem.run Tryz.prog (Instr.mapUpdate 193 (.map (some r)) (.int .i64 k) v) (W.alloc (.map es c))=.ok () (W.alloc (.map (es.push ⟨.int .i64 k,v,c⟩) (c+1))):=by
 subst hr;have hb:(W.alloc (.map es c)).heap[W.heap.size]?=some (.map es c):=by show (W.heap.push _)[W.heap.size]?=_; simp
 have hk:MapKept.IsKey (.int .i64) (.int .i64 k):=by simp [MapKept.IsKey]
 have hs:({ (W.alloc (.map es c)) with heap:=(W.alloc (.map es c)).heap.setIfInBounds W.heap.size (.map (es.push ⟨.int .i64 k,v,c⟩) (c+1)) }:World)=W.alloc (.map (es.push ⟨.int .i64 k,v,c⟩) (c+1)):=by
  have e:(W.heap.push (Obj.map es c)).setIfInBounds W.heap.size (.map (es.push ⟨.int .i64 k,v,c⟩) (c+1))=W.heap.push (.map (es.push ⟨.int .i64 k,v,c⟩) (c+1)):=by
   apply Array.ext';simp
  show ({ W with heap:=(W.heap.push (Obj.map es c)).setIfInBounds W.heap.size (.map (es.push ⟨.int .i64 k,v,c⟩) (c+1)) }:World)={ W with heap:=W.heap.push (.map (es.push ⟨.int .i64 k,v,c⟩) (c+1)) };rw [e]
 simp [Instr.mapUpdate,run_underlying Tryz.underlying193,MapKept.run_getObj_map hb,MapKept.run_checkKey Tryz.underlying3 hk,MapKept.run_findKey Tryz.underlying3 hf,MapKept.run_setObj_map _ hb,Result.andThen];exact hs
theorem map_look (W:World) (r:Nat) (es:Array MapEntry) (c:Nat) (k:Int) (hb:W.heap[r]?=some (.map es c)) (n:Nat) (v:Value) (hf:Instr.findNow (.int .i64) (.int .i64 k) es.toList 0=some (some (n,v))) :
 Sem.run Tryz.prog (Instr.lookup 193 (.map (some r)) (.int .i64 k) true) W=.ok (.tuple #[v,.bool true]) W:=by
 have hk:MapKept.IsKey (.int .i64) (.int .i64 k):=by simp [MapKept.IsKey]
 simp [Instr.lookup,run_underlying Tryz.underlying193,MapKept.run_getObj_map hb,MapKept.run_checkKey Tryz.underlying3 hk,MapKept.run_findKey Tryz.underlying3 hf,Result.andThen]
theorem map_miss (W:World) (r:Nat) (es:Array MapEntry) (c:Nat) (k:Int) (hb:W.heap[r]?=some (.map es c)) (hf:Instr.findNow (.int .i64) (.int .i64 k) es.toList 0=some none) :
 Sem.run Tryz.prog (Instr.lookup 193 (.map (some r)) (.int .i64 k) true) W=.ok (.tuple #[.nilFunc,.bool false]) W:=by
 have hk:MapKept.IsKey (.int .i64) (.int .i64 k):=by simp [MapKept.IsKey]
 have hz:Sem.run Tryz.prog (zeroValue 190) W=.ok .nilFunc W:=by kernel_rfl
 simp [Instr.lookup,run_underlying Tryz.underlying193,MapKept.run_getObj_map hb,MapKept.run_checkKey Tryz.underlying3 hk,MapKept.run_findKey Tryz.underlying3 hf,Result.andThen,hz]
end Go.Proofs.YtadgpnoealegiaaGreat
