import Derived.Test.YtadgpnoealegiaaGreatP00
import Derived.Laws.ResultCell
namespace Go.Proofs.YtadgpnoealegiaaGreat
open Go.RowKit
open Go.Lib (hid)
set_option maxRecDepth 100000
set_option maxHeartbeats 20000000
structure MS where
 L:List Int
 c:Int
 l:Int
namespace MS
def has (m:MS) (i:Int):Bool:=decide (0≤i∧i < m.L.length)
def load (m:MS) (i:Int):MS×Int×Int:=if m.has i then (⟨m.L,wrap64 (m.c+1),m.l⟩,nth m.L i.toNat,0) else (m,0,2)
def store (m:MS) (i v:Int):MS×Int:=if m.has i then (⟨m.L.set i.toNat v,wrap64 (m.c+1),wrap64 (m.l+1)⟩,0) else (m,2)
def cas (m:MS) (i x y:Int):MS×Bool×Int:=
 if m.has i then (if nth m.L i.toNat=x then (⟨m.L.set i.toNat y,wrap64 (m.c+1),wrap64 (m.l+1)⟩,true,0) else (⟨m.L,wrap64 (m.c+1),m.l⟩,false,0)) else (m,false,2)
def add (m:MS) (i v:Int):MS×Int×Int:=
 if m.has i then (⟨m.L.set i.toNat (IntKind.u64.wrap (nth m.L i.toNat+v)),wrap64 (m.c+1),wrap64 (m.l+1)⟩,nth m.L i.toNat,0) else (m,0,2)
theorem yes {m:MS} {i:Int} (h:m.has i=true):0≤i∧i < m.L.length:=of_decide_eq_true h
theorem no {m:MS} {i:Int} (h:¬ m.has i=true):i < 0∨m.L.length≤i:=by
 have:¬ (0≤i∧i < m.L.length):=fun hh=>h (decide_eq_true hh);omega
end MS
structure Res where
 v:Int
 ok:Bool
 e:Int
def Res.val (r:Res):Value:=.agg #[.int .u64 r.v,.bool r.ok,.int .i64 r.e]
structure Act' where
 k:Int
 i:Int
 a:Int
 b:Int
def Act'.val (x:Act'):Value:=.agg #[.int .i64 x.k,.int .i64 x.i,.int .u64 x.a,.int .u64 x.b]
def Act'.wf (x:Act'):Prop:=(Lit.int .i64 x.k).wf=true∧(Lit.int .i64 x.i).wf=true∧(Lit.int .u64 x.a).wf=true∧(Lit.int .u64 x.b).wf=true
theorem cell_lt {w:World} {a:Addr} {v:Value} (h:w.cell? a=some v):a.block < w.heap.size∧a.spot=none:=by
 unfold World.cell? at h;split at h
 ·rename_i c _ _ hb;refine ⟨?_,?_⟩
  ·rcases Nat.lt_or_ge a.block w.heap.size with hl | hg
   ·exact hl
   ·rw [Array.getElem?_eq_none hg] at hb; cases hb
  ·cases hs:a.spot with
   | none=>rfl
   | some _=>simp [hs] at h
 ·cases h
def MS.act (m:MS) (x:Act'):MS×Res:=
 if x.k=1 then ((m.load x.i).1,⟨(m.load x.i).2.1,false,(m.load x.i).2.2⟩)
 else if x.k=2 then ((m.store x.i x.a).1,⟨0,false,(m.store x.i x.a).2⟩)
 else if x.k=3 then ((m.cas x.i x.a x.b).1,⟨0,(m.cas x.i x.a x.b).2.1,(m.cas x.i x.a x.b).2.2⟩)
 else if x.k=4 then ((m.add x.i x.a).1,⟨(m.add x.i x.a).2.1,false,(m.add x.i x.a).2.2⟩)
 else (m,⟨0,false,1⟩)
def IsMem (w:World) (b s:Nat) (m:MS):Prop:=MemAt w b s m.L m.c m.l
theorem IsMem.only {w w':World} {b s:Nat} {m:MS} {S:List Nat} (h:IsMem w b s m) (o:Only S w w') (hb:b ∉ S) (hs:s ∉ S):IsMem w' b s m:=MemAt.only h o hb hs
theorem IsMem.lt {w:World} {b s:Nat} {m:MS} (h:IsMem w b s m):b < w.heap.size∧s < w.heap.size:=⟨h.obj.lt,h.row.lt⟩
section
variable (w:World) (b s:Nat) (m:MS) (i:Int)
theorem load_any (hm:IsMem w b s m):Calls Tryz.prog 50 #[.pointer (some ⟨b,0,none⟩),.int .i64 i] w fun e w'=>
 e=.returned (.tuple #[.int .u64 (m.load i).2.1,.int .i64 (m.load i).2.2])∧Only [b,s] w w'∧IsMem w' b s (m.load i).1:=by
 unfold MS.load;split
 ·rename_i h;exact (load_in w b s m.L m.c m.l i hm (MS.yes h).1 (MS.yes h).2).mono fun e w' ⟨he,ho,h'⟩=>⟨he,ho.sub (by simp),h'⟩
 ·rename_i h;exact (load_out w b s m.L m.c m.l i hm (MS.no h)).mono fun e w' ⟨he,ho⟩=>⟨he,ho.sub (by simp),hm.only ho (by simp) (by simp)⟩
theorem store_any (v:Int) (hm:IsMem w b s m):Calls Tryz.prog 49 #[.pointer (some ⟨b,0,none⟩),.int .i64 i,.int .u64 v] w fun e w'=>
 e=.returned (.int .i64 (m.store i v).2)∧Only [b,s] w w'∧IsMem w' b s (m.store i v).1:=by
 unfold MS.store;split
 ·rename_i h;exact (store_in w b s m.L m.c m.l i v hm (MS.yes h).1 (MS.yes h).2).mono fun e w' ⟨he,ho,h'⟩=>⟨he,ho.sub (by simp),h'⟩
 ·rename_i h;exact (store_out w b s m.L m.c m.l i v hm (MS.no h)).mono fun e w' ⟨he,ho⟩=>⟨he,ho.sub (by simp),hm.only ho (by simp) (by simp)⟩
theorem cas_any (x y:Int) (hm:IsMem w b s m):Calls Tryz.prog 155 #[.pointer (some ⟨b,0,none⟩),.int .i64 i,.int .u64 x,.int .u64 y] w fun e w'=>
 e=.returned (.tuple #[.bool (m.cas i x y).2.1,.int .i64 (m.cas i x y).2.2])∧Only [b,s] w w'∧IsMem w' b s (m.cas i x y).1:=by
 unfold MS.cas;split
 ·rename_i h;split
  ·rename_i hx;exact (cas_yes w b s m.L m.c m.l i x y hm (MS.yes h).1 (MS.yes h).2 hx).mono fun e w' ⟨he,ho,h'⟩=>⟨he,ho.sub (by simp),h'⟩
  ·rename_i hx;exact (cas_no w b s m.L m.c m.l i x y hm (MS.yes h).1 (MS.yes h).2 hx).mono fun e w' ⟨he,ho,h'⟩=>⟨he,ho.sub (by simp),h'⟩
 ·rename_i h;exact (cas_out w b s m.L m.c m.l i x y hm (MS.no h)).mono fun e w' ⟨he,ho⟩=>⟨he,ho.sub (by simp),hm.only ho (by simp) (by simp)⟩
theorem add_any (v:Int) (hm:IsMem w b s m):Calls Tryz.prog 156 #[.pointer (some ⟨b,0,none⟩),.int .i64 i,.int .u64 v] w fun e w'=>
 e=.returned (.tuple #[.int .u64 (m.add i v).2.1,.int .i64 (m.add i v).2.2])∧Only [b,s] w w'∧IsMem w' b s (m.add i v).1:=by
 unfold MS.add;split
 ·rename_i h;exact (add_in w b s m.L m.c m.l i v hm (MS.yes h).1 (MS.yes h).2).mono fun e w' ⟨he,ho,h'⟩=>⟨he,ho.sub (by simp),h'⟩
 ·rename_i h;exact (add_out w b s m.L m.c m.l i v hm (MS.no h)).mono fun e w' ⟨he,ho⟩=>⟨he,ho.sub (by simp),hm.only ho (by simp) (by simp)⟩
end
def MS.new (n:Nat):MS:=⟨List.replicate n 0,0,0⟩
theorem two_new (w:World) (t u:TypeId) (x y:Array Value):Only [] w ((w.alloc (.cells x t)).alloc (.cells y u))∧Blk ((w.alloc (.cells x t)).alloc (.cells y u)) w.heap.size t x∧Blk ((w.alloc (.cells x t)).alloc (.cells y u)) (w.heap.size+1) u y:=
 ⟨((Only.refl _ _).alloc _).alloc _,(Blk.new _ _ _).alloc _,Blk.new' _ _ _ (by simp)⟩
theorem doload_any (w:World) (b s:Nat) (m:MS) (k i x y:Int) (hm:IsMem w b s m) :
 Calls Tryz.prog 108 #[.agg #[.int .i64 k,.int .i64 i,.int .u64 x,.int .u64 y],.pointer (some ⟨b,0,none⟩)] w fun e w'=>
  e=.returned (.agg #[.int .u64 (m.load i).2.1,.bool false,.int .i64 (m.load i).2.2])∧Only [b,s] w w'∧IsMem w' b s (m.load i).1:=by
 have H2:=hid (two_new w 192 166 #[.int .i64 k,.int .i64 i,.int .u64 x,.int .u64 y] #[.int .u64 0,.bool false,.int .i64 0]);have HM:=hid hm;clear hm;go_enter Tryz.func108,Tryz.ntmps108;go_wp2_with fail;refine (load_any _ b s m i (HM.out.only H2.out.1 (by simp) (by simp))).mono ?_;rintro e w' ⟨rfl,ho,hm'⟩;have hlt:=HM.out.lt;have hr:=H2.out.2.2.only ho (by simp; omega);have q0:=hr.at 0 rfl;have q1:=hr.at 1 rfl;have q2:=hr.at 2 rfl;have f0:=hr.frozen 0;have f1:=hr.frozen 1;have f2:=hr.frozen 2;have HO:=hid ho;have HM':=hid hm';clear hr ho hm';go_wp2;refine bodyPost_ret (v:=.agg #[.int .u64 (m.load i).2.1,.bool false,.int .i64 (m.load i).2.2]) (by simp [results,Tryz.results108,go_sem,q0,q1,q2]) rfl ⟨rfl,?_,?_⟩
 ·exact ((((H2.out.1.sub (by simp)).trans HO.out).setCell (.inr (Nat.le_succ _)) _).setCell (.inr (Nat.le_succ _)) _).setCell (.inr (Nat.le_succ _)) _
 ·exact HM'.out.only (((Only.refl [w.heap.size+1] w').setCell (by simp) _).setCell (by simp) _ |>.setCell (by simp) _) (by simp; omega) (by simp; omega)
theorem dostore_any (w:World) (b s:Nat) (m:MS) (k i x y:Int) (hm:IsMem w b s m) :
 Calls Tryz.prog 109 #[.agg #[.int .i64 k,.int .i64 i,.int .u64 x,.int .u64 y],.pointer (some ⟨b,0,none⟩)] w fun e w'=>
  e=.returned (.agg #[.int .u64 0,.bool false,.int .i64 (m.store i x).2])∧Only [b,s] w w'∧IsMem w' b s (m.store i x).1:=by
 have H2:=hid (two_new w 192 166 #[.int .i64 k,.int .i64 i,.int .u64 x,.int .u64 y] #[.int .u64 0,.bool false,.int .i64 0]);have HM:=hid hm;clear hm;go_enter Tryz.func109,Tryz.ntmps109;go_wp2_with fail;refine (store_any _ b s m i x (HM.out.only H2.out.1 (by simp) (by simp))).mono ?_;rintro e w' ⟨rfl,ho,hm'⟩;have hlt:=HM.out.lt;have hr:=H2.out.2.2.only ho (by simp; omega);have q0:=hr.at 0 rfl;have q1:=hr.at 1 rfl;have q2:=hr.at 2 rfl;have f0:=hr.frozen 0;have f1:=hr.frozen 1;have f2:=hr.frozen 2;have HO:=hid ho;have HM':=hid hm';clear hr ho hm';go_wp2;refine bodyPost_ret (v:=.agg #[.int .u64 0,.bool false,.int .i64 (m.store i x).2]) (by simp [results,Tryz.results109,go_sem,q0,q1,q2]) rfl ⟨rfl,?_,?_⟩
 ·exact ((((H2.out.1.sub (by simp)).trans HO.out).setCell (.inr (Nat.le_succ _)) _).setCell (.inr (Nat.le_succ _)) _).setCell (.inr (Nat.le_succ _)) _
 ·exact HM'.out.only (((Only.refl [w.heap.size+1] w').setCell (by simp) _).setCell (by simp) _ |>.setCell (by simp) _) (by simp; omega) (by simp; omega)
theorem docas_any (w:World) (b s:Nat) (m:MS) (k i x y:Int) (hm:IsMem w b s m) :
 Calls Tryz.prog 110 #[.agg #[.int .i64 k,.int .i64 i,.int .u64 x,.int .u64 y],.pointer (some ⟨b,0,none⟩)] w fun e w'=>
  e=.returned (.agg #[.int .u64 0,.bool (m.cas i x y).2.1,.int .i64 (m.cas i x y).2.2])∧Only [b,s] w w'∧IsMem w' b s (m.cas i x y).1:=by
 have H2:=hid (two_new w 192 166 #[.int .i64 k,.int .i64 i,.int .u64 x,.int .u64 y] #[.int .u64 0,.bool false,.int .i64 0]);have HM:=hid hm;clear hm;go_enter Tryz.func110,Tryz.ntmps110;go_wp2_with fail;refine (cas_any _ b s m i x y (HM.out.only H2.out.1 (by simp) (by simp))).mono ?_;rintro e w' ⟨rfl,ho,hm'⟩;have hlt:=HM.out.lt;have hr:=H2.out.2.2.only ho (by simp; omega);have q0:=hr.at 0 rfl;have q1:=hr.at 1 rfl;have q2:=hr.at 2 rfl;have f0:=hr.frozen 0;have f1:=hr.frozen 1;have f2:=hr.frozen 2;have HO:=hid ho;have HM':=hid hm';clear hr ho hm';go_wp2;refine bodyPost_ret (v:=.agg #[.int .u64 0,.bool (m.cas i x y).2.1,.int .i64 (m.cas i x y).2.2]) (by simp [results,Tryz.results110,go_sem,q0,q1,q2]) rfl ⟨rfl,?_,?_⟩
 ·exact ((((H2.out.1.sub (by simp)).trans HO.out).setCell (.inr (Nat.le_succ _)) _).setCell (.inr (Nat.le_succ _)) _).setCell (.inr (Nat.le_succ _)) _
 ·exact HM'.out.only (((Only.refl [w.heap.size+1] w').setCell (by simp) _).setCell (by simp) _ |>.setCell (by simp) _) (by simp; omega) (by simp; omega)
theorem doadd_any (w:World) (b s:Nat) (m:MS) (k i x y:Int) (hm:IsMem w b s m) :
 Calls Tryz.prog 111 #[.agg #[.int .i64 k,.int .i64 i,.int .u64 x,.int .u64 y],.pointer (some ⟨b,0,none⟩)] w fun e w'=>
  e=.returned (.agg #[.int .u64 (m.add i x).2.1,.bool false,.int .i64 (m.add i x).2.2])∧Only [b,s] w w'∧IsMem w' b s (m.add i x).1:=by
 have H2:=hid (two_new w 192 166 #[.int .i64 k,.int .i64 i,.int .u64 x,.int .u64 y] #[.int .u64 0,.bool false,.int .i64 0]);have HM:=hid hm;clear hm;go_enter Tryz.func111,Tryz.ntmps111;go_wp2_with fail;refine (add_any _ b s m i x (HM.out.only H2.out.1 (by simp) (by simp))).mono ?_;rintro e w' ⟨rfl,ho,hm'⟩;have hlt:=HM.out.lt;have hr:=H2.out.2.2.only ho (by simp; omega);have q0:=hr.at 0 rfl;have q1:=hr.at 1 rfl;have q2:=hr.at 2 rfl;have f0:=hr.frozen 0;have f1:=hr.frozen 1;have f2:=hr.frozen 2;have HO:=hid ho;have HM':=hid hm';clear hr ho hm';go_wp2;refine bodyPost_ret (v:=.agg #[.int .u64 (m.add i x).2.1,.bool false,.int .i64 (m.add i x).2.2]) (by simp [results,Tryz.results111,go_sem,q0,q1,q2]) rfl ⟨rfl,?_,?_⟩
 ·exact ((((H2.out.1.sub (by simp)).trans HO.out).setCell (.inr (Nat.le_succ _)) _).setCell (.inr (Nat.le_succ _)) _).setCell (.inr (Nat.le_succ _)) _
 ·exact HM'.out.only (((Only.refl [w.heap.size+1] w').setCell (by simp) _).setCell (by simp) _ |>.setCell (by simp) _) (by simp; omega) (by simp; omega)
theorem ins1 (W:World) (r:Nat) (hr:r=W.heap.size):Sem.run Tryz.prog (Instr.mapUpdate 193 (.map (some r)) (.int .i64 1) (.func (.func 108) #[] #[])) (W.alloc (.map #[] 0))=.ok () (W.alloc (.map doM1 1)):=
 map_ins W r hr #[] 0 1 _ rfl
theorem ins2 (W:World) (r:Nat) (hr:r=W.heap.size):Sem.run Tryz.prog (Instr.mapUpdate 193 (.map (some r)) (.int .i64 2) (.func (.func 109) #[] #[])) (W.alloc (.map doM1 1))=.ok () (W.alloc (.map doM2 2)):=
 map_ins W r hr doM1 1 2 _ rfl
theorem ins3 (W:World) (r:Nat) (hr:r=W.heap.size):Sem.run Tryz.prog (Instr.mapUpdate 193 (.map (some r)) (.int .i64 3) (.func (.func 110) #[] #[])) (W.alloc (.map doM2 2))=.ok () (W.alloc (.map doM3 3)):=
 map_ins W r hr doM2 2 3 _ rfl
theorem ins4 (W:World) (r:Nat) (hr:r=W.heap.size):Sem.run Tryz.prog (Instr.mapUpdate 193 (.map (some r)) (.int .i64 4) (.func (.func 111) #[] #[])) (W.alloc (.map doM3 3))=.ok () (W.alloc (.map doM4 4)):=
 map_ins W r hr doM3 3 4 _ rfl
theorem look4 (W:World) (r:Nat) (hr:r=W.heap.size) (k:Int) (n:Nat) (v:Value) (hf:Instr.findNow (.int .i64) (.int .i64 k) doM4.toList 0=some (some (n,v))) :
 Sem.run Tryz.prog (Instr.lookup 193 (.map (some r)) (.int .i64 k) true) (W.alloc (.map doM4 4))=.ok (.tuple #[v,.bool true]) (W.alloc (.map doM4 4)):=
 map_look _ r doM4 4 k (by subst hr; show (W.heap.push _)[W.heap.size]?=_; simp) n v hf
theorem miss4 (W:World) (r:Nat) (hr:r=W.heap.size) (k:Int) (hf:Instr.findNow (.int .i64) (.int .i64 k) doM4.toList 0=some none) :
 Sem.run Tryz.prog (Instr.lookup 193 (.map (some r)) (.int .i64 k) true) (W.alloc (.map doM4 4))=.ok (.tuple #[.nilFunc,.bool false]) (W.alloc (.map doM4 4)):=
 map_miss _ r doM4 4 k (by subst hr; show (W.heap.push _)[W.heap.size]?=_; simp) hf
theorem do_other (w:World) (mv:Value) (k i x y:Int) (h1:k≠1) (h2:k≠2) (h3:k≠3) (h4:k≠4) :
 Calls Tryz.prog 73 #[mv,.agg #[.int .i64 k,.int .i64 i,.int .u64 x,.int .u64 y]] w fun e w'=>e=.returned (.agg #[.int .u64 0,.bool false,.int .i64 1])∧Only [] w w':=by
 have hmm:=@run_makeMap Tryz.prog;have H2:=hid (two_new w 169 166 #[.int .i64 k,.int .i64 i,.int .u64 x,.int .u64 y] #[.int .u64 0,.bool false,.int .i64 0]);have i1:=ins1 ((w.alloc (.cells #[.int .i64 k,.int .i64 i,.int .u64 x,.int .u64 y] 169)).alloc (.cells #[.int .u64 0,.bool false,.int .i64 0] 166)) (w.heap.size+1+1) (by simp);have i2:=ins2 ((w.alloc (.cells #[.int .i64 k,.int .i64 i,.int .u64 x,.int .u64 y] 169)).alloc (.cells #[.int .u64 0,.bool false,.int .i64 0] 166)) (w.heap.size+1+1) (by simp);have i3:=ins3 ((w.alloc (.cells #[.int .i64 k,.int .i64 i,.int .u64 x,.int .u64 y] 169)).alloc (.cells #[.int .u64 0,.bool false,.int .i64 0] 166)) (w.heap.size+1+1) (by simp);have i4:=ins4 ((w.alloc (.cells #[.int .i64 k,.int .i64 i,.int .u64 x,.int .u64 y] 169)).alloc (.cells #[.int .u64 0,.bool false,.int .i64 0] 166)) (w.heap.size+1+1) (by simp);have lk:=miss4 ((w.alloc (.cells #[.int .i64 k,.int .i64 i,.int .u64 x,.int .u64 y] 169)).alloc (.cells #[.int .u64 0,.bool false,.int .i64 0] 166)) (w.heap.size+1+1) (by simp) k (by
  have b1:(k == 1)=false:=by simpa using h1
  have b2:(k == 2)=false:=by simpa using h2
  have b3:(k == 3)=false:=by simpa using h3
  have b4:(k == 4)=false:=by simpa using h4
  simp [doM4,doE,Instr.findNow,Instr.sameNow,b1,b2,b3,b4])
 clear h1 h2 h3 h4;go_enter Tryz.func73,Tryz.ntmps73;go_wp2;refine bodyPost_ret (v:=.agg #[.int .u64 0,.bool false,.int .i64 1]) (by simp [results,Tryz.results73,go_sem]) rfl ⟨rfl,?_⟩;exact (((Only.refl _ _).alloc _).alloc _).alloc _
theorem do_load (w:World) (b s:Nat) (m:MS) (i x y:Int) (hm:IsMem w b s m) :
 Calls Tryz.prog 73 #[.pointer (some ⟨b,0,none⟩),.agg #[.int .i64 1,.int .i64 i,.int .u64 x,.int .u64 y]] w fun e w'=>e=.returned (.agg #[.int .u64 (m.load i).2.1,.bool false,.int .i64 (m.load i).2.2])∧Only [b,s] w w'∧IsMem w' b s (m.load i).1:=by
 have hmm:=@run_makeMap Tryz.prog;have H2:=hid (two_new w 169 166 #[.int .i64 1,.int .i64 i,.int .u64 x,.int .u64 y] #[.int .u64 0,.bool false,.int .i64 0]);have i1:=ins1 ((w.alloc (.cells #[.int .i64 1,.int .i64 i,.int .u64 x,.int .u64 y] 169)).alloc (.cells #[.int .u64 0,.bool false,.int .i64 0] 166)) (w.heap.size+1+1) (by simp);have i2:=ins2 ((w.alloc (.cells #[.int .i64 1,.int .i64 i,.int .u64 x,.int .u64 y] 169)).alloc (.cells #[.int .u64 0,.bool false,.int .i64 0] 166)) (w.heap.size+1+1) (by simp);have i3:=ins3 ((w.alloc (.cells #[.int .i64 1,.int .i64 i,.int .u64 x,.int .u64 y] 169)).alloc (.cells #[.int .u64 0,.bool false,.int .i64 0] 166)) (w.heap.size+1+1) (by simp);have i4:=ins4 ((w.alloc (.cells #[.int .i64 1,.int .i64 i,.int .u64 x,.int .u64 y] 169)).alloc (.cells #[.int .u64 0,.bool false,.int .i64 0] 166)) (w.heap.size+1+1) (by simp);have lk:=look4 ((w.alloc (.cells #[.int .i64 1,.int .i64 i,.int .u64 x,.int .u64 y] 169)).alloc (.cells #[.int .u64 0,.bool false,.int .i64 0] 166)) (w.heap.size+1+1) (by simp) 1 0 (.func (.func 108) #[] #[]) rfl;have HM:=hid hm;clear hm;go_enter Tryz.func73,Tryz.ntmps73;go_wp2_with fail;have ho1:=H2.out.1.alloc (.map doM4 4);refine (doload_any _ b s m _ i x y (HM.out.only ho1 (by simp) (by simp))).mono ?_;rintro e w' ⟨rfl,ho,hm'⟩;have hlt:=HM.out.lt;have hr:=(H2.out.2.2.alloc (.map doM4 4)).only ho (by simp; omega);have q0:=hr.at 0 rfl;have q1:=hr.at 1 rfl;have q2:=hr.at 2 rfl;have f0:=hr.frozen 0;have f1:=hr.frozen 1;have f2:=hr.frozen 2;have HO:=hid ho;have HO1:=hid ho1;have HM':=hid hm';clear hr ho ho1 hm' hmm i1 i2 i3 i4 lk;go_wp2;refine bodyPost_ret (v:=.agg #[.int .u64 (m.load i).2.1,.bool false,.int .i64 (m.load i).2.2]) (by simp [results,Tryz.results73,go_sem,q0,q1,q2]) rfl ⟨rfl,?_,?_⟩
 ·exact ((((HO1.out.sub (by simp)).trans HO.out).setCell (.inr (Nat.le_succ _)) _).setCell (.inr (Nat.le_succ _)) _).setCell (.inr (Nat.le_succ _)) _
 ·exact HM'.out.only (((Only.refl [w.heap.size+1] w').setCell (by simp) _).setCell (by simp) _ |>.setCell (by simp) _) (by simp; omega) (by simp; omega)
theorem do_store (w:World) (b s:Nat) (m:MS) (i x y:Int) (hm:IsMem w b s m) :
 Calls Tryz.prog 73 #[.pointer (some ⟨b,0,none⟩),.agg #[.int .i64 2,.int .i64 i,.int .u64 x,.int .u64 y]] w fun e w'=>e=.returned (.agg #[.int .u64 0,.bool false,.int .i64 (m.store i x).2])∧Only [b,s] w w'∧IsMem w' b s (m.store i x).1:=by
 have hmm:=@run_makeMap Tryz.prog;have H2:=hid (two_new w 169 166 #[.int .i64 2,.int .i64 i,.int .u64 x,.int .u64 y] #[.int .u64 0,.bool false,.int .i64 0]);have i1:=ins1 ((w.alloc (.cells #[.int .i64 2,.int .i64 i,.int .u64 x,.int .u64 y] 169)).alloc (.cells #[.int .u64 0,.bool false,.int .i64 0] 166)) (w.heap.size+1+1) (by simp);have i2:=ins2 ((w.alloc (.cells #[.int .i64 2,.int .i64 i,.int .u64 x,.int .u64 y] 169)).alloc (.cells #[.int .u64 0,.bool false,.int .i64 0] 166)) (w.heap.size+1+1) (by simp);have i3:=ins3 ((w.alloc (.cells #[.int .i64 2,.int .i64 i,.int .u64 x,.int .u64 y] 169)).alloc (.cells #[.int .u64 0,.bool false,.int .i64 0] 166)) (w.heap.size+1+1) (by simp);have i4:=ins4 ((w.alloc (.cells #[.int .i64 2,.int .i64 i,.int .u64 x,.int .u64 y] 169)).alloc (.cells #[.int .u64 0,.bool false,.int .i64 0] 166)) (w.heap.size+1+1) (by simp);have lk:=look4 ((w.alloc (.cells #[.int .i64 2,.int .i64 i,.int .u64 x,.int .u64 y] 169)).alloc (.cells #[.int .u64 0,.bool false,.int .i64 0] 166)) (w.heap.size+1+1) (by simp) 2 1 (.func (.func 109) #[] #[]) rfl;have HM:=hid hm;clear hm;go_enter Tryz.func73,Tryz.ntmps73;go_wp2_with fail;have ho1:=H2.out.1.alloc (.map doM4 4);refine (dostore_any _ b s m _ i x y (HM.out.only ho1 (by simp) (by simp))).mono ?_;rintro e w' ⟨rfl,ho,hm'⟩;have hlt:=HM.out.lt;have hr:=(H2.out.2.2.alloc (.map doM4 4)).only ho (by simp; omega);have q0:=hr.at 0 rfl;have q1:=hr.at 1 rfl;have q2:=hr.at 2 rfl;have f0:=hr.frozen 0;have f1:=hr.frozen 1;have f2:=hr.frozen 2;have HO:=hid ho;have HO1:=hid ho1;have HM':=hid hm';clear hr ho ho1 hm' hmm i1 i2 i3 i4 lk;go_wp2;refine bodyPost_ret (v:=.agg #[.int .u64 0,.bool false,.int .i64 (m.store i x).2]) (by simp [results,Tryz.results73,go_sem,q0,q1,q2]) rfl ⟨rfl,?_,?_⟩
 ·exact ((((HO1.out.sub (by simp)).trans HO.out).setCell (.inr (Nat.le_succ _)) _).setCell (.inr (Nat.le_succ _)) _).setCell (.inr (Nat.le_succ _)) _
 ·exact HM'.out.only (((Only.refl [w.heap.size+1] w').setCell (by simp) _).setCell (by simp) _ |>.setCell (by simp) _) (by simp; omega) (by simp; omega)
theorem do_cas (w:World) (b s:Nat) (m:MS) (i x y:Int) (hm:IsMem w b s m) :
 Calls Tryz.prog 73 #[.pointer (some ⟨b,0,none⟩),.agg #[.int .i64 3,.int .i64 i,.int .u64 x,.int .u64 y]] w fun e w'=>e=.returned (.agg #[.int .u64 0,.bool (m.cas i x y).2.1,.int .i64 (m.cas i x y).2.2])∧Only [b,s] w w'∧IsMem w' b s (m.cas i x y).1:=by
 have hmm:=@run_makeMap Tryz.prog;have H2:=hid (two_new w 169 166 #[.int .i64 3,.int .i64 i,.int .u64 x,.int .u64 y] #[.int .u64 0,.bool false,.int .i64 0]);have i1:=ins1 ((w.alloc (.cells #[.int .i64 3,.int .i64 i,.int .u64 x,.int .u64 y] 169)).alloc (.cells #[.int .u64 0,.bool false,.int .i64 0] 166)) (w.heap.size+1+1) (by simp);have i2:=ins2 ((w.alloc (.cells #[.int .i64 3,.int .i64 i,.int .u64 x,.int .u64 y] 169)).alloc (.cells #[.int .u64 0,.bool false,.int .i64 0] 166)) (w.heap.size+1+1) (by simp);have i3:=ins3 ((w.alloc (.cells #[.int .i64 3,.int .i64 i,.int .u64 x,.int .u64 y] 169)).alloc (.cells #[.int .u64 0,.bool false,.int .i64 0] 166)) (w.heap.size+1+1) (by simp);have i4:=ins4 ((w.alloc (.cells #[.int .i64 3,.int .i64 i,.int .u64 x,.int .u64 y] 169)).alloc (.cells #[.int .u64 0,.bool false,.int .i64 0] 166)) (w.heap.size+1+1) (by simp);have lk:=look4 ((w.alloc (.cells #[.int .i64 3,.int .i64 i,.int .u64 x,.int .u64 y] 169)).alloc (.cells #[.int .u64 0,.bool false,.int .i64 0] 166)) (w.heap.size+1+1) (by simp) 3 2 (.func (.func 110) #[] #[]) rfl;have HM:=hid hm;clear hm;go_enter Tryz.func73,Tryz.ntmps73;go_wp2_with fail;have ho1:=H2.out.1.alloc (.map doM4 4);refine (docas_any _ b s m _ i x y (HM.out.only ho1 (by simp) (by simp))).mono ?_;rintro e w' ⟨rfl,ho,hm'⟩;have hlt:=HM.out.lt;have hr:=(H2.out.2.2.alloc (.map doM4 4)).only ho (by simp; omega);have q0:=hr.at 0 rfl;have q1:=hr.at 1 rfl;have q2:=hr.at 2 rfl;have f0:=hr.frozen 0;have f1:=hr.frozen 1;have f2:=hr.frozen 2;have HO:=hid ho;have HO1:=hid ho1;have HM':=hid hm';clear hr ho ho1 hm' hmm i1 i2 i3 i4 lk;go_wp2;refine bodyPost_ret (v:=.agg #[.int .u64 0,.bool (m.cas i x y).2.1,.int .i64 (m.cas i x y).2.2]) (by simp [results,Tryz.results73,go_sem,q0,q1,q2]) rfl ⟨rfl,?_,?_⟩
 ·exact ((((HO1.out.sub (by simp)).trans HO.out).setCell (.inr (Nat.le_succ _)) _).setCell (.inr (Nat.le_succ _)) _).setCell (.inr (Nat.le_succ _)) _
 ·exact HM'.out.only (((Only.refl [w.heap.size+1] w').setCell (by simp) _).setCell (by simp) _ |>.setCell (by simp) _) (by simp; omega) (by simp; omega)
theorem do_add (w:World) (b s:Nat) (m:MS) (i x y:Int) (hm:IsMem w b s m) :
 Calls Tryz.prog 73 #[.pointer (some ⟨b,0,none⟩),.agg #[.int .i64 4,.int .i64 i,.int .u64 x,.int .u64 y]] w fun e w'=>e=.returned (.agg #[.int .u64 (m.add i x).2.1,.bool false,.int .i64 (m.add i x).2.2])∧Only [b,s] w w'∧IsMem w' b s (m.add i x).1:=by
 have hmm:=@run_makeMap Tryz.prog;have H2:=hid (two_new w 169 166 #[.int .i64 4,.int .i64 i,.int .u64 x,.int .u64 y] #[.int .u64 0,.bool false,.int .i64 0]);have i1:=ins1 ((w.alloc (.cells #[.int .i64 4,.int .i64 i,.int .u64 x,.int .u64 y] 169)).alloc (.cells #[.int .u64 0,.bool false,.int .i64 0] 166)) (w.heap.size+1+1) (by simp);have i2:=ins2 ((w.alloc (.cells #[.int .i64 4,.int .i64 i,.int .u64 x,.int .u64 y] 169)).alloc (.cells #[.int .u64 0,.bool false,.int .i64 0] 166)) (w.heap.size+1+1) (by simp);have i3:=ins3 ((w.alloc (.cells #[.int .i64 4,.int .i64 i,.int .u64 x,.int .u64 y] 169)).alloc (.cells #[.int .u64 0,.bool false,.int .i64 0] 166)) (w.heap.size+1+1) (by simp);have i4:=ins4 ((w.alloc (.cells #[.int .i64 4,.int .i64 i,.int .u64 x,.int .u64 y] 169)).alloc (.cells #[.int .u64 0,.bool false,.int .i64 0] 166)) (w.heap.size+1+1) (by simp);have lk:=look4 ((w.alloc (.cells #[.int .i64 4,.int .i64 i,.int .u64 x,.int .u64 y] 169)).alloc (.cells #[.int .u64 0,.bool false,.int .i64 0] 166)) (w.heap.size+1+1) (by simp) 4 3 (.func (.func 111) #[] #[]) rfl;have HM:=hid hm;clear hm;go_enter Tryz.func73,Tryz.ntmps73;go_wp2_with fail;have ho1:=H2.out.1.alloc (.map doM4 4);refine (doadd_any _ b s m _ i x y (HM.out.only ho1 (by simp) (by simp))).mono ?_;rintro e w' ⟨rfl,ho,hm'⟩;have hlt:=HM.out.lt;have hr:=(H2.out.2.2.alloc (.map doM4 4)).only ho (by simp; omega);have q0:=hr.at 0 rfl;have q1:=hr.at 1 rfl;have q2:=hr.at 2 rfl;have f0:=hr.frozen 0;have f1:=hr.frozen 1;have f2:=hr.frozen 2;have HO:=hid ho;have HO1:=hid ho1;have HM':=hid hm';clear hr ho ho1 hm' hmm i1 i2 i3 i4 lk;go_wp2;refine bodyPost_ret (v:=.agg #[.int .u64 (m.add i x).2.1,.bool false,.int .i64 (m.add i x).2.2]) (by simp [results,Tryz.results73,go_sem,q0,q1,q2]) rfl ⟨rfl,?_,?_⟩
 ·exact ((((HO1.out.sub (by simp)).trans HO.out).setCell (.inr (Nat.le_succ _)) _).setCell (.inr (Nat.le_succ _)) _).setCell (.inr (Nat.le_succ _)) _
 ·exact HM'.out.only (((Only.refl [w.heap.size+1] w').setCell (by simp) _).setCell (by simp) _ |>.setCell (by simp) _) (by simp; omega) (by simp; omega)
theorem act1 (m:MS) (i a b:Int):m.act ⟨1,i,a,b⟩=((m.load i).1,⟨(m.load i).2.1,false,(m.load i).2.2⟩):=by simp [MS.act]
theorem act2 (m:MS) (i a b:Int):m.act ⟨2,i,a,b⟩=((m.store i a).1,⟨0,false,(m.store i a).2⟩):=by simp [MS.act]
theorem act3 (m:MS) (i a b:Int):m.act ⟨3,i,a,b⟩=((m.cas i a b).1,⟨0,(m.cas i a b).2.1,(m.cas i a b).2.2⟩):=by simp [MS.act]
theorem act4 (m:MS) (i a b:Int):m.act ⟨4,i,a,b⟩=((m.add i a).1,⟨(m.add i a).2.1,false,(m.add i a).2.2⟩):=by simp [MS.act]
theorem act0 (m:MS) (k i a b:Int) (h1:k≠1) (h2:k≠2) (h3:k≠3) (h4:k≠4):m.act ⟨k,i,a,b⟩=(m,⟨0,false,1⟩):=by simp [MS.act,h1,h2,h3,h4]
theorem do_any (w:World) (b s:Nat) (m:MS) (x:Act') (hm:IsMem w b s m) :
 Calls Tryz.prog 73 #[.pointer (some ⟨b,0,none⟩),x.val] w fun e w'=>e=.returned (m.act x).2.val∧Only [b,s] w w'∧IsMem w' b s (m.act x).1:=by
 obtain ⟨k,i,a,b'⟩:=x;by_cases h1:k=1
 ·subst h1; rw [act1]; exact do_load w b s m i a b' hm
 by_cases h2:k=2
 ·subst h2; rw [act2]; exact do_store w b s m i a b' hm
 by_cases h3:k=3
 ·subst h3; rw [act3]; exact do_cas w b s m i a b' hm
 by_cases h4:k=4
 ·subst h4; rw [act4]; exact do_add w b s m i a b' hm
 rw [act0 m k i a b' h1 h2 h3 h4];exact (do_other w _ k i a b' h1 h2 h3 h4).mono fun e w' ⟨he,ho⟩=>⟨he,ho.sub (by simp),hm.only ho (by simp) (by simp)⟩
end Go.Proofs.YtadgpnoealegiaaGreat
