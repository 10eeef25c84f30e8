import Derived.Test.YtadgpnoealegiaaGreatP01
import Derived.Laws.BitsAllLaws
import Derived.Laws.Bits64b
import Derived.Laws.AppendOwn
import Derived.Deep.RegionHeld3
import Derived.Deep.CutRange
namespace Go.Proofs.YtadgpnoealegiaaGreat
open Go.RowKit
open Go.Lib (hid)
set_option maxRecDepth 100000
set_option maxHeartbeats 20000000
theorem fits_any (w:World) (low size:Int):Calls Tryz.prog 157 #[.int .i64 low,.int .i64 size] w fun e w'=>e=.returned (.bool (decide (0≤low∧low < 64∧1≤size∧size≤64 - low)))∧w=w':=by
 by_cases h1:0≤low
 ·by_cases h2:low < 64
  ·by_cases h3:1≤size
   ·by_cases h4:size≤64 - low
    ·rw [decide_eq_true ⟨h1,h2,h3,h4⟩];go_enter Tryz.func157,Tryz.ntmps157;go_wp2;go_ret;exact ⟨rfl,rfl⟩
    ·rw [decide_eq_false (fun h=>h4 h.2.2.2)];go_enter Tryz.func157,Tryz.ntmps157;go_wp2;go_ret;exact ⟨rfl,rfl⟩
   ·rw [decide_eq_false (fun h=>h3 h.2.2.1)];go_enter Tryz.func157,Tryz.ntmps157;go_wp2;go_ret;exact ⟨rfl,rfl⟩
  ·rw [decide_eq_false (fun h=>h2 h.2.1)];go_enter Tryz.func157,Tryz.ntmps157;go_wp2;go_ret;exact ⟨rfl,rfl⟩
 ·rw [decide_eq_false (fun h=>h1 h.1)];go_enter Tryz.func157,Tryz.ntmps157;go_wp2;go_ret;exact ⟨rfl,rfl⟩
theorem maskEq (low size:Nat) (h1:low < 64) (h3:size≤64 - low):IntKind.u64.wrap ((18446744073709551615:Int) / 2 ^ (64 - size) * 2 ^ low)=((2 ^ size - 1) * 2 ^ low:Nat):=by
 have e1:(18446744073709551615:Nat) / 2 ^ (64 - size)=2 ^ size - 1:=by
  have hp:2 ^ (64 - size) * 2 ^ size=18446744073709551616:=by rw [← Nat.pow_add,show 64 - size+size=64 by omega]
  have h0:0 < 2 ^ (64 - size):=Nat.two_pow_pos _;rw [show (18446744073709551615:Nat)=2 ^ (64 - size) * 2 ^ size - (0+1) by omega,Nat.mul_sub_div _ _ _ (by omega),Nat.zero_div]
 have e2:(2 ^ size - 1) * 2 ^ low < 18446744073709551616:=by
  have h4:2 ^ size * 2 ^ low≤18446744073709551616:=by
   have:=Nat.pow_le_pow_right (n:=2) (by decide) (show size+low≤64 by omega);rw [Nat.pow_add] at this;simpa using this
  have h5:0 < 2 ^ low:=Nat.two_pow_pos _;have h6:(2 ^ size - 1) * 2 ^ low+2 ^ low=2 ^ size * 2 ^ low:=by
   have h7:0 < 2 ^ size:=Nat.two_pow_pos _;rw [← Nat.succ_mul];congr 1;omega
  omega
 have e3:(18446744073709551615:Int) / 2 ^ (64 - size) * 2 ^ low=((2 ^ size - 1) * 2 ^ low:Nat):=by
  rw [← e1,Int.natCast_mul,Int.natCast_ediv,Int.natCast_pow,Int.natCast_pow];rfl
 rw [e3,IntKind.wrap_u64];omega
theorem mask_any (w:World) (low size:Nat) (h1:low < 64) (h2:1≤size) (h3:size≤64 - low):Calls Tryz.prog 196 #[.int .i64 low,.int .i64 size] w fun e w'=>e=.returned (.int .u64 (((2 ^ size - 1) * 2 ^ low:Nat):Int))∧w=w':=by
 have HE:=hid (maskEq low size h1 h3);go_enter Tryz.func196,Tryz.ntmps196;go_wp2_with fail;refine (fits_any _ low size).mono ?_;rintro e w1 ⟨rfl,rfl⟩;rw [decide_eq_true (by omega)];go_wp2_with fail;go_ret;exact ⟨by rw [← HE.out]; rfl,rfl⟩
theorem and_mask (a low size:Nat):(a &&& ((2 ^ size - 1) * 2 ^ low)) / 2 ^ low=a / 2 ^ low % 2 ^ size:=by
 rw [← Nat.shiftRight_eq_div_pow,Nat.shiftRight_and_distrib,Nat.shiftRight_eq_div_pow,Nat.shiftRight_eq_div_pow,Nat.mul_div_cancel _ (Nat.two_pow_pos _),Nat.and_two_pow_sub_one_eq_mod]
theorem mask_lt (low size:Nat) (h1:low < 64) (h3:size≤64 - low):(2 ^ size - 1) * 2 ^ low < 18446744073709551616:=by
 have h:=maskEq low size h1 h3;have:=(show IntKind.u64.wrap ((18446744073709551615:Int) / 2 ^ (64 - size) * 2 ^ low) < 18446744073709551616 by rw [IntKind.wrap_u64]; omega);rw [h] at this;omega
theorem get_any (w:World) (a low size:Nat) (x1:a < 18446744073709551616) (h1:low < 64) (h2:1≤size) (h3:size≤64 - low):Calls Tryz.prog 158 #[.int .u64 a,.int .i64 low,.int .i64 size] w fun e w'=>e=.returned (.int .u64 ((a / 2 ^ low % 2 ^ size:Nat):Int))∧w=w':=by
 obtain ⟨k,hk⟩:∃ k:Nat,(2 ^ size - 1) * 2 ^ low=k:=⟨_,rfl⟩;have hb:=bits_and_u64_nat a k x1 (by rw [← hk]; exact mask_lt low size h1 h3);have HR:=hid (show (a &&& k) / 2 ^ low=a / 2 ^ low % 2 ^ size by rw [← hk]; exact and_mask a low size);have HM:=hid hk;clear hk;go_enter Tryz.func158,Tryz.ntmps158;go_wp2_with fail;refine (mask_any _ low size h1 h2 h3).mono ?_;rintro e w1 ⟨rfl,rfl⟩;rw [HM.out];by_cases hl:0 < low
 ·have hli:(0:Int) < low:=by omega
  go_wp2_with fail;go_ret;exact ⟨by rw [← HR.out]; simp,rfl⟩
 ·have hli:¬ (0:Int) < low:=by omega
  go_wp2_with fail;go_ret;obtain rfl:low=0:=by omega
  exact ⟨by rw [← HR.out]; simp,rfl⟩
theorem keep_low (a low size:Nat) (ha:a < 2 ^ low) (h1:low < 64) (h3:size≤64 - low):a &&& (18446744073709551615 - (2 ^ size - 1) * 2 ^ low)=a:=by
 have hm:=mask_lt low size h1 h3;apply Nat.eq_of_testBit_eq;intro i;have hb:=Nat.testBit_two_pow_sub_succ (n:=64) (x:=(2 ^ size - 1) * 2 ^ low) (by simpa using hm) i;rw [show (2:Nat) ^ 64 - ((2 ^ size - 1) * 2 ^ low+1)=18446744073709551615 - (2 ^ size - 1) * 2 ^ low by omega] at hb;rw [Nat.testBit_and,hb];by_cases hi:low≤i
 ·have:a.testBit i=false:=Nat.testBit_lt_two_pow (Nat.lt_of_lt_of_le ha (Nat.pow_le_pow_right (by decide) hi));simp [this]
 ·simp [Nat.testBit_mul_two_pow,hi,show i < 64 by omega]
theorem shl_mask (v low size:Nat) (h1:low < 64) (h3:size≤64 - low):(v * 2 ^ low % 18446744073709551616) &&& ((2 ^ size - 1) * 2 ^ low)=v % 2 ^ size * 2 ^ low:=by
 apply Nat.eq_of_testBit_eq;intro i;rw [show (18446744073709551616:Nat)=2 ^ 64 by rfl,Nat.testBit_and,Nat.testBit_mod_two_pow,Nat.testBit_mul_two_pow,Nat.testBit_mul_two_pow,Nat.testBit_mul_two_pow,Nat.testBit_mod_two_pow,Nat.testBit_two_pow_sub_one];by_cases hi:low≤i
 ·by_cases hs:i - low < size
  ·simp [hi,hs,show i < 64 by omega]
  ·simp [hs]
 ·simp [hi]
theorem put_nat (a v low size:Nat) (ha:a < 2 ^ low) (h1:low < 64) (h3:size≤64 - low):(a &&& (18446744073709551615 - (2 ^ size - 1) * 2 ^ low)) ||| ((v * 2 ^ low % 18446744073709551616) &&& ((2 ^ size - 1) * 2 ^ low))=a+v % 2 ^ size * 2 ^ low:=by
 rw [keep_low a low size ha h1 h3,shl_mask v low size h1 h3,Nat.mul_comm (v % 2 ^ size),Nat.or_comm,← Nat.two_pow_add_eq_or_of_lt ha,Nat.add_comm]
theorem shl_eq (v low:Nat):IntKind.u64.wrap ((v:Int) * 2 ^ low)=((v * 2 ^ low % 18446744073709551616:Nat):Int):=by
 rw [IntKind.wrap_u64,Int.natCast_emod,Int.natCast_mul,Int.natCast_pow];rfl
theorem put_any (w:World) (a v low size:Nat) (ha:a < 2 ^ low) (h1:low < 64) (h2:1≤size) (h3:size≤64 - low):Calls Tryz.prog 217 #[.int .u64 a,.int .i64 low,.int .i64 size,.int .u64 v] w fun e w'=>e=.returned (.int .u64 ((a+v % 2 ^ size * 2 ^ low:Nat):Int))∧w=w':=by
 have hlow:2 ^ low≤18446744073709551616:=by
  have:=Nat.pow_le_pow_right (n:=2) (by decide) (show low≤64 by omega);simpa using this
 have hp:=put_nat a v low size ha h1 h3;have hm:=mask_lt low size h1 h3;have hk0:0 < (2 ^ size - 1) * 2 ^ low:=Nat.mul_pos (by have:=Nat.pow_le_pow_right (n:=2) (by decide) h2; omega) (Nat.two_pow_pos _);have hsh:=shl_eq v low;obtain ⟨k,hk⟩:∃ k:Nat,(2 ^ size - 1) * 2 ^ low=k:=⟨_,rfl⟩;rw [hk] at hp hm hk0;obtain ⟨c,hc⟩:∃ c:Nat,v * 2 ^ low % 18446744073709551616=c:=⟨_,rfl⟩;rw [hc] at hp hsh;have hcl:c < 18446744073709551616:=by omega
 have b1:=u64_andNot_nat a k (by omega) hm;have b2:=bits_and_u64_nat c k hcl hm;have b3:=bits_or_u64_nat (a &&& (18446744073709551615 - k)) (c &&& k) (by have:=Nat.and_le_left (n:=a) (m:=18446744073709551615 - k); omega) (by have:=Nat.and_le_left (n:=c) (m:=k); omega);rw [hp] at b3;have hkn:((k:Int) == 0)=false:=by simp; omega
 have HM:=hid hk;clear hp hk hc hm hcl ha;go_enter Tryz.func217,Tryz.ntmps217;go_wp2_with fail;refine (mask_any _ low size h1 h2 h3).mono ?_;rintro e w1 ⟨rfl,rfl⟩;rw [HM.out];go_wp2_with fail;go_ret;exact ⟨by simp,rfl⟩
def packN : List (Nat×Nat)→Nat→Nat→Nat
 | [],_,acc=>acc
 | (v,s) :: l,low,acc=>packN l (low+s) (acc+v % 2 ^ s * 2 ^ low)
def fitN : List (Nat×Nat)→Nat→Prop
 | [],_=>True
 | (v,s) :: l,low=>v < 18446744073709551616∧1≤s∧low < 64∧s≤64 - low∧fitN l (low+s)
theorem acc_lt {a v s low:Nat} (h:a < 2 ^ low):a+v % 2 ^ s * 2 ^ low < 2 ^ (low+s):=by
 have h1:v % 2 ^ s+1≤2 ^ s:=Nat.mod_lt _ (Nat.two_pow_pos _);have h2:=Nat.mul_le_mul_right (2 ^ low) h1;rw [Nat.add_mul,Nat.one_mul] at h2;rw [Nat.pow_add,Nat.mul_comm (2 ^ low)];omega
theorem pack_any (w:World) (g n:Nat) (ps:List (Nat×Nat)) (hn:ps.length=n) (hn2:n≤100) (hg:g < w.heap.size) (hc:∀ j v s:Nat,ps[j]?=some (v,s)→w.cell? ⟨g,j * 2,none⟩=some (.int .u64 v)∧w.cell? ⟨g,j * 2+1,none⟩=some (.int .i64 s)) (hf:fitN ps 0) :
 Calls Tryz.prog 214 #[.slice (some ⟨g,0,none⟩) n n] w fun e w'=>e=.returned (.int .u64 (packN ps 0 0:Nat))∧Only [] w w':=by
 obtain ⟨R,hR⟩:∃ R,packN ps 0 0=R:=⟨_,rfl⟩;rw [hR];have HR:=hid hR;have HC:=hid hc;have HF:=hid hf;clear hR hc hf;go_enter Tryz.func214,Tryz.ntmps214;go_wp2_with fail
 go_loopw [3,4,9] (fun x y i wr=>∃ (j low acc:Nat),j≤n∧i=.int .i64 j∧y=.int .i64 low∧x=.int .u64 acc∧Only [] w wr∧packN (ps.drop j) low acc=R∧fitN (ps.drop j) low∧acc < 2 ^ low) (fun _ _ i _=>n - (intOf i).toNat)
 case atStart=>exact ⟨0,0,0,by omega,rfl,rfl,rfl,Only.refl _ _,HR.out,HF.out,by decide⟩
 case round=>
  clear HR HF;obtain ⟨wo,hwo⟩:∃ wo,wo=wr:=⟨_,rfl⟩;subst hwo;obtain ⟨j,low,acc,hj,rfl,rfl,rfl,ho,hp,hf,ha⟩:=hrel;by_cases hlt:j < n
  ·have hlti:(j:Int) < n:=by omega
   obtain ⟨p,hps⟩:∃ p,ps[j]?=some p:=⟨ps[j]'(by omega),by simp [show j < ps.length by omega]⟩;obtain ⟨v,s⟩:=p;have hd:ps.drop j=(v,s) :: ps.drop (j+1):=by
    rw [List.drop_eq_getElem_cons (by omega)];congr 1;have:=List.getElem?_eq_some_iff.1 hps;exact this.choose_spec
   rw [hd] at hp hf;obtain ⟨f1,f2,f3,f4,f5⟩:v < 18446744073709551616∧1≤s∧low < 64∧s≤64 - low∧fitN (ps.drop (j+1)) (low+s):=hf;obtain ⟨c0,c1⟩:=HC.out j v s hps;have d0:=(ho.cell (p:=⟨g,j * 2,none⟩) hg (by simp)).trans c0;have d1:=(ho.cell (p:=⟨g,j * 2+1,none⟩) hg (by simp)).trans c1;have HO:=hid ho;have HP:=hid (show packN (ps.drop (j+1)) (low+s) (acc+v % 2 ^ s * 2 ^ low)=R from hp);have HF:=hid f5;have HA:=hid ha;clear hp f5 ho hd hps c0 c1 ha;go_wp2_with fail;refine (fits_any _ low s).mono ?_;rintro e w1 ⟨rfl,rfl⟩;rw [decide_eq_true (by omega)];go_wp2_with fail;refine (put_any _ acc v low s HA.out f3 f2 f4).mono ?_;rintro e w1 ⟨rfl,rfl⟩;go_wp2_with fail;exact ⟨⟨j+1,low+s,acc+v % 2 ^ s * 2 ^ low,by omega,by go_num,by go_num,rfl,HO.out.alloc _,HP.out,HF.out,acc_lt HA.out⟩,by simp [intOf]; omega⟩
  ·have hlti:¬ (j:Int) < n:=by omega
   rw [List.drop_eq_nil_of_le (by omega)] at hp;have HO:=hid ho;have HP:=hid (show acc=R from hp);clear hp hf ho ha;go_wp2_with fail;go_ret;exact ⟨by rw [HP.out]; rfl,HO.out⟩
theorem grown_only {a b:World} {row:Option Nat} (hg:a.grownBy b row):Only row.toList a b:=
 ⟨hg.os,hg.tape,hg.output,hg.size,fun k hk hn=>hg.block k hk (fun e=>hn (by rw [← e]; simp))⟩
theorem row_form {w:World} {base e sz:Nat} {v:Value} {n:Nat} {xs:List Value} (h:w.ownsRow base e sz v n xs):∃ A cap,v=.slice A n cap:=by
 rcases h.2 with ⟨rfl,rfl⟩ | ⟨g,cap,cur,rfl,_⟩
 ·exact ⟨_,_,rfl⟩
 ·exact ⟨_,_,rfl⟩
theorem row_cells {w:World} {base e sz:Nat} {v:Value} {n:Nat} {xs:List Value} (h:w.ownsRow base e sz v n xs) (hn:0 < n) :
 ∃ g cap cur,v=.slice (some ⟨g,0,none⟩) n cap∧base≤g∧Blk w g e cur∧∀ k,k < n * sz→cur[k]?=xs[k]?:=by
 rcases h.2 with ⟨_,h0⟩ | ⟨g,cap,cur,hv,hg,hh,_,_,_,ht⟩
 ·omega
 ·refine ⟨g,cap,cur,hv,hg,hh,fun k hk=>?_⟩;rw [← ht,List.getElem?_take_of_lt (by omega)];simp
def ext {α:Type} (B:Nat→α) (n:Nat) (b:α):Nat→α:=fun j=>if j=n then b else B j
theorem ext_same {α:Type} (B:Nat→α) (n:Nat) (b:α):ext B n b n=b:=by unfold ext; rw [if_pos rfl]
theorem ext_far {α:Type} (B:Nat→α) (n j:Nat) (b:α) (h:j≠n):ext B n b j=B j:=by unfold ext; rw [if_neg h]
def ptrs (B:Nat→Nat) (N:Nat):List Value:=(List.range N).map fun k=>Value.pointer (some ⟨B k,0,none⟩)
theorem ptrs_ext (B:Nat→Nat) (n b:Nat):ptrs B n ++ [.pointer (some ⟨b,0,none⟩)]=ptrs (ext B n b) (n+1):=by
 unfold ptrs;rw [List.range_succ,List.map_append];congr 1
 ·refine List.map_congr_left fun j hj=>?_;rw [ext_far _ _ _ _ (by have:=List.mem_range.1 hj; omega)]
 ·simp [ext_same]
theorem row_block {w:World} {b0 e n:Nat} {sl:Value} {xs:List Value} (h:w.ownsRow b0 e 1 sl n xs):∀ x ∈ sl.ownBlock.toList,b0≤x∧∃ cs,Blk w x e cs:=fun x hx=>by
 rcases h.2 with ⟨rfl,_⟩ | ⟨g,cap,cur,rfl,hb,hh,_⟩
 ·simp [Value.ownBlock] at hx
 ·simp [Value.ownBlock] at hx;subst hx;exact ⟨hb,cur,hh⟩
theorem row_rest {w w':World} {base e sz:Nat} {v:Value} {n:Nat} {xs:List Value} {S:List Nat} (h:w.ownsRow base e sz v n xs) (o:Only S w w') (hS:∀ x ∈ S,v.ownBlock≠some x):w'.ownsRow base e sz v n xs:=by
 refine ⟨h.1,?_⟩;rcases h.2 with h2 | ⟨g,cap,cur,rfl,hg,hh,r⟩
 ·exact .inl h2
 ·refine .inr ⟨g,cap,cur,rfl,hg,?_,r⟩;have hb:Blk w g e cur:=hh;exact hb.only o fun hm=>hS g hm rfl
theorem row_any {w:World} {b e sz n:Nat} {v:Value} {xs:List Value} (h:w.ownsRow b e sz v n xs):w.ownsRow 0 e sz v n xs∧∀ x,v.ownBlock=some x→b≤x:=by
 refine ⟨⟨h.1,?_⟩,fun x hx=>?_⟩
 ·rcases h.2 with h2 | ⟨g,cap,cur,rfl,_,r⟩
  ·exact .inl h2
  ·exact .inr ⟨g,cap,cur,rfl,Nat.zero_le _,r⟩
 ·rcases h.2 with ⟨rfl,_⟩ | ⟨g,cap,cur,rfl,hb,_⟩
  ·cases hx
  ·have:g=x:=by simpa [Value.ownBlock] using hx
   omega
structure Thing {σ:Type} (t:TypeId) (Is:World→Nat→σ→Prop):Prop where
 blk:∀ {w:World} {b:Nat} {s:σ},Is w b s→∃ cs,Blk w b t cs
 only:∀ {w w':World} {b:Nat} {s:σ} {T:List Nat},Is w b s→Only T w w'→b ∉ T→Is w' b s
structure Many {σ:Type} (e:TypeId) (Is:World→Nat→σ→Prop) (z:Nat) (wr:World) (sl:Value) (N:Nat) (B:Nat→Nat) (S:Nat→σ):Prop where
 row:wr.ownsRow 0 e 1 sl N (ptrs B N)
 inj:∀ i j,i < N→j < N→B i=B j→i=j
 lo:∀ j,j < N→z≤B j
 los:∀ x,sl.ownBlock=some x→z≤x
 is:∀ j,j < N→Is wr (B j) (S j)
section
variable {σ:Type} {e t:TypeId} {Is:World→Nat→σ→Prop} {z:Nat} {wr w1 w2 w':World} {sl sl':Value} {N:Nat} {B:Nat→Nat} {S:Nat→σ} {T:List Nat}
theorem Many.nil (e:TypeId) (Is:World→Nat→σ→Prop) (z:Nat) (w:World) (B:Nat→Nat) (S:Nat→σ):Many e Is z w (.slice none 0 0) 0 B S:=
 ⟨World.ownsRow_nil _ _ _ _,fun _ _ h=>absurd h (by omega),fun _ h=>absurd h (by omega),fun x hx=>(by cases hx),fun _ h=>absurd h (by omega)⟩
theorem Many.form (h:Many e Is z wr sl N B S):∃ A cap,sl=.slice A N cap:=row_form h.row
theorem Many.row_ne (h:Many e Is z wr sl N B S) {x:Nat} {t':TypeId} {cs:Array Value} (hb:Blk wr x t' cs) (ht:t'≠e):sl.ownBlock≠some x:=fun hx=>by
 obtain ⟨_,cs',hb'⟩:=row_block h.row x (by rw [hx]; simp);exact ht (Blk.inj hb hb').1
theorem Many.cell {A:Option Addr} {cap:Nat} (h:Many e Is z wr (.slice A N cap) N B S) {k:Nat} (hk:k < N):∃ g,A=some ⟨g,0,none⟩∧wr.cell? ⟨g,k,none⟩=some (.pointer (some ⟨B k,0,none⟩)):=by
 obtain ⟨g',cap',cur,e,_,hb,hc⟩:=row_cells h.row (by omega);simp only [Value.slice.injEq] at e;obtain ⟨rfl,_⟩:=e;refine ⟨g',rfl,hb.at k ?_⟩;rw [hc k (by omega)];simp [ptrs,hk]
theorem Many.step (th:Thing t Is) (h:Many e Is z wr sl N B S) (hte:t≠e) {k:Nat} (hk:k < N) (o:Only T wr w') (hT:∀ x ∈ T,x=B k∨∃ t' cs,Blk wr x t' cs∧t'≠e∧t'≠t) {s':σ} (hs:Is w' (B k) s'):Many e Is z w' sl N B (ext S k s'):=by
 refine ⟨row_rest h.row o fun x hx=>?_,h.inj,h.lo,h.los,fun j hj=>?_⟩
 ·rcases hT x hx with rfl | ⟨t',cs,hb,h1,_⟩
  ·obtain ⟨cs,hb⟩:=th.blk (h.is k hk);exact h.row_ne hb hte
  ·exact h.row_ne hb h1
 ·by_cases e1:j=k
  ·rw [e1,ext_same]; exact hs
  ·rw [ext_far _ _ _ _ e1];refine th.only (h.is j hj) o fun hx=>?_;rcases hT _ hx with e2 | ⟨t',cs,hb,_,h1⟩
   ·exact e1 (h.inj j k hj hk e2)
   ·obtain ⟨cs',hb'⟩:=th.blk (h.is j hj);exact h1 (Blk.inj hb hb').1
theorem Many.other (th:Thing t Is) (h:Many e Is z wr sl N B S) (o:Only T wr w') (hT:∀ x ∈ T,∃ t' cs,Blk wr x t' cs∧t'≠e∧t'≠t):Many e Is z w' sl N B S:=by
 refine ⟨row_rest h.row o fun x hx=>?_,h.inj,h.lo,h.los,fun j hj=>?_⟩
 ·obtain ⟨t',cs,hb,h1,_⟩:=hT x hx;exact h.row_ne hb h1
 ·refine th.only (h.is j hj) o fun hx=>?_;obtain ⟨t',cs,hb,_,h1⟩:=hT _ hx;obtain ⟨cs',hb'⟩:=th.blk (h.is j hj);exact h1 (Blk.inj hb hb').1
theorem Many.quiet (th:Thing t Is) (h:Many e Is z wr sl N B S) (o:Only [] wr w'):Many e Is z w' sl N B S:=h.other th o (by simp)
theorem Many.add (th:Thing t Is) (h:Many e Is z wr sl N B S) (hte:t≠e) (o:Only [] wr w1) {b:Nat} {s:σ} (hs:Is w1 b s) (hb:wr.heap.size≤b) (hz:z≤wr.heap.size)
 (hown:w2.ownsRow z e 1 sl' (N+1) (ptrs B N ++ [.pointer (some ⟨b,0,none⟩)])) (hg:w1.grownBy w2 sl.ownBlock):Many e Is z w2 sl' (N+1) (ext B N b) (ext S N s):=by
 have h1:=h.quiet th o;have o2:=grown_only hg;rw [ptrs_ext] at hown;obtain ⟨r1,r2⟩:=row_any hown;have far:∀ {x:Nat} {s:σ},Is w1 x s→Is w2 x s:=fun hx=>th.only hx o2 fun hm=>by
  obtain ⟨_,cs,hb1⟩:=row_block h1.row _ hm;obtain ⟨cs',hb2⟩:=th.blk hx;exact hte (Blk.inj hb2 hb1).1
 have lt:∀ j,j < N→B j < wr.heap.size:=fun j hj=>by
  obtain ⟨cs,hb⟩:=th.blk (h.is j hj);exact hb.lt
 refine ⟨r1,fun i j hi hj e=>?_,fun j hj=>?_,r2,fun j hj=>?_⟩
 ·by_cases e1:i=N <;> by_cases e2:j=N
  ·omega
  ·rw [e1,ext_same,ext_far _ _ _ _ e2] at e;have:=lt j (by omega);omega
  ·rw [e2,ext_same,ext_far _ _ _ _ e1] at e;have:=lt i (by omega);omega
  ·rw [ext_far _ _ _ _ e1,ext_far _ _ _ _ e2] at e;exact h.inj i j (by omega) (by omega) e
 ·by_cases e1:j=N
  ·rw [e1,ext_same]; omega
  ·rw [ext_far _ _ _ _ e1]; exact h.lo j (by omega)
 ·by_cases e1:j=N
  ·rw [e1,ext_same,ext_same]; exact far hs
  ·rw [ext_far _ _ _ _ e1,ext_far _ _ _ _ e1]; exact far (h1.is j (by omega))
end
theorem one_new (w:World) (x:Value) (t:TypeId):∀ j u,[x][j]?=some u→(w.alloc (.cells #[x] t)).cell? ((⟨w.heap.size,0,none⟩:Addr).add j)=some u:=by
 intro j u hj
 match j,hj with
 | 0,hj=>simp at hj; subst hj; simp [Addr.add]
def splitN (x:Nat):List Nat→Nat→List Int
 | [],_=>[]
 | s :: l,low=>((x / 2 ^ low % 2 ^ s:Nat):Int) :: splitN x l (low+s)
def fitS : List Nat→Nat→Prop
 | [],_=>True
 | s :: l,low=>1≤s∧low < 64∧s≤64 - low∧fitS l (low+s)
theorem split_any (w:World) (x g n:Nat) (ss:List Nat) (hx:x < 18446744073709551616) (hn:ss.length=n) (hn2:n≤100) (hg:g < w.heap.size) (hc:∀ j s:Nat,ss[j]?=some s→w.cell? ⟨g,j,none⟩=some (.int .i64 s)) (hf:fitS ss 0) :
 Calls Tryz.prog 112 #[.int .u64 x,.slice (some ⟨g,0,none⟩) n n] w fun e w'=>∃ v,e=.returned v∧Only [] w w'∧w'.ownsRow w.heap.size 28 1 v n ((splitN x ss 0).map (Value.int .u64)):=by
 obtain ⟨i0,hi,hz0,hz1,hz2⟩:=info_parts Tryz.info28;have HI0:=hid (And.intro hi (And.intro hz0 (And.intro hz1 hz2)));clear hi hz0 hz1 hz2;obtain ⟨R,hR⟩:∃ R,splitN x ss 0=R:=⟨_,rfl⟩;rw [hR];have HR:=hid hR;have HC:=hid hc;have HF:=hid hf;have HG:=hid hg;clear hR hc hf;go_enter Tryz.func112,Tryz.ntmps112;go_wp2_with fail
 go_loopw [5,6,11] (fun v y i wr=>∃ (j low:Nat) (L:List Int),j≤n∧i=.int .i64 j∧y=.int .i64 low∧Only [] w wr∧wr.ownsRow w.heap.size 28 1 v j (L.map (Value.int .u64))∧L ++ splitN x (ss.drop j) low=R∧fitS (ss.drop j) low) (fun _ _ i _=>n - (intOf i).toNat)
 case atStart=>exact ⟨0,0,[],by omega,rfl,rfl,Only.refl _ _,World.ownsRow_nil _ _ _ _,HR.out,HF.out⟩
 case round=>
  clear HR HF;obtain ⟨wo,hwo⟩:∃ wo,wo=wr:=⟨_,rfl⟩;subst hwo;obtain ⟨j,low,L,hj,rfl,rfl,ho,hrow,hp,hf⟩:=hrel;by_cases hlt:j < n
  ·have hlti:(j:Int) < n:=by omega
   obtain ⟨s,hps⟩:∃ s,ss[j]?=some s:=⟨ss[j]'(by omega),by simp [show j < ss.length by omega]⟩;have hd:ss.drop j=s :: ss.drop (j+1):=by
    rw [List.drop_eq_getElem_cons (by omega)];congr 1;have:=List.getElem?_eq_some_iff.1 hps;exact this.choose_spec
   rw [hd] at hp hf;obtain ⟨f2,f3,f4,f5⟩:1≤s∧low < 64∧s≤64 - low∧fitS (ss.drop (j+1)) (low+s):=hf;have d0:=(ho.cell (p:=⟨g,j,none⟩) hg (by simp)).trans (HC.out j s hps);obtain ⟨z,hz⟩:∃ z:Nat,x / 2 ^ low % 2 ^ s=z:=⟨_,rfl⟩;have HO:=hid ho;have HP:=hid (show (L ++ [(z:Int)]) ++ splitN x (ss.drop (j+1)) (low+s)=R from by rw [← hp,← hz,List.append_assoc]; rfl);have HF:=hid f5;have HZ:=hid hz;have HRW:=hid (row_rest hrow ((Only.refl [] wo).alloc (.cells #[.int .u64 z] 28)) (by simp));clear hp f5 ho hd hps hrow hz;go_wp2_with fail;refine (fits_any _ low s).mono ?_;rintro e w1 ⟨rfl,rfl⟩;rw [decide_eq_true (by omega)];go_wp2_with fail;refine (get_any _ x low s hx f3 f2 f4).mono ?_;rintro e w1 ⟨rfl,rfl⟩;rw [HZ.out];obtain ⟨hi,hz0,hz1,hz2⟩:=HI0.out;go_wp2_with (at_builtin; refine wpList_append_own _ rfl (.tmp 19) (.tmp 24) 33 rfl w.heap.size 28 i0 (.int .u64 0) 1 8 Tryz.underlying33 hi hz0 hz1 hz2 rfl (by decide) _ j _ rfl HRW.out ⟨wo.heap.size,0,none⟩ 1 1 [.int .u64 z] rfl rfl ?hn ?h1 ?h63 ?hb ?hbase ?_)
   case hn=>intro j u hj; match j,hj with | 0,hj=>simp at hj; subst hj; simp [Addr.add]
   case h1=>intro u hu; simp at hu; subst hu; rfl
   case h63=>unfold maxLen; omega
   case hb=>omega
   case hbase=>have:=HO.out.size; simp; omega
   intro v' w4 hown hg2 _;have HO4:=hid (Only.then (HO.out.alloc (.cells #[.int .u64 z] 28)) (grown_only hg2) (fun q hq=>.inr (by
    rcases HRW.out.2 with ⟨e1,_⟩ | ⟨g',cap,cur,e1,hb,_⟩
    ·rw [e1] at hq; simp [Value.ownBlock] at hq
    ·rw [e1] at hq; simp [Value.ownBlock] at hq; omega)))
   have HX:=hid (show w4.ownsRow w.heap.size 28 1 v' (j+1) ((L ++ [(z:Int)]).map (Value.int .u64)) from by rw [List.map_append]; exact hown);clear hown hg2 hi hz0 hz1 hz2 HRW d0;go_wp2_with fail;exact ⟨⟨j+1,low+s,L ++ [(z:Int)],by omega,by go_num,by go_num,HO4.out,HX.out,HP.out,HF.out⟩,by simp [intOf]; omega⟩
  ·have hlti:¬ (j:Int) < n:=by omega
   obtain rfl:j=n:=by omega
   rw [List.drop_eq_nil_of_le (by omega)] at hp;have HO:=hid ho;have HP:=hid (show L=R by simpa [splitN] using hp);have HX:=hid hrow;clear hp hf ho hrow;go_wp2_with fail;go_ret;exact ⟨_,rfl,HO.out,by rw [← HP.out]; exact HX.out⟩
structure D where
 k:Int
 o:Int
 r:Int
 e:Int
deriving DecidableEq
abbrev zD : D:=⟨0,0,0,0⟩
def D.val (d:D):Value:=.agg #[.int .i64 d.k,.int .i64 d.o,.int .i64 d.r,.int .i64 d.e]
structure D.wf (d:D):Prop where
 e0:d.e=0
 r0:0≤d.r
 r1:d.r≤65535
 o0:0≤d.o
 o1:d.o≤16
 k:(d.k=0∧d.o=0∧d.r=0)∨(d.k=3∧1≤d.o)∨(d.k=4∧1≤d.o)∨(d.k=5∧d.r=0)
def kindOk (k:Int):Prop:=k=0∨k=3∨k=4∨k=5
def toOk (k o:Int):Prop:=(k=0∧o=0)∨(k=3∧1≤o∧o≤16)∨(k=4∧1≤o∧o≤16)∨k=5
def leadsN (k:Int):List Int:=if k=0 then [1,2,3,4] else if k=1 then [0,2,3,4] else if k=2 then [5,0] else if k=3 then [5,0] else if k=4 then [5,0,4] else [0]
def canN (a b:Int):Bool:=(leadsN a).contains b
def nextD (d:D) (k o:Int):D×Int:=
 if 0 < d.r then (zD,9) else if canN d.k k=true then (⟨k,if k=5 then d.o else o,0,0⟩,0) else (zD,6)
def refD (d:D) (b:Int):D×Int:=
 if d.k=3∨d.k=4 then (if b > 65535 - d.r∨b < -d.r then (zD,2) else (⟨d.k,d.o,d.r+b,d.e⟩,0)) else (zD,6)
theorem D.wf.kind {d:D} (h:d.wf):kindOk d.k:=by
 unfold kindOk;have:=h.k;omega
theorem zD_wf : zD.wf:=⟨rfl,by decide,by decide,by decide,by decide,.inl ⟨rfl,rfl,rfl⟩⟩
theorem nextD_wf {d:D} {k o:Int} (h:d.wf) (ho:toOk k o):(nextD d k o).1.wf:=by
 have hk:=h.k;have:=h.o0;have:=h.o1;unfold nextD;split
 ·exact zD_wf
 ·split
  ·rename_i h1 h2;rcases ho with ⟨rfl,rfl⟩ | ⟨rfl,h3,h4⟩ | ⟨rfl,h3,h4⟩ | rfl
   ·exact ⟨rfl,by simp,by simp,by simp,by simp,.inl ⟨rfl,by simp,rfl⟩⟩
   ·exact ⟨rfl,by simp,by simp,by simp; omega,by simpa using h4,.inr (.inl ⟨rfl,by simpa using h3⟩)⟩
   ·exact ⟨rfl,by simp,by simp,by simp; omega,by simpa using h4,.inr (.inr (.inl ⟨rfl,by simpa using h3⟩))⟩
   ·exact ⟨rfl,by simp,by simp,by simpa using h.o0,by simpa using h.o1,.inr (.inr (.inr ⟨rfl,rfl⟩))⟩
  ·exact zD_wf
theorem refD_wf {d:D} {b:Int} (h:d.wf):(refD d b).1.wf:=by
 have hk:=h.k;unfold refD;split
 ·split
  ·exact zD_wf
  ·rename_i h1 h2;exact ⟨h.e0,by simp; omega,by simp; omega,h.o0,h.o1,by simp; omega⟩
 ·exact zD_wf
def dOf (ps:List D) (f:Int):D:=ps.getD f.toNat zD
def inP (ps:List D) (f:Int):Bool:=decide (0≤f∧f < ps.length)
def setP (ps:List D) (f:Int) (d:D):List D:=ps.set f.toNat d
def changeN (ps:List D) (f:Int) (tf:D→D×Int):List D×Int:=
 if inP ps f=true then (if (tf (dOf ps f)).2=0 then (setP ps f (tf (dOf ps f)).1,0) else (ps,(tf (dOf ps f)).2)) else (ps,2)
def turnN (ps:List D) (f k o:Int):List D×Int:=changeN ps f fun d=>nextD d k o
def refN (ps:List D) (f b:Int):List D×Int:=changeN ps f fun d=>refD d b
def suchTo (ps:List D) (is:D→Bool) (k:Nat):List Int:=((List.range k).filter fun (j:Nat)=>is (dOf ps j)).map fun (j:Nat)=>(j:Int)
def suchN (ps:List D) (is:D→Bool):List Int:=suchTo ps is ps.length
def freeN (ps:List D):List Int:=suchN ps fun d=>d.k == 0
def takeN (ps:List D) (k o:Int):List D×Int×Int:=
 match freeN ps with
 | []=>(ps,0,12)
 | f :: _=>(setP ps f ⟨k,o,0,0⟩,f,0)
structure PE where
 pr:Bool
 ri:Int
 la:Bool
 fr:Int
deriving DecidableEq
abbrev zE : PE:=⟨false,0,false,0⟩
def PE.val (e:PE):Value:=.agg #[.bool e.pr,.int .i64 e.ri,.bool e.la,.int .i64 e.fr]
def PE.right (e:PE):Bool:=if e.pr=true then decide (0≤e.ri∧e.ri≤7∧0≤e.fr∧e.fr < 4096∧(0 < e.ri∨e.la=false)) else decide (e.ri=0∧e.la=false∧e.fr=0)
def PE.table (e:PE):Bool:=decide (e.pr=true∧e.ri=0∧e.right=true)
def bitN (b:Bool):Nat:=if b=true then 1 else 0
def packE (e:PE):Int:=if e.right=true then ((bitN e.pr+e.ri.toNat % 8 * 2+bitN e.la * 16+e.fr.toNat % 4096 * 4096:Nat):Int) else 0
def rawE (n:Nat):PE:=⟨n % 2 == 1,((n / 2 % 8:Nat):Int),n / 16 % 2 == 1,((n / 4096 % 4096:Nat):Int)⟩
def okE (n:Nat):Bool:=decide (n / 32 % 128=0∧n / 16777216 % 1099511627776=0∧(rawE n).right=true)
def parseE (x:Int):PE:=if okE x.toNat=true then rawE x.toNat else zE
def indexN (page:Int) (level:Nat):Int:=((page.toNat / 16 ^ level % 16:Nat):Int)
def atN (f page:Int) (level:Nat):Int:=16 * f+indexN page level
def hasN (L:List Int) (i:Int):Bool:=decide (0≤i∧i < L.length)
def ld (L:List Int) (i:Int):Int:=if hasN L i=true then nth L i.toNat else 0
def st (L:List Int) (i v:Int):List Int:=if hasN L i=true then L.set i.toNat v else L
def eN (L:List Int) (i:Int):Int:=if hasN L i=true then 0 else 2
def entN (L:List Int) (w:Int):PE:=parseE (ld L w)
def layN (L:List Int) (w:Int) (e:PE):List Int:=st L w (packE e)
def leadsE (f:Int):PE:=⟨true,0,false,f⟩
def zeros (L:List Int) (f:Int):Nat→List Int
 | 0=>L
 | n+1=>st (zeros L f n) (16 * f+n) 0
structure Pl where
 f:Int
 l:Int
 w:Int
def Pl.val (x:Pl):Value:=.agg #[.int .i64 x.f,.int .i64 x.l,.int .i64 x.w]
def wayN (L:List Int) (page:Int):Nat→Int→List Pl
 | 0,f=>[⟨f,0,atN f page 0⟩]
 | l+1,f=>⟨f,(l+1:Nat),atN f page (l+1)⟩ :: (if (entN L (atN f page (l+1))).table=true then wayN L page l (entN L (atN f page (l+1))).fr else [])
def endN (L:List Int) (page:Int):Nat→Int→Pl
 | 0,f=>⟨f,0,atN f page 0⟩
 | l+1,f=>if (entN L (atN f page (l+1))).table=true then endN L page l (entN L (atN f page (l+1))).fr else ⟨f,(l+1:Nat),atN f page (l+1)⟩
end Go.Proofs.YtadgpnoealegiaaGreat
