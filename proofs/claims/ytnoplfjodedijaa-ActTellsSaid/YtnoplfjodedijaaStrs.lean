/- The walks of act.decimal, number and word, and of the document's digits, number and words. -/
import Derived.Test.YtnoplfjodedijaaTexts
import Derived.Test.YtnoplfjodedijaaAny
import Derived.Laws.IdiomStrings
import Derived.Laws.Concat
import Derived.Laws.RangeAny
import Derived.Laws.Strings3
import Derived.Laws.DeepStrings4
import Derived.Deep.RegionWith
namespace Go.Proofs.Ytnoplfjodedijaa
open Go.RowKit

/-- A text as a value. -/
def bs (l : List UInt8) : ByteArray := ⟨l.toArray⟩
theorem bs_size (l : List UInt8) : (bs l).size = l.length := by
  show l.toArray.size = _
  simp
theorem bs_inj {l l' : List UInt8} : bs l = bs l' ↔ l = l' := by
  constructor
  · intro h
    have := congrArg (fun b => b.data.toList) h
    simpa [bs] using this
  · rintro rfl; rfl

theorem loop_list (b : ByteArray) (k : Nat) : ∀ (i : Nat) (r : List UInt8), b.size - i = k → ByteArray.toList.loop b i r = r.reverse ++ b.data.toList.drop i := by
  have hlen : b.data.toList.length = b.size := Array.length_toList
  induction k with
  | zero =>
    intro i r h
    rw [ByteArray.toList.loop, if_neg (by omega), List.drop_eq_nil_of_le (by omega)]
    simp
  | succ k ih =>
    intro i r h
    have hi : i < b.data.toList.length := by omega
    have hg : b.get! i = b.data.toList[i] := by
      have hi' : i < b.data.size := by simpa using hi
      show b.data[i]! = _
      rw [getElem!_pos b.data i hi']
      simp
    rw [ByteArray.toList.loop, if_pos (by omega), ih (i + 1) _ (by omega), hg, List.drop_eq_getElem_cons hi]
    simp
theorem bs_list (l : List UInt8) : (bs l).toList = l := by
  rw [ByteArray.toList, loop_list (bs l) _ 0 [] rfl]
  simp [bs]

/-- Behind a slice's address lies one byte that is a digit. -/
theorem one_digit (W : World) (g : Nat) (n : Nat) (hn : n < 10) (hc : W.cell? ⟨g, 0, none⟩ = some (.int .u8 (48 + n))) :
    Sem.run Try.prog (convert 61 9 (.slice (some ⟨g, 0, none⟩) 1 1)) W = .ok (.string (bs [digit n])) W :=
  run_convert_bytes_back W 61 9 5 ⟨g, 0, none⟩ 1 [digit n] Try.underlying61 Try.underlying5 Try.underlying9 fun j hj => by
    have : j = 0 := by simpa using hj
    subst this
    simp [Addr.add, hc, digit_nat hn]

theorem join_text (W : World) (x y : List UInt8) (h : x.length + y.length ≤ 9223372036854775807) :
    Sem.run Try.prog (Op.stringOp .add (bs x) (bs y)) W = .ok (.string (bs (x ++ y))) W := by
  rw [run_string_add_sum W _ _ (by rw [bs_size, bs_size]; exact h)]
  unfold bs
  rw [ByteArray.mk_append_mk]

set_option maxRecDepth 100000 in
theorem decimal_small (w : World) (n : Nat) (h : n < 10) :
    Calls Try.prog 49 #[.int .u64 n] w fun e w' => e = .returned (.string (bs (digs n))) ∧ Only [] w w' := by
  rw [digs_one h]
  have hw : (48 + (n : Int)) % 256 = 48 + n := by omega
  have hw2 : (48 + (n : Int)) % 18446744073709551616 = 48 + n := by omega
  have hb := one_digit (w.alloc (.cells #[.int .u8 (48 + n)] 5)) w.heap.size n h ((Blk.new w _ _).at 0 rfl)
  go_enter Try.func49, Try.ntmps49
  go_wp2
  go_ret
  exact ⟨rfl, (Only.refl _ _).alloc _⟩

set_option maxRecDepth 100000 in
theorem decimal_great (w : World) (n : Nat) (h : ¬ n < 10) (h64 : n < 18446744073709551616)
    (ih : ∀ w, Calls Try.prog 49 #[.int .u64 (n / 10 : Nat)] w fun e w' => e = .returned (.string (bs (digs (n / 10)))) ∧ Only [] w w') :
    Calls Try.prog 49 #[.int .u64 n] w fun e w' => e = .returned (.string (bs (digs n))) ∧ Only [] w w' := by
  rw [digs_more h]
  obtain ⟨q, hq⟩ : ∃ q, n / 10 = q := ⟨_, rfl⟩
  obtain ⟨r, hr⟩ : ∃ r, n % 10 = r := ⟨_, rfl⟩
  have hr10 : r < 10 := by omega
  rw [hq, hr]
  rw [hq] at ih
  have IH := Lib.hid ih
  have eq1 : (n : Int) / 10 = q := by omega
  have er1 : (n : Int).tmod 10 = r := by rw [Int.tmod_eq_emod_of_nonneg (by omega)]; omega
  have wq : IntKind.u64.wrap (q : Int) = q := by simp [IntKind.wrap, IntKind.signed, IntKind.bits]; omega
  have w1 : IntKind.u64.wrap (48 + (r : Int)) = 48 + r := by simp [IntKind.wrap, IntKind.signed, IntKind.bits]; omega
  have w2 : IntKind.u8.wrap (48 + (r : Int)) = 48 + r := by simp [IntKind.wrap, IntKind.signed, IntKind.bits]; omega
  clear hq hr ih
  go_enter Try.func49, Try.ntmps49
  have hb := fun (W : World) (g : Nat) (hc : W.cell? ⟨g, 0, none⟩ = some (.int .u8 (48 + r))) => one_digit W g r hr10 hc
  have hd := digs_20 q (by omega)
  have hj := fun (W : World) => join_text W (digs q) [digit r] (by simp; omega)
  clear hd
  go_wp2_with fail
  go_region_with (first
    | (go_at_call 49
       refine (IH.out _).mono ?_
       rintro e w' ⟨rfl, ho⟩
       (try have hc : w'.cell? ⟨w.heap.size, 0, none⟩ = some (.int .u8 (48 + r)) := ((Blk.new w.drew 5 #[Value.int IntKind.u8 (48 + r)]).only ho (by simp)).at 0 rfl)
       have HO := Lib.hid ho
       clear ho))
  · go_wp2
    go_ret
    exact ⟨rfl, (((Only.refl [] w).drew).trans HO.out).alloc _⟩
  all_goals
    go_wp2
    go_ret
    exact ⟨rfl, (((Only.refl [] w).alloc _).drew).trans HO.out⟩

theorem decimal_any (n : Nat) (h64 : n < 18446744073709551616) (w : World) :
    Calls Try.prog 49 #[.int .u64 n] w fun e w' => e = .returned (.string (bs (digs n))) ∧ Only [] w w' := by
  induction n using Nat.strongRecOn generalizing w with
  | ind n ih =>
    by_cases h : n < 10
    · exact decimal_small w n h
    · exact decimal_great w n h h64 fun w => ih (n / 10) (by omega) (by omega) w

theorem bs_at (l : List UInt8) (pos : Nat) (h : pos < (bs l).size) (h' : pos < l.length) : (bs l)[pos]'h = l[pos] := by
  show l.toArray[pos] = _
  simp

/-- What act.number answers. -/
def Read (w : World) (l : List UInt8) (e : Ending) (w' : World) : Prop :=
  ∃ v : Nat, e = .returned (.tuple #[.int .u64 v, .bool (decide (digs (rdOn 0 l) = l))]) ∧ (digs (rdOn 0 l) = l → v = rdOn 0 l) ∧ Only [] w w'

set_option maxRecDepth 100000 in
theorem number_any (w : World) (l : List UInt8) : Calls Try.prog 45 #[.string (bs l)] w (Read w l) := by
  have hsz := bs_size l
  go_enter Try.func45, Try.ntmps45
  go_wp2
  go_loopw [4] (fun n w' => ∃ (pos : Nat), pos ≤ l.length ∧ w' = w.iter (bs l) pos ∧ n = .int .u64 (rdOn 0 (l.take pos)) ∧ ∀ c ∈ l.take pos, 48 ≤ c.toNat ∧ c.toNat ≤ 57) (fun _ w' => l.length - w'.iterPos w.heap.size)
  case atStart => exact ⟨0, Nat.zero_le _, rfl, rfl, by simp⟩
  case round =>
    obtain ⟨pos, hpos, rfl, rfl, hall⟩ := hrel
    by_cases hp : pos < l.length
    · have hp' : pos < (bs l).size := by omega
      obtain ⟨c, d, hcd⟩ : ∃ c d, Utf8.decode (bs l) pos = (c, d) := ⟨_, _, rfl⟩
      have hnx : ∀ ty, (Instr.next (.pointer (some ⟨w.heap.size, 0, none⟩)) true ty).run Try.prog (w.iter (bs l) pos) = .ok (.tuple #[.bool true, .int .i64 pos, .int .i32 c]) (w.iter (bs l) (pos + d)) := fun ty => by
        have := run_next_any (P := Try.prog) w (bs l) pos ty hp'
        rw [hcd] at this
        exact this
      have hca : (c = l[pos].toNat ∧ d = 1) ∨ (128 ≤ c ∧ 128 ≤ l[pos].toNat) := by
        by_cases ha : l[pos].toNat < 128
        · have := decode_ascii (bs l) pos hp' (by rw [bs_at l pos hp' hp]; exact ha)
          rw [hcd, bs_at l pos hp' hp] at this
          injection this with h1 h2
          exact .inl ⟨h1, h2⟩
        · have := decode_high (bs l) pos hp' (by rw [bs_at l pos hp' hp]; omega)
          rw [hcd] at this
          exact .inr ⟨this.1, by omega⟩
      have hmem : l[pos] ∈ l := List.getElem_mem hp
      by_cases hd : 48 ≤ c ∧ c ≤ 57
      · obtain ⟨hd1, hd2⟩ := hd
        have hc : c = l[pos].toNat ∧ d = 1 := by omega
        obtain ⟨rfl, rfl⟩ := hc
        go_wp2
        go_roundw
        case rel =>
          refine ⟨pos + 1, by omega, rfl, ?_, fun x hx => ?_⟩
          · rw [List.take_succ_eq_append_getElem hp, rdOn_snoc]
            simp [IntKind.wrap, IntKind.signed, IntKind.bits]
            omega
          · rw [List.take_succ_eq_append_getElem hp] at hx
            rcases List.mem_append.1 hx with hx | hx
            · exact hall x hx
            · rw [List.mem_singleton.1 hx]
              exact ⟨hd1, hd2⟩
        case measure =>
          simp
          omega
      · have hno : ¬ digs (rdOn 0 l) = l := fun e => by
          have := digs_all (rdOn 0 l) l[pos] (by rw [e]; exact hmem)
          omega
        have hde : decide (digs (rdOn 0 l) = l) = false := decide_eq_false hno
        rcases Nat.lt_or_ge c 48 with hd1 | hd1
        · go_wp2
          go_ret2
          exact ⟨0, by rw [hde]; rfl, fun h => absurd h hno, (Only.refl [] w).alloc _⟩
        · have hd2 : 57 < c := by omega
          go_wp2
          go_ret2
          exact ⟨0, by rw [hde]; rfl, fun h => absurd h hno, (Only.refl [] w).alloc _⟩
    · have hp' : ¬ pos < (bs l).size := by omega
      have hnx : ∀ ty, (Instr.next (.pointer (some ⟨w.heap.size, 0, none⟩)) true ty).run Try.prog (w.iter (bs l) pos) = _ := fun ty => run_next_end w (bs l) pos ty hp'
      have ht : l.take pos = l := List.take_of_length_le (by omega)
      rw [ht]
      have hlt := rdOn_lt l
      have hbe : ((bs (digs (rdOn 0 l))).toList == (bs l).toList) = decide (digs (rdOn 0 l) = l) := by
        rw [bs_list, bs_list]
        exact Bool.eq_iff_iff.2 (by simp)
      go_wp2_with fail
      refine (decimal_any (rdOn 0 l) hlt _).mono ?_
      rintro e w' ⟨rfl, ho⟩
      have HO := Lib.hid ho
      clear ho
      go_wp2
      go_ret2
      exact ⟨rdOn 0 l, rfl, fun _ => rfl, ((Only.refl [] w).alloc _).trans HO.out⟩

theorem bs_take (l : List UInt8) (k : Nat) : (bs l).extract 0 k = bs (l.take k) := by
  apply ByteArray.ext
  apply Array.ext'
  simp [bs]
theorem bs_drop (l : List UInt8) (k : Nat) : (bs l).extract k l.length = bs (l.drop k) := by
  apply ByteArray.ext
  apply Array.ext'
  simp [bs]
  exact List.take_of_length_le (by simp)

/-- What act.word answers. -/
def Cut (w : World) (l : List UInt8) (e : Ending) (w' : World) : Prop :=
  e = .returned (.tuple #[.string (bs (hd l)), .string (bs (tl l)), .bool (mo l)]) ∧ Only [] w w'

set_option maxRecDepth 100000 in
theorem word_any (w : World) (l : List UInt8) (hl : l.length ≤ 9223372036854775807) : Calls Try.prog 44 #[.string (bs l)] w (Cut w l) := by
  have hsz := bs_size l
  have hb0 : bs [] = ⟨#[]⟩ := rfl
  go_enter Try.func44, Try.ntmps44
  go_wp2
  go_loopw [8] (fun i w' => ∃ (k : Nat), k ≤ l.length ∧ w' = w ∧ i = .int .i64 k ∧ ∀ c ∈ l.take k, c ≠ 32) (fun i _ => l.length - (intOf i).toNat)
  case atStart => exact ⟨0, Nat.zero_le _, rfl, rfl, by simp⟩
  case round =>
    obtain ⟨k, hk, rfl, rfl, hall⟩ := hrel
    by_cases hp : k < l.length
    · have hp' : k < (bs l).size := by omega
      have hat := bs_at l k hp' hp
      by_cases hc : l[k] = 32
      · have hc' : (l[k].toNat : Int) = 32 := by rw [hc]; rfl
        have hcut := tcut_some (l.take k) (l.drop (k + 1)) hall
        have he : l = l.take k ++ 32 :: l.drop (k + 1) := by
          have h1 : l.drop k = 32 :: l.drop (k + 1) := (List.drop_eq_getElem_cons hp).trans (congrArg (fun c => c :: l.drop (k + 1)) hc)
          rw [← h1, List.take_append_drop]
        rw [← he] at hcut
        clear he
        have hk1 : (0 : Int) ≤ k := by omega
        have hk2 : (k : Int) ≤ (bs l).size := by omega
        have hk3 : (k : Int) + 1 ≤ (bs l).size := by omega
        have hk4 : IntKind.i64.wrap ((k : Int) + 1) = k + 1 := by rw [IntKind.wrap_i64]; omega
        have ht := bs_take l k
        have hdr := bs_drop l (k + 1)
        go_wp2_with fail
        go_region
        all_goals
          go_wp2
          refine bodyPost_ret (v := .tuple #[.string (bs (hd l)), .string (bs (tl l)), .bool (mo l)]) (by simp [results, Try.results44, go_sem, hcut]) rfl ⟨rfl, (Only.refl _ _).drew⟩
      · have hc' : ¬ (l[k].toNat : Int) = 32 := fun h => hc (by
          apply UInt8.toNat_inj.1
          have : l[k].toNat = 32 := by omega
          rw [this]; rfl)
        go_wp2
        refine ⟨⟨k + 1, by omega, trivial, by simp, fun x hx => ?_⟩, by simp [intOf]; omega⟩
        rw [List.take_succ_eq_append_getElem hp] at hx
        rcases List.mem_append.1 hx with hx | hx
        · exact hall x hx
        · rw [List.mem_singleton.1 hx]
          exact hc
    · have ht : l.take k = l := List.take_of_length_le (by omega)
      rw [ht] at hall
      have hcut := tcut_none l hall
      go_wp2
      refine bodyPost_ret (v := .tuple #[.string (bs (hd l)), .string (bs (tl l)), .bool (mo l)]) (by simp [results, Try.results44, go_sem, hcut, bs]) rfl ⟨rfl, Only.refl _ _⟩

end Go.Proofs.Ytnoplfjodedijaa
