/- The walks of the document's digits, number and words. -/
import Derived.Test.YtnoplfjodedijaaParseW
namespace Go.Proofs.Ytnoplfjodedijaa
open Go.RowKit

theorem bs_cut (l : List UInt8) (i j : Nat) : (bs l).extract i j = bs ((l.take j).drop i) := by
  apply ByteArray.ext
  apply Array.ext'
  simp only [bs, ByteArray.data_extract, Array.toList_extract, List.take_drop]
  rcases Nat.le_total i j with h | h
  · rw [show i + (j - i) = j from by omega]
  · rw [show i + (j - i) = i from by omega, List.drop_eq_nil_of_le (by rw [List.length_take]; omega), List.drop_eq_nil_of_le (by rw [List.length_take]; omega)]

theorem dig_cut (n : Nat) (h : n < 10) : (bs [48, 49, 50, 51, 52, 53, 54, 55, 56, 57]).extract n (n + 1) = bs [digit n] := by
  rw [bs_cut]
  have : n = 0 ∨ n = 1 ∨ n = 2 ∨ n = 3 ∨ n = 4 ∨ n = 5 ∨ n = 6 ∨ n = 7 ∨ n = 8 ∨ n = 9 := by omega
  rcases this with rfl | rfl | rfl | rfl | rfl | rfl | rfl | rfl | rfl | rfl <;> rfl

set_option maxRecDepth 100000 in
theorem rdigits_small (w : World) (n : Nat) (h : n < 10) :
    Calls Try.prog 50 #[.int .u64 n] w fun e w' => e = .returned (.string (bs (digs n))) ∧ Only [] w w' := by
  rw [digs_one h]
  have hc := dig_cut n h
  have hc' : ByteArray.extract ⟨#[48, 49, 50, 51, 52, 53, 54, 55, 56, 57]⟩ n (n + 1) = bs [digit n] := hc
  have h0 : (0 : Int) ≤ n := by omega
  have h1 : (n : Int) < 10 := by omega
  have hw : ((n : Int) + 9223372036854775808) % 18446744073709551616 - 9223372036854775808 = n := by omega
  have hw1 : ((n : Int) + 1 + 9223372036854775808) % 18446744073709551616 - 9223372036854775808 = n + 1 := by omega
  go_enter Try.func50, Try.ntmps50
  go_wp2
  go_ret
  exact ⟨rfl, Only.refl _ _⟩

set_option maxRecDepth 100000 in
theorem rdigits_great (w : World) (n : Nat) (h : ¬ n < 10) (h64 : n < 18446744073709551616)
    (ih : ∀ m w, m < n → Calls Try.prog 50 #[.int .u64 (m : Nat)] w fun e w' => e = .returned (.string (bs (digs m))) ∧ Only [] w w') :
    Calls Try.prog 50 #[.int .u64 n] w fun e w' => e = .returned (.string (bs (digs n))) ∧ Only [] w w' := by
  rw [digs_more h]
  obtain ⟨q, hq⟩ : ∃ q, n / 10 = q := ⟨_, rfl⟩
  obtain ⟨r, hr⟩ : ∃ r, n % 10 = r := ⟨_, rfl⟩
  have hr10 : r < 10 := by omega
  have ih1 := ih q
  have ih2 := ih r
  have IH := Lib.hid (And.intro (fun w => ih1 w (by omega)) (fun w => ih2 w (by omega)))
  rw [hq, hr]
  have eq1 : (n : Int) / 10 = q := by omega
  have er1 : (n : Int) % 10 = r := by omega
  have hd := digs_20 q (by omega)
  have e2 : digs r = [digit r] := digs_one hr10
  have hj : ∀ W, Sem.run Try.prog (Op.stringOp .add (bs (digs q)) (bs (digs r))) W = .ok (.string (bs (digs q ++ [digit r]))) W := fun W => by rw [e2]; exact join_text W _ _ (by simp; omega)
  clear hq hr ih ih1 ih2 e2 hd
  go_enter Try.func50, Try.ntmps50
  go_wp2_with fail
  refine (IH.out.1 _).mono ?_
  rintro e w1 ⟨rfl, ho⟩
  have HO := Lib.hid ho
  clear ho
  go_wp2_with fail
  refine (IH.out.2 _).mono ?_
  rintro e w2 ⟨rfl, ho⟩
  have HO := Lib.hid (HO.out.trans ho)
  clear ho
  go_wp2_with fail
  go_ret
  exact ⟨rfl, HO.out⟩

theorem rdigits_any (n : Nat) (h64 : n < 18446744073709551616) (w : World) : Calls Try.prog 50 #[.int .u64 n] w fun e w' => e = .returned (.string (bs (digs n))) ∧ Only [] w w' := by
  induction n using Nat.strongRecOn generalizing w with
  | ind n ih =>
    by_cases h : n < 10
    · exact rdigits_small w n h
    · exact rdigits_great w n h h64 fun m w hm => ih m hm (by omega) w

set_option maxRecDepth 100000 in
theorem rnumber_any (w : World) (l : List UInt8) (hl : l.length ≤ 9223372036854775807) : Calls Try.prog 47 #[.string (bs l)] w fun e w' => e = .returned (.int .u64 (rdr l)) ∧ w = w' := by
  have hsz := bs_size l
  go_enter Try.func47, Try.ntmps47
  go_wp2
  go_loopw [3, 4] (fun n i w' => ∃ k : Nat, k ≤ l.length ∧ w' = w ∧ i = .int .i64 k ∧ n = .int .u64 (rdr (l.take k))) (fun _ i _ => l.length - (intOf i).toNat)
  case atStart => exact ⟨0, Nat.zero_le _, rfl, rfl, rfl⟩
  case round =>
    obtain ⟨k, hk, rfl, rfl, rfl⟩ := hrel
    by_cases hp : k < l.length
    · have hp' : k < (bs l).size := by omega
      have hat := bs_at l k hp' hp
      have hpi : (k : Int) < l.length := by omega
      go_wp2
      refine ⟨⟨k + 1, by omega, trivial, by simp, ?_⟩, by simp [intOf]; omega⟩
      rw [List.take_succ_eq_append_getElem hp, rdr_snoc]
      have hlt : l[k].toNat < 256 := l[k].toNat_lt
      simp [IntKind.wrap, IntKind.signed, IntKind.bits]
      omega
    · have hpi : ¬ (k : Int) < l.length := by omega
      have ht : l.take k = l := List.take_of_length_le (by omega)
      rw [ht]
      go_wp2
      go_ret
      exact ⟨rfl, rfl⟩

theorem Try.info9 : (Try.prog.info? 9).map (fun i => (i.zero, i.size, i.bytes)) = some (some (.string ⟨#[]⟩), 1, 16) := by kernel_rfl

def strs (ps : List (List UInt8)) : List Value := ps.map fun p => .string (bs p)

/-- What the document's words answers. -/
def Parted (w : World) (l : List UInt8) (e : Ending) (w' : World) : Prop :=
  ∃ v, e = .returned v ∧ Only [] w w' ∧ w'.ownsRow w.heap.size 9 1 v (parts l).length (strs (parts l))

/-- Where words stands. -/
def Upto (l : List UInt8) (i f : Nat) (done : List (List UInt8)) : Prop :=
  f ≤ i ∧ i ≤ l.length ∧ (∀ c ∈ (l.drop f).take (i - f), c ≠ 32) ∧ parts l = done ++ parts (l.drop f)

theorem drop_split (l : List UInt8) (f i : Nat) (hf : f ≤ i) (hi : i < l.length) : l.drop f = (l.drop f).take (i - f) ++ l[i] :: l.drop (i + 1) := by
  have h1 : (l.drop f).drop (i - f) = l.drop i := by rw [List.drop_drop, show f + (i - f) = i from by omega]
  have h2 := List.take_append_drop (i - f) (l.drop f)
  rw [h1, List.drop_eq_getElem_cons hi] at h2
  exact h2.symm

set_option maxHeartbeats 2000000 in
set_option maxRecDepth 100000 in
theorem rwords_any (w : World) (l : List UInt8) (hl : l.length ≤ 1000) : Calls Try.prog 46 #[.string (bs l)] w (Parted w l) := by
  have hsz := bs_size l
  obtain ⟨i0, hi, hz0, hz1, hz2⟩ := info_parts Try.info9
  have HI0 := Lib.hid (And.intro hi (And.intro hz0 (And.intro hz1 hz2)))
  clear hi hz0 hz1 hz2
  go_enter Try.func46, Try.ntmps46
  go_wp2
  go_loopw [3, 4, 5] (fun v f i wr => ∃ (I F : Nat) (done : List (List UInt8)), i = .int .i64 I ∧ f = .int .i64 F ∧ Only [] w wr ∧ wr.ownsRow w.heap.size 9 1 v done.length (strs done) ∧ done.length ≤ I ∧ (Upto l I F done ∨ (I = l.length + 1 ∧ parts l = done))) (fun _ _ i _ => l.length + 1 - (intOf i).toNat)
  case atStart => exact ⟨0, 0, [], rfl, rfl, Only.refl _ _, World.ownsRow_nil _ _ _ _, by simp, .inl ⟨by omega, by omega, by simp, by simp⟩⟩
  case round =>
    obtain ⟨I, F, done, rfl, rfl, ho, hown, hdl, hcase⟩ := hrel
    have HO := Lib.hid ho
    have HW := Lib.hid hown
    clear ho hown
    rcases hcase with hup | ⟨hI, hdone⟩
    · obtain ⟨u1, u2, u3, u4⟩ := hup
      have HU3 := Lib.hid u3
      have HU4 := Lib.hid u4
      have hcut := bs_cut l F I
      have hle : (I : Int) ≤ l.length := by omega
      have hf0 : (0 : Int) ≤ F := by omega
      have hfi : (F : Int) ≤ I := by omega
      have hpiece : ((l.take I).drop F) = (l.drop F).take (I - F) := by rw [List.drop_take]
      obtain ⟨p, hpp⟩ : ∃ p, (l.drop F).take (I - F) = p := ⟨_, rfl⟩
      rw [hpiece, hpp] at hcut
      have HPP := Lib.hid hpp
      have HPU := Lib.hid (show ∀ c ∈ p, c ≠ 32 from by rw [← hpp]; exact u3)
      clear u3 u4 hpiece hpp
      by_cases hend : I = l.length
      · have heq : ((I : Int) == (l.length : Int)) = true := by simp [hend]
        have HEND := Lib.hid hend
        clear hend
        have HWA := Lib.hid (HW.out.alloc (.cells #[.string (bs p)] 9))
        go_wp2_with (at_builtin; refine wpList_append_own _ rfl (.tmp 22) (.tmp 27) 88 rfl w.heap.size 9 i0 (.string ⟨#[]⟩) 1 16 Try.underlying88 HI0.out.1 HI0.out.2.1 HI0.out.2.2.1 HI0.out.2.2.2 rfl (by decide) _ done.length _ rfl HWA.out ⟨wr.heap.size, 0, none⟩ 1 1 [.string (bs p)] rfl rfl ?hn ?h1 ?h63 ?hb ?hbase ?_)
        case hn => intro j u hj; match j, hj with | 0, hj => simp at hj; subst hj; simp [Addr.add]
        case h1 => intro u hu; simp at hu; subst hu; rfl
        case h63 => unfold maxLen; omega
        case hb => omega
        case hbase => have := HO.out.size; simp; omega
        intro v' w4 hown4 hg4 _
        have HW4 := Lib.hid hown4
        have HG4 := Lib.hid hg4
        clear hown4 hg4
        go_wp2
        refine ⟨⟨I + 1, I + 1, done ++ [p], by simp, by simp, (HO.out.alloc _).grow1 HWA.out HG4.out, by simpa [strs] using HW4.out, by simp; omega, .inr ⟨by have := HEND.out; omega, ?_⟩⟩, by simp [intOf]; omega⟩
        rw [HU4.out]
        have hp2 : l.drop F = p := by
          rw [← HPP.out, List.take_of_length_le]
          rw [List.length_drop]
          have := HEND.out
          omega
        rw [hp2, parts_last p HPU.out]
      · have hlt : I < l.length := by omega
        have heq : ((I : Int) == (l.length : Int)) = false := by simp; omega
        have hp' : I < (bs l).size := by omega
        have hat := bs_at l I hp' hlt
        by_cases hc : l[I] = 32
        · have hc' : (l[I].toNat : Int) = 32 := by rw [hc]; rfl
          have hsplit : l.drop F = (l.drop F).take (I - F) ++ 32 :: l.drop (I + 1) := (drop_split l F I u1 hlt).trans (congrArg (fun c => (l.drop F).take (I - F) ++ c :: l.drop (I + 1)) hc)
          have HSP := Lib.hid hsplit
          clear hsplit
          have HWA := Lib.hid (HW.out.alloc (.cells #[.string (bs p)] 9))
          go_wp2_with (at_builtin; refine wpList_append_own _ rfl (.tmp 22) (.tmp 27) 88 rfl w.heap.size 9 i0 (.string ⟨#[]⟩) 1 16 Try.underlying88 HI0.out.1 HI0.out.2.1 HI0.out.2.2.1 HI0.out.2.2.2 rfl (by decide) _ done.length _ rfl HWA.out ⟨wr.heap.size, 0, none⟩ 1 1 [.string (bs p)] rfl rfl ?hn ?h1 ?h63 ?hb ?hbase ?_)
          case hn => intro j u hj; match j, hj with | 0, hj => simp at hj; subst hj; simp [Addr.add]
          case h1 => intro u hu; simp at hu; subst hu; rfl
          case h63 => unfold maxLen; omega
          case hb => omega
          case hbase => have := HO.out.size; simp; omega
          intro v' w4 hown4 hg4 _
          have HW4 := Lib.hid hown4
          have HG4 := Lib.hid hg4
          clear hown4 hg4
          go_wp2
          refine ⟨⟨I + 1, I + 1, done ++ [p], by simp, by simp, (HO.out.alloc _).grow1 HWA.out HG4.out, by simpa [strs] using HW4.out, by simp; omega, .inl ⟨by omega, by omega, by simp, ?_⟩⟩, by simp [intOf]; omega⟩
          rw [HU4.out, HSP.out, HPP.out, parts_cons p _ HPU.out]
          simp
        · have hc' : ¬ (l[I].toNat : Int) = 32 := fun h => hc (by
            apply UInt8.toNat_inj.1
            have : l[I].toNat = 32 := by omega
            rw [this]; rfl)
          go_wp2
          refine ⟨⟨I + 1, F, done, by simp, rfl, HO.out, HW.out, by omega, .inl ⟨by omega, by omega, ?_, HU4.out⟩⟩, by simp [intOf]; omega⟩
          intro c hcm
          have e : (l.drop F).take (I + 1 - F) = (l.drop F).take (I - F) ++ [l[I]] := by
            rw [show I + 1 - F = (I - F) + 1 from by omega, List.take_add_one, List.getElem?_drop, show F + (I - F) = I from by omega, List.getElem?_eq_getElem hlt]
            rfl
          rw [e] at hcm
          rcases List.mem_append.1 hcm with hcm | hcm
          · exact HU3.out c hcm
          · rw [List.mem_singleton.1 hcm]; exact hc
    · have hgt : ¬ (I : Int) ≤ l.length := by omega
      go_wp2
      go_ret
      rw [← hdone] at HW
      exact ⟨_, rfl, HO.out, HW.out⟩

end Go.Proofs.Ytnoplfjodedijaa
