/- The walk of light of law 04, and a row of writers. -/
import Derived.Test.YtnoplfjodedijaaShell3
import Derived.Test.YtnoplfjodedijaaKnown4W
import Derived.Test.YtnoplfjodedijaaSeqPure
namespace Go.Proofs.Ytnoplfjodedijaa
open Go.RowKit

/-- A case as a value. -/
def caseCells (a s : Int) (A2 : Option Addr) (n2 cap2 : Nat) (rd : Int) (A4 : Option Addr) (n4 cap4 : Nat) (wd : Int) : Array Value :=
  #[.int .u8 a, .int .u8 s, .slice A2 n2 cap2, .int .u8 rd, .slice A4 n4 cap4, .int .u8 wd]

def Lit04 (n2 n4 : Nat) (w : World) (e : Ending) (w' : World) : Prop := ∃ q, e = .returned (.bool q) ∧ Only [] w w' ∧ (q = true → n2 ≤ 6 ∧ n4 ≤ 300)

set_option maxRecDepth 100000 in
theorem light_any (w : World) (a s rd wd : Int) (A2 A4 : Option Addr) (n2 cap2 n4 cap4 : Nat) (hr : ReadsRows w A2 n2) :
    Calls Try.prog 31 #[.agg #[.int .u8 a, .int .u8 s, .slice A2 n2 cap2, .int .u8 rd, .slice A4 n4 cap4, .int .u8 wd]] w (Lit04 n2 n4 w) := by
  have HB := Lib.hid (Blk.new w 63 #[.int .u8 a, .int .u8 s, .slice A2 n2 cap2, .int .u8 rd, .slice A4 n4 cap4, .int .u8 wd])
  have HO := Lib.hid ((Only.refl [] w).alloc (.cells #[.int .u8 a, .int .u8 s, .slice A2 n2 cap2, .int .u8 rd, .slice A4 n4 cap4, .int .u8 wd] 63))
  have HR := Lib.hid hr
  clear hr
  by_cases h1 : n2 ≤ 6
  · have h1i : ¬ (6 : Int) < n2 := by omega
    by_cases h2 : n4 ≤ 300
    · have h2i : ¬ (300 : Int) < n4 := by omega
      go_enter Try.func31, Try.ntmps31
      go_wp2
      go_loopw [3] (fun i wr => ∃ k : Nat, k ≤ n2 ∧ i = .int .i64 k ∧ Only [] w wr ∧ Blk wr w.heap.size 63 #[.int .u8 a, .int .u8 s, .slice A2 n2 cap2, .int .u8 rd, .slice A4 n4 cap4, .int .u8 wd]) (fun i _ => n2 - (intOf i).toNat)
      case atStart => exact ⟨0, Nat.zero_le _, rfl, HO.out, HB.out⟩
      case round =>
        clear HO HB
        obtain ⟨k, hk, rfl, ho, hb⟩ := hrel
        have HO := Lib.hid ho
        have HB := Lib.hid hb
        have c2 := hb.at 2 (v := .slice A2 n2 cap2) rfl
        clear ho hb
        by_cases hlt : k < n2
        · have hlti : (k : Int) < n2 := by omega
          rcases HR.out.only HO.out with h | ⟨g, o, hg, rfl, hc⟩
          · omega
          · obtain ⟨B, len, cap, hcell⟩ := hc k hlt
            clear hc
            by_cases h3 : (100 : Int) < len
            · go_wp2
              go_ret
              exact ⟨false, rfl, HO.out, fun h => by cases h⟩
            · go_wp2
              exact ⟨⟨k + 1, by omega, rfl, HO.out, HB.out⟩, by simp [intOf]; omega⟩
        · have hlti : ¬ (k : Int) < n2 := by omega
          go_wp2
          go_ret
          exact ⟨true, rfl, HO.out, fun _ => ⟨h1, h2⟩⟩
    · have h2i : (300 : Int) < n4 := by omega
      go_enter Try.func31, Try.ntmps31
      go_wp2
      go_ret
      exact ⟨false, rfl, HO.out, fun h => by cases h⟩
  · have h1i : (6 : Int) < n2 := by omega
    go_enter Try.func31, Try.ntmps31
    go_wp2
    go_ret
    exact ⟨false, rfl, HO.out, fun h => by cases h⟩

/-- Writers in a row: the k-th at B k, its values at V k. -/
structure WsAt (w : World) (sl : Value) (n : Nat) (B V C : Nat → Nat) (S : Nat → WS) : Prop where
  row : w.ownsRow 0 68 1 sl n ((List.range n).map fun k => .pointer (some ⟨B k, 0, none⟩))
  at_ : ∀ k, k < n → IsW w (B k) (V k) (C k) (S k)
  inj : ∀ i j, i < n → j < n → B i = B j → i = j
  vne : ∀ i j, i < n → j < n → B i ≠ V j

theorem Try.infoW4 : (Try.prog.info? 68).map (fun i => (i.zero, i.size, i.bytes)) = some (some (.pointer none), 1, 8) := by kernel_rfl

def updW (S : Nat → WS) (k : Nat) (s : WS) : Nat → WS := fun j => if j = k then s else S j

theorem ptr_row_ne {w : World} {sl : Value} {n : Nat} {xs : List Value} {t : TypeId} {b : Nat} {cs : Array Value} (h : w.ownsRow 0 68 1 sl n xs) (hb : Blk w b t cs) (ht : t ≠ 68) : sl.ownBlock ≠ some b := fun e => by
  rcases h.2 with ⟨hsl, _⟩ | ⟨g, cap, cur, hsl, _, hh, _⟩
  · rw [hsl] at e; cases e
  · rw [hsl] at e
    have : g = b := by simpa [Value.ownBlock] using e
    subst this
    exact ht (Blk.inj hb (show Blk w g 68 cur from hh)).1

/-- One of them steps. -/
theorem WsAt.step {w w' : World} {sl : Value} {n : Nat} {B V C : Nat → Nat} {S : Nat → WS} {k mb ms : Nat} {m : MS} (h : WsAt w sl n B V C S) (hk : k < n) {s' : WS} (hm : IsMem w mb ms m) (hv : ∀ j, j < n → V j ≠ ms) (o : Only [B k, mb, ms] w w') (hw : IsW w' (B k) (V k) (C k) s') :
    WsAt w' sl n B V C (updW S k s') := by
  have hrow : ∀ x ∈ [B k, mb, ms], sl.ownBlock ≠ some x := fun x hx => by
    simp at hx
    rcases hx with rfl | rfl | rfl
    · exact ptr_row_ne h.row (h.at_ k hk).obj (by decide)
    · exact ptr_row_ne h.row hm.obj (by decide)
    · exact ptr_row_ne h.row hm.row (by decide)
  refine ⟨row_other h.row o hrow, fun j hj => ?_, h.inj, h.vne⟩
  unfold updW
  split
  · rename_i e; subst e; exact hw
  · rename_i e
    have hj' := wne (h.at_ j hj) hm (hv j hj)
    refine (h.at_ j hj).only o ?_ ?_
    · intro hx
      simp at hx
      rcases hx with hx | hx | hx
      · exact e (h.inj j k hj hk hx)
      · exact hj'.1 hx
      · exact hj'.2.1 hx
    · intro hx
      simp at hx
      rcases hx with hx | hx | hx
      · exact h.vne k j hk hj hx.symm
      · exact hj'.2.2.1 hx
      · exact hj'.2.2.2.1 hx

theorem WsAt.quiet {w w' : World} {sl : Value} {n : Nat} {B V C : Nat → Nat} {S : Nat → WS} (h : WsAt w sl n B V C S) (o : Only [] w w') : WsAt w' sl n B V C S :=
  ⟨row_other h.row o (by simp), fun j hj => (h.at_ j hj).only o (by simp) (by simp), h.inj, h.vne⟩

end Go.Proofs.Ytnoplfjodedijaa
