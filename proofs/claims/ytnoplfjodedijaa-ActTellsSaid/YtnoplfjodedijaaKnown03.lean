/- The walk of the fixed calls of matryoshkalaw03. -/
import Derived.Test.YtnoplfjodedijaaParseW
import Derived.Test.YtnoplfjodedijaaRunW
import Derived.Test.YtnoplfjodedijaaMeets
namespace Go.Proofs.Ytnoplfjodedijaa
open Go.RowKit

def kActs : List Act' := [⟨2, 1, 5, 0⟩, ⟨1, 1, 0, 0⟩, ⟨3, 1, 5, 6⟩, ⟨9, 0, 0, 0⟩]
def kCells : Array Value := #[.int .i64 2, .int .i64 1, .int .u64 5, .int .u64 0, .int .i64 1, .int .i64 1, .int .u64 0, .int .u64 0, .int .i64 3, .int .i64 1, .int .u64 5, .int .u64 6, .int .i64 9, .int .i64 0, .int .u64 0, .int .u64 0]
def stCells : Array Value := #[.int .i64 2, .int .i64 1, .int .u64 5, .int .u64 0]
def ldCells : Array Value := #[.int .i64 1, .int .i64 1, .int .u64 0, .int .u64 0]
def casCells : Array Value := #[.int .i64 3, .int .i64 3, .int .u64 1, .int .u64 2]

theorem reads_k {W : World} {g : Nat} (hb : Blk W g 24 kCells) : ReadsActs W (some ⟨g, 0, none⟩) kActs := by
  refine .inr ⟨g, 0, hb.lt, rfl, fun i x h => ?_⟩
  match i, h with
  | 0, h => simp [kActs] at h; subst h; exact ⟨hb.at 0 rfl, hb.at 1 rfl, hb.at 2 rfl, hb.at 3 rfl⟩
  | 1, h => simp [kActs] at h; subst h; exact ⟨hb.at 4 rfl, hb.at 5 rfl, hb.at 6 rfl, hb.at 7 rfl⟩
  | 2, h => simp [kActs] at h; subst h; exact ⟨hb.at 8 rfl, hb.at 9 rfl, hb.at 10 rfl, hb.at 11 rfl⟩
  | 3, h => simp [kActs] at h; subst h; exact ⟨hb.at 12 rfl, hb.at 13 rfl, hb.at 14 rfl, hb.at 15 rfl⟩
  | n + 4, h => simp [kActs] at h

theorem k_run : ((MS.new 4).run kActs).2 = [⟨0, false, 0⟩, ⟨5, false, 0⟩, ⟨0, true, 0⟩, ⟨0, false, 1⟩] := by rfl

theorem digs_lit : digs 0 = [48] ∧ digs 1 = [49] ∧ digs 2 = [50] ∧ digs 3 = [51] := by
  refine ⟨?_, ?_, ?_, ?_⟩ <;> rw [digs_one (by decide)] <;> rfl
theorem k_text : Four.text ⟨3, 3, 1, 2⟩ = [99, 97, 115, 32, 51, 32, 49, 32, 50] := by
  obtain ⟨h0, h1, h2, h3⟩ := digs_lit
  simp [Four.text, nameOf, h1, h2, h3]
theorem k_good : Four.good ⟨3, 3, 1, 2⟩ := by simp [Four.good]
theorem k_says : says [99, 97, 115, 32, 51, 32, 49, 32, 50] = some ⟨3, 3, 1, 2⟩ := by
  rw [← k_text]
  exact says_text k_good (by simp [Four.fits])
theorem k_shown : Four.shown ⟨3, 3, 1, 2⟩ = [99, 97, 115, 32, 51, 32, 49, 32, 50] := by rw [Four.shown, if_pos k_good, k_text]
theorem k_not : says [99, 97, 115, 32, 51, 32, 48, 49, 32, 50] = none := by
  obtain ⟨h0, h1, h2, h3⟩ := digs_lit
  have e1 : digs (rdOn 0 [51]) = [51] := h3
  have e2 : ¬ digs (rdOn 0 [48, 49]) = [48, 49] := by
    have : rdOn 0 [48, 49] = 1 := by decide
    rw [this, h1]; decide
  have n1 : nums 3 [51, 32, 48, 49, 32, 50] true [] = none := by
    have a : hd [51, 32, 48, 49, 32, 50] = [51] := by decide
    have b : tl [51, 32, 48, 49, 32, 50] = [48, 49, 32, 50] := by decide
    have c : mo [51, 32, 48, 49, 32, 50] = true := by decide
    have d : hd [48, 49, 32, 50] = [48, 49] := by decide
    rw [nums, if_pos rfl, a, if_pos e1, b, c, nums, if_pos rfl, d, if_neg e2]
  have a : tl [99, 97, 115, 32, 51, 32, 48, 49, 32, 50] = [51, 32, 48, 49, 32, 50] := by decide
  have b : mo [99, 97, 115, 32, 51, 32, 48, 49, 32, 50] = true := by decide
  exact nums_none (by rw [a, b]; exact n1)

theorem parse_cas (w : World) : Calls Try.prog 14 #[.string ⟨#[99, 97, 115, 32, 51, 32, 49, 32, 50]⟩] w fun e w' => e = .returned (.tuple #[.agg #[.int .i64 3, .int .i64 3, .int .u64 1, .int .u64 2], .bool true]) ∧ Only [] w w' :=
  (parse_any w [99, 97, 115, 32, 51, 32, 49, 32, 50] (by decide)).mono fun e w' h => by
    unfold Parsed at h
    rw [k_says] at h
    exact h
theorem parse_not (w : World) : Calls Try.prog 14 #[.string ⟨#[99, 97, 115, 32, 51, 32, 48, 49, 32, 50]⟩] w fun e w' => e = .returned (.tuple #[.agg #[.int .i64 0, .int .i64 0, .int .u64 0, .int .u64 0], .bool false]) ∧ Only [] w w' :=
  (parse_any w [99, 97, 115, 32, 51, 32, 48, 49, 32, 50] (by decide)).mono fun e w' h => by
    unfold Parsed at h
    rw [k_not] at h
    exact h
theorem show_cas (w : World) : Calls Try.prog 20 #[.agg #[.int .i64 3, .int .i64 3, .int .u64 1, .int .u64 2]] w fun e w' => e = .returned (.string ⟨#[99, 97, 115, 32, 51, 32, 49, 32, 50]⟩) ∧ Only [] w w' :=
  (show_any w 3 3 1 2 (by decide) (by decide) (by decide)).mono fun e w' h => by
    rw [show Four.shown ⟨3, 3, 1, 2⟩ = _ from k_shown] at h
    exact h
theorem show_zero (w : World) : Calls Try.prog 20 #[.agg #[.int .i64 0, .int .i64 0, .int .u64 0, .int .u64 0]] w fun e w' => e = .returned (.string ⟨#[]⟩) ∧ Only [] w w' :=
  show_kind_out w 0 0 0 0 (by decide)

end Go.Proofs.Ytnoplfjodedijaa
