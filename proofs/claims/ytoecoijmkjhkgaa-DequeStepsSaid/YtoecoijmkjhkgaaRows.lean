/-
  No cell of these rows narrows 'for every input' (looked for: loops, veiled, ifaces, maps, wideKeys, modest, calm, conditions, laid).
  DERIVED. THE GIVEN ROWS OF THIS SEAT. 11 by the template 'for every input the law returns true; each argument reads behind the call as it read before'; 0 by the template 'total and deterministic' (their statements: YtoecoijmkjhkgaaTotals.lean).
  GIVEN WITH THE SEED: the statements are not yours to turn. If you find one false, say at which input.
  Laid BY PROGRAM, IN A SANDBOX (cutbox-rows.mjs): the forced cells as the released guide's own fill.sh prints them over the translation ba173bb82eb70199… (all of the seat's roots in one cut). By AI agents, Wed Nov 11 2026. No macro, syntax, notation, axiom, sorry.
-/
import Derived.Test.YtoecoijmkjhkgaaChecked
import GoSem.Claim
import GoSem.ClaimJoined
import GoSem.ClaimMapViews
import Derived.JoinedTies
import Derived.KernelRfl
namespace Go.Proofs.Ytoecoijmkjhkgaa
/- THE CELL 'sum', in the pinned program and in every row, IS THE sha256 OF THE DUMP (.gsa) THAT YtoecoijmkjhkgaaProg.lean LOADS. Nothing in Lean hashes anything: it is a label: what it is worth is what the hold of that sum in a sandbox is worth. -/
noncomputable def Try.pinned : Pinned := { name := "ytoecoijmkjhkgaa", sum := "ba173bb82eb7019940f7be0b795ba2e381690e7102a4c92a1a49b40b9a6f7389", checked := Try.checked }
namespace Rows
def none {H : Type} : Left H := { results := [], args := [] }

/-- 'matryoshkalaw06.RingOnce': WHATEVER THE INPUT: true; the input reads as it did. -/
def ringOnceSpec : ChangeSpec := { name := "ringOnce", fn := fun _ => fun
  | [d] => { results := [.lit (.bool true)], args := [d] }
  | _ => none }
def ringOnceRow : OpenClaim := { program := "ytoecoijmkjhkgaa", sum := "ba173bb82eb7019940f7be0b795ba2e381690e7102a4c92a1a49b40b9a6f7389", func := "matryoshka/matryoshkalaw06.RingOnce", spec := "ringOnce", unfollowed := true, recurses := true, apart := false }
def RingOnceSaid : Prop := ringOnceRow.holds Try.pinned (OpenSpec.ofChange ringOnceSpec)

/-- ITS FALSE NEIGHBOUR: 'it returns false'. Refute it at one input. -/
def ringOnceWrong : ChangeSpec := { name := "ringOnce", fn := fun _ => fun
  | [d] => { results := [.lit (.bool false)], args := [d] }
  | _ => none }
def RingOnceWrongFalsely : Prop := ringOnceRow.holds Try.pinned (OpenSpec.ofChange ringOnceWrong)

/-- 'matryoshkalaw06.RingFifo': WHATEVER THE INPUT: true; the input reads as it did. -/
def ringFifoSpec : ChangeSpec := { name := "ringFifo", fn := fun _ => fun
  | [d1, d2, d3] => { results := [.lit (.bool true)], args := [d1, d2, d3] }
  | _ => none }
def ringFifoRow : OpenClaim := { program := "ytoecoijmkjhkgaa", sum := "ba173bb82eb7019940f7be0b795ba2e381690e7102a4c92a1a49b40b9a6f7389", func := "matryoshka/matryoshkalaw06.RingFifo", spec := "ringFifo", unfollowed := true, recurses := true, apart := false }
def RingFifoSaid : Prop := ringFifoRow.holds Try.pinned (OpenSpec.ofChange ringFifoSpec)

/-- ITS FALSE NEIGHBOUR: 'it returns false'. Refute it at one input. -/
def ringFifoWrong : ChangeSpec := { name := "ringFifo", fn := fun _ => fun
  | [d1, d2, d3] => { results := [.lit (.bool false)], args := [d1, d2, d3] }
  | _ => none }
def RingFifoWrongFalsely : Prop := ringFifoRow.holds Try.pinned (OpenSpec.ofChange ringFifoWrong)

/-- 'matryoshkalaw06.RingRoom': WHATEVER THE INPUT: true; the input reads as it did. -/
def ringRoomSpec : ChangeSpec := { name := "ringRoom", fn := fun _ => fun
  | [d1, d2] => { results := [.lit (.bool true)], args := [d1, d2] }
  | _ => none }
def ringRoomRow : OpenClaim := { program := "ytoecoijmkjhkgaa", sum := "ba173bb82eb7019940f7be0b795ba2e381690e7102a4c92a1a49b40b9a6f7389", func := "matryoshka/matryoshkalaw06.RingRoom", spec := "ringRoom", unfollowed := true, recurses := true, apart := false }
def RingRoomSaid : Prop := ringRoomRow.holds Try.pinned (OpenSpec.ofChange ringRoomSpec)

/-- ITS FALSE NEIGHBOUR: 'it returns false'. Refute it at one input. -/
def ringRoomWrong : ChangeSpec := { name := "ringRoom", fn := fun _ => fun
  | [d1, d2] => { results := [.lit (.bool false)], args := [d1, d2] }
  | _ => none }
def RingRoomWrongFalsely : Prop := ringRoomRow.holds Try.pinned (OpenSpec.ofChange ringRoomWrong)

/-- 'matryoshkalaw06.RingStuck': WHATEVER THE INPUT: true; the input reads as it did. -/
def ringStuckSpec : ChangeSpec := { name := "ringStuck", fn := fun _ => fun
  | [d1, d2] => { results := [.lit (.bool true)], args := [d1, d2] }
  | _ => none }
def ringStuckRow : OpenClaim := { program := "ytoecoijmkjhkgaa", sum := "ba173bb82eb7019940f7be0b795ba2e381690e7102a4c92a1a49b40b9a6f7389", func := "matryoshka/matryoshkalaw06.RingStuck", spec := "ringStuck", unfollowed := true, recurses := true, apart := false }
def RingStuckSaid : Prop := ringStuckRow.holds Try.pinned (OpenSpec.ofChange ringStuckSpec)

/-- ITS FALSE NEIGHBOUR: 'it returns false'. Refute it at one input. -/
def ringStuckWrong : ChangeSpec := { name := "ringStuck", fn := fun _ => fun
  | [d1, d2] => { results := [.lit (.bool false)], args := [d1, d2] }
  | _ => none }
def RingStuckWrongFalsely : Prop := ringStuckRow.holds Try.pinned (OpenSpec.ofChange ringStuckWrong)

/-- 'matryoshkalaw07.DequeOnce': WHATEVER THE INPUT: true; the input reads as it did. -/
def dequeOnceSpec : ChangeSpec := { name := "dequeOnce", fn := fun _ => fun
  | [d] => { results := [.lit (.bool true)], args := [d] }
  | _ => none }
def dequeOnceRow : OpenClaim := { program := "ytoecoijmkjhkgaa", sum := "ba173bb82eb7019940f7be0b795ba2e381690e7102a4c92a1a49b40b9a6f7389", func := "matryoshka/matryoshkalaw07.DequeOnce", spec := "dequeOnce", unfollowed := true, recurses := true, apart := false }
def DequeOnceSaid : Prop := dequeOnceRow.holds Try.pinned (OpenSpec.ofChange dequeOnceSpec)

/-- ITS FALSE NEIGHBOUR: 'it returns false'. Refute it at one input. -/
def dequeOnceWrong : ChangeSpec := { name := "dequeOnce", fn := fun _ => fun
  | [d] => { results := [.lit (.bool false)], args := [d] }
  | _ => none }
def DequeOnceWrongFalsely : Prop := dequeOnceRow.holds Try.pinned (OpenSpec.ofChange dequeOnceWrong)

/-- 'matryoshkalaw07.DequeEnds': WHATEVER THE INPUT: true; the input reads as it did. -/
def dequeEndsSpec : ChangeSpec := { name := "dequeEnds", fn := fun _ => fun
  | [d1, d2] => { results := [.lit (.bool true)], args := [d1, d2] }
  | _ => none }
def dequeEndsRow : OpenClaim := { program := "ytoecoijmkjhkgaa", sum := "ba173bb82eb7019940f7be0b795ba2e381690e7102a4c92a1a49b40b9a6f7389", func := "matryoshka/matryoshkalaw07.DequeEnds", spec := "dequeEnds", unfollowed := true, recurses := true, apart := false }
def DequeEndsSaid : Prop := dequeEndsRow.holds Try.pinned (OpenSpec.ofChange dequeEndsSpec)

/-- ITS FALSE NEIGHBOUR: 'it returns false'. Refute it at one input. -/
def dequeEndsWrong : ChangeSpec := { name := "dequeEnds", fn := fun _ => fun
  | [d1, d2] => { results := [.lit (.bool false)], args := [d1, d2] }
  | _ => none }
def DequeEndsWrongFalsely : Prop := dequeEndsRow.holds Try.pinned (OpenSpec.ofChange dequeEndsWrong)

/-- 'matryoshkalaw07.DequeNil': WHATEVER THE INPUT: true; the input reads as it did. -/
def dequeNilSpec : ChangeSpec := { name := "dequeNil", fn := fun _ => fun
  | [d] => { results := [.lit (.bool true)], args := [d] }
  | _ => none }
def dequeNilRow : OpenClaim := { program := "ytoecoijmkjhkgaa", sum := "ba173bb82eb7019940f7be0b795ba2e381690e7102a4c92a1a49b40b9a6f7389", func := "matryoshka/matryoshkalaw07.DequeNil", spec := "dequeNil", unfollowed := true, recurses := true, apart := false }
def DequeNilSaid : Prop := dequeNilRow.holds Try.pinned (OpenSpec.ofChange dequeNilSpec)

/-- ITS FALSE NEIGHBOUR: 'it returns false'. Refute it at one input. -/
def dequeNilWrong : ChangeSpec := { name := "dequeNil", fn := fun _ => fun
  | [d] => { results := [.lit (.bool false)], args := [d] }
  | _ => none }
def DequeNilWrongFalsely : Prop := dequeNilRow.holds Try.pinned (OpenSpec.ofChange dequeNilWrong)

/-- 'matryoshkalaw07.DequeLast': WHATEVER THE INPUT: true; the input reads as it did. -/
def dequeLastSpec : ChangeSpec := { name := "dequeLast", fn := fun _ => fun
  | [d1, d2] => { results := [.lit (.bool true)], args := [d1, d2] }
  | _ => none }
def dequeLastRow : OpenClaim := { program := "ytoecoijmkjhkgaa", sum := "ba173bb82eb7019940f7be0b795ba2e381690e7102a4c92a1a49b40b9a6f7389", func := "matryoshka/matryoshkalaw07.DequeLast", spec := "dequeLast", unfollowed := true, recurses := true, apart := false }
def DequeLastSaid : Prop := dequeLastRow.holds Try.pinned (OpenSpec.ofChange dequeLastSpec)

/-- ITS FALSE NEIGHBOUR: 'it returns false'. Refute it at one input. -/
def dequeLastWrong : ChangeSpec := { name := "dequeLast", fn := fun _ => fun
  | [d1, d2] => { results := [.lit (.bool false)], args := [d1, d2] }
  | _ => none }
def DequeLastWrongFalsely : Prop := dequeLastRow.holds Try.pinned (OpenSpec.ofChange dequeLastWrong)

/-- 'matryoshkalaw06.RingNil': WHATEVER THE INPUT: true; the input reads as it did. -/
def ringNilSpec : ChangeSpec := { name := "ringNil", fn := fun _ => fun
  | [d] => { results := [.lit (.bool true)], args := [d] }
  | _ => none }
def ringNilRow : OpenClaim := { program := "ytoecoijmkjhkgaa", sum := "ba173bb82eb7019940f7be0b795ba2e381690e7102a4c92a1a49b40b9a6f7389", func := "matryoshka/matryoshkalaw06.RingNil", spec := "ringNil", unfollowed := true, recurses := true, apart := false }
def RingNilSaid : Prop := ringNilRow.holds Try.pinned (OpenSpec.ofChange ringNilSpec)

/-- ITS FALSE NEIGHBOUR: 'it returns false'. Refute it at one input. -/
def ringNilWrong : ChangeSpec := { name := "ringNil", fn := fun _ => fun
  | [d] => { results := [.lit (.bool false)], args := [d] }
  | _ => none }
def RingNilWrongFalsely : Prop := ringNilRow.holds Try.pinned (OpenSpec.ofChange ringNilWrong)

/-- 'matryoshkalaw07.DequeSteps': WHATEVER THE INPUT: true; the input reads as it did. -/
def dequeStepsSpec : ChangeSpec := { name := "dequeSteps", fn := fun _ => fun
  | [d] => { results := [.lit (.bool true)], args := [d] }
  | _ => none }
def dequeStepsRow : OpenClaim := { program := "ytoecoijmkjhkgaa", sum := "ba173bb82eb7019940f7be0b795ba2e381690e7102a4c92a1a49b40b9a6f7389", func := "matryoshka/matryoshkalaw07.DequeSteps", spec := "dequeSteps", unfollowed := true, recurses := true, apart := false }
def DequeStepsSaid : Prop := dequeStepsRow.holds Try.pinned (OpenSpec.ofChange dequeStepsSpec)

/-- ITS FALSE NEIGHBOUR: 'it returns false'. Refute it at one input. -/
def dequeStepsWrong : ChangeSpec := { name := "dequeSteps", fn := fun _ => fun
  | [d] => { results := [.lit (.bool false)], args := [d] }
  | _ => none }
def DequeStepsWrongFalsely : Prop := dequeStepsRow.holds Try.pinned (OpenSpec.ofChange dequeStepsWrong)

/-- 'matryoshkalaw06.RingSteps': WHATEVER THE INPUT: true; the input reads as it did. -/
def ringStepsSpec : ChangeSpec := { name := "ringSteps", fn := fun _ => fun
  | [d] => { results := [.lit (.bool true)], args := [d] }
  | _ => none }
def ringStepsRow : OpenClaim := { program := "ytoecoijmkjhkgaa", sum := "ba173bb82eb7019940f7be0b795ba2e381690e7102a4c92a1a49b40b9a6f7389", func := "matryoshka/matryoshkalaw06.RingSteps", spec := "ringSteps", unfollowed := true, recurses := true, apart := false }
def RingStepsSaid : Prop := ringStepsRow.holds Try.pinned (OpenSpec.ofChange ringStepsSpec)

/-- ITS FALSE NEIGHBOUR: 'it returns false'. Refute it at one input. -/
def ringStepsWrong : ChangeSpec := { name := "ringSteps", fn := fun _ => fun
  | [d] => { results := [.lit (.bool false)], args := [d] }
  | _ => none }
def RingStepsWrongFalsely : Prop := ringStepsRow.holds Try.pinned (OpenSpec.ofChange ringStepsWrong)

/- THE SECOND FORM. 'bulk': how many values and letters a reading holds, each counted each time it is reached (what is shared counts as often as it is met; a slice's spare places count too). A statement '..UptoSaid' is the law's where the arguments, and the package variables that the reading takes, are together of bulk at most 1048576: NARROWER than '..Said'. Prove '..Said' where nothing that the law and all that it calls make is longer than what came in: it says more and counts as full. Else prove '..UptoSaid'. A law counts once. -/
mutual
def uptoBulk {H : Type} : DataW H → Nat
  | .lit (.string bytes) => bytes.length + 1
  | .lit _ => 1
  | .nil => 1
  | .ptr d => uptoBulk d + 1
  | .slice elems spare => uptoBulkAll elems + uptoBulkAll spare + 1
  | .agg parts => uptoBulkAll parts + 1
  | .iface _ d => uptoBulk d + 1
  | .map entries => uptoBulkEntries entries + 1
  | .held _ => 1
def uptoBulkAll {H : Type} : List (DataW H) → Nat
  | [] => 0
  | d :: r => uptoBulk d + uptoBulkAll r
def uptoBulkEntries {H : Type} : List (Lit × DataW H) → Nat
  | [] => 0
  | x :: r => uptoBulkEntry x + uptoBulkEntries r
def uptoBulkEntry {H : Type} : Lit × DataW H → Nat
  | (.string bytes, d) => bytes.length + uptoBulk d + 1
  | (_, d) => uptoBulk d + 1
 end
def uptoSmall : (H : Type) → List (DataW H) → Bool := fun _ ds => decide (uptoBulkAll ds ≤ 1048576)
def OpenSpec.upto (s : _root_.Go.ChangeSpec) : _root_.Go.OpenSpec := { _root_.Go.OpenSpec.ofChange s with cond := some uptoSmall }

/-- 'matryoshkalaw06.RingOnce', WHERE WHAT IT READS IS OF BULK AT MOST 1048576: true; the input reads as it did. -/
def ringOnceUptoRow : OpenClaim := { program := "ytoecoijmkjhkgaa", sum := "ba173bb82eb7019940f7be0b795ba2e381690e7102a4c92a1a49b40b9a6f7389", func := "matryoshka/matryoshkalaw06.RingOnce", spec := "ringOnce", unfollowed := true, recurses := true, apart := false, narrowed := true }
def RingOnceUptoSaid : Prop := ringOnceUptoRow.holds Try.pinned (OpenSpec.upto ringOnceSpec)

/-- 'matryoshkalaw06.RingFifo', WHERE WHAT IT READS IS OF BULK AT MOST 1048576: true; the input reads as it did. -/
def ringFifoUptoRow : OpenClaim := { program := "ytoecoijmkjhkgaa", sum := "ba173bb82eb7019940f7be0b795ba2e381690e7102a4c92a1a49b40b9a6f7389", func := "matryoshka/matryoshkalaw06.RingFifo", spec := "ringFifo", unfollowed := true, recurses := true, apart := false, narrowed := true }
def RingFifoUptoSaid : Prop := ringFifoUptoRow.holds Try.pinned (OpenSpec.upto ringFifoSpec)

/-- 'matryoshkalaw06.RingRoom', WHERE WHAT IT READS IS OF BULK AT MOST 1048576: true; the input reads as it did. -/
def ringRoomUptoRow : OpenClaim := { program := "ytoecoijmkjhkgaa", sum := "ba173bb82eb7019940f7be0b795ba2e381690e7102a4c92a1a49b40b9a6f7389", func := "matryoshka/matryoshkalaw06.RingRoom", spec := "ringRoom", unfollowed := true, recurses := true, apart := false, narrowed := true }
def RingRoomUptoSaid : Prop := ringRoomUptoRow.holds Try.pinned (OpenSpec.upto ringRoomSpec)

/-- 'matryoshkalaw06.RingStuck', WHERE WHAT IT READS IS OF BULK AT MOST 1048576: true; the input reads as it did. -/
def ringStuckUptoRow : OpenClaim := { program := "ytoecoijmkjhkgaa", sum := "ba173bb82eb7019940f7be0b795ba2e381690e7102a4c92a1a49b40b9a6f7389", func := "matryoshka/matryoshkalaw06.RingStuck", spec := "ringStuck", unfollowed := true, recurses := true, apart := false, narrowed := true }
def RingStuckUptoSaid : Prop := ringStuckUptoRow.holds Try.pinned (OpenSpec.upto ringStuckSpec)

/-- 'matryoshkalaw07.DequeOnce', WHERE WHAT IT READS IS OF BULK AT MOST 1048576: true; the input reads as it did. -/
def dequeOnceUptoRow : OpenClaim := { program := "ytoecoijmkjhkgaa", sum := "ba173bb82eb7019940f7be0b795ba2e381690e7102a4c92a1a49b40b9a6f7389", func := "matryoshka/matryoshkalaw07.DequeOnce", spec := "dequeOnce", unfollowed := true, recurses := true, apart := false, narrowed := true }
def DequeOnceUptoSaid : Prop := dequeOnceUptoRow.holds Try.pinned (OpenSpec.upto dequeOnceSpec)

/-- 'matryoshkalaw07.DequeEnds', WHERE WHAT IT READS IS OF BULK AT MOST 1048576: true; the input reads as it did. -/
def dequeEndsUptoRow : OpenClaim := { program := "ytoecoijmkjhkgaa", sum := "ba173bb82eb7019940f7be0b795ba2e381690e7102a4c92a1a49b40b9a6f7389", func := "matryoshka/matryoshkalaw07.DequeEnds", spec := "dequeEnds", unfollowed := true, recurses := true, apart := false, narrowed := true }
def DequeEndsUptoSaid : Prop := dequeEndsUptoRow.holds Try.pinned (OpenSpec.upto dequeEndsSpec)

/-- 'matryoshkalaw07.DequeNil', WHERE WHAT IT READS IS OF BULK AT MOST 1048576: true; the input reads as it did. -/
def dequeNilUptoRow : OpenClaim := { program := "ytoecoijmkjhkgaa", sum := "ba173bb82eb7019940f7be0b795ba2e381690e7102a4c92a1a49b40b9a6f7389", func := "matryoshka/matryoshkalaw07.DequeNil", spec := "dequeNil", unfollowed := true, recurses := true, apart := false, narrowed := true }
def DequeNilUptoSaid : Prop := dequeNilUptoRow.holds Try.pinned (OpenSpec.upto dequeNilSpec)

/-- 'matryoshkalaw07.DequeLast', WHERE WHAT IT READS IS OF BULK AT MOST 1048576: true; the input reads as it did. -/
def dequeLastUptoRow : OpenClaim := { program := "ytoecoijmkjhkgaa", sum := "ba173bb82eb7019940f7be0b795ba2e381690e7102a4c92a1a49b40b9a6f7389", func := "matryoshka/matryoshkalaw07.DequeLast", spec := "dequeLast", unfollowed := true, recurses := true, apart := false, narrowed := true }
def DequeLastUptoSaid : Prop := dequeLastUptoRow.holds Try.pinned (OpenSpec.upto dequeLastSpec)

/-- 'matryoshkalaw06.RingNil', WHERE WHAT IT READS IS OF BULK AT MOST 1048576: true; the input reads as it did. -/
def ringNilUptoRow : OpenClaim := { program := "ytoecoijmkjhkgaa", sum := "ba173bb82eb7019940f7be0b795ba2e381690e7102a4c92a1a49b40b9a6f7389", func := "matryoshka/matryoshkalaw06.RingNil", spec := "ringNil", unfollowed := true, recurses := true, apart := false, narrowed := true }
def RingNilUptoSaid : Prop := ringNilUptoRow.holds Try.pinned (OpenSpec.upto ringNilSpec)

/-- 'matryoshkalaw07.DequeSteps', WHERE WHAT IT READS IS OF BULK AT MOST 1048576: true; the input reads as it did. -/
def dequeStepsUptoRow : OpenClaim := { program := "ytoecoijmkjhkgaa", sum := "ba173bb82eb7019940f7be0b795ba2e381690e7102a4c92a1a49b40b9a6f7389", func := "matryoshka/matryoshkalaw07.DequeSteps", spec := "dequeSteps", unfollowed := true, recurses := true, apart := false, narrowed := true }
def DequeStepsUptoSaid : Prop := dequeStepsUptoRow.holds Try.pinned (OpenSpec.upto dequeStepsSpec)

/-- 'matryoshkalaw06.RingSteps', WHERE WHAT IT READS IS OF BULK AT MOST 1048576: true; the input reads as it did. -/
def ringStepsUptoRow : OpenClaim := { program := "ytoecoijmkjhkgaa", sum := "ba173bb82eb7019940f7be0b795ba2e381690e7102a4c92a1a49b40b9a6f7389", func := "matryoshka/matryoshkalaw06.RingSteps", spec := "ringSteps", unfollowed := true, recurses := true, apart := false, narrowed := true }
def RingStepsUptoSaid : Prop := ringStepsUptoRow.holds Try.pinned (OpenSpec.upto ringStepsSpec)

end Rows
end Go.Proofs.Ytoecoijmkjhkgaa
