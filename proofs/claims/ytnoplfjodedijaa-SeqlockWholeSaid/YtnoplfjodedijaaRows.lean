/-
  No cell of these rows narrows 'for every input' (looked for: loops, veiled, ifaces, maps, wideKeys, modest, calm, conditions, laid).
  DERIVED. THE GIVEN ROWS OF THIS SEAT. 10 by the template 'for every input the law returns true; each argument reads behind the call as it read before'; 0 by the template 'total and deterministic' (their statements: YtnoplfjodedijaaTotals.lean).
  GIVEN WITH THE SEED: the statements are not yours to turn. If you find one false, say at which input.
  Laid BY PROGRAM, IN A SANDBOX (cutbox-rows.mjs): the forced cells as the released guide's own fill.sh prints them over the translation 9186b615dcb53bc6… (all of the seat's roots in one cut). By AI agents, Wed Nov 11 2026. No macro, syntax, notation, axiom, sorry.
-/
import Derived.Test.YtnoplfjodedijaaChecked
import GoSem.Claim
import GoSem.ClaimJoined
import GoSem.ClaimMapViews
import Derived.JoinedTies
import Derived.KernelRfl
namespace Go.Proofs.Ytnoplfjodedijaa
/- THE CELL 'sum', in the pinned program and in every row, IS THE sha256 OF THE DUMP (.gsa) THAT YtnoplfjodedijaaProg.lean LOADS. Nothing in Lean hashes anything: it is a label: what it is worth is what the hold of that sum in a sandbox is worth. -/
noncomputable def Try.pinned : Pinned := { name := "ytnoplfjodedijaa", sum := "9186b615dcb53bc6694667d7a05a6e4d9232903fe9461fd1e690673df27447b1", checked := Try.checked }
namespace Rows
def none {H : Type} : Left H := { results := [], args := [] }

/-- 'matryoshkalaw03.ActTells': WHATEVER THE INPUT: true; the input reads as it did. -/
def actTellsSpec : ChangeSpec := { name := "actTells", fn := fun _ => fun
  | [d1, d2, d3] => { results := [.lit (.bool true)], args := [d1, d2, d3] }
  | _ => none }
def actTellsRow : OpenClaim := { program := "ytnoplfjodedijaa", sum := "9186b615dcb53bc6694667d7a05a6e4d9232903fe9461fd1e690673df27447b1", func := "matryoshka/matryoshkalaw03.ActTells", spec := "actTells", unfollowed := true, recurses := true, apart := false }
def ActTellsSaid : Prop := actTellsRow.holds Try.pinned (OpenSpec.ofChange actTellsSpec)

/-- ITS FALSE NEIGHBOUR: 'it returns false'. Refute it at one input. -/
def actTellsWrong : ChangeSpec := { name := "actTells", fn := fun _ => fun
  | [d1, d2, d3] => { results := [.lit (.bool false)], args := [d1, d2, d3] }
  | _ => none }
def ActTellsWrongFalsely : Prop := actTellsRow.holds Try.pinned (OpenSpec.ofChange actTellsWrong)

/-- 'matryoshkalaw03.ActBack': WHATEVER THE INPUT: true; the input reads as it did. -/
def actBackSpec : ChangeSpec := { name := "actBack", fn := fun _ => fun
  | [d1, d2] => { results := [.lit (.bool true)], args := [d1, d2] }
  | _ => none }
def actBackRow : OpenClaim := { program := "ytnoplfjodedijaa", sum := "9186b615dcb53bc6694667d7a05a6e4d9232903fe9461fd1e690673df27447b1", func := "matryoshka/matryoshkalaw03.ActBack", spec := "actBack", unfollowed := true, recurses := true, apart := false }
def ActBackSaid : Prop := actBackRow.holds Try.pinned (OpenSpec.ofChange actBackSpec)

/-- ITS FALSE NEIGHBOUR: 'it returns false'. Refute it at one input. -/
def actBackWrong : ChangeSpec := { name := "actBack", fn := fun _ => fun
  | [d1, d2] => { results := [.lit (.bool false)], args := [d1, d2] }
  | _ => none }
def ActBackWrongFalsely : Prop := actBackRow.holds Try.pinned (OpenSpec.ofChange actBackWrong)

/-- 'matryoshkalaw03.ActCas': WHATEVER THE INPUT: true; the input reads as it did. -/
def actCasSpec : ChangeSpec := { name := "actCas", fn := fun _ => fun
  | [d1, d2, d3] => { results := [.lit (.bool true)], args := [d1, d2, d3] }
  | _ => none }
def actCasRow : OpenClaim := { program := "ytnoplfjodedijaa", sum := "9186b615dcb53bc6694667d7a05a6e4d9232903fe9461fd1e690673df27447b1", func := "matryoshka/matryoshkalaw03.ActCas", spec := "actCas", unfollowed := true, recurses := true, apart := false }
def ActCasSaid : Prop := actCasRow.holds Try.pinned (OpenSpec.ofChange actCasSpec)

/-- ITS FALSE NEIGHBOUR: 'it returns false'. Refute it at one input. -/
def actCasWrong : ChangeSpec := { name := "actCas", fn := fun _ => fun
  | [d1, d2, d3] => { results := [.lit (.bool false)], args := [d1, d2, d3] }
  | _ => none }
def ActCasWrongFalsely : Prop := actCasRow.holds Try.pinned (OpenSpec.ofChange actCasWrong)

/-- 'matryoshkalaw03.ActDoes': WHATEVER THE INPUT: true; the input reads as it did. -/
def actDoesSpec : ChangeSpec := { name := "actDoes", fn := fun _ => fun
  | [d1, d2] => { results := [.lit (.bool true)], args := [d1, d2] }
  | _ => none }
def actDoesRow : OpenClaim := { program := "ytnoplfjodedijaa", sum := "9186b615dcb53bc6694667d7a05a6e4d9232903fe9461fd1e690673df27447b1", func := "matryoshka/matryoshkalaw03.ActDoes", spec := "actDoes", unfollowed := true, recurses := true, apart := false }
def ActDoesSaid : Prop := actDoesRow.holds Try.pinned (OpenSpec.ofChange actDoesSpec)

/-- ITS FALSE NEIGHBOUR: 'it returns false'. Refute it at one input. -/
def actDoesWrong : ChangeSpec := { name := "actDoes", fn := fun _ => fun
  | [d1, d2] => { results := [.lit (.bool false)], args := [d1, d2] }
  | _ => none }
def ActDoesWrongFalsely : Prop := actDoesRow.holds Try.pinned (OpenSpec.ofChange actDoesWrong)

/-- 'matryoshkalaw03.ActRun': WHATEVER THE INPUT: true; the input reads as it did. -/
def actRunSpec : ChangeSpec := { name := "actRun", fn := fun _ => fun
  | [d1, d2] => { results := [.lit (.bool true)], args := [d1, d2] }
  | _ => none }
def actRunRow : OpenClaim := { program := "ytnoplfjodedijaa", sum := "9186b615dcb53bc6694667d7a05a6e4d9232903fe9461fd1e690673df27447b1", func := "matryoshka/matryoshkalaw03.ActRun", spec := "actRun", unfollowed := true, recurses := true, apart := false }
def ActRunSaid : Prop := actRunRow.holds Try.pinned (OpenSpec.ofChange actRunSpec)

/-- ITS FALSE NEIGHBOUR: 'it returns false'. Refute it at one input. -/
def actRunWrong : ChangeSpec := { name := "actRun", fn := fun _ => fun
  | [d1, d2] => { results := [.lit (.bool false)], args := [d1, d2] }
  | _ => none }
def ActRunWrongFalsely : Prop := actRunRow.holds Try.pinned (OpenSpec.ofChange actRunWrong)

/-- 'matryoshkalaw03.ActOrder': WHATEVER THE INPUT: true; the input reads as it did. -/
def actOrderSpec : ChangeSpec := { name := "actOrder", fn := fun _ => fun
  | [d1, d2, d3] => { results := [.lit (.bool true)], args := [d1, d2, d3] }
  | _ => none }
def actOrderRow : OpenClaim := { program := "ytnoplfjodedijaa", sum := "9186b615dcb53bc6694667d7a05a6e4d9232903fe9461fd1e690673df27447b1", func := "matryoshka/matryoshkalaw03.ActOrder", spec := "actOrder", unfollowed := true, recurses := true, apart := false }
def ActOrderSaid : Prop := actOrderRow.holds Try.pinned (OpenSpec.ofChange actOrderSpec)

/-- ITS FALSE NEIGHBOUR: 'it returns false'. Refute it at one input. -/
def actOrderWrong : ChangeSpec := { name := "actOrder", fn := fun _ => fun
  | [d1, d2, d3] => { results := [.lit (.bool false)], args := [d1, d2, d3] }
  | _ => none }
def ActOrderWrongFalsely : Prop := actOrderRow.holds Try.pinned (OpenSpec.ofChange actOrderWrong)

/-- 'matryoshkalaw04.SeqlockWhole': WHATEVER THE INPUT: true; the input reads as it did. -/
def seqlockWholeSpec : ChangeSpec := { name := "seqlockWhole", fn := fun _ => fun
  | [d] => { results := [.lit (.bool true)], args := [d] }
  | _ => none }
def seqlockWholeRow : OpenClaim := { program := "ytnoplfjodedijaa", sum := "9186b615dcb53bc6694667d7a05a6e4d9232903fe9461fd1e690673df27447b1", func := "matryoshka/matryoshkalaw04.SeqlockWhole", spec := "seqlockWhole", unfollowed := true, recurses := true, apart := false }
def SeqlockWholeSaid : Prop := seqlockWholeRow.holds Try.pinned (OpenSpec.ofChange seqlockWholeSpec)

/-- ITS FALSE NEIGHBOUR: 'it returns false'. Refute it at one input. -/
def seqlockWholeWrong : ChangeSpec := { name := "seqlockWhole", fn := fun _ => fun
  | [d] => { results := [.lit (.bool false)], args := [d] }
  | _ => none }
def SeqlockWholeWrongFalsely : Prop := seqlockWholeRow.holds Try.pinned (OpenSpec.ofChange seqlockWholeWrong)

/-- 'matryoshkalaw04.SeqlockEnds': WHATEVER THE INPUT: true; the input reads as it did. -/
def seqlockEndsSpec : ChangeSpec := { name := "seqlockEnds", fn := fun _ => fun
  | [d1, d2] => { results := [.lit (.bool true)], args := [d1, d2] }
  | _ => none }
def seqlockEndsRow : OpenClaim := { program := "ytnoplfjodedijaa", sum := "9186b615dcb53bc6694667d7a05a6e4d9232903fe9461fd1e690673df27447b1", func := "matryoshka/matryoshkalaw04.SeqlockEnds", spec := "seqlockEnds", unfollowed := true, recurses := true, apart := false }
def SeqlockEndsSaid : Prop := seqlockEndsRow.holds Try.pinned (OpenSpec.ofChange seqlockEndsSpec)

/-- ITS FALSE NEIGHBOUR: 'it returns false'. Refute it at one input. -/
def seqlockEndsWrong : ChangeSpec := { name := "seqlockEnds", fn := fun _ => fun
  | [d1, d2] => { results := [.lit (.bool false)], args := [d1, d2] }
  | _ => none }
def SeqlockEndsWrongFalsely : Prop := seqlockEndsRow.holds Try.pinned (OpenSpec.ofChange seqlockEndsWrong)

/-- 'matryoshkalaw04.SeqlockNil': WHATEVER THE INPUT: true; the input reads as it did. -/
def seqlockNilSpec : ChangeSpec := { name := "seqlockNil", fn := fun _ => fun
  | [d] => { results := [.lit (.bool true)], args := [d] }
  | _ => none }
def seqlockNilRow : OpenClaim := { program := "ytnoplfjodedijaa", sum := "9186b615dcb53bc6694667d7a05a6e4d9232903fe9461fd1e690673df27447b1", func := "matryoshka/matryoshkalaw04.SeqlockNil", spec := "seqlockNil", unfollowed := true, recurses := true, apart := false }
def SeqlockNilSaid : Prop := seqlockNilRow.holds Try.pinned (OpenSpec.ofChange seqlockNilSpec)

/-- ITS FALSE NEIGHBOUR: 'it returns false'. Refute it at one input. -/
def seqlockNilWrong : ChangeSpec := { name := "seqlockNil", fn := fun _ => fun
  | [d] => { results := [.lit (.bool false)], args := [d] }
  | _ => none }
def SeqlockNilWrongFalsely : Prop := seqlockNilRow.holds Try.pinned (OpenSpec.ofChange seqlockNilWrong)

/-- 'matryoshkalaw04.SeqlockOdd': WHATEVER THE INPUT: true; the input reads as it did. -/
def seqlockOddSpec : ChangeSpec := { name := "seqlockOdd", fn := fun _ => fun
  | [d] => { results := [.lit (.bool true)], args := [d] }
  | _ => none }
def seqlockOddRow : OpenClaim := { program := "ytnoplfjodedijaa", sum := "9186b615dcb53bc6694667d7a05a6e4d9232903fe9461fd1e690673df27447b1", func := "matryoshka/matryoshkalaw04.SeqlockOdd", spec := "seqlockOdd", unfollowed := true, recurses := true, apart := false }
def SeqlockOddSaid : Prop := seqlockOddRow.holds Try.pinned (OpenSpec.ofChange seqlockOddSpec)

/-- ITS FALSE NEIGHBOUR: 'it returns false'. Refute it at one input. -/
def seqlockOddWrong : ChangeSpec := { name := "seqlockOdd", fn := fun _ => fun
  | [d] => { results := [.lit (.bool false)], args := [d] }
  | _ => none }
def SeqlockOddWrongFalsely : Prop := seqlockOddRow.holds Try.pinned (OpenSpec.ofChange seqlockOddWrong)

/- THE SECOND FORM. 'bulk': how many values and letters a reading holds, each counted each time it is reached (what is shared counts as often as it is met; a slice's spare places count too). A statement '..UptoSaid' is the law's where the arguments, and the package variables that the reading takes, are together of bulk at most 1048576: NARROWER than '..Said'. Prove '..Said' where nothing that the law and all that it calls make is longer than what came in: it says more and counts as full. Else prove '..UptoSaid'. A law counts once. -/
mutual
def uptoBulk {H : Type} : DataW H → Nat
  | .lit (.string bytes) => bytes.length + 1
  | .lit _ => 1
  | .nil => 1
  | .ptr d => uptoBulk d + 1
  | .slice elems spare => uptoBulkAll elems + uptoBulkAll spare + 1
  | .agg parts => uptoBulkAll parts + 1
  | .iface _ d => uptoBulk d + 1
  | .map entries => uptoBulkEntries entries + 1
  | .held _ => 1
def uptoBulkAll {H : Type} : List (DataW H) → Nat
  | [] => 0
  | d :: r => uptoBulk d + uptoBulkAll r
def uptoBulkEntries {H : Type} : List (Lit × DataW H) → Nat
  | [] => 0
  | x :: r => uptoBulkEntry x + uptoBulkEntries r
def uptoBulkEntry {H : Type} : Lit × DataW H → Nat
  | (.string bytes, d) => bytes.length + uptoBulk d + 1
  | (_, d) => uptoBulk d + 1
 end
def uptoSmall : (H : Type) → List (DataW H) → Bool := fun _ ds => decide (uptoBulkAll ds ≤ 1048576)
def OpenSpec.upto (s : _root_.Go.ChangeSpec) : _root_.Go.OpenSpec := { _root_.Go.OpenSpec.ofChange s with cond := some uptoSmall }

/-- 'matryoshkalaw03.ActTells', WHERE WHAT IT READS IS OF BULK AT MOST 1048576: true; the input reads as it did. -/
def actTellsUptoRow : OpenClaim := { program := "ytnoplfjodedijaa", sum := "9186b615dcb53bc6694667d7a05a6e4d9232903fe9461fd1e690673df27447b1", func := "matryoshka/matryoshkalaw03.ActTells", spec := "actTells", unfollowed := true, recurses := true, apart := false, narrowed := true }
def ActTellsUptoSaid : Prop := actTellsUptoRow.holds Try.pinned (OpenSpec.upto actTellsSpec)

/-- 'matryoshkalaw03.ActBack', WHERE WHAT IT READS IS OF BULK AT MOST 1048576: true; the input reads as it did. -/
def actBackUptoRow : OpenClaim := { program := "ytnoplfjodedijaa", sum := "9186b615dcb53bc6694667d7a05a6e4d9232903fe9461fd1e690673df27447b1", func := "matryoshka/matryoshkalaw03.ActBack", spec := "actBack", unfollowed := true, recurses := true, apart := false, narrowed := true }
def ActBackUptoSaid : Prop := actBackUptoRow.holds Try.pinned (OpenSpec.upto actBackSpec)

/-- 'matryoshkalaw03.ActCas', WHERE WHAT IT READS IS OF BULK AT MOST 1048576: true; the input reads as it did. -/
def actCasUptoRow : OpenClaim := { program := "ytnoplfjodedijaa", sum := "9186b615dcb53bc6694667d7a05a6e4d9232903fe9461fd1e690673df27447b1", func := "matryoshka/matryoshkalaw03.ActCas", spec := "actCas", unfollowed := true, recurses := true, apart := false, narrowed := true }
def ActCasUptoSaid : Prop := actCasUptoRow.holds Try.pinned (OpenSpec.upto actCasSpec)

/-- 'matryoshkalaw03.ActDoes', WHERE WHAT IT READS IS OF BULK AT MOST 1048576: true; the input reads as it did. -/
def actDoesUptoRow : OpenClaim := { program := "ytnoplfjodedijaa", sum := "9186b615dcb53bc6694667d7a05a6e4d9232903fe9461fd1e690673df27447b1", func := "matryoshka/matryoshkalaw03.ActDoes", spec := "actDoes", unfollowed := true, recurses := true, apart := false, narrowed := true }
def ActDoesUptoSaid : Prop := actDoesUptoRow.holds Try.pinned (OpenSpec.upto actDoesSpec)

/-- 'matryoshkalaw03.ActRun', WHERE WHAT IT READS IS OF BULK AT MOST 1048576: true; the input reads as it did. -/
def actRunUptoRow : OpenClaim := { program := "ytnoplfjodedijaa", sum := "9186b615dcb53bc6694667d7a05a6e4d9232903fe9461fd1e690673df27447b1", func := "matryoshka/matryoshkalaw03.ActRun", spec := "actRun", unfollowed := true, recurses := true, apart := false, narrowed := true }
def ActRunUptoSaid : Prop := actRunUptoRow.holds Try.pinned (OpenSpec.upto actRunSpec)

/-- 'matryoshkalaw03.ActOrder', WHERE WHAT IT READS IS OF BULK AT MOST 1048576: true; the input reads as it did. -/
def actOrderUptoRow : OpenClaim := { program := "ytnoplfjodedijaa", sum := "9186b615dcb53bc6694667d7a05a6e4d9232903fe9461fd1e690673df27447b1", func := "matryoshka/matryoshkalaw03.ActOrder", spec := "actOrder", unfollowed := true, recurses := true, apart := false, narrowed := true }
def ActOrderUptoSaid : Prop := actOrderUptoRow.holds Try.pinned (OpenSpec.upto actOrderSpec)

/-- 'matryoshkalaw04.SeqlockWhole', WHERE WHAT IT READS IS OF BULK AT MOST 1048576: true; the input reads as it did. -/
def seqlockWholeUptoRow : OpenClaim := { program := "ytnoplfjodedijaa", sum := "9186b615dcb53bc6694667d7a05a6e4d9232903fe9461fd1e690673df27447b1", func := "matryoshka/matryoshkalaw04.SeqlockWhole", spec := "seqlockWhole", unfollowed := true, recurses := true, apart := false, narrowed := true }
def SeqlockWholeUptoSaid : Prop := seqlockWholeUptoRow.holds Try.pinned (OpenSpec.upto seqlockWholeSpec)

/-- 'matryoshkalaw04.SeqlockEnds', WHERE WHAT IT READS IS OF BULK AT MOST 1048576: true; the input reads as it did. -/
def seqlockEndsUptoRow : OpenClaim := { program := "ytnoplfjodedijaa", sum := "9186b615dcb53bc6694667d7a05a6e4d9232903fe9461fd1e690673df27447b1", func := "matryoshka/matryoshkalaw04.SeqlockEnds", spec := "seqlockEnds", unfollowed := true, recurses := true, apart := false, narrowed := true }
def SeqlockEndsUptoSaid : Prop := seqlockEndsUptoRow.holds Try.pinned (OpenSpec.upto seqlockEndsSpec)

/-- 'matryoshkalaw04.SeqlockNil', WHERE WHAT IT READS IS OF BULK AT MOST 1048576: true; the input reads as it did. -/
def seqlockNilUptoRow : OpenClaim := { program := "ytnoplfjodedijaa", sum := "9186b615dcb53bc6694667d7a05a6e4d9232903fe9461fd1e690673df27447b1", func := "matryoshka/matryoshkalaw04.SeqlockNil", spec := "seqlockNil", unfollowed := true, recurses := true, apart := false, narrowed := true }
def SeqlockNilUptoSaid : Prop := seqlockNilUptoRow.holds Try.pinned (OpenSpec.upto seqlockNilSpec)

/-- 'matryoshkalaw04.SeqlockOdd', WHERE WHAT IT READS IS OF BULK AT MOST 1048576: true; the input reads as it did. -/
def seqlockOddUptoRow : OpenClaim := { program := "ytnoplfjodedijaa", sum := "9186b615dcb53bc6694667d7a05a6e4d9232903fe9461fd1e690673df27447b1", func := "matryoshka/matryoshkalaw04.SeqlockOdd", spec := "seqlockOdd", unfollowed := true, recurses := true, apart := false, narrowed := true }
def SeqlockOddUptoSaid : Prop := seqlockOddUptoRow.holds Try.pinned (OpenSpec.upto seqlockOddSpec)

end Rows
end Go.Proofs.Ytnoplfjodedijaa
