/-
  No cell of these rows narrows 'for every input' (looked for: loops, veiled, ifaces, maps, wideKeys, modest, calm, conditions, laid).
  DERIVED. THE GIVEN ROWS OF THIS SEAT. 11 by the template 'for every input the law returns true; each argument reads behind the call as it read before'; 0 by the template 'total and deterministic' (their statements: YtabbnfodolekpaaTotals.lean).
  GIVEN WITH THE SEED: the statements are not yours to turn. If you find one false, say at which input.
  Laid BY PROGRAM, IN A SANDBOX (cutbox-rows.mjs): the forced cells as the released guide's own fill.sh prints them over the translation 56984ab650789bfc… (all of the seat's roots in one cut). By AI agents, Wed Nov 11 2026. No macro, syntax, notation, axiom, sorry.
-/
import Derived.Test.YtabbnfodolekpaaChecked
import GoSem.Claim
import GoSem.ClaimJoined
import GoSem.ClaimMapViews
import Derived.JoinedTies
import Derived.KernelRfl
namespace Go.Proofs.Ytabbnfodolekpaa
/- THE CELL 'sum', in the pinned program and in every row, IS THE sha256 OF THE DUMP (.gsa) THAT YtabbnfodolekpaaProg.lean LOADS. Nothing in Lean hashes anything: it is a label: what it is worth is what the hold of that sum in a sandbox is worth. -/
noncomputable def Try.pinned : Pinned := { name := "ytabbnfodolekpaa", sum := "56984ab650789bfc4a7e7898be9afdd74b3bb8872cb928486505b011eced1a5b", checked := Try.checked }
namespace Rows
def none {H : Type} : Left H := { results := [], args := [] }

/-- 'matryoshkalaw02.MemLast': WHATEVER THE INPUT: true; the input reads as it did. -/
def memLastSpec : ChangeSpec := { name := "memLast", fn := fun _ => fun
  | [d1, d2] => { results := [.lit (.bool true)], args := [d1, d2] }
  | _ => none }
def memLastRow : OpenClaim := { program := "ytabbnfodolekpaa", sum := "56984ab650789bfc4a7e7898be9afdd74b3bb8872cb928486505b011eced1a5b", func := "matryoshka/matryoshkalaw02.MemLast", spec := "memLast", apart := false }
def MemLastSaid : Prop := memLastRow.holds Try.pinned (OpenSpec.ofChange memLastSpec)

/-- ITS FALSE NEIGHBOUR: 'it returns false'. Refute it at one input. -/
def memLastWrong : ChangeSpec := { name := "memLast", fn := fun _ => fun
  | [d1, d2] => { results := [.lit (.bool false)], args := [d1, d2] }
  | _ => none }
def MemLastWrongFalsely : Prop := memLastRow.holds Try.pinned (OpenSpec.ofChange memLastWrong)

/-- 'matryoshkalaw02.MemCas': WHATEVER THE INPUT: true; the input reads as it did. -/
def memCasSpec : ChangeSpec := { name := "memCas", fn := fun _ => fun
  | [d1, d2] => { results := [.lit (.bool true)], args := [d1, d2] }
  | _ => none }
def memCasRow : OpenClaim := { program := "ytabbnfodolekpaa", sum := "56984ab650789bfc4a7e7898be9afdd74b3bb8872cb928486505b011eced1a5b", func := "matryoshka/matryoshkalaw02.MemCas", spec := "memCas", apart := false }
def MemCasSaid : Prop := memCasRow.holds Try.pinned (OpenSpec.ofChange memCasSpec)

/-- ITS FALSE NEIGHBOUR: 'it returns false'. Refute it at one input. -/
def memCasWrong : ChangeSpec := { name := "memCas", fn := fun _ => fun
  | [d1, d2] => { results := [.lit (.bool false)], args := [d1, d2] }
  | _ => none }
def MemCasWrongFalsely : Prop := memCasRow.holds Try.pinned (OpenSpec.ofChange memCasWrong)

/-- 'matryoshkalaw02.MemAdds': WHATEVER THE INPUT: true; the input reads as it did. -/
def memAddsSpec : ChangeSpec := { name := "memAdds", fn := fun _ => fun
  | [d] => { results := [.lit (.bool true)], args := [d] }
  | _ => none }
def memAddsRow : OpenClaim := { program := "ytabbnfodolekpaa", sum := "56984ab650789bfc4a7e7898be9afdd74b3bb8872cb928486505b011eced1a5b", func := "matryoshka/matryoshkalaw02.MemAdds", spec := "memAdds", apart := false }
def MemAddsSaid : Prop := memAddsRow.holds Try.pinned (OpenSpec.ofChange memAddsSpec)

/-- ITS FALSE NEIGHBOUR: 'it returns false'. Refute it at one input. -/
def memAddsWrong : ChangeSpec := { name := "memAdds", fn := fun _ => fun
  | [d] => { results := [.lit (.bool false)], args := [d] }
  | _ => none }
def MemAddsWrongFalsely : Prop := memAddsRow.holds Try.pinned (OpenSpec.ofChange memAddsWrong)

/-- 'matryoshkalaw02.MemPlays': WHATEVER THE INPUT: true; the input reads as it did. -/
def memPlaysSpec : ChangeSpec := { name := "memPlays", fn := fun _ => fun
  | [d1, d2, d3] => { results := [.lit (.bool true)], args := [d1, d2, d3] }
  | _ => none }
def memPlaysRow : OpenClaim := { program := "ytabbnfodolekpaa", sum := "56984ab650789bfc4a7e7898be9afdd74b3bb8872cb928486505b011eced1a5b", func := "matryoshka/matryoshkalaw02.MemPlays", spec := "memPlays", apart := false }
def MemPlaysSaid : Prop := memPlaysRow.holds Try.pinned (OpenSpec.ofChange memPlaysSpec)

/-- ITS FALSE NEIGHBOUR: 'it returns false'. Refute it at one input. -/
def memPlaysWrong : ChangeSpec := { name := "memPlays", fn := fun _ => fun
  | [d1, d2, d3] => { results := [.lit (.bool false)], args := [d1, d2, d3] }
  | _ => none }
def MemPlaysWrongFalsely : Prop := memPlaysRow.holds Try.pinned (OpenSpec.ofChange memPlaysWrong)

/-- 'matryoshkalaw02.MemNil': WHATEVER THE INPUT: true; the input reads as it did. -/
def memNilSpec : ChangeSpec := { name := "memNil", fn := fun _ => fun
  | [d1, d2] => { results := [.lit (.bool true)], args := [d1, d2] }
  | _ => none }
def memNilRow : OpenClaim := { program := "ytabbnfodolekpaa", sum := "56984ab650789bfc4a7e7898be9afdd74b3bb8872cb928486505b011eced1a5b", func := "matryoshka/matryoshkalaw02.MemNil", spec := "memNil", apart := false }
def MemNilSaid : Prop := memNilRow.holds Try.pinned (OpenSpec.ofChange memNilSpec)

/-- ITS FALSE NEIGHBOUR: 'it returns false'. Refute it at one input. -/
def memNilWrong : ChangeSpec := { name := "memNil", fn := fun _ => fun
  | [d1, d2] => { results := [.lit (.bool false)], args := [d1, d2] }
  | _ => none }
def MemNilWrongFalsely : Prop := memNilRow.holds Try.pinned (OpenSpec.ofChange memNilWrong)

/-- 'matryoshkalaw02.MemCounts': WHATEVER THE INPUT: true; the input reads as it did. -/
def memCountsSpec : ChangeSpec := { name := "memCounts", fn := fun _ => fun
  | [d1, d2] => { results := [.lit (.bool true)], args := [d1, d2] }
  | _ => none }
def memCountsRow : OpenClaim := { program := "ytabbnfodolekpaa", sum := "56984ab650789bfc4a7e7898be9afdd74b3bb8872cb928486505b011eced1a5b", func := "matryoshka/matryoshkalaw02.MemCounts", spec := "memCounts", apart := false }
def MemCountsSaid : Prop := memCountsRow.holds Try.pinned (OpenSpec.ofChange memCountsSpec)

/-- ITS FALSE NEIGHBOUR: 'it returns false'. Refute it at one input. -/
def memCountsWrong : ChangeSpec := { name := "memCounts", fn := fun _ => fun
  | [d1, d2] => { results := [.lit (.bool false)], args := [d1, d2] }
  | _ => none }
def MemCountsWrongFalsely : Prop := memCountsRow.holds Try.pinned (OpenSpec.ofChange memCountsWrong)

/-- 'matryoshkalaw05.TicketOne': WHATEVER THE INPUT: true; the input reads as it did. -/
def ticketOneSpec : ChangeSpec := { name := "ticketOne", fn := fun _ => fun
  | [d1, d2] => { results := [.lit (.bool true)], args := [d1, d2] }
  | _ => none }
def ticketOneRow : OpenClaim := { program := "ytabbnfodolekpaa", sum := "56984ab650789bfc4a7e7898be9afdd74b3bb8872cb928486505b011eced1a5b", func := "matryoshka/matryoshkalaw05.TicketOne", spec := "ticketOne", unfollowed := true, recurses := true, apart := false }
def TicketOneSaid : Prop := ticketOneRow.holds Try.pinned (OpenSpec.ofChange ticketOneSpec)

/-- ITS FALSE NEIGHBOUR: 'it returns false'. Refute it at one input. -/
def ticketOneWrong : ChangeSpec := { name := "ticketOne", fn := fun _ => fun
  | [d1, d2] => { results := [.lit (.bool false)], args := [d1, d2] }
  | _ => none }
def TicketOneWrongFalsely : Prop := ticketOneRow.holds Try.pinned (OpenSpec.ofChange ticketOneWrong)

/-- 'matryoshkalaw05.TicketEnds': WHATEVER THE INPUT: true; the input reads as it did. -/
def ticketEndsSpec : ChangeSpec := { name := "ticketEnds", fn := fun _ => fun
  | [d] => { results := [.lit (.bool true)], args := [d] }
  | _ => none }
def ticketEndsRow : OpenClaim := { program := "ytabbnfodolekpaa", sum := "56984ab650789bfc4a7e7898be9afdd74b3bb8872cb928486505b011eced1a5b", func := "matryoshka/matryoshkalaw05.TicketEnds", spec := "ticketEnds", unfollowed := true, recurses := true, apart := false }
def TicketEndsSaid : Prop := ticketEndsRow.holds Try.pinned (OpenSpec.ofChange ticketEndsSpec)

/-- ITS FALSE NEIGHBOUR: 'it returns false'. Refute it at one input. -/
def ticketEndsWrong : ChangeSpec := { name := "ticketEnds", fn := fun _ => fun
  | [d] => { results := [.lit (.bool false)], args := [d] }
  | _ => none }
def TicketEndsWrongFalsely : Prop := ticketEndsRow.holds Try.pinned (OpenSpec.ofChange ticketEndsWrong)

/-- 'matryoshkalaw05.TicketNil': WHATEVER THE INPUT: true; the input reads as it did. -/
def ticketNilSpec : ChangeSpec := { name := "ticketNil", fn := fun _ => fun
  | [d] => { results := [.lit (.bool true)], args := [d] }
  | _ => none }
def ticketNilRow : OpenClaim := { program := "ytabbnfodolekpaa", sum := "56984ab650789bfc4a7e7898be9afdd74b3bb8872cb928486505b011eced1a5b", func := "matryoshka/matryoshkalaw05.TicketNil", spec := "ticketNil", unfollowed := true, recurses := true, apart := false }
def TicketNilSaid : Prop := ticketNilRow.holds Try.pinned (OpenSpec.ofChange ticketNilSpec)

/-- ITS FALSE NEIGHBOUR: 'it returns false'. Refute it at one input. -/
def ticketNilWrong : ChangeSpec := { name := "ticketNil", fn := fun _ => fun
  | [d] => { results := [.lit (.bool false)], args := [d] }
  | _ => none }
def TicketNilWrongFalsely : Prop := ticketNilRow.holds Try.pinned (OpenSpec.ofChange ticketNilWrong)

/-- 'matryoshkalaw05.TicketCounts': WHATEVER THE INPUT: true; the input reads as it did. -/
def ticketCountsSpec : ChangeSpec := { name := "ticketCounts", fn := fun _ => fun
  | [d1, d2] => { results := [.lit (.bool true)], args := [d1, d2] }
  | _ => none }
def ticketCountsRow : OpenClaim := { program := "ytabbnfodolekpaa", sum := "56984ab650789bfc4a7e7898be9afdd74b3bb8872cb928486505b011eced1a5b", func := "matryoshka/matryoshkalaw05.TicketCounts", spec := "ticketCounts", unfollowed := true, recurses := true, apart := false }
def TicketCountsSaid : Prop := ticketCountsRow.holds Try.pinned (OpenSpec.ofChange ticketCountsSpec)

/-- ITS FALSE NEIGHBOUR: 'it returns false'. Refute it at one input. -/
def ticketCountsWrong : ChangeSpec := { name := "ticketCounts", fn := fun _ => fun
  | [d1, d2] => { results := [.lit (.bool false)], args := [d1, d2] }
  | _ => none }
def TicketCountsWrongFalsely : Prop := ticketCountsRow.holds Try.pinned (OpenSpec.ofChange ticketCountsWrong)

/-- 'matryoshkalaw05.TicketSteps': WHATEVER THE INPUT: true; the input reads as it did. -/
def ticketStepsSpec : ChangeSpec := { name := "ticketSteps", fn := fun _ => fun
  | [d1, d2, d3] => { results := [.lit (.bool true)], args := [d1, d2, d3] }
  | _ => none }
def ticketStepsRow : OpenClaim := { program := "ytabbnfodolekpaa", sum := "56984ab650789bfc4a7e7898be9afdd74b3bb8872cb928486505b011eced1a5b", func := "matryoshka/matryoshkalaw05.TicketSteps", spec := "ticketSteps", unfollowed := true, recurses := true, apart := false }
def TicketStepsSaid : Prop := ticketStepsRow.holds Try.pinned (OpenSpec.ofChange ticketStepsSpec)

/-- ITS FALSE NEIGHBOUR: 'it returns false'. Refute it at one input. -/
def ticketStepsWrong : ChangeSpec := { name := "ticketSteps", fn := fun _ => fun
  | [d1, d2, d3] => { results := [.lit (.bool false)], args := [d1, d2, d3] }
  | _ => none }
def TicketStepsWrongFalsely : Prop := ticketStepsRow.holds Try.pinned (OpenSpec.ofChange ticketStepsWrong)

/- THE SECOND FORM. 'bulk': how many values and letters a reading holds, each counted each time it is reached (what is shared counts as often as it is met; a slice's spare places count too). A statement '..UptoSaid' is the law's where the arguments, and the package variables that the reading takes, are together of bulk at most 1048576: NARROWER than '..Said'. Prove '..Said' where nothing that the law and all that it calls make is longer than what came in: it says more and counts as full. Else prove '..UptoSaid'. A law counts once. -/
mutual
def uptoBulk {H : Type} : DataW H → Nat
  | .lit (.string bytes) => bytes.length + 1
  | .lit _ => 1
  | .nil => 1
  | .ptr d => uptoBulk d + 1
  | .slice elems spare => uptoBulkAll elems + uptoBulkAll spare + 1
  | .agg parts => uptoBulkAll parts + 1
  | .iface _ d => uptoBulk d + 1
  | .map entries => uptoBulkEntries entries + 1
  | .held _ => 1
def uptoBulkAll {H : Type} : List (DataW H) → Nat
  | [] => 0
  | d :: r => uptoBulk d + uptoBulkAll r
def uptoBulkEntries {H : Type} : List (Lit × DataW H) → Nat
  | [] => 0
  | x :: r => uptoBulkEntry x + uptoBulkEntries r
def uptoBulkEntry {H : Type} : Lit × DataW H → Nat
  | (.string bytes, d) => bytes.length + uptoBulk d + 1
  | (_, d) => uptoBulk d + 1
 end
def uptoSmall : (H : Type) → List (DataW H) → Bool := fun _ ds => decide (uptoBulkAll ds ≤ 1048576)
def OpenSpec.upto (s : _root_.Go.ChangeSpec) : _root_.Go.OpenSpec := { _root_.Go.OpenSpec.ofChange s with cond := some uptoSmall }

/-- 'matryoshkalaw02.MemLast', WHERE WHAT IT READS IS OF BULK AT MOST 1048576: true; the input reads as it did. -/
def memLastUptoRow : OpenClaim := { program := "ytabbnfodolekpaa", sum := "56984ab650789bfc4a7e7898be9afdd74b3bb8872cb928486505b011eced1a5b", func := "matryoshka/matryoshkalaw02.MemLast", spec := "memLast", apart := false, narrowed := true }
def MemLastUptoSaid : Prop := memLastUptoRow.holds Try.pinned (OpenSpec.upto memLastSpec)

/-- 'matryoshkalaw02.MemCas', WHERE WHAT IT READS IS OF BULK AT MOST 1048576: true; the input reads as it did. -/
def memCasUptoRow : OpenClaim := { program := "ytabbnfodolekpaa", sum := "56984ab650789bfc4a7e7898be9afdd74b3bb8872cb928486505b011eced1a5b", func := "matryoshka/matryoshkalaw02.MemCas", spec := "memCas", apart := false, narrowed := true }
def MemCasUptoSaid : Prop := memCasUptoRow.holds Try.pinned (OpenSpec.upto memCasSpec)

/-- 'matryoshkalaw02.MemAdds', WHERE WHAT IT READS IS OF BULK AT MOST 1048576: true; the input reads as it did. -/
def memAddsUptoRow : OpenClaim := { program := "ytabbnfodolekpaa", sum := "56984ab650789bfc4a7e7898be9afdd74b3bb8872cb928486505b011eced1a5b", func := "matryoshka/matryoshkalaw02.MemAdds", spec := "memAdds", apart := false, narrowed := true }
def MemAddsUptoSaid : Prop := memAddsUptoRow.holds Try.pinned (OpenSpec.upto memAddsSpec)

/-- 'matryoshkalaw02.MemPlays', WHERE WHAT IT READS IS OF BULK AT MOST 1048576: true; the input reads as it did. -/
def memPlaysUptoRow : OpenClaim := { program := "ytabbnfodolekpaa", sum := "56984ab650789bfc4a7e7898be9afdd74b3bb8872cb928486505b011eced1a5b", func := "matryoshka/matryoshkalaw02.MemPlays", spec := "memPlays", apart := false, narrowed := true }
def MemPlaysUptoSaid : Prop := memPlaysUptoRow.holds Try.pinned (OpenSpec.upto memPlaysSpec)

/-- 'matryoshkalaw02.MemNil', WHERE WHAT IT READS IS OF BULK AT MOST 1048576: true; the input reads as it did. -/
def memNilUptoRow : OpenClaim := { program := "ytabbnfodolekpaa", sum := "56984ab650789bfc4a7e7898be9afdd74b3bb8872cb928486505b011eced1a5b", func := "matryoshka/matryoshkalaw02.MemNil", spec := "memNil", apart := false, narrowed := true }
def MemNilUptoSaid : Prop := memNilUptoRow.holds Try.pinned (OpenSpec.upto memNilSpec)

/-- 'matryoshkalaw02.MemCounts', WHERE WHAT IT READS IS OF BULK AT MOST 1048576: true; the input reads as it did. -/
def memCountsUptoRow : OpenClaim := { program := "ytabbnfodolekpaa", sum := "56984ab650789bfc4a7e7898be9afdd74b3bb8872cb928486505b011eced1a5b", func := "matryoshka/matryoshkalaw02.MemCounts", spec := "memCounts", apart := false, narrowed := true }
def MemCountsUptoSaid : Prop := memCountsUptoRow.holds Try.pinned (OpenSpec.upto memCountsSpec)

/-- 'matryoshkalaw05.TicketOne', WHERE WHAT IT READS IS OF BULK AT MOST 1048576: true; the input reads as it did. -/
def ticketOneUptoRow : OpenClaim := { program := "ytabbnfodolekpaa", sum := "56984ab650789bfc4a7e7898be9afdd74b3bb8872cb928486505b011eced1a5b", func := "matryoshka/matryoshkalaw05.TicketOne", spec := "ticketOne", unfollowed := true, recurses := true, apart := false, narrowed := true }
def TicketOneUptoSaid : Prop := ticketOneUptoRow.holds Try.pinned (OpenSpec.upto ticketOneSpec)

/-- 'matryoshkalaw05.TicketEnds', WHERE WHAT IT READS IS OF BULK AT MOST 1048576: true; the input reads as it did. -/
def ticketEndsUptoRow : OpenClaim := { program := "ytabbnfodolekpaa", sum := "56984ab650789bfc4a7e7898be9afdd74b3bb8872cb928486505b011eced1a5b", func := "matryoshka/matryoshkalaw05.TicketEnds", spec := "ticketEnds", unfollowed := true, recurses := true, apart := false, narrowed := true }
def TicketEndsUptoSaid : Prop := ticketEndsUptoRow.holds Try.pinned (OpenSpec.upto ticketEndsSpec)

/-- 'matryoshkalaw05.TicketNil', WHERE WHAT IT READS IS OF BULK AT MOST 1048576: true; the input reads as it did. -/
def ticketNilUptoRow : OpenClaim := { program := "ytabbnfodolekpaa", sum := "56984ab650789bfc4a7e7898be9afdd74b3bb8872cb928486505b011eced1a5b", func := "matryoshka/matryoshkalaw05.TicketNil", spec := "ticketNil", unfollowed := true, recurses := true, apart := false, narrowed := true }
def TicketNilUptoSaid : Prop := ticketNilUptoRow.holds Try.pinned (OpenSpec.upto ticketNilSpec)

/-- 'matryoshkalaw05.TicketCounts', WHERE WHAT IT READS IS OF BULK AT MOST 1048576: true; the input reads as it did. -/
def ticketCountsUptoRow : OpenClaim := { program := "ytabbnfodolekpaa", sum := "56984ab650789bfc4a7e7898be9afdd74b3bb8872cb928486505b011eced1a5b", func := "matryoshka/matryoshkalaw05.TicketCounts", spec := "ticketCounts", unfollowed := true, recurses := true, apart := false, narrowed := true }
def TicketCountsUptoSaid : Prop := ticketCountsUptoRow.holds Try.pinned (OpenSpec.upto ticketCountsSpec)

/-- 'matryoshkalaw05.TicketSteps', WHERE WHAT IT READS IS OF BULK AT MOST 1048576: true; the input reads as it did. -/
def ticketStepsUptoRow : OpenClaim := { program := "ytabbnfodolekpaa", sum := "56984ab650789bfc4a7e7898be9afdd74b3bb8872cb928486505b011eced1a5b", func := "matryoshka/matryoshkalaw05.TicketSteps", spec := "ticketSteps", unfollowed := true, recurses := true, apart := false, narrowed := true }
def TicketStepsUptoSaid : Prop := ticketStepsUptoRow.holds Try.pinned (OpenSpec.upto ticketStepsSpec)

end Rows
end Go.Proofs.Ytabbnfodolekpaa
