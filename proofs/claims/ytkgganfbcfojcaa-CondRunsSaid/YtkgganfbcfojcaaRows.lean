/-
  No cell of these rows narrows 'for every input' (looked for: loops, veiled, ifaces, maps, wideKeys, modest, calm, conditions, laid).
  DERIVED. THE GIVEN ROWS OF THIS SEAT. 7 by the template 'for every input the law returns true; each argument reads behind the call as it read before'; 0 by the template 'total and deterministic' (their statements: YtkgganfbcfojcaaTotals.lean).
  GIVEN WITH THE SEED: the statements are not yours to turn. If you find one false, say at which input.
  Laid BY PROGRAM, IN A SANDBOX (cutbox-rows.mjs): the forced cells as the released guide's own fill.sh prints them over the translation 2aa257b8c3f094e7… (all of the seat's roots in one cut). By AI agents, Wed Nov 11 2026. No macro, syntax, notation, axiom, sorry.
-/
import Derived.Test.YtkgganfbcfojcaaChecked
import GoSem.Claim
import GoSem.ClaimJoined
import GoSem.ClaimMapViews
import Derived.JoinedTies
import Derived.KernelRfl
namespace Go.Proofs.Ytkgganfbcfojcaa
/- THE CELL 'sum', in the pinned program and in every row, IS THE sha256 OF THE DUMP (.gsa) THAT YtkgganfbcfojcaaProg.lean LOADS. Nothing in Lean hashes anything: it is a label: what it is worth is what the hold of that sum in a sandbox is worth. -/
noncomputable def Try.pinned : Pinned := { name := "ytkgganfbcfojcaa", sum := "2aa257b8c3f094e7ea0a244c779c9c462327c767bdbe42d46c02baeb9b191ad4", checked := Try.checked }
namespace Rows
def none {H : Type} : Left H := { results := [], args := [] }

/-- 'bilgelaw19.CondSteps': WHATEVER THE INPUT: true; the input reads as it did. -/
def condStepsSpec : ChangeSpec := { name := "condSteps", fn := fun _ => fun
  | [d1, d2, d3, d4, d5] => { results := [.lit (.bool true)], args := [d1, d2, d3, d4, d5] }
  | _ => none }
def condStepsRow : OpenClaim := { program := "ytkgganfbcfojcaa", sum := "2aa257b8c3f094e7ea0a244c779c9c462327c767bdbe42d46c02baeb9b191ad4", func := "bilge/bilgelaw19.CondSteps", spec := "condSteps", apart := false }
def CondStepsSaid : Prop := condStepsRow.holds Try.pinned (OpenSpec.ofChange condStepsSpec)

/-- ITS FALSE NEIGHBOUR: 'it returns false'. Refute it at one input. -/
def condStepsWrong : ChangeSpec := { name := "condSteps", fn := fun _ => fun
  | [d1, d2, d3, d4, d5] => { results := [.lit (.bool false)], args := [d1, d2, d3, d4, d5] }
  | _ => none }
def CondStepsWrongFalsely : Prop := condStepsRow.holds Try.pinned (OpenSpec.ofChange condStepsWrong)

/-- 'bilgelaw19.CondRuns': WHATEVER THE INPUT: true; the input reads as it did. -/
def condRunsSpec : ChangeSpec := { name := "condRuns", fn := fun _ => fun
  | [d1, d2] => { results := [.lit (.bool true)], args := [d1, d2] }
  | _ => none }
def condRunsRow : OpenClaim := { program := "ytkgganfbcfojcaa", sum := "2aa257b8c3f094e7ea0a244c779c9c462327c767bdbe42d46c02baeb9b191ad4", func := "bilge/bilgelaw19.CondRuns", spec := "condRuns", apart := false }
def CondRunsSaid : Prop := condRunsRow.holds Try.pinned (OpenSpec.ofChange condRunsSpec)

/-- ITS FALSE NEIGHBOUR: 'it returns false'. Refute it at one input. -/
def condRunsWrong : ChangeSpec := { name := "condRuns", fn := fun _ => fun
  | [d1, d2] => { results := [.lit (.bool false)], args := [d1, d2] }
  | _ => none }
def CondRunsWrongFalsely : Prop := condRunsRow.holds Try.pinned (OpenSpec.ofChange condRunsWrong)

/-- 'bilgelaw19.CondTurns': WHATEVER THE INPUT: true; the input reads as it did. -/
def condTurnsSpec : ChangeSpec := { name := "condTurns", fn := fun _ => fun
  | [d1, d2] => { results := [.lit (.bool true)], args := [d1, d2] }
  | _ => none }
def condTurnsRow : OpenClaim := { program := "ytkgganfbcfojcaa", sum := "2aa257b8c3f094e7ea0a244c779c9c462327c767bdbe42d46c02baeb9b191ad4", func := "bilge/bilgelaw19.CondTurns", spec := "condTurns", apart := false }
def CondTurnsSaid : Prop := condTurnsRow.holds Try.pinned (OpenSpec.ofChange condTurnsSpec)

/-- ITS FALSE NEIGHBOUR: 'it returns false'. Refute it at one input. -/
def condTurnsWrong : ChangeSpec := { name := "condTurns", fn := fun _ => fun
  | [d1, d2] => { results := [.lit (.bool false)], args := [d1, d2] }
  | _ => none }
def CondTurnsWrongFalsely : Prop := condTurnsRow.holds Try.pinned (OpenSpec.ofChange condTurnsWrong)

/-- 'bilgelaw19.CondFlaps': WHATEVER THE INPUT: true; the input reads as it did. -/
def condFlapsSpec : ChangeSpec := { name := "condFlaps", fn := fun _ => fun
  | [d1, d2] => { results := [.lit (.bool true)], args := [d1, d2] }
  | _ => none }
def condFlapsRow : OpenClaim := { program := "ytkgganfbcfojcaa", sum := "2aa257b8c3f094e7ea0a244c779c9c462327c767bdbe42d46c02baeb9b191ad4", func := "bilge/bilgelaw19.CondFlaps", spec := "condFlaps", apart := false }
def CondFlapsSaid : Prop := condFlapsRow.holds Try.pinned (OpenSpec.ofChange condFlapsSpec)

/-- ITS FALSE NEIGHBOUR: 'it returns false'. Refute it at one input. -/
def condFlapsWrong : ChangeSpec := { name := "condFlaps", fn := fun _ => fun
  | [d1, d2] => { results := [.lit (.bool false)], args := [d1, d2] }
  | _ => none }
def CondFlapsWrongFalsely : Prop := condFlapsRow.holds Try.pinned (OpenSpec.ofChange condFlapsWrong)

/-- 'bilgelaw19.CondBreaks': WHATEVER THE INPUT: true; the input reads as it did. -/
def condBreaksSpec : ChangeSpec := { name := "condBreaks", fn := fun _ => fun
  | [d1, d2, d3] => { results := [.lit (.bool true)], args := [d1, d2, d3] }
  | _ => none }
def condBreaksRow : OpenClaim := { program := "ytkgganfbcfojcaa", sum := "2aa257b8c3f094e7ea0a244c779c9c462327c767bdbe42d46c02baeb9b191ad4", func := "bilge/bilgelaw19.CondBreaks", spec := "condBreaks", apart := false }
def CondBreaksSaid : Prop := condBreaksRow.holds Try.pinned (OpenSpec.ofChange condBreaksSpec)

/-- ITS FALSE NEIGHBOUR: 'it returns false'. Refute it at one input. -/
def condBreaksWrong : ChangeSpec := { name := "condBreaks", fn := fun _ => fun
  | [d1, d2, d3] => { results := [.lit (.bool false)], args := [d1, d2, d3] }
  | _ => none }
def CondBreaksWrongFalsely : Prop := condBreaksRow.holds Try.pinned (OpenSpec.ofChange condBreaksWrong)

/-- 'bilgelaw19.CondAll': WHATEVER THE INPUT: true; the input reads as it did. -/
def condAllSpec : ChangeSpec := { name := "condAll", fn := fun _ => fun
  | [d1, d2, d3, d4, d5] => { results := [.lit (.bool true)], args := [d1, d2, d3, d4, d5] }
  | _ => none }
def condAllRow : OpenClaim := { program := "ytkgganfbcfojcaa", sum := "2aa257b8c3f094e7ea0a244c779c9c462327c767bdbe42d46c02baeb9b191ad4", func := "bilge/bilgelaw19.CondAll", spec := "condAll", apart := false }
def CondAllSaid : Prop := condAllRow.holds Try.pinned (OpenSpec.ofChange condAllSpec)

/-- ITS FALSE NEIGHBOUR: 'it returns false'. Refute it at one input. -/
def condAllWrong : ChangeSpec := { name := "condAll", fn := fun _ => fun
  | [d1, d2, d3, d4, d5] => { results := [.lit (.bool false)], args := [d1, d2, d3, d4, d5] }
  | _ => none }
def CondAllWrongFalsely : Prop := condAllRow.holds Try.pinned (OpenSpec.ofChange condAllWrong)

/-- 'bilgelaw19.CondApart': WHATEVER THE INPUT: true; the input reads as it did. -/
def condApartSpec : ChangeSpec := { name := "condApart", fn := fun _ => fun
  | [d1, d2, d3, d4, d5, d6] => { results := [.lit (.bool true)], args := [d1, d2, d3, d4, d5, d6] }
  | _ => none }
def condApartRow : OpenClaim := { program := "ytkgganfbcfojcaa", sum := "2aa257b8c3f094e7ea0a244c779c9c462327c767bdbe42d46c02baeb9b191ad4", func := "bilge/bilgelaw19.CondApart", spec := "condApart", apart := false }
def CondApartSaid : Prop := condApartRow.holds Try.pinned (OpenSpec.ofChange condApartSpec)

/-- ITS FALSE NEIGHBOUR: 'it returns false'. Refute it at one input. -/
def condApartWrong : ChangeSpec := { name := "condApart", fn := fun _ => fun
  | [d1, d2, d3, d4, d5, d6] => { results := [.lit (.bool false)], args := [d1, d2, d3, d4, d5, d6] }
  | _ => none }
def CondApartWrongFalsely : Prop := condApartRow.holds Try.pinned (OpenSpec.ofChange condApartWrong)

/- THE SECOND FORM. 'bulk': how many values and letters a reading holds, each counted each time it is reached (what is shared counts as often as it is met; a slice's spare places count too). A statement '..UptoSaid' is the law's where the arguments, and the package variables that the reading takes, are together of bulk at most 1048576: NARROWER than '..Said'. Prove '..Said' where nothing that the law and all that it calls make is longer than what came in: it says more and counts as full. Else prove '..UptoSaid'. A law counts once. -/
mutual
def uptoBulk {H : Type} : DataW H → Nat
  | .lit (.string bytes) => bytes.length + 1
  | .lit _ => 1
  | .nil => 1
  | .ptr d => uptoBulk d + 1
  | .slice elems spare => uptoBulkAll elems + uptoBulkAll spare + 1
  | .agg parts => uptoBulkAll parts + 1
  | .iface _ d => uptoBulk d + 1
  | .map entries => uptoBulkEntries entries + 1
  | .held _ => 1
def uptoBulkAll {H : Type} : List (DataW H) → Nat
  | [] => 0
  | d :: r => uptoBulk d + uptoBulkAll r
def uptoBulkEntries {H : Type} : List (Lit × DataW H) → Nat
  | [] => 0
  | x :: r => uptoBulkEntry x + uptoBulkEntries r
def uptoBulkEntry {H : Type} : Lit × DataW H → Nat
  | (.string bytes, d) => bytes.length + uptoBulk d + 1
  | (_, d) => uptoBulk d + 1
 end
def uptoSmall : (H : Type) → List (DataW H) → Bool := fun _ ds => decide (uptoBulkAll ds ≤ 1048576)
def OpenSpec.upto (s : _root_.Go.ChangeSpec) : _root_.Go.OpenSpec := { _root_.Go.OpenSpec.ofChange s with cond := some uptoSmall }

/-- 'bilgelaw19.CondSteps', WHERE WHAT IT READS IS OF BULK AT MOST 1048576: true; the input reads as it did. -/
def condStepsUptoRow : OpenClaim := { program := "ytkgganfbcfojcaa", sum := "2aa257b8c3f094e7ea0a244c779c9c462327c767bdbe42d46c02baeb9b191ad4", func := "bilge/bilgelaw19.CondSteps", spec := "condSteps", apart := false, narrowed := true }
def CondStepsUptoSaid : Prop := condStepsUptoRow.holds Try.pinned (OpenSpec.upto condStepsSpec)

/-- 'bilgelaw19.CondRuns', WHERE WHAT IT READS IS OF BULK AT MOST 1048576: true; the input reads as it did. -/
def condRunsUptoRow : OpenClaim := { program := "ytkgganfbcfojcaa", sum := "2aa257b8c3f094e7ea0a244c779c9c462327c767bdbe42d46c02baeb9b191ad4", func := "bilge/bilgelaw19.CondRuns", spec := "condRuns", apart := false, narrowed := true }
def CondRunsUptoSaid : Prop := condRunsUptoRow.holds Try.pinned (OpenSpec.upto condRunsSpec)

/-- 'bilgelaw19.CondTurns', WHERE WHAT IT READS IS OF BULK AT MOST 1048576: true; the input reads as it did. -/
def condTurnsUptoRow : OpenClaim := { program := "ytkgganfbcfojcaa", sum := "2aa257b8c3f094e7ea0a244c779c9c462327c767bdbe42d46c02baeb9b191ad4", func := "bilge/bilgelaw19.CondTurns", spec := "condTurns", apart := false, narrowed := true }
def CondTurnsUptoSaid : Prop := condTurnsUptoRow.holds Try.pinned (OpenSpec.upto condTurnsSpec)

/-- 'bilgelaw19.CondFlaps', WHERE WHAT IT READS IS OF BULK AT MOST 1048576: true; the input reads as it did. -/
def condFlapsUptoRow : OpenClaim := { program := "ytkgganfbcfojcaa", sum := "2aa257b8c3f094e7ea0a244c779c9c462327c767bdbe42d46c02baeb9b191ad4", func := "bilge/bilgelaw19.CondFlaps", spec := "condFlaps", apart := false, narrowed := true }
def CondFlapsUptoSaid : Prop := condFlapsUptoRow.holds Try.pinned (OpenSpec.upto condFlapsSpec)

/-- 'bilgelaw19.CondBreaks', WHERE WHAT IT READS IS OF BULK AT MOST 1048576: true; the input reads as it did. -/
def condBreaksUptoRow : OpenClaim := { program := "ytkgganfbcfojcaa", sum := "2aa257b8c3f094e7ea0a244c779c9c462327c767bdbe42d46c02baeb9b191ad4", func := "bilge/bilgelaw19.CondBreaks", spec := "condBreaks", apart := false, narrowed := true }
def CondBreaksUptoSaid : Prop := condBreaksUptoRow.holds Try.pinned (OpenSpec.upto condBreaksSpec)

/-- 'bilgelaw19.CondAll', WHERE WHAT IT READS IS OF BULK AT MOST 1048576: true; the input reads as it did. -/
def condAllUptoRow : OpenClaim := { program := "ytkgganfbcfojcaa", sum := "2aa257b8c3f094e7ea0a244c779c9c462327c767bdbe42d46c02baeb9b191ad4", func := "bilge/bilgelaw19.CondAll", spec := "condAll", apart := false, narrowed := true }
def CondAllUptoSaid : Prop := condAllUptoRow.holds Try.pinned (OpenSpec.upto condAllSpec)

/-- 'bilgelaw19.CondApart', WHERE WHAT IT READS IS OF BULK AT MOST 1048576: true; the input reads as it did. -/
def condApartUptoRow : OpenClaim := { program := "ytkgganfbcfojcaa", sum := "2aa257b8c3f094e7ea0a244c779c9c462327c767bdbe42d46c02baeb9b191ad4", func := "bilge/bilgelaw19.CondApart", spec := "condApart", apart := false, narrowed := true }
def CondApartUptoSaid : Prop := condApartUptoRow.holds Try.pinned (OpenSpec.upto condApartSpec)

end Rows
end Go.Proofs.Ytkgganfbcfojcaa
