/-
  No cell of these rows narrows 'for every input' (looked for: loops, veiled, ifaces, maps, wideKeys, modest, calm, conditions, laid).
  DERIVED. THE GIVEN ROWS OF THIS SEAT. 4 by the template 'for every input the law returns true; each argument reads behind the call as it read before'; 0 by the template 'total and deterministic' (their statements: YtppjdglbbdlngaaTotals.lean).
  GIVEN WITH THE SEED: the statements are not yours to turn. If you find one false, say at which input.
  Laid BY PROGRAM, IN A SANDBOX (cutbox-rows.mjs): the forced cells as the released guide's own fill.sh prints them over the translation 5ce0abf943ee51bb… (all of the seat's roots in one cut). By AI agents, Wed Nov 11 2026. No macro, syntax, notation, axiom, sorry.
-/
import Derived.Test.YtppjdglbbdlngaaChecked
import GoSem.Claim
import GoSem.ClaimJoined
import GoSem.ClaimMapViews
import Derived.JoinedTies
import Derived.KernelRfl
namespace Go.Proofs.Ytppjdglbbdlngaa
/- THE CELL 'sum', in the pinned program and in every row, IS THE sha256 OF THE DUMP (.gsa) THAT YtppjdglbbdlngaaProg.lean LOADS. Nothing in Lean hashes anything: it is a label: what it is worth is what the hold of that sum in a sandbox is worth. -/
noncomputable def Try.pinned : Pinned := { name := "ytppjdglbbdlngaa", sum := "5ce0abf943ee51bb1d38ff1dafed65fd46a68f3d434878eb9dd7e09facf51193", checked := Try.checked }
namespace Rows
def none {H : Type} : Left H := { results := [], args := [] }

/-- 'quarrellaw09.GreedyDecides': WHATEVER THE INPUT: true; the input reads as it did. -/
def greedyDecidesSpec : ChangeSpec := { name := "greedyDecides", fn := fun _ => fun
  | [d1, d2, d3, d4, d5] => { results := [.lit (.bool true)], args := [d1, d2, d3, d4, d5] }
  | _ => none }
def greedyDecidesRow : OpenClaim := { program := "ytppjdglbbdlngaa", sum := "5ce0abf943ee51bb1d38ff1dafed65fd46a68f3d434878eb9dd7e09facf51193", func := "quarrel/quarrellaw09.GreedyDecides", spec := "greedyDecides", apart := false }
def GreedyDecidesSaid : Prop := greedyDecidesRow.holds Try.pinned (OpenSpec.ofChange greedyDecidesSpec)

/-- ITS FALSE NEIGHBOUR: 'it returns false'. Refute it at one input. -/
def greedyDecidesWrong : ChangeSpec := { name := "greedyDecides", fn := fun _ => fun
  | [d1, d2, d3, d4, d5] => { results := [.lit (.bool false)], args := [d1, d2, d3, d4, d5] }
  | _ => none }
def GreedyDecidesWrongFalsely : Prop := greedyDecidesRow.holds Try.pinned (OpenSpec.ofChange greedyDecidesWrong)

/-- 'quarrellaw09.GreedyAborts': WHATEVER THE INPUT: true; the input reads as it did. -/
def greedyAbortsSpec : ChangeSpec := { name := "greedyAborts", fn := fun _ => fun
  | [d1, d2, d3, d4] => { results := [.lit (.bool true)], args := [d1, d2, d3, d4] }
  | _ => none }
def greedyAbortsRow : OpenClaim := { program := "ytppjdglbbdlngaa", sum := "5ce0abf943ee51bb1d38ff1dafed65fd46a68f3d434878eb9dd7e09facf51193", func := "quarrel/quarrellaw09.GreedyAborts", spec := "greedyAborts", apart := false }
def GreedyAbortsSaid : Prop := greedyAbortsRow.holds Try.pinned (OpenSpec.ofChange greedyAbortsSpec)

/-- ITS FALSE NEIGHBOUR: 'it returns false'. Refute it at one input. -/
def greedyAbortsWrong : ChangeSpec := { name := "greedyAborts", fn := fun _ => fun
  | [d1, d2, d3, d4] => { results := [.lit (.bool false)], args := [d1, d2, d3, d4] }
  | _ => none }
def GreedyAbortsWrongFalsely : Prop := greedyAbortsRow.holds Try.pinned (OpenSpec.ofChange greedyAbortsWrong)

/-- 'quarrellaw09.GreedyAlike': WHATEVER THE INPUT: true; the input reads as it did. -/
def greedyAlikeSpec : ChangeSpec := { name := "greedyAlike", fn := fun _ => fun
  | [d1, d2, d3, d4, d5] => { results := [.lit (.bool true)], args := [d1, d2, d3, d4, d5] }
  | _ => none }
def greedyAlikeRow : OpenClaim := { program := "ytppjdglbbdlngaa", sum := "5ce0abf943ee51bb1d38ff1dafed65fd46a68f3d434878eb9dd7e09facf51193", func := "quarrel/quarrellaw09.GreedyAlike", spec := "greedyAlike", apart := false }
def GreedyAlikeSaid : Prop := greedyAlikeRow.holds Try.pinned (OpenSpec.ofChange greedyAlikeSpec)

/-- ITS FALSE NEIGHBOUR: 'it returns false'. Refute it at one input. -/
def greedyAlikeWrong : ChangeSpec := { name := "greedyAlike", fn := fun _ => fun
  | [d1, d2, d3, d4, d5] => { results := [.lit (.bool false)], args := [d1, d2, d3, d4, d5] }
  | _ => none }
def GreedyAlikeWrongFalsely : Prop := greedyAlikeRow.holds Try.pinned (OpenSpec.ofChange greedyAlikeWrong)

/-- 'quarrellaw09.GreedyWaits': WHATEVER THE INPUT: true; the input reads as it did. -/
def greedyWaitsSpec : ChangeSpec := { name := "greedyWaits", fn := fun _ => fun
  | [d1, d2, d3, d4] => { results := [.lit (.bool true)], args := [d1, d2, d3, d4] }
  | _ => none }
def greedyWaitsRow : OpenClaim := { program := "ytppjdglbbdlngaa", sum := "5ce0abf943ee51bb1d38ff1dafed65fd46a68f3d434878eb9dd7e09facf51193", func := "quarrel/quarrellaw09.GreedyWaits", spec := "greedyWaits", apart := false }
def GreedyWaitsSaid : Prop := greedyWaitsRow.holds Try.pinned (OpenSpec.ofChange greedyWaitsSpec)

/-- ITS FALSE NEIGHBOUR: 'it returns false'. Refute it at one input. -/
def greedyWaitsWrong : ChangeSpec := { name := "greedyWaits", fn := fun _ => fun
  | [d1, d2, d3, d4] => { results := [.lit (.bool false)], args := [d1, d2, d3, d4] }
  | _ => none }
def GreedyWaitsWrongFalsely : Prop := greedyWaitsRow.holds Try.pinned (OpenSpec.ofChange greedyWaitsWrong)

/- THE SECOND FORM. 'bulk': how many values and letters a reading holds, each counted each time it is reached (what is shared counts as often as it is met; a slice's spare places count too). A statement '..UptoSaid' is the law's where the arguments, and the package variables that the reading takes, are together of bulk at most 1048576: NARROWER than '..Said'. Prove '..Said' where nothing that the law and all that it calls make is longer than what came in: it says more and counts as full. Else prove '..UptoSaid'. A law counts once. -/
mutual
def uptoBulk {H : Type} : DataW H → Nat
  | .lit (.string bytes) => bytes.length + 1
  | .lit _ => 1
  | .nil => 1
  | .ptr d => uptoBulk d + 1
  | .slice elems spare => uptoBulkAll elems + uptoBulkAll spare + 1
  | .agg parts => uptoBulkAll parts + 1
  | .iface _ d => uptoBulk d + 1
  | .map entries => uptoBulkEntries entries + 1
  | .held _ => 1
def uptoBulkAll {H : Type} : List (DataW H) → Nat
  | [] => 0
  | d :: r => uptoBulk d + uptoBulkAll r
def uptoBulkEntries {H : Type} : List (Lit × DataW H) → Nat
  | [] => 0
  | x :: r => uptoBulkEntry x + uptoBulkEntries r
def uptoBulkEntry {H : Type} : Lit × DataW H → Nat
  | (.string bytes, d) => bytes.length + uptoBulk d + 1
  | (_, d) => uptoBulk d + 1
 end
def uptoSmall : (H : Type) → List (DataW H) → Bool := fun _ ds => decide (uptoBulkAll ds ≤ 1048576)
def OpenSpec.upto (s : _root_.Go.ChangeSpec) : _root_.Go.OpenSpec := { _root_.Go.OpenSpec.ofChange s with cond := some uptoSmall }

/-- 'quarrellaw09.GreedyDecides', WHERE WHAT IT READS IS OF BULK AT MOST 1048576: true; the input reads as it did. -/
def greedyDecidesUptoRow : OpenClaim := { program := "ytppjdglbbdlngaa", sum := "5ce0abf943ee51bb1d38ff1dafed65fd46a68f3d434878eb9dd7e09facf51193", func := "quarrel/quarrellaw09.GreedyDecides", spec := "greedyDecides", apart := false, narrowed := true }
def GreedyDecidesUptoSaid : Prop := greedyDecidesUptoRow.holds Try.pinned (OpenSpec.upto greedyDecidesSpec)

/-- 'quarrellaw09.GreedyAborts', WHERE WHAT IT READS IS OF BULK AT MOST 1048576: true; the input reads as it did. -/
def greedyAbortsUptoRow : OpenClaim := { program := "ytppjdglbbdlngaa", sum := "5ce0abf943ee51bb1d38ff1dafed65fd46a68f3d434878eb9dd7e09facf51193", func := "quarrel/quarrellaw09.GreedyAborts", spec := "greedyAborts", apart := false, narrowed := true }
def GreedyAbortsUptoSaid : Prop := greedyAbortsUptoRow.holds Try.pinned (OpenSpec.upto greedyAbortsSpec)

/-- 'quarrellaw09.GreedyAlike', WHERE WHAT IT READS IS OF BULK AT MOST 1048576: true; the input reads as it did. -/
def greedyAlikeUptoRow : OpenClaim := { program := "ytppjdglbbdlngaa", sum := "5ce0abf943ee51bb1d38ff1dafed65fd46a68f3d434878eb9dd7e09facf51193", func := "quarrel/quarrellaw09.GreedyAlike", spec := "greedyAlike", apart := false, narrowed := true }
def GreedyAlikeUptoSaid : Prop := greedyAlikeUptoRow.holds Try.pinned (OpenSpec.upto greedyAlikeSpec)

/-- 'quarrellaw09.GreedyWaits', WHERE WHAT IT READS IS OF BULK AT MOST 1048576: true; the input reads as it did. -/
def greedyWaitsUptoRow : OpenClaim := { program := "ytppjdglbbdlngaa", sum := "5ce0abf943ee51bb1d38ff1dafed65fd46a68f3d434878eb9dd7e09facf51193", func := "quarrel/quarrellaw09.GreedyWaits", spec := "greedyWaits", apart := false, narrowed := true }
def GreedyWaitsUptoSaid : Prop := greedyWaitsUptoRow.holds Try.pinned (OpenSpec.upto greedyWaitsSpec)

end Rows
end Go.Proofs.Ytppjdglbbdlngaa
