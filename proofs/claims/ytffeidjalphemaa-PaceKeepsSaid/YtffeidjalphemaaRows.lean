/-
  No cell of these rows narrows 'for every input' (looked for: loops, veiled, ifaces, maps, wideKeys, modest, calm, conditions, laid).
  DERIVED. THE GIVEN ROWS OF THIS SEAT. 6 by the template 'for every input the law returns true; each argument reads behind the call as it read before'; 0 by the template 'total and deterministic' (their statements: YtffeidjalphemaaTotals.lean).
  GIVEN WITH THE SEED: the statements are not yours to turn. If you find one false, say at which input.
  Laid BY PROGRAM, IN A SANDBOX (cutbox-rows.mjs): the forced cells as the released guide's own fill.sh prints them over the translation a0e9fcab64797d2e… (all of the seat's roots in one cut). By AI agents, Wed Nov 11 2026. No macro, syntax, notation, axiom, sorry.
-/
import Derived.Test.YtffeidjalphemaaChecked
import GoSem.Claim
import GoSem.ClaimJoined
import GoSem.ClaimMapViews
import Derived.JoinedTies
import Derived.KernelRfl
namespace Go.Proofs.Ytffeidjalphemaa
/- THE CELL 'sum', in the pinned program and in every row, IS THE sha256 OF THE DUMP (.gsa) THAT YtffeidjalphemaaProg.lean LOADS. Nothing in Lean hashes anything: it is a label: what it is worth is what the hold of that sum in a sandbox is worth. -/
noncomputable def Try.pinned : Pinned := { name := "ytffeidjalphemaa", sum := "a0e9fcab64797d2ec7c6d57041337108a9118d7e1c17c8b96ce51af5e4e28e4c", checked := Try.checked }
namespace Rows
def none {H : Type} : Left H := { results := [], args := [] }

/-- 'quarrellaw22.PaceTells': WHATEVER THE INPUT: true; the input reads as it did. -/
def paceTellsSpec : ChangeSpec := { name := "paceTells", fn := fun _ => fun
  | [d1, d2, d3] => { results := [.lit (.bool true)], args := [d1, d2, d3] }
  | _ => none }
def paceTellsRow : OpenClaim := { program := "ytffeidjalphemaa", sum := "a0e9fcab64797d2ec7c6d57041337108a9118d7e1c17c8b96ce51af5e4e28e4c", func := "quarrel/quarrellaw22.PaceTells", spec := "paceTells", unfollowed := true, recurses := true, apart := false }
def PaceTellsSaid : Prop := paceTellsRow.holds Try.pinned (OpenSpec.ofChange paceTellsSpec)

/-- ITS FALSE NEIGHBOUR: 'it returns false'. Refute it at one input. -/
def paceTellsWrong : ChangeSpec := { name := "paceTells", fn := fun _ => fun
  | [d1, d2, d3] => { results := [.lit (.bool false)], args := [d1, d2, d3] }
  | _ => none }
def PaceTellsWrongFalsely : Prop := paceTellsRow.holds Try.pinned (OpenSpec.ofChange paceTellsWrong)

/-- 'quarrellaw22.PaceMakes': WHATEVER THE INPUT: true; the input reads as it did. -/
def paceMakesSpec : ChangeSpec := { name := "paceMakes", fn := fun _ => fun
  | [d1, d2, d3] => { results := [.lit (.bool true)], args := [d1, d2, d3] }
  | _ => none }
def paceMakesRow : OpenClaim := { program := "ytffeidjalphemaa", sum := "a0e9fcab64797d2ec7c6d57041337108a9118d7e1c17c8b96ce51af5e4e28e4c", func := "quarrel/quarrellaw22.PaceMakes", spec := "paceMakes", unfollowed := true, recurses := true, apart := false }
def PaceMakesSaid : Prop := paceMakesRow.holds Try.pinned (OpenSpec.ofChange paceMakesSpec)

/-- ITS FALSE NEIGHBOUR: 'it returns false'. Refute it at one input. -/
def paceMakesWrong : ChangeSpec := { name := "paceMakes", fn := fun _ => fun
  | [d1, d2, d3] => { results := [.lit (.bool false)], args := [d1, d2, d3] }
  | _ => none }
def PaceMakesWrongFalsely : Prop := paceMakesRow.holds Try.pinned (OpenSpec.ofChange paceMakesWrong)

/-- 'quarrellaw22.PaceFair': WHATEVER THE INPUT: true; the input reads as it did. -/
def paceFairSpec : ChangeSpec := { name := "paceFair", fn := fun _ => fun
  | [d1, d2, d3] => { results := [.lit (.bool true)], args := [d1, d2, d3] }
  | _ => none }
def paceFairRow : OpenClaim := { program := "ytffeidjalphemaa", sum := "a0e9fcab64797d2ec7c6d57041337108a9118d7e1c17c8b96ce51af5e4e28e4c", func := "quarrel/quarrellaw22.PaceFair", spec := "paceFair", unfollowed := true, recurses := true, apart := false }
def PaceFairSaid : Prop := paceFairRow.holds Try.pinned (OpenSpec.ofChange paceFairSpec)

/-- ITS FALSE NEIGHBOUR: 'it returns false'. Refute it at one input. -/
def paceFairWrong : ChangeSpec := { name := "paceFair", fn := fun _ => fun
  | [d1, d2, d3] => { results := [.lit (.bool false)], args := [d1, d2, d3] }
  | _ => none }
def PaceFairWrongFalsely : Prop := paceFairRow.holds Try.pinned (OpenSpec.ofChange paceFairWrong)

/-- 'quarrellaw22.PaceKeeps': WHATEVER THE INPUT: true; the input reads as it did. -/
def paceKeepsSpec : ChangeSpec := { name := "paceKeeps", fn := fun _ => fun
  | [d1, d2, d3] => { results := [.lit (.bool true)], args := [d1, d2, d3] }
  | _ => none }
def paceKeepsRow : OpenClaim := { program := "ytffeidjalphemaa", sum := "a0e9fcab64797d2ec7c6d57041337108a9118d7e1c17c8b96ce51af5e4e28e4c", func := "quarrel/quarrellaw22.PaceKeeps", spec := "paceKeeps", unfollowed := true, recurses := true, apart := false }
def PaceKeepsSaid : Prop := paceKeepsRow.holds Try.pinned (OpenSpec.ofChange paceKeepsSpec)

/-- ITS FALSE NEIGHBOUR: 'it returns false'. Refute it at one input. -/
def paceKeepsWrong : ChangeSpec := { name := "paceKeeps", fn := fun _ => fun
  | [d1, d2, d3] => { results := [.lit (.bool false)], args := [d1, d2, d3] }
  | _ => none }
def PaceKeepsWrongFalsely : Prop := paceKeepsRow.holds Try.pinned (OpenSpec.ofChange paceKeepsWrong)

/-- 'quarrellaw22.PaceMore': WHATEVER THE INPUT: true; the input reads as it did. -/
def paceMoreSpec : ChangeSpec := { name := "paceMore", fn := fun _ => fun
  | [d1, d2, d3, d4, d5] => { results := [.lit (.bool true)], args := [d1, d2, d3, d4, d5] }
  | _ => none }
def paceMoreRow : OpenClaim := { program := "ytffeidjalphemaa", sum := "a0e9fcab64797d2ec7c6d57041337108a9118d7e1c17c8b96ce51af5e4e28e4c", func := "quarrel/quarrellaw22.PaceMore", spec := "paceMore", unfollowed := true, recurses := true, apart := false }
def PaceMoreSaid : Prop := paceMoreRow.holds Try.pinned (OpenSpec.ofChange paceMoreSpec)

/-- ITS FALSE NEIGHBOUR: 'it returns false'. Refute it at one input. -/
def paceMoreWrong : ChangeSpec := { name := "paceMore", fn := fun _ => fun
  | [d1, d2, d3, d4, d5] => { results := [.lit (.bool false)], args := [d1, d2, d3, d4, d5] }
  | _ => none }
def PaceMoreWrongFalsely : Prop := paceMoreRow.holds Try.pinned (OpenSpec.ofChange paceMoreWrong)

/-- 'quarrellaw22.PaceBegins': WHATEVER THE INPUT: true; the input reads as it did. -/
def paceBeginsSpec : ChangeSpec := { name := "paceBegins", fn := fun _ => fun
  | [d1, d2, d3, d4] => { results := [.lit (.bool true)], args := [d1, d2, d3, d4] }
  | _ => none }
def paceBeginsRow : OpenClaim := { program := "ytffeidjalphemaa", sum := "a0e9fcab64797d2ec7c6d57041337108a9118d7e1c17c8b96ce51af5e4e28e4c", func := "quarrel/quarrellaw22.PaceBegins", spec := "paceBegins", unfollowed := true, recurses := true, apart := false }
def PaceBeginsSaid : Prop := paceBeginsRow.holds Try.pinned (OpenSpec.ofChange paceBeginsSpec)

/-- ITS FALSE NEIGHBOUR: 'it returns false'. Refute it at one input. -/
def paceBeginsWrong : ChangeSpec := { name := "paceBegins", fn := fun _ => fun
  | [d1, d2, d3, d4] => { results := [.lit (.bool false)], args := [d1, d2, d3, d4] }
  | _ => none }
def PaceBeginsWrongFalsely : Prop := paceBeginsRow.holds Try.pinned (OpenSpec.ofChange paceBeginsWrong)

/- THE SECOND FORM. 'bulk': how many values and letters a reading holds, each counted each time it is reached (what is shared counts as often as it is met; a slice's spare places count too). A statement '..UptoSaid' is the law's where the arguments, and the package variables that the reading takes, are together of bulk at most 1048576: NARROWER than '..Said'. Prove '..Said' where nothing that the law and all that it calls make is longer than what came in: it says more and counts as full. Else prove '..UptoSaid'. A law counts once. -/
mutual
def uptoBulk {H : Type} : DataW H → Nat
  | .lit (.string bytes) => bytes.length + 1
  | .lit _ => 1
  | .nil => 1
  | .ptr d => uptoBulk d + 1
  | .slice elems spare => uptoBulkAll elems + uptoBulkAll spare + 1
  | .agg parts => uptoBulkAll parts + 1
  | .iface _ d => uptoBulk d + 1
  | .map entries => uptoBulkEntries entries + 1
  | .held _ => 1
def uptoBulkAll {H : Type} : List (DataW H) → Nat
  | [] => 0
  | d :: r => uptoBulk d + uptoBulkAll r
def uptoBulkEntries {H : Type} : List (Lit × DataW H) → Nat
  | [] => 0
  | x :: r => uptoBulkEntry x + uptoBulkEntries r
def uptoBulkEntry {H : Type} : Lit × DataW H → Nat
  | (.string bytes, d) => bytes.length + uptoBulk d + 1
  | (_, d) => uptoBulk d + 1
 end
def uptoSmall : (H : Type) → List (DataW H) → Bool := fun _ ds => decide (uptoBulkAll ds ≤ 1048576)
def OpenSpec.upto (s : _root_.Go.ChangeSpec) : _root_.Go.OpenSpec := { _root_.Go.OpenSpec.ofChange s with cond := some uptoSmall }

/-- 'quarrellaw22.PaceTells', WHERE WHAT IT READS IS OF BULK AT MOST 1048576: true; the input reads as it did. -/
def paceTellsUptoRow : OpenClaim := { program := "ytffeidjalphemaa", sum := "a0e9fcab64797d2ec7c6d57041337108a9118d7e1c17c8b96ce51af5e4e28e4c", func := "quarrel/quarrellaw22.PaceTells", spec := "paceTells", unfollowed := true, recurses := true, apart := false, narrowed := true }
def PaceTellsUptoSaid : Prop := paceTellsUptoRow.holds Try.pinned (OpenSpec.upto paceTellsSpec)

/-- 'quarrellaw22.PaceMakes', WHERE WHAT IT READS IS OF BULK AT MOST 1048576: true; the input reads as it did. -/
def paceMakesUptoRow : OpenClaim := { program := "ytffeidjalphemaa", sum := "a0e9fcab64797d2ec7c6d57041337108a9118d7e1c17c8b96ce51af5e4e28e4c", func := "quarrel/quarrellaw22.PaceMakes", spec := "paceMakes", unfollowed := true, recurses := true, apart := false, narrowed := true }
def PaceMakesUptoSaid : Prop := paceMakesUptoRow.holds Try.pinned (OpenSpec.upto paceMakesSpec)

/-- 'quarrellaw22.PaceFair', WHERE WHAT IT READS IS OF BULK AT MOST 1048576: true; the input reads as it did. -/
def paceFairUptoRow : OpenClaim := { program := "ytffeidjalphemaa", sum := "a0e9fcab64797d2ec7c6d57041337108a9118d7e1c17c8b96ce51af5e4e28e4c", func := "quarrel/quarrellaw22.PaceFair", spec := "paceFair", unfollowed := true, recurses := true, apart := false, narrowed := true }
def PaceFairUptoSaid : Prop := paceFairUptoRow.holds Try.pinned (OpenSpec.upto paceFairSpec)

/-- 'quarrellaw22.PaceKeeps', WHERE WHAT IT READS IS OF BULK AT MOST 1048576: true; the input reads as it did. -/
def paceKeepsUptoRow : OpenClaim := { program := "ytffeidjalphemaa", sum := "a0e9fcab64797d2ec7c6d57041337108a9118d7e1c17c8b96ce51af5e4e28e4c", func := "quarrel/quarrellaw22.PaceKeeps", spec := "paceKeeps", unfollowed := true, recurses := true, apart := false, narrowed := true }
def PaceKeepsUptoSaid : Prop := paceKeepsUptoRow.holds Try.pinned (OpenSpec.upto paceKeepsSpec)

/-- 'quarrellaw22.PaceMore', WHERE WHAT IT READS IS OF BULK AT MOST 1048576: true; the input reads as it did. -/
def paceMoreUptoRow : OpenClaim := { program := "ytffeidjalphemaa", sum := "a0e9fcab64797d2ec7c6d57041337108a9118d7e1c17c8b96ce51af5e4e28e4c", func := "quarrel/quarrellaw22.PaceMore", spec := "paceMore", unfollowed := true, recurses := true, apart := false, narrowed := true }
def PaceMoreUptoSaid : Prop := paceMoreUptoRow.holds Try.pinned (OpenSpec.upto paceMoreSpec)

/-- 'quarrellaw22.PaceBegins', WHERE WHAT IT READS IS OF BULK AT MOST 1048576: true; the input reads as it did. -/
def paceBeginsUptoRow : OpenClaim := { program := "ytffeidjalphemaa", sum := "a0e9fcab64797d2ec7c6d57041337108a9118d7e1c17c8b96ce51af5e4e28e4c", func := "quarrel/quarrellaw22.PaceBegins", spec := "paceBegins", unfollowed := true, recurses := true, apart := false, narrowed := true }
def PaceBeginsUptoSaid : Prop := paceBeginsUptoRow.holds Try.pinned (OpenSpec.upto paceBeginsSpec)

end Rows
end Go.Proofs.Ytffeidjalphemaa
