/-
  No cell of these rows narrows 'for every input' (looked for: loops, veiled, ifaces, maps, wideKeys, modest, calm, conditions, laid).
  DERIVED. THE GIVEN ROWS OF THIS SEAT. 10 by the template 'for every input the law returns true; each argument reads behind the call as it read before'; 0 by the template 'total and deterministic' (their statements: YtkabgkkklegaoaaTotals.lean).
  GIVEN WITH THE SEED: the statements are not yours to turn. If you find one false, say at which input.
  Laid BY PROGRAM, IN A SANDBOX (cutbox-rows.mjs): the forced cells as the released guide's own fill.sh prints them over the translation 259100b53e8a1143… (all of the seat's roots in one cut). By AI agents, Wed Nov 11 2026. No macro, syntax, notation, axiom, sorry.
-/
import Derived.Test.YtkabgkkklegaoaaChecked
import GoSem.Claim
import GoSem.ClaimJoined
import GoSem.ClaimMapViews
import Derived.JoinedTies
import Derived.KernelRfl
namespace Go.Proofs.Ytkabgkkklegaoaa
/- THE CELL 'sum', in the pinned program and in every row, IS THE sha256 OF THE DUMP (.gsa) THAT YtkabgkkklegaoaaProg.lean LOADS. Nothing in Lean hashes anything: it is a label: what it is worth is what the hold of that sum in a sandbox is worth. -/
noncomputable def Try.pinned : Pinned := { name := "ytkabgkkklegaoaa", sum := "259100b53e8a1143823370a5be5a3dbf708d1d6b7feaf48349456e8ca35fc613", checked := Try.checked }
namespace Rows
def none {H : Type} : Left H := { results := [], args := [] }

/-- 'quarrellaw01.WordActs': WHATEVER THE INPUT: true; the input reads as it did. -/
def wordActsSpec : ChangeSpec := { name := "wordActs", fn := fun _ => fun
  | [d1, d2] => { results := [.lit (.bool true)], args := [d1, d2] }
  | _ => none }
def wordActsRow : OpenClaim := { program := "ytkabgkkklegaoaa", sum := "259100b53e8a1143823370a5be5a3dbf708d1d6b7feaf48349456e8ca35fc613", func := "quarrel/quarrellaw01.WordActs", spec := "wordActs", unfollowed := true, recurses := true, apart := false }
def WordActsSaid : Prop := wordActsRow.holds Try.pinned (OpenSpec.ofChange wordActsSpec)

/-- ITS FALSE NEIGHBOUR: 'it returns false'. Refute it at one input. -/
def wordActsWrong : ChangeSpec := { name := "wordActs", fn := fun _ => fun
  | [d1, d2] => { results := [.lit (.bool false)], args := [d1, d2] }
  | _ => none }
def WordActsWrongFalsely : Prop := wordActsRow.holds Try.pinned (OpenSpec.ofChange wordActsWrong)

/-- 'quarrellaw01.WordOnce': WHATEVER THE INPUT: true; the input reads as it did. -/
def wordOnceSpec : ChangeSpec := { name := "wordOnce", fn := fun _ => fun
  | [d1, d2, d3] => { results := [.lit (.bool true)], args := [d1, d2, d3] }
  | _ => none }
def wordOnceRow : OpenClaim := { program := "ytkabgkkklegaoaa", sum := "259100b53e8a1143823370a5be5a3dbf708d1d6b7feaf48349456e8ca35fc613", func := "quarrel/quarrellaw01.WordOnce", spec := "wordOnce", unfollowed := true, recurses := true, apart := false }
def WordOnceSaid : Prop := wordOnceRow.holds Try.pinned (OpenSpec.ofChange wordOnceSpec)

/-- ITS FALSE NEIGHBOUR: 'it returns false'. Refute it at one input. -/
def wordOnceWrong : ChangeSpec := { name := "wordOnce", fn := fun _ => fun
  | [d1, d2, d3] => { results := [.lit (.bool false)], args := [d1, d2, d3] }
  | _ => none }
def WordOnceWrongFalsely : Prop := wordOnceRow.holds Try.pinned (OpenSpec.ofChange wordOnceWrong)

/-- 'quarrellaw01.WordCounts': WHATEVER THE INPUT: true; the input reads as it did. -/
def wordCountsSpec : ChangeSpec := { name := "wordCounts", fn := fun _ => fun
  | [d1, d2, d3] => { results := [.lit (.bool true)], args := [d1, d2, d3] }
  | _ => none }
def wordCountsRow : OpenClaim := { program := "ytkabgkkklegaoaa", sum := "259100b53e8a1143823370a5be5a3dbf708d1d6b7feaf48349456e8ca35fc613", func := "quarrel/quarrellaw01.WordCounts", spec := "wordCounts", unfollowed := true, recurses := true, apart := false }
def WordCountsSaid : Prop := wordCountsRow.holds Try.pinned (OpenSpec.ofChange wordCountsSpec)

/-- ITS FALSE NEIGHBOUR: 'it returns false'. Refute it at one input. -/
def wordCountsWrong : ChangeSpec := { name := "wordCounts", fn := fun _ => fun
  | [d1, d2, d3] => { results := [.lit (.bool false)], args := [d1, d2, d3] }
  | _ => none }
def WordCountsWrongFalsely : Prop := wordCountsRow.holds Try.pinned (OpenSpec.ofChange wordCountsWrong)

/-- 'quarrellaw02.ArenaKeeps': WHATEVER THE INPUT: true; the input reads as it did. -/
def arenaKeepsSpec : ChangeSpec := { name := "arenaKeeps", fn := fun _ => fun
  | [d1, d2] => { results := [.lit (.bool true)], args := [d1, d2] }
  | _ => none }
def arenaKeepsRow : OpenClaim := { program := "ytkabgkkklegaoaa", sum := "259100b53e8a1143823370a5be5a3dbf708d1d6b7feaf48349456e8ca35fc613", func := "quarrel/quarrellaw02.ArenaKeeps", spec := "arenaKeeps", apart := false }
def ArenaKeepsSaid : Prop := arenaKeepsRow.holds Try.pinned (OpenSpec.ofChange arenaKeepsSpec)

/-- ITS FALSE NEIGHBOUR: 'it returns false'. Refute it at one input. -/
def arenaKeepsWrong : ChangeSpec := { name := "arenaKeeps", fn := fun _ => fun
  | [d1, d2] => { results := [.lit (.bool false)], args := [d1, d2] }
  | _ => none }
def ArenaKeepsWrongFalsely : Prop := arenaKeepsRow.holds Try.pinned (OpenSpec.ofChange arenaKeepsWrong)

/-- 'quarrellaw02.ArenaActs': WHATEVER THE INPUT: true; the input reads as it did. -/
def arenaActsSpec : ChangeSpec := { name := "arenaActs", fn := fun _ => fun
  | [d1, d2] => { results := [.lit (.bool true)], args := [d1, d2] }
  | _ => none }
def arenaActsRow : OpenClaim := { program := "ytkabgkkklegaoaa", sum := "259100b53e8a1143823370a5be5a3dbf708d1d6b7feaf48349456e8ca35fc613", func := "quarrel/quarrellaw02.ArenaActs", spec := "arenaActs", apart := false }
def ArenaActsSaid : Prop := arenaActsRow.holds Try.pinned (OpenSpec.ofChange arenaActsSpec)

/-- ITS FALSE NEIGHBOUR: 'it returns false'. Refute it at one input. -/
def arenaActsWrong : ChangeSpec := { name := "arenaActs", fn := fun _ => fun
  | [d1, d2] => { results := [.lit (.bool false)], args := [d1, d2] }
  | _ => none }
def ArenaActsWrongFalsely : Prop := arenaActsRow.holds Try.pinned (OpenSpec.ofChange arenaActsWrong)

/-- 'quarrellaw02.ArenaNone': WHATEVER THE INPUT: true; the input reads as it did. -/
def arenaNoneSpec : ChangeSpec := { name := "arenaNone", fn := fun _ => fun
  | [d1, d2] => { results := [.lit (.bool true)], args := [d1, d2] }
  | _ => none }
def arenaNoneRow : OpenClaim := { program := "ytkabgkkklegaoaa", sum := "259100b53e8a1143823370a5be5a3dbf708d1d6b7feaf48349456e8ca35fc613", func := "quarrel/quarrellaw02.ArenaNone", spec := "arenaNone", apart := false }
def ArenaNoneSaid : Prop := arenaNoneRow.holds Try.pinned (OpenSpec.ofChange arenaNoneSpec)

/-- ITS FALSE NEIGHBOUR: 'it returns false'. Refute it at one input. -/
def arenaNoneWrong : ChangeSpec := { name := "arenaNone", fn := fun _ => fun
  | [d1, d2] => { results := [.lit (.bool false)], args := [d1, d2] }
  | _ => none }
def ArenaNoneWrongFalsely : Prop := arenaNoneRow.holds Try.pinned (OpenSpec.ofChange arenaNoneWrong)

/-- 'quarrellaw02.ArenaOwn': WHATEVER THE INPUT: true; the input reads as it did. -/
def arenaOwnSpec : ChangeSpec := { name := "arenaOwn", fn := fun _ => fun
  | [d1, d2] => { results := [.lit (.bool true)], args := [d1, d2] }
  | _ => none }
def arenaOwnRow : OpenClaim := { program := "ytkabgkkklegaoaa", sum := "259100b53e8a1143823370a5be5a3dbf708d1d6b7feaf48349456e8ca35fc613", func := "quarrel/quarrellaw02.ArenaOwn", spec := "arenaOwn", apart := false }
def ArenaOwnSaid : Prop := arenaOwnRow.holds Try.pinned (OpenSpec.ofChange arenaOwnSpec)

/-- ITS FALSE NEIGHBOUR: 'it returns false'. Refute it at one input. -/
def arenaOwnWrong : ChangeSpec := { name := "arenaOwn", fn := fun _ => fun
  | [d1, d2] => { results := [.lit (.bool false)], args := [d1, d2] }
  | _ => none }
def ArenaOwnWrongFalsely : Prop := arenaOwnRow.holds Try.pinned (OpenSpec.ofChange arenaOwnWrong)

/-- 'quarrellaw01.WordNone': WHATEVER THE INPUT: true; the input reads as it did. -/
def wordNoneSpec : ChangeSpec := { name := "wordNone", fn := fun _ => fun
  | [d1, d2] => { results := [.lit (.bool true)], args := [d1, d2] }
  | _ => none }
def wordNoneRow : OpenClaim := { program := "ytkabgkkklegaoaa", sum := "259100b53e8a1143823370a5be5a3dbf708d1d6b7feaf48349456e8ca35fc613", func := "quarrel/quarrellaw01.WordNone", spec := "wordNone", unfollowed := true, recurses := true, apart := false }
def WordNoneSaid : Prop := wordNoneRow.holds Try.pinned (OpenSpec.ofChange wordNoneSpec)

/-- ITS FALSE NEIGHBOUR: 'it returns false'. Refute it at one input. -/
def wordNoneWrong : ChangeSpec := { name := "wordNone", fn := fun _ => fun
  | [d1, d2] => { results := [.lit (.bool false)], args := [d1, d2] }
  | _ => none }
def WordNoneWrongFalsely : Prop := wordNoneRow.holds Try.pinned (OpenSpec.ofChange wordNoneWrong)

/-- 'quarrellaw01.WordTickets': WHATEVER THE INPUT: true; the input reads as it did. -/
def wordTicketsSpec : ChangeSpec := { name := "wordTickets", fn := fun _ => fun
  | [d1, d2] => { results := [.lit (.bool true)], args := [d1, d2] }
  | _ => none }
def wordTicketsRow : OpenClaim := { program := "ytkabgkkklegaoaa", sum := "259100b53e8a1143823370a5be5a3dbf708d1d6b7feaf48349456e8ca35fc613", func := "quarrel/quarrellaw01.WordTickets", spec := "wordTickets", unfollowed := true, recurses := true, apart := false }
def WordTicketsSaid : Prop := wordTicketsRow.holds Try.pinned (OpenSpec.ofChange wordTicketsSpec)

/-- ITS FALSE NEIGHBOUR: 'it returns false'. Refute it at one input. -/
def wordTicketsWrong : ChangeSpec := { name := "wordTickets", fn := fun _ => fun
  | [d1, d2] => { results := [.lit (.bool false)], args := [d1, d2] }
  | _ => none }
def WordTicketsWrongFalsely : Prop := wordTicketsRow.holds Try.pinned (OpenSpec.ofChange wordTicketsWrong)

/-- 'quarrellaw01.WordRows': WHATEVER THE INPUT: true; the input reads as it did. -/
def wordRowsSpec : ChangeSpec := { name := "wordRows", fn := fun _ => fun
  | [d1, d2, d3] => { results := [.lit (.bool true)], args := [d1, d2, d3] }
  | _ => none }
def wordRowsRow : OpenClaim := { program := "ytkabgkkklegaoaa", sum := "259100b53e8a1143823370a5be5a3dbf708d1d6b7feaf48349456e8ca35fc613", func := "quarrel/quarrellaw01.WordRows", spec := "wordRows", unfollowed := true, recurses := true, apart := false }
def WordRowsSaid : Prop := wordRowsRow.holds Try.pinned (OpenSpec.ofChange wordRowsSpec)

/-- ITS FALSE NEIGHBOUR: 'it returns false'. Refute it at one input. -/
def wordRowsWrong : ChangeSpec := { name := "wordRows", fn := fun _ => fun
  | [d1, d2, d3] => { results := [.lit (.bool false)], args := [d1, d2, d3] }
  | _ => none }
def WordRowsWrongFalsely : Prop := wordRowsRow.holds Try.pinned (OpenSpec.ofChange wordRowsWrong)

/- THE SECOND FORM. 'bulk': how many values and letters a reading holds, each counted each time it is reached (what is shared counts as often as it is met; a slice's spare places count too). A statement '..UptoSaid' is the law's where the arguments, and the package variables that the reading takes, are together of bulk at most 1048576: NARROWER than '..Said'. Prove '..Said' where nothing that the law and all that it calls make is longer than what came in: it says more and counts as full. Else prove '..UptoSaid'. A law counts once. -/
mutual
def uptoBulk {H : Type} : DataW H → Nat
  | .lit (.string bytes) => bytes.length + 1
  | .lit _ => 1
  | .nil => 1
  | .ptr d => uptoBulk d + 1
  | .slice elems spare => uptoBulkAll elems + uptoBulkAll spare + 1
  | .agg parts => uptoBulkAll parts + 1
  | .iface _ d => uptoBulk d + 1
  | .map entries => uptoBulkEntries entries + 1
  | .held _ => 1
def uptoBulkAll {H : Type} : List (DataW H) → Nat
  | [] => 0
  | d :: r => uptoBulk d + uptoBulkAll r
def uptoBulkEntries {H : Type} : List (Lit × DataW H) → Nat
  | [] => 0
  | x :: r => uptoBulkEntry x + uptoBulkEntries r
def uptoBulkEntry {H : Type} : Lit × DataW H → Nat
  | (.string bytes, d) => bytes.length + uptoBulk d + 1
  | (_, d) => uptoBulk d + 1
 end
def uptoSmall : (H : Type) → List (DataW H) → Bool := fun _ ds => decide (uptoBulkAll ds ≤ 1048576)
def OpenSpec.upto (s : _root_.Go.ChangeSpec) : _root_.Go.OpenSpec := { _root_.Go.OpenSpec.ofChange s with cond := some uptoSmall }

/-- 'quarrellaw01.WordActs', WHERE WHAT IT READS IS OF BULK AT MOST 1048576: true; the input reads as it did. -/
def wordActsUptoRow : OpenClaim := { program := "ytkabgkkklegaoaa", sum := "259100b53e8a1143823370a5be5a3dbf708d1d6b7feaf48349456e8ca35fc613", func := "quarrel/quarrellaw01.WordActs", spec := "wordActs", unfollowed := true, recurses := true, apart := false, narrowed := true }
def WordActsUptoSaid : Prop := wordActsUptoRow.holds Try.pinned (OpenSpec.upto wordActsSpec)

/-- 'quarrellaw01.WordOnce', WHERE WHAT IT READS IS OF BULK AT MOST 1048576: true; the input reads as it did. -/
def wordOnceUptoRow : OpenClaim := { program := "ytkabgkkklegaoaa", sum := "259100b53e8a1143823370a5be5a3dbf708d1d6b7feaf48349456e8ca35fc613", func := "quarrel/quarrellaw01.WordOnce", spec := "wordOnce", unfollowed := true, recurses := true, apart := false, narrowed := true }
def WordOnceUptoSaid : Prop := wordOnceUptoRow.holds Try.pinned (OpenSpec.upto wordOnceSpec)

/-- 'quarrellaw01.WordCounts', WHERE WHAT IT READS IS OF BULK AT MOST 1048576: true; the input reads as it did. -/
def wordCountsUptoRow : OpenClaim := { program := "ytkabgkkklegaoaa", sum := "259100b53e8a1143823370a5be5a3dbf708d1d6b7feaf48349456e8ca35fc613", func := "quarrel/quarrellaw01.WordCounts", spec := "wordCounts", unfollowed := true, recurses := true, apart := false, narrowed := true }
def WordCountsUptoSaid : Prop := wordCountsUptoRow.holds Try.pinned (OpenSpec.upto wordCountsSpec)

/-- 'quarrellaw02.ArenaKeeps', WHERE WHAT IT READS IS OF BULK AT MOST 1048576: true; the input reads as it did. -/
def arenaKeepsUptoRow : OpenClaim := { program := "ytkabgkkklegaoaa", sum := "259100b53e8a1143823370a5be5a3dbf708d1d6b7feaf48349456e8ca35fc613", func := "quarrel/quarrellaw02.ArenaKeeps", spec := "arenaKeeps", apart := false, narrowed := true }
def ArenaKeepsUptoSaid : Prop := arenaKeepsUptoRow.holds Try.pinned (OpenSpec.upto arenaKeepsSpec)

/-- 'quarrellaw02.ArenaActs', WHERE WHAT IT READS IS OF BULK AT MOST 1048576: true; the input reads as it did. -/
def arenaActsUptoRow : OpenClaim := { program := "ytkabgkkklegaoaa", sum := "259100b53e8a1143823370a5be5a3dbf708d1d6b7feaf48349456e8ca35fc613", func := "quarrel/quarrellaw02.ArenaActs", spec := "arenaActs", apart := false, narrowed := true }
def ArenaActsUptoSaid : Prop := arenaActsUptoRow.holds Try.pinned (OpenSpec.upto arenaActsSpec)

/-- 'quarrellaw02.ArenaNone', WHERE WHAT IT READS IS OF BULK AT MOST 1048576: true; the input reads as it did. -/
def arenaNoneUptoRow : OpenClaim := { program := "ytkabgkkklegaoaa", sum := "259100b53e8a1143823370a5be5a3dbf708d1d6b7feaf48349456e8ca35fc613", func := "quarrel/quarrellaw02.ArenaNone", spec := "arenaNone", apart := false, narrowed := true }
def ArenaNoneUptoSaid : Prop := arenaNoneUptoRow.holds Try.pinned (OpenSpec.upto arenaNoneSpec)

/-- 'quarrellaw02.ArenaOwn', WHERE WHAT IT READS IS OF BULK AT MOST 1048576: true; the input reads as it did. -/
def arenaOwnUptoRow : OpenClaim := { program := "ytkabgkkklegaoaa", sum := "259100b53e8a1143823370a5be5a3dbf708d1d6b7feaf48349456e8ca35fc613", func := "quarrel/quarrellaw02.ArenaOwn", spec := "arenaOwn", apart := false, narrowed := true }
def ArenaOwnUptoSaid : Prop := arenaOwnUptoRow.holds Try.pinned (OpenSpec.upto arenaOwnSpec)

/-- 'quarrellaw01.WordNone', WHERE WHAT IT READS IS OF BULK AT MOST 1048576: true; the input reads as it did. -/
def wordNoneUptoRow : OpenClaim := { program := "ytkabgkkklegaoaa", sum := "259100b53e8a1143823370a5be5a3dbf708d1d6b7feaf48349456e8ca35fc613", func := "quarrel/quarrellaw01.WordNone", spec := "wordNone", unfollowed := true, recurses := true, apart := false, narrowed := true }
def WordNoneUptoSaid : Prop := wordNoneUptoRow.holds Try.pinned (OpenSpec.upto wordNoneSpec)

/-- 'quarrellaw01.WordTickets', WHERE WHAT IT READS IS OF BULK AT MOST 1048576: true; the input reads as it did. -/
def wordTicketsUptoRow : OpenClaim := { program := "ytkabgkkklegaoaa", sum := "259100b53e8a1143823370a5be5a3dbf708d1d6b7feaf48349456e8ca35fc613", func := "quarrel/quarrellaw01.WordTickets", spec := "wordTickets", unfollowed := true, recurses := true, apart := false, narrowed := true }
def WordTicketsUptoSaid : Prop := wordTicketsUptoRow.holds Try.pinned (OpenSpec.upto wordTicketsSpec)

/-- 'quarrellaw01.WordRows', WHERE WHAT IT READS IS OF BULK AT MOST 1048576: true; the input reads as it did. -/
def wordRowsUptoRow : OpenClaim := { program := "ytkabgkkklegaoaa", sum := "259100b53e8a1143823370a5be5a3dbf708d1d6b7feaf48349456e8ca35fc613", func := "quarrel/quarrellaw01.WordRows", spec := "wordRows", unfollowed := true, recurses := true, apart := false, narrowed := true }
def WordRowsUptoSaid : Prop := wordRowsUptoRow.holds Try.pinned (OpenSpec.upto wordRowsSpec)

end Rows
end Go.Proofs.Ytkabgkkklegaoaa
