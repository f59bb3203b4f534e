/-
  No cell of these rows narrows 'for every input' (looked for: loops, veiled, ifaces, maps, wideKeys, modest, calm, conditions, laid).
  DERIVED. THE GIVEN ROWS OF THIS SEAT. 5 by the template 'for every input the law returns true; each argument reads behind the call as it read before'; 0 by the template 'total and deterministic' (their statements: YtcfpgecchappoaaTotals.lean).
  GIVEN WITH THE SEED: the statements are not yours to turn. If you find one false, say at which input.
  Laid BY PROGRAM, IN A SANDBOX (cutbox-rows.mjs): the forced cells as the released guide's own fill.sh prints them over the translation e38aff4ad8e8b4d3… (all of the seat's roots in one cut). By AI agents, Wed Nov 11 2026. No macro, syntax, notation, axiom, sorry.
-/
import Derived.Test.YtcfpgecchappoaaChecked
import GoSem.Claim
import GoSem.ClaimJoined
import GoSem.ClaimMapViews
import Derived.JoinedTies
import Derived.KernelRfl
namespace Go.Proofs.Ytcfpgecchappoaa
/- THE CELL 'sum', in the pinned program and in every row, IS THE sha256 OF THE DUMP (.gsa) THAT YtcfpgecchappoaaProg.lean LOADS. Nothing in Lean hashes anything: it is a label: what it is worth is what the hold of that sum in a sandbox is worth. -/
noncomputable def Try.pinned : Pinned := { name := "ytcfpgecchappoaa", sum := "e38aff4ad8e8b4d3af03188339b4d47171de1a67b57465ede0524c0b5874c3a7", checked := Try.checked }
namespace Rows
def none {H : Type} : Left H := { results := [], args := [] }

/-- 'quarrellaw13.FloorDraws': WHATEVER THE INPUT: true; the input reads as it did. -/
def floorDrawsSpec : ChangeSpec := { name := "floorDraws", fn := fun _ => fun
  | [d1, d2] => { results := [.lit (.bool true)], args := [d1, d2] }
  | _ => none }
def floorDrawsRow : OpenClaim := { program := "ytcfpgecchappoaa", sum := "e38aff4ad8e8b4d3af03188339b4d47171de1a67b57465ede0524c0b5874c3a7", func := "quarrel/quarrellaw13.FloorDraws", spec := "floorDraws", apart := false }
def FloorDrawsSaid : Prop := floorDrawsRow.holds Try.pinned (OpenSpec.ofChange floorDrawsSpec)

/-- ITS FALSE NEIGHBOUR: 'it returns false'. Refute it at one input. -/
def floorDrawsWrong : ChangeSpec := { name := "floorDraws", fn := fun _ => fun
  | [d1, d2] => { results := [.lit (.bool false)], args := [d1, d2] }
  | _ => none }
def FloorDrawsWrongFalsely : Prop := floorDrawsRow.holds Try.pinned (OpenSpec.ofChange floorDrawsWrong)

/-- 'quarrellaw13.FloorNotes': WHATEVER THE INPUT: true; the input reads as it did. -/
def floorNotesSpec : ChangeSpec := { name := "floorNotes", fn := fun _ => fun
  | [d] => { results := [.lit (.bool true)], args := [d] }
  | _ => none }
def floorNotesRow : OpenClaim := { program := "ytcfpgecchappoaa", sum := "e38aff4ad8e8b4d3af03188339b4d47171de1a67b57465ede0524c0b5874c3a7", func := "quarrel/quarrellaw13.FloorNotes", spec := "floorNotes", apart := false }
def FloorNotesSaid : Prop := floorNotesRow.holds Try.pinned (OpenSpec.ofChange floorNotesSpec)

/-- ITS FALSE NEIGHBOUR: 'it returns false'. Refute it at one input. -/
def floorNotesWrong : ChangeSpec := { name := "floorNotes", fn := fun _ => fun
  | [d] => { results := [.lit (.bool false)], args := [d] }
  | _ => none }
def FloorNotesWrongFalsely : Prop := floorNotesRow.holds Try.pinned (OpenSpec.ofChange floorNotesWrong)

/-- 'quarrellaw13.FloorNone': WHATEVER THE INPUT: true; the input reads as it did. -/
def floorNoneSpec : ChangeSpec := { name := "floorNone", fn := fun _ => fun
  | [d1, d2] => { results := [.lit (.bool true)], args := [d1, d2] }
  | _ => none }
def floorNoneRow : OpenClaim := { program := "ytcfpgecchappoaa", sum := "e38aff4ad8e8b4d3af03188339b4d47171de1a67b57465ede0524c0b5874c3a7", func := "quarrel/quarrellaw13.FloorNone", spec := "floorNone", unfollowed := true, recurses := true, apart := false }
def FloorNoneSaid : Prop := floorNoneRow.holds Try.pinned (OpenSpec.ofChange floorNoneSpec)

/-- ITS FALSE NEIGHBOUR: 'it returns false'. Refute it at one input. -/
def floorNoneWrong : ChangeSpec := { name := "floorNone", fn := fun _ => fun
  | [d1, d2] => { results := [.lit (.bool false)], args := [d1, d2] }
  | _ => none }
def FloorNoneWrongFalsely : Prop := floorNoneRow.holds Try.pinned (OpenSpec.ofChange floorNoneWrong)

/-- 'quarrellaw13.FloorMade': WHATEVER THE INPUT: true; the input reads as it did. -/
def floorMadeSpec : ChangeSpec := { name := "floorMade", fn := fun _ => fun
  | [d1, d2] => { results := [.lit (.bool true)], args := [d1, d2] }
  | _ => none }
def floorMadeRow : OpenClaim := { program := "ytcfpgecchappoaa", sum := "e38aff4ad8e8b4d3af03188339b4d47171de1a67b57465ede0524c0b5874c3a7", func := "quarrel/quarrellaw13.FloorMade", spec := "floorMade", unfollowed := true, recurses := true, apart := false }
def FloorMadeSaid : Prop := floorMadeRow.holds Try.pinned (OpenSpec.ofChange floorMadeSpec)

/-- ITS FALSE NEIGHBOUR: 'it returns false'. Refute it at one input. -/
def floorMadeWrong : ChangeSpec := { name := "floorMade", fn := fun _ => fun
  | [d1, d2] => { results := [.lit (.bool false)], args := [d1, d2] }
  | _ => none }
def FloorMadeWrongFalsely : Prop := floorMadeRow.holds Try.pinned (OpenSpec.ofChange floorMadeWrong)

/-- 'quarrellaw13.FloorOwn': WHATEVER THE INPUT: true; the input reads as it did. -/
def floorOwnSpec : ChangeSpec := { name := "floorOwn", fn := fun _ => fun
  | [d1, d2, d3] => { results := [.lit (.bool true)], args := [d1, d2, d3] }
  | _ => none }
def floorOwnRow : OpenClaim := { program := "ytcfpgecchappoaa", sum := "e38aff4ad8e8b4d3af03188339b4d47171de1a67b57465ede0524c0b5874c3a7", func := "quarrel/quarrellaw13.FloorOwn", spec := "floorOwn", unfollowed := true, recurses := true, apart := false }
def FloorOwnSaid : Prop := floorOwnRow.holds Try.pinned (OpenSpec.ofChange floorOwnSpec)

/-- ITS FALSE NEIGHBOUR: 'it returns false'. Refute it at one input. -/
def floorOwnWrong : ChangeSpec := { name := "floorOwn", fn := fun _ => fun
  | [d1, d2, d3] => { results := [.lit (.bool false)], args := [d1, d2, d3] }
  | _ => none }
def FloorOwnWrongFalsely : Prop := floorOwnRow.holds Try.pinned (OpenSpec.ofChange floorOwnWrong)

/- THE SECOND FORM. 'bulk': how many values and letters a reading holds, each counted each time it is reached (what is shared counts as often as it is met; a slice's spare places count too). A statement '..UptoSaid' is the law's where the arguments, and the package variables that the reading takes, are together of bulk at most 1048576: NARROWER than '..Said'. Prove '..Said' where nothing that the law and all that it calls make is longer than what came in: it says more and counts as full. Else prove '..UptoSaid'. A law counts once. -/
mutual
def uptoBulk {H : Type} : DataW H → Nat
  | .lit (.string bytes) => bytes.length + 1
  | .lit _ => 1
  | .nil => 1
  | .ptr d => uptoBulk d + 1
  | .slice elems spare => uptoBulkAll elems + uptoBulkAll spare + 1
  | .agg parts => uptoBulkAll parts + 1
  | .iface _ d => uptoBulk d + 1
  | .map entries => uptoBulkEntries entries + 1
  | .held _ => 1
def uptoBulkAll {H : Type} : List (DataW H) → Nat
  | [] => 0
  | d :: r => uptoBulk d + uptoBulkAll r
def uptoBulkEntries {H : Type} : List (Lit × DataW H) → Nat
  | [] => 0
  | x :: r => uptoBulkEntry x + uptoBulkEntries r
def uptoBulkEntry {H : Type} : Lit × DataW H → Nat
  | (.string bytes, d) => bytes.length + uptoBulk d + 1
  | (_, d) => uptoBulk d + 1
 end
def uptoSmall : (H : Type) → List (DataW H) → Bool := fun _ ds => decide (uptoBulkAll ds ≤ 1048576)
def OpenSpec.upto (s : _root_.Go.ChangeSpec) : _root_.Go.OpenSpec := { _root_.Go.OpenSpec.ofChange s with cond := some uptoSmall }

/-- 'quarrellaw13.FloorDraws', WHERE WHAT IT READS IS OF BULK AT MOST 1048576: true; the input reads as it did. -/
def floorDrawsUptoRow : OpenClaim := { program := "ytcfpgecchappoaa", sum := "e38aff4ad8e8b4d3af03188339b4d47171de1a67b57465ede0524c0b5874c3a7", func := "quarrel/quarrellaw13.FloorDraws", spec := "floorDraws", apart := false, narrowed := true }
def FloorDrawsUptoSaid : Prop := floorDrawsUptoRow.holds Try.pinned (OpenSpec.upto floorDrawsSpec)

/-- 'quarrellaw13.FloorNotes', WHERE WHAT IT READS IS OF BULK AT MOST 1048576: true; the input reads as it did. -/
def floorNotesUptoRow : OpenClaim := { program := "ytcfpgecchappoaa", sum := "e38aff4ad8e8b4d3af03188339b4d47171de1a67b57465ede0524c0b5874c3a7", func := "quarrel/quarrellaw13.FloorNotes", spec := "floorNotes", apart := false, narrowed := true }
def FloorNotesUptoSaid : Prop := floorNotesUptoRow.holds Try.pinned (OpenSpec.upto floorNotesSpec)

/-- 'quarrellaw13.FloorNone', WHERE WHAT IT READS IS OF BULK AT MOST 1048576: true; the input reads as it did. -/
def floorNoneUptoRow : OpenClaim := { program := "ytcfpgecchappoaa", sum := "e38aff4ad8e8b4d3af03188339b4d47171de1a67b57465ede0524c0b5874c3a7", func := "quarrel/quarrellaw13.FloorNone", spec := "floorNone", unfollowed := true, recurses := true, apart := false, narrowed := true }
def FloorNoneUptoSaid : Prop := floorNoneUptoRow.holds Try.pinned (OpenSpec.upto floorNoneSpec)

/-- 'quarrellaw13.FloorMade', WHERE WHAT IT READS IS OF BULK AT MOST 1048576: true; the input reads as it did. -/
def floorMadeUptoRow : OpenClaim := { program := "ytcfpgecchappoaa", sum := "e38aff4ad8e8b4d3af03188339b4d47171de1a67b57465ede0524c0b5874c3a7", func := "quarrel/quarrellaw13.FloorMade", spec := "floorMade", unfollowed := true, recurses := true, apart := false, narrowed := true }
def FloorMadeUptoSaid : Prop := floorMadeUptoRow.holds Try.pinned (OpenSpec.upto floorMadeSpec)

/-- 'quarrellaw13.FloorOwn', WHERE WHAT IT READS IS OF BULK AT MOST 1048576: true; the input reads as it did. -/
def floorOwnUptoRow : OpenClaim := { program := "ytcfpgecchappoaa", sum := "e38aff4ad8e8b4d3af03188339b4d47171de1a67b57465ede0524c0b5874c3a7", func := "quarrel/quarrellaw13.FloorOwn", spec := "floorOwn", unfollowed := true, recurses := true, apart := false, narrowed := true }
def FloorOwnUptoSaid : Prop := floorOwnUptoRow.holds Try.pinned (OpenSpec.upto floorOwnSpec)

end Rows
end Go.Proofs.Ytcfpgecchappoaa
