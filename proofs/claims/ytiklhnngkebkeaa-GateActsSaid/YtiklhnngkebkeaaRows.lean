/-
  No cell of these rows narrows 'for every input' (looked for: loops, veiled, ifaces, maps, wideKeys, modest, calm, conditions, laid).
  DERIVED. THE GIVEN ROWS OF THIS SEAT. 6 by the template 'for every input the law returns true; each argument reads behind the call as it read before'; 0 by the template 'total and deterministic' (their statements: YtiklhnngkebkeaaTotals.lean).
  GIVEN WITH THE SEED: the statements are not yours to turn. If you find one false, say at which input.
  Laid BY PROGRAM, IN A SANDBOX (cutbox-rows.mjs): the forced cells as the released guide's own fill.sh prints them over the translation aac322c61c3cde55… (all of the seat's roots in one cut). By AI agents, Wed Nov 11 2026. No macro, syntax, notation, axiom, sorry.
-/
import Derived.Test.YtiklhnngkebkeaaChecked
import GoSem.Claim
import GoSem.ClaimJoined
import GoSem.ClaimMapViews
import Derived.JoinedTies
import Derived.KernelRfl
namespace Go.Proofs.Ytiklhnngkebkeaa
/- THE CELL 'sum', in the pinned program and in every row, IS THE sha256 OF THE DUMP (.gsa) THAT YtiklhnngkebkeaaProg.lean LOADS. Nothing in Lean hashes anything: it is a label: what it is worth is what the hold of that sum in a sandbox is worth. -/
noncomputable def Try.pinned : Pinned := { name := "ytiklhnngkebkeaa", sum := "aac322c61c3cde5557cf6182122bf0920c7dbd5b39ea5c4ecb704d929df9367a", checked := Try.checked }
namespace Rows
def none {H : Type} : Left H := { results := [], args := [] }

/-- 'quarrellaw10.GateWhat': WHATEVER THE INPUT: true; the input reads as it did. -/
def gateWhatSpec : ChangeSpec := { name := "gateWhat", fn := fun _ => fun
  | [d1, d2, d3, d4, d5] => { results := [.lit (.bool true)], args := [d1, d2, d3, d4, d5] }
  | _ => none }
def gateWhatRow : OpenClaim := { program := "ytiklhnngkebkeaa", sum := "aac322c61c3cde5557cf6182122bf0920c7dbd5b39ea5c4ecb704d929df9367a", func := "quarrel/quarrellaw10.GateWhat", spec := "gateWhat", unfollowed := true, recurses := true, apart := false }
def GateWhatSaid : Prop := gateWhatRow.holds Try.pinned (OpenSpec.ofChange gateWhatSpec)

/-- ITS FALSE NEIGHBOUR: 'it returns false'. Refute it at one input. -/
def gateWhatWrong : ChangeSpec := { name := "gateWhat", fn := fun _ => fun
  | [d1, d2, d3, d4, d5] => { results := [.lit (.bool false)], args := [d1, d2, d3, d4, d5] }
  | _ => none }
def GateWhatWrongFalsely : Prop := gateWhatRow.holds Try.pinned (OpenSpec.ofChange gateWhatWrong)

/-- 'quarrellaw10.GateFalls': WHATEVER THE INPUT: true; the input reads as it did. -/
def gateFallsSpec : ChangeSpec := { name := "gateFalls", fn := fun _ => fun
  | [d] => { results := [.lit (.bool true)], args := [d] }
  | _ => none }
def gateFallsRow : OpenClaim := { program := "ytiklhnngkebkeaa", sum := "aac322c61c3cde5557cf6182122bf0920c7dbd5b39ea5c4ecb704d929df9367a", func := "quarrel/quarrellaw10.GateFalls", spec := "gateFalls", unfollowed := true, recurses := true, apart := false }
def GateFallsSaid : Prop := gateFallsRow.holds Try.pinned (OpenSpec.ofChange gateFallsSpec)

/-- ITS FALSE NEIGHBOUR: 'it returns false'. Refute it at one input. -/
def gateFallsWrong : ChangeSpec := { name := "gateFalls", fn := fun _ => fun
  | [d] => { results := [.lit (.bool false)], args := [d] }
  | _ => none }
def GateFallsWrongFalsely : Prop := gateFallsRow.holds Try.pinned (OpenSpec.ofChange gateFallsWrong)

/-- 'quarrellaw10.GateStays': WHATEVER THE INPUT: true; the input reads as it did. -/
def gateStaysSpec : ChangeSpec := { name := "gateStays", fn := fun _ => fun
  | [d1, d2, d3, d4, d5] => { results := [.lit (.bool true)], args := [d1, d2, d3, d4, d5] }
  | _ => none }
def gateStaysRow : OpenClaim := { program := "ytiklhnngkebkeaa", sum := "aac322c61c3cde5557cf6182122bf0920c7dbd5b39ea5c4ecb704d929df9367a", func := "quarrel/quarrellaw10.GateStays", spec := "gateStays", unfollowed := true, recurses := true, apart := false }
def GateStaysSaid : Prop := gateStaysRow.holds Try.pinned (OpenSpec.ofChange gateStaysSpec)

/-- ITS FALSE NEIGHBOUR: 'it returns false'. Refute it at one input. -/
def gateStaysWrong : ChangeSpec := { name := "gateStays", fn := fun _ => fun
  | [d1, d2, d3, d4, d5] => { results := [.lit (.bool false)], args := [d1, d2, d3, d4, d5] }
  | _ => none }
def GateStaysWrongFalsely : Prop := gateStaysRow.holds Try.pinned (OpenSpec.ofChange gateStaysWrong)

/-- 'quarrellaw10.GateActs': WHATEVER THE INPUT: true; the input reads as it did. -/
def gateActsSpec : ChangeSpec := { name := "gateActs", fn := fun _ => fun
  | [d1, d2] => { results := [.lit (.bool true)], args := [d1, d2] }
  | _ => none }
def gateActsRow : OpenClaim := { program := "ytiklhnngkebkeaa", sum := "aac322c61c3cde5557cf6182122bf0920c7dbd5b39ea5c4ecb704d929df9367a", func := "quarrel/quarrellaw10.GateActs", spec := "gateActs", unfollowed := true, recurses := true, apart := false }
def GateActsSaid : Prop := gateActsRow.holds Try.pinned (OpenSpec.ofChange gateActsSpec)

/-- ITS FALSE NEIGHBOUR: 'it returns false'. Refute it at one input. -/
def gateActsWrong : ChangeSpec := { name := "gateActs", fn := fun _ => fun
  | [d1, d2] => { results := [.lit (.bool false)], args := [d1, d2] }
  | _ => none }
def GateActsWrongFalsely : Prop := gateActsRow.holds Try.pinned (OpenSpec.ofChange gateActsWrong)

/-- 'quarrellaw10.GateNone': WHATEVER THE INPUT: true; the input reads as it did. -/
def gateNoneSpec : ChangeSpec := { name := "gateNone", fn := fun _ => fun
  | [d1, d2, d3] => { results := [.lit (.bool true)], args := [d1, d2, d3] }
  | _ => none }
def gateNoneRow : OpenClaim := { program := "ytiklhnngkebkeaa", sum := "aac322c61c3cde5557cf6182122bf0920c7dbd5b39ea5c4ecb704d929df9367a", func := "quarrel/quarrellaw10.GateNone", spec := "gateNone", unfollowed := true, recurses := true, apart := false }
def GateNoneSaid : Prop := gateNoneRow.holds Try.pinned (OpenSpec.ofChange gateNoneSpec)

/-- ITS FALSE NEIGHBOUR: 'it returns false'. Refute it at one input. -/
def gateNoneWrong : ChangeSpec := { name := "gateNone", fn := fun _ => fun
  | [d1, d2, d3] => { results := [.lit (.bool false)], args := [d1, d2, d3] }
  | _ => none }
def GateNoneWrongFalsely : Prop := gateNoneRow.holds Try.pinned (OpenSpec.ofChange gateNoneWrong)

/-- 'quarrellaw10.GateBeats': WHATEVER THE INPUT: true; the input reads as it did. -/
def gateBeatsSpec : ChangeSpec := { name := "gateBeats", fn := fun _ => fun
  | [d1, d2, d3, d4] => { results := [.lit (.bool true)], args := [d1, d2, d3, d4] }
  | _ => none }
def gateBeatsRow : OpenClaim := { program := "ytiklhnngkebkeaa", sum := "aac322c61c3cde5557cf6182122bf0920c7dbd5b39ea5c4ecb704d929df9367a", func := "quarrel/quarrellaw10.GateBeats", spec := "gateBeats", unfollowed := true, recurses := true, apart := false }
def GateBeatsSaid : Prop := gateBeatsRow.holds Try.pinned (OpenSpec.ofChange gateBeatsSpec)

/-- ITS FALSE NEIGHBOUR: 'it returns false'. Refute it at one input. -/
def gateBeatsWrong : ChangeSpec := { name := "gateBeats", fn := fun _ => fun
  | [d1, d2, d3, d4] => { results := [.lit (.bool false)], args := [d1, d2, d3, d4] }
  | _ => none }
def GateBeatsWrongFalsely : Prop := gateBeatsRow.holds Try.pinned (OpenSpec.ofChange gateBeatsWrong)

/- THE SECOND FORM. 'bulk': how many values and letters a reading holds, each counted each time it is reached (what is shared counts as often as it is met; a slice's spare places count too). A statement '..UptoSaid' is the law's where the arguments, and the package variables that the reading takes, are together of bulk at most 1048576: NARROWER than '..Said'. Prove '..Said' where nothing that the law and all that it calls make is longer than what came in: it says more and counts as full. Else prove '..UptoSaid'. A law counts once. -/
mutual
def uptoBulk {H : Type} : DataW H → Nat
  | .lit (.string bytes) => bytes.length + 1
  | .lit _ => 1
  | .nil => 1
  | .ptr d => uptoBulk d + 1
  | .slice elems spare => uptoBulkAll elems + uptoBulkAll spare + 1
  | .agg parts => uptoBulkAll parts + 1
  | .iface _ d => uptoBulk d + 1
  | .map entries => uptoBulkEntries entries + 1
  | .held _ => 1
def uptoBulkAll {H : Type} : List (DataW H) → Nat
  | [] => 0
  | d :: r => uptoBulk d + uptoBulkAll r
def uptoBulkEntries {H : Type} : List (Lit × DataW H) → Nat
  | [] => 0
  | x :: r => uptoBulkEntry x + uptoBulkEntries r
def uptoBulkEntry {H : Type} : Lit × DataW H → Nat
  | (.string bytes, d) => bytes.length + uptoBulk d + 1
  | (_, d) => uptoBulk d + 1
 end
def uptoSmall : (H : Type) → List (DataW H) → Bool := fun _ ds => decide (uptoBulkAll ds ≤ 1048576)
def OpenSpec.upto (s : _root_.Go.ChangeSpec) : _root_.Go.OpenSpec := { _root_.Go.OpenSpec.ofChange s with cond := some uptoSmall }

/-- 'quarrellaw10.GateWhat', WHERE WHAT IT READS IS OF BULK AT MOST 1048576: true; the input reads as it did. -/
def gateWhatUptoRow : OpenClaim := { program := "ytiklhnngkebkeaa", sum := "aac322c61c3cde5557cf6182122bf0920c7dbd5b39ea5c4ecb704d929df9367a", func := "quarrel/quarrellaw10.GateWhat", spec := "gateWhat", unfollowed := true, recurses := true, apart := false, narrowed := true }
def GateWhatUptoSaid : Prop := gateWhatUptoRow.holds Try.pinned (OpenSpec.upto gateWhatSpec)

/-- 'quarrellaw10.GateFalls', WHERE WHAT IT READS IS OF BULK AT MOST 1048576: true; the input reads as it did. -/
def gateFallsUptoRow : OpenClaim := { program := "ytiklhnngkebkeaa", sum := "aac322c61c3cde5557cf6182122bf0920c7dbd5b39ea5c4ecb704d929df9367a", func := "quarrel/quarrellaw10.GateFalls", spec := "gateFalls", unfollowed := true, recurses := true, apart := false, narrowed := true }
def GateFallsUptoSaid : Prop := gateFallsUptoRow.holds Try.pinned (OpenSpec.upto gateFallsSpec)

/-- 'quarrellaw10.GateStays', WHERE WHAT IT READS IS OF BULK AT MOST 1048576: true; the input reads as it did. -/
def gateStaysUptoRow : OpenClaim := { program := "ytiklhnngkebkeaa", sum := "aac322c61c3cde5557cf6182122bf0920c7dbd5b39ea5c4ecb704d929df9367a", func := "quarrel/quarrellaw10.GateStays", spec := "gateStays", unfollowed := true, recurses := true, apart := false, narrowed := true }
def GateStaysUptoSaid : Prop := gateStaysUptoRow.holds Try.pinned (OpenSpec.upto gateStaysSpec)

/-- 'quarrellaw10.GateActs', WHERE WHAT IT READS IS OF BULK AT MOST 1048576: true; the input reads as it did. -/
def gateActsUptoRow : OpenClaim := { program := "ytiklhnngkebkeaa", sum := "aac322c61c3cde5557cf6182122bf0920c7dbd5b39ea5c4ecb704d929df9367a", func := "quarrel/quarrellaw10.GateActs", spec := "gateActs", unfollowed := true, recurses := true, apart := false, narrowed := true }
def GateActsUptoSaid : Prop := gateActsUptoRow.holds Try.pinned (OpenSpec.upto gateActsSpec)

/-- 'quarrellaw10.GateNone', WHERE WHAT IT READS IS OF BULK AT MOST 1048576: true; the input reads as it did. -/
def gateNoneUptoRow : OpenClaim := { program := "ytiklhnngkebkeaa", sum := "aac322c61c3cde5557cf6182122bf0920c7dbd5b39ea5c4ecb704d929df9367a", func := "quarrel/quarrellaw10.GateNone", spec := "gateNone", unfollowed := true, recurses := true, apart := false, narrowed := true }
def GateNoneUptoSaid : Prop := gateNoneUptoRow.holds Try.pinned (OpenSpec.upto gateNoneSpec)

/-- 'quarrellaw10.GateBeats', WHERE WHAT IT READS IS OF BULK AT MOST 1048576: true; the input reads as it did. -/
def gateBeatsUptoRow : OpenClaim := { program := "ytiklhnngkebkeaa", sum := "aac322c61c3cde5557cf6182122bf0920c7dbd5b39ea5c4ecb704d929df9367a", func := "quarrel/quarrellaw10.GateBeats", spec := "gateBeats", unfollowed := true, recurses := true, apart := false, narrowed := true }
def GateBeatsUptoSaid : Prop := gateBeatsUptoRow.holds Try.pinned (OpenSpec.upto gateBeatsSpec)

end Rows
end Go.Proofs.Ytiklhnngkebkeaa
