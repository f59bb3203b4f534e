/-
  No cell of these rows narrows 'for every input' (looked for: loops, veiled, ifaces, maps, wideKeys, modest, calm, conditions, laid).
  DERIVED. THE GIVEN ROWS OF THIS SEAT. 11 by the template 'for every input the law returns true; each argument reads behind the call as it read before'; 0 by the template 'total and deterministic' (their statements: YtdbheagfnodfmaaTotals.lean).
  GIVEN WITH THE SEED: the statements are not yours to turn. If you find one false, say at which input.
  Laid BY PROGRAM, IN A SANDBOX (cutbox-rows.mjs): the forced cells as the released guide's own fill.sh prints them over the translation a2d72b2d614e5732… (all of the seat's roots in one cut). By AI agents, Wed Nov 11 2026. No macro, syntax, notation, axiom, sorry.
-/
import Derived.Test.YtdbheagfnodfmaaChecked
import GoSem.Claim
import GoSem.ClaimJoined
import GoSem.ClaimMapViews
import Derived.JoinedTies
import Derived.KernelRfl
namespace Go.Proofs.Ytdbheagfnodfmaa
/- THE CELL 'sum', in the pinned program and in every row, IS THE sha256 OF THE DUMP (.gsa) THAT YtdbheagfnodfmaaProg.lean LOADS. Nothing in Lean hashes anything: it is a label: what it is worth is what the hold of that sum in a sandbox is worth. -/
noncomputable def Try.pinned : Pinned := { name := "ytdbheagfnodfmaa", sum := "a2d72b2d614e5732fdf803ce927d6c9cc4f5a25c95e9e03b098736ef4e42cd79", checked := Try.checked }
namespace Rows
def none {H : Type} : Left H := { results := [], args := [] }

/-- 'quarrellaw05.ChoiceMet': WHATEVER THE INPUT: true; the input reads as it did. -/
def choiceMetSpec : ChangeSpec := { name := "choiceMet", fn := fun _ => fun
  | [d1, d2, d3, d4] => { results := [.lit (.bool true)], args := [d1, d2, d3, d4] }
  | _ => none }
def choiceMetRow : OpenClaim := { program := "ytdbheagfnodfmaa", sum := "a2d72b2d614e5732fdf803ce927d6c9cc4f5a25c95e9e03b098736ef4e42cd79", func := "quarrel/quarrellaw05.ChoiceMet", spec := "choiceMet", apart := false }
def ChoiceMetSaid : Prop := choiceMetRow.holds Try.pinned (OpenSpec.ofChange choiceMetSpec)

/-- ITS FALSE NEIGHBOUR: 'it returns false'. Refute it at one input. -/
def choiceMetWrong : ChangeSpec := { name := "choiceMet", fn := fun _ => fun
  | [d1, d2, d3, d4] => { results := [.lit (.bool false)], args := [d1, d2, d3, d4] }
  | _ => none }
def ChoiceMetWrongFalsely : Prop := choiceMetRow.holds Try.pinned (OpenSpec.ofChange choiceMetWrong)

/-- 'quarrellaw05.ChoiceStands': WHATEVER THE INPUT: true; the input reads as it did. -/
def choiceStandsSpec : ChangeSpec := { name := "choiceStands", fn := fun _ => fun
  | [d1, d2, d3] => { results := [.lit (.bool true)], args := [d1, d2, d3] }
  | _ => none }
def choiceStandsRow : OpenClaim := { program := "ytdbheagfnodfmaa", sum := "a2d72b2d614e5732fdf803ce927d6c9cc4f5a25c95e9e03b098736ef4e42cd79", func := "quarrel/quarrellaw05.ChoiceStands", spec := "choiceStands", apart := false }
def ChoiceStandsSaid : Prop := choiceStandsRow.holds Try.pinned (OpenSpec.ofChange choiceStandsSpec)

/-- ITS FALSE NEIGHBOUR: 'it returns false'. Refute it at one input. -/
def choiceStandsWrong : ChangeSpec := { name := "choiceStands", fn := fun _ => fun
  | [d1, d2, d3] => { results := [.lit (.bool false)], args := [d1, d2, d3] }
  | _ => none }
def ChoiceStandsWrongFalsely : Prop := choiceStandsRow.holds Try.pinned (OpenSpec.ofChange choiceStandsWrong)

/-- 'quarrellaw05.ChoiceKeeps': WHATEVER THE INPUT: true; the input reads as it did. -/
def choiceKeepsSpec : ChangeSpec := { name := "choiceKeeps", fn := fun _ => fun
  | [d1, d2, d3] => { results := [.lit (.bool true)], args := [d1, d2, d3] }
  | _ => none }
def choiceKeepsRow : OpenClaim := { program := "ytdbheagfnodfmaa", sum := "a2d72b2d614e5732fdf803ce927d6c9cc4f5a25c95e9e03b098736ef4e42cd79", func := "quarrel/quarrellaw05.ChoiceKeeps", spec := "choiceKeeps", apart := false }
def ChoiceKeepsSaid : Prop := choiceKeepsRow.holds Try.pinned (OpenSpec.ofChange choiceKeepsSpec)

/-- ITS FALSE NEIGHBOUR: 'it returns false'. Refute it at one input. -/
def choiceKeepsWrong : ChangeSpec := { name := "choiceKeeps", fn := fun _ => fun
  | [d1, d2, d3] => { results := [.lit (.bool false)], args := [d1, d2, d3] }
  | _ => none }
def ChoiceKeepsWrongFalsely : Prop := choiceKeepsRow.holds Try.pinned (OpenSpec.ofChange choiceKeepsWrong)

/-- 'quarrellaw07.KarmaDecides': WHATEVER THE INPUT: true; the input reads as it did. -/
def karmaDecidesSpec : ChangeSpec := { name := "karmaDecides", fn := fun _ => fun
  | [d1, d2, d3, d4, d5] => { results := [.lit (.bool true)], args := [d1, d2, d3, d4, d5] }
  | _ => none }
def karmaDecidesRow : OpenClaim := { program := "ytdbheagfnodfmaa", sum := "a2d72b2d614e5732fdf803ce927d6c9cc4f5a25c95e9e03b098736ef4e42cd79", func := "quarrel/quarrellaw07.KarmaDecides", spec := "karmaDecides", apart := false }
def KarmaDecidesSaid : Prop := karmaDecidesRow.holds Try.pinned (OpenSpec.ofChange karmaDecidesSpec)

/-- ITS FALSE NEIGHBOUR: 'it returns false'. Refute it at one input. -/
def karmaDecidesWrong : ChangeSpec := { name := "karmaDecides", fn := fun _ => fun
  | [d1, d2, d3, d4, d5] => { results := [.lit (.bool false)], args := [d1, d2, d3, d4, d5] }
  | _ => none }
def KarmaDecidesWrongFalsely : Prop := karmaDecidesRow.holds Try.pinned (OpenSpec.ofChange karmaDecidesWrong)

/-- 'quarrellaw07.KarmaGreater': WHATEVER THE INPUT: true; the input reads as it did. -/
def karmaGreaterSpec : ChangeSpec := { name := "karmaGreater", fn := fun _ => fun
  | [d1, d2, d3] => { results := [.lit (.bool true)], args := [d1, d2, d3] }
  | _ => none }
def karmaGreaterRow : OpenClaim := { program := "ytdbheagfnodfmaa", sum := "a2d72b2d614e5732fdf803ce927d6c9cc4f5a25c95e9e03b098736ef4e42cd79", func := "quarrel/quarrellaw07.KarmaGreater", spec := "karmaGreater", apart := false }
def KarmaGreaterSaid : Prop := karmaGreaterRow.holds Try.pinned (OpenSpec.ofChange karmaGreaterSpec)

/-- ITS FALSE NEIGHBOUR: 'it returns false'. Refute it at one input. -/
def karmaGreaterWrong : ChangeSpec := { name := "karmaGreater", fn := fun _ => fun
  | [d1, d2, d3] => { results := [.lit (.bool false)], args := [d1, d2, d3] }
  | _ => none }
def KarmaGreaterWrongFalsely : Prop := karmaGreaterRow.holds Try.pinned (OpenSpec.ofChange karmaGreaterWrong)

/-- 'quarrellaw05.ChoiceOk': WHATEVER THE INPUT: true; the input reads as it did. -/
def choiceOkSpec : ChangeSpec := { name := "choiceOk", fn := fun _ => fun
  | [d1, d2, d3] => { results := [.lit (.bool true)], args := [d1, d2, d3] }
  | _ => none }
def choiceOkRow : OpenClaim := { program := "ytdbheagfnodfmaa", sum := "a2d72b2d614e5732fdf803ce927d6c9cc4f5a25c95e9e03b098736ef4e42cd79", func := "quarrel/quarrellaw05.ChoiceOk", spec := "choiceOk", apart := false }
def ChoiceOkSaid : Prop := choiceOkRow.holds Try.pinned (OpenSpec.ofChange choiceOkSpec)

/-- ITS FALSE NEIGHBOUR: 'it returns false'. Refute it at one input. -/
def choiceOkWrong : ChangeSpec := { name := "choiceOk", fn := fun _ => fun
  | [d1, d2, d3] => { results := [.lit (.bool false)], args := [d1, d2, d3] }
  | _ => none }
def ChoiceOkWrongFalsely : Prop := choiceOkRow.holds Try.pinned (OpenSpec.ofChange choiceOkWrong)

/-- 'quarrellaw06.PoliteDecides': WHATEVER THE INPUT: true; the input reads as it did. -/
def politeDecidesSpec : ChangeSpec := { name := "politeDecides", fn := fun _ => fun
  | [d1, d2, d3, d4, d5] => { results := [.lit (.bool true)], args := [d1, d2, d3, d4, d5] }
  | _ => none }
def politeDecidesRow : OpenClaim := { program := "ytdbheagfnodfmaa", sum := "a2d72b2d614e5732fdf803ce927d6c9cc4f5a25c95e9e03b098736ef4e42cd79", func := "quarrel/quarrellaw06.PoliteDecides", spec := "politeDecides", apart := false }
def PoliteDecidesSaid : Prop := politeDecidesRow.holds Try.pinned (OpenSpec.ofChange politeDecidesSpec)

/-- ITS FALSE NEIGHBOUR: 'it returns false'. Refute it at one input. -/
def politeDecidesWrong : ChangeSpec := { name := "politeDecides", fn := fun _ => fun
  | [d1, d2, d3, d4, d5] => { results := [.lit (.bool false)], args := [d1, d2, d3, d4, d5] }
  | _ => none }
def PoliteDecidesWrongFalsely : Prop := politeDecidesRow.holds Try.pinned (OpenSpec.ofChange politeDecidesWrong)

/-- 'quarrellaw07.KarmaAlike': WHATEVER THE INPUT: true; the input reads as it did. -/
def karmaAlikeSpec : ChangeSpec := { name := "karmaAlike", fn := fun _ => fun
  | [d1, d2, d3, d4, d5] => { results := [.lit (.bool true)], args := [d1, d2, d3, d4, d5] }
  | _ => none }
def karmaAlikeRow : OpenClaim := { program := "ytdbheagfnodfmaa", sum := "a2d72b2d614e5732fdf803ce927d6c9cc4f5a25c95e9e03b098736ef4e42cd79", func := "quarrel/quarrellaw07.KarmaAlike", spec := "karmaAlike", apart := false }
def KarmaAlikeSaid : Prop := karmaAlikeRow.holds Try.pinned (OpenSpec.ofChange karmaAlikeSpec)

/-- ITS FALSE NEIGHBOUR: 'it returns false'. Refute it at one input. -/
def karmaAlikeWrong : ChangeSpec := { name := "karmaAlike", fn := fun _ => fun
  | [d1, d2, d3, d4, d5] => { results := [.lit (.bool false)], args := [d1, d2, d3, d4, d5] }
  | _ => none }
def KarmaAlikeWrongFalsely : Prop := karmaAlikeRow.holds Try.pinned (OpenSpec.ofChange karmaAlikeWrong)

/-- 'quarrellaw07.KarmaEnds': WHATEVER THE INPUT: true; the input reads as it did. -/
def karmaEndsSpec : ChangeSpec := { name := "karmaEnds", fn := fun _ => fun
  | [d1, d2, d3, d4] => { results := [.lit (.bool true)], args := [d1, d2, d3, d4] }
  | _ => none }
def karmaEndsRow : OpenClaim := { program := "ytdbheagfnodfmaa", sum := "a2d72b2d614e5732fdf803ce927d6c9cc4f5a25c95e9e03b098736ef4e42cd79", func := "quarrel/quarrellaw07.KarmaEnds", spec := "karmaEnds", apart := false }
def KarmaEndsSaid : Prop := karmaEndsRow.holds Try.pinned (OpenSpec.ofChange karmaEndsSpec)

/-- ITS FALSE NEIGHBOUR: 'it returns false'. Refute it at one input. -/
def karmaEndsWrong : ChangeSpec := { name := "karmaEnds", fn := fun _ => fun
  | [d1, d2, d3, d4] => { results := [.lit (.bool false)], args := [d1, d2, d3, d4] }
  | _ => none }
def KarmaEndsWrongFalsely : Prop := karmaEndsRow.holds Try.pinned (OpenSpec.ofChange karmaEndsWrong)

/-- 'quarrellaw06.PoliteAlike': WHATEVER THE INPUT: true; the input reads as it did. -/
def politeAlikeSpec : ChangeSpec := { name := "politeAlike", fn := fun _ => fun
  | [d1, d2, d3, d4, d5] => { results := [.lit (.bool true)], args := [d1, d2, d3, d4, d5] }
  | _ => none }
def politeAlikeRow : OpenClaim := { program := "ytdbheagfnodfmaa", sum := "a2d72b2d614e5732fdf803ce927d6c9cc4f5a25c95e9e03b098736ef4e42cd79", func := "quarrel/quarrellaw06.PoliteAlike", spec := "politeAlike", apart := false }
def PoliteAlikeSaid : Prop := politeAlikeRow.holds Try.pinned (OpenSpec.ofChange politeAlikeSpec)

/-- ITS FALSE NEIGHBOUR: 'it returns false'. Refute it at one input. -/
def politeAlikeWrong : ChangeSpec := { name := "politeAlike", fn := fun _ => fun
  | [d1, d2, d3, d4, d5] => { results := [.lit (.bool false)], args := [d1, d2, d3, d4, d5] }
  | _ => none }
def PoliteAlikeWrongFalsely : Prop := politeAlikeRow.holds Try.pinned (OpenSpec.ofChange politeAlikeWrong)

/-- 'quarrellaw06.PoliteEnds': WHATEVER THE INPUT: true; the input reads as it did. -/
def politeEndsSpec : ChangeSpec := { name := "politeEnds", fn := fun _ => fun
  | [d1, d2, d3, d4] => { results := [.lit (.bool true)], args := [d1, d2, d3, d4] }
  | _ => none }
def politeEndsRow : OpenClaim := { program := "ytdbheagfnodfmaa", sum := "a2d72b2d614e5732fdf803ce927d6c9cc4f5a25c95e9e03b098736ef4e42cd79", func := "quarrel/quarrellaw06.PoliteEnds", spec := "politeEnds", apart := false }
def PoliteEndsSaid : Prop := politeEndsRow.holds Try.pinned (OpenSpec.ofChange politeEndsSpec)

/-- ITS FALSE NEIGHBOUR: 'it returns false'. Refute it at one input. -/
def politeEndsWrong : ChangeSpec := { name := "politeEnds", fn := fun _ => fun
  | [d1, d2, d3, d4] => { results := [.lit (.bool false)], args := [d1, d2, d3, d4] }
  | _ => none }
def PoliteEndsWrongFalsely : Prop := politeEndsRow.holds Try.pinned (OpenSpec.ofChange politeEndsWrong)

/- THE SECOND FORM. 'bulk': how many values and letters a reading holds, each counted each time it is reached (what is shared counts as often as it is met; a slice's spare places count too). A statement '..UptoSaid' is the law's where the arguments, and the package variables that the reading takes, are together of bulk at most 1048576: NARROWER than '..Said'. Prove '..Said' where nothing that the law and all that it calls make is longer than what came in: it says more and counts as full. Else prove '..UptoSaid'. A law counts once. -/
mutual
def uptoBulk {H : Type} : DataW H → Nat
  | .lit (.string bytes) => bytes.length + 1
  | .lit _ => 1
  | .nil => 1
  | .ptr d => uptoBulk d + 1
  | .slice elems spare => uptoBulkAll elems + uptoBulkAll spare + 1
  | .agg parts => uptoBulkAll parts + 1
  | .iface _ d => uptoBulk d + 1
  | .map entries => uptoBulkEntries entries + 1
  | .held _ => 1
def uptoBulkAll {H : Type} : List (DataW H) → Nat
  | [] => 0
  | d :: r => uptoBulk d + uptoBulkAll r
def uptoBulkEntries {H : Type} : List (Lit × DataW H) → Nat
  | [] => 0
  | x :: r => uptoBulkEntry x + uptoBulkEntries r
def uptoBulkEntry {H : Type} : Lit × DataW H → Nat
  | (.string bytes, d) => bytes.length + uptoBulk d + 1
  | (_, d) => uptoBulk d + 1
 end
def uptoSmall : (H : Type) → List (DataW H) → Bool := fun _ ds => decide (uptoBulkAll ds ≤ 1048576)
def OpenSpec.upto (s : _root_.Go.ChangeSpec) : _root_.Go.OpenSpec := { _root_.Go.OpenSpec.ofChange s with cond := some uptoSmall }

/-- 'quarrellaw05.ChoiceMet', WHERE WHAT IT READS IS OF BULK AT MOST 1048576: true; the input reads as it did. -/
def choiceMetUptoRow : OpenClaim := { program := "ytdbheagfnodfmaa", sum := "a2d72b2d614e5732fdf803ce927d6c9cc4f5a25c95e9e03b098736ef4e42cd79", func := "quarrel/quarrellaw05.ChoiceMet", spec := "choiceMet", apart := false, narrowed := true }
def ChoiceMetUptoSaid : Prop := choiceMetUptoRow.holds Try.pinned (OpenSpec.upto choiceMetSpec)

/-- 'quarrellaw05.ChoiceStands', WHERE WHAT IT READS IS OF BULK AT MOST 1048576: true; the input reads as it did. -/
def choiceStandsUptoRow : OpenClaim := { program := "ytdbheagfnodfmaa", sum := "a2d72b2d614e5732fdf803ce927d6c9cc4f5a25c95e9e03b098736ef4e42cd79", func := "quarrel/quarrellaw05.ChoiceStands", spec := "choiceStands", apart := false, narrowed := true }
def ChoiceStandsUptoSaid : Prop := choiceStandsUptoRow.holds Try.pinned (OpenSpec.upto choiceStandsSpec)

/-- 'quarrellaw05.ChoiceKeeps', WHERE WHAT IT READS IS OF BULK AT MOST 1048576: true; the input reads as it did. -/
def choiceKeepsUptoRow : OpenClaim := { program := "ytdbheagfnodfmaa", sum := "a2d72b2d614e5732fdf803ce927d6c9cc4f5a25c95e9e03b098736ef4e42cd79", func := "quarrel/quarrellaw05.ChoiceKeeps", spec := "choiceKeeps", apart := false, narrowed := true }
def ChoiceKeepsUptoSaid : Prop := choiceKeepsUptoRow.holds Try.pinned (OpenSpec.upto choiceKeepsSpec)

/-- 'quarrellaw07.KarmaDecides', WHERE WHAT IT READS IS OF BULK AT MOST 1048576: true; the input reads as it did. -/
def karmaDecidesUptoRow : OpenClaim := { program := "ytdbheagfnodfmaa", sum := "a2d72b2d614e5732fdf803ce927d6c9cc4f5a25c95e9e03b098736ef4e42cd79", func := "quarrel/quarrellaw07.KarmaDecides", spec := "karmaDecides", apart := false, narrowed := true }
def KarmaDecidesUptoSaid : Prop := karmaDecidesUptoRow.holds Try.pinned (OpenSpec.upto karmaDecidesSpec)

/-- 'quarrellaw07.KarmaGreater', WHERE WHAT IT READS IS OF BULK AT MOST 1048576: true; the input reads as it did. -/
def karmaGreaterUptoRow : OpenClaim := { program := "ytdbheagfnodfmaa", sum := "a2d72b2d614e5732fdf803ce927d6c9cc4f5a25c95e9e03b098736ef4e42cd79", func := "quarrel/quarrellaw07.KarmaGreater", spec := "karmaGreater", apart := false, narrowed := true }
def KarmaGreaterUptoSaid : Prop := karmaGreaterUptoRow.holds Try.pinned (OpenSpec.upto karmaGreaterSpec)

/-- 'quarrellaw05.ChoiceOk', WHERE WHAT IT READS IS OF BULK AT MOST 1048576: true; the input reads as it did. -/
def choiceOkUptoRow : OpenClaim := { program := "ytdbheagfnodfmaa", sum := "a2d72b2d614e5732fdf803ce927d6c9cc4f5a25c95e9e03b098736ef4e42cd79", func := "quarrel/quarrellaw05.ChoiceOk", spec := "choiceOk", apart := false, narrowed := true }
def ChoiceOkUptoSaid : Prop := choiceOkUptoRow.holds Try.pinned (OpenSpec.upto choiceOkSpec)

/-- 'quarrellaw06.PoliteDecides', WHERE WHAT IT READS IS OF BULK AT MOST 1048576: true; the input reads as it did. -/
def politeDecidesUptoRow : OpenClaim := { program := "ytdbheagfnodfmaa", sum := "a2d72b2d614e5732fdf803ce927d6c9cc4f5a25c95e9e03b098736ef4e42cd79", func := "quarrel/quarrellaw06.PoliteDecides", spec := "politeDecides", apart := false, narrowed := true }
def PoliteDecidesUptoSaid : Prop := politeDecidesUptoRow.holds Try.pinned (OpenSpec.upto politeDecidesSpec)

/-- 'quarrellaw07.KarmaAlike', WHERE WHAT IT READS IS OF BULK AT MOST 1048576: true; the input reads as it did. -/
def karmaAlikeUptoRow : OpenClaim := { program := "ytdbheagfnodfmaa", sum := "a2d72b2d614e5732fdf803ce927d6c9cc4f5a25c95e9e03b098736ef4e42cd79", func := "quarrel/quarrellaw07.KarmaAlike", spec := "karmaAlike", apart := false, narrowed := true }
def KarmaAlikeUptoSaid : Prop := karmaAlikeUptoRow.holds Try.pinned (OpenSpec.upto karmaAlikeSpec)

/-- 'quarrellaw07.KarmaEnds', WHERE WHAT IT READS IS OF BULK AT MOST 1048576: true; the input reads as it did. -/
def karmaEndsUptoRow : OpenClaim := { program := "ytdbheagfnodfmaa", sum := "a2d72b2d614e5732fdf803ce927d6c9cc4f5a25c95e9e03b098736ef4e42cd79", func := "quarrel/quarrellaw07.KarmaEnds", spec := "karmaEnds", apart := false, narrowed := true }
def KarmaEndsUptoSaid : Prop := karmaEndsUptoRow.holds Try.pinned (OpenSpec.upto karmaEndsSpec)

/-- 'quarrellaw06.PoliteAlike', WHERE WHAT IT READS IS OF BULK AT MOST 1048576: true; the input reads as it did. -/
def politeAlikeUptoRow : OpenClaim := { program := "ytdbheagfnodfmaa", sum := "a2d72b2d614e5732fdf803ce927d6c9cc4f5a25c95e9e03b098736ef4e42cd79", func := "quarrel/quarrellaw06.PoliteAlike", spec := "politeAlike", apart := false, narrowed := true }
def PoliteAlikeUptoSaid : Prop := politeAlikeUptoRow.holds Try.pinned (OpenSpec.upto politeAlikeSpec)

/-- 'quarrellaw06.PoliteEnds', WHERE WHAT IT READS IS OF BULK AT MOST 1048576: true; the input reads as it did. -/
def politeEndsUptoRow : OpenClaim := { program := "ytdbheagfnodfmaa", sum := "a2d72b2d614e5732fdf803ce927d6c9cc4f5a25c95e9e03b098736ef4e42cd79", func := "quarrel/quarrellaw06.PoliteEnds", spec := "politeEnds", apart := false, narrowed := true }
def PoliteEndsUptoSaid : Prop := politeEndsUptoRow.holds Try.pinned (OpenSpec.upto politeEndsSpec)

end Rows
end Go.Proofs.Ytdbheagfnodfmaa
