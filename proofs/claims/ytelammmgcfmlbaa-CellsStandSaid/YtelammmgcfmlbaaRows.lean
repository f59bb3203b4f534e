/-
  No cell of these rows narrows 'for every input' (looked for: loops, veiled, ifaces, maps, wideKeys, modest, calm, conditions, laid).
  DERIVED. THE GIVEN ROWS OF THIS SEAT. 9 by the template 'for every input the law returns true; each argument reads behind the call as it read before'; 0 by the template 'total and deterministic' (their statements: YtelammmgcfmlbaaTotals.lean).
  GIVEN WITH THE SEED: the statements are not yours to turn. If you find one false, say at which input.
  Laid BY PROGRAM, IN A SANDBOX (cutbox-rows.mjs): the forced cells as the released guide's own fill.sh prints them over the translation d6235611bbccf885… (all of the seat's roots in one cut). By AI agents, Wed Nov 11 2026. No macro, syntax, notation, axiom, sorry.
-/
import Derived.Test.YtelammmgcfmlbaaChecked
import GoSem.Claim
import GoSem.ClaimJoined
import GoSem.ClaimMapViews
import Derived.JoinedTies
import Derived.KernelRfl
namespace Go.Proofs.Ytelammmgcfmlbaa
/- THE CELL 'sum', in the pinned program and in every row, IS THE sha256 OF THE DUMP (.gsa) THAT YtelammmgcfmlbaaProg.lean LOADS. Nothing in Lean hashes anything: it is a label: what it is worth is what the hold of that sum in a sandbox is worth. -/
noncomputable def Try.pinned : Pinned := { name := "ytelammmgcfmlbaa", sum := "d6235611bbccf88504e729d42dc765ad969457e4b683f34d16fa8acb9abef915", checked := Try.checked }
namespace Rows
def none {H : Type} : Left H := { results := [], args := [] }

/-- 'quarrellaw03.DescOnce': WHATEVER THE INPUT: true; the input reads as it did. -/
def descOnceSpec : ChangeSpec := { name := "descOnce", fn := fun _ => fun
  | [d] => { results := [.lit (.bool true)], args := [d] }
  | _ => none }
def descOnceRow : OpenClaim := { program := "ytelammmgcfmlbaa", sum := "d6235611bbccf88504e729d42dc765ad969457e4b683f34d16fa8acb9abef915", func := "quarrel/quarrellaw03.DescOnce", spec := "descOnce", unfollowed := true, recurses := true, apart := false }
def DescOnceSaid : Prop := descOnceRow.holds Try.pinned (OpenSpec.ofChange descOnceSpec)

/-- ITS FALSE NEIGHBOUR: 'it returns false'. Refute it at one input. -/
def descOnceWrong : ChangeSpec := { name := "descOnce", fn := fun _ => fun
  | [d] => { results := [.lit (.bool false)], args := [d] }
  | _ => none }
def DescOnceWrongFalsely : Prop := descOnceRow.holds Try.pinned (OpenSpec.ofChange descOnceWrong)

/-- 'quarrellaw03.DescOwn': WHATEVER THE INPUT: true; the input reads as it did. -/
def descOwnSpec : ChangeSpec := { name := "descOwn", fn := fun _ => fun
  | [d1, d2, d3, d4] => { results := [.lit (.bool true)], args := [d1, d2, d3, d4] }
  | _ => none }
def descOwnRow : OpenClaim := { program := "ytelammmgcfmlbaa", sum := "d6235611bbccf88504e729d42dc765ad969457e4b683f34d16fa8acb9abef915", func := "quarrel/quarrellaw03.DescOwn", spec := "descOwn", unfollowed := true, recurses := true, apart := false }
def DescOwnSaid : Prop := descOwnRow.holds Try.pinned (OpenSpec.ofChange descOwnSpec)

/-- ITS FALSE NEIGHBOUR: 'it returns false'. Refute it at one input. -/
def descOwnWrong : ChangeSpec := { name := "descOwn", fn := fun _ => fun
  | [d1, d2, d3, d4] => { results := [.lit (.bool false)], args := [d1, d2, d3, d4] }
  | _ => none }
def DescOwnWrongFalsely : Prop := descOwnRow.holds Try.pinned (OpenSpec.ofChange descOwnWrong)

/-- 'quarrellaw03.DescNone': WHATEVER THE INPUT: true; the input reads as it did. -/
def descNoneSpec : ChangeSpec := { name := "descNone", fn := fun _ => fun
  | [d1, d2, d3] => { results := [.lit (.bool true)], args := [d1, d2, d3] }
  | _ => none }
def descNoneRow : OpenClaim := { program := "ytelammmgcfmlbaa", sum := "d6235611bbccf88504e729d42dc765ad969457e4b683f34d16fa8acb9abef915", func := "quarrel/quarrellaw03.DescNone", spec := "descNone", unfollowed := true, recurses := true, apart := false }
def DescNoneSaid : Prop := descNoneRow.holds Try.pinned (OpenSpec.ofChange descNoneSpec)

/-- ITS FALSE NEIGHBOUR: 'it returns false'. Refute it at one input. -/
def descNoneWrong : ChangeSpec := { name := "descNone", fn := fun _ => fun
  | [d1, d2, d3] => { results := [.lit (.bool false)], args := [d1, d2, d3] }
  | _ => none }
def DescNoneWrongFalsely : Prop := descNoneRow.holds Try.pinned (OpenSpec.ofChange descNoneWrong)

/-- 'quarrellaw04.CellsResolve': WHATEVER THE INPUT: true; the input reads as it did. -/
def cellsResolveSpec : ChangeSpec := { name := "cellsResolve", fn := fun _ => fun
  | [d1, d2] => { results := [.lit (.bool true)], args := [d1, d2] }
  | _ => none }
def cellsResolveRow : OpenClaim := { program := "ytelammmgcfmlbaa", sum := "d6235611bbccf88504e729d42dc765ad969457e4b683f34d16fa8acb9abef915", func := "quarrel/quarrellaw04.CellsResolve", spec := "cellsResolve", unfollowed := true, recurses := true, apart := false }
def CellsResolveSaid : Prop := cellsResolveRow.holds Try.pinned (OpenSpec.ofChange cellsResolveSpec)

/-- ITS FALSE NEIGHBOUR: 'it returns false'. Refute it at one input. -/
def cellsResolveWrong : ChangeSpec := { name := "cellsResolve", fn := fun _ => fun
  | [d1, d2] => { results := [.lit (.bool false)], args := [d1, d2] }
  | _ => none }
def CellsResolveWrongFalsely : Prop := cellsResolveRow.holds Try.pinned (OpenSpec.ofChange cellsResolveWrong)

/-- 'quarrellaw04.CellsStand': WHATEVER THE INPUT: true; the input reads as it did. -/
def cellsStandSpec : ChangeSpec := { name := "cellsStand", fn := fun _ => fun
  | [d1, d2, d3] => { results := [.lit (.bool true)], args := [d1, d2, d3] }
  | _ => none }
def cellsStandRow : OpenClaim := { program := "ytelammmgcfmlbaa", sum := "d6235611bbccf88504e729d42dc765ad969457e4b683f34d16fa8acb9abef915", func := "quarrel/quarrellaw04.CellsStand", spec := "cellsStand", unfollowed := true, recurses := true, apart := false }
def CellsStandSaid : Prop := cellsStandRow.holds Try.pinned (OpenSpec.ofChange cellsStandSpec)

/-- ITS FALSE NEIGHBOUR: 'it returns false'. Refute it at one input. -/
def cellsStandWrong : ChangeSpec := { name := "cellsStand", fn := fun _ => fun
  | [d1, d2, d3] => { results := [.lit (.bool false)], args := [d1, d2, d3] }
  | _ => none }
def CellsStandWrongFalsely : Prop := cellsStandRow.holds Try.pinned (OpenSpec.ofChange cellsStandWrong)

/-- 'quarrellaw04.CellsActs': WHATEVER THE INPUT: true; the input reads as it did. -/
def cellsActsSpec : ChangeSpec := { name := "cellsActs", fn := fun _ => fun
  | [d1, d2, d3] => { results := [.lit (.bool true)], args := [d1, d2, d3] }
  | _ => none }
def cellsActsRow : OpenClaim := { program := "ytelammmgcfmlbaa", sum := "d6235611bbccf88504e729d42dc765ad969457e4b683f34d16fa8acb9abef915", func := "quarrel/quarrellaw04.CellsActs", spec := "cellsActs", unfollowed := true, recurses := true, apart := false }
def CellsActsSaid : Prop := cellsActsRow.holds Try.pinned (OpenSpec.ofChange cellsActsSpec)

/-- ITS FALSE NEIGHBOUR: 'it returns false'. Refute it at one input. -/
def cellsActsWrong : ChangeSpec := { name := "cellsActs", fn := fun _ => fun
  | [d1, d2, d3] => { results := [.lit (.bool false)], args := [d1, d2, d3] }
  | _ => none }
def CellsActsWrongFalsely : Prop := cellsActsRow.holds Try.pinned (OpenSpec.ofChange cellsActsWrong)

/-- 'quarrellaw04.CellsAtOnce': WHATEVER THE INPUT: true; the input reads as it did. -/
def cellsAtOnceSpec : ChangeSpec := { name := "cellsAtOnce", fn := fun _ => fun
  | [d1, d2, d3] => { results := [.lit (.bool true)], args := [d1, d2, d3] }
  | _ => none }
def cellsAtOnceRow : OpenClaim := { program := "ytelammmgcfmlbaa", sum := "d6235611bbccf88504e729d42dc765ad969457e4b683f34d16fa8acb9abef915", func := "quarrel/quarrellaw04.CellsAtOnce", spec := "cellsAtOnce", unfollowed := true, recurses := true, apart := false }
def CellsAtOnceSaid : Prop := cellsAtOnceRow.holds Try.pinned (OpenSpec.ofChange cellsAtOnceSpec)

/-- ITS FALSE NEIGHBOUR: 'it returns false'. Refute it at one input. -/
def cellsAtOnceWrong : ChangeSpec := { name := "cellsAtOnce", fn := fun _ => fun
  | [d1, d2, d3] => { results := [.lit (.bool false)], args := [d1, d2, d3] }
  | _ => none }
def CellsAtOnceWrongFalsely : Prop := cellsAtOnceRow.holds Try.pinned (OpenSpec.ofChange cellsAtOnceWrong)

/-- 'quarrellaw04.CellsNone': WHATEVER THE INPUT: true; the input reads as it did. -/
def cellsNoneSpec : ChangeSpec := { name := "cellsNone", fn := fun _ => fun
  | [d1, d2, d3] => { results := [.lit (.bool true)], args := [d1, d2, d3] }
  | _ => none }
def cellsNoneRow : OpenClaim := { program := "ytelammmgcfmlbaa", sum := "d6235611bbccf88504e729d42dc765ad969457e4b683f34d16fa8acb9abef915", func := "quarrel/quarrellaw04.CellsNone", spec := "cellsNone", unfollowed := true, recurses := true, apart := false }
def CellsNoneSaid : Prop := cellsNoneRow.holds Try.pinned (OpenSpec.ofChange cellsNoneSpec)

/-- ITS FALSE NEIGHBOUR: 'it returns false'. Refute it at one input. -/
def cellsNoneWrong : ChangeSpec := { name := "cellsNone", fn := fun _ => fun
  | [d1, d2, d3] => { results := [.lit (.bool false)], args := [d1, d2, d3] }
  | _ => none }
def CellsNoneWrongFalsely : Prop := cellsNoneRow.holds Try.pinned (OpenSpec.ofChange cellsNoneWrong)

/-- 'quarrellaw04.CellsClaim': WHATEVER THE INPUT: true; the input reads as it did. -/
def cellsClaimSpec : ChangeSpec := { name := "cellsClaim", fn := fun _ => fun
  | [d1, d2, d3, d4] => { results := [.lit (.bool true)], args := [d1, d2, d3, d4] }
  | _ => none }
def cellsClaimRow : OpenClaim := { program := "ytelammmgcfmlbaa", sum := "d6235611bbccf88504e729d42dc765ad969457e4b683f34d16fa8acb9abef915", func := "quarrel/quarrellaw04.CellsClaim", spec := "cellsClaim", unfollowed := true, recurses := true, apart := false }
def CellsClaimSaid : Prop := cellsClaimRow.holds Try.pinned (OpenSpec.ofChange cellsClaimSpec)

/-- ITS FALSE NEIGHBOUR: 'it returns false'. Refute it at one input. -/
def cellsClaimWrong : ChangeSpec := { name := "cellsClaim", fn := fun _ => fun
  | [d1, d2, d3, d4] => { results := [.lit (.bool false)], args := [d1, d2, d3, d4] }
  | _ => none }
def CellsClaimWrongFalsely : Prop := cellsClaimRow.holds Try.pinned (OpenSpec.ofChange cellsClaimWrong)

/- THE SECOND FORM. 'bulk': how many values and letters a reading holds, each counted each time it is reached (what is shared counts as often as it is met; a slice's spare places count too). A statement '..UptoSaid' is the law's where the arguments, and the package variables that the reading takes, are together of bulk at most 1048576: NARROWER than '..Said'. Prove '..Said' where nothing that the law and all that it calls make is longer than what came in: it says more and counts as full. Else prove '..UptoSaid'. A law counts once. -/
mutual
def uptoBulk {H : Type} : DataW H → Nat
  | .lit (.string bytes) => bytes.length + 1
  | .lit _ => 1
  | .nil => 1
  | .ptr d => uptoBulk d + 1
  | .slice elems spare => uptoBulkAll elems + uptoBulkAll spare + 1
  | .agg parts => uptoBulkAll parts + 1
  | .iface _ d => uptoBulk d + 1
  | .map entries => uptoBulkEntries entries + 1
  | .held _ => 1
def uptoBulkAll {H : Type} : List (DataW H) → Nat
  | [] => 0
  | d :: r => uptoBulk d + uptoBulkAll r
def uptoBulkEntries {H : Type} : List (Lit × DataW H) → Nat
  | [] => 0
  | x :: r => uptoBulkEntry x + uptoBulkEntries r
def uptoBulkEntry {H : Type} : Lit × DataW H → Nat
  | (.string bytes, d) => bytes.length + uptoBulk d + 1
  | (_, d) => uptoBulk d + 1
 end
def uptoSmall : (H : Type) → List (DataW H) → Bool := fun _ ds => decide (uptoBulkAll ds ≤ 1048576)
def OpenSpec.upto (s : _root_.Go.ChangeSpec) : _root_.Go.OpenSpec := { _root_.Go.OpenSpec.ofChange s with cond := some uptoSmall }

/-- 'quarrellaw03.DescOnce', WHERE WHAT IT READS IS OF BULK AT MOST 1048576: true; the input reads as it did. -/
def descOnceUptoRow : OpenClaim := { program := "ytelammmgcfmlbaa", sum := "d6235611bbccf88504e729d42dc765ad969457e4b683f34d16fa8acb9abef915", func := "quarrel/quarrellaw03.DescOnce", spec := "descOnce", unfollowed := true, recurses := true, apart := false, narrowed := true }
def DescOnceUptoSaid : Prop := descOnceUptoRow.holds Try.pinned (OpenSpec.upto descOnceSpec)

/-- 'quarrellaw03.DescOwn', WHERE WHAT IT READS IS OF BULK AT MOST 1048576: true; the input reads as it did. -/
def descOwnUptoRow : OpenClaim := { program := "ytelammmgcfmlbaa", sum := "d6235611bbccf88504e729d42dc765ad969457e4b683f34d16fa8acb9abef915", func := "quarrel/quarrellaw03.DescOwn", spec := "descOwn", unfollowed := true, recurses := true, apart := false, narrowed := true }
def DescOwnUptoSaid : Prop := descOwnUptoRow.holds Try.pinned (OpenSpec.upto descOwnSpec)

/-- 'quarrellaw03.DescNone', WHERE WHAT IT READS IS OF BULK AT MOST 1048576: true; the input reads as it did. -/
def descNoneUptoRow : OpenClaim := { program := "ytelammmgcfmlbaa", sum := "d6235611bbccf88504e729d42dc765ad969457e4b683f34d16fa8acb9abef915", func := "quarrel/quarrellaw03.DescNone", spec := "descNone", unfollowed := true, recurses := true, apart := false, narrowed := true }
def DescNoneUptoSaid : Prop := descNoneUptoRow.holds Try.pinned (OpenSpec.upto descNoneSpec)

/-- 'quarrellaw04.CellsResolve', WHERE WHAT IT READS IS OF BULK AT MOST 1048576: true; the input reads as it did. -/
def cellsResolveUptoRow : OpenClaim := { program := "ytelammmgcfmlbaa", sum := "d6235611bbccf88504e729d42dc765ad969457e4b683f34d16fa8acb9abef915", func := "quarrel/quarrellaw04.CellsResolve", spec := "cellsResolve", unfollowed := true, recurses := true, apart := false, narrowed := true }
def CellsResolveUptoSaid : Prop := cellsResolveUptoRow.holds Try.pinned (OpenSpec.upto cellsResolveSpec)

/-- 'quarrellaw04.CellsStand', WHERE WHAT IT READS IS OF BULK AT MOST 1048576: true; the input reads as it did. -/
def cellsStandUptoRow : OpenClaim := { program := "ytelammmgcfmlbaa", sum := "d6235611bbccf88504e729d42dc765ad969457e4b683f34d16fa8acb9abef915", func := "quarrel/quarrellaw04.CellsStand", spec := "cellsStand", unfollowed := true, recurses := true, apart := false, narrowed := true }
def CellsStandUptoSaid : Prop := cellsStandUptoRow.holds Try.pinned (OpenSpec.upto cellsStandSpec)

/-- 'quarrellaw04.CellsActs', WHERE WHAT IT READS IS OF BULK AT MOST 1048576: true; the input reads as it did. -/
def cellsActsUptoRow : OpenClaim := { program := "ytelammmgcfmlbaa", sum := "d6235611bbccf88504e729d42dc765ad969457e4b683f34d16fa8acb9abef915", func := "quarrel/quarrellaw04.CellsActs", spec := "cellsActs", unfollowed := true, recurses := true, apart := false, narrowed := true }
def CellsActsUptoSaid : Prop := cellsActsUptoRow.holds Try.pinned (OpenSpec.upto cellsActsSpec)

/-- 'quarrellaw04.CellsAtOnce', WHERE WHAT IT READS IS OF BULK AT MOST 1048576: true; the input reads as it did. -/
def cellsAtOnceUptoRow : OpenClaim := { program := "ytelammmgcfmlbaa", sum := "d6235611bbccf88504e729d42dc765ad969457e4b683f34d16fa8acb9abef915", func := "quarrel/quarrellaw04.CellsAtOnce", spec := "cellsAtOnce", unfollowed := true, recurses := true, apart := false, narrowed := true }
def CellsAtOnceUptoSaid : Prop := cellsAtOnceUptoRow.holds Try.pinned (OpenSpec.upto cellsAtOnceSpec)

/-- 'quarrellaw04.CellsNone', WHERE WHAT IT READS IS OF BULK AT MOST 1048576: true; the input reads as it did. -/
def cellsNoneUptoRow : OpenClaim := { program := "ytelammmgcfmlbaa", sum := "d6235611bbccf88504e729d42dc765ad969457e4b683f34d16fa8acb9abef915", func := "quarrel/quarrellaw04.CellsNone", spec := "cellsNone", unfollowed := true, recurses := true, apart := false, narrowed := true }
def CellsNoneUptoSaid : Prop := cellsNoneUptoRow.holds Try.pinned (OpenSpec.upto cellsNoneSpec)

/-- 'quarrellaw04.CellsClaim', WHERE WHAT IT READS IS OF BULK AT MOST 1048576: true; the input reads as it did. -/
def cellsClaimUptoRow : OpenClaim := { program := "ytelammmgcfmlbaa", sum := "d6235611bbccf88504e729d42dc765ad969457e4b683f34d16fa8acb9abef915", func := "quarrel/quarrellaw04.CellsClaim", spec := "cellsClaim", unfollowed := true, recurses := true, apart := false, narrowed := true }
def CellsClaimUptoSaid : Prop := cellsClaimUptoRow.holds Try.pinned (OpenSpec.upto cellsClaimSpec)

end Rows
end Go.Proofs.Ytelammmgcfmlbaa
